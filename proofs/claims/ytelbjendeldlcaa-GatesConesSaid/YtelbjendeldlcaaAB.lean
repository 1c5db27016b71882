/- The reference builder: New, Input; append onto a slice without room. -/
import Derived.Test.YtelbjendeldlcaaX
import Derived.ArgAppend
import Derived.Deep.QuietTactic
import Derived.BigQuiet
namespace Go.Proofs.Ytelbjendeldlcaa
open Go.RowKit
variable {Z : Nat → Prop}

/-- a row of pairs, in a block of pairs -/
structure RRow (Z : Nat → Prop) (w : World) (A : Option Addr) (cs : List Value) : Prop where
  row : Row w A cs
  ty : ∀ a, A = some a → ∃ c fz, w.heap[a.block]? = some (.cells c 69 fz)
  z : ∀ a, A = some a → Z a.block
theorem RRow.below {w w' : World} {A : Option Addr} {cs : List Value} (hb : Below w.heap.size w w') (h : RRow Z w A cs) : RRow Z w' A cs :=
  ⟨h.row.below hb, fun a ha => by
    obtain ⟨c, fz, hc⟩ := h.ty a ha
    exact ⟨c, fz, (hb.block _ (Array.getElem?_eq_some_iff.1 hc).1).trans hc⟩, h.z⟩
theorem RRow.nil {w : World} : RRow Z w none [] := ⟨Row.nil, fun a ha => (by cases ha), fun a ha => (by cases ha)⟩
theorem RRow.gate {w : World} {A : Option Addr} {G : List (Int × Int)} (h : RRow Z w A (gcells G)) (k : Nat) (hk : k < G.length) :
    ∃ sb so, A = some ⟨sb, so, none⟩ ∧ w.cell? ⟨sb, so + k * 2, none⟩ = some (.int .i64 (G.getD k (0, 0)).1) ∧ w.cell? ⟨sb, so + k * 2 + 1, none⟩ = some (.int .i64 (G.getD k (0, 0)).2) := h.row.gate k hk
theorem RRow.of_own {w : World} {base : Nat} {A : Option Addr} {n c : Nat} {xs : List Value} (hZ : ∀ b, base ≤ b → Z b) (h : w.ownsRow base 69 2 (.slice A n c) n xs) : RRow Z w A xs :=
  ⟨Row.of_own h, fun a ha => by
    subst ha
    rcases h.2 with ⟨he, _⟩ | ⟨g, cap, cur, he, _, hh, _⟩
    · cases he
    · injection he with he; injection he with he; subst he; exact ⟨_, _, hh⟩, fun a ha => by
    subst ha
    rcases h.2 with ⟨he, _⟩ | ⟨g, cap, cur, he, hg, _⟩
    · cases he
    · injection he with he; injection he with he; subst he; exact hZ _ hg⟩
/-- a block of builders -/
def BB (w : World) (b : Nat) : Prop := ∃ c fz, w.heap[b]? = some (.cells c 52 fz)
theorem BB.below {w w' : World} {b : Nat} (hb : Below w.heap.size w w') (h : BB w b) : BB w' b := by
  obtain ⟨c, fz, hc⟩ := h
  exact ⟨c, fz, (hb.block _ (Array.getElem?_eq_some_iff.1 hc).1).trans hc⟩
theorem setCell_heap_ne (w : World) (b j : Nat) (u : Value) (k : Nat) (h : k ≠ b) : (w.setCell ⟨b, j, none⟩ u).heap[k]? = w.heap[k]? := by
  simp [World.setCell, Array.getElem?_modify, Ne.symm h]
theorem setCell_heap_eq {w : World} {b : Nat} (j : Nat) (u : Value) (h : BB w b) : BB (w.setCell ⟨b, j, none⟩ u) b := by
  obtain ⟨c, fz, hc⟩ := h
  refine ⟨c.setIfInBounds j u, fz, ?_⟩
  simp [World.setCell, Array.getElem?_modify, hc]
theorem BB.set {w : World} {b b' : Nat} (j : Nat) (u : Value) (h : BB w b) (h' : BB w b') : BB (w.setCell ⟨b, j, none⟩ u) b' := by
  by_cases e : b' = b
  · subst e; exact setCell_heap_eq j u h
  · obtain ⟨c, fz, hc⟩ := h'
    exact ⟨c, fz, (setCell_heap_ne w b j u b' e).trans hc⟩
theorem RRow.set {w : World} {A : Option Addr} {cs : List Value} {b : Nat} (j : Nat) (u : Value) (h : RRow Z w A cs) (hb : BB w b) : RRow Z (w.setCell ⟨b, j, none⟩ u) A cs := by
  have hne : ∀ a, A = some a → a.block ≠ b := fun a ha e => by
    obtain ⟨c, fz, hc⟩ := h.ty a ha
    obtain ⟨c', fz', hc'⟩ := hb
    rw [e, hc'] at hc; cases hc
  refine ⟨fun i hi => ?_, fun a ha => ?_, h.z⟩
  · obtain ⟨sb, so, rfl, hc⟩ := h.row i hi
    refine ⟨sb, so, rfl, ?_⟩
    have := hne _ rfl
    exact (World.cell?_setCell_other w _ _ u (fun e => this (by injection e with e1; exact e1.symm))).trans hc
  · obtain ⟨c, fz, hc⟩ := h.ty a ha
    exact ⟨c, fz, (setCell_heap_ne w b j u _ (hne a ha)).trans hc⟩
/-- the value of a reference builder -/
def RB (Z : Nat → Prop) (w : World) (s : PB) (v : Value) : Prop := ∃ B d, v = .agg #[.int .i64 s.n, .slice B s.G.length d, .int .i64 s.er] ∧ RRow Z w B (gcells s.G) ∧ ((s.G = [] → B = none ∧ d = 0) ∧ s.G.length ≤ d)
def RPost (Z : Nat → Prop) (w : World) (r : PB × Int) (e : Ending) (w' : World) : Prop := ∃ v, e = .returned (.tuple #[v, .int .i64 r.2]) ∧ RB Z w' r.1 v ∧ Below w.heap.size w w'
theorem RB.below {w w' : World} {s : PB} {v : Value} (hb : Below w.heap.size w w') (h : RB Z w s v) : RB Z w' s v := by
  obtain ⟨B, d, e, hr, hn⟩ := h; exact ⟨B, d, e, hr.below hb, hn⟩

set_option maxHeartbeats 400000 in
theorem rnew_yes (n : Int) (w : World) (h : 0 ≤ n) (h' : n ≤ 1024) : Calls Try.prog 24 #[.int .i64 n] w fun e w' => RPost Z w (⟨n, [], 0⟩, 0) e w' := by
  go_enter Try.func24, Try.ntmps24
  go_wp2
  refine bodyPost_ret (v := .tuple #[.agg #[.int .i64 n, .slice none 0 0, .int .i64 0], .int .i64 0]) (by simp [results, Try.results24, go_sem]) rfl ⟨_, rfl, ⟨none, 0, rfl, RRow.nil, ⟨fun _ => ⟨rfl, rfl⟩, Nat.zero_le _⟩⟩, below_alloc _ _⟩
set_option maxHeartbeats 400000 in
theorem rnew_no (n : Int) (w : World) (h : n < 0 ∨ 1024 < n) : Calls Try.prog 24 #[.int .i64 n] w fun e w' => e = .returned (.tuple #[.agg #[.int .i64 0, .slice none 0 0, .int .i64 0], .int .i64 1]) ∧ Below w.heap.size w w' := by
  rcases h with h | h
  · go_enter Try.func24, Try.ntmps24
    go_wp2
    exact bodyPost_ret (v := .tuple #[.agg #[.int .i64 0, .slice none 0 0, .int .i64 0], .int .i64 1]) (by simp [results, Try.results24, go_sem]) rfl ⟨rfl, below_alloc _ _⟩
  · have h0 : decide (n < 0) = false := by simp; omega
    go_enter Try.func24, Try.ntmps24
    go_wp2
    exact bodyPost_ret (v := .tuple #[.agg #[.int .i64 0, .slice none 0 0, .int .i64 0], .int .i64 1]) (by simp [results, Try.results24, go_sem]) rfl ⟨rfl, below_alloc _ _⟩

theorem b2 (w : World) (o1 o2 : Obj) : Below w.heap.size w ((w.alloc o1).alloc o2) := bthen (below_alloc _ _) (below_alloc _ _)
set_option maxHeartbeats 400000 in
theorem rinput_any {w : World} {s : PB} {v : Value} (hv : RB Z w s v) (hok : s.Ok) (i : Int) : Calls Try.prog 45 #[v, .int .i64 i] w fun e w' => RPost Z w (s.inp i) e w' := by
  obtain ⟨B, d, rfl, hr, hn⟩ := hv
  have hlo := hok.lo; have hhi := hok.hi
  have HR := hid hr; have HN := hid hn; clear hr hn hok
  by_cases h0 : (s.er != 0) = true
  · have hs : s.inp i = (s, 0) := by unfold PB.inp; rw [if_pos (by simpa using h0)]
    have HS := hid hs; clear hs
    go_enter Try.func45, Try.ntmps45
    go_wp2
    refine bodyPost_ret (v := .tuple #[.agg #[.int .i64 s.n, .slice B s.G.length d, .int .i64 s.er], .int .i64 0]) (by simp [results, Try.results45, go_sem]) rfl ?_
    rw [HS.out]
    exact ⟨_, rfl, ⟨B, d, rfl, HR.out.below (b2 _ _ _), HN.out⟩, b2 _ _ _⟩
  have h0' : (s.er != 0) = false := by simpa using h0
  have hz : s.er = 0 := by simpa using h0
  have HZ := hid hz; clear hz h0
  by_cases h1 : i < 0 ∨ s.n ≤ i
  · have hs : s.inp i = ({ s with er := 1 }, 0) := by unfold PB.inp; rw [if_neg (by simpa using HZ.out), if_pos h1]
    have HS := hid hs; clear hs
    by_cases h2 : i < 0
    · clear h1
      go_enter Try.func45, Try.ntmps45
      go_wp2
      refine bodyPost_ret (v := .tuple #[.agg #[.int .i64 s.n, .slice B s.G.length d, .int .i64 1], .int .i64 0]) (by simp [results, Try.results45, go_sem]) rfl ?_
      rw [HS.out]
      exact ⟨_, rfl, ⟨B, d, rfl, HR.out.below (b2 _ _ _), HN.out⟩, b2 _ _ _⟩
    · have h3 : s.n ≤ i := by omega
      have h2' : decide (i < 0) = false := by simp; omega
      clear h1 h2
      go_enter Try.func45, Try.ntmps45
      go_wp2
      refine bodyPost_ret (v := .tuple #[.agg #[.int .i64 s.n, .slice B s.G.length d, .int .i64 1], .int .i64 0]) (by simp [results, Try.results45, go_sem]) rfl ?_
      rw [HS.out]
      exact ⟨_, rfl, ⟨B, d, rfl, HR.out.below (b2 _ _ _), HN.out⟩, b2 _ _ _⟩
  · have hs : s.inp i = (s, 2 * (i + 1)) := by unfold PB.inp; rw [if_neg (by simpa using HZ.out), if_neg h1]
    have h2' : decide (i < 0) = false := by simp; omega
    have h3' : decide (s.n ≤ i) = false := by simp; omega
    have h4 : 0 ≤ i ∧ i < 1024 := by omega
    obtain ⟨h4, h5⟩ := h4
    have HS := hid hs; clear hs h1
    go_enter Try.func45, Try.ntmps45
    go_wp2
    refine bodyPost_ret (v := .tuple #[.agg #[.int .i64 s.n, .slice B s.G.length d, .int .i64 s.er], .int .i64 (2 * (i + 1))]) (by simp [results, Try.results45, go_sem]) rfl ?_
    rw [HS.out]
    exact ⟨_, rfl, ⟨B, d, rfl, HR.out.below (b2 _ _ _), HN.out⟩, b2 _ _ _⟩

section
variable {P : Program}
theorem row_cells {w : World} {b off : Nat} {xs : List Value} (h : Row w (some ⟨b, off, none⟩) xs) : ∀ j u, xs[j]? = some u → w.cell? ((⟨b, off, none⟩ : Addr).add j) = some u := by
  intro j u hj
  have hl : j < xs.length := (List.getElem?_eq_some_iff.1 hj).1
  rw [Addr.add_lit, h.cell j hl, List.getD_eq_getElem?_getD, hj]; rfl
/-- append onto a slice whose length is its capacity -/
theorem wp_append_full {o : Oper} {a : Act} {w : World} {K : Act → World → Prop} {Q : Exit → Act → World → Prop} (s x : Operand) (t : TypeId)
    (ho : o.op = .call { callee := .builtin .append, args := #[s, x], argTypes := #[t, t] })
    (e : TypeId) (i : TypeInfo) (z : Value) (size bytes : Nat) (ht : P.underlying t = some (.slice e)) (hi : P.info? e = some i) (hz : i.zero = some z)
    (hsize : i.size = size) (hby : i.bytes = bytes) (hzs : z.cells.size = size) (hsz : 0 < size)
    (A : Option Addr) (n : Nat) (xs : List Value) (hs : a.eval s = .slice A n n) (hl0 : xs.length = n * size) (hrow : Row w A xs) (hnil : n = 0 → A = none)
    (ad : Addr) (m c : Nat) (news : List Value) (hx : a.eval x = .slice (some ad) m c) (hm : 0 < m) (hl : news.length = m * size) (hnews : ∀ j u, news[j]? = some u → w.cell? (ad.add j) = some u) (h1 : ∀ u ∈ news, u.oneCell' = true)
    (h63 : n + m ≤ maxLen) (hbytes : (n + m) * bytes ≤ 140737488355328)
    (h : ∀ A' c' w', w'.ownsRow w.heap.size e size (.slice A' (n + m) c') (n + m) (xs ++ news) → Below w.heap.size w w' → K (a.put o.dst (.slice A' (n + m) c')) w') :
    Oper.wp P o a w K Q := by
  have key : ∃ v' w', (Builtin.append_ #[t, t] o.type #[.slice A n n, .slice (some ad) m c]).run P w = .ok v' w' ∧ w'.ownsRow w.heap.size e size v' (n + m) (xs ++ news) ∧ w.grownBy w' none := by
    by_cases hn : n = 0
    · obtain rfl := hnil hn
      subst hn
      have hx0 : xs = [] := List.eq_nil_of_length_eq_zero (by simpa using hl0)
      subst hx0
      obtain ⟨v', w', hr, h2, h3, _, _⟩ := run_append_own_at (P := P) w w.heap.size t o.type e i z size bytes ht hi hz hsize hby hzs hsz (.slice none 0 0) 0 [] (World.ownsRow_nil _ _ _ _) ad m c news hl hnews h1 h63 hbytes (Nat.le_refl _)
      exact ⟨v', w', hr, h2, h3⟩
    · have hj : 0 < xs.length := by rw [hl0]; exact Nat.mul_pos (Nat.pos_of_ne_zero hn) hsz
      obtain ⟨b, off, rfl, _⟩ := hrow 0 hj
      exact run_append_arg_grows (P := P) w t o.type e i z size bytes ht hi hz hsize hby hzs hsz ⟨b, off, none⟩ n n xs hl0 (row_cells hrow) ad m c news hl hnews (by omega) h63 hbytes
  obtain ⟨v', w', hr, h2, h3⟩ := key
  obtain ⟨A', c', rfl⟩ := own_shape h2
  have hb : Below w.heap.size w w' := ⟨h3.os, h3.tape, h3.output, h3.size, fun k hk => h3.block k hk (by simp)⟩
  unfold Oper.wp execOp
  simp only [ho, resolve, invoke, builtin, Sem.run_bind, Sem.run_pure, Result.andThen_ok, List.map_toArray, List.map_cons, List.map_nil, hs, hx, hr]
  exact h A' c' w' h2 hb
end
end Go.Proofs.Ytelbjendeldlcaa
