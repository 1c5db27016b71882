/- Words for Loops: which edges lead back, the rows of loops, a step of the map. -/
import Derived.Test.YtjddegfigdpcbaaP
namespace Go.Proofs.Ytjddegfigdpcbaa
open Go.RowKit

theorem MpI.ne_own {w : World} {B mb : Nat} {ks : List Nat} {vs : List (Option Addr × Nat)} {bs : List (List Int)} (h : MpI w B mb ks vs bs) (j : Nat) (hj : j < bs.length) : some mb ≠ (sval vs bs j).ownBlock := fun e => by
  rcases (h.own.own j hj).2 with ⟨h1, _⟩ | ⟨g, cap, cur, h1, _, hh, _⟩
  · rw [h1] at e; cases e
  · rw [h1] at e; injection e with e; subst e; rw [h.map] at hh; cases hh
theorem MpI.step_old {w : World} {B mb : Nat} {ks : List Nat} {vs : List (Option Addr × Nat)} {bs : List (List Int)} (h : MpI w B mb ks vs bs) (k i : Nat) (hp : posI ks k 0 = some i) {w4 : World} {A4 : Option Addr} {c4 : Nat} {x : Int}
    (hown : w4.ownsRow B 3 1 (.slice A4 ((bs.getD i []).length + 1) c4) ((bs.getD i []).length + 1) (ints (bs.getD i []) ++ [.int .i64 x])) (hg : w.grownBy w4 (sval vs bs i).ownBlock)
    (hat : (Value.slice A4 ((bs.getD i []).length + 1) c4).ownBlock = (sval vs bs i).ownBlock ∨ (Value.slice A4 ((bs.getD i []).length + 1) c4).ownBlock = some w.heap.size) :
    ∃ w5, (Instr.mapUpdate 66 (.map (some mb)) (.int .i64 (k : Int)) (.slice A4 ((bs.getD i []).length + 1) c4)).run Try.prog w4 = .ok () w5 ∧ (∃ vs', MpI w5 B mb ks vs' (bs.set i (bs.getD i [] ++ [x]))) ∧ w4.grownBy w5 (some mb) := by
  obtain ⟨_, hi, _⟩ := posI_some ks k 0 i hp
  simp only [Nat.sub_zero] at hi
  have hil : i < bs.length := by rw [h.len]; exact hi
  obtain ⟨w5, h1, h2, h3⟩ := h.upd_old k i hp (hg.block mb h.lt (h.ne_own i hil)) (h.own.push i hil hown hg hat)
  exact ⟨w5, h1, ⟨_, h2⟩, h3⟩
theorem MpI.step_new {w : World} {B mb : Nat} {ks : List Nat} {vs : List (Option Addr × Nat)} {bs : List (List Int)} (h : MpI w B mb ks vs bs) (k : Nat) (hp : posI ks k 0 = none) {w4 : World} {A4 : Option Addr} {c4 : Nat} {x : Int}
    (hown : w4.ownsRow B 3 1 (.slice A4 1 c4) 1 (ints [x])) (hg : w.grownBy w4 none) (hat : (Value.slice A4 1 c4).ownBlock = none ∨ (Value.slice A4 1 c4).ownBlock = some w.heap.size) :
    ∃ w5, (Instr.mapUpdate 66 (.map (some mb)) (.int .i64 (k : Int)) (.slice A4 1 c4)).run Try.prog w4 = .ok () w5 ∧ (∃ vs', MpI w5 B mb (ks ++ [k]) vs' (bs ++ [[x]])) ∧ w4.grownBy w5 (some mb) := by
  obtain ⟨w5, h1, h2, h3⟩ := h.upd_new k hp hg hown hat
  exact ⟨w5, h1, ⟨_, h2⟩, h3⟩
/-- what a look-up answers -/
theorem MpI.read {w : World} {B mb : Nat} {ks : List Nat} {vs : List (Option Addr × Nat)} {bs : List (List Int)} (h : MpI w B mb ks vs bs) (k : Nat) :
    ∃ A c, ((posI ks k 0).map (sval vs bs)).getD (.slice none 0 0) = .slice A (getS ks bs k).length c ∧ Row w A (ints (getS ks bs k)) := by
  unfold getS
  cases hp : posI ks k 0 with
  | none => exact ⟨none, 0, rfl, Row.nil⟩
  | some i =>
    obtain ⟨_, hi, _⟩ := posI_some ks k 0 i hp
    simp only [Nat.sub_zero] at hi
    exact ⟨_, _, rfl, Row.of_own (h.own.own i (by rw [h.len]; exact hi))⟩

/-! edges -/
def edgesF (F : List (List Int)) (b : Nat) : List (Nat × Int) := (List.range b).flatMap fun b' => (F.getD b' []).map fun x => (b', x)
def edgesP (F : List (List Int)) (b j : Nat) : List (Nat × Int) := edgesF F b ++ ((F.getD b []).take j).map fun x => (b, x)
theorem edgesP_zero (F : List (List Int)) (b : Nat) : edgesP F b 0 = edgesF F b := by simp [edgesP]
theorem edgesP_next (F : List (List Int)) (b j : Nat) (h : j < (F.getD b []).length) : edgesP F b (j + 1) = edgesP F b j ++ [(b, (F.getD b []).getD j 0)] := by
  unfold edgesP; rw [take_snoc _ 0 j h, List.map_append, List.append_assoc]; rfl
theorem edgesP_full (F : List (List Int)) (b : Nat) : edgesP F b (F.getD b []).length = edgesP F (b + 1) 0 := by
  rw [edgesP_zero]; unfold edgesP edgesF; rw [List.take_length, List.range_succ, List.flatMap_append]; simp
theorem edgesF_le (F : List (List Int)) (hs : ∀ i, i < F.length → (F.getD i []).length ≤ 900) : ∀ b, b ≤ F.length → (edgesF F b).length ≤ 900 * b := by
  intro b
  induction b with
  | zero => intro _; simp [edgesF]
  | succ b ih =>
    intro h
    have h1 := ih (by omega)
    have h2 := hs b (by omega)
    unfold edgesF at *
    rw [List.range_succ, List.flatMap_append, List.length_append]
    simp only [List.flatMap_cons, List.flatMap_nil, List.append_nil, List.length_map]
    omega
theorem edgesP_le (F : List (List Int)) (hs : ∀ i, i < F.length → (F.getD i []).length ≤ 900) (b j : Nat) (h : b ≤ F.length) : (edgesP F b j).length ≤ 900 * b + j := by
  have := edgesF_le F hs b h
  unfold edgesP
  rw [List.length_append, List.length_map, List.length_take]; omega
/-- the points from which edges that count lead to h -/
def srcE (ok : Nat → Nat → Bool) (E : List (Nat × Int)) (h : Nat) : List Int := (E.filter fun e => e.2 == (h : Int) && ok e.1 h).map fun e => (e.1 : Int)
theorem srcE_snoc (ok : Nat → Nat → Bool) (E : List (Nat × Int)) (b p h : Nat) : srcE ok (E ++ [(b, (p : Int))]) h = if h = p ∧ ok b p = true then srcE ok E p ++ [(b : Int)] else srcE ok E h := by
  unfold srcE
  rw [List.filter_append, List.map_append, List.filter_cons, List.filter_nil]
  by_cases hp : h = p
  · subst hp
    by_cases hk : ok b h = true
    · simp [hk]
    · simp [hk]
  · have : ((p : Int) == (h : Int)) = false := by simp; omega
    simp [this, hp]
theorem srcE_le (ok : Nat → Nat → Bool) (E : List (Nat × Int)) (h : Nat) : (srcE ok E h).length ≤ E.length := by
  unfold srcE; rw [List.length_map]; exact List.length_filter_le _ _
theorem edgesF_src (F : List (List Int)) (b : Nat) (e : Nat × Int) (h : e ∈ edgesF F b) : e.1 < b := by
  unfold edgesF at h
  obtain ⟨b', h1, h2⟩ := List.mem_flatMap.1 h
  obtain ⟨x, _, rfl⟩ := List.mem_map.1 h2
  exact List.mem_range.1 h1
theorem srcE_mem (ok : Nat → Nat → Bool) (F : List (List Int)) (n h : Nat) (x : Int) (hx : x ∈ srcE ok (edgesF F n) h) : 0 ≤ x ∧ x < (n : Int) := by
  unfold srcE at hx
  obtain ⟨e, he, rfl⟩ := List.mem_map.1 hx
  have := edgesF_src F n e (List.mem_filter.1 he).1
  omega

/-! the loops -/
def okF (F : List (List Int)) (b h : Nat) : Bool := (reachB F (-1) [((0 : Nat) : Int)]).getD b false && relF F 0 h b
def srcL (F : List (List Int)) (h : Nat) : List Int := srcE (okF F) (edgesF F F.length) h
def inB (F : List (List Int)) (h c : Nat) : Bool := decide (c = h) || ((reachB (revF F) (h : Int) (srcL F h)).getD c false && (reachB F (-1) [((0 : Nat) : Int)]).getD c false)
def bodyP (F : List (List Int)) (h i : Nat) : List Int := ((List.range i).filter (inB F h)).map Int.ofNat
theorem bodyP_snoc (F : List (List Int)) (h i : Nat) : bodyP F h (i + 1) = if inB F h i = true then bodyP F h i ++ [(i : Int)] else bodyP F h i := by
  unfold bodyP; rw [List.range_succ, List.filter_append, List.map_append, List.filter_cons, List.filter_nil]
  split <;> simp
theorem bodyP_le (F : List (List Int)) (h i : Nat) : (bodyP F h i).length ≤ i := by
  unfold bodyP; rw [List.length_map]; exact Nat.le_trans (List.length_filter_le _ _) (by simp)
def loopsP (F : List (List Int)) (h : Nat) : List (Nat × List Int) := ((List.range h).filter fun h' => decide ((srcL F h').length ≠ 0)).map fun h' => (h', bodyP F h' F.length)
theorem loopsP_snoc (F : List (List Int)) (h : Nat) : loopsP F (h + 1) = if (srcL F h).length ≠ 0 then loopsP F h ++ [(h, bodyP F h F.length)] else loopsP F h := by
  unfold loopsP; rw [List.range_succ, List.filter_append, List.map_append, List.filter_cons, List.filter_nil]
  by_cases hc : (srcL F h).length ≠ 0
  · rw [if_pos hc]; simp [hc]
  · rw [if_neg hc]; simp [hc]
theorem loopsP_le (F : List (List Int)) (h : Nat) : (loopsP F h).length ≤ h := by
  unfold loopsP; rw [List.length_map]; exact Nat.le_trans (List.length_filter_le _ _) (by simp)
/-- the loops in plain Lean -/
def loopsL (F : List (List Int)) : List (Nat × List Int) := loopsP F F.length
def LpRow (w : World) (A : Option Addr) (Ls : List (Nat × List Int)) : Prop :=
  ∀ i, i < Ls.length → ∃ sb so B c, A = some ⟨sb, so, none⟩ ∧ w.cell? ⟨sb, so + i * 2, none⟩ = some (.int .i64 ((Ls.getD i (0, [])).1 : Nat)) ∧ w.cell? ⟨sb, so + i * 2 + 1, none⟩ = some (.slice B (Ls.getD i (0, [])).2.length c) ∧ Row w B (ints (Ls.getD i (0, [])).2)
theorem LpRow.below {w w' : World} {A : Option Addr} {Ls : List (Nat × List Int)} (hb : Below w.heap.size w w') (h : LpRow w A Ls) : LpRow w' A Ls := fun i hi => by
  obtain ⟨sb, so, B, c, e, h0, h1, h2⟩ := h i hi
  exact ⟨sb, so, B, c, e, below_cell hb h0, below_cell hb h1, h2.below hb⟩
theorem LpRow.nil {w : World} {A : Option Addr} : LpRow w A [] := fun i hi => by simp at hi
def bval (Ls : List (Nat × List Int)) (vs : List (Option Addr × Nat)) (k : Nat) : Value := .slice (vs.getD k (none, 0)).1 (Ls.getD k (0, [])).2.length (vs.getD k (none, 0)).2
def lcells (Ls : List (Nat × List Int)) (vs : List (Option Addr × Nat)) : List Value := (List.range Ls.length).flatMap fun k => [.int .i64 ((Ls.getD k (0, [])).1 : Nat), bval Ls vs k]
theorem two_flat (f g : Nat → Value) : ∀ n k, k < n → ((List.range n).flatMap fun k => [f k, g k])[2 * k]? = some (f k) ∧ ((List.range n).flatMap fun k => [f k, g k])[2 * k + 1]? = some (g k) := by
  intro n
  induction n with
  | zero => intro k h; omega
  | succ n ih =>
    intro k h
    have hl : ((List.range n).flatMap fun k => [f k, g k]).length = 2 * n := by
      clear ih h
      induction n with
      | zero => rfl
      | succ n ih => rw [List.range_succ, List.flatMap_append, List.length_append, ih]; simp; omega
    rw [List.range_succ, List.flatMap_append]
    by_cases hk : k < n
    · rw [List.getElem?_append_left (by omega), List.getElem?_append_left (by omega)]
      exact ih k hk
    · obtain rfl : k = n := by omega
      rw [List.getElem?_append_right (by omega), List.getElem?_append_right (by omega), hl]
      simp [show 2 * k + 1 - 2 * k = 1 from by omega]
structure LpSt (w : World) (B : Nat) (A : Option Addr) (c : Nat) (Ls : List (Nat × List Int)) (vs : List (Option Addr × Nat)) : Prop where
  len : vs.length = Ls.length
  row : w.ownsRow B 47 2 (.slice A Ls.length c) Ls.length (lcells Ls vs)
  own : ∀ k, k < Ls.length → w.ownsRow B 3 1 (bval Ls vs k) (Ls.getD k (0, [])).2.length (ints (Ls.getD k (0, [])).2)
section
variable {w : World} {B c : Nat} {A : Option Addr} {Ls : List (Nat × List Int)} {vs : List (Option Addr × Nat)}
theorem LpSt.below (h : LpSt w B A c Ls vs) {w' : World} (hb : Below w.heap.size w w') : LpSt w' B A c Ls vs := ⟨h.len, own_below h.row hb, fun k hk => own_below (h.own k hk) hb⟩
theorem LpSt.lrow (h : LpSt w B A c Ls vs) : LpRow w A Ls := fun i hi => by
  obtain ⟨g, cap, hv, _, _⟩ := h.row.form (by omega)
  injection hv with h1 _ h3
  subst h1
  have ht := two_flat (fun k => .int .i64 ((Ls.getD k (0, [])).1 : Nat)) (bval Ls vs) Ls.length i hi
  have e0 := h.row.cellAt (2 * i) (by omega)
  have e1 := h.row.cellAt (2 * i + 1) (by omega)
  unfold lcells at e0 e1
  rw [ht.1] at e0; rw [ht.2] at e1
  refine ⟨g, 0, (vs.getD i (none, 0)).1, (vs.getD i (none, 0)).2, rfl, ?_, ?_, Row.of_own (h.own i hi)⟩
  · rw [Nat.zero_add, Nat.mul_comm]; exact e0
  · rw [Nat.zero_add, Nat.mul_comm]; exact e1
/-- a loop is put at the end -/
theorem LpSt.push (h : LpSt w B A c Ls vs) {w4 : World} {A4 Ab : Option Addr} {c4 cb hd : Nat} {body : List Int}
    (hown : w4.ownsRow B 47 2 (.slice A4 (Ls.length + 1) c4) (Ls.length + 1) (lcells Ls vs ++ [.int .i64 (hd : Int), .slice Ab body.length cb])) (hg : w.grownBy w4 (Value.slice A Ls.length c).ownBlock)
    (hb : w.ownsRow B 3 1 (.slice Ab body.length cb) body.length (ints body)) : LpSt w4 B A4 c4 (Ls ++ [(hd, body)]) (vs ++ [(Ab, cb)]) := by
  have hl := h.len
  have hold : ∀ k, k < Ls.length → bval (Ls ++ [(hd, body)]) (vs ++ [(Ab, cb)]) k = bval Ls vs k := fun k hk => by unfold bval; rw [getD_append_old _ _ _ _ hk, getD_append_old _ _ _ _ (by omega)]
  have hnew : bval (Ls ++ [(hd, body)]) (vs ++ [(Ab, cb)]) Ls.length = .slice Ab body.length cb := by
    unfold bval; rw [getD_append_new]
    have := getD_append_new vs (Ab, cb) (none, 0)
    rw [hl] at this; rw [this]
  refine ⟨by simp [hl], ?_, fun k hk => ?_⟩
  · rw [List.length_append, List.length_singleton]
    have : lcells (Ls ++ [(hd, body)]) (vs ++ [(Ab, cb)]) = lcells Ls vs ++ [.int .i64 (hd : Int), .slice Ab body.length cb] := by
      unfold lcells
      rw [List.length_append, List.length_singleton, List.range_succ, List.flatMap_append]
      congr 1
      · rw [List.flatMap_def, List.flatMap_def]
        congr 1
        refine List.map_congr_left fun k hk => ?_
        have hk := List.mem_range.1 hk
        rw [hold k hk, getD_append_old _ _ _ _ hk]
      · simp only [List.flatMap_cons, List.flatMap_nil, List.append_nil, hnew]
        rw [getD_append_new]
    rw [this]; exact hown
  · rw [List.length_append, List.length_singleton] at hk
    by_cases hkl : k < Ls.length
    · rw [hold k hkl, getD_append_old _ _ _ _ hkl]
      exact (h.own k hkl).kept hg (own_ne_own (h.own k hkl) h.row (by decide))
    · obtain rfl : k = Ls.length := by omega
      rw [hnew, getD_append_new]
      exact hb.kept hg (own_ne_own hb h.row (by decide))
end
def GivesLoops (w : World) (Ls : List (Nat × List Int)) (e : Ending) (w' : World) : Prop := ∃ A c, e = .returned (.slice A Ls.length c) ∧ LpRow w' A Ls ∧ Below w.heap.size w w'
theorem info47 : (Try.prog.info? 47).map (fun i => (i.zero, i.size, i.bytes)) = some (some (.agg #[.int .i64 0, .slice none 0 0]), 2, 32) := by kernel_rfl
end Go.Proofs.Ytjddegfigdpcbaa
