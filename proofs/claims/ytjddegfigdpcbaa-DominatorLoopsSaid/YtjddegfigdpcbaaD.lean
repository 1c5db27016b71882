/- The search of dominators: visit, the next points of both graphs. -/
import Derived.Test.YtjddegfigdpcbaaB
import Derived.Test.YtjddegfigdpcbaaC
import Derived.Deep.LoopGhost
namespace Go.Proofs.Ytjddegfigdpcbaa
open Go.RowKit

theorem info3 : (Try.prog.info? 3).map (fun i => (i.zero, i.size, i.bytes)) = some (some (.int .i64 0), 1, 8) := by kernel_rfl
theorem info4 : (Try.prog.info? 4).map (fun i => (i.zero, i.size, i.bytes)) = some (some (.bool false), 1, 1) := by kernel_rfl

/-- lists of numbers, one after another -/
def LRow (w : World) (A : Option Addr) (Ls : List (List Int)) : Prop :=
  ∀ i, i < Ls.length → ∃ sb so B c, A = some ⟨sb, so, none⟩ ∧ w.cell? ⟨sb, so + i, none⟩ = some (.slice B (Ls.getD i []).length c) ∧ Row w B (ints (Ls.getD i []))
theorem LRow.below {w w' : World} {A : Option Addr} {Ls : List (List Int)} (hb : Below w.heap.size w w') (h : LRow w A Ls) : LRow w' A Ls := fun i hi => by
  obtain ⟨sb, so, B, c, e, h0, h1⟩ := h i hi
  exact ⟨sb, so, B, c, e, below_cell hb h0, h1.below hb⟩
theorem LRow.nil {w : World} {A : Option Addr} : LRow w A [] := fun i hi => by simp at hi

/-- calling a function value answers the next points -/
def NextOk (W : World) (nf cb : Nat) (G : List (List Int)) : Prop :=
  ∀ i : Nat, i < G.length → ∃ A c, Row W A (ints (G.getD i [])) ∧ ∀ w', Below W.heap.size W w' → Calls Try.prog nf #[.int .i64 i, .pointer (some ⟨cb, 0, none⟩)] w' fun e w'' => e = .returned (.slice A (G.getD i []).length c) ∧ w' = w''
theorem NextOk.below {W W' : World} {nf cb : Nat} {G : List (List Int)} (h : NextOk W nf cb G) (hb : Below W.heap.size W W') : NextOk W' nf cb G := fun i hi => by
  obtain ⟨A, c, h1, h2⟩ := h i hi
  exact ⟨A, c, h1.below hb, fun w' hw => h2 w' (bthen hb hw)⟩

theorem fwd_next {W : World} {pa : Option Addr} {pc cb : Nat} {F : List (List Int)} (hF : FRow W pa F) (hc : W.cell? ⟨cb, 0, none⟩ = some (.slice pa F.length pc)) (hl : F.length ≤ 1000000) : NextOk W 57 cb F := by
  intro i hi
  obtain ⟨sb, so, a, b, B, c, rfl, h0, h1, h2, h3⟩ := hF i hi
  refine ⟨B, c, h3, fun w hb => ?_⟩
  have hc' := below_cell hb hc
  have h2' := below_cell hb h2
  obtain ⟨l, hN⟩ : ∃ l, l = (F.getD i []).length := ⟨_, rfl⟩
  rw [← hN] at h2' ⊢
  have j1 : (0 : Int) ≤ (i : Int) := by omega
  have j2 : (i : Int) < (F.length : Int) := by omega
  clear hc hF hb h0 h1 h2 h3 hN
  go_enter Try.func57, Try.ntmps57
  go_wp2_with fail
  go_ret
  exact ⟨rfl, rfl⟩
theorem bwd_next {W : World} {pa : Option Addr} {pc cb : Nat} {G : List (List Int)} (hG : LRow W pa G) (hc : W.cell? ⟨cb, 0, none⟩ = some (.slice pa G.length pc)) (hl : G.length ≤ 1000000) : NextOk W 58 cb G := by
  intro i hi
  obtain ⟨sb, so, B, c, rfl, h2, h3⟩ := hG i hi
  refine ⟨B, c, h3, fun w hb => ?_⟩
  have hc' := below_cell hb hc
  have h2' := below_cell hb h2
  obtain ⟨l, hN⟩ : ∃ l, l = (G.getD i []).length := ⟨_, rfl⟩
  rw [← hN] at h2' ⊢
  have j1 : (0 : Int) ≤ (i : Int) := by omega
  have j2 : (i : Int) < (G.length : Int) := by omega
  clear hc hG hb hN h2 h3
  go_enter Try.func58, Try.ntmps58
  go_wp2_with fail
  go_ret
  exact ⟨rfl, rfl⟩

structure RSt (w : World) (B wob outb lb rb : Nat) (wo : Int) (Al : Option Addr) (cl : Nat) (ms : List Bool) (st : List Int) : Prop where
  wo : BlkAt w wob 3 [.int .i64 wo]
  out : BlkAt w outb 59 [.slice (some ⟨rb, 0, none⟩) ms.length ms.length]
  l : BlkAt w lb 29 [.slice Al st.length cl]
  marks : MarksAt w rb ms
  own : w.ownsRow B 3 1 (.slice Al st.length cl) st.length (ints st)
  base : wob < B
section
variable {w : World} {B wob outb lb rb : Nat} {wo : Int} {Al : Option Addr} {cl : Nat} {ms : List Bool} {st : List Int}
theorem RSt.below (h : RSt w B wob outb lb rb wo Al cl ms st) {w' : World} (hb : Below w.heap.size w w') : RSt w' B wob outb lb rb wo Al cl ms st :=
  ⟨h.wo.below hb, h.out.below hb, h.l.below hb, BlkAt.below h.marks hb, own_below h.own hb, h.base⟩
theorem RSt.mark (h : RSt w B wob outb lb rb wo Al cl ms st) (j : Nat) : RSt (w.setCell ⟨rb, j, none⟩ (.bool true)) B wob outb lb rb wo Al cl (ms.set j true) st := by
  refine ⟨h.wo.far (h.wo.ne h.marks (by decide)) _ _, ?_, h.l.far (h.l.ne h.marks (by decide)) _ _, h.marks.set j true, own_setCell h.own (BlkAt.ne_own h.marks h.own (by decide)), h.base⟩
  rw [List.length_set]
  exact h.out.far (h.out.ne h.marks (by decide)) _ _
theorem RSt.wo_own (h : RSt w B wob outb lb rb wo Al cl ms st) : some wob ≠ (Value.slice Al st.length cl).ownBlock := fun e => by
  have := (h.own.lt wob e.symm).1; have := h.base; omega
theorem RSt.push (h : RSt w B wob outb lb rb wo Al cl ms st) {w4 : World} {A4 : Option Addr} {c4 : Nat} {x : Int}
    (hown : w4.ownsRow B 3 1 (.slice A4 (st.length + 1) c4) (st.length + 1) (ints st ++ [.int .i64 x])) (hg : w.grownBy w4 (Value.slice Al st.length cl).ownBlock) :
    RSt (w4.setCell ⟨lb, 0, none⟩ (.slice A4 (st.length + 1) c4)) B wob outb lb rb wo A4 c4 ms (st ++ [x]) := by
  have l4 := h.l.grown hg (BlkAt.ne_own h.l h.own (by decide))
  have hl : (st ++ [x]).length = st.length + 1 := by simp
  have w4' := h.wo.grown hg h.wo_own
  have o4 := h.out.grown hg (BlkAt.ne_own h.out h.own (by decide))
  have m4 := BlkAt.grown h.marks hg (BlkAt.ne_own h.marks h.own (by decide))
  refine ⟨w4'.far (w4'.ne l4 (by decide)) _ _, o4.far (o4.ne l4 (by decide)) _ _, ?_, BlkAt.far m4 (m4.ne l4 (by decide)) _ _, ?_, h.base⟩
  · rw [hl]; exact l4.set 0 _
  · rw [hl, show ints (st ++ [x]) = ints st ++ [.int .i64 x] from by simp [ints]]
    exact own_setCell hown (BlkAt.ne_own l4 hown (by decide))
end

set_option maxHeartbeats 1000000 in
theorem visit_any {w : World} {B wob outb lb rb : Nat} {wo : Int} {Al : Option Addr} {cl : Nat} {ms : List Bool} {st : List Int} (h : RSt w B wob outb lb rb wo Al cl ms st) (K : Nat) (k1 : K ≤ lb) (k2 : K ≤ rb) (k3 : K ≤ B)
    (x : Nat) (hx : x < ms.length) (hn : ms.length ≤ 1000000) (hs : st.length ≤ 1000000) (hB : B ≤ w.heap.size) :
    Calls Try.prog 60 #[.int .i64 x, .pointer (some ⟨wob, 0, none⟩), .pointer (some ⟨outb, 0, none⟩), .pointer (some ⟨lb, 0, none⟩)] w fun e w' =>
      e = .returned (.tuple #[]) ∧ (∃ A' c', RSt w' B wob outb lb rb wo A' c' (visitF wo (ms, st) x).1 (visitF wo (ms, st) x).2) ∧ Below K w w' := by
  have hw := h.wo.cell 0 _ rfl
  have ho := h.out.cell 0 _ rfl
  have hl := h.l.cell 0 _ rfl
  have hm := h.marks.cell x hx
  have H := hid h
  obtain ⟨b, hb⟩ : ∃ b, b = ms.getD x false := ⟨_, rfl⟩
  rw [← hb] at hm
  have HB := hid hb
  obtain ⟨i0, hi, hz0, hz1, hz2⟩ := info_parts info3
  have j1 : (0 : Int) ≤ (x : Int) := by omega
  have j2 : (x : Int) < (ms.length : Int) := by omega
  by_cases q : (x : Int) = wo
  · have q' : ((x : Int) != wo) = false := by simp [q]
    have hv : visitF wo (ms, st) x = (ms, st) := by unfold visitF; rw [if_neg (fun hc => hc.1 q)]
    rw [hv]
    clear h q hb hv
    go_enter Try.func60, Try.ntmps60
    go_wp2_with fail
    go_end0
    exact ⟨rfl, ⟨Al, cl, H.out⟩, Below.refl _ _⟩
  · have q' : ((x : Int) != wo) = true := by simp [q]
    cases b with
    | true =>
      have hv : visitF wo (ms, st) x = (ms, st) := by unfold visitF; rw [if_neg (fun hc => by have := hc.2; rw [Int.toNat_natCast, ← hb] at this; cases this)]
      rw [hv]
      clear h q hb hv
      go_enter Try.func60, Try.ntmps60
      go_wp2_with fail
      go_end0
      exact ⟨rfl, ⟨Al, cl, H.out⟩, Below.refl _ _⟩
    | false =>
      have hv : visitF wo (ms, st) x = (ms.set x true, st ++ [(x : Int)]) := by unfold visitF; rw [if_pos ⟨q, by rw [Int.toNat_natCast]; exact hb.symm⟩]; rw [Int.toNat_natCast]
      rw [hv]
      have hf := BlkAt.fz h.marks x
      have h1 := h.mark x
      have hl1 := h1.l.cell 0 _ rfl
      have ho1 := h1.out.cell 0 _ rfl
      rw [List.length_set] at ho1
      have H1 := hid h1
      have hlf := h.l.fz 0
      have zb := h.marks.lt
      have zl := h.l.lt
      obtain ⟨w1, hw1⟩ : ∃ w1, w1 = w.setCell ⟨rb, x, none⟩ (.bool true) := ⟨_, rfl⟩
      have hown : ((w.setCell ⟨rb, x, none⟩ (.bool true)).alloc (.cells #[.int .i64 x] 3)).ownsRow B 3 1 (.slice Al st.length cl) st.length (ints st) := World.ownsRow.alloc h1.own _
      have HOWN := hid hown
      have hne := BlkAt.ne_own h1.l h1.own (by decide)
      have HNE := hid hne
      have hlr : lb ≠ rb := h.l.ne h.marks (by decide)
      have hor : outb ≠ rb := h.out.ne h.marks (by decide)
      obtain ⟨sl, hsl⟩ : ∃ sl, sl = st.length := ⟨_, rfl⟩
      have HSL := hid hsl
      rw [← hsl] at hl hl1 hown hs
      have HS := hid hs
      clear h q hb hv h1 hw1 w1 hown hne hsl
      go_enter Try.func60, Try.ntmps60
      go_wp2_with (at_builtin; refine wpList_append_row rfl (.tmp 18) (.tmp 20) 29 rfl B 3 i0 (.int .i64 0) 1 8 Try.underlying29 hi hz0 hz1 hz2 rfl (by decide) (.slice Al sl cl) sl (ints st) rfl (by rw [HSL.out]; exact HOWN.out) (some ⟨w.heap.size, 0, none⟩) 1 1 [.int .i64 x] rfl rfl (fun e => by cases e) (by have := Row.one (w.setCell ⟨rb, x, none⟩ (.bool true)) (.int .i64 x) 3; simpa using this) (ints_one [_]) (by unfold maxLen; omega) (by omega) (by simp; omega) ?_; intro A4 c4 w4 hown4 hgr4 hat4; have l4 := hgr4.cell (show ((w.setCell ⟨rb, x, none⟩ (.bool true)).alloc (.cells #[.int .i64 x] 3)).cell? ⟨lb, 0, none⟩ = some (.slice Al sl cl) from by go_simp) (by rw [HSL.out]; exact HNE.out); have l5 : w4.frozen? ⟨lb, 0, none⟩ = false := ((H1.out.below (below_alloc _ (.cells #[.int .i64 x] 3))).l.grown hgr4 (by rw [HSL.out]; exact HNE.out)).fz 0; have HOWN4 := hid hown4; have HGR4 := hid hgr4; clear hown4 hgr4 hat4)
      go_end0
      have hsl := HSL.out
      subst hsl
      refine ⟨rfl, ⟨A4, c4, (H1.out.below (below_alloc _ (.cells #[.int .i64 x] 3))).push HOWN4.out HGR4.out⟩, ?_⟩
      have b1 : Below K w (w.setCell ⟨rb, x, none⟩ (.bool true)) := (Below.refl _ _).setCell (p := ⟨rb, x, none⟩) k2 _
      have b2 := b1.alloc (by simp; omega) (.cells #[.int .i64 (x : Int)] 3)
      exact (b2.grown HGR4.out (by simp; omega) (fun j hj => Nat.le_trans k3 (HOWN.out.lt j hj).1)).setCell (p := ⟨lb, 0, none⟩) k1 _
end Go.Proofs.Ytjddegfigdpcbaa
