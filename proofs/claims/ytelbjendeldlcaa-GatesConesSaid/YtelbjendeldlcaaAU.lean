/- The state of the reference Cone's walk: as AS, but where nodes go is a slice that grows. -/
import Derived.Test.YtelbjendeldlcaaAT
import Derived.Deep.AppendLies
namespace Go.Proofs.Ytelbjendeldlcaa
open Go.RowKit

theorem own_ne_own {w : World} {B B' n n' : Nat} {e e' : TypeId} {s s' : Nat} {v v' : Value} {xs xs' : List Value} (h : w.ownsRow B e s v n xs) (h' : w.ownsRow B' e' s' v' n' xs') (hne : e ≠ e') : v.ownBlock = none ∨ v.ownBlock ≠ v'.ownBlock := by
  rcases h.2 with ⟨rfl, rfl⟩ | ⟨g, cap, cur, rfl, _, hh, _⟩
  · left; rfl
  · right
    exact own_ne_block h' hh hne
structure CSt2 (w : World) (B ob mb m : Nat) (A : Option Addr) (c : Nat) (H : List (Int × Int)) (ms : List Bool) (Am : Option Addr) (cm : Nat) (T : List Int) : Prop where
  row : w.heap[ob]? = some (.cells #[.int .i64 m, .slice A H.length c] 24 (0, 0))
  own : w.ownsRow B 69 2 (.slice A H.length c) H.length (gcells H)
  marks : MarksAt w mb ms
  tos : w.ownsRow B 3 1 (.slice Am T.length cm) T.length (ints T)
section
variable {w : World} {B ob mb m c cm : Nat} {A Am : Option Addr} {H : List (Int × Int)} {ms : List Bool} {T : List Int}
theorem CSt2.lt (h : CSt2 w B ob mb m A c H ms Am cm T) : ob < w.heap.size := (Array.getElem?_eq_some_iff.1 h.row).1
theorem CSt2.below (h : CSt2 w B ob mb m A c H ms Am cm T) {w' : World} (hb : Below w.heap.size w w') : CSt2 w' B ob mb m A c H ms Am cm T :=
  ⟨(hb.block ob h.lt).trans h.row, own_below h.own hb, h.marks.below hb, own_below h.tos hb⟩
theorem CSt2.ne_om (h : CSt2 w B ob mb m A c H ms Am cm T) : ob ≠ mb := by
  intro e; have h1 := h.row; have h2 := h.marks; unfold MarksAt at h2; rw [e, h2] at h1
  injection h1 with h1; injection h1 with _ h1; cases h1
/-- a number is put at the end -/
theorem CSt2.pushT (h : CSt2 w B ob mb m A c H ms Am cm T) {w4 : World} {A4 : Option Addr} {c4 : Nat} {x : Int}
    (hown : w4.ownsRow B 3 1 (.slice A4 (T.length + 1) c4) (T.length + 1) (ints T ++ [.int .i64 x])) (hg : w.grownBy w4 (Value.slice Am T.length cm).ownBlock) :
    CSt2 w4 B ob mb m A c H ms A4 c4 (T ++ [x]) := by
  refine ⟨(hg.block ob h.lt (own_ne_block h.tos h.row (by decide))).trans h.row, h.own.kept hg (own_ne_own h.own h.tos (by decide)), (hg.block mb h.marks.lt (own_ne_block h.tos h.marks (by decide))).trans h.marks, ?_⟩
  rw [show (T ++ [x]).length = T.length + 1 from by simp, show ints (T ++ [x]) = ints T ++ [.int .i64 x] from by simp [ints]]
  exact hown
theorem CSt2.form (h : CSt2 w B ob mb m A c H ms Am cm T) (hT : 0 < T.length) : ∃ g, Am = some ⟨g, 0, none⟩ ∧ B ≤ g ∧ g < w.heap.size := by
  obtain ⟨g, cap, hv, h1, h2⟩ := h.tos.form hT
  injection hv with hv _ _
  exact ⟨g, hv, h1, h2⟩
/-- a number is put at a place -/
theorem CSt2.setT {g : Nat} (h : CSt2 w B ob mb m A c H ms (some ⟨g, 0, none⟩) cm T) (j : Nat) (x : Int) :
    CSt2 (w.setCell ⟨g, j, none⟩ (.int .i64 x)) B ob mb m A c H ms (some ⟨g, 0, none⟩) cm (T.set j x) := by
  have hb : (Value.slice (some ⟨g, 0, none⟩) T.length cm).ownBlock = some g := rfl
  have h1 := own_ne_block h.tos h.row (by decide)
  have h2 := own_ne_block h.tos h.marks (by decide)
  rw [hb] at h1 h2
  have ho : some g ≠ (Value.slice A H.length c).ownBlock := by
    rcases own_ne_own h.own h.tos (by decide) with h3 | h3
    · rw [h3]; intro e; cases e
    · rw [hb] at h3; exact h3.symm
  refine ⟨(Below.heap_setCell _ _ _ _ (fun e => h1 (by rw [e]))).trans h.row, own_setCell h.own ho, (Below.heap_setCell _ _ _ _ (fun e => h2 (by rw [e]))).trans h.marks, ?_⟩
  have := (h.tos.stored j (.int .i64 x)).1
  rw [List.length_set, show ints (T.set j x) = (ints T).set j (.int .i64 x) from by simp [ints, List.map_set]]
  exact this
theorem CSt2.cell {g : Nat} (h : CSt2 w B ob mb m A c H ms (some ⟨g, 0, none⟩) cm T) (j : Nat) (hj : j < T.length) : w.cell? ⟨g, j, none⟩ = some (.int .i64 (T.getD j 0)) := by
  rw [h.tos.cellAt j (by omega)]
  simp [ints, List.getD_eq_getElem?_getD, hj]
theorem CSt2.fz {g : Nat} (h : CSt2 w B ob mb m A c H ms (some ⟨g, 0, none⟩) cm T) (j : Nat) : w.frozen? ⟨g, j, none⟩ = false := h.tos.frozenAt j
theorem CSt2.push (h : CSt2 w B ob mb m A c H ms Am cm T) {w4 : World} {A4 : Option Addr} {c4 : Nat} {x y : Int}
    (hown : w4.ownsRow B 69 2 (.slice A4 (H.length + 1) c4) (H.length + 1) (gcells H ++ [.int .i64 x, .int .i64 y])) (hg : w.grownBy w4 (Value.slice A H.length c).ownBlock) :
    CSt2 (w4.setCell ⟨ob, 1, none⟩ (.slice A4 (H.length + 1) c4)) B ob mb m A4 c4 (H ++ [(x, y)]) ms Am cm T := by
  have hl : (H ++ [(x, y)]).length = H.length + 1 := by simp
  have row4 : w4.heap[ob]? = some (.cells #[.int .i64 m, .slice A H.length c] 24 (0, 0)) := (hg.block ob h.lt (own_ne_block h.own h.row (by decide))).trans h.row
  have m4 := (hg.block mb h.marks.lt (own_ne_block h.own h.marks (by decide))).trans h.marks
  have t4 := h.tos.kept hg (own_ne_own h.tos h.own (by decide))
  refine ⟨?_, ?_, (Below.heap_setCell _ _ _ _ h.ne_om.symm).trans m4, own_setCell t4 (own_ne_block t4 row4 (by decide))⟩
  · rw [setCell_row row4, hl]; rfl
  · rw [hl, show gcells (H ++ [(x, y)]) = gcells H ++ [.int .i64 x, .int .i64 y] from by simp [gcells]]
    exact own_setCell hown (own_ne_block hown row4 (by decide))
end
theorem tos_snocset (f : Nat → Int) (k : Nat) (x y : Int) (h : f k = y) : (tos f k ++ [x]).set k y = tos f (k + 1) := by
  rw [List.set_append_right _ _ (by rw [tos_length]; omega), tos_length, Nat.sub_self, tos_snoc, h]; rfl
theorem tos_snocget (f : Nat → Int) (k j : Nat) (x : Int) (h : j < k) : (tos f k ++ [x]).getD j 0 = f j := by
  rw [List.getD_eq_getElem?_getD, List.getElem?_append_left (by rw [tos_length]; exact h), ← List.getD_eq_getElem?_getD, tos_getD f k j h]
end Go.Proofs.Ytelbjendeldlcaa
