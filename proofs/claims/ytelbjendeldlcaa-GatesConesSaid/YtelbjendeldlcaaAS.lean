/- The state of Cone's walk: the made circuit's box, its row of gates, the marks, where the nodes go. -/
import Derived.Test.YtelbjendeldlcaaAR
import Derived.Test.YtelbjendeldlcaaAO
namespace Go.Proofs.Ytelbjendeldlcaa
open Go.RowKit

def IntsAt (w : World) (tb : Nat) (T : List Int) : Prop := w.heap[tb]? = some (.cells (ints T).toArray 3 (0, 0))
theorem made_ints (n : Nat) : madeCells (Value.int .i64 0).cells (n * 1) = (ints (List.replicate n 0)).toArray := by
  apply Array.ext
  · simp [madeCells, ints]
  · intro i h1 h2
    simp [madeCells, ints, Value.cells, Nat.mod_one]
theorem run_ints (n : Nat) (h : n ≤ 70000) (w : World) : (Instr.makeSlice 26 (.int .i64 n) (.int .i64 n)).run Try.prog w = .ok (.slice (some ⟨w.heap.size, 0, none⟩) n n) (w.alloc (.cells (ints (List.replicate n 0)).toArray 3)) := by
  obtain ⟨i0, hi, hz0, hz1, hz2⟩ := info_parts info3
  have := run_makeSlice (P := Try.prog) w 26 3 i0 (.int .i64 0) Try.underlying26 hi hz0 .i64 .i64 n n (by omega) (Int.le_refl _) (by rw [hz1]; simp; omega) (by rw [hz2]; omega) (by omega)
  rw [this, hz1]
  simp only [Int.toNat_natCast]
  rw [made_ints]
theorem IntsAt.made (w : World) (n : Nat) : IntsAt (w.alloc (.cells (ints (List.replicate n 0)).toArray 3)) w.heap.size (List.replicate n 0) := heap_alloc_new w _
theorem IntsAt.lt {w : World} {mb : Nat} {ms : List Int} (h : IntsAt w mb ms) : mb < w.heap.size := (Array.getElem?_eq_some_iff.1 h).1
theorem IntsAt.cell {w : World} {mb : Nat} {ms : List Int} (h : IntsAt w mb ms) (j : Nat) (hj : j < ms.length) : w.cell? ⟨mb, j, none⟩ = some (.int .i64 (ms.getD j 0)) := by
  unfold World.cell?
  simp only []
  rw [h]
  simp [ints, List.getD_eq_getElem?_getD, hj]
theorem IntsAt.fz {w : World} {mb : Nat} {ms : List Int} (h : IntsAt w mb ms) (j : Nat) : w.frozen? ⟨mb, j, none⟩ = false := by
  unfold World.frozen?; simp only []; rw [h]; simp
theorem IntsAt.below {w w' : World} {mb : Nat} {ms : List Int} (h : IntsAt w mb ms) (hb : Below w.heap.size w w') : IntsAt w' mb ms := (hb.block _ h.lt).trans h
theorem IntsAt.set {w : World} {mb : Nat} {ms : List Int} (h : IntsAt w mb ms) (j : Nat) (b : Int) : IntsAt (w.setCell ⟨mb, j, none⟩ (.int .i64 b)) mb (ms.set j b) := by
  unfold IntsAt at *
  simp [World.setCell, Array.getElem?_modify, h, ints, List.map_set]

theorem nodes_plain (m l : Nat) (h : 1 + m + l ≤ 70000) : nodesI m l = ((1 + m + l : Nat) : Int) := by unfold nodesI wrap64; omega

theorem gate_idx {k m g N j : Nat} (hj : j = k - 1 - m) (hN : N = 1 + m + g) (h : k < N) (hm : ¬ k ≤ m) : j < g ∧ (k : Int) - 1 - (m : Int) = (j : Int) ∧ j + m + 1 = k ∧ m < k ∧ k < 1 + m + g := by omega
theorem div_lt {p k : Nat} {x : Int} (hx : (p : Int) = x) (h : (x / 2).toNat < k) : p / 2 < k := by omega

structure CSt (w : World) (B ob mb tb m : Nat) (A : Option Addr) (c : Nat) (H : List (Int × Int)) (ms : List Bool) (T : List Int) : Prop where
  row : w.heap[ob]? = some (.cells #[.int .i64 m, .slice A H.length c] 24 (0, 0))
  own : w.ownsRow B 69 2 (.slice A H.length c) H.length (gcells H)
  marks : MarksAt w mb ms
  tos : IntsAt w tb T
section
variable {w : World} {B ob mb tb m c : Nat} {A : Option Addr} {H : List (Int × Int)} {ms : List Bool} {T : List Int}
theorem CSt.lt (h : CSt w B ob mb tb m A c H ms T) : ob < w.heap.size := (Array.getElem?_eq_some_iff.1 h.row).1
theorem CSt.below (h : CSt w B ob mb tb m A c H ms T) {w' : World} (hb : Below w.heap.size w w') : CSt w' B ob mb tb m A c H ms T :=
  ⟨(hb.block ob h.lt).trans h.row, own_below h.own hb, h.marks.below hb, h.tos.below hb⟩
theorem CSt.ne_ot (h : CSt w B ob mb tb m A c H ms T) : ob ≠ tb := by
  intro e; have h1 := h.row; have h2 := h.tos; unfold IntsAt at h2; rw [e, h2] at h1
  injection h1 with h1; injection h1 with _ h1; cases h1
theorem CSt.ne_om (h : CSt w B ob mb tb m A c H ms T) : ob ≠ mb := by
  intro e; have h1 := h.row; have h2 := h.marks; unfold MarksAt at h2; rw [e, h2] at h1
  injection h1 with h1; injection h1 with _ h1; cases h1
theorem CSt.ne_mt (h : CSt w B ob mb tb m A c H ms T) : mb ≠ tb := by
  intro e; have h1 := h.marks; have h2 := h.tos; unfold MarksAt at h1; unfold IntsAt at h2; rw [e, h2] at h1
  injection h1 with h1; injection h1 with _ h1; cases h1
theorem CSt.setTo (h : CSt w B ob mb tb m A c H ms T) (j : Nat) (x : Int) : CSt (w.setCell ⟨tb, j, none⟩ (.int .i64 x)) B ob mb tb m A c H ms (T.set j x) :=
  ⟨(Below.heap_setCell _ _ _ _ h.ne_ot).trans h.row, own_setCell h.own (own_ne_block h.own h.tos (by decide)), (Below.heap_setCell _ _ _ _ h.ne_mt).trans h.marks, h.tos.set j x⟩
theorem CSt.push (h : CSt w B ob mb tb m A c H ms T) {w4 : World} {A4 : Option Addr} {c4 : Nat} {x y : Int}
    (hown : w4.ownsRow B 69 2 (.slice A4 (H.length + 1) c4) (H.length + 1) (gcells H ++ [.int .i64 x, .int .i64 y])) (hg : w.grownBy w4 (Value.slice A H.length c).ownBlock) :
    CSt (w4.setCell ⟨ob, 1, none⟩ (.slice A4 (H.length + 1) c4)) B ob mb tb m A4 c4 (H ++ [(x, y)]) ms T := by
  have hl : (H ++ [(x, y)]).length = H.length + 1 := by simp
  have row4 : w4.heap[ob]? = some (.cells #[.int .i64 m, .slice A H.length c] 24 (0, 0)) := (hg.block ob h.lt (own_ne_block h.own h.row (by decide))).trans h.row
  have m4 := (hg.block mb h.marks.lt (own_ne_block h.own h.marks (by decide))).trans h.marks
  have t4 := (hg.block tb h.tos.lt (own_ne_block h.own h.tos (by decide))).trans h.tos
  refine ⟨?_, ?_, (Below.heap_setCell _ _ _ _ h.ne_om.symm).trans m4, (Below.heap_setCell _ _ _ _ h.ne_ot.symm).trans t4⟩
  · rw [setCell_row row4, hl]; rfl
  · rw [hl, show gcells (H ++ [(x, y)]) = gcells H ++ [.int .i64 x, .int .i64 y] from by simp [gcells]]
    exact own_setCell hown (own_ne_block hown row4 (by decide))
end
theorem tos_set (f : Nat → Int) (k N : Nat) (h : k < N) : (tos f k ++ List.replicate (N - k) 0).set k (f k) = tos f (k + 1) ++ List.replicate (N - (k + 1)) 0 := by
  rw [List.set_append_right _ _ (by rw [tos_length]; omega), tos_length, Nat.sub_self, tos_snoc, List.append_assoc]
  obtain ⟨q, hq⟩ : ∃ q, N - k = q + 1 := ⟨N - k - 1, by omega⟩
  rw [hq, List.replicate_succ, show N - (k + 1) = q from by omega]; rfl
theorem tos_zero (f : Nat → Int) (k N : Nat) (h : k < N) (h0 : f k = 0) : tos f k ++ List.replicate (N - k) 0 = tos f (k + 1) ++ List.replicate (N - (k + 1)) 0 := by
  rw [tos_snoc, List.append_assoc, h0]
  obtain ⟨q, hq⟩ : ∃ q, N - k = q + 1 := ⟨N - k - 1, by omega⟩
  rw [hq, List.replicate_succ, show N - (k + 1) = q from by omega]; rfl
theorem tos_get (f : Nat → Int) (k j q : Nat) (h : j < k) : (tos f k ++ List.replicate q 0).getD j 0 = f j := by
  rw [List.getD_eq_getElem?_getD, List.getElem?_append_left (by rw [tos_length]; exact h), ← List.getD_eq_getElem?_getD, tos_getD f k j h]
theorem mv_bd (d : Nat → Int) (n : Nat) (ms : List Bool) (k : Nat) (h0 : 0 ≤ d k) (h1 : d k ≤ k) : 0 ≤ mv d n ms k ∧ mv d n ms k ≤ k := by
  unfold mv
  have := sel_le n ms k
  split
  · omega
  · split <;> omega
theorem own_setLow {w : World} {base n : Nat} {e : TypeId} {size : Nat} {v : Value} {xs : List Value} {b j : Nat} {u : Value} (h : w.ownsRow base e size v n xs) (hb : b < base) : (w.setCell ⟨b, j, none⟩ u).ownsRow base e size v n xs :=
  own_setCell h (fun e => by have := (h.lt b e.symm).1; omega)
theorem mvL_nat (f : Nat → Int) (p : Nat) : mvL f (p : Int) = 2 * f (p / 2) + (p : Int) % 2 := by unfold mvL; rw [show ((p : Int) / 2).toNat = p / 2 from by omega]
/-- what Cone answers -/
def GivesCone (w : World) (m : Nat) (H : List (Int × Int)) (M : List Int) (e : Ending) (w' : World) : Prop :=
  ∃ A c B d, e = .returned (.tuple #[.agg #[.int .i64 m, .slice A H.length c], .slice B M.length d, .int .i64 0]) ∧ Row w' A (gcells H) ∧ Row w' B (ints M) ∧ Below w.heap.size w w'
def NoCone (w : World) (e : Ending) (w' : World) : Prop :=
  e = .returned (.tuple #[.agg #[.int .i64 0, .slice none 0 0], .slice none 0 0, .int .i64 1]) ∧ Below w.heap.size w w'
end Go.Proofs.Ytelbjendeldlcaa
