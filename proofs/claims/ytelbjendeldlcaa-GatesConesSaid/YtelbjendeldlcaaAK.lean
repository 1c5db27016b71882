/- Marks: a made row of bools, set at places. -/
import Derived.Test.YtelbjendeldlcaaH
namespace Go.Proofs.Ytelbjendeldlcaa
open Go.RowKit

/-- block mb holds these bools -/
def MarksAt (w : World) (mb : Nat) (ms : List Bool) : Prop := w.heap[mb]? = some (.cells (bools ms).toArray 4 (0, 0))
theorem made_bools (n : Nat) : madeCells (Value.bool false).cells (n * 1) = (bools (List.replicate n false)).toArray := by
  apply Array.ext
  · simp [madeCells, bools]
  · intro i h1 h2
    simp [madeCells, bools, Value.cells, Nat.mod_one]
theorem run_marks (n : Nat) (h : n ≤ 70000) (w : World) : (Instr.makeSlice 25 (.int .i64 n) (.int .i64 n)).run Try.prog w = .ok (.slice (some ⟨w.heap.size, 0, none⟩) n n) (w.alloc (.cells (bools (List.replicate n false)).toArray 4)) := by
  obtain ⟨i0, hi, hz0, hz1, hz2⟩ := info_parts info4
  have := run_makeSlice (P := Try.prog) w 25 4 i0 (.bool false) Try.underlying25 hi hz0 .i64 .i64 n n (by omega) (Int.le_refl _) (by rw [hz1]; simp; omega) (by rw [hz2]; omega) (by omega)
  rw [this, hz1]
  simp only [Int.toNat_natCast]
  rw [made_bools]
theorem MarksAt.made (w : World) (n : Nat) : MarksAt (w.alloc (.cells (bools (List.replicate n false)).toArray 4)) w.heap.size (List.replicate n false) := heap_alloc_new w _
theorem MarksAt.lt {w : World} {mb : Nat} {ms : List Bool} (h : MarksAt w mb ms) : mb < w.heap.size := (Array.getElem?_eq_some_iff.1 h).1
theorem MarksAt.cell {w : World} {mb : Nat} {ms : List Bool} (h : MarksAt w mb ms) (j : Nat) (hj : j < ms.length) : w.cell? ⟨mb, j, none⟩ = some (.bool (ms.getD j false)) := by
  unfold World.cell?
  simp only []
  rw [h]
  simp [bools, List.getD_eq_getElem?_getD, hj]
theorem MarksAt.fz {w : World} {mb : Nat} {ms : List Bool} (h : MarksAt w mb ms) (j : Nat) : w.frozen? ⟨mb, j, none⟩ = false := by
  unfold World.frozen?; simp only []; rw [h]; simp
theorem MarksAt.below {w w' : World} {mb : Nat} {ms : List Bool} (h : MarksAt w mb ms) (hb : Below w.heap.size w w') : MarksAt w' mb ms := (hb.block _ h.lt).trans h
theorem MarksAt.set {w : World} {mb : Nat} {ms : List Bool} (h : MarksAt w mb ms) (j : Nat) (b : Bool) : MarksAt (w.setCell ⟨mb, j, none⟩ (.bool b)) mb (ms.set j b) := by
  unfold MarksAt at *
  simp [World.setCell, Array.getElem?_modify, h, bools, List.map_set]
def mark (ms : List Bool) (x : Int) : List Bool := ms.set (x / 2).toNat true
theorem mark_length (ms : List Bool) (x : Int) : (mark ms x).length = ms.length := by simp [mark]
def markAll (ms : List Bool) (L : List Int) : List Bool := L.foldl mark ms
theorem markAll_snoc (ms : List Bool) (L : List Int) (x : Int) : markAll ms (L ++ [x]) = mark (markAll ms L) x := by unfold markAll; rw [List.foldl_append]; rfl
theorem markAll_length (L : List Int) : ∀ ms : List Bool, (markAll ms L).length = ms.length := by
  induction L with
  | nil => intro ms; rfl
  | cons x L ih => intro ms; unfold markAll at *; rw [List.foldl_cons, ih, mark_length]
/-- the gates below k, from the last to the first -/
def downF (n : Nat) (G : List (Int × Int)) : Nat → List Bool → List Bool
  | 0, ms => ms
  | k + 1, ms => downF n G k (if ms.getD (1 + n + k) false then mark (mark ms (G.getD k (0, 0)).1) (G.getD k (0, 0)).2 else ms)
def needF (n : Nat) (G : List (Int × Int)) (L : List Int) : List Bool := downF n G G.length (markAll (List.replicate (1 + n + G.length) false) L)
end Go.Proofs.Ytelbjendeldlcaa
