/- Arguments opened into rows of cells; the row's end where the arguments read as they did. -/
import Derived.Test.YtjddegfigdpcbaaA
import Derived.ProofKit
import Derived.OpenShut
import Derived.Deep.Slices
namespace Go.Proofs.Ytjddegfigdpcbaa
open Go.ChangeShapes Go.WideShapes Go.ChangeAt Go.RowKit Go.Deep

section
variable {H : Type} {enc : TypeId × Value → H} {P : Program} {w : World} {base : Nat} {spare : Nat → Bool} {held : Bool}

theorem spot_none {w : World} {a : Addr} {v : Value} (h : w.cell? a = some v) : a.spot = none := by
  unfold World.cell? at h
  split at h
  · split at h
    · cases h
    · rename_i hs
      cases hq : a.spot with
      | none => rfl
      | some q => simp [hq] at hs
  · cases h
theorem add_at {a : Addr} (h : a.spot = none) (i : Nat) : a.add i = ⟨a.block, a.off + i, none⟩ := by
  unfold Addr.add
  split
  · rename_i h0; subst h0; cases a; simp at h; simp [h]
  · rfl
/-- a row by its cells -/
theorem Row.of_cells {a : Addr} {cs : List Value} (h : ∀ j, j < cs.length → w.cell? (a.add j) = some (cs.getD j undef)) : Row w (some a) cs := by
  intro j hj
  have h0 := h 0 (by omega)
  have hs : a.spot = none := by
    have := spot_none h0
    unfold Addr.add at this; simpa using this
  refine ⟨a.block, a.off, ?_, ?_⟩
  · cases a; simp at hs; simp [hs]
  · rw [← add_at hs]; exact h j hj

theorem open_slice_ints {t e : TypeId} {fuel : Nat} {v : Value} {x : DataW H × List MemPlace} (ht : P.underlying t = some (.slice e)) (he : P.underlying e = some (.int .i64)) (hc : P.cellsOf e = 1)
    (h : DataW.trod enc P w base spare held fuel t [v] = some x) : ∃ A c L, v = .slice A (List.length L) c ∧ Row w A (ints L) ∧ (A = none → c = 0) ∧ L.length ≤ maxLen ∧ ∀ n ∈ L, (Lit.int .i64 n).wf = true := by
  rcases open_slice1 ht hc h with ⟨h0, _⟩ | ⟨a, len, cap, m, n, V, D, Pl, h0, _, hl, hm, hmm, _, hx⟩
  · injection h0 with h0 _
    exact ⟨none, 0, [], h0, Row.nil, fun _ => rfl, by simp, by simp⟩
  injection h0 with h0 _
  have hlm : len ≤ m := by rw [hmm]; split <;> omega
  obtain ⟨Z, hZ⟩ := choose_lt (α := Int) (p := fun i z => V i = .int .i64 z ∧ (Lit.int .i64 z).wf = true) (n := len) (fun i hi => by
    obtain ⟨z, h1, _, hwf⟩ := DataW.trod_int he (hx i (by omega)).2
    injection h1 with h1 _
    exact ⟨z, h1, hwf⟩)
  refine ⟨some a, cap, (List.range len).map Z, by rw [h0]; simp, Row.of_cells fun j hj => ?_, fun e => (by cases e), (by simp; omega), ?_⟩
  · have hj' : j < len := by simpa [ints] using hj
    rw [(hx j (by omega)).1, (hZ j hj').1]
    simp [ints, List.getD_eq_getElem?_getD, hj']
  · intro z hz
    simp only [List.mem_map, List.mem_range] at hz
    obtain ⟨j, hj, rfl⟩ := hz
    exact (hZ j hj).2
theorem open_slice_bools {t e : TypeId} {fuel : Nat} {v : Value} {x : DataW H × List MemPlace} (ht : P.underlying t = some (.slice e)) (he : P.underlying e = some .bool) (hc : P.cellsOf e = 1)
    (h : DataW.trod enc P w base spare held fuel t [v] = some x) : ∃ A c L, v = .slice A (List.length L) c ∧ Row w A (bools L) ∧ (A = none → c = 0) ∧ L.length ≤ maxLen := by
  rcases open_slice1 ht hc h with ⟨h0, _⟩ | ⟨a, len, cap, m, n, V, D, Pl, h0, _, hl, hm, hmm, _, hx⟩
  · injection h0 with h0 _
    exact ⟨none, 0, [], h0, Row.nil, fun _ => rfl, by simp⟩
  injection h0 with h0 _
  have hlm : len ≤ m := by rw [hmm]; split <;> omega
  obtain ⟨Z, hZ⟩ := choose_lt (α := Bool) (p := fun i z => V i = .bool z) (n := len) (fun i hi => by
    obtain ⟨z, h1, _⟩ := DataW.trod_bool he (hx i (by omega)).2
    injection h1 with h1 _
    exact ⟨z, h1⟩)
  refine ⟨some a, cap, (List.range len).map Z, by rw [h0]; simp, Row.of_cells fun j hj => ?_, fun e => (by cases e), (by simp; omega)⟩
  have hj' : j < len := by simpa [bools] using hj
  rw [(hx j (by omega)).1, hZ j hj']
  simp [bools, List.getD_eq_getElem?_getD, hj']
end

/-- the row's end: true, and each argument reads as it did -/
theorem post_true {H : Type} {enc : TypeId × Value → H} {P : Program} {f : Func} {s : ChangeSpec} {W W' : World} {args : Array Value} {ds : List (DataW H)} {before : List MemPlace} {t : TypeId}
    (hv : s.vars = []) (hf : f.resultTypes = #[t]) (ht : P.underlying t = some .bool) (hs : s.fn H (ds ++ []) = { results := [.lit (.bool true)], args := ds })
    (hW : DataW.Whole enc P f.params.toList s.vars false W args.toList ds [] before)
    (hargs : DataW.TrodAll enc P W' 0 (fun b => decide (b < W.heap.size)) true f.params.toList args.toList ds before) (hb : Below W.heap.size W W') :
    s.post enc P f false true false false W args (.bool true) W' := by
  refine ⟨ds, [], before, [], before, [], hW, ?_, ?_, ?_, hb.frame _, fun h => by cases h⟩
  · rw [hs, hf]; exact trodAll_mk1 (shut_bool ht true)
  · rw [hs]; exact hargs
  · rw [hs, hv]; exact rfl
end Go.Proofs.Ytjddegfigdpcbaa
