/- Arguments opened into rows of cells: ints, bools, pairs; and the row's end where the arguments read as they did. -/
import Derived.Test.YtelbjendeldlcaaA
import Derived.Test.YtelbjendeldlcaaRows
import Derived.ProofKit
import Derived.OpenShut
import Derived.Deep.Slices
namespace Go.Proofs.Ytelbjendeldlcaa
open Go.ChangeShapes Go.WideShapes Go.ChangeAt Go.RowKit Go.Deep

section
variable {H : Type} {enc : TypeId × Value → H} {P : Program} {w : World} {base : Nat} {spare : Nat → Bool} {held : Bool}

theorem spot_none {w : World} {a : Addr} {v : Value} (h : w.cell? a = some v) : a.spot = none := by
  unfold World.cell? at h
  split at h
  · split at h
    · cases h
    · rename_i hs
      cases hq : a.spot with
      | none => rfl
      | some q => simp [hq] at hs
  · cases h
theorem add_at {a : Addr} (h : a.spot = none) (i : Nat) : a.add i = ⟨a.block, a.off + i, none⟩ := by
  unfold Addr.add
  split
  · rename_i h0; subst h0; cases a; simp at h; simp [h]
  · rfl
/-- a row by its cells -/
theorem Row.of_cells {a : Addr} {cs : List Value} (h : ∀ j, j < cs.length → w.cell? (a.add j) = some (cs.getD j undef)) : Row w (some a) cs := by
  intro j hj
  have h0 := h 0 (by omega)
  have hs : a.spot = none := by
    have := spot_none h0
    unfold Addr.add at this; simpa using this
  refine ⟨a.block, a.off, ?_, ?_⟩
  · cases a; simp at hs; simp [hs]
  · rw [← add_at hs]; exact h j hj

theorem open_slice_ints {t e : TypeId} {fuel : Nat} {v : Value} {x : DataW H × List MemPlace} (ht : P.underlying t = some (.slice e)) (he : P.underlying e = some (.int .i64)) (hc : P.cellsOf e = 1)
    (h : DataW.trod enc P w base spare held fuel t [v] = some x) : ∃ A c L, v = .slice A (List.length L) c ∧ Row w A (ints L) ∧ (A = none → c = 0) ∧ L.length ≤ maxLen ∧ ∀ n ∈ L, (Lit.int .i64 n).wf = true := by
  rcases open_slice1 ht hc h with ⟨h0, _⟩ | ⟨a, len, cap, m, n, V, D, Pl, h0, _, hl, hm, hmm, _, hx⟩
  · injection h0 with h0 _
    exact ⟨none, 0, [], h0, Row.nil, fun _ => rfl, by simp, by simp⟩
  injection h0 with h0 _
  have hlm : len ≤ m := by rw [hmm]; split <;> omega
  obtain ⟨Z, hZ⟩ := choose_lt (α := Int) (p := fun i z => V i = .int .i64 z ∧ (Lit.int .i64 z).wf = true) (n := len) (fun i hi => by
    obtain ⟨z, h1, _, hwf⟩ := DataW.trod_int he (hx i (by omega)).2
    injection h1 with h1 _
    exact ⟨z, h1, hwf⟩)
  refine ⟨some a, cap, (List.range len).map Z, by rw [h0]; simp, Row.of_cells fun j hj => ?_, fun e => (by cases e), (by simp; omega), ?_⟩
  · have hj' : j < len := by simpa [ints] using hj
    rw [(hx j (by omega)).1, (hZ j hj').1]
    simp [ints, List.getD_eq_getElem?_getD, hj']
  · intro z hz
    simp only [List.mem_map, List.mem_range] at hz
    obtain ⟨j, hj, rfl⟩ := hz
    exact (hZ j hj).2
theorem open_slice_bools {t e : TypeId} {fuel : Nat} {v : Value} {x : DataW H × List MemPlace} (ht : P.underlying t = some (.slice e)) (he : P.underlying e = some .bool) (hc : P.cellsOf e = 1)
    (h : DataW.trod enc P w base spare held fuel t [v] = some x) : ∃ A c L, v = .slice A (List.length L) c ∧ Row w A (bools L) ∧ (A = none → c = 0) ∧ L.length ≤ maxLen := by
  rcases open_slice1 ht hc h with ⟨h0, _⟩ | ⟨a, len, cap, m, n, V, D, Pl, h0, _, hl, hm, hmm, _, hx⟩
  · injection h0 with h0 _
    exact ⟨none, 0, [], h0, Row.nil, fun _ => rfl, by simp⟩
  injection h0 with h0 _
  have hlm : len ≤ m := by rw [hmm]; split <;> omega
  obtain ⟨Z, hZ⟩ := choose_lt (α := Bool) (p := fun i z => V i = .bool z) (n := len) (fun i hi => by
    obtain ⟨z, h1, _⟩ := DataW.trod_bool he (hx i (by omega)).2
    injection h1 with h1 _
    exact ⟨z, h1⟩)
  refine ⟨some a, cap, (List.range len).map Z, by rw [h0]; simp, Row.of_cells fun j hj => ?_, fun e => (by cases e), (by simp; omega)⟩
  have hj' : j < len := by simpa [bools] using hj
  rw [(hx j (by omega)).1, hZ j hj']
  simp [bools, List.getD_eq_getElem?_getD, hj']
/-- a pair of numbers, as an array of two -/
theorem open_pair {e q : TypeId} {fuel : Nat} {cs : List Value} {x : DataW H × List MemPlace} (he : P.underlying e = some (.array 2 q)) (hq : P.underlying q = some (.int .i64)) (hc : P.cellsOf q = 1) (ce : P.cellsOf e = 2)
    (h : DataW.trod enc P w base spare held fuel e cs = some x) : ∃ g : Int × Int, cs = [.int .i64 g.1, .int .i64 g.2] := by
  obtain ⟨xs, m, _, _, hl, hxl, hf⟩ := DataW.trod_array he h
  rw [ce] at hl
  match cs, hl, xs, hxl with
  | [v0, v1], _, [y0, y1], _ =>
    have h0 := hf 0 (by omega)
    have h1 := hf 1 (by omega)
    simp [hc] at h0 h1
    obtain ⟨a, e0, _⟩ := DataW.trod_int hq h0
    obtain ⟨b, e1, _⟩ := DataW.trod_int hq h1
    injection e0 with e0 _; injection e1 with e1 _
    exact ⟨(a, b), by rw [e0, e1]⟩
theorem open_slice_gates {t e q : TypeId} {fuel : Nat} {v : Value} {x : DataW H × List MemPlace} (ht : P.underlying t = some (.slice e)) (he : P.underlying e = some (.array 2 q)) (hq : P.underlying q = some (.int .i64)) (hc : P.cellsOf q = 1) (ce : P.cellsOf e = 2)
    (h : DataW.trod enc P w base spare held fuel t [v] = some x) : ∃ A c G, v = .slice A (List.length G) c ∧ Row w A (gcells G) ∧ (A = none → c = 0) ∧ G.length ≤ maxLen := by
  rcases open_slice ht h with ⟨h0, _⟩ | ⟨a, len, cap, m, n, D, Pl, h0, _, hl, hm, hmm, _, hx⟩
  · injection h0 with h0 _
    exact ⟨none, 0, [], h0, Row.nil, fun _ => rfl, by simp⟩
  injection h0 with h0 _
  have hlm : len ≤ m := by rw [hmm]; split <;> omega
  obtain ⟨Z, hZ⟩ := choose_lt (α := Int × Int) (p := fun i z => w.cell? ((a.add (i * 2)).add 0) = some (.int .i64 z.1) ∧ w.cell? ((a.add (i * 2)).add 1) = some (.int .i64 z.2)) (n := len) (fun i hi => by
    obtain ⟨cs', h1, h2⟩ := hx i (by omega)
    rw [ce] at h1
    obtain ⟨g, rfl⟩ := open_pair he hq hc ce h2
    have hcell := (World.cells?_some h1).2.2
    exact ⟨g, hcell 0 (by omega), hcell 1 (by omega)⟩)
  refine ⟨some a, cap, (List.range len).map Z, by rw [h0]; simp, Row.of_cells fun j hj => ?_, fun e => (by cases e), (by simp; omega)⟩
  rw [gcells_length] at hj
  have hj2 : j < 2 * len := by simpa using hj
  have hg := gcells_get ((List.range len).map Z) (j / 2) (by simp; omega)
  have hzd : ((List.range len).map Z).getD (j / 2) (0, 0) = Z (j / 2) := by
    simp [List.getD_eq_getElem?_getD, List.getElem?_range (show j / 2 < len by omega)]
  rw [hzd] at hg
  have hz := hZ (j / 2) (by omega)
  rw [add_add, add_add] at hz
  have hd : j = 2 * (j / 2) ∨ j = 2 * (j / 2) + 1 := by omega
  rcases hd with hd | hd
  · have e1 : j / 2 * 2 + 0 = j := by omega
    rw [e1] at hz
    rw [hz.1, ← hg.1, ← hd]
  · have e1 : j / 2 * 2 + 1 = j := by omega
    rw [e1] at hz
    rw [hz.2, ← hg.2, ← hd]
end

/-- the row's end: true, and each argument reads as it did -/
theorem post_true {H : Type} {enc : TypeId × Value → H} {P : Program} {f : Func} {s : ChangeSpec} {W W' : World} {args : Array Value} {ds : List (DataW H)} {before : List MemPlace} {t : TypeId}
    (hv : s.vars = []) (hf : f.resultTypes = #[t]) (ht : P.underlying t = some .bool) (hs : s.fn H (ds ++ []) = { results := [.lit (.bool true)], args := ds })
    (hW : DataW.Whole enc P f.params.toList s.vars false W args.toList ds [] before)
    (hargs : DataW.TrodAll enc P W' 0 (fun b => decide (b < W.heap.size)) true f.params.toList args.toList ds before) (hb : Below W.heap.size W W') :
    s.post enc P f false true false false W args (.bool true) W' := by
  refine ⟨ds, [], before, [], before, [], hW, ?_, ?_, ?_, hb.frame _, fun h => by cases h⟩
  · rw [hs, hf]; exact trodAll_mk1 (shut_bool ht true)
  · rw [hs]; exact hargs
  · rw [hs, hv]; exact rfl
end Go.Proofs.Ytelbjendeldlcaa
