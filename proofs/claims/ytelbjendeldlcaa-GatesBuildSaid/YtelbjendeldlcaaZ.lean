/- Arguments that are rows of steps, opened. -/
import Derived.Test.YtelbjendeldlcaaO
import Derived.Test.YtelbjendeldlcaaX
namespace Go.Proofs.Ytelbjendeldlcaa
open Go.ChangeShapes Go.WideShapes Go.ChangeAt Go.RowKit Go.Deep

instance : Inhabited GOp := ⟨gop0⟩
theorem cells48' : Try.prog.cellsOf 48 = 4 := by kernel_rfl
section
variable {H : Type} {enc : TypeId × Value → H} {W : World} {base : Nat} {spare : Nat → Bool} {held : Bool}
theorem open_op {fuel : Nat} {cs : List Value} {x : DataW H × List MemPlace} (h : DataW.trod enc Try.prog W base spare held fuel 48 cs = some x) : ∃ o : GOp, cs = [.int .i64 o.k, .int .i64 o.a, .int .i64 o.b, .int .i64 o.c] := by
  obtain ⟨xs, m, _, _, hl, hxl, hf⟩ := DataW.trod_struct Try.underlying48 h
  rw [cells48'] at hl
  match cs, hl, xs, hxl with
  | [v0, v1, v2, v3], _, [y0, y1, y2, y3], _ =>
    have h0 := hf 0 _ rfl
    have h1 := hf 1 _ rfl
    have h2 := hf 2 _ rfl
    have h3 := hf 3 _ rfl
    simp [cells3'] at h0 h1 h2 h3
    obtain ⟨a, e0, _⟩ := DataW.trod_int Try.underlying3 h0
    obtain ⟨b, e1, _⟩ := DataW.trod_int Try.underlying3 h1
    obtain ⟨c, e2, _⟩ := DataW.trod_int Try.underlying3 h2
    obtain ⟨d, e3, _⟩ := DataW.trod_int Try.underlying3 h3
    injection e0 with e0 _; injection e1 with e1 _; injection e2 with e2 _; injection e3 with e3 _
    exact ⟨⟨a, b, c, d⟩, by rw [e0, e1, e2, e3]⟩
theorem open_ops_arg {v : Value} {d : DataW H} {p : List MemPlace} (hv : Value.okWide Try.prog W .any base 45 v) (h : DataW.Trod enc Try.prog W 0 (fun _ => true) true 45 v d p) :
    ∃ A c O, v = .slice A (List.length O) c ∧ Row W A (ocells O) ∧ (A = none → c = 0) ∧ O.length ≤ maxLen := by
  obtain ⟨A, l, c, rfl⟩ := okWide_slice Try.underlying45 hv
  obtain ⟨fuel, hf⟩ := h
  rcases open_slice Try.underlying45 hf with ⟨h0, _⟩ | ⟨a, len, cap, m, n, D, Pl, h0, _, hl, hm, hmm, _, hx⟩
  · injection h0 with h0 _
    exact ⟨none, 0, [], h0, Row.nil, fun _ => rfl, by simp⟩
  injection h0 with h0 _
  have hlm : len ≤ m := by rw [hmm]; split <;> omega
  obtain ⟨Z, hZ⟩ := choose_lt (α := GOp) (p := fun i o => W.cell? ((a.add (i * 4)).add 0) = some (.int .i64 o.k) ∧ W.cell? ((a.add (i * 4)).add 1) = some (.int .i64 o.a) ∧ W.cell? ((a.add (i * 4)).add 2) = some (.int .i64 o.b) ∧ W.cell? ((a.add (i * 4)).add 3) = some (.int .i64 o.c)) (n := len) (fun i hi => by
    obtain ⟨cs', h1, h2⟩ := hx i (by omega)
    rw [cells48'] at h1
    obtain ⟨g, rfl⟩ := open_op h2
    have hcell := (World.cells?_some h1).2.2
    exact ⟨g, hcell 0 (by omega), hcell 1 (by omega), hcell 2 (by omega), hcell 3 (by omega)⟩)
  refine ⟨some a, cap, (List.range len).map Z, by rw [h0]; simp, Row.of_cells fun j hj => ?_, fun e => (by cases e), (by simp; omega)⟩
  rw [ocells_length] at hj
  have hj2 : j < 4 * len := by simpa using hj
  have hg := ocells_get ((List.range len).map Z) (j / 4) (by simp; omega)
  have hzd : ((List.range len).map Z).getD (j / 4) gop0 = Z (j / 4) := by
    simp [List.getD_eq_getElem?_getD, List.getElem?_range (show j / 4 < len by omega)]
  rw [hzd] at hg
  have hz := hZ (j / 4) (by omega)
  rw [add_add, add_add, add_add, add_add] at hz
  have hd : j = 4 * (j / 4) ∨ j = 4 * (j / 4) + 1 ∨ j = 4 * (j / 4) + 2 ∨ j = 4 * (j / 4) + 3 := by omega
  rcases hd with hd | hd | hd | hd
  · have e1 : j / 4 * 4 + 0 = j := by omega
    rw [e1] at hz
    rw [hz.1, ← hg.1, ← hd]
  · have e1 : j / 4 * 4 + 1 = j := by omega
    rw [e1] at hz
    rw [hz.2.1, ← hg.2.1, ← hd]
  · have e1 : j / 4 * 4 + 2 = j := by omega
    rw [e1] at hz
    rw [hz.2.2.1, ← hg.2.2.1, ← hd]
  · have e1 : j / 4 * 4 + 3 = j := by omega
    rw [e1] at hz
    rw [hz.2.2.2, ← hg.2.2.2, ← hd]
end

end Go.Proofs.Ytelbjendeldlcaa
