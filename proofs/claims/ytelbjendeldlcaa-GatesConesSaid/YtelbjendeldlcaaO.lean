/- The row of assessorlaw24.GatesValues: true at every input, and the input reads as it did. -/
import Derived.Test.YtelbjendeldlcaaM
import Derived.Test.YtelbjendeldlcaaN
namespace Go.Proofs.Ytelbjendeldlcaa
open Go.ChangeShapes Go.WideShapes Go.ChangeAt Go.RowKit Go.Deep

theorem own0 : ownKnob Try.prog.godebug = none := by kernel_rfl
theorem laid0 : laidOutB Try.prog = true := by kernel_rfl
theorem cells3' : Try.prog.cellsOf 3 = 1 := by kernel_rfl
theorem cells4' : Try.prog.cellsOf 4 = 1 := by kernel_rfl
theorem cells22' : Try.prog.cellsOf 22 = 1 := by kernel_rfl
theorem cells24' : Try.prog.cellsOf 24 = 2 := by kernel_rfl
theorem cells69' : Try.prog.cellsOf 69 = 2 := by kernel_rfl
section
variable {H : Type} {enc : TypeId × Value → H} {W : World} {base : Nat}
theorem open_gates {v : Value} {d : DataW H} {p : List MemPlace} (hv : Value.okWide Try.prog W .any base 24 v) (h : DataW.Trod enc Try.prog W 0 (fun _ => true) true 24 v d p) :
    ∃ n A c G, v = .agg #[.int .i64 n, .slice A (List.length G) c] ∧ Row W A (gcells G) ∧ (A = none → c = 0) ∧ G.length ≤ maxLen := by
  obtain ⟨cs, rfl, hcs⟩ := okWide_struct Try.underlying24 hv
  obtain ⟨fuel, hf⟩ := h
  obtain ⟨y0, y1, m, _, _, h0, h1⟩ := trod_struct2 Try.underlying24 hf
  rw [cells24'] at hcs
  match cs, hcs with
  | ⟨[a, b]⟩, _ =>
    simp [Value.cells, cells3', cells22'] at h0 h1
    obtain ⟨n, e0, _⟩ := DataW.trod_int Try.underlying3 h0
    injection e0 with e0 _
    obtain ⟨A, c, G, e1, hr, hc, hl⟩ := open_slice_gates Try.underlying22 Try.underlying69 Try.underlying3 cells3' cells69' h1
    exact ⟨n, A, c, G, by rw [e0, e1], hr, hc, hl⟩
theorem open_ints_arg {t : TypeId} (ht : Try.prog.underlying t = some (.slice 3)) {v : Value} {d : DataW H} {p : List MemPlace} (hv : Value.okWide Try.prog W .any base t v) (h : DataW.Trod enc Try.prog W 0 (fun _ => true) true t v d p) :
    ∃ A c L, v = .slice A (List.length L) c ∧ Row W A (ints L) ∧ (A = none → c = 0) ∧ L.length ≤ maxLen ∧ ∀ n ∈ L, (Lit.int .i64 n).wf = true := by
  obtain ⟨A, l, c, rfl⟩ := okWide_slice ht hv
  obtain ⟨fuel, hf⟩ := h
  exact open_slice_ints ht Try.underlying3 cells3' hf
theorem open_bools_arg {t : TypeId} (ht : Try.prog.underlying t = some (.slice 4)) {v : Value} {d : DataW H} {p : List MemPlace} (hv : Value.okWide Try.prog W .any base t v) (h : DataW.Trod enc Try.prog W 0 (fun _ => true) true t v d p) :
    ∃ A c L, v = .slice A (List.length L) c ∧ Row W A (bools L) ∧ (A = none → c = 0) ∧ L.length ≤ maxLen := by
  obtain ⟨A, l, c, rfl⟩ := okWide_slice ht hv
  obtain ⟨fuel, hf⟩ := h
  exact open_slice_bools ht Try.underlying4 cells4' hf
/-- an argument reads as it did -/
theorem reads {t : TypeId} (hr : Try.prog.readableRec t = true) (ht : t < Try.prog.types.size) {W' : World} {v : Value} {d : DataW H} {p before : List MemPlace} (h : DataW.Trod enc Try.prog W 0 (fun _ => true) true t v d p)
    (hb : Below W.heap.size W W') (hlt : ∀ x ∈ before, x.block < W.heap.size) (hp : ∀ x ∈ p, x ∈ before) : DataW.Trod enc Try.prog W' 0 (fun b => decide (b < W.heap.size)) true t v d p :=
  Below.trod laid0 hr ht h hb (fun x hx => hlt x (hp x hx))
end

set_option maxRecDepth 100000 in
theorem values_lifted (os : Os) (started : os.Started) (H : Type) (enc : TypeId × Value → H) :
    ReturnsInHanded {} Try.checked os 3 .any (Rows.gatesValuesSpec.pre6 enc Try.prog Try.f3 Rows.gatesValuesRow.domain false) (Rows.gatesValuesSpec.post enc Try.prog Try.f3 false true false false) := by
  refine returnsInHanded_of_change (C := Try.checked) own0 started (by kernel_rfl) Try.func3
    (ChangeSpec.witness6 (enc := enc) (C := Try.checked) false ⟨#[], #[.agg #[.int .i64 0, .slice none 0 0], .slice none 0 0, .slice none 0 0], []⟩ 8 (by kernel_rfl) (by kernel_rfl) (by kernel_rfl) (by kernel_rfl)) ?_
  intro W base args ds gs before hval0 hW hcnd _
  have hval : ∀ (j : Nat) t v, Try.f3.params[j]? = some t → args[j]? = some v → Value.okWide Try.prog W .any base t v := hval0
  have hW' := hW
  obtain ⟨p, q, hA0, hV, rfl, hfz, hnd⟩ := hW
  have hA : DataW.TrodAll enc Try.prog W 0 (fun _ => true) true Try.f3.params.toList args.toList ds p := hA0
  rw [Try.params3] at hA hval
  obtain ⟨v0, v1, v2, d0, d1, d2, p0, p1, p2, rfl, rfl, rfl, h0, h1, h2⟩ := trodAll_three hA
  obtain ⟨rfl, rfl⟩ := trodVars_none hV
  obtain ⟨n, ga, gc, G, rfl, hG, _, _⟩ := open_gates (hval 0 24 v0 rfl rfl) h0
  obtain ⟨ia, ic, I, rfl, hI, hic, _⟩ := open_bools_arg Try.underlying25 (hval 1 25 v1 rfl rfl) h1
  obtain ⟨la, lc, L, rfl, hL, _, _, _⟩ := open_ints_arg Try.underlying26 (hval 2 26 v2 rfl rfl) h2
  clear hA0 hval0
  simp only [List.append_nil] at hW'
  have hlt : ∀ x ∈ p0 ++ p1 ++ p2, x.block < W.heap.size := fun x hx => by simpa using hW'.lt x (by simpa using hx)
  refine (values_any n ga gc G ia ic I la lc L W hG hI hic hL).mono fun e W' ⟨he, hb⟩ => ?_
  subst he
  refine ⟨_, rfl, post_true rfl rfl Try.underlying4 rfl hW' ?_ hb⟩
  rw [Try.params3]
  rw [List.append_assoc]
  refine trodAll_mk3 (reads (by kernel_rfl) (of_decide_eq_true (by kernel_rfl)) h0 hb hlt (fun x hx => by simp [hx])) (reads (by kernel_rfl) (of_decide_eq_true (by kernel_rfl)) h1 hb hlt (fun x hx => by simp [hx])) (reads (by kernel_rfl) (of_decide_eq_true (by kernel_rfl)) h2 hb hlt (fun x hx => by simp [hx]))

theorem values_holds : Rows.GatesValuesSaid :=
  OpenClaim.holds_of_wide 3 Try.f3 rfl rfl rfl rfl rfl rfl rfl ⟨rfl, rfl, rfl, rfl, rfl⟩ rfl rfl rfl rfl rfl (by kernel_rfl) Try.func3 (by kernel_rfl)
    (of_decide_eq_true (by kernel_rfl)) (by unfold Func.isWrapper; rw [if_neg (by decide +kernel)]; exact ⟨rfl, rfl⟩)
    (fun os started H enc _ => values_lifted os started H enc)
end Go.Proofs.Ytelbjendeldlcaa
#print axioms Go.Proofs.Ytelbjendeldlcaa.values_holds
