/- The row of GatesCones: true at every input, and the input reads as it did. -/
import Derived.Test.YtelbjendeldlcaaO
import Derived.Test.YtelbjendeldlcaaAZ
namespace Go.Proofs.Ytelbjendeldlcaa
open Go.ChangeShapes Go.WideShapes Go.ChangeAt Go.RowKit Go.Deep

set_option maxRecDepth 100000 in
theorem cones_lifted (os : Os) (started : os.Started) (H : Type) (enc : TypeId × Value → H) :
    ReturnsInHanded {} Try.checked os 8 .any (Rows.gatesConesSpec.pre6 enc Try.prog Try.f8 Rows.gatesConesRow.domain false) (Rows.gatesConesSpec.post enc Try.prog Try.f8 false true false false) := by
  refine returnsInHanded_of_change (C := Try.checked) own0 started (by kernel_rfl) Try.func8
    (ChangeSpec.witness6 (enc := enc) (C := Try.checked) false ⟨#[], #[.agg #[.int .i64 0, .slice none 0 0], .slice none 0 0, .slice none 0 0, .slice none 0 0], []⟩ 8 (by kernel_rfl) (by kernel_rfl) (by kernel_rfl) (by kernel_rfl)) ?_
  intro W base args ds gs before hval0 hW hcnd _
  have hval : ∀ (j : Nat) t v, Try.f8.params[j]? = some t → args[j]? = some v → Value.okWide Try.prog W .any base t v := hval0
  have hW' := hW
  obtain ⟨p, q, hA0, hV, rfl, hfz, hnd⟩ := hW
  have hA : DataW.TrodAll enc Try.prog W 0 (fun _ => true) true Try.f8.params.toList args.toList ds p := hA0
  rw [Try.params8] at hA hval
  obtain ⟨v0, v1, v2, v3, d0, d1, d2, d3, p0, p1, p2, p3, rfl, rfl, rfl, h0, h1, h2, h3⟩ := trodAll_four hA
  obtain ⟨rfl, rfl⟩ := trodVars_none hV
  have k0 := h0
  have k1 := h1
  have k2 := h2
  have k3 := h3
  obtain ⟨n, ga, gc, G, rfl, hG, _, _⟩ := open_gates (hval 0 24 v0 rfl rfl) h0
  obtain ⟨la, lc, L, rfl, hL, _, _, _⟩ := open_ints_arg Try.underlying26 (hval 1 26 v1 rfl rfl) h1
  obtain ⟨ia, ic, I, rfl, hI, hic, _⟩ := open_bools_arg Try.underlying25 (hval 2 25 v2 rfl rfl) h2
  obtain ⟨oa, oc, O, rfl, hO, hoc, _⟩ := open_bools_arg Try.underlying25 (hval 3 25 v3 rfl rfl) h3
  clear hA0 hval0
  simp only [List.append_nil] at hW'
  have hlt : ∀ x ∈ p0 ++ p1 ++ p2 ++ p3, x.block < W.heap.size := fun x hx => by simpa using hW'.lt x (by simpa using hx)
  refine (cones_any n ga gc G la lc L ia ic I oa oc O W hG hL hI hO hic hoc).mono fun e W' ⟨he, hb⟩ => ?_
  subst he
  refine ⟨_, rfl, post_true rfl rfl Try.underlying4 rfl hW' ?_ hb⟩
  rw [Try.params8]
  rw [List.append_assoc, List.append_assoc]
  exact trodAll_mk4 (reads (by kernel_rfl) (of_decide_eq_true (by kernel_rfl)) k0 hb hlt (fun x hx => by simp [hx])) (reads (by kernel_rfl) (of_decide_eq_true (by kernel_rfl)) k1 hb hlt (fun x hx => by simp [hx])) (reads (by kernel_rfl) (of_decide_eq_true (by kernel_rfl)) k2 hb hlt (fun x hx => by simp [hx])) (reads (by kernel_rfl) (of_decide_eq_true (by kernel_rfl)) k3 hb hlt (fun x hx => by simp [hx]))

theorem cones_holds : Rows.GatesConesSaid :=
  OpenClaim.holds_of_wide 8 Try.f8 rfl rfl rfl rfl rfl rfl rfl ⟨rfl, rfl, rfl, rfl, rfl⟩ rfl rfl rfl rfl rfl (by kernel_rfl) Try.func8 (by kernel_rfl)
    (of_decide_eq_true (by kernel_rfl)) (by unfold Func.isWrapper; rw [if_neg (by decide +kernel)]; exact ⟨rfl, rfl⟩)
    (fun os started H enc _ => cones_lifted os started H enc)
end Go.Proofs.Ytelbjendeldlcaa
#print axioms Go.Proofs.Ytelbjendeldlcaa.cones_holds
