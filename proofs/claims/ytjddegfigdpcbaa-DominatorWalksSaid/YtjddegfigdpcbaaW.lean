/- The row of DominatorWalks: true at every input, and the input reads as it did. -/
import Derived.Test.YtjddegfigdpcbaaV
namespace Go.Proofs.Ytjddegfigdpcbaa
open Go.ChangeShapes Go.WideShapes Go.ChangeAt Go.RowKit Go.Deep

set_option maxRecDepth 100000 in
theorem walks_lifted (os : Os) (started : os.Started) (H : Type) (enc : TypeId × Value → H) :
    ReturnsInHanded {} Try.checked os 8 .any (Rows.dominatorWalksSpec.pre6 enc Try.prog Try.f8 Rows.dominatorWalksRow.domain false) (Rows.dominatorWalksSpec.post enc Try.prog Try.f8 false true false false) := by
  refine returnsInHanded_of_change (C := Try.checked) own0 started (by kernel_rfl) Try.func8
    (ChangeSpec.witness6 (enc := enc) (C := Try.checked) false ⟨#[], #[.agg #[.slice none 0 0], .slice none 0 0], []⟩ 8 (by kernel_rfl) (by kernel_rfl) (by kernel_rfl) (by kernel_rfl)) ?_
  intro W base args ds gs before hval0 hW hcnd _
  have hval : ∀ (j : Nat) t v, Try.f8.params[j]? = some t → args[j]? = some v → Value.okWide Try.prog W .any base t v := hval0
  have hW' := hW
  obtain ⟨p, q, hA0, hV, rfl, hfz, hnd⟩ := hW
  have hA : DataW.TrodAll enc Try.prog W 0 (fun _ => true) true Try.f8.params.toList args.toList ds p := hA0
  rw [Try.params8] at hA hval
  obtain ⟨v0, v1, d0, d1, p0, p1, rfl, rfl, rfl, h0, h1⟩ := trodAll_two hA
  obtain ⟨rfl, rfl⟩ := trodVars_none hV
  have k0 := h0
  have k1 := h1
  obtain ⟨pa, pc, F, rfl, hF, hl⟩ := open_flow (hval 0 24 v0 rfl rfl) h0
  obtain ⟨ba, bc, C, rfl, hC, hcl, hcr⟩ := open_bytes_arg (hval 1 38 v1 rfl rfl) h1
  clear hA0 hval0
  simp only [List.append_nil] at hW'
  have hlt : ∀ x ∈ p0 ++ p1, x.block < W.heap.size := fun x hx => by simpa using hW'.lt x (by simpa using hx)
  refine (walks_any pa pc F ba bc C W hF hl hC hcl hcr).mono fun e W' ⟨he, hb⟩ => ?_
  subst he
  refine ⟨_, rfl, post_true rfl rfl Try.underlying4 rfl hW' ?_ hb⟩
  rw [Try.params8]
  exact trodAll_mk2 (reads (by kernel_rfl) (of_decide_eq_true (by kernel_rfl)) k0 hb hlt (fun x hx => by simp [hx])) (reads (by kernel_rfl) (of_decide_eq_true (by kernel_rfl)) k1 hb hlt (fun x hx => by simp [hx]))

theorem walks_holds : Rows.DominatorWalksSaid :=
  OpenClaim.holds_of_wide 8 Try.f8 rfl rfl rfl rfl rfl rfl rfl ⟨rfl, rfl, rfl, rfl, rfl⟩ rfl rfl rfl rfl rfl (by kernel_rfl) Try.func8 (by kernel_rfl)
    (of_decide_eq_true (by kernel_rfl)) (by unfold Func.isWrapper; rw [if_neg (by decide +kernel)]; exact ⟨rfl, rfl⟩)
    (fun os started H enc _ => walks_lifted os started H enc)
end Go.Proofs.Ytjddegfigdpcbaa
#print axioms Go.Proofs.Ytjddegfigdpcbaa.walks_holds
