/- The row of DominatorPairs: true at every input, and the input reads as it did. -/
import Derived.Test.YtjddegfigdpcbaaAO
namespace Go.Proofs.Ytjddegfigdpcbaa
open Go.ChangeShapes Go.WideShapes Go.ChangeAt Go.RowKit Go.Deep

set_option maxRecDepth 100000 in
theorem pairs_lifted (os : Os) (started : os.Started) (H : Type) (enc : TypeId × Value → H) :
    ReturnsInHanded {} Try.checked os 4 .any (Rows.dominatorPairsSpec.pre6 enc Try.prog Try.f4 Rows.dominatorPairsRow.domain false) (Rows.dominatorPairsSpec.post enc Try.prog Try.f4 false true false false) := by
  refine returnsInHanded_of_change (C := Try.checked) own0 started (by kernel_rfl) Try.func4
    (ChangeSpec.witness6 (enc := enc) (C := Try.checked) false ⟨#[], #[.agg #[.slice none 0 0], .int .i64 0, .int .i64 0], []⟩ 8 (by kernel_rfl) (by kernel_rfl) (by kernel_rfl) (by kernel_rfl)) ?_
  intro W base args ds gs before hval0 hW hcnd _
  have hval : ∀ (j : Nat) t v, Try.f4.params[j]? = some t → args[j]? = some v → Value.okWide Try.prog W .any base t v := hval0
  have hW' := hW
  obtain ⟨p, q, hA0, hV, rfl, hfz, hnd⟩ := hW
  have hA : DataW.TrodAll enc Try.prog W 0 (fun _ => true) true Try.f4.params.toList args.toList ds p := hA0
  rw [Try.params4] at hA hval
  obtain ⟨v0, v1, v2, d0, d1, d2, p0, p1, p2, rfl, rfl, rfl, h0, h1, h2⟩ := trodAll_three hA
  obtain ⟨rfl, rfl⟩ := trodVars_none hV
  have k0 := h0
  have k1 := h1
  have k2 := h2
  obtain ⟨pa, pc, F, rfl, hF, hl⟩ := open_flow (hval 0 24 v0 rfl rfl) h0
  obtain ⟨a, rfl, _⟩ := open_int Try.underlying3 (hval 1 3 v1 rfl rfl) h1
  obtain ⟨b, rfl, _⟩ := open_int Try.underlying3 (hval 2 3 v2 rfl rfl) h2
  clear hA0 hval0
  simp only [List.append_nil] at hW'
  have hlt : ∀ x ∈ p0 ++ p1 ++ p2, x.block < W.heap.size := fun x hx => by simpa using hW'.lt x (by simpa using hx)
  refine (pairsLaw_any pa pc F a b W hF hl).mono fun e W' ⟨he, hb⟩ => ?_
  subst he
  refine ⟨_, rfl, post_true rfl rfl Try.underlying4 rfl hW' ?_ hb⟩
  rw [Try.params4]
  rw [List.append_assoc]
  exact trodAll_mk3 (reads (by kernel_rfl) (of_decide_eq_true (by kernel_rfl)) k0 hb hlt (fun x hx => by simp [hx])) (reads (by kernel_rfl) (of_decide_eq_true (by kernel_rfl)) k1 hb hlt (fun x hx => by simp [hx])) (reads (by kernel_rfl) (of_decide_eq_true (by kernel_rfl)) k2 hb hlt (fun x hx => by simp [hx]))

theorem pairs_holds : Rows.DominatorPairsSaid :=
  OpenClaim.holds_of_wide 4 Try.f4 rfl rfl rfl rfl rfl rfl rfl ⟨rfl, rfl, rfl, rfl, rfl⟩ rfl rfl rfl rfl rfl (by kernel_rfl) Try.func4 (by kernel_rfl)
    (of_decide_eq_true (by kernel_rfl)) (by unfold Func.isWrapper; rw [if_neg (by decide +kernel)]; exact ⟨rfl, rfl⟩)
    (fun os started H enc _ => pairs_lifted os started H enc)
end Go.Proofs.Ytjddegfigdpcbaa
#print axioms Go.Proofs.Ytjddegfigdpcbaa.pairs_holds
