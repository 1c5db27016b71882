/- The row of GatesBuild: true at every input, and the input reads as it did. -/
import Derived.Test.YtelbjendeldlcaaZ
import Derived.Test.YtelbjendeldlcaaAI
namespace Go.Proofs.Ytelbjendeldlcaa
open Go.ChangeShapes Go.WideShapes Go.ChangeAt Go.RowKit Go.Deep

theorem build_any (n : Int) (oa : Option Addr) (oc : Nat) (O : List GOp) (x : Int) (w : World) (hO : Row w oa (ocells O)) :
    Calls Try.prog 6 #[.int .i64 n, .slice oa O.length oc, .int .i64 x] w fun e w' => e = .returned (.bool true) ∧ Below w.heap.size w w' := by
  by_cases h : n < 0 ∨ 1024 < n ∨ 40 < O.length
  · exact build_early n oa O.length oc x w h
  · exact build_main n oa oc O x w hO (by omega) (by omega) (by omega)

set_option maxRecDepth 100000 in
theorem build_lifted (os : Os) (started : os.Started) (H : Type) (enc : TypeId × Value → H) :
    ReturnsInHanded {} Try.checked os 6 .any (Rows.gatesBuildSpec.pre6 enc Try.prog Try.f6 Rows.gatesBuildRow.domain false) (Rows.gatesBuildSpec.post enc Try.prog Try.f6 false true false false) := by
  refine returnsInHanded_of_change (C := Try.checked) own0 started (by kernel_rfl) Try.func6
    (ChangeSpec.witness6 (enc := enc) (C := Try.checked) false ⟨#[], #[.int .i64 0, .slice none 0 0, .int .i64 0], []⟩ 8 (by kernel_rfl) (by kernel_rfl) (by kernel_rfl) (by kernel_rfl)) ?_
  intro W base args ds gs before hval0 hW hcnd _
  have hval : ∀ (j : Nat) t v, Try.f6.params[j]? = some t → args[j]? = some v → Value.okWide Try.prog W .any base t v := hval0
  have hW' := hW
  obtain ⟨p, q, hA0, hV, rfl, hfz, hnd⟩ := hW
  have hA : DataW.TrodAll enc Try.prog W 0 (fun _ => true) true Try.f6.params.toList args.toList ds p := hA0
  rw [Try.params6] at hA hval
  obtain ⟨v0, v1, v2, d0, d1, d2, p0, p1, p2, rfl, rfl, rfl, h0, h1, h2⟩ := trodAll_three hA
  obtain ⟨rfl, rfl⟩ := trodVars_none hV
  have k0 := h0
  have k1 := h1
  have k2 := h2
  obtain ⟨n, rfl, -, -, _⟩ := open_int Try.underlying3 (hval 0 3 v0 rfl rfl) h0
  obtain ⟨oa, oc, O, rfl, hO, _, _⟩ := open_ops_arg (hval 1 45 v1 rfl rfl) h1
  obtain ⟨x, rfl, -, -, _⟩ := open_int Try.underlying3 (hval 2 3 v2 rfl rfl) h2
  clear hA0 hval0
  simp only [List.append_nil] at hW'
  have hlt : ∀ x ∈ p0 ++ p1 ++ p2, x.block < W.heap.size := fun x hx => by simpa using hW'.lt x (by simpa using hx)
  refine (build_any n oa oc O x W hO).mono fun e W' ⟨he, hb⟩ => ?_
  subst he
  refine ⟨_, rfl, post_true rfl rfl Try.underlying4 rfl hW' ?_ hb⟩
  rw [Try.params6]
  rw [List.append_assoc]
  exact trodAll_mk3 (reads (by kernel_rfl) (of_decide_eq_true (by kernel_rfl)) k0 hb hlt (fun x hx => by simp [hx])) (reads (by kernel_rfl) (of_decide_eq_true (by kernel_rfl)) k1 hb hlt (fun x hx => by simp [hx])) (reads (by kernel_rfl) (of_decide_eq_true (by kernel_rfl)) k2 hb hlt (fun x hx => by simp [hx]))

theorem build_holds : Rows.GatesBuildSaid :=
  OpenClaim.holds_of_wide 6 Try.f6 rfl rfl rfl rfl rfl rfl rfl ⟨rfl, rfl, rfl, rfl, rfl⟩ rfl rfl rfl rfl rfl (by kernel_rfl) Try.func6 (by kernel_rfl)
    (of_decide_eq_true (by kernel_rfl)) (by unfold Func.isWrapper; rw [if_neg (by decide +kernel)]; exact ⟨rfl, rfl⟩)
    (fun os started H enc _ => build_lifted os started H enc)
end Go.Proofs.Ytelbjendeldlcaa
#print axioms Go.Proofs.Ytelbjendeldlcaa.build_holds
