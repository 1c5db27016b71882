/- DominatorControls answers true. -/
import Derived.Test.YtjddegfigdpcbaaAU
import Derived.Test.YtjddegfigdpcbaaV
namespace Go.Proofs.Ytjddegfigdpcbaa
open Go.RowKit

set_option maxHeartbeats 400000 in
theorem rControl_no (pa : Option Addr) (pc : Nat) (F : List (List Int)) (w : World) (hF : FRow w pa F) (hsm : ∀ i, i < F.length → (F.getD i []).length ≤ 900) (hV : ¬ VldF F) :
    Calls Try.prog 26 #[.agg #[.slice pa F.length pc]] w (GivesLists w []) := by
  have HV := hid hV
  have hbw := Ytjddegfigdpcbaa.b2 w (.cells #[.slice pa F.length pc] 24) (.cells #[] 29)
  have HBW := hid hbw
  have HF := hid (hF.below hbw)
  clear hV hbw hF
  go_enter Try.func26, Try.ntmps26
  go_wp2_with (go_at_call 14; refine (rvalid_n pa pc F.length F _ rfl HF.out hsm).mono ?_; rintro e w3 ⟨ht, hb3⟩; obtain rfl := ht.eq_no HV.out; replace HBW := hid (bthen HBW.out hb3); clear ht hb3)
  go_ret
  exact ⟨_, _, rfl, LRow.nil, HBW.out⟩
theorem both_cons (pa : Option Addr) (pc : Nat) (F : List (List Int)) (hsm : ∀ i, i < F.length → (F.getD i []).length ≤ 900) :
    ∃ D : List (List Int), D.length ≤ F.length ∧ (∀ i, i < D.length → (D.getD i []).length ≤ F.length) ∧ (∀ w, FRow w pa F → Calls Try.prog 25 #[.agg #[.slice pa F.length pc]] w (GivesLists w D)) ∧ (∀ w, FRow w pa F → Calls Try.prog 26 #[.agg #[.slice pa F.length pc]] w (GivesLists w D)) := by
  by_cases hV : VldF F
  · refine ⟨conL F, by simp [conL], fun i hi => ?_, fun w h => Control_yes pa pc F w h hsm hV, fun w h => rControl_yes pa pc F w h hV hsm⟩
    have hi2 : i < F.length := by simpa [conL] using hi
    unfold conL
    rw [List.getD_eq_getElem?_getD, List.getElem?_map, List.getElem?_range hi2]
    exact conRow_le _ _ _ _
  · exact ⟨[], by simp, fun i hi => by simp at hi, fun w h => Control_no pa pc F w h hsm hV, fun w h => rControl_no pa pc F w h hsm hV⟩
set_option maxHeartbeats 4000000 in
set_option maxRecDepth 100000 in
theorem controls_any (pa : Option Addr) (pc : Nat) (F : List (List Int)) (w : World) (hF : FRow w pa F) (hl : F.length ≤ maxLen) :
    Calls Try.prog 5 #[.agg #[.slice pa F.length pc]] w fun e w' => e = .returned (.bool true) ∧ Below w.heap.size w w' := by
  have HF := hid hF; have hl' := hl
  unfold maxLen at hl'
  clear hF
  go_enter Try.func5, Try.ntmps5
  go_wp2_with fail
  refine (awake_any _).mono ?_
  rintro e w1 ⟨rfl, hb1⟩
  have c0 : w1.cell? ⟨w.heap.size, 0, none⟩ = some (.slice pa F.length pc) := box_cell hb1 0 _ rfl
  have HBW := hid (bthen (below_alloc w _) hb1)
  replace HF := hid (HF.out.below HBW.out)
  clear hb1
  by_cases hS : ¬ SmallF F 14
  · have HS := hid hS; clear hS
    go_wp2_with (go_at_call 12; refine (small_any _ _ _ _ _ HF.out hl).mono ?_; rintro e w2 ⟨ht, hb2⟩; obtain rfl := ht.eq_no HS.out; replace HBW := hid (bthen HBW.out hb2); clear ht hb2)
    go_ret
    exact ⟨rfl, HBW.out⟩
  have hS := Classical.not_not.1 hS
  have hFl := hS.2
  have HS := hid hS; clear hS
  go_wp2_with (go_at_call 12; refine (small_any _ _ _ _ _ HF.out hl).mono ?_; rintro e w3 ⟨ht, hb2⟩; obtain rfl := ht.eq_yes HS.out; replace c0 := below_cell hb2 c0; replace HF := hid (HF.out.below hb2); replace HBW := hid (bthen HBW.out hb2); clear ht hb2)
  replace c0 := below_cell (below_drew' w3) c0; replace HF := hid (HF.out.below (below_drew' w3)); replace HBW := hid (bthen HBW.out (below_drew' w3))
  obtain ⟨D, hDl, hDs, h1, h2⟩ := both_cons pa pc F HS.out.s900
  have H1 := hid h1; have H2 := hid h2
  have HL1 := hid (show D.length ≤ 1000000 by omega); have HL2 := hid (show ∀ i, i < D.length → (D.getD i []).length ≤ 1000000 from fun i hi => by have := hDs i hi; omega)
  clear h1 h2 hDl hDs
  refine wp_region_J (fun j => match j with | 1 => some (fun W => W.cell? ⟨w.heap.size, 0, none⟩ = some (.slice pa F.length pc)) | 3 => some (fun W => W.cell? ⟨w.heap.size, 0, none⟩ = some (.slice pa F.length pc)) | 4 => some (fun W => W.cell? ⟨w.heap.size, 0, none⟩ = some (.slice pa F.length pc)) | _ => none) (by kernel_rfl) ?_
  refine anyJ_take (some 8) (i := 0) (T := fun W => W.cell? ⟨w.heap.size, 0, none⟩ = some (.slice pa F.length pc)) (v := ?_) rfl rfl (by kernel_rfl) (by kernel_rfl) (by kernel_rfl) (fun _ _ _ h => h) (js := []) (by kernel_rfl) Leads.nil rfl (Or.inl ⟨by rfl, ?_⟩) (c0) ?_
  rotate_left
  · (intro wL hSw; (try dsimp only at hSw); go_simp; try with_reducible rfl)
  try simp only [Act.put, List.setIfInBounds_toArray, List.set_cons_zero, List.set_cons_succ]
  refine anyJ_take (some 10) (i := 2) (T := fun W => W.cell? ⟨w.heap.size, 0, none⟩ = some (.slice pa F.length pc)) (v := ?_) rfl rfl (by kernel_rfl) (by kernel_rfl) (by kernel_rfl) (fun _ _ _ h => h) (js := [1]) (by kernel_rfl) (Leads.cons _ rfl (fun w h => h) Leads.nil) rfl (Or.inl ⟨by rfl, ?_⟩) (c0) ?_
  rotate_left
  · (intro wL hSw; (try dsimp only at hSw); go_simp; try with_reducible rfl)
  try simp only [Act.put, List.setIfInBounds_toArray, List.set_cons_zero, List.set_cons_succ]
  refine anyJ_one (i := 1) (oi := { dst := some 9, op := Go.Op.call { callee := Go.Callee.value (Go.Operand.func 25), args := #[Go.Operand.tmp 8], argTypes := #[24] }, type := 33, pos := "law.go:62", after := #[{ on := 0, ground := Go.Ground.data }], guard := none }) rfl (by kernel_rfl) (by rfl) (fun K hK => ?_)
  go_simp
  refine (H1.out _ HF.out).mono ?_
  rintro e wq ⟨A1, e1, he, hrq, hbq⟩
  subst he
  replace c0 := below_cell hbq c0; replace HF := hid (HF.out.below hbq); replace HBW := hid (bthen HBW.out hbq)
  have R1 := hid hrq
  refine hK.out _ _ (by dsimp only [Obl]; exact c0) ?_
  clear hK K hrq hbq
  try simp only [Act.put, List.setIfInBounds_toArray, List.set_cons_zero, List.set_cons_succ]
  refine anyJ_one (i := 3) (oi := { dst := some 11, op := Go.Op.call { callee := Go.Callee.value (Go.Operand.func 26), args := #[Go.Operand.tmp 10], argTypes := #[24] }, type := 33, pos := "law.go:62", after := #[{ on := 2, ground := Go.Ground.data }, { on := 1, ground := Go.Ground.chain }], guard := none }) rfl (by kernel_rfl) (by rfl) (fun K hK => ?_)
  go_simp
  refine (H2.out _ HF.out).mono ?_
  rintro e wq ⟨A2, e2, he, hrq, hbq⟩
  subst he
  replace c0 := below_cell hbq c0; replace HF := hid (HF.out.below hbq); replace HBW := hid (bthen HBW.out hbq); replace R1 := hid (R1.out.below hbq)
  have R2 := hid hrq
  refine hK.out _ _ (by dsimp only [Obl]; exact c0) ?_
  clear hK K hrq hbq
  try simp only [Act.put, List.setIfInBounds_toArray, List.set_cons_zero, List.set_cons_succ]
  refine anyJ_one (i := 4) (oi := { dst := some 12, op := Go.Op.call { callee := Go.Callee.value (Go.Operand.func 24), args := #[Go.Operand.tmp 9, Go.Operand.tmp 11], argTypes := #[33, 33] }, type := 4, pos := "law.go:62", after := #[{ on := 1, ground := Go.Ground.data }, { on := 3, ground := Go.Ground.data }, { on := 3, ground := Go.Ground.chain }], guard := none }) rfl (by kernel_rfl) (by rfl) (fun K hK => ?_)
  go_simp
  refine (lists18_any A1 A2 e1 e2 D D _ HL1.out R1.out R2.out HL2.out).mono ?_
  rintro e wq ⟨ht, hbq⟩
  obtain rfl := ht.eq_yes rfl
  replace c0 := below_cell hbq c0; replace HF := hid (HF.out.below hbq); replace HBW := hid (bthen HBW.out hbq)
  refine hK.out _ _ (by dsimp only [Obl]; exact c0) ?_
  clear hK K ht hbq
  try simp only [Act.put, List.setIfInBounds_toArray, List.set_cons_zero, List.set_cons_succ]
  refine anyJ_take (some 2) (i := 5) (T := fun _ => True) (v := ?_) rfl rfl (by kernel_rfl) (by kernel_rfl) (by kernel_rfl) (fun _ _ _ h => h) (js := [1, 3, 4]) (by kernel_rfl) Leads.true rfl (Or.inl ⟨by rfl, ?_⟩) trivial ?_
  rotate_left
  · (intro wL hSw; (try dsimp only at hSw); go_simp; try with_reducible rfl)
  try simp only [Act.put, List.setIfInBounds_toArray, List.set_cons_zero, List.set_cons_succ]
  refine anyJ_done (by kernel_rfl) ?_
  go_wp2_with fail
  go_ret
  exact ⟨rfl, HBW.out⟩
end Go.Proofs.Ytjddegfigdpcbaa
