/- DominatorTrees answers true. -/
import Derived.Test.YtjddegfigdpcbaaAR
import Derived.Test.YtjddegfigdpcbaaV
namespace Go.Proofs.Ytjddegfigdpcbaa
open Go.RowKit

theorem both_doms (pa : Option Addr) (pc : Nat) (F : List (List Int)) (hsm : ∀ i, i < F.length → (F.getD i []).length ≤ 900) :
    ∃ D : List Int, D.length ≤ F.length ∧ (∀ w, FRow w pa F → Calls Try.prog 16 #[.agg #[.slice pa F.length pc]] w (GivesInts w D)) ∧ (∀ w, FRow w pa F → Calls Try.prog 17 #[.agg #[.slice pa F.length pc]] w (GivesInts w D)) := by
  by_cases hV : VldF F
  · exact ⟨domL F, by simp [domL, immL], fun w h => Dominators_yes pa pc F w h hsm hV, fun w h => rDominators_yes pa pc F w h hsm hV⟩
  · exact ⟨[], by simp, fun w h => Dominators_no pa pc F w h hsm hV, fun w h => rDominators_no pa pc F w h hsm hV⟩
theorem both_posts (pa : Option Addr) (pc : Nat) (F : List (List Int)) (hsm : ∀ i, i < F.length → (F.getD i []).length ≤ 900) :
    ∃ D : List Int, D.length ≤ F.length ∧ (∀ w, FRow w pa F → Calls Try.prog 18 #[.agg #[.slice pa F.length pc]] w (GivesInts w D)) ∧ (∀ w, FRow w pa F → Calls Try.prog 19 #[.agg #[.slice pa F.length pc]] w (GivesInts w D)) := by
  by_cases hV : VldF F
  · exact ⟨postL F, by simp [postL, immL], fun w h => Postdominators_yes pa pc F w h hsm hV, fun w h => rPostdominators_yes pa pc F w h hsm hV⟩
  · exact ⟨[], by simp, fun w h => Postdominators_no pa pc F w h hsm hV, fun w h => rPostdominators_no pa pc F w h hsm hV⟩
set_option maxHeartbeats 4000000 in
set_option maxRecDepth 100000 in
theorem trees_any (pa : Option Addr) (pc : Nat) (F : List (List Int)) (w : World) (hF : FRow w pa F) (hl : F.length ≤ maxLen) :
    Calls Try.prog 3 #[.agg #[.slice pa F.length pc]] w fun e w' => e = .returned (.bool true) ∧ Below w.heap.size w w' := by
  have HF := hid hF; have hl' := hl
  unfold maxLen at hl'
  clear hF
  go_enter Try.func3, Try.ntmps3
  go_wp2_with fail
  refine (awake_any _).mono ?_
  rintro e w1 ⟨rfl, hb1⟩
  have c0 : w1.cell? ⟨w.heap.size, 0, none⟩ = some (.slice pa F.length pc) := box_cell hb1 0 _ rfl
  have HBW := hid (bthen (below_alloc w _) hb1)
  replace HF := hid (HF.out.below HBW.out)
  clear hb1
  by_cases hS : ¬ SmallF F 14
  · have HS := hid hS; clear hS
    go_wp2_with (go_at_call 12; refine (small_any _ _ _ _ _ HF.out hl).mono ?_; rintro e w2 ⟨ht, hb2⟩; obtain rfl := ht.eq_no HS.out; replace HBW := hid (bthen HBW.out hb2); clear ht hb2)
    go_ret
    exact ⟨rfl, HBW.out⟩
  have hS := Classical.not_not.1 hS
  have hFl := hS.2
  have HS := hid hS; clear hS
  go_wp2_with (go_at_call 12; refine (small_any _ _ _ _ _ HF.out hl).mono ?_; rintro e w3 ⟨ht, hb2⟩; obtain rfl := ht.eq_yes HS.out; replace c0 := below_cell hb2 c0; replace HF := hid (HF.out.below hb2); replace HBW := hid (bthen HBW.out hb2); clear ht hb2)
  replace c0 := below_cell (below_drew' w3) c0; replace HF := hid (HF.out.below (below_drew' w3)); replace HBW := hid (bthen HBW.out (below_drew' w3))
  obtain ⟨D, hDl, h1, h2⟩ := both_doms pa pc F HS.out.s900
  obtain ⟨P, hPl, h3, h4⟩ := both_posts pa pc F HS.out.s900
  have H1 := hid h1; have H2 := hid h2; have H3 := hid h3; have H4 := hid h4
  have HL1 := hid (show D.length ≤ 1000000000000 by omega); have HL2 := hid (show P.length ≤ 1000000000000 by omega)
  obtain ⟨v, hv⟩ : ∃ v : Bool, v = true ↔ VldF F := by
    by_cases h : VldF F
    · exact ⟨true, by simp [h]⟩
    · exact ⟨false, by simp [h]⟩
  have HV := hid hv
  clear h1 h2 h3 h4 hDl hPl hv
  refine wp_region_J (fun j => match j with | 1 => some (fun W => W.cell? ⟨w.heap.size, 0, none⟩ = some (.slice pa F.length pc)) | 3 => some (fun W => W.cell? ⟨w.heap.size, 0, none⟩ = some (.slice pa F.length pc)) | 7 => some (fun W => W.cell? ⟨w.heap.size, 0, none⟩ = some (.slice pa F.length pc)) | 9 => some (fun W => W.cell? ⟨w.heap.size, 0, none⟩ = some (.slice pa F.length pc)) | 10 => some (fun W => W.cell? ⟨w.heap.size, 0, none⟩ = some (.slice pa F.length pc)) | 14 => some (fun W => W.cell? ⟨w.heap.size, 0, none⟩ = some (.slice pa F.length pc)) | 16 => some (fun W => W.cell? ⟨w.heap.size, 0, none⟩ = some (.slice pa F.length pc)) | 17 => some (fun W => W.cell? ⟨w.heap.size, 0, none⟩ = some (.slice pa F.length pc)) | _ => none) (by kernel_rfl) ?_
  refine anyJ_take (some 8) (i := 0) (T := fun W => W.cell? ⟨w.heap.size, 0, none⟩ = some (.slice pa F.length pc)) (v := ?_) rfl rfl (by kernel_rfl) (by kernel_rfl) (by kernel_rfl) (fun _ _ _ h => h) (js := []) (by kernel_rfl) Leads.nil rfl (Or.inl ⟨by rfl, ?_⟩) (c0) ?_
  rotate_left
  · (intro wL hSw; (try dsimp only at hSw); go_simp; try with_reducible rfl)
  try simp only [Act.put, List.setIfInBounds_toArray, List.set_cons_zero, List.set_cons_succ]
  refine anyJ_take (some 10) (i := 2) (T := fun W => W.cell? ⟨w.heap.size, 0, none⟩ = some (.slice pa F.length pc)) (v := ?_) rfl rfl (by kernel_rfl) (by kernel_rfl) (by kernel_rfl) (fun _ _ _ h => h) (js := [1]) (by kernel_rfl) (Leads.cons _ rfl (fun w h => h) Leads.nil) rfl (Or.inl ⟨by rfl, ?_⟩) (c0) ?_
  rotate_left
  · (intro wL hSw; (try dsimp only at hSw); go_simp; try with_reducible rfl)
  try simp only [Act.put, List.setIfInBounds_toArray, List.set_cons_zero, List.set_cons_succ]
  refine anyJ_one (i := 1) (oi := { dst := some 9, op := Go.Op.call { callee := Go.Callee.value (Go.Operand.func 13), args := #[Go.Operand.tmp 8], argTypes := #[24] }, type := 4, pos := "law.go:28", after := #[{ on := 0, ground := Go.Ground.data }], guard := none }) rfl (by kernel_rfl) (by rfl) (fun K hK => ?_)
  go_simp
  refine (valid_any pa pc F _ HF.out HS.out.s6).mono ?_
  rintro e wq ⟨ht, hbq⟩
  obtain rfl := eq_of_tells ht HV.out
  replace c0 := below_cell hbq c0; replace HF := hid (HF.out.below hbq); replace HBW := hid (bthen HBW.out hbq)
  refine hK.out _ _ (by dsimp only [Obl]; exact c0) ?_
  clear hK K ht hbq
  try simp only [Act.put, List.setIfInBounds_toArray, List.set_cons_zero, List.set_cons_succ]
  refine anyJ_one (i := 3) (oi := { dst := some 11, op := Go.Op.call { callee := Go.Callee.value (Go.Operand.func 14), args := #[Go.Operand.tmp 10], argTypes := #[24] }, type := 4, pos := "law.go:28", after := #[{ on := 2, ground := Go.Ground.data }, { on := 1, ground := Go.Ground.chain }], guard := none }) rfl (by kernel_rfl) (by rfl) (fun K hK => ?_)
  go_simp
  refine (rvalid_any pa pc F _ HF.out HS.out.s6).mono ?_
  rintro e wq ⟨ht, hbq⟩
  obtain rfl := eq_of_tells ht HV.out
  replace c0 := below_cell hbq c0; replace HF := hid (HF.out.below hbq); replace HBW := hid (bthen HBW.out hbq)
  refine hK.out _ _ (by dsimp only [Obl]; exact c0) ?_
  clear hK K ht hbq
  try simp only [Act.put, List.setIfInBounds_toArray, List.set_cons_zero, List.set_cons_succ]
  refine anyJ_take (some 12) (i := 4) (T := fun _ => True) (v := ?_) rfl rfl (by kernel_rfl) (by kernel_rfl) (by kernel_rfl) (fun _ _ _ h => h) (js := [1, 3]) (by kernel_rfl) Leads.true rfl (Or.inl ⟨by rfl, ?_⟩) trivial ?_
  rotate_left
  · (intro wL hSw; (try dsimp only at hSw); go_simp; try with_reducible rfl)
  try simp only [Act.put, List.setIfInBounds_toArray, List.set_cons_zero, List.set_cons_succ]
  refine anyJ_take (some 13) (i := 5) (T := fun _ => True) (v := ?_) rfl rfl (by kernel_rfl) (by kernel_rfl) (by kernel_rfl) (fun _ _ _ h => h) (js := [1, 3]) (by kernel_rfl) Leads.true rfl (Or.inl ⟨by rfl, ?_⟩) trivial ?_
  rotate_left
  · (intro wL hSw; (try dsimp only at hSw); go_simp; try with_reducible rfl)
  try simp only [Act.put, List.setIfInBounds_toArray, List.set_cons_zero, List.set_cons_succ]
  refine anyJ_take (some 14) (i := 6) (T := fun W => W.cell? ⟨w.heap.size, 0, none⟩ = some (.slice pa F.length pc)) (v := ?_) rfl rfl (by kernel_rfl) (by kernel_rfl) (by kernel_rfl) (fun _ _ _ h => h) (js := [1, 3]) (by kernel_rfl) (Leads.cons _ rfl (fun w h => h) (Leads.cons _ rfl (fun w h => h) Leads.nil)) rfl (Or.inl ⟨by rfl, ?_⟩) (c0) ?_
  rotate_left
  · (intro wL hSw; (try dsimp only at hSw); go_simp; try with_reducible rfl)
  try simp only [Act.put, List.setIfInBounds_toArray, List.set_cons_zero, List.set_cons_succ]
  refine anyJ_take (some 16) (i := 8) (T := fun W => W.cell? ⟨w.heap.size, 0, none⟩ = some (.slice pa F.length pc)) (v := ?_) rfl rfl (by kernel_rfl) (by kernel_rfl) (by kernel_rfl) (fun _ _ _ h => h) (js := [1, 3, 7]) (by kernel_rfl) (Leads.cons _ rfl (fun w h => h) (Leads.cons _ rfl (fun w h => h) (Leads.cons _ rfl (fun w h => h) Leads.nil))) rfl (Or.inl ⟨by rfl, ?_⟩) (c0) ?_
  rotate_left
  · (intro wL hSw; (try dsimp only at hSw); go_simp; try with_reducible rfl)
  try simp only [Act.put, List.setIfInBounds_toArray, List.set_cons_zero, List.set_cons_succ]
  refine anyJ_one (i := 7) (oi := { dst := some 15, op := Go.Op.call { callee := Go.Callee.value (Go.Operand.func 16), args := #[Go.Operand.tmp 14], argTypes := #[24] }, type := 29, pos := "law.go:28", after := #[{ on := 6, ground := Go.Ground.data }, { on := 5, ground := Go.Ground.chain }, { on := 5, ground := Go.Ground.guard }], guard := some (5, true) }) rfl (by kernel_rfl) (by rfl) (fun K hK => ?_)
  go_simp
  refine (H1.out _ HF.out).mono ?_
  rintro e wq ⟨A1, e1, he, hrq, hbq⟩
  subst he
  replace c0 := below_cell hbq c0; replace HF := hid (HF.out.below hbq); replace HBW := hid (bthen HBW.out hbq)
  have R1 := hid hrq
  refine hK.out _ _ (by dsimp only [Obl]; exact c0) ?_
  clear hK K hrq hbq
  try simp only [Act.put, List.setIfInBounds_toArray, List.set_cons_zero, List.set_cons_succ]
  refine anyJ_one (i := 9) (oi := { dst := some 17, op := Go.Op.call { callee := Go.Callee.value (Go.Operand.func 17), args := #[Go.Operand.tmp 16], argTypes := #[24] }, type := 29, pos := "law.go:28", after := #[{ on := 8, ground := Go.Ground.data }, { on := 7, ground := Go.Ground.chain }, { on := 5, ground := Go.Ground.guard }], guard := some (5, true) }) rfl (by kernel_rfl) (by rfl) (fun K hK => ?_)
  go_simp
  refine (H2.out _ HF.out).mono ?_
  rintro e wq ⟨A2, e2, he, hrq, hbq⟩
  subst he
  replace c0 := below_cell hbq c0; replace HF := hid (HF.out.below hbq); replace HBW := hid (bthen HBW.out hbq); replace R1 := hid (R1.out.below hbq)
  have R2 := hid hrq
  refine hK.out _ _ (by dsimp only [Obl]; exact c0) ?_
  clear hK K hrq hbq
  try simp only [Act.put, List.setIfInBounds_toArray, List.set_cons_zero, List.set_cons_succ]
  refine anyJ_one (i := 10) (oi := { dst := some 18, op := Go.Op.call { callee := Go.Callee.value (Go.Operand.func 15), args := #[Go.Operand.tmp 15, Go.Operand.tmp 17], argTypes := #[29, 29] }, type := 4, pos := "law.go:28", after := #[{ on := 7, ground := Go.Ground.data }, { on := 9, ground := Go.Ground.data }, { on := 9, ground := Go.Ground.chain }, { on := 5, ground := Go.Ground.guard }], guard := some (5, true) }) rfl (by kernel_rfl) (by rfl) (fun K hK => ?_)
  go_simp
  refine (rints_any A1 A2 e1 e2 D D _ HL1.out HL1.out R1.out R2.out).mono ?_
  rintro e wq ⟨ht, hbq⟩
  obtain rfl := ht.eq_yes rfl
  replace c0 := below_cell hbq c0; replace HF := hid (HF.out.below hbq); replace HBW := hid (bthen HBW.out hbq)
  refine hK.out _ _ (by dsimp only [Obl]; exact c0) ?_
  clear hK K ht hbq
  try simp only [Act.put, List.setIfInBounds_toArray, List.set_cons_zero, List.set_cons_succ]
  refine anyJ_take (some 19) (i := 11) (T := fun _ => True) (v := ?_) rfl rfl (by kernel_rfl) (by kernel_rfl) (by kernel_rfl) (fun _ _ _ h => h) (js := [1, 3, 7, 9, 10]) (by kernel_rfl) Leads.true rfl (Or.inl ⟨by rfl, ?_⟩) trivial ?_
  rotate_left
  · (intro wL hSw; (try dsimp only at hSw); go_simp; try with_reducible rfl)
  try simp only [Act.put, List.setIfInBounds_toArray, List.set_cons_zero, List.set_cons_succ]
  refine anyJ_take (some 20) (i := 12) (T := fun _ => True) (v := ?_) rfl rfl (by kernel_rfl) (by kernel_rfl) (by kernel_rfl) (fun _ _ _ h => h) (js := [1, 3, 7, 9, 10]) (by kernel_rfl) Leads.true rfl (Or.inl ⟨by rfl, ?_⟩) trivial ?_
  rotate_left
  · (intro wL hSw; (try dsimp only at hSw); go_simp; try with_reducible rfl)
  try simp only [Act.put, List.setIfInBounds_toArray, List.set_cons_zero, List.set_cons_succ]
  refine anyJ_take (some 21) (i := 13) (T := fun W => W.cell? ⟨w.heap.size, 0, none⟩ = some (.slice pa F.length pc)) (v := ?_) rfl rfl (by kernel_rfl) (by kernel_rfl) (by kernel_rfl) (fun _ _ _ h => h) (js := [1, 3, 7, 9, 10]) (by kernel_rfl) (Leads.cons _ rfl (fun w h => h) (Leads.cons _ rfl (fun w h => h) (Leads.cons _ rfl (fun w h => h) (Leads.cons _ rfl (fun w h => h) (Leads.cons _ rfl (fun w h => h) Leads.nil))))) rfl (Or.inl ⟨by rfl, ?_⟩) (c0) ?_
  rotate_left
  · (intro wL hSw; (try dsimp only at hSw); go_simp; try with_reducible rfl)
  try simp only [Act.put, List.setIfInBounds_toArray, List.set_cons_zero, List.set_cons_succ]
  refine anyJ_take (some 23) (i := 15) (T := fun W => W.cell? ⟨w.heap.size, 0, none⟩ = some (.slice pa F.length pc)) (v := ?_) rfl rfl (by kernel_rfl) (by kernel_rfl) (by kernel_rfl) (fun _ _ _ h => h) (js := [1, 3, 7, 9, 10, 14]) (by kernel_rfl) (Leads.cons _ rfl (fun w h => h) (Leads.cons _ rfl (fun w h => h) (Leads.cons _ rfl (fun w h => h) (Leads.cons _ rfl (fun w h => h) (Leads.cons _ rfl (fun w h => h) (Leads.cons _ rfl (fun w h => h) Leads.nil)))))) rfl (Or.inl ⟨by rfl, ?_⟩) (c0) ?_
  rotate_left
  · (intro wL hSw; (try dsimp only at hSw); go_simp; try with_reducible rfl)
  try simp only [Act.put, List.setIfInBounds_toArray, List.set_cons_zero, List.set_cons_succ]
  refine anyJ_one (i := 14) (oi := { dst := some 22, op := Go.Op.call { callee := Go.Callee.value (Go.Operand.func 18), args := #[Go.Operand.tmp 21], argTypes := #[24] }, type := 29, pos := "law.go:28", after := #[{ on := 13, ground := Go.Ground.data }, { on := 12, ground := Go.Ground.chain }, { on := 12, ground := Go.Ground.guard }], guard := some (12, true) }) rfl (by kernel_rfl) (by rfl) (fun K hK => ?_)
  go_simp
  refine (H3.out _ HF.out).mono ?_
  rintro e wq ⟨A3, e3, he, hrq, hbq⟩
  subst he
  replace c0 := below_cell hbq c0; replace HF := hid (HF.out.below hbq); replace HBW := hid (bthen HBW.out hbq)
  have R3 := hid hrq
  refine hK.out _ _ (by dsimp only [Obl]; exact c0) ?_
  clear hK K hrq hbq
  try simp only [Act.put, List.setIfInBounds_toArray, List.set_cons_zero, List.set_cons_succ]
  refine anyJ_one (i := 16) (oi := { dst := some 24, op := Go.Op.call { callee := Go.Callee.value (Go.Operand.func 19), args := #[Go.Operand.tmp 23], argTypes := #[24] }, type := 29, pos := "law.go:28", after := #[{ on := 15, ground := Go.Ground.data }, { on := 14, ground := Go.Ground.chain }, { on := 12, ground := Go.Ground.guard }], guard := some (12, true) }) rfl (by kernel_rfl) (by rfl) (fun K hK => ?_)
  go_simp
  refine (H4.out _ HF.out).mono ?_
  rintro e wq ⟨A4, e4, he, hrq, hbq⟩
  subst he
  replace c0 := below_cell hbq c0; replace HF := hid (HF.out.below hbq); replace HBW := hid (bthen HBW.out hbq); replace R3 := hid (R3.out.below hbq)
  have R4 := hid hrq
  refine hK.out _ _ (by dsimp only [Obl]; exact c0) ?_
  clear hK K hrq hbq
  try simp only [Act.put, List.setIfInBounds_toArray, List.set_cons_zero, List.set_cons_succ]
  refine anyJ_one (i := 17) (oi := { dst := some 25, op := Go.Op.call { callee := Go.Callee.value (Go.Operand.func 15), args := #[Go.Operand.tmp 22, Go.Operand.tmp 24], argTypes := #[29, 29] }, type := 4, pos := "law.go:28", after := #[{ on := 14, ground := Go.Ground.data }, { on := 16, ground := Go.Ground.data }, { on := 16, ground := Go.Ground.chain }, { on := 12, ground := Go.Ground.guard }], guard := some (12, true) }) rfl (by kernel_rfl) (by rfl) (fun K hK => ?_)
  go_simp
  refine (rints_any A3 A4 e3 e4 P P _ HL2.out HL2.out R3.out R4.out).mono ?_
  rintro e wq ⟨ht, hbq⟩
  obtain rfl := ht.eq_yes rfl
  replace c0 := below_cell hbq c0; replace HF := hid (HF.out.below hbq); replace HBW := hid (bthen HBW.out hbq)
  refine hK.out _ _ (by dsimp only [Obl]; exact c0) ?_
  clear hK K ht hbq
  try simp only [Act.put, List.setIfInBounds_toArray, List.set_cons_zero, List.set_cons_succ]
  refine anyJ_take (some 26) (i := 18) (T := fun _ => True) (v := ?_) rfl rfl (by kernel_rfl) (by kernel_rfl) (by kernel_rfl) (fun _ _ _ h => h) (js := [1, 3, 7, 9, 10, 14, 16, 17]) (by kernel_rfl) Leads.true rfl (Or.inl ⟨by rfl, ?_⟩) trivial ?_
  rotate_left
  · (intro wL hSw; (try dsimp only at hSw); go_simp; try with_reducible rfl)
  try simp only [Act.put, List.setIfInBounds_toArray, List.set_cons_zero, List.set_cons_succ]
  refine anyJ_take (some 2) (i := 19) (T := fun _ => True) (v := ?_) rfl rfl (by kernel_rfl) (by kernel_rfl) (by kernel_rfl) (fun _ _ _ h => h) (js := [1, 3, 7, 9, 10, 14, 16, 17]) (by kernel_rfl) Leads.true rfl (Or.inl ⟨by rfl, ?_⟩) trivial ?_
  rotate_left
  · (intro wL hSw; (try dsimp only at hSw); go_simp; try with_reducible rfl)
  try simp only [Act.put, List.setIfInBounds_toArray, List.set_cons_zero, List.set_cons_succ]
  refine anyJ_done (by kernel_rfl) ?_
  go_wp2_with fail
  go_ret
  exact ⟨rfl, HBW.out⟩
end Go.Proofs.Ytjddegfigdpcbaa
