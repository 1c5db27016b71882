/- DominatorDuals answers true. -/
import Derived.Test.YtjddegfigdpcbaaAH
import Derived.Test.YtjddegfigdpcbaaV
namespace Go.Proofs.Ytjddegfigdpcbaa
open Go.RowKit

theorem Dominators_len (pa : Option Addr) (pc n : Nat) (F : List (List Int)) (w : World) (hn : F.length = n) (hF : FRow w pa F) (hsm : ∀ i, i < F.length → (F.getD i []).length ≤ 900) (hV : VldF F) :
    Calls Try.prog 16 #[.agg #[.slice pa n pc]] w (GivesInts w (domL F)) := by
  subst hn; exact Dominators_yes pa pc F w hF hsm hV
theorem valid_len (pa : Option Addr) (pc n : Nat) (F : List (List Int)) (w : World) (hn : F.length = n) (hF : FRow w pa F) (hsm : ∀ i, i < F.length → (F.getD i []).length ≤ 900) (hV : VldF F) :
    Calls Try.prog 13 #[.agg #[.slice pa n pc]] w fun e w' => e = .returned (.bool true) ∧ Below w.heap.size w w' := by
  subst hn; exact (valid_any pa pc F w hF (fun i hi => Nat.le_trans (hsm i hi) (by omega))).mono fun _ _ h => ⟨h.1.eq_yes hV, h.2⟩
set_option maxHeartbeats 4000000 in
set_option maxRecDepth 100000 in
theorem duals_any (pa : Option Addr) (pc : Nat) (F : List (List Int)) (w : World) (hF : FRow w pa F) (hl : F.length ≤ maxLen) :
    Calls Try.prog 7 #[.agg #[.slice pa F.length pc]] w fun e w' => e = .returned (.bool true) ∧ Below w.heap.size w w' := by
  have HF := hid hF; have hl' := hl
  unfold maxLen at hl'
  clear hF
  go_enter Try.func7, Try.ntmps7
  go_wp2_with fail
  refine (awake_any _).mono ?_
  rintro e w1 ⟨rfl, hb1⟩
  have c0 : w1.cell? ⟨w.heap.size, 0, none⟩ = some (.slice pa F.length pc) := box_cell hb1 0 _ rfl
  have HBW := hid (bthen (below_alloc w _) hb1)
  replace HF := hid (HF.out.below HBW.out)
  clear hb1
  by_cases hS : ¬ SmallF F 14
  · have HS := hid hS; clear hS
    go_wp2_with (go_at_call 12; refine (small_any _ _ _ _ _ HF.out hl).mono ?_; rintro e w2 ⟨ht, hb2⟩; obtain rfl := ht.eq_no HS.out; replace HBW := hid (bthen HBW.out hb2); clear ht hb2)
    go_ret
    exact ⟨rfl, HBW.out⟩
  have hS := Classical.not_not.1 hS
  have hFl := hS.2
  have HS := hid hS; clear hS
  by_cases hV : ¬ VldF F
  · have HV := hid hV; clear hV
    go_wp2_with (first | (go_at_call 12; refine (small_any _ _ _ _ _ HF.out hl).mono ?_; rintro e w2 ⟨ht, hb2⟩; obtain rfl := ht.eq_yes HS.out; replace c0 := below_cell hb2 c0; replace HF := hid (HF.out.below hb2); replace HBW := hid (bthen HBW.out hb2); clear ht hb2) | (go_at_call 14; refine (rvalid_any _ _ _ _ HF.out HS.out.s6).mono ?_; rintro e w3 ⟨ht, hb3⟩; obtain rfl := ht.eq_no HV.out; replace HBW := hid (bthen HBW.out hb3); clear ht hb3))
    go_ret
    exact ⟨rfl, HBW.out⟩
  have HV := hid (Classical.not_not.1 hV); clear hV
  go_wp2_with (first | (go_at_call 12; refine (small_any _ _ _ _ _ HF.out hl).mono ?_; rintro e w2 ⟨ht, hb2⟩; obtain rfl := ht.eq_yes HS.out; replace c0 := below_cell hb2 c0; replace HF := hid (HF.out.below hb2); replace HBW := hid (bthen HBW.out hb2); clear ht hb2) | (go_at_call 14; refine (rvalid_any _ _ _ _ HF.out HS.out.s6).mono ?_; rintro e w3 ⟨ht, hb3⟩; obtain rfl := ht.eq_yes HV.out; replace c0 := below_cell hb3 c0; replace HF := hid (HF.out.below hb3); replace HBW := hid (bthen HBW.out hb3); clear ht hb3))
  refine (Reverse_any pa pc F _ HF.out HV.out HS.out).mono ?_
  rintro e w4 ⟨pb, g, rfl, hg4, hsw, hb4⟩
  replace c0 := below_cell hb4 c0; replace HF := hid (HF.out.below hb4); replace HBW := hid (bthen HBW.out hb4)
  have HSW := hid hsw; have HG4 := hid hg4
  have HGV := hid (hsw.vld HV.out)
  have HGS := hid (show ∀ i, i < g.length → (g.getD i []).length ≤ 900 from fun i hi => Nat.le_trans (hsw.short i (by rw [← hsw.len]; exact hi)) (by omega))
  have HPL := hid (show (postL F).length = F.length by simp [postL, immL])
  have HDL := hid (show (domL g).length = F.length by simp [domL, immL, hsw.len])
  clear hg4 hsw hb4
  go_wp2_with fail
  obtain ⟨nb, hnb⟩ : ∃ x, x = w4.heap.size := ⟨_, rfl⟩
  have n0 : (w4.alloc (.cells #[.slice (some ⟨pb, 0, none⟩) F.length F.length] 24)).cell? ⟨nb, 0, none⟩ = some (.slice (some ⟨pb, 0, none⟩) F.length F.length) := by rw [hnb]; go_simp
  have hb5 := below_alloc w4 (.cells #[.slice (some ⟨pb, 0, none⟩) F.length F.length] 24)
  obtain ⟨w5, hw5⟩ : ∃ x, x = w4.alloc (.cells #[.slice (some ⟨pb, 0, none⟩) F.length F.length] 24) := ⟨_, rfl⟩
  rw [← hw5] at n0 hb5 ⊢
  rw [← hnb]
  replace c0 := below_cell hb5 c0; replace HF := hid (HF.out.below hb5); replace HG4 := hid (HG4.out.below hb5); replace HBW := hid (bthen HBW.out hb5)
  clear hb5 hw5 hnb
  replace c0 := below_cell (below_drew' w5) c0; replace n0 := below_cell (below_drew' w5) n0; replace HF := hid (HF.out.below (below_drew' w5)); replace HG4 := hid (HG4.out.below (below_drew' w5)); replace HBW := hid (bthen HBW.out (below_drew' w5))
  refine wp_region_J (fun j => match j with | 1 => some (fun W => W.cell? ⟨nb, 0, none⟩ = some (.slice (some ⟨pb, 0, none⟩) F.length F.length)) | 3 => some (fun W => W.cell? ⟨nb, 0, none⟩ = some (.slice (some ⟨pb, 0, none⟩) F.length F.length)) | _ => none) (by kernel_rfl) ?_
  refine anyJ_take (some 21) (i := 0) (T := fun W => W.cell? ⟨w.heap.size, 0, none⟩ = some (.slice pa F.length pc)) (v := ?_) rfl rfl (by kernel_rfl) (by kernel_rfl) (by kernel_rfl) (fun _ _ _ h => h) (js := []) (by kernel_rfl) Leads.nil rfl (Or.inl ⟨by rfl, ?_⟩) (c0) ?_
  rotate_left
  · (intro wL hSw; (try dsimp only at hSw); go_simp; try with_reducible rfl)
  try simp only [Act.put, List.setIfInBounds_toArray, List.set_cons_zero, List.set_cons_succ]
  refine anyJ_take (some 23) (i := 2) (T := fun W => W.cell? ⟨nb, 0, none⟩ = some (.slice (some ⟨pb, 0, none⟩) F.length F.length)) (v := ?_) rfl rfl (by kernel_rfl) (by kernel_rfl) (by kernel_rfl) (fun _ _ _ h => h) (js := [1]) (by kernel_rfl) (Leads.cons _ rfl (fun w h => h) Leads.nil) rfl (Or.inl ⟨by rfl, ?_⟩) (n0) ?_
  rotate_left
  · (intro wL hSw; (try dsimp only at hSw); go_simp; try with_reducible rfl)
  try simp only [Act.put, List.setIfInBounds_toArray, List.set_cons_zero, List.set_cons_succ]
  refine anyJ_one (i := 1) (oi := { dst := some 22, op := Go.Op.call { callee := Go.Callee.value (Go.Operand.func 18), args := #[Go.Operand.tmp 21], argTypes := #[24] }, type := 29, pos := "law.go:145", after := #[{ on := 0, ground := Go.Ground.data }], guard := none }) rfl (by kernel_rfl) (by rfl) (fun K hK => ?_)
  go_simp
  refine (Postdominators_yes pa pc F _ HF.out HS.out.s900 HV.out).mono ?_
  rintro e w6 ⟨A, cA, he, hrA, hb6⟩
  subst he
  replace n0 := below_cell hb6 n0; replace HG4 := hid (HG4.out.below hb6); replace HBW := hid (bthen HBW.out hb6)
  rw [HPL.out]
  have HA := hid hrA
  refine hK.out _ _ (by dsimp only [Obl]; exact n0) ?_
  clear hK K hb6 hrA
  try simp only [Act.put, List.setIfInBounds_toArray, List.set_cons_zero, List.set_cons_succ]
  refine anyJ_one (i := 3) (oi := { dst := some 24, op := Go.Op.call { callee := Go.Callee.value (Go.Operand.func 16), args := #[Go.Operand.tmp 23], argTypes := #[24] }, type := 29, pos := "law.go:145", after := #[{ on := 2, ground := Go.Ground.data }, { on := 1, ground := Go.Ground.chain }], guard := none }) rfl (by kernel_rfl) (by rfl) (fun K hK => ?_)
  go_simp
  refine (Dominators_len (some ⟨pb, 0, none⟩) F.length F.length g _ HSW.out.len HG4.out HGS.out HGV.out).mono ?_
  rintro e w7 ⟨D, cD, he, hrD, hb7⟩
  subst he
  replace n0 := below_cell hb7 n0; replace HG4 := hid (HG4.out.below hb7); replace HBW := hid (bthen HBW.out hb7); replace HA := hid (HA.out.below hb7)
  rw [HDL.out]
  have HD := hid hrD
  refine hK.out _ _ (by dsimp only [Obl]; exact n0) ?_
  clear hK K hb7 hrD
  try simp only [Act.put, List.setIfInBounds_toArray, List.set_cons_zero, List.set_cons_succ]
  refine anyJ_take (some 4) (i := 4) (T := fun _ => True) (v := ?_) rfl rfl (by kernel_rfl) (by kernel_rfl) (by kernel_rfl) (fun _ _ _ h => h) (js := [1, 3]) (by kernel_rfl) Leads.true rfl (Or.inl ⟨by rfl, ?_⟩) trivial ?_
  rotate_left
  · (intro wL hSw; (try dsimp only at hSw); go_simp; try with_reducible rfl)
  try simp only [Act.put, List.setIfInBounds_toArray, List.set_cons_zero, List.set_cons_succ]
  refine anyJ_take (some 5) (i := 5) (T := fun _ => True) (v := ?_) rfl rfl (by kernel_rfl) (by kernel_rfl) (by kernel_rfl) (fun _ _ _ h => h) (js := [1, 3]) (by kernel_rfl) Leads.true rfl (Or.inl ⟨by rfl, ?_⟩) trivial ?_
  rotate_left
  · (intro wL hSw; (try dsimp only at hSw); go_simp; try with_reducible rfl)
  try simp only [Act.put, List.setIfInBounds_toArray, List.set_cons_zero, List.set_cons_succ]
  refine anyJ_done (by kernel_rfl) ?_
  clear c0
  go_wp2_with (go_at_call 13; refine (valid_len (some ⟨pb, 0, none⟩) F.length F.length g _ HSW.out.len HG4.out HGS.out HGV.out).mono ?_; rintro e w8 ⟨rfl, hb8⟩; replace HBW := hid (bthen HBW.out hb8); replace HA := hid (HA.out.below hb8); replace HD := hid (HD.out.below hb8); clear n0)
  have hN2 := HV.out.lo
  clear hb8
  go_loopw [37] (fun i wr => ∃ a : Nat, a ≤ F.length ∧ i = .int .i64 a ∧ wr = w8) (fun i _ => F.length - (intOf i).toNat)
  case atStart => exact ⟨0, Nat.zero_le _, rfl, rfl⟩
  case round =>
    obtain ⟨a, ha, rfl, rfl⟩ := hrel
    by_cases hat : a < F.length
    · obtain ⟨sa, oa, rfl, ca⟩ := HA.out.int a (by rw [HPL.out]; exact hat)
      have hoa : oth a < F.length := oth_lt hN2 hat
      obtain ⟨sd, od, rfl, cd⟩ := HD.out.int (oth a) (by rw [HDL.out]; exact hoa)
      have j1 : ((oth a : Nat) : Int) < (F.length : Int) := by omega
      rcases swap_tree HV.out HSW.out hat with ⟨e1, e2⟩ | ⟨p, hp, e1, e2⟩
      · rw [e1] at ca; rw [e2] at cd
        clear e1 e2
        go_wp2_with (go_at_call 29; refine (other_any _ _ (by omega)).mono ?_; rintro e wq ⟨rfl, rfl⟩; rw [otherI_nat])
        exact ⟨⟨a + 1, by omega, by go_num, trivial⟩, by simp [intOf]; omega⟩
      · rw [e1] at ca; rw [e2] at cd
        clear e1 e2
        go_wp2_with (go_at_call 29; refine (other_any _ _ (by omega)).mono ?_; rintro e wq ⟨rfl, rfl⟩; rw [otherI_nat]; (try rw [oth_oth]))
        exact ⟨⟨a + 1, by omega, by go_num, trivial⟩, by simp [intOf]; omega⟩
    · go_wp2_with fail
      go_ret
      exact ⟨rfl, HBW.out⟩
end Go.Proofs.Ytjddegfigdpcbaa
