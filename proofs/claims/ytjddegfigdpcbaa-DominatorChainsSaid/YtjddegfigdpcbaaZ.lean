/- DominatorChains answers true. -/
import Derived.Test.YtjddegfigdpcbaaZ0
import Derived.Test.YtjddegfigdpcbaaV
namespace Go.Proofs.Ytjddegfigdpcbaa
open Go.RowKit

theorem domL_len (F : List (List Int)) : (domL F).length = F.length := by simp [domL, immL]
theorem postL_len (F : List (List Int)) : (postL F).length = F.length := by simp [postL, immL]
set_option maxHeartbeats 4000000 in
set_option maxRecDepth 100000 in
theorem chains_any (pa : Option Addr) (pc : Nat) (F : List (List Int)) (w : World) (hF : FRow w pa F) (hl : F.length ≤ maxLen) :
    Calls Try.prog 6 #[.agg #[.slice pa F.length pc]] w fun e w' => e = .returned (.bool true) ∧ Below w.heap.size w w' := by
  have HF := hid hF; have hl' := hl
  unfold maxLen at hl'
  clear hF
  go_enter Try.func6, Try.ntmps6
  go_wp2_with fail
  refine (awake_any _).mono ?_
  rintro e w1 ⟨rfl, hb1⟩
  have c0 : w1.cell? ⟨w.heap.size, 0, none⟩ = some (.slice pa F.length pc) := box_cell hb1 0 _ rfl
  have HBW := hid (bthen (below_alloc w _) hb1)
  replace HF := hid (HF.out.below HBW.out)
  clear hb1
  by_cases hS : ¬ SmallF F 14
  · have HS := hid hS; clear hS
    go_wp2_with (go_at_call 12; refine (small_any _ _ _ _ _ HF.out hl).mono ?_; rintro e w2 ⟨ht, hb2⟩; obtain rfl := ht.eq_no HS.out; replace HBW := hid (bthen HBW.out hb2); clear ht hb2)
    go_ret
    exact ⟨rfl, HBW.out⟩
  have hS := Classical.not_not.1 hS
  have hFl := hS.2
  have HS := hid hS; clear hS
  by_cases hV : ¬ VldF F
  · have HV := hid hV; clear hV
    go_wp2_with (first | (go_at_call 12; refine (small_any _ _ _ _ _ HF.out hl).mono ?_; rintro e w2 ⟨ht, hb2⟩; obtain rfl := ht.eq_yes HS.out; replace c0 := below_cell hb2 c0; replace HF := hid (HF.out.below hb2); replace HBW := hid (bthen HBW.out hb2); clear ht hb2) | (go_at_call 13; refine (valid_any _ _ _ _ HF.out HS.out.s6).mono ?_; rintro e w3 ⟨ht, hb3⟩; obtain rfl := ht.eq_no HV.out; replace HBW := hid (bthen HBW.out hb3); clear ht hb3))
    go_ret
    exact ⟨rfl, HBW.out⟩
  have HV := hid (Classical.not_not.1 hV); clear hV
  go_wp2_with (first | (go_at_call 12; refine (small_any _ _ _ _ _ HF.out hl).mono ?_; rintro e w2 ⟨ht, hb2⟩; obtain rfl := ht.eq_yes HS.out; replace c0 := below_cell hb2 c0; replace HF := hid (HF.out.below hb2); replace HBW := hid (bthen HBW.out hb2); clear ht hb2) | (go_at_call 13; refine (valid_any _ _ _ _ HF.out HS.out.s6).mono ?_; rintro e w3 ⟨ht, hb3⟩; obtain rfl := ht.eq_yes HV.out; replace c0 := below_cell hb3 c0; replace HF := hid (HF.out.below hb3); replace HBW := hid (bthen HBW.out hb3); clear ht hb3))
  replace c0 := below_cell (below_drew' w3) c0; replace HF := hid (HF.out.below (below_drew' w3)); replace HBW := hid (bthen HBW.out (below_drew' w3))
  have HDL := hid (domL_len F); have HPL := hid (postL_len F)
  refine wp_region_J (fun j => match j with | 1 => some (fun W => W.cell? ⟨w.heap.size, 0, none⟩ = some (.slice pa F.length pc)) | 3 => some (fun _ => True) | _ => none) (by kernel_rfl) ?_
  refine anyJ_take (some 19) (i := 0) (T := fun W => W.cell? ⟨w.heap.size, 0, none⟩ = some (.slice pa F.length pc)) (v := ?_) rfl rfl (by kernel_rfl) (by kernel_rfl) (by kernel_rfl) (fun _ _ _ h => h) (js := []) (by kernel_rfl) Leads.nil rfl (Or.inl ⟨by rfl, ?_⟩) (c0) ?_
  rotate_left
  · (intro wL hSw; (try dsimp only at hSw); go_simp; try with_reducible rfl)
  try simp only [Act.put, List.setIfInBounds_toArray, List.set_cons_zero, List.set_cons_succ]
  refine anyJ_take (some 21) (i := 2) (T := fun W => W.cell? ⟨w.heap.size, 0, none⟩ = some (.slice pa F.length pc)) (v := ?_) rfl rfl (by kernel_rfl) (by kernel_rfl) (by kernel_rfl) (fun _ _ _ h => h) (js := [1]) (by kernel_rfl) (Leads.cons _ rfl (fun w h => h) Leads.nil) rfl (Or.inl ⟨by rfl, ?_⟩) (c0) ?_
  rotate_left
  · (intro wL hSw; (try dsimp only at hSw); go_simp; try with_reducible rfl)
  try simp only [Act.put, List.setIfInBounds_toArray, List.set_cons_zero, List.set_cons_succ]
  refine anyJ_one (i := 1) (oi := { dst := some 20, op := Go.Op.call { callee := Go.Callee.value (Go.Operand.func 16), args := #[Go.Operand.tmp 19], argTypes := #[24] }, type := 29, pos := "law.go:73", after := #[{ on := 0, ground := Go.Ground.data }], guard := none }) rfl (by kernel_rfl) (by rfl) (fun K hK => ?_)
  go_simp
  refine (Dominators_yes pa pc F _ HF.out HS.out.s900 HV.out).mono ?_
  rintro e w4 ⟨A, cA, he, hrA, hb4⟩
  subst he
  replace c0 := below_cell hb4 c0; replace HF := hid (HF.out.below hb4); replace HBW := hid (bthen HBW.out hb4)
  rw [HDL.out]
  have HA := hid hrA
  refine hK.out _ _ (by dsimp only [Obl]; exact c0) ?_
  clear hK K hb4 hrA
  try simp only [Act.put, List.setIfInBounds_toArray, List.set_cons_zero, List.set_cons_succ]
  refine anyJ_one (i := 3) (oi := { dst := some 22, op := Go.Op.call { callee := Go.Callee.value (Go.Operand.func 18), args := #[Go.Operand.tmp 21], argTypes := #[24] }, type := 29, pos := "law.go:73", after := #[{ on := 2, ground := Go.Ground.data }, { on := 1, ground := Go.Ground.chain }], guard := none }) rfl (by kernel_rfl) (by rfl) (fun K hK => ?_)
  go_simp
  refine (Postdominators_yes pa pc F _ HF.out HS.out.s900 HV.out).mono ?_
  rintro e w5 ⟨D, cD, he, hrD, hb5⟩
  subst he
  replace c0 := below_cell hb5 c0; replace HF := hid (HF.out.below hb5); replace HBW := hid (bthen HBW.out hb5); replace HA := hid (HA.out.below hb5)
  rw [HPL.out]
  have HD := hid hrD
  refine hK.out _ _ trivial ?_
  clear hK K hb5 hrD
  try simp only [Act.put, List.setIfInBounds_toArray, List.set_cons_zero, List.set_cons_succ]
  refine anyJ_take (some 3) (i := 4) (T := fun _ => True) (v := ?_) rfl rfl (by kernel_rfl) (by kernel_rfl) (by kernel_rfl) (fun _ _ _ h => h) (js := [1, 3]) (by kernel_rfl) Leads.true rfl (Or.inl ⟨by rfl, ?_⟩) trivial ?_
  rotate_left
  · (intro wL hSw; (try dsimp only at hSw); go_simp; try with_reducible rfl)
  try simp only [Act.put, List.setIfInBounds_toArray, List.set_cons_zero, List.set_cons_succ]
  refine anyJ_take (some 4) (i := 5) (T := fun _ => True) (v := ?_) rfl rfl (by kernel_rfl) (by kernel_rfl) (by kernel_rfl) (fun _ _ _ h => h) (js := [1, 3]) (by kernel_rfl) Leads.true rfl (Or.inl ⟨by rfl, ?_⟩) trivial ?_
  rotate_left
  · (intro wL hSw; (try dsimp only at hSw); go_simp; try with_reducible rfl)
  try simp only [Act.put, List.setIfInBounds_toArray, List.set_cons_zero, List.set_cons_succ]
  refine anyJ_done (by kernel_rfl) ?_
  go_wp2_with fail
  obtain ⟨nb, hnb⟩ : ∃ x, x = w5.heap.size := ⟨_, rfl⟩
  have n0 : (w5.alloc (.cells #[.int .i64 F.length] 3)).cell? ⟨nb, 0, none⟩ = some (.int .i64 F.length) := by rw [hnb]; go_simp
  have hb6 := below_alloc w5 (.cells #[.int .i64 F.length] 3)
  obtain ⟨w6, hw6⟩ : ∃ x, x = w5.alloc (.cells #[.int .i64 F.length] 3) := ⟨_, rfl⟩
  rw [← hw6] at n0 hb6 ⊢
  rw [← hnb]
  replace c0 := below_cell hb6 c0; replace HF := hid (HF.out.below hb6); replace HA := hid (HA.out.below hb6); replace HD := hid (HD.out.below hb6); replace HBW := hid (bthen HBW.out hb6)
  have hN2 := HV.out.lo
  clear hb6 hw6 hnb
  go_loopw [38] (fun i wr => ∃ a : Nat, a ≤ F.length ∧ i = .int .i64 a ∧ Below w6.heap.size w6 wr) (fun i _ => F.length - (intOf i).toNat)
  case atStart => exact ⟨0, Nat.zero_le _, rfl, Below.refl _ _⟩
  case round =>
    obtain ⟨a, ha, rfl, hbr⟩ := hrel
    have k0 := below_cell hbr c0; have n5 := below_cell hbr n0
    have HF5 := hid (HF.out.below hbr); have HA5 := hid (HA.out.below hbr); have HD5 := hid (HD.out.below hbr)
    have HB7 := hid hbr
    clear hbr
    by_cases hat : a < F.length
    · go_wp2_with fail
      go_loopw [42] (fun i wi => ∃ b : Nat, b ≤ F.length ∧ i = .int .i64 b ∧ Below w6.heap.size w6 wi) (fun i _ => F.length - (intOf i).toNat)
      case atStart => exact ⟨0, Nat.zero_le _, rfl, HB7.out⟩
      case round =>
        obtain ⟨b, hb, rfl, hbi⟩ := hrel
        clear k0 n5 HF5 HA5 HD5 HB7
        have k0 := below_cell hbi c0; have n5 := below_cell hbi n0
        have HF5 := hid (HF.out.below hbi); have HA5 := hid (HA.out.below hbi); have HD5 := hid (HD.out.below hbi)
        have HB7 := hid hbi
        clear hbi
        by_cases hbt : b < F.length
        · obtain ⟨x1, h1⟩ : ∃ x, relF F 0 b b = x := ⟨_, rfl⟩
          obtain ⟨x2, h2⟩ : ∃ x, relF (revF F) 1 b b = x := ⟨_, rfl⟩
          obtain ⟨y1, h3⟩ : ∃ x, relF F 0 a b = x := ⟨_, rfl⟩
          obtain ⟨y2, h4⟩ : ∃ x, relF (revF F) 1 a b = x := ⟨_, rfl⟩
          have HX1 := hid h1; have HX2 := hid h2; have HY1 := hid h3; have HY2 := hid h4
          clear h1 h2 h3 h4
          cases x1 <;> cases x2 <;> cases y1 <;> cases y2 <;>
            (go_wp2_with (first | (go_at_call 20; with_reducible refine (Dom_nat _ pc F b b _ _ HF5.out HS.out.s900 HV.out hbt hbt HX1.out).mono ?_; rintro e wq ⟨rfl, hbq⟩; replace k0 := below_cell hbq k0; replace n5 := below_cell hbq n5; replace HF5 := hid (HF5.out.below hbq); replace HA5 := hid (HA5.out.below hbq); replace HD5 := hid (HD5.out.below hbq); replace HB7 := hid (bthen HB7.out hbq); clear hbq) | (go_at_call 20; with_reducible refine (Dom_nat _ pc F a b _ _ HF5.out HS.out.s900 HV.out hat hbt HY1.out).mono ?_; rintro e wq ⟨rfl, hbq⟩; replace k0 := below_cell hbq k0; replace n5 := below_cell hbq n5; replace HF5 := hid (HF5.out.below hbq); replace HA5 := hid (HA5.out.below hbq); replace HD5 := hid (HD5.out.below hbq); replace HB7 := hid (bthen HB7.out hbq); clear hbq) | (go_at_call 22; with_reducible refine (Post_nat _ pc F b b _ _ HF5.out HS.out.s900 HV.out hbt hbt HX2.out).mono ?_; rintro e wq ⟨rfl, hbq⟩; replace k0 := below_cell hbq k0; replace n5 := below_cell hbq n5; replace HF5 := hid (HF5.out.below hbq); replace HA5 := hid (HA5.out.below hbq); replace HD5 := hid (HD5.out.below hbq); replace HB7 := hid (bthen HB7.out hbq); clear hbq) | (go_at_call 22; with_reducible refine (Post_nat _ pc F a b _ _ HF5.out HS.out.s900 HV.out hat hbt HY2.out).mono ?_; rintro e wq ⟨rfl, hbq⟩; replace k0 := below_cell hbq k0; replace n5 := below_cell hbq n5; replace HF5 := hid (HF5.out.below hbq); replace HA5 := hid (HA5.out.below hbq); replace HD5 := hid (HD5.out.below hbq); replace HB7 := hid (bthen HB7.out hbq); clear hbq) | (go_at_call 27; with_reducible refine (chainD_any A _ F a b _ nb _ HV.out HA5.out n5 hat hbt HX1.out HY1.out).mono ?_; rintro e wq ⟨rfl, rfl⟩) | (go_at_call 27; with_reducible refine (chainP_any D _ F a b _ nb _ HV.out HD5.out n5 hat hbt HX2.out HY2.out).mono ?_; rintro e wq ⟨rfl, rfl⟩))
             exact ⟨⟨b + 1, by omega, by go_num, HB7.out⟩, by simp [intOf]; omega⟩)
        · clear hb
          obtain ⟨x1, h1⟩ : ∃ x, relF F 0 a a = x := ⟨_, rfl⟩
          obtain ⟨x2, h2⟩ : ∃ x, relF (revF F) 1 a a = x := ⟨_, rfl⟩
          have HX1 := hid h1; have HX2 := hid h2
          obtain ⟨sa, oa, rfl, ca⟩ := HA5.out.int a (by rw [HDL.out]; exact hat)
          obtain ⟨sd, od, rfl, cd⟩ := HD5.out.int a (by rw [HPL.out]; exact hat)
          obtain ⟨u1, hu1⟩ : ∃ u, u = (domL F).getD a 0 := ⟨_, rfl⟩
          obtain ⟨u2, hu2⟩ : ∃ u, u = (postL F).getD a 0 := ⟨_, rfl⟩
          rw [← hu1] at ca; rw [← hu2] at cd
          have hU1 : x1 = false → u1 = -1 := fun e => hu1.trans (immL_off (relF_tree HV.out.ok 0) hat (h1.trans e))
          have hU2 : x2 = false → u2 = -1 := fun e => hu2.trans (immL_off (by have := relF_tree (revF_rev HV.out).ok 1; rw [(revF_rev HV.out).len] at this; exact this) hat (h2.trans e))
          clear h1 h2 hu1 hu2
          cases x1 <;> cases x2
          · obtain rfl := hU1 rfl
            obtain rfl := hU2 rfl
            clear hU1 hU2
            go_wp2_with (first | (go_at_call 20; with_reducible refine (Dom_nat _ pc F a a _ _ HF5.out HS.out.s900 HV.out hat hat HX1.out).mono ?_; rintro e wq ⟨rfl, hbq⟩; replace k0 := below_cell hbq k0; replace ca := below_cell hbq ca; replace cd := below_cell hbq cd; replace HF5 := hid (HF5.out.below hbq); replace HB7 := hid (bthen HB7.out hbq); clear hbq) | (go_at_call 22; with_reducible refine (Post_nat _ pc F a a _ _ HF5.out HS.out.s900 HV.out hat hat HX2.out).mono ?_; rintro e wq ⟨rfl, hbq⟩; replace k0 := below_cell hbq k0; replace ca := below_cell hbq ca; replace cd := below_cell hbq cd; replace HF5 := hid (HF5.out.below hbq); replace HB7 := hid (bthen HB7.out hbq); clear hbq))
            exact ⟨⟨a + 1, by omega, by go_num, HB7.out⟩, by simp [intOf]; omega⟩
          · obtain rfl := hU1 rfl
            skip
            clear hU1 hU2
            go_wp2_with (first | (go_at_call 20; with_reducible refine (Dom_nat _ pc F a a _ _ HF5.out HS.out.s900 HV.out hat hat HX1.out).mono ?_; rintro e wq ⟨rfl, hbq⟩; replace k0 := below_cell hbq k0; replace ca := below_cell hbq ca; replace cd := below_cell hbq cd; replace HF5 := hid (HF5.out.below hbq); replace HB7 := hid (bthen HB7.out hbq); clear hbq) | (go_at_call 22; with_reducible refine (Post_nat _ pc F a a _ _ HF5.out HS.out.s900 HV.out hat hat HX2.out).mono ?_; rintro e wq ⟨rfl, hbq⟩; replace k0 := below_cell hbq k0; replace ca := below_cell hbq ca; replace cd := below_cell hbq cd; replace HF5 := hid (HF5.out.below hbq); replace HB7 := hid (bthen HB7.out hbq); clear hbq))
            exact ⟨⟨a + 1, by omega, by go_num, HB7.out⟩, by simp [intOf]; omega⟩
          · skip
            obtain rfl := hU2 rfl
            clear hU1 hU2
            go_wp2_with (first | (go_at_call 20; with_reducible refine (Dom_nat _ pc F a a _ _ HF5.out HS.out.s900 HV.out hat hat HX1.out).mono ?_; rintro e wq ⟨rfl, hbq⟩; replace k0 := below_cell hbq k0; replace ca := below_cell hbq ca; replace cd := below_cell hbq cd; replace HF5 := hid (HF5.out.below hbq); replace HB7 := hid (bthen HB7.out hbq); clear hbq) | (go_at_call 22; with_reducible refine (Post_nat _ pc F a a _ _ HF5.out HS.out.s900 HV.out hat hat HX2.out).mono ?_; rintro e wq ⟨rfl, hbq⟩; replace k0 := below_cell hbq k0; replace ca := below_cell hbq ca; replace cd := below_cell hbq cd; replace HF5 := hid (HF5.out.below hbq); replace HB7 := hid (bthen HB7.out hbq); clear hbq))
            exact ⟨⟨a + 1, by omega, by go_num, HB7.out⟩, by simp [intOf]; omega⟩
          · skip
            skip
            clear hU1 hU2
            go_wp2_with (first | (go_at_call 20; with_reducible refine (Dom_nat _ pc F a a _ _ HF5.out HS.out.s900 HV.out hat hat HX1.out).mono ?_; rintro e wq ⟨rfl, hbq⟩; replace k0 := below_cell hbq k0; replace ca := below_cell hbq ca; replace cd := below_cell hbq cd; replace HF5 := hid (HF5.out.below hbq); replace HB7 := hid (bthen HB7.out hbq); clear hbq) | (go_at_call 22; with_reducible refine (Post_nat _ pc F a a _ _ HF5.out HS.out.s900 HV.out hat hat HX2.out).mono ?_; rintro e wq ⟨rfl, hbq⟩; replace k0 := below_cell hbq k0; replace ca := below_cell hbq ca; replace cd := below_cell hbq cd; replace HF5 := hid (HF5.out.below hbq); replace HB7 := hid (bthen HB7.out hbq); clear hbq))
            exact ⟨⟨a + 1, by omega, by go_num, HB7.out⟩, by simp [intOf]; omega⟩
    · obtain ⟨sa, oa, rfl, ca⟩ := HA5.out.int 0 (by rw [HDL.out]; omega)
      obtain ⟨sd, od, rfl, cd⟩ := HD5.out.int 1 (by rw [HPL.out]; omega)
      have hu1 : (domL F).getD 0 0 = -1 := immL_root HV.out.ok (by omega)
      have hu2 : (postL F).getD 1 0 = -1 := by
        have := immL_root (root := 1) (revF_rev HV.out).ok (by rw [(revF_rev HV.out).len]; omega)
        rw [(revF_rev HV.out).len] at this; exact this
      rw [hu1] at ca; rw [hu2] at cd
      clear hu1 hu2
      rw [Nat.add_zero] at ca
      go_wp2_with fail
      go_ret
      exact ⟨rfl, bthen HBW.out HB7.out⟩
end Go.Proofs.Ytjddegfigdpcbaa
