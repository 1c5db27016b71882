/- DominatorPairs answers true. -/
import Derived.Test.YtjddegfigdpcbaaAN
import Derived.Test.YtjddegfigdpcbaaV
namespace Go.Proofs.Ytjddegfigdpcbaa
open Go.RowKit

theorem Post_rev (pa : Option Addr) (pc : Nat) (F : List (List Int)) (a b : Int) (w : World) (hF : FRow w pa F) (hsm : ∀ i, i < F.length → (F.getD i []).length ≤ 900) :
    Calls Try.prog 22 #[.agg #[.slice pa F.length pc], .int .i64 a, .int .i64 b] w fun e w' => Tells (VldF F ∧ domP (revF F) 1 a b) e ∧ Below w.heap.size w w' := by
  refine (Postdominates_any pa pc F a b w hF hsm).mono ?_
  rintro e w1 ⟨⟨t, he, ht⟩, hb1⟩
  exact ⟨⟨t, he, ht.trans ⟨fun h => ⟨h.1, (post_iff h.1 a b).1 h.2⟩, fun h => ⟨h.1, (post_iff h.1 a b).2 h.2⟩⟩⟩, hb1⟩
set_option maxHeartbeats 4000000 in
set_option maxRecDepth 100000 in
theorem pairsLaw_any (pa : Option Addr) (pc : Nat) (F : List (List Int)) (a b : Int) (w : World) (hF : FRow w pa F) (hl : F.length ≤ maxLen) :
    Calls Try.prog 4 #[.agg #[.slice pa F.length pc], .int .i64 a, .int .i64 b] w fun e w' => e = .returned (.bool true) ∧ Below w.heap.size w w' := by
  have HF := hid hF; have hl' := hl
  unfold maxLen at hl'
  clear hF
  go_enter Try.func4, Try.ntmps4
  go_wp2_with fail
  refine (awake_any _).mono ?_
  rintro e w1 ⟨rfl, hb1⟩
  have c0 : w1.cell? ⟨w.heap.size, 0, none⟩ = some (.slice pa F.length pc) := box_cell hb1 0 _ rfl
  have HBW := hid (bthen (below_alloc w _) hb1)
  replace HF := hid (HF.out.below HBW.out)
  clear hb1
  by_cases hS : ¬ SmallF F 30
  · have HS := hid hS; clear hS
    go_wp2_with (go_at_call 12; refine (small_any _ _ _ _ _ HF.out hl).mono ?_; rintro e w2 ⟨ht, hb2⟩; obtain rfl := ht.eq_no HS.out; replace HBW := hid (bthen HBW.out hb2); clear ht hb2)
    go_ret
    exact ⟨rfl, HBW.out⟩
  have hS := Classical.not_not.1 hS
  have hFl := hS.2
  have HS := hid hS; clear hS
  go_wp2_with (go_at_call 12; refine (small_any _ _ _ _ _ HF.out hl).mono ?_; rintro e w3 ⟨ht, hb2⟩; obtain rfl := ht.eq_yes HS.out; replace c0 := below_cell hb2 c0; replace HF := hid (HF.out.below hb2); replace HBW := hid (bthen HBW.out hb2); clear ht hb2)
  replace c0 := below_cell (below_drew' w3) c0; replace HF := hid (HF.out.below (below_drew' w3)); replace HBW := hid (bthen HBW.out (below_drew' w3))
  by_cases hP : VldF F ∧ domP F 0 a b
  · have HP := hid hP; clear hP
    by_cases hQ : VldF F ∧ domP (revF F) 1 a b
    · have HQ := hid hQ; clear hQ
      refine wp_region_J (fun j => match j with | 3 => some (fun W => W.cell? ⟨w.heap.size, 0, none⟩ = some (.slice pa F.length pc)) | 7 => some (fun W => W.cell? ⟨w.heap.size, 0, none⟩ = some (.slice pa F.length pc)) | 13 => some (fun W => W.cell? ⟨w.heap.size, 0, none⟩ = some (.slice pa F.length pc)) | 17 => some (fun _ => True) | _ => none) (by kernel_rfl) ?_
      refine anyJ_take (some 12) (i := 0) (T := fun W => W.cell? ⟨w.heap.size, 0, none⟩ = some (.slice pa F.length pc)) (v := ?_) rfl rfl (by kernel_rfl) (by kernel_rfl) (by kernel_rfl) (fun _ _ _ h => h) (js := []) (by kernel_rfl) Leads.nil rfl (Or.inl ⟨by rfl, ?_⟩) (c0) ?_
      rotate_left
      · (intro wL hSw; (try dsimp only at hSw); go_simp; try with_reducible rfl)
      try simp only [Act.put, List.setIfInBounds_toArray, List.set_cons_zero, List.set_cons_succ]
      refine anyJ_take (some 13) (i := 1) (T := fun _ => True) (v := ?_) rfl rfl (by kernel_rfl) (by kernel_rfl) (by kernel_rfl) (fun _ _ _ h => h) (js := []) (by kernel_rfl) Leads.true rfl (Or.inl ⟨by rfl, ?_⟩) trivial ?_
      rotate_left
      · (intro wL hSw; (try dsimp only at hSw); go_simp; try with_reducible rfl)
      try simp only [Act.put, List.setIfInBounds_toArray, List.set_cons_zero, List.set_cons_succ]
      refine anyJ_take (some 14) (i := 2) (T := fun _ => True) (v := ?_) rfl rfl (by kernel_rfl) (by kernel_rfl) (by kernel_rfl) (fun _ _ _ h => h) (js := []) (by kernel_rfl) Leads.true rfl (Or.inl ⟨by rfl, ?_⟩) trivial ?_
      rotate_left
      · (intro wL hSw; (try dsimp only at hSw); go_simp; try with_reducible rfl)
      try simp only [Act.put, List.setIfInBounds_toArray, List.set_cons_zero, List.set_cons_succ]
      refine anyJ_take (some 16) (i := 4) (T := fun W => W.cell? ⟨w.heap.size, 0, none⟩ = some (.slice pa F.length pc)) (v := ?_) rfl rfl (by kernel_rfl) (by kernel_rfl) (by kernel_rfl) (fun _ _ _ h => h) (js := [3]) (by kernel_rfl) (Leads.cons _ rfl (fun w h => h) Leads.nil) rfl (Or.inl ⟨by rfl, ?_⟩) (c0) ?_
      rotate_left
      · (intro wL hSw; (try dsimp only at hSw); go_simp; try with_reducible rfl)
      try simp only [Act.put, List.setIfInBounds_toArray, List.set_cons_zero, List.set_cons_succ]
      refine anyJ_take (some 17) (i := 5) (T := fun _ => True) (v := ?_) rfl rfl (by kernel_rfl) (by kernel_rfl) (by kernel_rfl) (fun _ _ _ h => h) (js := [3]) (by kernel_rfl) Leads.true rfl (Or.inl ⟨by rfl, ?_⟩) trivial ?_
      rotate_left
      · (intro wL hSw; (try dsimp only at hSw); go_simp; try with_reducible rfl)
      try simp only [Act.put, List.setIfInBounds_toArray, List.set_cons_zero, List.set_cons_succ]
      refine anyJ_take (some 18) (i := 6) (T := fun _ => True) (v := ?_) rfl rfl (by kernel_rfl) (by kernel_rfl) (by kernel_rfl) (fun _ _ _ h => h) (js := [3]) (by kernel_rfl) Leads.true rfl (Or.inl ⟨by rfl, ?_⟩) trivial ?_
      rotate_left
      · (intro wL hSw; (try dsimp only at hSw); go_simp; try with_reducible rfl)
      try simp only [Act.put, List.setIfInBounds_toArray, List.set_cons_zero, List.set_cons_succ]
      refine anyJ_one (i := 3) (oi := { dst := some 15, op := Go.Op.call { callee := Go.Callee.value (Go.Operand.func 20), args := #[Go.Operand.tmp 12, Go.Operand.tmp 13, Go.Operand.tmp 14], argTypes := #[24, 3, 3] }, type := 4, pos := "law.go:39", after := #[{ on := 0, ground := Go.Ground.data }, { on := 1, ground := Go.Ground.data }, { on := 2, ground := Go.Ground.data }], guard := none }) rfl (by kernel_rfl) (by rfl) (fun K hK => ?_)
      go_simp
      refine (Dominates_any pa pc F a b _ HF.out HS.out.s900).mono ?_
      rintro e wq ⟨ht, hbq⟩
      obtain rfl := ht.eq_yes HP.out
      replace c0 := below_cell hbq c0; replace HF := hid (HF.out.below hbq); replace HBW := hid (bthen HBW.out hbq)
      refine hK.out _ _ (by dsimp only [Obl]; exact c0) ?_
      clear hK K ht hbq
      try simp only [Act.put, List.setIfInBounds_toArray, List.set_cons_zero, List.set_cons_succ]
      refine anyJ_one (i := 7) (oi := { dst := some 19, op := Go.Op.call { callee := Go.Callee.value (Go.Operand.func 21), args := #[Go.Operand.tmp 16, Go.Operand.tmp 17, Go.Operand.tmp 18], argTypes := #[24, 3, 3] }, type := 4, pos := "law.go:39", after := #[{ on := 4, ground := Go.Ground.data }, { on := 5, ground := Go.Ground.data }, { on := 6, ground := Go.Ground.data }, { on := 3, ground := Go.Ground.chain }], guard := none }) rfl (by kernel_rfl) (by rfl) (fun K hK => ?_)
      go_simp
      refine (rDominates_any pa pc F a b _ HF.out HS.out.s900).mono ?_
      rintro e wq ⟨ht, hbq⟩
      obtain rfl := ht.eq_yes HP.out
      replace c0 := below_cell hbq c0; replace HF := hid (HF.out.below hbq); replace HBW := hid (bthen HBW.out hbq)
      refine hK.out _ _ (by dsimp only [Obl]; exact c0) ?_
      clear hK K ht hbq
      try simp only [Act.put, List.setIfInBounds_toArray, List.set_cons_zero, List.set_cons_succ]
      refine anyJ_take (some 20) (i := 8) (T := fun _ => True) (v := ?_) rfl rfl (by kernel_rfl) (by kernel_rfl) (by kernel_rfl) (fun _ _ _ h => h) (js := [3, 7]) (by kernel_rfl) Leads.true rfl (Or.inl ⟨by rfl, ?_⟩) trivial ?_
      rotate_left
      · (intro wL hSw; (try dsimp only at hSw); go_simp; try with_reducible rfl)
      try simp only [Act.put, List.setIfInBounds_toArray, List.set_cons_zero, List.set_cons_succ]
      refine anyJ_take (some 21) (i := 9) (T := fun _ => True) (v := ?_) rfl rfl (by kernel_rfl) (by kernel_rfl) (by kernel_rfl) (fun _ _ _ h => h) (js := [3, 7]) (by kernel_rfl) Leads.true rfl (Or.inl ⟨by rfl, ?_⟩) trivial ?_
      rotate_left
      · (intro wL hSw; (try dsimp only at hSw); go_simp; try with_reducible rfl)
      try simp only [Act.put, List.setIfInBounds_toArray, List.set_cons_zero, List.set_cons_succ]
      refine anyJ_take (some 22) (i := 10) (T := fun W => W.cell? ⟨w.heap.size, 0, none⟩ = some (.slice pa F.length pc)) (v := ?_) rfl rfl (by kernel_rfl) (by kernel_rfl) (by kernel_rfl) (fun _ _ _ h => h) (js := [3, 7]) (by kernel_rfl) (Leads.cons _ rfl (fun w h => h) (Leads.cons _ rfl (fun w h => h) Leads.nil)) rfl (Or.inl ⟨by rfl, ?_⟩) (c0) ?_
      rotate_left
      · (intro wL hSw; (try dsimp only at hSw); go_simp; try with_reducible rfl)
      try simp only [Act.put, List.setIfInBounds_toArray, List.set_cons_zero, List.set_cons_succ]
      refine anyJ_take (some 23) (i := 11) (T := fun _ => True) (v := ?_) rfl rfl (by kernel_rfl) (by kernel_rfl) (by kernel_rfl) (fun _ _ _ h => h) (js := [3, 7]) (by kernel_rfl) Leads.true rfl (Or.inl ⟨by rfl, ?_⟩) trivial ?_
      rotate_left
      · (intro wL hSw; (try dsimp only at hSw); go_simp; try with_reducible rfl)
      try simp only [Act.put, List.setIfInBounds_toArray, List.set_cons_zero, List.set_cons_succ]
      refine anyJ_take (some 24) (i := 12) (T := fun _ => True) (v := ?_) rfl rfl (by kernel_rfl) (by kernel_rfl) (by kernel_rfl) (fun _ _ _ h => h) (js := [3, 7]) (by kernel_rfl) Leads.true rfl (Or.inl ⟨by rfl, ?_⟩) trivial ?_
      rotate_left
      · (intro wL hSw; (try dsimp only at hSw); go_simp; try with_reducible rfl)
      try simp only [Act.put, List.setIfInBounds_toArray, List.set_cons_zero, List.set_cons_succ]
      refine anyJ_take (some 26) (i := 14) (T := fun W => W.cell? ⟨w.heap.size, 0, none⟩ = some (.slice pa F.length pc)) (v := ?_) rfl rfl (by kernel_rfl) (by kernel_rfl) (by kernel_rfl) (fun _ _ _ h => h) (js := [3, 7, 13]) (by kernel_rfl) (Leads.cons _ rfl (fun w h => h) (Leads.cons _ rfl (fun w h => h) (Leads.cons _ rfl (fun w h => h) Leads.nil))) rfl (Or.inl ⟨by rfl, ?_⟩) (c0) ?_
      rotate_left
      · (intro wL hSw; (try dsimp only at hSw); go_simp; try with_reducible rfl)
      try simp only [Act.put, List.setIfInBounds_toArray, List.set_cons_zero, List.set_cons_succ]
      refine anyJ_take (some 27) (i := 15) (T := fun _ => True) (v := ?_) rfl rfl (by kernel_rfl) (by kernel_rfl) (by kernel_rfl) (fun _ _ _ h => h) (js := [3, 7, 13]) (by kernel_rfl) Leads.true rfl (Or.inl ⟨by rfl, ?_⟩) trivial ?_
      rotate_left
      · (intro wL hSw; (try dsimp only at hSw); go_simp; try with_reducible rfl)
      try simp only [Act.put, List.setIfInBounds_toArray, List.set_cons_zero, List.set_cons_succ]
      refine anyJ_take (some 28) (i := 16) (T := fun _ => True) (v := ?_) rfl rfl (by kernel_rfl) (by kernel_rfl) (by kernel_rfl) (fun _ _ _ h => h) (js := [3, 7, 13]) (by kernel_rfl) Leads.true rfl (Or.inl ⟨by rfl, ?_⟩) trivial ?_
      rotate_left
      · (intro wL hSw; (try dsimp only at hSw); go_simp; try with_reducible rfl)
      try simp only [Act.put, List.setIfInBounds_toArray, List.set_cons_zero, List.set_cons_succ]
      refine anyJ_one (i := 13) (oi := { dst := some 25, op := Go.Op.call { callee := Go.Callee.value (Go.Operand.func 22), args := #[Go.Operand.tmp 22, Go.Operand.tmp 23, Go.Operand.tmp 24], argTypes := #[24, 3, 3] }, type := 4, pos := "law.go:39", after := #[{ on := 10, ground := Go.Ground.data }, { on := 11, ground := Go.Ground.data }, { on := 12, ground := Go.Ground.data }, { on := 9, ground := Go.Ground.chain }, { on := 9, ground := Go.Ground.guard }], guard := some (9, true) }) rfl (by kernel_rfl) (by rfl) (fun K hK => ?_)
      go_simp
      refine (Post_rev pa pc F a b _ HF.out HS.out.s900).mono ?_
      rintro e wq ⟨ht, hbq⟩
      obtain rfl := ht.eq_yes HQ.out
      replace c0 := below_cell hbq c0; replace HF := hid (HF.out.below hbq); replace HBW := hid (bthen HBW.out hbq)
      refine hK.out _ _ (by dsimp only [Obl]; exact c0) ?_
      clear hK K ht hbq
      try simp only [Act.put, List.setIfInBounds_toArray, List.set_cons_zero, List.set_cons_succ]
      refine anyJ_one (i := 17) (oi := { dst := some 29, op := Go.Op.call { callee := Go.Callee.value (Go.Operand.func 23), args := #[Go.Operand.tmp 26, Go.Operand.tmp 27, Go.Operand.tmp 28], argTypes := #[24, 3, 3] }, type := 4, pos := "law.go:39", after := #[{ on := 14, ground := Go.Ground.data }, { on := 15, ground := Go.Ground.data }, { on := 16, ground := Go.Ground.data }, { on := 13, ground := Go.Ground.chain }, { on := 9, ground := Go.Ground.guard }], guard := some (9, true) }) rfl (by kernel_rfl) (by rfl) (fun K hK => ?_)
      go_simp
      refine (rPostdominates_any pa pc F a b _ HF.out HS.out.s900).mono ?_
      rintro e wq ⟨ht, hbq⟩
      obtain rfl := ht.eq_yes HQ.out
      replace c0 := below_cell hbq c0; replace HF := hid (HF.out.below hbq); replace HBW := hid (bthen HBW.out hbq)
      refine hK.out _ _ (trivial) ?_
      clear hK K ht hbq
      try simp only [Act.put, List.setIfInBounds_toArray, List.set_cons_zero, List.set_cons_succ]
      refine anyJ_take (some 30) (i := 18) (T := fun _ => True) (v := ?_) rfl rfl (by kernel_rfl) (by kernel_rfl) (by kernel_rfl) (fun _ _ _ h => h) (js := [3, 7, 13, 17]) (by kernel_rfl) Leads.true rfl (Or.inl ⟨by rfl, ?_⟩) trivial ?_
      rotate_left
      · (intro wL hSw; (try dsimp only at hSw); go_simp; try with_reducible rfl)
      try simp only [Act.put, List.setIfInBounds_toArray, List.set_cons_zero, List.set_cons_succ]
      refine anyJ_take (some 31) (i := 19) (T := fun _ => True) (v := ?_) rfl rfl (by kernel_rfl) (by kernel_rfl) (by kernel_rfl) (fun _ _ _ h => h) (js := [3, 7, 13, 17]) (by kernel_rfl) Leads.true rfl (Or.inl ⟨by rfl, ?_⟩) trivial ?_
      rotate_left
      · (intro wL hSw; (try dsimp only at hSw); go_simp; try with_reducible rfl)
      try simp only [Act.put, List.setIfInBounds_toArray, List.set_cons_zero, List.set_cons_succ]
      refine anyJ_take (some 6) (i := 20) (T := fun _ => True) (v := ?_) rfl rfl (by kernel_rfl) (by kernel_rfl) (by kernel_rfl) (fun _ _ _ h => h) (js := [3, 7, 13, 17]) (by kernel_rfl) Leads.true rfl (Or.inl ⟨by rfl, ?_⟩) trivial ?_
      rotate_left
      · (intro wL hSw; (try dsimp only at hSw); go_simp; try with_reducible rfl)
      try simp only [Act.put, List.setIfInBounds_toArray, List.set_cons_zero, List.set_cons_succ]
      refine anyJ_done (by kernel_rfl) ?_
      go_wp2_with fail
      go_ret
      exact ⟨rfl, HBW.out⟩
    · have HQ := hid hQ; clear hQ
      refine wp_region_J (fun j => match j with | 3 => some (fun W => W.cell? ⟨w.heap.size, 0, none⟩ = some (.slice pa F.length pc)) | 7 => some (fun W => W.cell? ⟨w.heap.size, 0, none⟩ = some (.slice pa F.length pc)) | 13 => some (fun W => W.cell? ⟨w.heap.size, 0, none⟩ = some (.slice pa F.length pc)) | 17 => some (fun _ => True) | _ => none) (by kernel_rfl) ?_
      refine anyJ_take (some 12) (i := 0) (T := fun W => W.cell? ⟨w.heap.size, 0, none⟩ = some (.slice pa F.length pc)) (v := ?_) rfl rfl (by kernel_rfl) (by kernel_rfl) (by kernel_rfl) (fun _ _ _ h => h) (js := []) (by kernel_rfl) Leads.nil rfl (Or.inl ⟨by rfl, ?_⟩) (c0) ?_
      rotate_left
      · (intro wL hSw; (try dsimp only at hSw); go_simp; try with_reducible rfl)
      try simp only [Act.put, List.setIfInBounds_toArray, List.set_cons_zero, List.set_cons_succ]
      refine anyJ_take (some 13) (i := 1) (T := fun _ => True) (v := ?_) rfl rfl (by kernel_rfl) (by kernel_rfl) (by kernel_rfl) (fun _ _ _ h => h) (js := []) (by kernel_rfl) Leads.true rfl (Or.inl ⟨by rfl, ?_⟩) trivial ?_
      rotate_left
      · (intro wL hSw; (try dsimp only at hSw); go_simp; try with_reducible rfl)
      try simp only [Act.put, List.setIfInBounds_toArray, List.set_cons_zero, List.set_cons_succ]
      refine anyJ_take (some 14) (i := 2) (T := fun _ => True) (v := ?_) rfl rfl (by kernel_rfl) (by kernel_rfl) (by kernel_rfl) (fun _ _ _ h => h) (js := []) (by kernel_rfl) Leads.true rfl (Or.inl ⟨by rfl, ?_⟩) trivial ?_
      rotate_left
      · (intro wL hSw; (try dsimp only at hSw); go_simp; try with_reducible rfl)
      try simp only [Act.put, List.setIfInBounds_toArray, List.set_cons_zero, List.set_cons_succ]
      refine anyJ_take (some 16) (i := 4) (T := fun W => W.cell? ⟨w.heap.size, 0, none⟩ = some (.slice pa F.length pc)) (v := ?_) rfl rfl (by kernel_rfl) (by kernel_rfl) (by kernel_rfl) (fun _ _ _ h => h) (js := [3]) (by kernel_rfl) (Leads.cons _ rfl (fun w h => h) Leads.nil) rfl (Or.inl ⟨by rfl, ?_⟩) (c0) ?_
      rotate_left
      · (intro wL hSw; (try dsimp only at hSw); go_simp; try with_reducible rfl)
      try simp only [Act.put, List.setIfInBounds_toArray, List.set_cons_zero, List.set_cons_succ]
      refine anyJ_take (some 17) (i := 5) (T := fun _ => True) (v := ?_) rfl rfl (by kernel_rfl) (by kernel_rfl) (by kernel_rfl) (fun _ _ _ h => h) (js := [3]) (by kernel_rfl) Leads.true rfl (Or.inl ⟨by rfl, ?_⟩) trivial ?_
      rotate_left
      · (intro wL hSw; (try dsimp only at hSw); go_simp; try with_reducible rfl)
      try simp only [Act.put, List.setIfInBounds_toArray, List.set_cons_zero, List.set_cons_succ]
      refine anyJ_take (some 18) (i := 6) (T := fun _ => True) (v := ?_) rfl rfl (by kernel_rfl) (by kernel_rfl) (by kernel_rfl) (fun _ _ _ h => h) (js := [3]) (by kernel_rfl) Leads.true rfl (Or.inl ⟨by rfl, ?_⟩) trivial ?_
      rotate_left
      · (intro wL hSw; (try dsimp only at hSw); go_simp; try with_reducible rfl)
      try simp only [Act.put, List.setIfInBounds_toArray, List.set_cons_zero, List.set_cons_succ]
      refine anyJ_one (i := 3) (oi := { dst := some 15, op := Go.Op.call { callee := Go.Callee.value (Go.Operand.func 20), args := #[Go.Operand.tmp 12, Go.Operand.tmp 13, Go.Operand.tmp 14], argTypes := #[24, 3, 3] }, type := 4, pos := "law.go:39", after := #[{ on := 0, ground := Go.Ground.data }, { on := 1, ground := Go.Ground.data }, { on := 2, ground := Go.Ground.data }], guard := none }) rfl (by kernel_rfl) (by rfl) (fun K hK => ?_)
      go_simp
      refine (Dominates_any pa pc F a b _ HF.out HS.out.s900).mono ?_
      rintro e wq ⟨ht, hbq⟩
      obtain rfl := ht.eq_yes HP.out
      replace c0 := below_cell hbq c0; replace HF := hid (HF.out.below hbq); replace HBW := hid (bthen HBW.out hbq)
      refine hK.out _ _ (by dsimp only [Obl]; exact c0) ?_
      clear hK K ht hbq
      try simp only [Act.put, List.setIfInBounds_toArray, List.set_cons_zero, List.set_cons_succ]
      refine anyJ_one (i := 7) (oi := { dst := some 19, op := Go.Op.call { callee := Go.Callee.value (Go.Operand.func 21), args := #[Go.Operand.tmp 16, Go.Operand.tmp 17, Go.Operand.tmp 18], argTypes := #[24, 3, 3] }, type := 4, pos := "law.go:39", after := #[{ on := 4, ground := Go.Ground.data }, { on := 5, ground := Go.Ground.data }, { on := 6, ground := Go.Ground.data }, { on := 3, ground := Go.Ground.chain }], guard := none }) rfl (by kernel_rfl) (by rfl) (fun K hK => ?_)
      go_simp
      refine (rDominates_any pa pc F a b _ HF.out HS.out.s900).mono ?_
      rintro e wq ⟨ht, hbq⟩
      obtain rfl := ht.eq_yes HP.out
      replace c0 := below_cell hbq c0; replace HF := hid (HF.out.below hbq); replace HBW := hid (bthen HBW.out hbq)
      refine hK.out _ _ (by dsimp only [Obl]; exact c0) ?_
      clear hK K ht hbq
      try simp only [Act.put, List.setIfInBounds_toArray, List.set_cons_zero, List.set_cons_succ]
      refine anyJ_take (some 20) (i := 8) (T := fun _ => True) (v := ?_) rfl rfl (by kernel_rfl) (by kernel_rfl) (by kernel_rfl) (fun _ _ _ h => h) (js := [3, 7]) (by kernel_rfl) Leads.true rfl (Or.inl ⟨by rfl, ?_⟩) trivial ?_
      rotate_left
      · (intro wL hSw; (try dsimp only at hSw); go_simp; try with_reducible rfl)
      try simp only [Act.put, List.setIfInBounds_toArray, List.set_cons_zero, List.set_cons_succ]
      refine anyJ_take (some 21) (i := 9) (T := fun _ => True) (v := ?_) rfl rfl (by kernel_rfl) (by kernel_rfl) (by kernel_rfl) (fun _ _ _ h => h) (js := [3, 7]) (by kernel_rfl) Leads.true rfl (Or.inl ⟨by rfl, ?_⟩) trivial ?_
      rotate_left
      · (intro wL hSw; (try dsimp only at hSw); go_simp; try with_reducible rfl)
      try simp only [Act.put, List.setIfInBounds_toArray, List.set_cons_zero, List.set_cons_succ]
      refine anyJ_take (some 22) (i := 10) (T := fun W => W.cell? ⟨w.heap.size, 0, none⟩ = some (.slice pa F.length pc)) (v := ?_) rfl rfl (by kernel_rfl) (by kernel_rfl) (by kernel_rfl) (fun _ _ _ h => h) (js := [3, 7]) (by kernel_rfl) (Leads.cons _ rfl (fun w h => h) (Leads.cons _ rfl (fun w h => h) Leads.nil)) rfl (Or.inl ⟨by rfl, ?_⟩) (c0) ?_
      rotate_left
      · (intro wL hSw; (try dsimp only at hSw); go_simp; try with_reducible rfl)
      try simp only [Act.put, List.setIfInBounds_toArray, List.set_cons_zero, List.set_cons_succ]
      refine anyJ_take (some 23) (i := 11) (T := fun _ => True) (v := ?_) rfl rfl (by kernel_rfl) (by kernel_rfl) (by kernel_rfl) (fun _ _ _ h => h) (js := [3, 7]) (by kernel_rfl) Leads.true rfl (Or.inl ⟨by rfl, ?_⟩) trivial ?_
      rotate_left
      · (intro wL hSw; (try dsimp only at hSw); go_simp; try with_reducible rfl)
      try simp only [Act.put, List.setIfInBounds_toArray, List.set_cons_zero, List.set_cons_succ]
      refine anyJ_take (some 24) (i := 12) (T := fun _ => True) (v := ?_) rfl rfl (by kernel_rfl) (by kernel_rfl) (by kernel_rfl) (fun _ _ _ h => h) (js := [3, 7]) (by kernel_rfl) Leads.true rfl (Or.inl ⟨by rfl, ?_⟩) trivial ?_
      rotate_left
      · (intro wL hSw; (try dsimp only at hSw); go_simp; try with_reducible rfl)
      try simp only [Act.put, List.setIfInBounds_toArray, List.set_cons_zero, List.set_cons_succ]
      refine anyJ_take (some 26) (i := 14) (T := fun W => W.cell? ⟨w.heap.size, 0, none⟩ = some (.slice pa F.length pc)) (v := ?_) rfl rfl (by kernel_rfl) (by kernel_rfl) (by kernel_rfl) (fun _ _ _ h => h) (js := [3, 7, 13]) (by kernel_rfl) (Leads.cons _ rfl (fun w h => h) (Leads.cons _ rfl (fun w h => h) (Leads.cons _ rfl (fun w h => h) Leads.nil))) rfl (Or.inl ⟨by rfl, ?_⟩) (c0) ?_
      rotate_left
      · (intro wL hSw; (try dsimp only at hSw); go_simp; try with_reducible rfl)
      try simp only [Act.put, List.setIfInBounds_toArray, List.set_cons_zero, List.set_cons_succ]
      refine anyJ_take (some 27) (i := 15) (T := fun _ => True) (v := ?_) rfl rfl (by kernel_rfl) (by kernel_rfl) (by kernel_rfl) (fun _ _ _ h => h) (js := [3, 7, 13]) (by kernel_rfl) Leads.true rfl (Or.inl ⟨by rfl, ?_⟩) trivial ?_
      rotate_left
      · (intro wL hSw; (try dsimp only at hSw); go_simp; try with_reducible rfl)
      try simp only [Act.put, List.setIfInBounds_toArray, List.set_cons_zero, List.set_cons_succ]
      refine anyJ_take (some 28) (i := 16) (T := fun _ => True) (v := ?_) rfl rfl (by kernel_rfl) (by kernel_rfl) (by kernel_rfl) (fun _ _ _ h => h) (js := [3, 7, 13]) (by kernel_rfl) Leads.true rfl (Or.inl ⟨by rfl, ?_⟩) trivial ?_
      rotate_left
      · (intro wL hSw; (try dsimp only at hSw); go_simp; try with_reducible rfl)
      try simp only [Act.put, List.setIfInBounds_toArray, List.set_cons_zero, List.set_cons_succ]
      refine anyJ_one (i := 13) (oi := { dst := some 25, op := Go.Op.call { callee := Go.Callee.value (Go.Operand.func 22), args := #[Go.Operand.tmp 22, Go.Operand.tmp 23, Go.Operand.tmp 24], argTypes := #[24, 3, 3] }, type := 4, pos := "law.go:39", after := #[{ on := 10, ground := Go.Ground.data }, { on := 11, ground := Go.Ground.data }, { on := 12, ground := Go.Ground.data }, { on := 9, ground := Go.Ground.chain }, { on := 9, ground := Go.Ground.guard }], guard := some (9, true) }) rfl (by kernel_rfl) (by rfl) (fun K hK => ?_)
      go_simp
      refine (Post_rev pa pc F a b _ HF.out HS.out.s900).mono ?_
      rintro e wq ⟨ht, hbq⟩
      obtain rfl := ht.eq_no HQ.out
      replace c0 := below_cell hbq c0; replace HF := hid (HF.out.below hbq); replace HBW := hid (bthen HBW.out hbq)
      refine hK.out _ _ (by dsimp only [Obl]; exact c0) ?_
      clear hK K ht hbq
      try simp only [Act.put, List.setIfInBounds_toArray, List.set_cons_zero, List.set_cons_succ]
      refine anyJ_one (i := 17) (oi := { dst := some 29, op := Go.Op.call { callee := Go.Callee.value (Go.Operand.func 23), args := #[Go.Operand.tmp 26, Go.Operand.tmp 27, Go.Operand.tmp 28], argTypes := #[24, 3, 3] }, type := 4, pos := "law.go:39", after := #[{ on := 14, ground := Go.Ground.data }, { on := 15, ground := Go.Ground.data }, { on := 16, ground := Go.Ground.data }, { on := 13, ground := Go.Ground.chain }, { on := 9, ground := Go.Ground.guard }], guard := some (9, true) }) rfl (by kernel_rfl) (by rfl) (fun K hK => ?_)
      go_simp
      refine (rPostdominates_any pa pc F a b _ HF.out HS.out.s900).mono ?_
      rintro e wq ⟨ht, hbq⟩
      obtain rfl := ht.eq_no HQ.out
      replace c0 := below_cell hbq c0; replace HF := hid (HF.out.below hbq); replace HBW := hid (bthen HBW.out hbq)
      refine hK.out _ _ (trivial) ?_
      clear hK K ht hbq
      try simp only [Act.put, List.setIfInBounds_toArray, List.set_cons_zero, List.set_cons_succ]
      refine anyJ_take (some 30) (i := 18) (T := fun _ => True) (v := ?_) rfl rfl (by kernel_rfl) (by kernel_rfl) (by kernel_rfl) (fun _ _ _ h => h) (js := [3, 7, 13, 17]) (by kernel_rfl) Leads.true rfl (Or.inl ⟨by rfl, ?_⟩) trivial ?_
      rotate_left
      · (intro wL hSw; (try dsimp only at hSw); go_simp; try with_reducible rfl)
      try simp only [Act.put, List.setIfInBounds_toArray, List.set_cons_zero, List.set_cons_succ]
      refine anyJ_take (some 31) (i := 19) (T := fun _ => True) (v := ?_) rfl rfl (by kernel_rfl) (by kernel_rfl) (by kernel_rfl) (fun _ _ _ h => h) (js := [3, 7, 13, 17]) (by kernel_rfl) Leads.true rfl (Or.inl ⟨by rfl, ?_⟩) trivial ?_
      rotate_left
      · (intro wL hSw; (try dsimp only at hSw); go_simp; try with_reducible rfl)
      try simp only [Act.put, List.setIfInBounds_toArray, List.set_cons_zero, List.set_cons_succ]
      refine anyJ_take (some 6) (i := 20) (T := fun _ => True) (v := ?_) rfl rfl (by kernel_rfl) (by kernel_rfl) (by kernel_rfl) (fun _ _ _ h => h) (js := [3, 7, 13, 17]) (by kernel_rfl) Leads.true rfl (Or.inl ⟨by rfl, ?_⟩) trivial ?_
      rotate_left
      · (intro wL hSw; (try dsimp only at hSw); go_simp; try with_reducible rfl)
      try simp only [Act.put, List.setIfInBounds_toArray, List.set_cons_zero, List.set_cons_succ]
      refine anyJ_done (by kernel_rfl) ?_
      go_wp2_with fail
      go_ret
      exact ⟨rfl, HBW.out⟩
  · have HP := hid hP; clear hP
    by_cases hQ : VldF F ∧ domP (revF F) 1 a b
    · have HQ := hid hQ; clear hQ
      refine wp_region_J (fun j => match j with | 3 => some (fun W => W.cell? ⟨w.heap.size, 0, none⟩ = some (.slice pa F.length pc)) | 7 => some (fun W => W.cell? ⟨w.heap.size, 0, none⟩ = some (.slice pa F.length pc)) | 13 => some (fun W => W.cell? ⟨w.heap.size, 0, none⟩ = some (.slice pa F.length pc)) | 17 => some (fun _ => True) | _ => none) (by kernel_rfl) ?_
      refine anyJ_take (some 12) (i := 0) (T := fun W => W.cell? ⟨w.heap.size, 0, none⟩ = some (.slice pa F.length pc)) (v := ?_) rfl rfl (by kernel_rfl) (by kernel_rfl) (by kernel_rfl) (fun _ _ _ h => h) (js := []) (by kernel_rfl) Leads.nil rfl (Or.inl ⟨by rfl, ?_⟩) (c0) ?_
      rotate_left
      · (intro wL hSw; (try dsimp only at hSw); go_simp; try with_reducible rfl)
      try simp only [Act.put, List.setIfInBounds_toArray, List.set_cons_zero, List.set_cons_succ]
      refine anyJ_take (some 13) (i := 1) (T := fun _ => True) (v := ?_) rfl rfl (by kernel_rfl) (by kernel_rfl) (by kernel_rfl) (fun _ _ _ h => h) (js := []) (by kernel_rfl) Leads.true rfl (Or.inl ⟨by rfl, ?_⟩) trivial ?_
      rotate_left
      · (intro wL hSw; (try dsimp only at hSw); go_simp; try with_reducible rfl)
      try simp only [Act.put, List.setIfInBounds_toArray, List.set_cons_zero, List.set_cons_succ]
      refine anyJ_take (some 14) (i := 2) (T := fun _ => True) (v := ?_) rfl rfl (by kernel_rfl) (by kernel_rfl) (by kernel_rfl) (fun _ _ _ h => h) (js := []) (by kernel_rfl) Leads.true rfl (Or.inl ⟨by rfl, ?_⟩) trivial ?_
      rotate_left
      · (intro wL hSw; (try dsimp only at hSw); go_simp; try with_reducible rfl)
      try simp only [Act.put, List.setIfInBounds_toArray, List.set_cons_zero, List.set_cons_succ]
      refine anyJ_take (some 16) (i := 4) (T := fun W => W.cell? ⟨w.heap.size, 0, none⟩ = some (.slice pa F.length pc)) (v := ?_) rfl rfl (by kernel_rfl) (by kernel_rfl) (by kernel_rfl) (fun _ _ _ h => h) (js := [3]) (by kernel_rfl) (Leads.cons _ rfl (fun w h => h) Leads.nil) rfl (Or.inl ⟨by rfl, ?_⟩) (c0) ?_
      rotate_left
      · (intro wL hSw; (try dsimp only at hSw); go_simp; try with_reducible rfl)
      try simp only [Act.put, List.setIfInBounds_toArray, List.set_cons_zero, List.set_cons_succ]
      refine anyJ_take (some 17) (i := 5) (T := fun _ => True) (v := ?_) rfl rfl (by kernel_rfl) (by kernel_rfl) (by kernel_rfl) (fun _ _ _ h => h) (js := [3]) (by kernel_rfl) Leads.true rfl (Or.inl ⟨by rfl, ?_⟩) trivial ?_
      rotate_left
      · (intro wL hSw; (try dsimp only at hSw); go_simp; try with_reducible rfl)
      try simp only [Act.put, List.setIfInBounds_toArray, List.set_cons_zero, List.set_cons_succ]
      refine anyJ_take (some 18) (i := 6) (T := fun _ => True) (v := ?_) rfl rfl (by kernel_rfl) (by kernel_rfl) (by kernel_rfl) (fun _ _ _ h => h) (js := [3]) (by kernel_rfl) Leads.true rfl (Or.inl ⟨by rfl, ?_⟩) trivial ?_
      rotate_left
      · (intro wL hSw; (try dsimp only at hSw); go_simp; try with_reducible rfl)
      try simp only [Act.put, List.setIfInBounds_toArray, List.set_cons_zero, List.set_cons_succ]
      refine anyJ_one (i := 3) (oi := { dst := some 15, op := Go.Op.call { callee := Go.Callee.value (Go.Operand.func 20), args := #[Go.Operand.tmp 12, Go.Operand.tmp 13, Go.Operand.tmp 14], argTypes := #[24, 3, 3] }, type := 4, pos := "law.go:39", after := #[{ on := 0, ground := Go.Ground.data }, { on := 1, ground := Go.Ground.data }, { on := 2, ground := Go.Ground.data }], guard := none }) rfl (by kernel_rfl) (by rfl) (fun K hK => ?_)
      go_simp
      refine (Dominates_any pa pc F a b _ HF.out HS.out.s900).mono ?_
      rintro e wq ⟨ht, hbq⟩
      obtain rfl := ht.eq_no HP.out
      replace c0 := below_cell hbq c0; replace HF := hid (HF.out.below hbq); replace HBW := hid (bthen HBW.out hbq)
      refine hK.out _ _ (by dsimp only [Obl]; exact c0) ?_
      clear hK K ht hbq
      try simp only [Act.put, List.setIfInBounds_toArray, List.set_cons_zero, List.set_cons_succ]
      refine anyJ_one (i := 7) (oi := { dst := some 19, op := Go.Op.call { callee := Go.Callee.value (Go.Operand.func 21), args := #[Go.Operand.tmp 16, Go.Operand.tmp 17, Go.Operand.tmp 18], argTypes := #[24, 3, 3] }, type := 4, pos := "law.go:39", after := #[{ on := 4, ground := Go.Ground.data }, { on := 5, ground := Go.Ground.data }, { on := 6, ground := Go.Ground.data }, { on := 3, ground := Go.Ground.chain }], guard := none }) rfl (by kernel_rfl) (by rfl) (fun K hK => ?_)
      go_simp
      refine (rDominates_any pa pc F a b _ HF.out HS.out.s900).mono ?_
      rintro e wq ⟨ht, hbq⟩
      obtain rfl := ht.eq_no HP.out
      replace c0 := below_cell hbq c0; replace HF := hid (HF.out.below hbq); replace HBW := hid (bthen HBW.out hbq)
      refine hK.out _ _ (by dsimp only [Obl]; exact c0) ?_
      clear hK K ht hbq
      try simp only [Act.put, List.setIfInBounds_toArray, List.set_cons_zero, List.set_cons_succ]
      refine anyJ_take (some 20) (i := 8) (T := fun _ => True) (v := ?_) rfl rfl (by kernel_rfl) (by kernel_rfl) (by kernel_rfl) (fun _ _ _ h => h) (js := [3, 7]) (by kernel_rfl) Leads.true rfl (Or.inl ⟨by rfl, ?_⟩) trivial ?_
      rotate_left
      · (intro wL hSw; (try dsimp only at hSw); go_simp; try with_reducible rfl)
      try simp only [Act.put, List.setIfInBounds_toArray, List.set_cons_zero, List.set_cons_succ]
      refine anyJ_take (some 21) (i := 9) (T := fun _ => True) (v := ?_) rfl rfl (by kernel_rfl) (by kernel_rfl) (by kernel_rfl) (fun _ _ _ h => h) (js := [3, 7]) (by kernel_rfl) Leads.true rfl (Or.inl ⟨by rfl, ?_⟩) trivial ?_
      rotate_left
      · (intro wL hSw; (try dsimp only at hSw); go_simp; try with_reducible rfl)
      try simp only [Act.put, List.setIfInBounds_toArray, List.set_cons_zero, List.set_cons_succ]
      refine anyJ_take (some 22) (i := 10) (T := fun W => W.cell? ⟨w.heap.size, 0, none⟩ = some (.slice pa F.length pc)) (v := ?_) rfl rfl (by kernel_rfl) (by kernel_rfl) (by kernel_rfl) (fun _ _ _ h => h) (js := [3, 7]) (by kernel_rfl) (Leads.cons _ rfl (fun w h => h) (Leads.cons _ rfl (fun w h => h) Leads.nil)) rfl (Or.inl ⟨by rfl, ?_⟩) (c0) ?_
      rotate_left
      · (intro wL hSw; (try dsimp only at hSw); go_simp; try with_reducible rfl)
      try simp only [Act.put, List.setIfInBounds_toArray, List.set_cons_zero, List.set_cons_succ]
      refine anyJ_take (some 23) (i := 11) (T := fun _ => True) (v := ?_) rfl rfl (by kernel_rfl) (by kernel_rfl) (by kernel_rfl) (fun _ _ _ h => h) (js := [3, 7]) (by kernel_rfl) Leads.true rfl (Or.inl ⟨by rfl, ?_⟩) trivial ?_
      rotate_left
      · (intro wL hSw; (try dsimp only at hSw); go_simp; try with_reducible rfl)
      try simp only [Act.put, List.setIfInBounds_toArray, List.set_cons_zero, List.set_cons_succ]
      refine anyJ_take (some 24) (i := 12) (T := fun _ => True) (v := ?_) rfl rfl (by kernel_rfl) (by kernel_rfl) (by kernel_rfl) (fun _ _ _ h => h) (js := [3, 7]) (by kernel_rfl) Leads.true rfl (Or.inl ⟨by rfl, ?_⟩) trivial ?_
      rotate_left
      · (intro wL hSw; (try dsimp only at hSw); go_simp; try with_reducible rfl)
      try simp only [Act.put, List.setIfInBounds_toArray, List.set_cons_zero, List.set_cons_succ]
      refine anyJ_take (some 26) (i := 14) (T := fun W => W.cell? ⟨w.heap.size, 0, none⟩ = some (.slice pa F.length pc)) (v := ?_) rfl rfl (by kernel_rfl) (by kernel_rfl) (by kernel_rfl) (fun _ _ _ h => h) (js := [3, 7, 13]) (by kernel_rfl) (Leads.cons _ rfl (fun w h => h) (Leads.cons _ rfl (fun w h => h) (Leads.cons _ rfl (fun w h => h) Leads.nil))) rfl (Or.inl ⟨by rfl, ?_⟩) (c0) ?_
      rotate_left
      · (intro wL hSw; (try dsimp only at hSw); go_simp; try with_reducible rfl)
      try simp only [Act.put, List.setIfInBounds_toArray, List.set_cons_zero, List.set_cons_succ]
      refine anyJ_take (some 27) (i := 15) (T := fun _ => True) (v := ?_) rfl rfl (by kernel_rfl) (by kernel_rfl) (by kernel_rfl) (fun _ _ _ h => h) (js := [3, 7, 13]) (by kernel_rfl) Leads.true rfl (Or.inl ⟨by rfl, ?_⟩) trivial ?_
      rotate_left
      · (intro wL hSw; (try dsimp only at hSw); go_simp; try with_reducible rfl)
      try simp only [Act.put, List.setIfInBounds_toArray, List.set_cons_zero, List.set_cons_succ]
      refine anyJ_take (some 28) (i := 16) (T := fun _ => True) (v := ?_) rfl rfl (by kernel_rfl) (by kernel_rfl) (by kernel_rfl) (fun _ _ _ h => h) (js := [3, 7, 13]) (by kernel_rfl) Leads.true rfl (Or.inl ⟨by rfl, ?_⟩) trivial ?_
      rotate_left
      · (intro wL hSw; (try dsimp only at hSw); go_simp; try with_reducible rfl)
      try simp only [Act.put, List.setIfInBounds_toArray, List.set_cons_zero, List.set_cons_succ]
      refine anyJ_one (i := 13) (oi := { dst := some 25, op := Go.Op.call { callee := Go.Callee.value (Go.Operand.func 22), args := #[Go.Operand.tmp 22, Go.Operand.tmp 23, Go.Operand.tmp 24], argTypes := #[24, 3, 3] }, type := 4, pos := "law.go:39", after := #[{ on := 10, ground := Go.Ground.data }, { on := 11, ground := Go.Ground.data }, { on := 12, ground := Go.Ground.data }, { on := 9, ground := Go.Ground.chain }, { on := 9, ground := Go.Ground.guard }], guard := some (9, true) }) rfl (by kernel_rfl) (by rfl) (fun K hK => ?_)
      go_simp
      refine (Post_rev pa pc F a b _ HF.out HS.out.s900).mono ?_
      rintro e wq ⟨ht, hbq⟩
      obtain rfl := ht.eq_yes HQ.out
      replace c0 := below_cell hbq c0; replace HF := hid (HF.out.below hbq); replace HBW := hid (bthen HBW.out hbq)
      refine hK.out _ _ (by dsimp only [Obl]; exact c0) ?_
      clear hK K ht hbq
      try simp only [Act.put, List.setIfInBounds_toArray, List.set_cons_zero, List.set_cons_succ]
      refine anyJ_one (i := 17) (oi := { dst := some 29, op := Go.Op.call { callee := Go.Callee.value (Go.Operand.func 23), args := #[Go.Operand.tmp 26, Go.Operand.tmp 27, Go.Operand.tmp 28], argTypes := #[24, 3, 3] }, type := 4, pos := "law.go:39", after := #[{ on := 14, ground := Go.Ground.data }, { on := 15, ground := Go.Ground.data }, { on := 16, ground := Go.Ground.data }, { on := 13, ground := Go.Ground.chain }, { on := 9, ground := Go.Ground.guard }], guard := some (9, true) }) rfl (by kernel_rfl) (by rfl) (fun K hK => ?_)
      go_simp
      refine (rPostdominates_any pa pc F a b _ HF.out HS.out.s900).mono ?_
      rintro e wq ⟨ht, hbq⟩
      obtain rfl := ht.eq_yes HQ.out
      replace c0 := below_cell hbq c0; replace HF := hid (HF.out.below hbq); replace HBW := hid (bthen HBW.out hbq)
      refine hK.out _ _ (trivial) ?_
      clear hK K ht hbq
      try simp only [Act.put, List.setIfInBounds_toArray, List.set_cons_zero, List.set_cons_succ]
      refine anyJ_take (some 30) (i := 18) (T := fun _ => True) (v := ?_) rfl rfl (by kernel_rfl) (by kernel_rfl) (by kernel_rfl) (fun _ _ _ h => h) (js := [3, 7, 13, 17]) (by kernel_rfl) Leads.true rfl (Or.inl ⟨by rfl, ?_⟩) trivial ?_
      rotate_left
      · (intro wL hSw; (try dsimp only at hSw); go_simp; try with_reducible rfl)
      try simp only [Act.put, List.setIfInBounds_toArray, List.set_cons_zero, List.set_cons_succ]
      refine anyJ_take (some 31) (i := 19) (T := fun _ => True) (v := ?_) rfl rfl (by kernel_rfl) (by kernel_rfl) (by kernel_rfl) (fun _ _ _ h => h) (js := [3, 7, 13, 17]) (by kernel_rfl) Leads.true rfl (Or.inl ⟨by rfl, ?_⟩) trivial ?_
      rotate_left
      · (intro wL hSw; (try dsimp only at hSw); go_simp; try with_reducible rfl)
      try simp only [Act.put, List.setIfInBounds_toArray, List.set_cons_zero, List.set_cons_succ]
      refine anyJ_take (some 6) (i := 20) (T := fun _ => True) (v := ?_) rfl rfl (by kernel_rfl) (by kernel_rfl) (by kernel_rfl) (fun _ _ _ h => h) (js := [3, 7, 13, 17]) (by kernel_rfl) Leads.true rfl (Or.inl ⟨by rfl, ?_⟩) trivial ?_
      rotate_left
      · (intro wL hSw; (try dsimp only at hSw); go_simp; try with_reducible rfl)
      try simp only [Act.put, List.setIfInBounds_toArray, List.set_cons_zero, List.set_cons_succ]
      refine anyJ_done (by kernel_rfl) ?_
      go_wp2_with fail
      go_ret
      exact ⟨rfl, HBW.out⟩
    · have HQ := hid hQ; clear hQ
      refine wp_region_J (fun j => match j with | 3 => some (fun W => W.cell? ⟨w.heap.size, 0, none⟩ = some (.slice pa F.length pc)) | 7 => some (fun W => W.cell? ⟨w.heap.size, 0, none⟩ = some (.slice pa F.length pc)) | 13 => some (fun W => W.cell? ⟨w.heap.size, 0, none⟩ = some (.slice pa F.length pc)) | 17 => some (fun _ => True) | _ => none) (by kernel_rfl) ?_
      refine anyJ_take (some 12) (i := 0) (T := fun W => W.cell? ⟨w.heap.size, 0, none⟩ = some (.slice pa F.length pc)) (v := ?_) rfl rfl (by kernel_rfl) (by kernel_rfl) (by kernel_rfl) (fun _ _ _ h => h) (js := []) (by kernel_rfl) Leads.nil rfl (Or.inl ⟨by rfl, ?_⟩) (c0) ?_
      rotate_left
      · (intro wL hSw; (try dsimp only at hSw); go_simp; try with_reducible rfl)
      try simp only [Act.put, List.setIfInBounds_toArray, List.set_cons_zero, List.set_cons_succ]
      refine anyJ_take (some 13) (i := 1) (T := fun _ => True) (v := ?_) rfl rfl (by kernel_rfl) (by kernel_rfl) (by kernel_rfl) (fun _ _ _ h => h) (js := []) (by kernel_rfl) Leads.true rfl (Or.inl ⟨by rfl, ?_⟩) trivial ?_
      rotate_left
      · (intro wL hSw; (try dsimp only at hSw); go_simp; try with_reducible rfl)
      try simp only [Act.put, List.setIfInBounds_toArray, List.set_cons_zero, List.set_cons_succ]
      refine anyJ_take (some 14) (i := 2) (T := fun _ => True) (v := ?_) rfl rfl (by kernel_rfl) (by kernel_rfl) (by kernel_rfl) (fun _ _ _ h => h) (js := []) (by kernel_rfl) Leads.true rfl (Or.inl ⟨by rfl, ?_⟩) trivial ?_
      rotate_left
      · (intro wL hSw; (try dsimp only at hSw); go_simp; try with_reducible rfl)
      try simp only [Act.put, List.setIfInBounds_toArray, List.set_cons_zero, List.set_cons_succ]
      refine anyJ_take (some 16) (i := 4) (T := fun W => W.cell? ⟨w.heap.size, 0, none⟩ = some (.slice pa F.length pc)) (v := ?_) rfl rfl (by kernel_rfl) (by kernel_rfl) (by kernel_rfl) (fun _ _ _ h => h) (js := [3]) (by kernel_rfl) (Leads.cons _ rfl (fun w h => h) Leads.nil) rfl (Or.inl ⟨by rfl, ?_⟩) (c0) ?_
      rotate_left
      · (intro wL hSw; (try dsimp only at hSw); go_simp; try with_reducible rfl)
      try simp only [Act.put, List.setIfInBounds_toArray, List.set_cons_zero, List.set_cons_succ]
      refine anyJ_take (some 17) (i := 5) (T := fun _ => True) (v := ?_) rfl rfl (by kernel_rfl) (by kernel_rfl) (by kernel_rfl) (fun _ _ _ h => h) (js := [3]) (by kernel_rfl) Leads.true rfl (Or.inl ⟨by rfl, ?_⟩) trivial ?_
      rotate_left
      · (intro wL hSw; (try dsimp only at hSw); go_simp; try with_reducible rfl)
      try simp only [Act.put, List.setIfInBounds_toArray, List.set_cons_zero, List.set_cons_succ]
      refine anyJ_take (some 18) (i := 6) (T := fun _ => True) (v := ?_) rfl rfl (by kernel_rfl) (by kernel_rfl) (by kernel_rfl) (fun _ _ _ h => h) (js := [3]) (by kernel_rfl) Leads.true rfl (Or.inl ⟨by rfl, ?_⟩) trivial ?_
      rotate_left
      · (intro wL hSw; (try dsimp only at hSw); go_simp; try with_reducible rfl)
      try simp only [Act.put, List.setIfInBounds_toArray, List.set_cons_zero, List.set_cons_succ]
      refine anyJ_one (i := 3) (oi := { dst := some 15, op := Go.Op.call { callee := Go.Callee.value (Go.Operand.func 20), args := #[Go.Operand.tmp 12, Go.Operand.tmp 13, Go.Operand.tmp 14], argTypes := #[24, 3, 3] }, type := 4, pos := "law.go:39", after := #[{ on := 0, ground := Go.Ground.data }, { on := 1, ground := Go.Ground.data }, { on := 2, ground := Go.Ground.data }], guard := none }) rfl (by kernel_rfl) (by rfl) (fun K hK => ?_)
      go_simp
      refine (Dominates_any pa pc F a b _ HF.out HS.out.s900).mono ?_
      rintro e wq ⟨ht, hbq⟩
      obtain rfl := ht.eq_no HP.out
      replace c0 := below_cell hbq c0; replace HF := hid (HF.out.below hbq); replace HBW := hid (bthen HBW.out hbq)
      refine hK.out _ _ (by dsimp only [Obl]; exact c0) ?_
      clear hK K ht hbq
      try simp only [Act.put, List.setIfInBounds_toArray, List.set_cons_zero, List.set_cons_succ]
      refine anyJ_one (i := 7) (oi := { dst := some 19, op := Go.Op.call { callee := Go.Callee.value (Go.Operand.func 21), args := #[Go.Operand.tmp 16, Go.Operand.tmp 17, Go.Operand.tmp 18], argTypes := #[24, 3, 3] }, type := 4, pos := "law.go:39", after := #[{ on := 4, ground := Go.Ground.data }, { on := 5, ground := Go.Ground.data }, { on := 6, ground := Go.Ground.data }, { on := 3, ground := Go.Ground.chain }], guard := none }) rfl (by kernel_rfl) (by rfl) (fun K hK => ?_)
      go_simp
      refine (rDominates_any pa pc F a b _ HF.out HS.out.s900).mono ?_
      rintro e wq ⟨ht, hbq⟩
      obtain rfl := ht.eq_no HP.out
      replace c0 := below_cell hbq c0; replace HF := hid (HF.out.below hbq); replace HBW := hid (bthen HBW.out hbq)
      refine hK.out _ _ (by dsimp only [Obl]; exact c0) ?_
      clear hK K ht hbq
      try simp only [Act.put, List.setIfInBounds_toArray, List.set_cons_zero, List.set_cons_succ]
      refine anyJ_take (some 20) (i := 8) (T := fun _ => True) (v := ?_) rfl rfl (by kernel_rfl) (by kernel_rfl) (by kernel_rfl) (fun _ _ _ h => h) (js := [3, 7]) (by kernel_rfl) Leads.true rfl (Or.inl ⟨by rfl, ?_⟩) trivial ?_
      rotate_left
      · (intro wL hSw; (try dsimp only at hSw); go_simp; try with_reducible rfl)
      try simp only [Act.put, List.setIfInBounds_toArray, List.set_cons_zero, List.set_cons_succ]
      refine anyJ_take (some 21) (i := 9) (T := fun _ => True) (v := ?_) rfl rfl (by kernel_rfl) (by kernel_rfl) (by kernel_rfl) (fun _ _ _ h => h) (js := [3, 7]) (by kernel_rfl) Leads.true rfl (Or.inl ⟨by rfl, ?_⟩) trivial ?_
      rotate_left
      · (intro wL hSw; (try dsimp only at hSw); go_simp; try with_reducible rfl)
      try simp only [Act.put, List.setIfInBounds_toArray, List.set_cons_zero, List.set_cons_succ]
      refine anyJ_take (some 22) (i := 10) (T := fun W => W.cell? ⟨w.heap.size, 0, none⟩ = some (.slice pa F.length pc)) (v := ?_) rfl rfl (by kernel_rfl) (by kernel_rfl) (by kernel_rfl) (fun _ _ _ h => h) (js := [3, 7]) (by kernel_rfl) (Leads.cons _ rfl (fun w h => h) (Leads.cons _ rfl (fun w h => h) Leads.nil)) rfl (Or.inl ⟨by rfl, ?_⟩) (c0) ?_
      rotate_left
      · (intro wL hSw; (try dsimp only at hSw); go_simp; try with_reducible rfl)
      try simp only [Act.put, List.setIfInBounds_toArray, List.set_cons_zero, List.set_cons_succ]
      refine anyJ_take (some 23) (i := 11) (T := fun _ => True) (v := ?_) rfl rfl (by kernel_rfl) (by kernel_rfl) (by kernel_rfl) (fun _ _ _ h => h) (js := [3, 7]) (by kernel_rfl) Leads.true rfl (Or.inl ⟨by rfl, ?_⟩) trivial ?_
      rotate_left
      · (intro wL hSw; (try dsimp only at hSw); go_simp; try with_reducible rfl)
      try simp only [Act.put, List.setIfInBounds_toArray, List.set_cons_zero, List.set_cons_succ]
      refine anyJ_take (some 24) (i := 12) (T := fun _ => True) (v := ?_) rfl rfl (by kernel_rfl) (by kernel_rfl) (by kernel_rfl) (fun _ _ _ h => h) (js := [3, 7]) (by kernel_rfl) Leads.true rfl (Or.inl ⟨by rfl, ?_⟩) trivial ?_
      rotate_left
      · (intro wL hSw; (try dsimp only at hSw); go_simp; try with_reducible rfl)
      try simp only [Act.put, List.setIfInBounds_toArray, List.set_cons_zero, List.set_cons_succ]
      refine anyJ_take (some 26) (i := 14) (T := fun W => W.cell? ⟨w.heap.size, 0, none⟩ = some (.slice pa F.length pc)) (v := ?_) rfl rfl (by kernel_rfl) (by kernel_rfl) (by kernel_rfl) (fun _ _ _ h => h) (js := [3, 7, 13]) (by kernel_rfl) (Leads.cons _ rfl (fun w h => h) (Leads.cons _ rfl (fun w h => h) (Leads.cons _ rfl (fun w h => h) Leads.nil))) rfl (Or.inl ⟨by rfl, ?_⟩) (c0) ?_
      rotate_left
      · (intro wL hSw; (try dsimp only at hSw); go_simp; try with_reducible rfl)
      try simp only [Act.put, List.setIfInBounds_toArray, List.set_cons_zero, List.set_cons_succ]
      refine anyJ_take (some 27) (i := 15) (T := fun _ => True) (v := ?_) rfl rfl (by kernel_rfl) (by kernel_rfl) (by kernel_rfl) (fun _ _ _ h => h) (js := [3, 7, 13]) (by kernel_rfl) Leads.true rfl (Or.inl ⟨by rfl, ?_⟩) trivial ?_
      rotate_left
      · (intro wL hSw; (try dsimp only at hSw); go_simp; try with_reducible rfl)
      try simp only [Act.put, List.setIfInBounds_toArray, List.set_cons_zero, List.set_cons_succ]
      refine anyJ_take (some 28) (i := 16) (T := fun _ => True) (v := ?_) rfl rfl (by kernel_rfl) (by kernel_rfl) (by kernel_rfl) (fun _ _ _ h => h) (js := [3, 7, 13]) (by kernel_rfl) Leads.true rfl (Or.inl ⟨by rfl, ?_⟩) trivial ?_
      rotate_left
      · (intro wL hSw; (try dsimp only at hSw); go_simp; try with_reducible rfl)
      try simp only [Act.put, List.setIfInBounds_toArray, List.set_cons_zero, List.set_cons_succ]
      refine anyJ_one (i := 13) (oi := { dst := some 25, op := Go.Op.call { callee := Go.Callee.value (Go.Operand.func 22), args := #[Go.Operand.tmp 22, Go.Operand.tmp 23, Go.Operand.tmp 24], argTypes := #[24, 3, 3] }, type := 4, pos := "law.go:39", after := #[{ on := 10, ground := Go.Ground.data }, { on := 11, ground := Go.Ground.data }, { on := 12, ground := Go.Ground.data }, { on := 9, ground := Go.Ground.chain }, { on := 9, ground := Go.Ground.guard }], guard := some (9, true) }) rfl (by kernel_rfl) (by rfl) (fun K hK => ?_)
      go_simp
      refine (Post_rev pa pc F a b _ HF.out HS.out.s900).mono ?_
      rintro e wq ⟨ht, hbq⟩
      obtain rfl := ht.eq_no HQ.out
      replace c0 := below_cell hbq c0; replace HF := hid (HF.out.below hbq); replace HBW := hid (bthen HBW.out hbq)
      refine hK.out _ _ (by dsimp only [Obl]; exact c0) ?_
      clear hK K ht hbq
      try simp only [Act.put, List.setIfInBounds_toArray, List.set_cons_zero, List.set_cons_succ]
      refine anyJ_one (i := 17) (oi := { dst := some 29, op := Go.Op.call { callee := Go.Callee.value (Go.Operand.func 23), args := #[Go.Operand.tmp 26, Go.Operand.tmp 27, Go.Operand.tmp 28], argTypes := #[24, 3, 3] }, type := 4, pos := "law.go:39", after := #[{ on := 14, ground := Go.Ground.data }, { on := 15, ground := Go.Ground.data }, { on := 16, ground := Go.Ground.data }, { on := 13, ground := Go.Ground.chain }, { on := 9, ground := Go.Ground.guard }], guard := some (9, true) }) rfl (by kernel_rfl) (by rfl) (fun K hK => ?_)
      go_simp
      refine (rPostdominates_any pa pc F a b _ HF.out HS.out.s900).mono ?_
      rintro e wq ⟨ht, hbq⟩
      obtain rfl := ht.eq_no HQ.out
      replace c0 := below_cell hbq c0; replace HF := hid (HF.out.below hbq); replace HBW := hid (bthen HBW.out hbq)
      refine hK.out _ _ (trivial) ?_
      clear hK K ht hbq
      try simp only [Act.put, List.setIfInBounds_toArray, List.set_cons_zero, List.set_cons_succ]
      refine anyJ_take (some 30) (i := 18) (T := fun _ => True) (v := ?_) rfl rfl (by kernel_rfl) (by kernel_rfl) (by kernel_rfl) (fun _ _ _ h => h) (js := [3, 7, 13, 17]) (by kernel_rfl) Leads.true rfl (Or.inl ⟨by rfl, ?_⟩) trivial ?_
      rotate_left
      · (intro wL hSw; (try dsimp only at hSw); go_simp; try with_reducible rfl)
      try simp only [Act.put, List.setIfInBounds_toArray, List.set_cons_zero, List.set_cons_succ]
      refine anyJ_take (some 31) (i := 19) (T := fun _ => True) (v := ?_) rfl rfl (by kernel_rfl) (by kernel_rfl) (by kernel_rfl) (fun _ _ _ h => h) (js := [3, 7, 13, 17]) (by kernel_rfl) Leads.true rfl (Or.inl ⟨by rfl, ?_⟩) trivial ?_
      rotate_left
      · (intro wL hSw; (try dsimp only at hSw); go_simp; try with_reducible rfl)
      try simp only [Act.put, List.setIfInBounds_toArray, List.set_cons_zero, List.set_cons_succ]
      refine anyJ_take (some 6) (i := 20) (T := fun _ => True) (v := ?_) rfl rfl (by kernel_rfl) (by kernel_rfl) (by kernel_rfl) (fun _ _ _ h => h) (js := [3, 7, 13, 17]) (by kernel_rfl) Leads.true rfl (Or.inl ⟨by rfl, ?_⟩) trivial ?_
      rotate_left
      · (intro wL hSw; (try dsimp only at hSw); go_simp; try with_reducible rfl)
      try simp only [Act.put, List.setIfInBounds_toArray, List.set_cons_zero, List.set_cons_succ]
      refine anyJ_done (by kernel_rfl) ?_
      go_wp2_with fail
      go_ret
      exact ⟨rfl, HBW.out⟩
end Go.Proofs.Ytjddegfigdpcbaa
