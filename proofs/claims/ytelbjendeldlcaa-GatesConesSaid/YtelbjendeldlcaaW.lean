/- The closure of assessorlaw24.GatesMean: the value of a literal in the circuit so far. -/
import Derived.Test.YtelbjendeldlcaaU
namespace Go.Proofs.Ytelbjendeldlcaa
open Go.RowKit

section
variable {P : Program} {ops : Array Oper} {Q : Exit → Act → World → Prop} {S : Nat → Option (World → Prop)}
/-- Two operations may come up now. -/
theorem anyJ_two {i j : Nat} {oi oj : Oper} {fuel : Nat} {listed : Array Bool} {a : Act} {w : World} (hi : ops[i]? = some oi) (hj : ops[j]? = some oj) (hr : Region.ready .any ops listed = [i, j])
    (hgi : Region.wanted oi (yielded ops a.tmps) = true) (hgj : Region.wanted oj (yielded ops a.tmps) = true)
    (h1 : ∀ K : Act → World → Prop, Shut (∀ a w', Obl (S i) w w' → anyJ P ops Q S fuel (listed.setIfInBounds i true) a w' → K a w') → Oper.wp P oi a w K Q)
    (h2 : ∀ K : Act → World → Prop, Shut (∀ a w', Obl (S j) w w' → anyJ P ops Q S fuel (listed.setIfInBounds j true) a w' → K a w') → Oper.wp P oj a w K Q) : anyJ P ops Q S (fuel + 1) listed a w := fun hcl => by
  have hmi : i ∈ Region.ready .any ops listed := by rw [hr]; simp
  have hmj : j ∈ Region.ready .any ops listed := by rw [hr]; simp
  refine ⟨fun h0 => (by rw [h0] at hr; cases hr), fun k hk => ?_⟩
  rw [hr] at hk
  rcases List.mem_cons.1 hk with rfl | hk
  · unfold wpOp
    simp only [hi]
    rw [if_pos hgi]
    exact .inl (h1 _ (fun a' w' hS hA => ⟨hS, hA (hcl.set hmi)⟩))
  · obtain rfl := List.mem_singleton.1 hk
    unfold wpOp
    simp only [hj]
    rw [if_pos hgj]
    exact .inl (h2 _ (fun a' w' hS hA => ⟨hS, hA (hcl.set hmj)⟩))
end

set_option maxHeartbeats 1000000 in
theorem mean_value {w : World} {bb mb : Nat} {A : Option Addr} {cc : Nat} {s : PB} (h : BSt w bb mb A cc s) (hi : s.Inv) (pb ib : Nat) (ia : Option Addr) (ic : Nat) (input : List Bool) (x : Int) (b : Bool)
    (h0 : w.cell? ⟨pb, 0, none⟩ = some (.pointer (some ⟨bb, 0, none⟩))) (h1 : w.cell? ⟨ib, 0, none⟩ = some (.slice ia input.length ic)) (hI : Row w ia (bools input)) (hic : ia = none → ic = 0)
    (hn : (input.length : Int) = s.n) (hb : (decide (s.lit x) && litVal (valsF input s.G) x) = b) :
    Calls Try.prog 22 #[.int .i64 x, .pointer (some ⟨pb, 0, none⟩), .pointer (some ⟨ib, 0, none⟩)] w fun e w' => e = .returned (.bool b) ∧ Below w.heap.size w w' := by
  have HI := hid hI
  have y0 := lt_of_cell h0; have y1 := lt_of_cell h1; dsimp only at y0 y1
  have HS := hid h
  have hsz := hi.ok.size; have hlo := hi.ok.lo
  by_cases hl : s.lit x
  · have hok : EvalOk s.n s.G input.length [x] := ⟨hi.vld, by rw [PB.litN_eq hi.ok]; intro y hy; simp at hy; subst hy; exact hl, hn⟩
    have hd : b = litVal (valsF input s.G) x := by rw [← hb]; simp [hl]
    have HOK := hid hok; have HD := hid hd; clear hok hd hb h hI hl hn
    go_enter Try.func22, Try.ntmps22
    go_wp2_with fail
    refine wp_region_J (fun j => match j with | 1 => some (fun W => W.cell? ⟨pb, 0, none⟩ = some (.pointer (some ⟨bb, 0, none⟩)) ∧ W.cell? ⟨ib, 0, none⟩ = some (.slice ia input.length ic)) | 4 => some (fun W => W.cell? ⟨pb, 0, none⟩ = some (.pointer (some ⟨bb, 0, none⟩)) ∧ W.cell? ⟨ib, 0, none⟩ = some (.slice ia input.length ic)) | 5 => some (fun W => W.cell? ⟨pb, 0, none⟩ = some (.pointer (some ⟨bb, 0, none⟩)) ∧ W.cell? ⟨ib, 0, none⟩ = some (.slice ia input.length ic)) | _ => none) (by kernel_rfl) ?_
    refine anyJ_take (some 8) (i := 0) (T := fun W => W.cell? ⟨pb, 0, none⟩ = some (.pointer (some ⟨bb, 0, none⟩))) (v := ?_) rfl rfl (by kernel_rfl) (by kernel_rfl) (by kernel_rfl) (fun _ _ _ h => h) (js := [4]) (by kernel_rfl) (Leads.cons _ rfl (fun w h => h.1) Leads.nil) rfl (Or.inl ⟨by rfl, ?_⟩) (by go_simp) ?_
    rotate_left
    · (intro wL hSw; (try dsimp only at hSw); go_simp; try with_reducible rfl)
    try simp only [Act.put, List.setIfInBounds_toArray, List.set_cons_zero, List.set_cons_succ]
    refine anyJ_take (some 10) (i := 2) (T := fun W => W.cell? ⟨ib, 0, none⟩ = some (.slice ia input.length ic)) (v := ?_) rfl rfl (by kernel_rfl) (by kernel_rfl) (by kernel_rfl) (fun _ _ _ h => h) (js := [1, 4]) (by kernel_rfl) (Leads.cons _ rfl (fun w h => h.2) (Leads.cons _ rfl (fun w h => h.2) Leads.nil)) rfl (Or.inl ⟨by rfl, ?_⟩) (by go_simp) ?_
    rotate_left
    · (intro wL hSw; (try dsimp only at hSw); go_simp; try with_reducible rfl)
    try simp only [Act.put, List.setIfInBounds_toArray, List.set_cons_zero, List.set_cons_succ]
    refine anyJ_take (some 11) (i := 3) (T := fun _ => True) (v := ?_) rfl rfl (by kernel_rfl) (by kernel_rfl) (by kernel_rfl) (fun _ _ _ h => h) (js := [1]) (by kernel_rfl) Leads.true rfl (Or.inl ⟨by rfl, ?_⟩) trivial ?_
    rotate_left
    · (intro wL hSw; (try dsimp only at hSw); go_simp; try with_reducible rfl)
    try simp only [Act.put, List.setIfInBounds_toArray, List.set_cons_zero, List.set_cons_succ]
    refine anyJ_two (i := 1) (oi := { dst := some 9, op := Go.Op.call { callee := Go.Callee.value (Go.Operand.func 21), args := #[Go.Operand.tmp 8], argTypes := #[36] }, type := 24, pos := "law.go:97", after := #[{ on := 0, ground := Go.Ground.data }], guard := none }) (j := 4) (oj := { dst := some 12, op := Go.Op.buildSlice 26 1 #[(0, Go.Operand.tmp 11)], type := 26, pos := "law.go:97", after := #[{ on := 3, ground := Go.Ground.data }], guard := none }) rfl rfl (by kernel_rfl) (by rfl) (by rfl) (fun K hK => ?_) (fun K hK => ?_)
    · go_simp
      refine (circuit_any (HS.out.below (below_drew' w))).mono ?_
      rintro e w1 ⟨B, d, rfl, hr1, hb1⟩
      have HB1 := hid (bthen (below_drew' w) hb1)
      have HR1 := hid hr1; have e0 := below_cell HB1.out h0; have e1 := below_cell HB1.out h1
      have HI1 := hid (HI.out.below HB1.out); have z0 := lt_of_cell e0; have z1 := lt_of_cell e1; dsimp only at z0 z1; clear hr1 hb1
      refine hK.out _ _ (by dsimp only [Obl]; exact ⟨by go_simp, by go_simp⟩) ?_
      clear hK K
      try simp only [Act.put, List.setIfInBounds_toArray, List.set_cons_zero, List.set_cons_succ]
      refine anyJ_one (i := 4) (oi := { dst := some 12, op := Go.Op.buildSlice 26 1 #[(0, Go.Operand.tmp 11)], type := 26, pos := "law.go:97", after := #[{ on := 3, ground := Go.Ground.data }], guard := none }) rfl (by kernel_rfl) (by rfl) (fun K hK => ?_)
      go_simp
      have HRL := hid (Row.one w1 (.int .i64 x) 3)
      refine hK.out _ _ (by dsimp only [Obl]; exact ⟨by go_simp, by go_simp⟩) ?_
      clear hK K
      try simp only [Act.put, List.setIfInBounds_toArray, List.set_cons_zero, List.set_cons_succ]
      refine anyJ_one (i := 5) (oi := { dst := some 13, op := Go.Op.call { callee := Go.Callee.value (Go.Operand.func 10), args := #[Go.Operand.tmp 9, Go.Operand.tmp 10, Go.Operand.tmp 12], argTypes := #[24, 25, 26] }, type := 29, pos := "law.go:97", after := #[{ on := 1, ground := Go.Ground.data }, { on := 2, ground := Go.Ground.data }, { on := 4, ground := Go.Ground.data }, { on := 1, ground := Go.Ground.chain }], guard := none }) rfl (by kernel_rfl) (by rfl) (fun K hK => ?_)
      go_simp
      refine (eval_yes s.n B d s.G ia ic input _ 1 [x] _ (HR1.out.alloc _) (by simp) HRL.out (HI1.out.alloc _) hic HOK.out).mono ?_
      rintro e w5 ⟨A5, c5, rfl, hr5, hb5⟩
      have HB5 := hid (bthen (bthen HB1.out (below_alloc _ _)) hb5)
      have HR5 := hid hr5; have e0 := below_cell hb5 (below_cell (below_alloc _ _) e0); have e1 := below_cell hb5 (below_cell (below_alloc _ _) e1); clear hb5 hr5
      refine hK.out _ _ (by dsimp only [Obl]; exact ⟨by go_simp, by go_simp⟩) ?_
      clear hK K
      try simp only [Act.put, List.setIfInBounds_toArray, List.set_cons_zero, List.set_cons_succ]
      refine anyJ_take (some 7) (i := 6) (T := fun _ => True) (v := ?_) rfl rfl (by kernel_rfl) (by kernel_rfl) (by kernel_rfl) (fun _ _ _ h => h) (js := [1, 4, 5]) (by kernel_rfl) Leads.true rfl (Or.inl ⟨by rfl, ?_⟩) trivial ?_
      rotate_left
      · (intro wL hSw; (try dsimp only at hSw); go_simp; try with_reducible rfl)
      try simp only [Act.put, List.setIfInBounds_toArray, List.set_cons_zero, List.set_cons_succ]
      refine anyJ_take (some 14) (i := 7) (T := fun _ => True) (v := ?_) rfl rfl (by kernel_rfl) (by kernel_rfl) (by kernel_rfl) (fun _ _ _ h => h) (js := [1, 4, 5]) (by kernel_rfl) Leads.true rfl (Or.inl ⟨by rfl, ?_⟩) trivial ?_
      rotate_left
      · (intro wL hSw; (try dsimp only at hSw); go_simp; try with_reducible rfl)
      try simp only [Act.put, List.setIfInBounds_toArray, List.set_cons_zero, List.set_cons_succ]
      refine anyJ_take (some 15) (i := 8) (T := fun _ => True) (v := ?_) rfl rfl (by kernel_rfl) (by kernel_rfl) (by kernel_rfl) (fun _ _ _ h => h) (js := [1, 4, 5]) (by kernel_rfl) Leads.true rfl (Or.inl ⟨by rfl, ?_⟩) trivial ?_
      rotate_left
      · (intro wL hSw; (try dsimp only at hSw); go_simp; try with_reducible rfl)
      try simp only [Act.put, List.setIfInBounds_toArray, List.set_cons_zero, List.set_cons_succ]
      refine anyJ_take (some 5) (i := 9) (T := fun _ => True) (v := ?_) rfl rfl (by kernel_rfl) (by kernel_rfl) (by kernel_rfl) (fun _ _ _ h => h) (js := [1, 4, 5]) (by kernel_rfl) Leads.true rfl (Or.inl ⟨by rfl, ?_⟩) trivial ?_
      rotate_left
      · (intro wL hSw; (try dsimp only at hSw); go_simp; try with_reducible rfl)
      try simp only [Act.put, List.setIfInBounds_toArray, List.set_cons_zero, List.set_cons_succ]
      refine anyJ_take (some 6) (i := 10) (T := fun _ => True) (v := ?_) rfl rfl (by kernel_rfl) (by kernel_rfl) (by kernel_rfl) (fun _ _ _ h => h) (js := [1, 4, 5]) (by kernel_rfl) Leads.true rfl (Or.inl ⟨by rfl, ?_⟩) trivial ?_
      rotate_left
      · (intro wL hSw; (try dsimp only at hSw); go_simp; try with_reducible rfl)
      try simp only [Act.put, List.setIfInBounds_toArray, List.set_cons_zero, List.set_cons_succ]
      refine anyJ_done (by kernel_rfl) ?_
      obtain ⟨sb, so, rfl, hcell⟩ := HR5.out.bool 0 (by simp [evalF])
      have hc5 : w5.cell? ⟨sb, so, none⟩ = some (.bool (litVal (valsF input s.G) x)) := hcell
      have hl5 : ((evalF input s.G [x]).length : Int) = 1 := rfl
      have hl6 : ((evalF input s.G [x]).length) = 1 := rfl
      clear hcell
      go_wp2_with fail
      go_ret
      exact ⟨by rw [HD.out]; rfl, HB5.out⟩
    · go_simp
      refine hK.out _ _ (by dsimp only [Obl]; exact ⟨by go_simp, by go_simp⟩) ?_
      clear hK K
      try simp only [Act.put, List.setIfInBounds_toArray, List.set_cons_zero, List.set_cons_succ]
      refine anyJ_one (i := 1) (oi := { dst := some 9, op := Go.Op.call { callee := Go.Callee.value (Go.Operand.func 21), args := #[Go.Operand.tmp 8], argTypes := #[36] }, type := 24, pos := "law.go:97", after := #[{ on := 0, ground := Go.Ground.data }], guard := none }) rfl (by kernel_rfl) (by rfl) (fun K hK => ?_)
      go_simp
      refine (circuit_any (HS.out.below (bthen (below_drew' w) (below_alloc _ _)))).mono ?_
      rintro e w1 ⟨B, d, rfl, hr1, hb1⟩
      have HB1 := hid (bthen (bthen (below_drew' w) (below_alloc _ _)) hb1)
      have HRL := hid ((Row.one (w.drew) (.int .i64 x) 3).below hb1)
      have HR1 := hid hr1; have e0 := below_cell HB1.out h0; have e1 := below_cell HB1.out h1
      have HI1 := hid (HI.out.below HB1.out); have z0 := lt_of_cell e0; have z1 := lt_of_cell e1; dsimp only at z0 z1; clear hr1 hb1
      refine hK.out _ _ (by dsimp only [Obl]; exact ⟨by go_simp, by go_simp⟩) ?_
      clear hK K
      try simp only [Act.put, List.setIfInBounds_toArray, List.set_cons_zero, List.set_cons_succ]
      refine anyJ_one (i := 5) (oi := { dst := some 13, op := Go.Op.call { callee := Go.Callee.value (Go.Operand.func 10), args := #[Go.Operand.tmp 9, Go.Operand.tmp 10, Go.Operand.tmp 12], argTypes := #[24, 25, 26] }, type := 29, pos := "law.go:97", after := #[{ on := 1, ground := Go.Ground.data }, { on := 2, ground := Go.Ground.data }, { on := 4, ground := Go.Ground.data }, { on := 1, ground := Go.Ground.chain }], guard := none }) rfl (by kernel_rfl) (by rfl) (fun K hK => ?_)
      go_simp
      refine (eval_yes s.n B d s.G ia ic input _ 1 [x] _ HR1.out (by simp) HRL.out HI1.out hic HOK.out).mono ?_
      rintro e w5 ⟨A5, c5, rfl, hr5, hb5⟩
      have HB5 := hid (bthen HB1.out hb5)
      have HR5 := hid hr5; have e0 := below_cell hb5 (e0); have e1 := below_cell hb5 (e1); clear hb5 hr5
      refine hK.out _ _ (by dsimp only [Obl]; exact ⟨by go_simp, by go_simp⟩) ?_
      clear hK K
      try simp only [Act.put, List.setIfInBounds_toArray, List.set_cons_zero, List.set_cons_succ]
      refine anyJ_take (some 7) (i := 6) (T := fun _ => True) (v := ?_) rfl rfl (by kernel_rfl) (by kernel_rfl) (by kernel_rfl) (fun _ _ _ h => h) (js := [1, 4, 5]) (by kernel_rfl) Leads.true rfl (Or.inl ⟨by rfl, ?_⟩) trivial ?_
      rotate_left
      · (intro wL hSw; (try dsimp only at hSw); go_simp; try with_reducible rfl)
      try simp only [Act.put, List.setIfInBounds_toArray, List.set_cons_zero, List.set_cons_succ]
      refine anyJ_take (some 14) (i := 7) (T := fun _ => True) (v := ?_) rfl rfl (by kernel_rfl) (by kernel_rfl) (by kernel_rfl) (fun _ _ _ h => h) (js := [1, 4, 5]) (by kernel_rfl) Leads.true rfl (Or.inl ⟨by rfl, ?_⟩) trivial ?_
      rotate_left
      · (intro wL hSw; (try dsimp only at hSw); go_simp; try with_reducible rfl)
      try simp only [Act.put, List.setIfInBounds_toArray, List.set_cons_zero, List.set_cons_succ]
      refine anyJ_take (some 15) (i := 8) (T := fun _ => True) (v := ?_) rfl rfl (by kernel_rfl) (by kernel_rfl) (by kernel_rfl) (fun _ _ _ h => h) (js := [1, 4, 5]) (by kernel_rfl) Leads.true rfl (Or.inl ⟨by rfl, ?_⟩) trivial ?_
      rotate_left
      · (intro wL hSw; (try dsimp only at hSw); go_simp; try with_reducible rfl)
      try simp only [Act.put, List.setIfInBounds_toArray, List.set_cons_zero, List.set_cons_succ]
      refine anyJ_take (some 5) (i := 9) (T := fun _ => True) (v := ?_) rfl rfl (by kernel_rfl) (by kernel_rfl) (by kernel_rfl) (fun _ _ _ h => h) (js := [1, 4, 5]) (by kernel_rfl) Leads.true rfl (Or.inl ⟨by rfl, ?_⟩) trivial ?_
      rotate_left
      · (intro wL hSw; (try dsimp only at hSw); go_simp; try with_reducible rfl)
      try simp only [Act.put, List.setIfInBounds_toArray, List.set_cons_zero, List.set_cons_succ]
      refine anyJ_take (some 6) (i := 10) (T := fun _ => True) (v := ?_) rfl rfl (by kernel_rfl) (by kernel_rfl) (by kernel_rfl) (fun _ _ _ h => h) (js := [1, 4, 5]) (by kernel_rfl) Leads.true rfl (Or.inl ⟨by rfl, ?_⟩) trivial ?_
      rotate_left
      · (intro wL hSw; (try dsimp only at hSw); go_simp; try with_reducible rfl)
      try simp only [Act.put, List.setIfInBounds_toArray, List.set_cons_zero, List.set_cons_succ]
      refine anyJ_done (by kernel_rfl) ?_
      obtain ⟨sb, so, rfl, hcell⟩ := HR5.out.bool 0 (by simp [evalF])
      have hc5 : w5.cell? ⟨sb, so, none⟩ = some (.bool (litVal (valsF input s.G) x)) := hcell
      have hl5 : ((evalF input s.G [x]).length : Int) = 1 := rfl
      have hl6 : ((evalF input s.G [x]).length) = 1 := rfl
      clear hcell
      go_wp2_with fail
      go_ret
      exact ⟨by rw [HD.out]; rfl, HB5.out⟩
  · have hok : ¬ EvalOk s.n s.G input.length [x] := fun hE => hl (by have := hE.2.1 x (by simp); rw [PB.litN_eq hi.ok] at this; exact this)
    have hd : b = false := by rw [← hb]; simp [hl]
    have HOK := hid hok; have HD := hid hd; clear hok hd hb h hI hl hn
    go_enter Try.func22, Try.ntmps22
    go_wp2_with fail
    refine wp_region_J (fun j => match j with | 1 => some (fun W => W.cell? ⟨pb, 0, none⟩ = some (.pointer (some ⟨bb, 0, none⟩)) ∧ W.cell? ⟨ib, 0, none⟩ = some (.slice ia input.length ic)) | 4 => some (fun W => W.cell? ⟨pb, 0, none⟩ = some (.pointer (some ⟨bb, 0, none⟩)) ∧ W.cell? ⟨ib, 0, none⟩ = some (.slice ia input.length ic)) | 5 => some (fun W => W.cell? ⟨pb, 0, none⟩ = some (.pointer (some ⟨bb, 0, none⟩)) ∧ W.cell? ⟨ib, 0, none⟩ = some (.slice ia input.length ic)) | _ => none) (by kernel_rfl) ?_
    refine anyJ_take (some 8) (i := 0) (T := fun W => W.cell? ⟨pb, 0, none⟩ = some (.pointer (some ⟨bb, 0, none⟩))) (v := ?_) rfl rfl (by kernel_rfl) (by kernel_rfl) (by kernel_rfl) (fun _ _ _ h => h) (js := [4]) (by kernel_rfl) (Leads.cons _ rfl (fun w h => h.1) Leads.nil) rfl (Or.inl ⟨by rfl, ?_⟩) (by go_simp) ?_
    rotate_left
    · (intro wL hSw; (try dsimp only at hSw); go_simp; try with_reducible rfl)
    try simp only [Act.put, List.setIfInBounds_toArray, List.set_cons_zero, List.set_cons_succ]
    refine anyJ_take (some 10) (i := 2) (T := fun W => W.cell? ⟨ib, 0, none⟩ = some (.slice ia input.length ic)) (v := ?_) rfl rfl (by kernel_rfl) (by kernel_rfl) (by kernel_rfl) (fun _ _ _ h => h) (js := [1, 4]) (by kernel_rfl) (Leads.cons _ rfl (fun w h => h.2) (Leads.cons _ rfl (fun w h => h.2) Leads.nil)) rfl (Or.inl ⟨by rfl, ?_⟩) (by go_simp) ?_
    rotate_left
    · (intro wL hSw; (try dsimp only at hSw); go_simp; try with_reducible rfl)
    try simp only [Act.put, List.setIfInBounds_toArray, List.set_cons_zero, List.set_cons_succ]
    refine anyJ_take (some 11) (i := 3) (T := fun _ => True) (v := ?_) rfl rfl (by kernel_rfl) (by kernel_rfl) (by kernel_rfl) (fun _ _ _ h => h) (js := [1]) (by kernel_rfl) Leads.true rfl (Or.inl ⟨by rfl, ?_⟩) trivial ?_
    rotate_left
    · (intro wL hSw; (try dsimp only at hSw); go_simp; try with_reducible rfl)
    try simp only [Act.put, List.setIfInBounds_toArray, List.set_cons_zero, List.set_cons_succ]
    refine anyJ_two (i := 1) (oi := { dst := some 9, op := Go.Op.call { callee := Go.Callee.value (Go.Operand.func 21), args := #[Go.Operand.tmp 8], argTypes := #[36] }, type := 24, pos := "law.go:97", after := #[{ on := 0, ground := Go.Ground.data }], guard := none }) (j := 4) (oj := { dst := some 12, op := Go.Op.buildSlice 26 1 #[(0, Go.Operand.tmp 11)], type := 26, pos := "law.go:97", after := #[{ on := 3, ground := Go.Ground.data }], guard := none }) rfl rfl (by kernel_rfl) (by rfl) (by rfl) (fun K hK => ?_) (fun K hK => ?_)
    · go_simp
      refine (circuit_any (HS.out.below (below_drew' w))).mono ?_
      rintro e w1 ⟨B, d, rfl, hr1, hb1⟩
      have HB1 := hid (bthen (below_drew' w) hb1)
      have HR1 := hid hr1; have e0 := below_cell HB1.out h0; have e1 := below_cell HB1.out h1
      have HI1 := hid (HI.out.below HB1.out); have z0 := lt_of_cell e0; have z1 := lt_of_cell e1; dsimp only at z0 z1; clear hr1 hb1
      refine hK.out _ _ (by dsimp only [Obl]; exact ⟨by go_simp, by go_simp⟩) ?_
      clear hK K
      try simp only [Act.put, List.setIfInBounds_toArray, List.set_cons_zero, List.set_cons_succ]
      refine anyJ_one (i := 4) (oi := { dst := some 12, op := Go.Op.buildSlice 26 1 #[(0, Go.Operand.tmp 11)], type := 26, pos := "law.go:97", after := #[{ on := 3, ground := Go.Ground.data }], guard := none }) rfl (by kernel_rfl) (by rfl) (fun K hK => ?_)
      go_simp
      have HRL := hid (Row.one w1 (.int .i64 x) 3)
      refine hK.out _ _ (by dsimp only [Obl]; exact ⟨by go_simp, by go_simp⟩) ?_
      clear hK K
      try simp only [Act.put, List.setIfInBounds_toArray, List.set_cons_zero, List.set_cons_succ]
      refine anyJ_one (i := 5) (oi := { dst := some 13, op := Go.Op.call { callee := Go.Callee.value (Go.Operand.func 10), args := #[Go.Operand.tmp 9, Go.Operand.tmp 10, Go.Operand.tmp 12], argTypes := #[24, 25, 26] }, type := 29, pos := "law.go:97", after := #[{ on := 1, ground := Go.Ground.data }, { on := 2, ground := Go.Ground.data }, { on := 4, ground := Go.Ground.data }, { on := 1, ground := Go.Ground.chain }], guard := none }) rfl (by kernel_rfl) (by rfl) (fun K hK => ?_)
      go_simp
      refine (eval_no s.n B d s.G (.slice ia input.length ic) ia input.length ic _ 1 [x] _ (HR1.out.alloc _) (by omega) (by simp) HRL.out rfl HOK.out).mono ?_
      rintro e w5 ⟨A5, c5, rfl, hr5, hb5⟩
      have HB5 := hid (bthen (bthen HB1.out (below_alloc _ _)) hb5)
      have HR5 := hid hr5; clear hr5; have e0 := below_cell hb5 (below_cell (below_alloc _ _) e0); have e1 := below_cell hb5 (below_cell (below_alloc _ _) e1); clear hb5
      refine hK.out _ _ (by dsimp only [Obl]; exact ⟨by go_simp, by go_simp⟩) ?_
      clear hK K
      try simp only [Act.put, List.setIfInBounds_toArray, List.set_cons_zero, List.set_cons_succ]
      refine anyJ_take (some 7) (i := 6) (T := fun _ => True) (v := ?_) rfl rfl (by kernel_rfl) (by kernel_rfl) (by kernel_rfl) (fun _ _ _ h => h) (js := [1, 4, 5]) (by kernel_rfl) Leads.true rfl (Or.inl ⟨by rfl, ?_⟩) trivial ?_
      rotate_left
      · (intro wL hSw; (try dsimp only at hSw); go_simp; try with_reducible rfl)
      try simp only [Act.put, List.setIfInBounds_toArray, List.set_cons_zero, List.set_cons_succ]
      refine anyJ_take (some 14) (i := 7) (T := fun _ => True) (v := ?_) rfl rfl (by kernel_rfl) (by kernel_rfl) (by kernel_rfl) (fun _ _ _ h => h) (js := [1, 4, 5]) (by kernel_rfl) Leads.true rfl (Or.inl ⟨by rfl, ?_⟩) trivial ?_
      rotate_left
      · (intro wL hSw; (try dsimp only at hSw); go_simp; try with_reducible rfl)
      try simp only [Act.put, List.setIfInBounds_toArray, List.set_cons_zero, List.set_cons_succ]
      refine anyJ_take (some 15) (i := 8) (T := fun _ => True) (v := ?_) rfl rfl (by kernel_rfl) (by kernel_rfl) (by kernel_rfl) (fun _ _ _ h => h) (js := [1, 4, 5]) (by kernel_rfl) Leads.true rfl (Or.inl ⟨by rfl, ?_⟩) trivial ?_
      rotate_left
      · (intro wL hSw; (try dsimp only at hSw); go_simp; try with_reducible rfl)
      try simp only [Act.put, List.setIfInBounds_toArray, List.set_cons_zero, List.set_cons_succ]
      refine anyJ_take (some 5) (i := 9) (T := fun _ => True) (v := ?_) rfl rfl (by kernel_rfl) (by kernel_rfl) (by kernel_rfl) (fun _ _ _ h => h) (js := [1, 4, 5]) (by kernel_rfl) Leads.true rfl (Or.inl ⟨by rfl, ?_⟩) trivial ?_
      rotate_left
      · (intro wL hSw; (try dsimp only at hSw); go_simp; try with_reducible rfl)
      try simp only [Act.put, List.setIfInBounds_toArray, List.set_cons_zero, List.set_cons_succ]
      refine anyJ_take (some 6) (i := 10) (T := fun _ => True) (v := ?_) rfl rfl (by kernel_rfl) (by kernel_rfl) (by kernel_rfl) (fun _ _ _ h => h) (js := [1, 4, 5]) (by kernel_rfl) Leads.true rfl (Or.inl ⟨by rfl, ?_⟩) trivial ?_
      rotate_left
      · (intro wL hSw; (try dsimp only at hSw); go_simp; try with_reducible rfl)
      try simp only [Act.put, List.setIfInBounds_toArray, List.set_cons_zero, List.set_cons_succ]
      refine anyJ_done (by kernel_rfl) ?_
      go_wp2_with fail
      go_ret
      exact ⟨by rw [HD.out]; rfl, HB5.out⟩
    · go_simp
      refine hK.out _ _ (by dsimp only [Obl]; exact ⟨by go_simp, by go_simp⟩) ?_
      clear hK K
      try simp only [Act.put, List.setIfInBounds_toArray, List.set_cons_zero, List.set_cons_succ]
      refine anyJ_one (i := 1) (oi := { dst := some 9, op := Go.Op.call { callee := Go.Callee.value (Go.Operand.func 21), args := #[Go.Operand.tmp 8], argTypes := #[36] }, type := 24, pos := "law.go:97", after := #[{ on := 0, ground := Go.Ground.data }], guard := none }) rfl (by kernel_rfl) (by rfl) (fun K hK => ?_)
      go_simp
      refine (circuit_any (HS.out.below (bthen (below_drew' w) (below_alloc _ _)))).mono ?_
      rintro e w1 ⟨B, d, rfl, hr1, hb1⟩
      have HB1 := hid (bthen (bthen (below_drew' w) (below_alloc _ _)) hb1)
      have HRL := hid ((Row.one (w.drew) (.int .i64 x) 3).below hb1)
      have HR1 := hid hr1; have e0 := below_cell HB1.out h0; have e1 := below_cell HB1.out h1
      have HI1 := hid (HI.out.below HB1.out); have z0 := lt_of_cell e0; have z1 := lt_of_cell e1; dsimp only at z0 z1; clear hr1 hb1
      refine hK.out _ _ (by dsimp only [Obl]; exact ⟨by go_simp, by go_simp⟩) ?_
      clear hK K
      try simp only [Act.put, List.setIfInBounds_toArray, List.set_cons_zero, List.set_cons_succ]
      refine anyJ_one (i := 5) (oi := { dst := some 13, op := Go.Op.call { callee := Go.Callee.value (Go.Operand.func 10), args := #[Go.Operand.tmp 9, Go.Operand.tmp 10, Go.Operand.tmp 12], argTypes := #[24, 25, 26] }, type := 29, pos := "law.go:97", after := #[{ on := 1, ground := Go.Ground.data }, { on := 2, ground := Go.Ground.data }, { on := 4, ground := Go.Ground.data }, { on := 1, ground := Go.Ground.chain }], guard := none }) rfl (by kernel_rfl) (by rfl) (fun K hK => ?_)
      go_simp
      refine (eval_no s.n B d s.G (.slice ia input.length ic) ia input.length ic _ 1 [x] _ HR1.out (by omega) (by simp) HRL.out rfl HOK.out).mono ?_
      rintro e w5 ⟨A5, c5, rfl, hr5, hb5⟩
      have HB5 := hid (bthen HB1.out hb5)
      have HR5 := hid hr5; clear hr5; have e0 := below_cell hb5 (e0); have e1 := below_cell hb5 (e1); clear hb5
      refine hK.out _ _ (by dsimp only [Obl]; exact ⟨by go_simp, by go_simp⟩) ?_
      clear hK K
      try simp only [Act.put, List.setIfInBounds_toArray, List.set_cons_zero, List.set_cons_succ]
      refine anyJ_take (some 7) (i := 6) (T := fun _ => True) (v := ?_) rfl rfl (by kernel_rfl) (by kernel_rfl) (by kernel_rfl) (fun _ _ _ h => h) (js := [1, 4, 5]) (by kernel_rfl) Leads.true rfl (Or.inl ⟨by rfl, ?_⟩) trivial ?_
      rotate_left
      · (intro wL hSw; (try dsimp only at hSw); go_simp; try with_reducible rfl)
      try simp only [Act.put, List.setIfInBounds_toArray, List.set_cons_zero, List.set_cons_succ]
      refine anyJ_take (some 14) (i := 7) (T := fun _ => True) (v := ?_) rfl rfl (by kernel_rfl) (by kernel_rfl) (by kernel_rfl) (fun _ _ _ h => h) (js := [1, 4, 5]) (by kernel_rfl) Leads.true rfl (Or.inl ⟨by rfl, ?_⟩) trivial ?_
      rotate_left
      · (intro wL hSw; (try dsimp only at hSw); go_simp; try with_reducible rfl)
      try simp only [Act.put, List.setIfInBounds_toArray, List.set_cons_zero, List.set_cons_succ]
      refine anyJ_take (some 15) (i := 8) (T := fun _ => True) (v := ?_) rfl rfl (by kernel_rfl) (by kernel_rfl) (by kernel_rfl) (fun _ _ _ h => h) (js := [1, 4, 5]) (by kernel_rfl) Leads.true rfl (Or.inl ⟨by rfl, ?_⟩) trivial ?_
      rotate_left
      · (intro wL hSw; (try dsimp only at hSw); go_simp; try with_reducible rfl)
      try simp only [Act.put, List.setIfInBounds_toArray, List.set_cons_zero, List.set_cons_succ]
      refine anyJ_take (some 5) (i := 9) (T := fun _ => True) (v := ?_) rfl rfl (by kernel_rfl) (by kernel_rfl) (by kernel_rfl) (fun _ _ _ h => h) (js := [1, 4, 5]) (by kernel_rfl) Leads.true rfl (Or.inl ⟨by rfl, ?_⟩) trivial ?_
      rotate_left
      · (intro wL hSw; (try dsimp only at hSw); go_simp; try with_reducible rfl)
      try simp only [Act.put, List.setIfInBounds_toArray, List.set_cons_zero, List.set_cons_succ]
      refine anyJ_take (some 6) (i := 10) (T := fun _ => True) (v := ?_) rfl rfl (by kernel_rfl) (by kernel_rfl) (by kernel_rfl) (fun _ _ _ h => h) (js := [1, 4, 5]) (by kernel_rfl) Leads.true rfl (Or.inl ⟨by rfl, ?_⟩) trivial ?_
      rotate_left
      · (intro wL hSw; (try dsimp only at hSw); go_simp; try with_reducible rfl)
      try simp only [Act.put, List.setIfInBounds_toArray, List.set_cons_zero, List.set_cons_succ]
      refine anyJ_done (by kernel_rfl) ?_
      go_wp2_with fail
      go_ret
      exact ⟨by rw [HD.out]; rfl, HB5.out⟩
end Go.Proofs.Ytelbjendeldlcaa
