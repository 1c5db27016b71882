/- Loops. -/
import Derived.Test.YtjddegfigdpcbaaQ0
import Derived.Deep.CutRange
namespace Go.Proofs.Ytjddegfigdpcbaa
open Go.RowKit

section
variable {P : Program} {ops : Array Oper} {Q : Exit → Act → World → Prop} {S : Nat → Option (World → Prop)}
theorem anyJ_three {i j k : Nat} {oi oj ok : Oper} {fuel : Nat} {listed : Array Bool} {a : Act} {w : World} (hi : ops[i]? = some oi) (hj : ops[j]? = some oj) (hk : ops[k]? = some ok) (hr : Region.ready .any ops listed = [i, j, k])
    (hgi : Region.wanted oi (yielded ops a.tmps) = true) (hgj : Region.wanted oj (yielded ops a.tmps) = true) (hgk : Region.wanted ok (yielded ops a.tmps) = true)
    (h1 : ∀ K : Act → World → Prop, Shut (∀ a w', Obl (S i) w w' → anyJ P ops Q S fuel (listed.setIfInBounds i true) a w' → K a w') → Oper.wp P oi a w K Q)
    (h2 : ∀ K : Act → World → Prop, Shut (∀ a w', Obl (S j) w w' → anyJ P ops Q S fuel (listed.setIfInBounds j true) a w' → K a w') → Oper.wp P oj a w K Q)
    (h3 : ∀ K : Act → World → Prop, Shut (∀ a w', Obl (S k) w w' → anyJ P ops Q S fuel (listed.setIfInBounds k true) a w' → K a w') → Oper.wp P ok a w K Q) : anyJ P ops Q S (fuel + 1) listed a w := fun hcl => by
  have hmi : i ∈ Region.ready .any ops listed := by rw [hr]; simp
  have hmj : j ∈ Region.ready .any ops listed := by rw [hr]; simp
  have hmk : k ∈ Region.ready .any ops listed := by rw [hr]; simp
  refine ⟨fun h0 => (by rw [h0] at hr; cases hr), fun m hm => ?_⟩
  rw [hr] at hm
  rcases List.mem_cons.1 hm with rfl | hm
  · unfold wpOp
    simp only [hi]
    rw [if_pos hgi]
    exact .inl (h1 _ (fun a' w' hS hA => ⟨hS, hA (hcl.set hmi)⟩))
  · rcases List.mem_cons.1 hm with rfl | hm
    · unfold wpOp
      simp only [hj]
      rw [if_pos hgj]
      exact .inl (h2 _ (fun a' w' hS hA => ⟨hS, hA (hcl.set hmj)⟩))
    · obtain rfl := List.mem_singleton.1 hm
      unfold wpOp
      simp only [hk]
      rw [if_pos hgk]
      exact .inl (h3 _ (fun a' w' hS hA => ⟨hS, hA (hcl.set hmk)⟩))
end


theorem own_lower {w : World} {B B' n : Nat} {e : TypeId} {sz : Nat} {v : Value} {xs : List Value} (h : w.ownsRow B e sz v n xs) (hb : B' ≤ B) : w.ownsRow B' e sz v n xs := by
  refine ⟨h.1, ?_⟩
  rcases h.2 with h1 | ⟨g, cap, cur, h1, h2, h3⟩
  · exact .inl h1
  · exact .inr ⟨g, cap, cur, h1, Nat.le_trans hb h2, h3⟩
set_option maxHeartbeats 16000000 in
set_option maxRecDepth 100000 in
theorem Loops_yes (pa : Option Addr) (pc : Nat) (F : List (List Int)) (w : World) (hF : FRow w pa F) (hsm : ∀ i, i < F.length → (F.getD i []).length ≤ 900) (hV : VldF F) :
    Calls Try.prog 31 #[.agg #[.slice pa F.length pc]] w (GivesLoops w (loopsL F)) := by
  have hlo := hV.lo; have hhi := hV.hi
  obtain ⟨i0, hi, hz0, hz1, hz2⟩ := info_parts info3
  obtain ⟨ti, hi1, hy0, hy1, hy2⟩ := info_parts info47
  obtain ⟨n, hn⟩ : ∃ n, n = F.length := ⟨_, rfl⟩
  rw [← hn] at hhi hlo ⊢
  have HV := hid hV; have HNL := hid hn; clear hV hn
  go_enter Try.func31, Try.ntmps31
  go_wp2_with (go_at_call 13; rw [HNL.out]; refine (valid_any _ _ _ _ (hF.below (below_alloc _ _)) (fun i hi => Nat.le_trans (hsm i hi) (by omega))).mono ?_; rw [← HNL.out]; rintro e w1 ⟨ht, hb1⟩; obtain rfl := ht.eq_yes HV.out; have c0 := box_cell hb1 0 _ rfl; have HB1 := hid (bthen (below_alloc w _) hb1); clear ht hb1)
  have HC0 := hid c0
  go_cut [3, 4] from 20 to 23 (fun a b wc => ∃ gb jb cf cb, ∃ B : List (List Int), a = .pointer (some ⟨gb, 0, none⟩) ∧ b = .pointer (some ⟨jb, 0, none⟩) ∧ BlkAt wc gb 54 [.int .i64 n, .int .i64 0, .func (.func 57) #[] #[.pointer (some ⟨cf, 0, none⟩)]] ∧ BlkAt wc jb 54 [.int .i64 n, .int .i64 1, .func (.func 58) #[] #[.pointer (some ⟨cb, 0, none⟩)]] ∧
    NextOk wc 57 cf F ∧ NextOk wc 58 cb B ∧ IsRev F B ∧ gb ≠ jb ∧ w1.heap.size ≤ gb ∧ w1.heap.size ≤ jb ∧ Below w1.heap.size w1 wc)
  case first =>
    have HBX := hid (below_drew' w1)
    refine wp_region_J (fun j => match j with | 1 => some (fun W => W.cell? ⟨w.heap.size, 0, none⟩ = some (.slice pa n pc)) | 3 => some (fun W => W.cell? ⟨w.heap.size, 0, none⟩ = some (.slice pa n pc)) | 4 => some (fun W => W.cell? ⟨w.heap.size, 0, none⟩ = some (.slice pa n pc)) | 5 => some (fun W => W.cell? ⟨w.heap.size, 0, none⟩ = some (.slice pa n pc)) | 6 => some (fun _ => True) | 7 => some (fun _ => True) | _ => none) (by kernel_rfl) ?_
    refine anyJ_take (some 20) (i := 0) (T := fun W => W.cell? ⟨w.heap.size, 0, none⟩ = some (.slice pa n pc)) (v := ?_) rfl rfl (by kernel_rfl) (by kernel_rfl) (by kernel_rfl) (fun _ _ _ h => h) (js := [4, 5]) (by kernel_rfl) (Leads.cons _ rfl (fun w h => h) (Leads.cons _ rfl (fun w h => h) Leads.nil)) rfl (Or.inl ⟨by rfl, ?_⟩) (by go_simp) ?_
    rotate_left
    · (intro wL hSw; (try dsimp only at hSw); go_simp; try with_reducible rfl)
    try simp only [Act.put, List.setIfInBounds_toArray, List.set_cons_zero, List.set_cons_succ]
    refine anyJ_take (some 22) (i := 2) (T := fun W => W.cell? ⟨w.heap.size, 0, none⟩ = some (.slice pa n pc)) (v := ?_) rfl rfl (by kernel_rfl) (by kernel_rfl) (by kernel_rfl) (fun _ _ _ h => h) (js := [1, 4, 5]) (by kernel_rfl) (Leads.cons _ rfl (fun w h => h) (Leads.cons _ rfl (fun w h => h) (Leads.cons _ rfl (fun w h => h) Leads.nil))) rfl (Or.inl ⟨by rfl, ?_⟩) (by go_simp) ?_
    rotate_left
    · (intro wL hSw; (try dsimp only at hSw); go_simp; try with_reducible rfl)
    try simp only [Act.put, List.setIfInBounds_toArray, List.set_cons_zero, List.set_cons_succ]
    refine anyJ_three (i := 1) (oi := { dst := some 21, op := Go.Op.call { callee := Go.Callee.value (Go.Operand.func 42), args := #[Go.Operand.tmp 20], argTypes := #[24] }, type := 54, pos := "dominators.go:146", after := #[{ on := 0, ground := Go.Ground.data }], guard := none }) (j := 4) (oj := { dst := some 3, op := Go.Op.alloc 54, type := 0, pos := "dominators.go:146", after := #[], guard := none }) (k := 5) (ok := { dst := some 4, op := Go.Op.alloc 54, type := 0, pos := "dominators.go:146", after := #[], guard := none }) rfl rfl rfl (by kernel_rfl) (by rfl) (by rfl) (by rfl) (fun K hK => ?_) (fun K hK => ?_) (fun K hK => ?_)
    · go_simp
      have hfw := forward_at pa pc F (w1.drew)
      rw [← HNL.out] at hfw
      refine hfw.mono ?_
      rintro e x1 ⟨cf, he, hnx, hb2⟩
      unfold gval at he
      subst he
      have c0 := below_cell hb2 c0
      have HBX := hid (bthen HBX.out hb2)
      have HXF := hid hnx
      clear hnx hfw
      refine hK.out _ _ (by dsimp only [Obl]; exact c0) ?_
      clear hK K hb2
      try simp only [Act.put, List.setIfInBounds_toArray, List.set_cons_zero, List.set_cons_succ]
      refine anyJ_three (i := 3) (oi := { dst := some 23, op := Go.Op.call { callee := Go.Callee.value (Go.Operand.func 45), args := #[Go.Operand.tmp 22], argTypes := #[24] }, type := 54, pos := "dominators.go:146", after := #[{ on := 2, ground := Go.Ground.data }, { on := 1, ground := Go.Ground.chain }], guard := none }) (j := 4) (oj := { dst := some 3, op := Go.Op.alloc 54, type := 0, pos := "dominators.go:146", after := #[], guard := none }) (k := 5) (ok := { dst := some 4, op := Go.Op.alloc 54, type := 0, pos := "dominators.go:146", after := #[], guard := none }) rfl rfl rfl (by kernel_rfl) (by rfl) (by rfl) (by rfl) (fun K hK => ?_) (fun K hK => ?_) (fun K hK => ?_)
      · go_simp
        have hbw := backward_at pa pc F (x1) (hF.below (bthen HB1.out HBX.out)) HV.out hsm
        rw [← HNL.out] at hbw
        refine hbw.mono ?_
        rintro e x2 ⟨cb, B0, bb0, vs0, B, he, hnx, hb2, hrev⟩
        rw [hrev.len, ← HNL.out] at he
        unfold gval at he
        subst he
        have HXF := hid (HXF.out.below hb2)
        have c0 := below_cell hb2 c0
        have HBX := hid (bthen HBX.out hb2)
        have HXB := hid hnx; have HRV := hid hrev
        clear hnx hrev hbw
        refine hK.out _ _ (by dsimp only [Obl]; exact c0) ?_
        clear hK K hb2
        try simp only [Act.put, List.setIfInBounds_toArray, List.set_cons_zero, List.set_cons_succ]
        refine anyJ_two (i := 4) (oi := { dst := some 3, op := Go.Op.alloc 54, type := 0, pos := "dominators.go:146", after := #[], guard := none }) (j := 5) (oj := { dst := some 4, op := Go.Op.alloc 54, type := 0, pos := "dominators.go:146", after := #[], guard := none }) rfl rfl (by kernel_rfl) (by rfl) (by rfl) (fun K hK => ?_) (fun K hK => ?_)
        · go_simp
          have hb2 := below_alloc (x2) (.cells #[.int .i64 0, .int .i64 0, .nilFunc] 54)
          have hnew : BlkAt ((x2).alloc (.cells #[.int .i64 0, .int .i64 0, .nilFunc] 54)) (x2).heap.size 54 [.int .i64 0, .int .i64 0, .nilFunc] := BlkAt.made _ 54 _
          have zz := HBX.out.size
          have HXF := hid (HXF.out.below hb2)
          have HXB := hid (HXB.out.below hb2)
          have c0 := below_cell hb2 c0
          have HBX := hid (bthen HBX.out hb2)
          refine hK.out _ _ (by dsimp only [Obl]; exact c0) ?_
          clear hK K
          obtain ⟨gb, hgb⟩ : ∃ b, b = (x2).heap.size := ⟨_, rfl⟩
          have zgb : w1.heap.size ≤ gb := by rw [hgb]; exact zz
          obtain ⟨x3, hnw⟩ : ∃ x, x = (x2).alloc (.cells #[.int .i64 0, .int .i64 0, .nilFunc] 54) := ⟨_, rfl⟩
          rw [← hgb] at hnew
          rw [← hnw] at c0 HBX hnew HXF HXB
          first | rw [← hnw] | (rw [show (w1.alloc (.cells #[.int .i64 0, .int .i64 0, .nilFunc] 54)).drew = x3 from hnw.symm])
          have HG := hid hnew
          first | rw [← hgb] | (rw [show w1.heap.size = gb from hgb.symm])
          clear hnw hb2 hnew zz hgb
          try simp only [Act.put, List.setIfInBounds_toArray, List.set_cons_zero, List.set_cons_succ]
          refine anyJ_one (i := 5) (oi := { dst := some 4, op := Go.Op.alloc 54, type := 0, pos := "dominators.go:146", after := #[], guard := none }) rfl (by kernel_rfl) (by rfl) (fun K hK => ?_)
          go_simp
          have hb2 := below_alloc (x3) (.cells #[.int .i64 0, .int .i64 0, .nilFunc] 54)
          have hnew : BlkAt ((x3).alloc (.cells #[.int .i64 0, .int .i64 0, .nilFunc] 54)) (x3).heap.size 54 [.int .i64 0, .int .i64 0, .nilFunc] := BlkAt.made _ 54 _
          have zlt := HG.out.lt
          have zz := HBX.out.size
          have HXF := hid (HXF.out.below hb2)
          have HXB := hid (HXB.out.below hb2)
          have HG := hid (HG.out.below hb2)
          have c0 := below_cell hb2 c0
          have HBX := hid (bthen HBX.out hb2)
          refine hK.out _ _ (by dsimp only [Obl]; exact c0) ?_
          clear hK K
          obtain ⟨hb, hhb⟩ : ∃ b, b = (x3).heap.size := ⟨_, rfl⟩
          have zhb : w1.heap.size ≤ hb := by rw [hhb]; exact zz
          have hgh : gb ≠ hb := by omega
          clear zlt
          obtain ⟨x4, hnw⟩ : ∃ x, x = (x3).alloc (.cells #[.int .i64 0, .int .i64 0, .nilFunc] 54) := ⟨_, rfl⟩
          rw [← hhb] at hnew
          rw [← hnw] at c0 HBX hnew HXF HXB HG
          first | rw [← hnw] | (rw [show (w1.alloc (.cells #[.int .i64 0, .int .i64 0, .nilFunc] 54)).drew = x4 from hnw.symm])
          have HH := hid hnew
          first | rw [← hhb] | (rw [show w1.heap.size = hb from hhb.symm])
          clear hnw hb2 hnew zz hhb
          try simp only [Act.put, List.setIfInBounds_toArray, List.set_cons_zero, List.set_cons_succ]
          refine anyJ_one (i := 6) (oi := { dst := none, op := Go.Op.store 54 (Go.Operand.tmp 3) (Go.Operand.tmp 21), type := 0, pos := "dominators.go:146", after := #[{ on := 4, ground := Go.Ground.data }, { on := 1, ground := Go.Ground.data }, { on := 3, ground := Go.Ground.chain }, { on := 0, ground := Go.Ground.phase }, { on := 1, ground := Go.Ground.phase }, { on := 2, ground := Go.Ground.textOnly Go.Departure.lateStores }, { on := 3, ground := Go.Ground.textOnly Go.Departure.lateStoresUnsure }, { on := 4, ground := Go.Ground.phase }, { on := 5, ground := Go.Ground.phase }], guard := none }) rfl (by kernel_rfl) (by rfl) (fun K hK => ?_)
          have g0 := HG.out.cell 0 _ rfl; have g1 := HG.out.cell 1 _ rfl; have g2 := HG.out.cell 2 _ rfl; have gf0 := HG.out.fz 0; have gf1 := HG.out.fz 1; have gf2 := HG.out.fz 2
          go_simp
          refine hK.out _ _ trivial ?_
          clear hK K g0 g1 g2 gf0 gf1 gf2
          try simp only [Act.put, List.setIfInBounds_toArray, List.set_cons_zero, List.set_cons_succ]
          refine anyJ_one (i := 7) (oi := { dst := none, op := Go.Op.store 54 (Go.Operand.tmp 4) (Go.Operand.tmp 23), type := 0, pos := "dominators.go:146", after := #[{ on := 5, ground := Go.Ground.data }, { on := 3, ground := Go.Ground.data }, { on := 6, ground := Go.Ground.chain }, { on := 0, ground := Go.Ground.phase }, { on := 1, ground := Go.Ground.phase }, { on := 2, ground := Go.Ground.phase }, { on := 3, ground := Go.Ground.phase }, { on := 4, ground := Go.Ground.phase }, { on := 5, ground := Go.Ground.phase }, { on := 6, ground := Go.Ground.phase }], guard := none }) rfl (by kernel_rfl) (by rfl) (fun K hK => ?_)
          have g0 := HH.out.cell 0 _ rfl; have g1 := HH.out.cell 1 _ rfl; have g2 := HH.out.cell 2 _ rfl; have gf0 := HH.out.fz 0; have gf1 := HH.out.fz 1; have gf2 := HH.out.fz 2
          go_simp
          refine hK.out _ _ trivial ?_
          clear hK K g0 g1 g2 gf0 gf1 gf2
          try simp only [Act.put, List.setIfInBounds_toArray, List.set_cons_zero, List.set_cons_succ]
          refine anyJ_done (by kernel_rfl) ?_
          go_wp2_with fail
          go_meet
          case rel =>
            have c1 := HXF.out.ne HG.out (by decide)
            have c2 := HXF.out.ne HH.out (by decide)
            have a1 := HG.out.set 0 (.int .i64 n)
            have a2 := a1.set 1 (.int .i64 0)
            have a3 := a2.set 2 (.func (.func 57) #[] #[.pointer (some ⟨cf, 0, none⟩)])
            have b3 := ((HH.out.far hgh.symm 0 (.int .i64 n)).far hgh.symm 1 (.int .i64 0)).far hgh.symm 2 (.func (.func 57) #[] #[.pointer (some ⟨cf, 0, none⟩)])
            have b4 := b3.set 0 (.int .i64 n)
            have b5 := b4.set 1 (.int .i64 1)
            have b6 := b5.set 2 (.func (.func 58) #[] #[.pointer (some ⟨cb, 0, none⟩)])
            have a6 := ((a3.far hgh 0 (.int .i64 n)).far hgh 1 (.int .i64 1)).far hgh 2 (.func (.func 58) #[] #[.pointer (some ⟨cb, 0, none⟩)])
            have f6 := (((((HXF.out.far c1 0 (.int .i64 n)).far c1 1 (.int .i64 0)).far c1 2 (.func (.func 57) #[] #[.pointer (some ⟨cf, 0, none⟩)])).far c2 0 (.int .i64 n)).far c2 1 (.int .i64 1)).far c2 2 (.func (.func 58) #[] #[.pointer (some ⟨cb, 0, none⟩)])
            have v6 := (((((HXB.out.farT HG.out 0 (.int .i64 n)).farT a1 1 (.int .i64 0)).farT a2 2 (.func (.func 57) #[] #[.pointer (some ⟨cf, 0, none⟩)])).farT b3 0 (.int .i64 n)).farT b4 1 (.int .i64 1)).farT b5 2 (.func (.func 58) #[] #[.pointer (some ⟨cb, 0, none⟩)])
            have hbb := (((((HBX.out.setCell (p := ⟨gb, 0, none⟩) zgb (.int .i64 n)).setCell (p := ⟨gb, 1, none⟩) zgb (.int .i64 0)).setCell (p := ⟨gb, 2, none⟩) zgb (.func (.func 57) #[] #[.pointer (some ⟨cf, 0, none⟩)])).setCell (p := ⟨hb, 0, none⟩) zhb (.int .i64 n)).setCell (p := ⟨hb, 1, none⟩) zhb (.int .i64 1)).setCell (p := ⟨hb, 2, none⟩) zhb (.func (.func 58) #[] #[.pointer (some ⟨cb, 0, none⟩)])
            have n1 := fwd_next (pc := pc) (hF.below (bthen HB1.out hbb)) (by rw [← HNL.out]; exact f6.cell 0 _ rfl) (by rw [← HNL.out]; omega)
            exact ⟨gb, hb, cf, cb, B, rfl, rfl, a6, b6, n1, v6.next (by rw [HRV.out.len, ← HNL.out]; omega), HRV.out, hgh, zgb, zhb, hbb⟩
        · go_simp
          have hb2 := below_alloc (x2) (.cells #[.int .i64 0, .int .i64 0, .nilFunc] 54)
          have hnew : BlkAt ((x2).alloc (.cells #[.int .i64 0, .int .i64 0, .nilFunc] 54)) (x2).heap.size 54 [.int .i64 0, .int .i64 0, .nilFunc] := BlkAt.made _ 54 _
          have zz := HBX.out.size
          have HXF := hid (HXF.out.below hb2)
          have HXB := hid (HXB.out.below hb2)
          have c0 := below_cell hb2 c0
          have HBX := hid (bthen HBX.out hb2)
          refine hK.out _ _ (by dsimp only [Obl]; exact c0) ?_
          clear hK K
          obtain ⟨hb, hhb⟩ : ∃ b, b = (x2).heap.size := ⟨_, rfl⟩
          have zhb : w1.heap.size ≤ hb := by rw [hhb]; exact zz
          obtain ⟨x3, hnw⟩ : ∃ x, x = (x2).alloc (.cells #[.int .i64 0, .int .i64 0, .nilFunc] 54) := ⟨_, rfl⟩
          rw [← hhb] at hnew
          rw [← hnw] at c0 HBX hnew HXF HXB
          first | rw [← hnw] | (rw [show (w1.alloc (.cells #[.int .i64 0, .int .i64 0, .nilFunc] 54)).drew = x3 from hnw.symm])
          have HH := hid hnew
          first | rw [← hhb] | (rw [show w1.heap.size = hb from hhb.symm])
          clear hnw hb2 hnew zz hhb
          try simp only [Act.put, List.setIfInBounds_toArray, List.set_cons_zero, List.set_cons_succ]
          refine anyJ_one (i := 4) (oi := { dst := some 3, op := Go.Op.alloc 54, type := 0, pos := "dominators.go:146", after := #[], guard := none }) rfl (by kernel_rfl) (by rfl) (fun K hK => ?_)
          go_simp
          have hb2 := below_alloc (x3) (.cells #[.int .i64 0, .int .i64 0, .nilFunc] 54)
          have hnew : BlkAt ((x3).alloc (.cells #[.int .i64 0, .int .i64 0, .nilFunc] 54)) (x3).heap.size 54 [.int .i64 0, .int .i64 0, .nilFunc] := BlkAt.made _ 54 _
          have zlt := HH.out.lt
          have zz := HBX.out.size
          have HXF := hid (HXF.out.below hb2)
          have HXB := hid (HXB.out.below hb2)
          have HH := hid (HH.out.below hb2)
          have c0 := below_cell hb2 c0
          have HBX := hid (bthen HBX.out hb2)
          refine hK.out _ _ (by dsimp only [Obl]; exact c0) ?_
          clear hK K
          obtain ⟨gb, hgb⟩ : ∃ b, b = (x3).heap.size := ⟨_, rfl⟩
          have zgb : w1.heap.size ≤ gb := by rw [hgb]; exact zz
          have hgh : gb ≠ hb := by omega
          clear zlt
          obtain ⟨x4, hnw⟩ : ∃ x, x = (x3).alloc (.cells #[.int .i64 0, .int .i64 0, .nilFunc] 54) := ⟨_, rfl⟩
          rw [← hgb] at hnew
          rw [← hnw] at c0 HBX hnew HXF HXB HH
          first | rw [← hnw] | (rw [show (w1.alloc (.cells #[.int .i64 0, .int .i64 0, .nilFunc] 54)).drew = x4 from hnw.symm])
          have HG := hid hnew
          first | rw [← hgb] | (rw [show w1.heap.size = gb from hgb.symm])
          clear hnw hb2 hnew zz hgb
          try simp only [Act.put, List.setIfInBounds_toArray, List.set_cons_zero, List.set_cons_succ]
          refine anyJ_one (i := 6) (oi := { dst := none, op := Go.Op.store 54 (Go.Operand.tmp 3) (Go.Operand.tmp 21), type := 0, pos := "dominators.go:146", after := #[{ on := 4, ground := Go.Ground.data }, { on := 1, ground := Go.Ground.data }, { on := 3, ground := Go.Ground.chain }, { on := 0, ground := Go.Ground.phase }, { on := 1, ground := Go.Ground.phase }, { on := 2, ground := Go.Ground.textOnly Go.Departure.lateStores }, { on := 3, ground := Go.Ground.textOnly Go.Departure.lateStoresUnsure }, { on := 4, ground := Go.Ground.phase }, { on := 5, ground := Go.Ground.phase }], guard := none }) rfl (by kernel_rfl) (by rfl) (fun K hK => ?_)
          have g0 := HG.out.cell 0 _ rfl; have g1 := HG.out.cell 1 _ rfl; have g2 := HG.out.cell 2 _ rfl; have gf0 := HG.out.fz 0; have gf1 := HG.out.fz 1; have gf2 := HG.out.fz 2
          go_simp
          refine hK.out _ _ trivial ?_
          clear hK K g0 g1 g2 gf0 gf1 gf2
          try simp only [Act.put, List.setIfInBounds_toArray, List.set_cons_zero, List.set_cons_succ]
          refine anyJ_one (i := 7) (oi := { dst := none, op := Go.Op.store 54 (Go.Operand.tmp 4) (Go.Operand.tmp 23), type := 0, pos := "dominators.go:146", after := #[{ on := 5, ground := Go.Ground.data }, { on := 3, ground := Go.Ground.data }, { on := 6, ground := Go.Ground.chain }, { on := 0, ground := Go.Ground.phase }, { on := 1, ground := Go.Ground.phase }, { on := 2, ground := Go.Ground.phase }, { on := 3, ground := Go.Ground.phase }, { on := 4, ground := Go.Ground.phase }, { on := 5, ground := Go.Ground.phase }, { on := 6, ground := Go.Ground.phase }], guard := none }) rfl (by kernel_rfl) (by rfl) (fun K hK => ?_)
          have g0 := HH.out.cell 0 _ rfl; have g1 := HH.out.cell 1 _ rfl; have g2 := HH.out.cell 2 _ rfl; have gf0 := HH.out.fz 0; have gf1 := HH.out.fz 1; have gf2 := HH.out.fz 2
          go_simp
          refine hK.out _ _ trivial ?_
          clear hK K g0 g1 g2 gf0 gf1 gf2
          try simp only [Act.put, List.setIfInBounds_toArray, List.set_cons_zero, List.set_cons_succ]
          refine anyJ_done (by kernel_rfl) ?_
          go_wp2_with fail
          go_meet
          case rel =>
            have c1 := HXF.out.ne HG.out (by decide)
            have c2 := HXF.out.ne HH.out (by decide)
            have a1 := HG.out.set 0 (.int .i64 n)
            have a2 := a1.set 1 (.int .i64 0)
            have a3 := a2.set 2 (.func (.func 57) #[] #[.pointer (some ⟨cf, 0, none⟩)])
            have b3 := ((HH.out.far hgh.symm 0 (.int .i64 n)).far hgh.symm 1 (.int .i64 0)).far hgh.symm 2 (.func (.func 57) #[] #[.pointer (some ⟨cf, 0, none⟩)])
            have b4 := b3.set 0 (.int .i64 n)
            have b5 := b4.set 1 (.int .i64 1)
            have b6 := b5.set 2 (.func (.func 58) #[] #[.pointer (some ⟨cb, 0, none⟩)])
            have a6 := ((a3.far hgh 0 (.int .i64 n)).far hgh 1 (.int .i64 1)).far hgh 2 (.func (.func 58) #[] #[.pointer (some ⟨cb, 0, none⟩)])
            have f6 := (((((HXF.out.far c1 0 (.int .i64 n)).far c1 1 (.int .i64 0)).far c1 2 (.func (.func 57) #[] #[.pointer (some ⟨cf, 0, none⟩)])).far c2 0 (.int .i64 n)).far c2 1 (.int .i64 1)).far c2 2 (.func (.func 58) #[] #[.pointer (some ⟨cb, 0, none⟩)])
            have v6 := (((((HXB.out.farT HG.out 0 (.int .i64 n)).farT a1 1 (.int .i64 0)).farT a2 2 (.func (.func 57) #[] #[.pointer (some ⟨cf, 0, none⟩)])).farT b3 0 (.int .i64 n)).farT b4 1 (.int .i64 1)).farT b5 2 (.func (.func 58) #[] #[.pointer (some ⟨cb, 0, none⟩)])
            have hbb := (((((HBX.out.setCell (p := ⟨gb, 0, none⟩) zgb (.int .i64 n)).setCell (p := ⟨gb, 1, none⟩) zgb (.int .i64 0)).setCell (p := ⟨gb, 2, none⟩) zgb (.func (.func 57) #[] #[.pointer (some ⟨cf, 0, none⟩)])).setCell (p := ⟨hb, 0, none⟩) zhb (.int .i64 n)).setCell (p := ⟨hb, 1, none⟩) zhb (.int .i64 1)).setCell (p := ⟨hb, 2, none⟩) zhb (.func (.func 58) #[] #[.pointer (some ⟨cb, 0, none⟩)])
            have n1 := fwd_next (pc := pc) (hF.below (bthen HB1.out hbb)) (by rw [← HNL.out]; exact f6.cell 0 _ rfl) (by rw [← HNL.out]; omega)
            exact ⟨gb, hb, cf, cb, B, rfl, rfl, a6, b6, n1, v6.next (by rw [HRV.out.len, ← HNL.out]; omega), HRV.out, hgh, zgb, zhb, hbb⟩
      · go_simp
        have hb2 := below_alloc (x1) (.cells #[.int .i64 0, .int .i64 0, .nilFunc] 54)
        have hnew : BlkAt ((x1).alloc (.cells #[.int .i64 0, .int .i64 0, .nilFunc] 54)) (x1).heap.size 54 [.int .i64 0, .int .i64 0, .nilFunc] := BlkAt.made _ 54 _
        have zz := HBX.out.size
        have HXF := hid (HXF.out.below hb2)
        have c0 := below_cell hb2 c0
        have HBX := hid (bthen HBX.out hb2)
        refine hK.out _ _ (by dsimp only [Obl]; exact c0) ?_
        clear hK K
        obtain ⟨gb, hgb⟩ : ∃ b, b = (x1).heap.size := ⟨_, rfl⟩
        have zgb : w1.heap.size ≤ gb := by rw [hgb]; exact zz
        obtain ⟨x2, hnw⟩ : ∃ x, x = (x1).alloc (.cells #[.int .i64 0, .int .i64 0, .nilFunc] 54) := ⟨_, rfl⟩
        rw [← hgb] at hnew
        rw [← hnw] at c0 HBX hnew HXF
        first | rw [← hnw] | (rw [show (w1.alloc (.cells #[.int .i64 0, .int .i64 0, .nilFunc] 54)).drew = x2 from hnw.symm])
        have HG := hid hnew
        first | rw [← hgb] | (rw [show w1.heap.size = gb from hgb.symm])
        clear hnw hb2 hnew zz hgb
        try simp only [Act.put, List.setIfInBounds_toArray, List.set_cons_zero, List.set_cons_succ]
        refine anyJ_two (i := 3) (oi := { dst := some 23, op := Go.Op.call { callee := Go.Callee.value (Go.Operand.func 45), args := #[Go.Operand.tmp 22], argTypes := #[24] }, type := 54, pos := "dominators.go:146", after := #[{ on := 2, ground := Go.Ground.data }, { on := 1, ground := Go.Ground.chain }], guard := none }) (j := 5) (oj := { dst := some 4, op := Go.Op.alloc 54, type := 0, pos := "dominators.go:146", after := #[], guard := none }) rfl rfl (by kernel_rfl) (by rfl) (by rfl) (fun K hK => ?_) (fun K hK => ?_)
        · go_simp
          have hbw := backward_at pa pc F (x2) (hF.below (bthen HB1.out HBX.out)) HV.out hsm
          rw [← HNL.out] at hbw
          refine hbw.mono ?_
          rintro e x3 ⟨cb, B0, bb0, vs0, B, he, hnx, hb2, hrev⟩
          rw [hrev.len, ← HNL.out] at he
          unfold gval at he
          subst he
          have HXF := hid (HXF.out.below hb2)
          have HG := hid (HG.out.below hb2)
          have c0 := below_cell hb2 c0
          have HBX := hid (bthen HBX.out hb2)
          have HXB := hid hnx; have HRV := hid hrev
          clear hnx hrev hbw
          refine hK.out _ _ (by dsimp only [Obl]; exact c0) ?_
          clear hK K hb2
          try simp only [Act.put, List.setIfInBounds_toArray, List.set_cons_zero, List.set_cons_succ]
          refine anyJ_one (i := 5) (oi := { dst := some 4, op := Go.Op.alloc 54, type := 0, pos := "dominators.go:146", after := #[], guard := none }) rfl (by kernel_rfl) (by rfl) (fun K hK => ?_)
          go_simp
          have hb2 := below_alloc (x3) (.cells #[.int .i64 0, .int .i64 0, .nilFunc] 54)
          have hnew : BlkAt ((x3).alloc (.cells #[.int .i64 0, .int .i64 0, .nilFunc] 54)) (x3).heap.size 54 [.int .i64 0, .int .i64 0, .nilFunc] := BlkAt.made _ 54 _
          have zlt := HG.out.lt
          have zz := HBX.out.size
          have HXF := hid (HXF.out.below hb2)
          have HG := hid (HG.out.below hb2)
          have HXB := hid (HXB.out.below hb2)
          have c0 := below_cell hb2 c0
          have HBX := hid (bthen HBX.out hb2)
          refine hK.out _ _ (by dsimp only [Obl]; exact c0) ?_
          clear hK K
          obtain ⟨hb, hhb⟩ : ∃ b, b = (x3).heap.size := ⟨_, rfl⟩
          have zhb : w1.heap.size ≤ hb := by rw [hhb]; exact zz
          have hgh : gb ≠ hb := by omega
          clear zlt
          obtain ⟨x4, hnw⟩ : ∃ x, x = (x3).alloc (.cells #[.int .i64 0, .int .i64 0, .nilFunc] 54) := ⟨_, rfl⟩
          rw [← hhb] at hnew
          rw [← hnw] at c0 HBX hnew HXF HG HXB
          first | rw [← hnw] | (rw [show (w1.alloc (.cells #[.int .i64 0, .int .i64 0, .nilFunc] 54)).drew = x4 from hnw.symm])
          have HH := hid hnew
          first | rw [← hhb] | (rw [show w1.heap.size = hb from hhb.symm])
          clear hnw hb2 hnew zz hhb
          try simp only [Act.put, List.setIfInBounds_toArray, List.set_cons_zero, List.set_cons_succ]
          refine anyJ_one (i := 6) (oi := { dst := none, op := Go.Op.store 54 (Go.Operand.tmp 3) (Go.Operand.tmp 21), type := 0, pos := "dominators.go:146", after := #[{ on := 4, ground := Go.Ground.data }, { on := 1, ground := Go.Ground.data }, { on := 3, ground := Go.Ground.chain }, { on := 0, ground := Go.Ground.phase }, { on := 1, ground := Go.Ground.phase }, { on := 2, ground := Go.Ground.textOnly Go.Departure.lateStores }, { on := 3, ground := Go.Ground.textOnly Go.Departure.lateStoresUnsure }, { on := 4, ground := Go.Ground.phase }, { on := 5, ground := Go.Ground.phase }], guard := none }) rfl (by kernel_rfl) (by rfl) (fun K hK => ?_)
          have g0 := HG.out.cell 0 _ rfl; have g1 := HG.out.cell 1 _ rfl; have g2 := HG.out.cell 2 _ rfl; have gf0 := HG.out.fz 0; have gf1 := HG.out.fz 1; have gf2 := HG.out.fz 2
          go_simp
          refine hK.out _ _ trivial ?_
          clear hK K g0 g1 g2 gf0 gf1 gf2
          try simp only [Act.put, List.setIfInBounds_toArray, List.set_cons_zero, List.set_cons_succ]
          refine anyJ_one (i := 7) (oi := { dst := none, op := Go.Op.store 54 (Go.Operand.tmp 4) (Go.Operand.tmp 23), type := 0, pos := "dominators.go:146", after := #[{ on := 5, ground := Go.Ground.data }, { on := 3, ground := Go.Ground.data }, { on := 6, ground := Go.Ground.chain }, { on := 0, ground := Go.Ground.phase }, { on := 1, ground := Go.Ground.phase }, { on := 2, ground := Go.Ground.phase }, { on := 3, ground := Go.Ground.phase }, { on := 4, ground := Go.Ground.phase }, { on := 5, ground := Go.Ground.phase }, { on := 6, ground := Go.Ground.phase }], guard := none }) rfl (by kernel_rfl) (by rfl) (fun K hK => ?_)
          have g0 := HH.out.cell 0 _ rfl; have g1 := HH.out.cell 1 _ rfl; have g2 := HH.out.cell 2 _ rfl; have gf0 := HH.out.fz 0; have gf1 := HH.out.fz 1; have gf2 := HH.out.fz 2
          go_simp
          refine hK.out _ _ trivial ?_
          clear hK K g0 g1 g2 gf0 gf1 gf2
          try simp only [Act.put, List.setIfInBounds_toArray, List.set_cons_zero, List.set_cons_succ]
          refine anyJ_done (by kernel_rfl) ?_
          go_wp2_with fail
          go_meet
          case rel =>
            have c1 := HXF.out.ne HG.out (by decide)
            have c2 := HXF.out.ne HH.out (by decide)
            have a1 := HG.out.set 0 (.int .i64 n)
            have a2 := a1.set 1 (.int .i64 0)
            have a3 := a2.set 2 (.func (.func 57) #[] #[.pointer (some ⟨cf, 0, none⟩)])
            have b3 := ((HH.out.far hgh.symm 0 (.int .i64 n)).far hgh.symm 1 (.int .i64 0)).far hgh.symm 2 (.func (.func 57) #[] #[.pointer (some ⟨cf, 0, none⟩)])
            have b4 := b3.set 0 (.int .i64 n)
            have b5 := b4.set 1 (.int .i64 1)
            have b6 := b5.set 2 (.func (.func 58) #[] #[.pointer (some ⟨cb, 0, none⟩)])
            have a6 := ((a3.far hgh 0 (.int .i64 n)).far hgh 1 (.int .i64 1)).far hgh 2 (.func (.func 58) #[] #[.pointer (some ⟨cb, 0, none⟩)])
            have f6 := (((((HXF.out.far c1 0 (.int .i64 n)).far c1 1 (.int .i64 0)).far c1 2 (.func (.func 57) #[] #[.pointer (some ⟨cf, 0, none⟩)])).far c2 0 (.int .i64 n)).far c2 1 (.int .i64 1)).far c2 2 (.func (.func 58) #[] #[.pointer (some ⟨cb, 0, none⟩)])
            have v6 := (((((HXB.out.farT HG.out 0 (.int .i64 n)).farT a1 1 (.int .i64 0)).farT a2 2 (.func (.func 57) #[] #[.pointer (some ⟨cf, 0, none⟩)])).farT b3 0 (.int .i64 n)).farT b4 1 (.int .i64 1)).farT b5 2 (.func (.func 58) #[] #[.pointer (some ⟨cb, 0, none⟩)])
            have hbb := (((((HBX.out.setCell (p := ⟨gb, 0, none⟩) zgb (.int .i64 n)).setCell (p := ⟨gb, 1, none⟩) zgb (.int .i64 0)).setCell (p := ⟨gb, 2, none⟩) zgb (.func (.func 57) #[] #[.pointer (some ⟨cf, 0, none⟩)])).setCell (p := ⟨hb, 0, none⟩) zhb (.int .i64 n)).setCell (p := ⟨hb, 1, none⟩) zhb (.int .i64 1)).setCell (p := ⟨hb, 2, none⟩) zhb (.func (.func 58) #[] #[.pointer (some ⟨cb, 0, none⟩)])
            have n1 := fwd_next (pc := pc) (hF.below (bthen HB1.out hbb)) (by rw [← HNL.out]; exact f6.cell 0 _ rfl) (by rw [← HNL.out]; omega)
            exact ⟨gb, hb, cf, cb, B, rfl, rfl, a6, b6, n1, v6.next (by rw [HRV.out.len, ← HNL.out]; omega), HRV.out, hgh, zgb, zhb, hbb⟩
        · go_simp
          have hb2 := below_alloc (x2) (.cells #[.int .i64 0, .int .i64 0, .nilFunc] 54)
          have hnew : BlkAt ((x2).alloc (.cells #[.int .i64 0, .int .i64 0, .nilFunc] 54)) (x2).heap.size 54 [.int .i64 0, .int .i64 0, .nilFunc] := BlkAt.made _ 54 _
          have zlt := HG.out.lt
          have zz := HBX.out.size
          have HXF := hid (HXF.out.below hb2)
          have HG := hid (HG.out.below hb2)
          have c0 := below_cell hb2 c0
          have HBX := hid (bthen HBX.out hb2)
          refine hK.out _ _ (by dsimp only [Obl]; exact c0) ?_
          clear hK K
          obtain ⟨hb, hhb⟩ : ∃ b, b = (x2).heap.size := ⟨_, rfl⟩
          have zhb : w1.heap.size ≤ hb := by rw [hhb]; exact zz
          have hgh : gb ≠ hb := by omega
          clear zlt
          obtain ⟨x3, hnw⟩ : ∃ x, x = (x2).alloc (.cells #[.int .i64 0, .int .i64 0, .nilFunc] 54) := ⟨_, rfl⟩
          rw [← hhb] at hnew
          rw [← hnw] at c0 HBX hnew HXF HG
          first | rw [← hnw] | (rw [show (w1.alloc (.cells #[.int .i64 0, .int .i64 0, .nilFunc] 54)).drew = x3 from hnw.symm])
          have HH := hid hnew
          first | rw [← hhb] | (rw [show w1.heap.size = hb from hhb.symm])
          clear hnw hb2 hnew zz hhb
          try simp only [Act.put, List.setIfInBounds_toArray, List.set_cons_zero, List.set_cons_succ]
          refine anyJ_one (i := 3) (oi := { dst := some 23, op := Go.Op.call { callee := Go.Callee.value (Go.Operand.func 45), args := #[Go.Operand.tmp 22], argTypes := #[24] }, type := 54, pos := "dominators.go:146", after := #[{ on := 2, ground := Go.Ground.data }, { on := 1, ground := Go.Ground.chain }], guard := none }) rfl (by kernel_rfl) (by rfl) (fun K hK => ?_)
          go_simp
          have hbw := backward_at pa pc F (x3) (hF.below (bthen HB1.out HBX.out)) HV.out hsm
          rw [← HNL.out] at hbw
          refine hbw.mono ?_
          rintro e x4 ⟨cb, B0, bb0, vs0, B, he, hnx, hb2, hrev⟩
          rw [hrev.len, ← HNL.out] at he
          unfold gval at he
          subst he
          have HXF := hid (HXF.out.below hb2)
          have HG := hid (HG.out.below hb2)
          have HH := hid (HH.out.below hb2)
          have c0 := below_cell hb2 c0
          have HBX := hid (bthen HBX.out hb2)
          have HXB := hid hnx; have HRV := hid hrev
          clear hnx hrev hbw
          refine hK.out _ _ (by dsimp only [Obl]; exact c0) ?_
          clear hK K hb2
          try simp only [Act.put, List.setIfInBounds_toArray, List.set_cons_zero, List.set_cons_succ]
          refine anyJ_one (i := 6) (oi := { dst := none, op := Go.Op.store 54 (Go.Operand.tmp 3) (Go.Operand.tmp 21), type := 0, pos := "dominators.go:146", after := #[{ on := 4, ground := Go.Ground.data }, { on := 1, ground := Go.Ground.data }, { on := 3, ground := Go.Ground.chain }, { on := 0, ground := Go.Ground.phase }, { on := 1, ground := Go.Ground.phase }, { on := 2, ground := Go.Ground.textOnly Go.Departure.lateStores }, { on := 3, ground := Go.Ground.textOnly Go.Departure.lateStoresUnsure }, { on := 4, ground := Go.Ground.phase }, { on := 5, ground := Go.Ground.phase }], guard := none }) rfl (by kernel_rfl) (by rfl) (fun K hK => ?_)
          have g0 := HG.out.cell 0 _ rfl; have g1 := HG.out.cell 1 _ rfl; have g2 := HG.out.cell 2 _ rfl; have gf0 := HG.out.fz 0; have gf1 := HG.out.fz 1; have gf2 := HG.out.fz 2
          go_simp
          refine hK.out _ _ trivial ?_
          clear hK K g0 g1 g2 gf0 gf1 gf2
          try simp only [Act.put, List.setIfInBounds_toArray, List.set_cons_zero, List.set_cons_succ]
          refine anyJ_one (i := 7) (oi := { dst := none, op := Go.Op.store 54 (Go.Operand.tmp 4) (Go.Operand.tmp 23), type := 0, pos := "dominators.go:146", after := #[{ on := 5, ground := Go.Ground.data }, { on := 3, ground := Go.Ground.data }, { on := 6, ground := Go.Ground.chain }, { on := 0, ground := Go.Ground.phase }, { on := 1, ground := Go.Ground.phase }, { on := 2, ground := Go.Ground.phase }, { on := 3, ground := Go.Ground.phase }, { on := 4, ground := Go.Ground.phase }, { on := 5, ground := Go.Ground.phase }, { on := 6, ground := Go.Ground.phase }], guard := none }) rfl (by kernel_rfl) (by rfl) (fun K hK => ?_)
          have g0 := HH.out.cell 0 _ rfl; have g1 := HH.out.cell 1 _ rfl; have g2 := HH.out.cell 2 _ rfl; have gf0 := HH.out.fz 0; have gf1 := HH.out.fz 1; have gf2 := HH.out.fz 2
          go_simp
          refine hK.out _ _ trivial ?_
          clear hK K g0 g1 g2 gf0 gf1 gf2
          try simp only [Act.put, List.setIfInBounds_toArray, List.set_cons_zero, List.set_cons_succ]
          refine anyJ_done (by kernel_rfl) ?_
          go_wp2_with fail
          go_meet
          case rel =>
            have c1 := HXF.out.ne HG.out (by decide)
            have c2 := HXF.out.ne HH.out (by decide)
            have a1 := HG.out.set 0 (.int .i64 n)
            have a2 := a1.set 1 (.int .i64 0)
            have a3 := a2.set 2 (.func (.func 57) #[] #[.pointer (some ⟨cf, 0, none⟩)])
            have b3 := ((HH.out.far hgh.symm 0 (.int .i64 n)).far hgh.symm 1 (.int .i64 0)).far hgh.symm 2 (.func (.func 57) #[] #[.pointer (some ⟨cf, 0, none⟩)])
            have b4 := b3.set 0 (.int .i64 n)
            have b5 := b4.set 1 (.int .i64 1)
            have b6 := b5.set 2 (.func (.func 58) #[] #[.pointer (some ⟨cb, 0, none⟩)])
            have a6 := ((a3.far hgh 0 (.int .i64 n)).far hgh 1 (.int .i64 1)).far hgh 2 (.func (.func 58) #[] #[.pointer (some ⟨cb, 0, none⟩)])
            have f6 := (((((HXF.out.far c1 0 (.int .i64 n)).far c1 1 (.int .i64 0)).far c1 2 (.func (.func 57) #[] #[.pointer (some ⟨cf, 0, none⟩)])).far c2 0 (.int .i64 n)).far c2 1 (.int .i64 1)).far c2 2 (.func (.func 58) #[] #[.pointer (some ⟨cb, 0, none⟩)])
            have v6 := (((((HXB.out.farT HG.out 0 (.int .i64 n)).farT a1 1 (.int .i64 0)).farT a2 2 (.func (.func 57) #[] #[.pointer (some ⟨cf, 0, none⟩)])).farT b3 0 (.int .i64 n)).farT b4 1 (.int .i64 1)).farT b5 2 (.func (.func 58) #[] #[.pointer (some ⟨cb, 0, none⟩)])
            have hbb := (((((HBX.out.setCell (p := ⟨gb, 0, none⟩) zgb (.int .i64 n)).setCell (p := ⟨gb, 1, none⟩) zgb (.int .i64 0)).setCell (p := ⟨gb, 2, none⟩) zgb (.func (.func 57) #[] #[.pointer (some ⟨cf, 0, none⟩)])).setCell (p := ⟨hb, 0, none⟩) zhb (.int .i64 n)).setCell (p := ⟨hb, 1, none⟩) zhb (.int .i64 1)).setCell (p := ⟨hb, 2, none⟩) zhb (.func (.func 58) #[] #[.pointer (some ⟨cb, 0, none⟩)])
            have n1 := fwd_next (pc := pc) (hF.below (bthen HB1.out hbb)) (by rw [← HNL.out]; exact f6.cell 0 _ rfl) (by rw [← HNL.out]; omega)
            exact ⟨gb, hb, cf, cb, B, rfl, rfl, a6, b6, n1, v6.next (by rw [HRV.out.len, ← HNL.out]; omega), HRV.out, hgh, zgb, zhb, hbb⟩
      · go_simp
        have hb2 := below_alloc (x1) (.cells #[.int .i64 0, .int .i64 0, .nilFunc] 54)
        have hnew : BlkAt ((x1).alloc (.cells #[.int .i64 0, .int .i64 0, .nilFunc] 54)) (x1).heap.size 54 [.int .i64 0, .int .i64 0, .nilFunc] := BlkAt.made _ 54 _
        have zz := HBX.out.size
        have HXF := hid (HXF.out.below hb2)
        have c0 := below_cell hb2 c0
        have HBX := hid (bthen HBX.out hb2)
        refine hK.out _ _ (by dsimp only [Obl]; exact c0) ?_
        clear hK K
        obtain ⟨hb, hhb⟩ : ∃ b, b = (x1).heap.size := ⟨_, rfl⟩
        have zhb : w1.heap.size ≤ hb := by rw [hhb]; exact zz
        obtain ⟨x2, hnw⟩ : ∃ x, x = (x1).alloc (.cells #[.int .i64 0, .int .i64 0, .nilFunc] 54) := ⟨_, rfl⟩
        rw [← hhb] at hnew
        rw [← hnw] at c0 HBX hnew HXF
        first | rw [← hnw] | (rw [show (w1.alloc (.cells #[.int .i64 0, .int .i64 0, .nilFunc] 54)).drew = x2 from hnw.symm])
        have HH := hid hnew
        first | rw [← hhb] | (rw [show w1.heap.size = hb from hhb.symm])
        clear hnw hb2 hnew zz hhb
        try simp only [Act.put, List.setIfInBounds_toArray, List.set_cons_zero, List.set_cons_succ]
        refine anyJ_two (i := 3) (oi := { dst := some 23, op := Go.Op.call { callee := Go.Callee.value (Go.Operand.func 45), args := #[Go.Operand.tmp 22], argTypes := #[24] }, type := 54, pos := "dominators.go:146", after := #[{ on := 2, ground := Go.Ground.data }, { on := 1, ground := Go.Ground.chain }], guard := none }) (j := 4) (oj := { dst := some 3, op := Go.Op.alloc 54, type := 0, pos := "dominators.go:146", after := #[], guard := none }) rfl rfl (by kernel_rfl) (by rfl) (by rfl) (fun K hK => ?_) (fun K hK => ?_)
        · go_simp
          have hbw := backward_at pa pc F (x2) (hF.below (bthen HB1.out HBX.out)) HV.out hsm
          rw [← HNL.out] at hbw
          refine hbw.mono ?_
          rintro e x3 ⟨cb, B0, bb0, vs0, B, he, hnx, hb2, hrev⟩
          rw [hrev.len, ← HNL.out] at he
          unfold gval at he
          subst he
          have HXF := hid (HXF.out.below hb2)
          have HH := hid (HH.out.below hb2)
          have c0 := below_cell hb2 c0
          have HBX := hid (bthen HBX.out hb2)
          have HXB := hid hnx; have HRV := hid hrev
          clear hnx hrev hbw
          refine hK.out _ _ (by dsimp only [Obl]; exact c0) ?_
          clear hK K hb2
          try simp only [Act.put, List.setIfInBounds_toArray, List.set_cons_zero, List.set_cons_succ]
          refine anyJ_one (i := 4) (oi := { dst := some 3, op := Go.Op.alloc 54, type := 0, pos := "dominators.go:146", after := #[], guard := none }) rfl (by kernel_rfl) (by rfl) (fun K hK => ?_)
          go_simp
          have hb2 := below_alloc (x3) (.cells #[.int .i64 0, .int .i64 0, .nilFunc] 54)
          have hnew : BlkAt ((x3).alloc (.cells #[.int .i64 0, .int .i64 0, .nilFunc] 54)) (x3).heap.size 54 [.int .i64 0, .int .i64 0, .nilFunc] := BlkAt.made _ 54 _
          have zlt := HH.out.lt
          have zz := HBX.out.size
          have HXF := hid (HXF.out.below hb2)
          have HH := hid (HH.out.below hb2)
          have HXB := hid (HXB.out.below hb2)
          have c0 := below_cell hb2 c0
          have HBX := hid (bthen HBX.out hb2)
          refine hK.out _ _ (by dsimp only [Obl]; exact c0) ?_
          clear hK K
          obtain ⟨gb, hgb⟩ : ∃ b, b = (x3).heap.size := ⟨_, rfl⟩
          have zgb : w1.heap.size ≤ gb := by rw [hgb]; exact zz
          have hgh : gb ≠ hb := by omega
          clear zlt
          obtain ⟨x4, hnw⟩ : ∃ x, x = (x3).alloc (.cells #[.int .i64 0, .int .i64 0, .nilFunc] 54) := ⟨_, rfl⟩
          rw [← hgb] at hnew
          rw [← hnw] at c0 HBX hnew HXF HH HXB
          first | rw [← hnw] | (rw [show (w1.alloc (.cells #[.int .i64 0, .int .i64 0, .nilFunc] 54)).drew = x4 from hnw.symm])
          have HG := hid hnew
          first | rw [← hgb] | (rw [show w1.heap.size = gb from hgb.symm])
          clear hnw hb2 hnew zz hgb
          try simp only [Act.put, List.setIfInBounds_toArray, List.set_cons_zero, List.set_cons_succ]
          refine anyJ_one (i := 6) (oi := { dst := none, op := Go.Op.store 54 (Go.Operand.tmp 3) (Go.Operand.tmp 21), type := 0, pos := "dominators.go:146", after := #[{ on := 4, ground := Go.Ground.data }, { on := 1, ground := Go.Ground.data }, { on := 3, ground := Go.Ground.chain }, { on := 0, ground := Go.Ground.phase }, { on := 1, ground := Go.Ground.phase }, { on := 2, ground := Go.Ground.textOnly Go.Departure.lateStores }, { on := 3, ground := Go.Ground.textOnly Go.Departure.lateStoresUnsure }, { on := 4, ground := Go.Ground.phase }, { on := 5, ground := Go.Ground.phase }], guard := none }) rfl (by kernel_rfl) (by rfl) (fun K hK => ?_)
          have g0 := HG.out.cell 0 _ rfl; have g1 := HG.out.cell 1 _ rfl; have g2 := HG.out.cell 2 _ rfl; have gf0 := HG.out.fz 0; have gf1 := HG.out.fz 1; have gf2 := HG.out.fz 2
          go_simp
          refine hK.out _ _ trivial ?_
          clear hK K g0 g1 g2 gf0 gf1 gf2
          try simp only [Act.put, List.setIfInBounds_toArray, List.set_cons_zero, List.set_cons_succ]
          refine anyJ_one (i := 7) (oi := { dst := none, op := Go.Op.store 54 (Go.Operand.tmp 4) (Go.Operand.tmp 23), type := 0, pos := "dominators.go:146", after := #[{ on := 5, ground := Go.Ground.data }, { on := 3, ground := Go.Ground.data }, { on := 6, ground := Go.Ground.chain }, { on := 0, ground := Go.Ground.phase }, { on := 1, ground := Go.Ground.phase }, { on := 2, ground := Go.Ground.phase }, { on := 3, ground := Go.Ground.phase }, { on := 4, ground := Go.Ground.phase }, { on := 5, ground := Go.Ground.phase }, { on := 6, ground := Go.Ground.phase }], guard := none }) rfl (by kernel_rfl) (by rfl) (fun K hK => ?_)
          have g0 := HH.out.cell 0 _ rfl; have g1 := HH.out.cell 1 _ rfl; have g2 := HH.out.cell 2 _ rfl; have gf0 := HH.out.fz 0; have gf1 := HH.out.fz 1; have gf2 := HH.out.fz 2
          go_simp
          refine hK.out _ _ trivial ?_
          clear hK K g0 g1 g2 gf0 gf1 gf2
          try simp only [Act.put, List.setIfInBounds_toArray, List.set_cons_zero, List.set_cons_succ]
          refine anyJ_done (by kernel_rfl) ?_
          go_wp2_with fail
          go_meet
          case rel =>
            have c1 := HXF.out.ne HG.out (by decide)
            have c2 := HXF.out.ne HH.out (by decide)
            have a1 := HG.out.set 0 (.int .i64 n)
            have a2 := a1.set 1 (.int .i64 0)
            have a3 := a2.set 2 (.func (.func 57) #[] #[.pointer (some ⟨cf, 0, none⟩)])
            have b3 := ((HH.out.far hgh.symm 0 (.int .i64 n)).far hgh.symm 1 (.int .i64 0)).far hgh.symm 2 (.func (.func 57) #[] #[.pointer (some ⟨cf, 0, none⟩)])
            have b4 := b3.set 0 (.int .i64 n)
            have b5 := b4.set 1 (.int .i64 1)
            have b6 := b5.set 2 (.func (.func 58) #[] #[.pointer (some ⟨cb, 0, none⟩)])
            have a6 := ((a3.far hgh 0 (.int .i64 n)).far hgh 1 (.int .i64 1)).far hgh 2 (.func (.func 58) #[] #[.pointer (some ⟨cb, 0, none⟩)])
            have f6 := (((((HXF.out.far c1 0 (.int .i64 n)).far c1 1 (.int .i64 0)).far c1 2 (.func (.func 57) #[] #[.pointer (some ⟨cf, 0, none⟩)])).far c2 0 (.int .i64 n)).far c2 1 (.int .i64 1)).far c2 2 (.func (.func 58) #[] #[.pointer (some ⟨cb, 0, none⟩)])
            have v6 := (((((HXB.out.farT HG.out 0 (.int .i64 n)).farT a1 1 (.int .i64 0)).farT a2 2 (.func (.func 57) #[] #[.pointer (some ⟨cf, 0, none⟩)])).farT b3 0 (.int .i64 n)).farT b4 1 (.int .i64 1)).farT b5 2 (.func (.func 58) #[] #[.pointer (some ⟨cb, 0, none⟩)])
            have hbb := (((((HBX.out.setCell (p := ⟨gb, 0, none⟩) zgb (.int .i64 n)).setCell (p := ⟨gb, 1, none⟩) zgb (.int .i64 0)).setCell (p := ⟨gb, 2, none⟩) zgb (.func (.func 57) #[] #[.pointer (some ⟨cf, 0, none⟩)])).setCell (p := ⟨hb, 0, none⟩) zhb (.int .i64 n)).setCell (p := ⟨hb, 1, none⟩) zhb (.int .i64 1)).setCell (p := ⟨hb, 2, none⟩) zhb (.func (.func 58) #[] #[.pointer (some ⟨cb, 0, none⟩)])
            have n1 := fwd_next (pc := pc) (hF.below (bthen HB1.out hbb)) (by rw [← HNL.out]; exact f6.cell 0 _ rfl) (by rw [← HNL.out]; omega)
            exact ⟨gb, hb, cf, cb, B, rfl, rfl, a6, b6, n1, v6.next (by rw [HRV.out.len, ← HNL.out]; omega), HRV.out, hgh, zgb, zhb, hbb⟩
        · go_simp
          have hb2 := below_alloc (x2) (.cells #[.int .i64 0, .int .i64 0, .nilFunc] 54)
          have hnew : BlkAt ((x2).alloc (.cells #[.int .i64 0, .int .i64 0, .nilFunc] 54)) (x2).heap.size 54 [.int .i64 0, .int .i64 0, .nilFunc] := BlkAt.made _ 54 _
          have zlt := HH.out.lt
          have zz := HBX.out.size
          have HXF := hid (HXF.out.below hb2)
          have HH := hid (HH.out.below hb2)
          have c0 := below_cell hb2 c0
          have HBX := hid (bthen HBX.out hb2)
          refine hK.out _ _ (by dsimp only [Obl]; exact c0) ?_
          clear hK K
          obtain ⟨gb, hgb⟩ : ∃ b, b = (x2).heap.size := ⟨_, rfl⟩
          have zgb : w1.heap.size ≤ gb := by rw [hgb]; exact zz
          have hgh : gb ≠ hb := by omega
          clear zlt
          obtain ⟨x3, hnw⟩ : ∃ x, x = (x2).alloc (.cells #[.int .i64 0, .int .i64 0, .nilFunc] 54) := ⟨_, rfl⟩
          rw [← hgb] at hnew
          rw [← hnw] at c0 HBX hnew HXF HH
          first | rw [← hnw] | (rw [show (w1.alloc (.cells #[.int .i64 0, .int .i64 0, .nilFunc] 54)).drew = x3 from hnw.symm])
          have HG := hid hnew
          first | rw [← hgb] | (rw [show w1.heap.size = gb from hgb.symm])
          clear hnw hb2 hnew zz hgb
          try simp only [Act.put, List.setIfInBounds_toArray, List.set_cons_zero, List.set_cons_succ]
          refine anyJ_one (i := 3) (oi := { dst := some 23, op := Go.Op.call { callee := Go.Callee.value (Go.Operand.func 45), args := #[Go.Operand.tmp 22], argTypes := #[24] }, type := 54, pos := "dominators.go:146", after := #[{ on := 2, ground := Go.Ground.data }, { on := 1, ground := Go.Ground.chain }], guard := none }) rfl (by kernel_rfl) (by rfl) (fun K hK => ?_)
          go_simp
          have hbw := backward_at pa pc F (x3) (hF.below (bthen HB1.out HBX.out)) HV.out hsm
          rw [← HNL.out] at hbw
          refine hbw.mono ?_
          rintro e x4 ⟨cb, B0, bb0, vs0, B, he, hnx, hb2, hrev⟩
          rw [hrev.len, ← HNL.out] at he
          unfold gval at he
          subst he
          have HXF := hid (HXF.out.below hb2)
          have HH := hid (HH.out.below hb2)
          have HG := hid (HG.out.below hb2)
          have c0 := below_cell hb2 c0
          have HBX := hid (bthen HBX.out hb2)
          have HXB := hid hnx; have HRV := hid hrev
          clear hnx hrev hbw
          refine hK.out _ _ (by dsimp only [Obl]; exact c0) ?_
          clear hK K hb2
          try simp only [Act.put, List.setIfInBounds_toArray, List.set_cons_zero, List.set_cons_succ]
          refine anyJ_one (i := 6) (oi := { dst := none, op := Go.Op.store 54 (Go.Operand.tmp 3) (Go.Operand.tmp 21), type := 0, pos := "dominators.go:146", after := #[{ on := 4, ground := Go.Ground.data }, { on := 1, ground := Go.Ground.data }, { on := 3, ground := Go.Ground.chain }, { on := 0, ground := Go.Ground.phase }, { on := 1, ground := Go.Ground.phase }, { on := 2, ground := Go.Ground.textOnly Go.Departure.lateStores }, { on := 3, ground := Go.Ground.textOnly Go.Departure.lateStoresUnsure }, { on := 4, ground := Go.Ground.phase }, { on := 5, ground := Go.Ground.phase }], guard := none }) rfl (by kernel_rfl) (by rfl) (fun K hK => ?_)
          have g0 := HG.out.cell 0 _ rfl; have g1 := HG.out.cell 1 _ rfl; have g2 := HG.out.cell 2 _ rfl; have gf0 := HG.out.fz 0; have gf1 := HG.out.fz 1; have gf2 := HG.out.fz 2
          go_simp
          refine hK.out _ _ trivial ?_
          clear hK K g0 g1 g2 gf0 gf1 gf2
          try simp only [Act.put, List.setIfInBounds_toArray, List.set_cons_zero, List.set_cons_succ]
          refine anyJ_one (i := 7) (oi := { dst := none, op := Go.Op.store 54 (Go.Operand.tmp 4) (Go.Operand.tmp 23), type := 0, pos := "dominators.go:146", after := #[{ on := 5, ground := Go.Ground.data }, { on := 3, ground := Go.Ground.data }, { on := 6, ground := Go.Ground.chain }, { on := 0, ground := Go.Ground.phase }, { on := 1, ground := Go.Ground.phase }, { on := 2, ground := Go.Ground.phase }, { on := 3, ground := Go.Ground.phase }, { on := 4, ground := Go.Ground.phase }, { on := 5, ground := Go.Ground.phase }, { on := 6, ground := Go.Ground.phase }], guard := none }) rfl (by kernel_rfl) (by rfl) (fun K hK => ?_)
          have g0 := HH.out.cell 0 _ rfl; have g1 := HH.out.cell 1 _ rfl; have g2 := HH.out.cell 2 _ rfl; have gf0 := HH.out.fz 0; have gf1 := HH.out.fz 1; have gf2 := HH.out.fz 2
          go_simp
          refine hK.out _ _ trivial ?_
          clear hK K g0 g1 g2 gf0 gf1 gf2
          try simp only [Act.put, List.setIfInBounds_toArray, List.set_cons_zero, List.set_cons_succ]
          refine anyJ_done (by kernel_rfl) ?_
          go_wp2_with fail
          go_meet
          case rel =>
            have c1 := HXF.out.ne HG.out (by decide)
            have c2 := HXF.out.ne HH.out (by decide)
            have a1 := HG.out.set 0 (.int .i64 n)
            have a2 := a1.set 1 (.int .i64 0)
            have a3 := a2.set 2 (.func (.func 57) #[] #[.pointer (some ⟨cf, 0, none⟩)])
            have b3 := ((HH.out.far hgh.symm 0 (.int .i64 n)).far hgh.symm 1 (.int .i64 0)).far hgh.symm 2 (.func (.func 57) #[] #[.pointer (some ⟨cf, 0, none⟩)])
            have b4 := b3.set 0 (.int .i64 n)
            have b5 := b4.set 1 (.int .i64 1)
            have b6 := b5.set 2 (.func (.func 58) #[] #[.pointer (some ⟨cb, 0, none⟩)])
            have a6 := ((a3.far hgh 0 (.int .i64 n)).far hgh 1 (.int .i64 1)).far hgh 2 (.func (.func 58) #[] #[.pointer (some ⟨cb, 0, none⟩)])
            have f6 := (((((HXF.out.far c1 0 (.int .i64 n)).far c1 1 (.int .i64 0)).far c1 2 (.func (.func 57) #[] #[.pointer (some ⟨cf, 0, none⟩)])).far c2 0 (.int .i64 n)).far c2 1 (.int .i64 1)).far c2 2 (.func (.func 58) #[] #[.pointer (some ⟨cb, 0, none⟩)])
            have v6 := (((((HXB.out.farT HG.out 0 (.int .i64 n)).farT a1 1 (.int .i64 0)).farT a2 2 (.func (.func 57) #[] #[.pointer (some ⟨cf, 0, none⟩)])).farT b3 0 (.int .i64 n)).farT b4 1 (.int .i64 1)).farT b5 2 (.func (.func 58) #[] #[.pointer (some ⟨cb, 0, none⟩)])
            have hbb := (((((HBX.out.setCell (p := ⟨gb, 0, none⟩) zgb (.int .i64 n)).setCell (p := ⟨gb, 1, none⟩) zgb (.int .i64 0)).setCell (p := ⟨gb, 2, none⟩) zgb (.func (.func 57) #[] #[.pointer (some ⟨cf, 0, none⟩)])).setCell (p := ⟨hb, 0, none⟩) zhb (.int .i64 n)).setCell (p := ⟨hb, 1, none⟩) zhb (.int .i64 1)).setCell (p := ⟨hb, 2, none⟩) zhb (.func (.func 58) #[] #[.pointer (some ⟨cb, 0, none⟩)])
            have n1 := fwd_next (pc := pc) (hF.below (bthen HB1.out hbb)) (by rw [← HNL.out]; exact f6.cell 0 _ rfl) (by rw [← HNL.out]; omega)
            exact ⟨gb, hb, cf, cb, B, rfl, rfl, a6, b6, n1, v6.next (by rw [HRV.out.len, ← HNL.out]; omega), HRV.out, hgh, zgb, zhb, hbb⟩
    · go_simp
      have hb2 := below_alloc (w1.drew) (.cells #[.int .i64 0, .int .i64 0, .nilFunc] 54)
      have hnew : BlkAt ((w1.drew).alloc (.cells #[.int .i64 0, .int .i64 0, .nilFunc] 54)) (w1.drew).heap.size 54 [.int .i64 0, .int .i64 0, .nilFunc] := BlkAt.made _ 54 _
      have zz := HBX.out.size
      have c0 := below_cell hb2 c0
      have HBX := hid (bthen HBX.out hb2)
      refine hK.out _ _ (by dsimp only [Obl]; exact c0) ?_
      clear hK K
      obtain ⟨gb, hgb⟩ : ∃ b, b = (w1.drew).heap.size := ⟨_, rfl⟩
      have zgb : w1.heap.size ≤ gb := by rw [hgb]; exact zz
      obtain ⟨x1, hnw⟩ : ∃ x, x = (w1.drew).alloc (.cells #[.int .i64 0, .int .i64 0, .nilFunc] 54) := ⟨_, rfl⟩
      rw [← hgb] at hnew
      rw [← hnw] at c0 HBX hnew 
      first | rw [← hnw] | (rw [show (w1.alloc (.cells #[.int .i64 0, .int .i64 0, .nilFunc] 54)).drew = x1 from hnw.symm])
      have HG := hid hnew
      first | rw [← hgb] | (rw [show w1.heap.size = gb from hgb.symm])
      clear hnw hb2 hnew zz hgb
      try simp only [Act.put, List.setIfInBounds_toArray, List.set_cons_zero, List.set_cons_succ]
      refine anyJ_two (i := 1) (oi := { dst := some 21, op := Go.Op.call { callee := Go.Callee.value (Go.Operand.func 42), args := #[Go.Operand.tmp 20], argTypes := #[24] }, type := 54, pos := "dominators.go:146", after := #[{ on := 0, ground := Go.Ground.data }], guard := none }) (j := 5) (oj := { dst := some 4, op := Go.Op.alloc 54, type := 0, pos := "dominators.go:146", after := #[], guard := none }) rfl rfl (by kernel_rfl) (by rfl) (by rfl) (fun K hK => ?_) (fun K hK => ?_)
      · go_simp
        have hfw := forward_at pa pc F (x1)
        rw [← HNL.out] at hfw
        refine hfw.mono ?_
        rintro e x2 ⟨cf, he, hnx, hb2⟩
        unfold gval at he
        subst he
        have HG := hid (HG.out.below hb2)
        have c0 := below_cell hb2 c0
        have HBX := hid (bthen HBX.out hb2)
        have HXF := hid hnx
        clear hnx hfw
        refine hK.out _ _ (by dsimp only [Obl]; exact c0) ?_
        clear hK K hb2
        try simp only [Act.put, List.setIfInBounds_toArray, List.set_cons_zero, List.set_cons_succ]
        refine anyJ_two (i := 3) (oi := { dst := some 23, op := Go.Op.call { callee := Go.Callee.value (Go.Operand.func 45), args := #[Go.Operand.tmp 22], argTypes := #[24] }, type := 54, pos := "dominators.go:146", after := #[{ on := 2, ground := Go.Ground.data }, { on := 1, ground := Go.Ground.chain }], guard := none }) (j := 5) (oj := { dst := some 4, op := Go.Op.alloc 54, type := 0, pos := "dominators.go:146", after := #[], guard := none }) rfl rfl (by kernel_rfl) (by rfl) (by rfl) (fun K hK => ?_) (fun K hK => ?_)
        · go_simp
          have hbw := backward_at pa pc F (x2) (hF.below (bthen HB1.out HBX.out)) HV.out hsm
          rw [← HNL.out] at hbw
          refine hbw.mono ?_
          rintro e x3 ⟨cb, B0, bb0, vs0, B, he, hnx, hb2, hrev⟩
          rw [hrev.len, ← HNL.out] at he
          unfold gval at he
          subst he
          have HG := hid (HG.out.below hb2)
          have HXF := hid (HXF.out.below hb2)
          have c0 := below_cell hb2 c0
          have HBX := hid (bthen HBX.out hb2)
          have HXB := hid hnx; have HRV := hid hrev
          clear hnx hrev hbw
          refine hK.out _ _ (by dsimp only [Obl]; exact c0) ?_
          clear hK K hb2
          try simp only [Act.put, List.setIfInBounds_toArray, List.set_cons_zero, List.set_cons_succ]
          refine anyJ_one (i := 5) (oi := { dst := some 4, op := Go.Op.alloc 54, type := 0, pos := "dominators.go:146", after := #[], guard := none }) rfl (by kernel_rfl) (by rfl) (fun K hK => ?_)
          go_simp
          have hb2 := below_alloc (x3) (.cells #[.int .i64 0, .int .i64 0, .nilFunc] 54)
          have hnew : BlkAt ((x3).alloc (.cells #[.int .i64 0, .int .i64 0, .nilFunc] 54)) (x3).heap.size 54 [.int .i64 0, .int .i64 0, .nilFunc] := BlkAt.made _ 54 _
          have zlt := HG.out.lt
          have zz := HBX.out.size
          have HG := hid (HG.out.below hb2)
          have HXF := hid (HXF.out.below hb2)
          have HXB := hid (HXB.out.below hb2)
          have c0 := below_cell hb2 c0
          have HBX := hid (bthen HBX.out hb2)
          refine hK.out _ _ (by dsimp only [Obl]; exact c0) ?_
          clear hK K
          obtain ⟨hb, hhb⟩ : ∃ b, b = (x3).heap.size := ⟨_, rfl⟩
          have zhb : w1.heap.size ≤ hb := by rw [hhb]; exact zz
          have hgh : gb ≠ hb := by omega
          clear zlt
          obtain ⟨x4, hnw⟩ : ∃ x, x = (x3).alloc (.cells #[.int .i64 0, .int .i64 0, .nilFunc] 54) := ⟨_, rfl⟩
          rw [← hhb] at hnew
          rw [← hnw] at c0 HBX hnew HG HXF HXB
          first | rw [← hnw] | (rw [show (w1.alloc (.cells #[.int .i64 0, .int .i64 0, .nilFunc] 54)).drew = x4 from hnw.symm])
          have HH := hid hnew
          first | rw [← hhb] | (rw [show w1.heap.size = hb from hhb.symm])
          clear hnw hb2 hnew zz hhb
          try simp only [Act.put, List.setIfInBounds_toArray, List.set_cons_zero, List.set_cons_succ]
          refine anyJ_one (i := 6) (oi := { dst := none, op := Go.Op.store 54 (Go.Operand.tmp 3) (Go.Operand.tmp 21), type := 0, pos := "dominators.go:146", after := #[{ on := 4, ground := Go.Ground.data }, { on := 1, ground := Go.Ground.data }, { on := 3, ground := Go.Ground.chain }, { on := 0, ground := Go.Ground.phase }, { on := 1, ground := Go.Ground.phase }, { on := 2, ground := Go.Ground.textOnly Go.Departure.lateStores }, { on := 3, ground := Go.Ground.textOnly Go.Departure.lateStoresUnsure }, { on := 4, ground := Go.Ground.phase }, { on := 5, ground := Go.Ground.phase }], guard := none }) rfl (by kernel_rfl) (by rfl) (fun K hK => ?_)
          have g0 := HG.out.cell 0 _ rfl; have g1 := HG.out.cell 1 _ rfl; have g2 := HG.out.cell 2 _ rfl; have gf0 := HG.out.fz 0; have gf1 := HG.out.fz 1; have gf2 := HG.out.fz 2
          go_simp
          refine hK.out _ _ trivial ?_
          clear hK K g0 g1 g2 gf0 gf1 gf2
          try simp only [Act.put, List.setIfInBounds_toArray, List.set_cons_zero, List.set_cons_succ]
          refine anyJ_one (i := 7) (oi := { dst := none, op := Go.Op.store 54 (Go.Operand.tmp 4) (Go.Operand.tmp 23), type := 0, pos := "dominators.go:146", after := #[{ on := 5, ground := Go.Ground.data }, { on := 3, ground := Go.Ground.data }, { on := 6, ground := Go.Ground.chain }, { on := 0, ground := Go.Ground.phase }, { on := 1, ground := Go.Ground.phase }, { on := 2, ground := Go.Ground.phase }, { on := 3, ground := Go.Ground.phase }, { on := 4, ground := Go.Ground.phase }, { on := 5, ground := Go.Ground.phase }, { on := 6, ground := Go.Ground.phase }], guard := none }) rfl (by kernel_rfl) (by rfl) (fun K hK => ?_)
          have g0 := HH.out.cell 0 _ rfl; have g1 := HH.out.cell 1 _ rfl; have g2 := HH.out.cell 2 _ rfl; have gf0 := HH.out.fz 0; have gf1 := HH.out.fz 1; have gf2 := HH.out.fz 2
          go_simp
          refine hK.out _ _ trivial ?_
          clear hK K g0 g1 g2 gf0 gf1 gf2
          try simp only [Act.put, List.setIfInBounds_toArray, List.set_cons_zero, List.set_cons_succ]
          refine anyJ_done (by kernel_rfl) ?_
          go_wp2_with fail
          go_meet
          case rel =>
            have c1 := HXF.out.ne HG.out (by decide)
            have c2 := HXF.out.ne HH.out (by decide)
            have a1 := HG.out.set 0 (.int .i64 n)
            have a2 := a1.set 1 (.int .i64 0)
            have a3 := a2.set 2 (.func (.func 57) #[] #[.pointer (some ⟨cf, 0, none⟩)])
            have b3 := ((HH.out.far hgh.symm 0 (.int .i64 n)).far hgh.symm 1 (.int .i64 0)).far hgh.symm 2 (.func (.func 57) #[] #[.pointer (some ⟨cf, 0, none⟩)])
            have b4 := b3.set 0 (.int .i64 n)
            have b5 := b4.set 1 (.int .i64 1)
            have b6 := b5.set 2 (.func (.func 58) #[] #[.pointer (some ⟨cb, 0, none⟩)])
            have a6 := ((a3.far hgh 0 (.int .i64 n)).far hgh 1 (.int .i64 1)).far hgh 2 (.func (.func 58) #[] #[.pointer (some ⟨cb, 0, none⟩)])
            have f6 := (((((HXF.out.far c1 0 (.int .i64 n)).far c1 1 (.int .i64 0)).far c1 2 (.func (.func 57) #[] #[.pointer (some ⟨cf, 0, none⟩)])).far c2 0 (.int .i64 n)).far c2 1 (.int .i64 1)).far c2 2 (.func (.func 58) #[] #[.pointer (some ⟨cb, 0, none⟩)])
            have v6 := (((((HXB.out.farT HG.out 0 (.int .i64 n)).farT a1 1 (.int .i64 0)).farT a2 2 (.func (.func 57) #[] #[.pointer (some ⟨cf, 0, none⟩)])).farT b3 0 (.int .i64 n)).farT b4 1 (.int .i64 1)).farT b5 2 (.func (.func 58) #[] #[.pointer (some ⟨cb, 0, none⟩)])
            have hbb := (((((HBX.out.setCell (p := ⟨gb, 0, none⟩) zgb (.int .i64 n)).setCell (p := ⟨gb, 1, none⟩) zgb (.int .i64 0)).setCell (p := ⟨gb, 2, none⟩) zgb (.func (.func 57) #[] #[.pointer (some ⟨cf, 0, none⟩)])).setCell (p := ⟨hb, 0, none⟩) zhb (.int .i64 n)).setCell (p := ⟨hb, 1, none⟩) zhb (.int .i64 1)).setCell (p := ⟨hb, 2, none⟩) zhb (.func (.func 58) #[] #[.pointer (some ⟨cb, 0, none⟩)])
            have n1 := fwd_next (pc := pc) (hF.below (bthen HB1.out hbb)) (by rw [← HNL.out]; exact f6.cell 0 _ rfl) (by rw [← HNL.out]; omega)
            exact ⟨gb, hb, cf, cb, B, rfl, rfl, a6, b6, n1, v6.next (by rw [HRV.out.len, ← HNL.out]; omega), HRV.out, hgh, zgb, zhb, hbb⟩
        · go_simp
          have hb2 := below_alloc (x2) (.cells #[.int .i64 0, .int .i64 0, .nilFunc] 54)
          have hnew : BlkAt ((x2).alloc (.cells #[.int .i64 0, .int .i64 0, .nilFunc] 54)) (x2).heap.size 54 [.int .i64 0, .int .i64 0, .nilFunc] := BlkAt.made _ 54 _
          have zlt := HG.out.lt
          have zz := HBX.out.size
          have HG := hid (HG.out.below hb2)
          have HXF := hid (HXF.out.below hb2)
          have c0 := below_cell hb2 c0
          have HBX := hid (bthen HBX.out hb2)
          refine hK.out _ _ (by dsimp only [Obl]; exact c0) ?_
          clear hK K
          obtain ⟨hb, hhb⟩ : ∃ b, b = (x2).heap.size := ⟨_, rfl⟩
          have zhb : w1.heap.size ≤ hb := by rw [hhb]; exact zz
          have hgh : gb ≠ hb := by omega
          clear zlt
          obtain ⟨x3, hnw⟩ : ∃ x, x = (x2).alloc (.cells #[.int .i64 0, .int .i64 0, .nilFunc] 54) := ⟨_, rfl⟩
          rw [← hhb] at hnew
          rw [← hnw] at c0 HBX hnew HG HXF
          first | rw [← hnw] | (rw [show (w1.alloc (.cells #[.int .i64 0, .int .i64 0, .nilFunc] 54)).drew = x3 from hnw.symm])
          have HH := hid hnew
          first | rw [← hhb] | (rw [show w1.heap.size = hb from hhb.symm])
          clear hnw hb2 hnew zz hhb
          try simp only [Act.put, List.setIfInBounds_toArray, List.set_cons_zero, List.set_cons_succ]
          refine anyJ_one (i := 3) (oi := { dst := some 23, op := Go.Op.call { callee := Go.Callee.value (Go.Operand.func 45), args := #[Go.Operand.tmp 22], argTypes := #[24] }, type := 54, pos := "dominators.go:146", after := #[{ on := 2, ground := Go.Ground.data }, { on := 1, ground := Go.Ground.chain }], guard := none }) rfl (by kernel_rfl) (by rfl) (fun K hK => ?_)
          go_simp
          have hbw := backward_at pa pc F (x3) (hF.below (bthen HB1.out HBX.out)) HV.out hsm
          rw [← HNL.out] at hbw
          refine hbw.mono ?_
          rintro e x4 ⟨cb, B0, bb0, vs0, B, he, hnx, hb2, hrev⟩
          rw [hrev.len, ← HNL.out] at he
          unfold gval at he
          subst he
          have HG := hid (HG.out.below hb2)
          have HXF := hid (HXF.out.below hb2)
          have HH := hid (HH.out.below hb2)
          have c0 := below_cell hb2 c0
          have HBX := hid (bthen HBX.out hb2)
          have HXB := hid hnx; have HRV := hid hrev
          clear hnx hrev hbw
          refine hK.out _ _ (by dsimp only [Obl]; exact c0) ?_
          clear hK K hb2
          try simp only [Act.put, List.setIfInBounds_toArray, List.set_cons_zero, List.set_cons_succ]
          refine anyJ_one (i := 6) (oi := { dst := none, op := Go.Op.store 54 (Go.Operand.tmp 3) (Go.Operand.tmp 21), type := 0, pos := "dominators.go:146", after := #[{ on := 4, ground := Go.Ground.data }, { on := 1, ground := Go.Ground.data }, { on := 3, ground := Go.Ground.chain }, { on := 0, ground := Go.Ground.phase }, { on := 1, ground := Go.Ground.phase }, { on := 2, ground := Go.Ground.textOnly Go.Departure.lateStores }, { on := 3, ground := Go.Ground.textOnly Go.Departure.lateStoresUnsure }, { on := 4, ground := Go.Ground.phase }, { on := 5, ground := Go.Ground.phase }], guard := none }) rfl (by kernel_rfl) (by rfl) (fun K hK => ?_)
          have g0 := HG.out.cell 0 _ rfl; have g1 := HG.out.cell 1 _ rfl; have g2 := HG.out.cell 2 _ rfl; have gf0 := HG.out.fz 0; have gf1 := HG.out.fz 1; have gf2 := HG.out.fz 2
          go_simp
          refine hK.out _ _ trivial ?_
          clear hK K g0 g1 g2 gf0 gf1 gf2
          try simp only [Act.put, List.setIfInBounds_toArray, List.set_cons_zero, List.set_cons_succ]
          refine anyJ_one (i := 7) (oi := { dst := none, op := Go.Op.store 54 (Go.Operand.tmp 4) (Go.Operand.tmp 23), type := 0, pos := "dominators.go:146", after := #[{ on := 5, ground := Go.Ground.data }, { on := 3, ground := Go.Ground.data }, { on := 6, ground := Go.Ground.chain }, { on := 0, ground := Go.Ground.phase }, { on := 1, ground := Go.Ground.phase }, { on := 2, ground := Go.Ground.phase }, { on := 3, ground := Go.Ground.phase }, { on := 4, ground := Go.Ground.phase }, { on := 5, ground := Go.Ground.phase }, { on := 6, ground := Go.Ground.phase }], guard := none }) rfl (by kernel_rfl) (by rfl) (fun K hK => ?_)
          have g0 := HH.out.cell 0 _ rfl; have g1 := HH.out.cell 1 _ rfl; have g2 := HH.out.cell 2 _ rfl; have gf0 := HH.out.fz 0; have gf1 := HH.out.fz 1; have gf2 := HH.out.fz 2
          go_simp
          refine hK.out _ _ trivial ?_
          clear hK K g0 g1 g2 gf0 gf1 gf2
          try simp only [Act.put, List.setIfInBounds_toArray, List.set_cons_zero, List.set_cons_succ]
          refine anyJ_done (by kernel_rfl) ?_
          go_wp2_with fail
          go_meet
          case rel =>
            have c1 := HXF.out.ne HG.out (by decide)
            have c2 := HXF.out.ne HH.out (by decide)
            have a1 := HG.out.set 0 (.int .i64 n)
            have a2 := a1.set 1 (.int .i64 0)
            have a3 := a2.set 2 (.func (.func 57) #[] #[.pointer (some ⟨cf, 0, none⟩)])
            have b3 := ((HH.out.far hgh.symm 0 (.int .i64 n)).far hgh.symm 1 (.int .i64 0)).far hgh.symm 2 (.func (.func 57) #[] #[.pointer (some ⟨cf, 0, none⟩)])
            have b4 := b3.set 0 (.int .i64 n)
            have b5 := b4.set 1 (.int .i64 1)
            have b6 := b5.set 2 (.func (.func 58) #[] #[.pointer (some ⟨cb, 0, none⟩)])
            have a6 := ((a3.far hgh 0 (.int .i64 n)).far hgh 1 (.int .i64 1)).far hgh 2 (.func (.func 58) #[] #[.pointer (some ⟨cb, 0, none⟩)])
            have f6 := (((((HXF.out.far c1 0 (.int .i64 n)).far c1 1 (.int .i64 0)).far c1 2 (.func (.func 57) #[] #[.pointer (some ⟨cf, 0, none⟩)])).far c2 0 (.int .i64 n)).far c2 1 (.int .i64 1)).far c2 2 (.func (.func 58) #[] #[.pointer (some ⟨cb, 0, none⟩)])
            have v6 := (((((HXB.out.farT HG.out 0 (.int .i64 n)).farT a1 1 (.int .i64 0)).farT a2 2 (.func (.func 57) #[] #[.pointer (some ⟨cf, 0, none⟩)])).farT b3 0 (.int .i64 n)).farT b4 1 (.int .i64 1)).farT b5 2 (.func (.func 58) #[] #[.pointer (some ⟨cb, 0, none⟩)])
            have hbb := (((((HBX.out.setCell (p := ⟨gb, 0, none⟩) zgb (.int .i64 n)).setCell (p := ⟨gb, 1, none⟩) zgb (.int .i64 0)).setCell (p := ⟨gb, 2, none⟩) zgb (.func (.func 57) #[] #[.pointer (some ⟨cf, 0, none⟩)])).setCell (p := ⟨hb, 0, none⟩) zhb (.int .i64 n)).setCell (p := ⟨hb, 1, none⟩) zhb (.int .i64 1)).setCell (p := ⟨hb, 2, none⟩) zhb (.func (.func 58) #[] #[.pointer (some ⟨cb, 0, none⟩)])
            have n1 := fwd_next (pc := pc) (hF.below (bthen HB1.out hbb)) (by rw [← HNL.out]; exact f6.cell 0 _ rfl) (by rw [← HNL.out]; omega)
            exact ⟨gb, hb, cf, cb, B, rfl, rfl, a6, b6, n1, v6.next (by rw [HRV.out.len, ← HNL.out]; omega), HRV.out, hgh, zgb, zhb, hbb⟩
      · go_simp
        have hb2 := below_alloc (x1) (.cells #[.int .i64 0, .int .i64 0, .nilFunc] 54)
        have hnew : BlkAt ((x1).alloc (.cells #[.int .i64 0, .int .i64 0, .nilFunc] 54)) (x1).heap.size 54 [.int .i64 0, .int .i64 0, .nilFunc] := BlkAt.made _ 54 _
        have zlt := HG.out.lt
        have zz := HBX.out.size
        have HG := hid (HG.out.below hb2)
        have c0 := below_cell hb2 c0
        have HBX := hid (bthen HBX.out hb2)
        refine hK.out _ _ (by dsimp only [Obl]; exact c0) ?_
        clear hK K
        obtain ⟨hb, hhb⟩ : ∃ b, b = (x1).heap.size := ⟨_, rfl⟩
        have zhb : w1.heap.size ≤ hb := by rw [hhb]; exact zz
        have hgh : gb ≠ hb := by omega
        clear zlt
        obtain ⟨x2, hnw⟩ : ∃ x, x = (x1).alloc (.cells #[.int .i64 0, .int .i64 0, .nilFunc] 54) := ⟨_, rfl⟩
        rw [← hhb] at hnew
        rw [← hnw] at c0 HBX hnew HG
        first | rw [← hnw] | (rw [show (w1.alloc (.cells #[.int .i64 0, .int .i64 0, .nilFunc] 54)).drew = x2 from hnw.symm])
        have HH := hid hnew
        first | rw [← hhb] | (rw [show w1.heap.size = hb from hhb.symm])
        clear hnw hb2 hnew zz hhb
        try simp only [Act.put, List.setIfInBounds_toArray, List.set_cons_zero, List.set_cons_succ]
        refine anyJ_one (i := 1) (oi := { dst := some 21, op := Go.Op.call { callee := Go.Callee.value (Go.Operand.func 42), args := #[Go.Operand.tmp 20], argTypes := #[24] }, type := 54, pos := "dominators.go:146", after := #[{ on := 0, ground := Go.Ground.data }], guard := none }) rfl (by kernel_rfl) (by rfl) (fun K hK => ?_)
        go_simp
        have hfw := forward_at pa pc F (x2)
        rw [← HNL.out] at hfw
        refine hfw.mono ?_
        rintro e x3 ⟨cf, he, hnx, hb2⟩
        unfold gval at he
        subst he
        have HG := hid (HG.out.below hb2)
        have HH := hid (HH.out.below hb2)
        have c0 := below_cell hb2 c0
        have HBX := hid (bthen HBX.out hb2)
        have HXF := hid hnx
        clear hnx hfw
        refine hK.out _ _ (by dsimp only [Obl]; exact c0) ?_
        clear hK K hb2
        try simp only [Act.put, List.setIfInBounds_toArray, List.set_cons_zero, List.set_cons_succ]
        refine anyJ_one (i := 3) (oi := { dst := some 23, op := Go.Op.call { callee := Go.Callee.value (Go.Operand.func 45), args := #[Go.Operand.tmp 22], argTypes := #[24] }, type := 54, pos := "dominators.go:146", after := #[{ on := 2, ground := Go.Ground.data }, { on := 1, ground := Go.Ground.chain }], guard := none }) rfl (by kernel_rfl) (by rfl) (fun K hK => ?_)
        go_simp
        have hbw := backward_at pa pc F (x3) (hF.below (bthen HB1.out HBX.out)) HV.out hsm
        rw [← HNL.out] at hbw
        refine hbw.mono ?_
        rintro e x4 ⟨cb, B0, bb0, vs0, B, he, hnx, hb2, hrev⟩
        rw [hrev.len, ← HNL.out] at he
        unfold gval at he
        subst he
        have HG := hid (HG.out.below hb2)
        have HH := hid (HH.out.below hb2)
        have HXF := hid (HXF.out.below hb2)
        have c0 := below_cell hb2 c0
        have HBX := hid (bthen HBX.out hb2)
        have HXB := hid hnx; have HRV := hid hrev
        clear hnx hrev hbw
        refine hK.out _ _ (by dsimp only [Obl]; exact c0) ?_
        clear hK K hb2
        try simp only [Act.put, List.setIfInBounds_toArray, List.set_cons_zero, List.set_cons_succ]
        refine anyJ_one (i := 6) (oi := { dst := none, op := Go.Op.store 54 (Go.Operand.tmp 3) (Go.Operand.tmp 21), type := 0, pos := "dominators.go:146", after := #[{ on := 4, ground := Go.Ground.data }, { on := 1, ground := Go.Ground.data }, { on := 3, ground := Go.Ground.chain }, { on := 0, ground := Go.Ground.phase }, { on := 1, ground := Go.Ground.phase }, { on := 2, ground := Go.Ground.textOnly Go.Departure.lateStores }, { on := 3, ground := Go.Ground.textOnly Go.Departure.lateStoresUnsure }, { on := 4, ground := Go.Ground.phase }, { on := 5, ground := Go.Ground.phase }], guard := none }) rfl (by kernel_rfl) (by rfl) (fun K hK => ?_)
        have g0 := HG.out.cell 0 _ rfl; have g1 := HG.out.cell 1 _ rfl; have g2 := HG.out.cell 2 _ rfl; have gf0 := HG.out.fz 0; have gf1 := HG.out.fz 1; have gf2 := HG.out.fz 2
        go_simp
        refine hK.out _ _ trivial ?_
        clear hK K g0 g1 g2 gf0 gf1 gf2
        try simp only [Act.put, List.setIfInBounds_toArray, List.set_cons_zero, List.set_cons_succ]
        refine anyJ_one (i := 7) (oi := { dst := none, op := Go.Op.store 54 (Go.Operand.tmp 4) (Go.Operand.tmp 23), type := 0, pos := "dominators.go:146", after := #[{ on := 5, ground := Go.Ground.data }, { on := 3, ground := Go.Ground.data }, { on := 6, ground := Go.Ground.chain }, { on := 0, ground := Go.Ground.phase }, { on := 1, ground := Go.Ground.phase }, { on := 2, ground := Go.Ground.phase }, { on := 3, ground := Go.Ground.phase }, { on := 4, ground := Go.Ground.phase }, { on := 5, ground := Go.Ground.phase }, { on := 6, ground := Go.Ground.phase }], guard := none }) rfl (by kernel_rfl) (by rfl) (fun K hK => ?_)
        have g0 := HH.out.cell 0 _ rfl; have g1 := HH.out.cell 1 _ rfl; have g2 := HH.out.cell 2 _ rfl; have gf0 := HH.out.fz 0; have gf1 := HH.out.fz 1; have gf2 := HH.out.fz 2
        go_simp
        refine hK.out _ _ trivial ?_
        clear hK K g0 g1 g2 gf0 gf1 gf2
        try simp only [Act.put, List.setIfInBounds_toArray, List.set_cons_zero, List.set_cons_succ]
        refine anyJ_done (by kernel_rfl) ?_
        go_wp2_with fail
        go_meet
        case rel =>
          have c1 := HXF.out.ne HG.out (by decide)
          have c2 := HXF.out.ne HH.out (by decide)
          have a1 := HG.out.set 0 (.int .i64 n)
          have a2 := a1.set 1 (.int .i64 0)
          have a3 := a2.set 2 (.func (.func 57) #[] #[.pointer (some ⟨cf, 0, none⟩)])
          have b3 := ((HH.out.far hgh.symm 0 (.int .i64 n)).far hgh.symm 1 (.int .i64 0)).far hgh.symm 2 (.func (.func 57) #[] #[.pointer (some ⟨cf, 0, none⟩)])
          have b4 := b3.set 0 (.int .i64 n)
          have b5 := b4.set 1 (.int .i64 1)
          have b6 := b5.set 2 (.func (.func 58) #[] #[.pointer (some ⟨cb, 0, none⟩)])
          have a6 := ((a3.far hgh 0 (.int .i64 n)).far hgh 1 (.int .i64 1)).far hgh 2 (.func (.func 58) #[] #[.pointer (some ⟨cb, 0, none⟩)])
          have f6 := (((((HXF.out.far c1 0 (.int .i64 n)).far c1 1 (.int .i64 0)).far c1 2 (.func (.func 57) #[] #[.pointer (some ⟨cf, 0, none⟩)])).far c2 0 (.int .i64 n)).far c2 1 (.int .i64 1)).far c2 2 (.func (.func 58) #[] #[.pointer (some ⟨cb, 0, none⟩)])
          have v6 := (((((HXB.out.farT HG.out 0 (.int .i64 n)).farT a1 1 (.int .i64 0)).farT a2 2 (.func (.func 57) #[] #[.pointer (some ⟨cf, 0, none⟩)])).farT b3 0 (.int .i64 n)).farT b4 1 (.int .i64 1)).farT b5 2 (.func (.func 58) #[] #[.pointer (some ⟨cb, 0, none⟩)])
          have hbb := (((((HBX.out.setCell (p := ⟨gb, 0, none⟩) zgb (.int .i64 n)).setCell (p := ⟨gb, 1, none⟩) zgb (.int .i64 0)).setCell (p := ⟨gb, 2, none⟩) zgb (.func (.func 57) #[] #[.pointer (some ⟨cf, 0, none⟩)])).setCell (p := ⟨hb, 0, none⟩) zhb (.int .i64 n)).setCell (p := ⟨hb, 1, none⟩) zhb (.int .i64 1)).setCell (p := ⟨hb, 2, none⟩) zhb (.func (.func 58) #[] #[.pointer (some ⟨cb, 0, none⟩)])
          have n1 := fwd_next (pc := pc) (hF.below (bthen HB1.out hbb)) (by rw [← HNL.out]; exact f6.cell 0 _ rfl) (by rw [← HNL.out]; omega)
          exact ⟨gb, hb, cf, cb, B, rfl, rfl, a6, b6, n1, v6.next (by rw [HRV.out.len, ← HNL.out]; omega), HRV.out, hgh, zgb, zhb, hbb⟩
    · go_simp
      have hb2 := below_alloc (w1.drew) (.cells #[.int .i64 0, .int .i64 0, .nilFunc] 54)
      have hnew : BlkAt ((w1.drew).alloc (.cells #[.int .i64 0, .int .i64 0, .nilFunc] 54)) (w1.drew).heap.size 54 [.int .i64 0, .int .i64 0, .nilFunc] := BlkAt.made _ 54 _
      have zz := HBX.out.size
      have c0 := below_cell hb2 c0
      have HBX := hid (bthen HBX.out hb2)
      refine hK.out _ _ (by dsimp only [Obl]; exact c0) ?_
      clear hK K
      obtain ⟨hb, hhb⟩ : ∃ b, b = (w1.drew).heap.size := ⟨_, rfl⟩
      have zhb : w1.heap.size ≤ hb := by rw [hhb]; exact zz
      obtain ⟨x1, hnw⟩ : ∃ x, x = (w1.drew).alloc (.cells #[.int .i64 0, .int .i64 0, .nilFunc] 54) := ⟨_, rfl⟩
      rw [← hhb] at hnew
      rw [← hnw] at c0 HBX hnew 
      first | rw [← hnw] | (rw [show (w1.alloc (.cells #[.int .i64 0, .int .i64 0, .nilFunc] 54)).drew = x1 from hnw.symm])
      have HH := hid hnew
      first | rw [← hhb] | (rw [show w1.heap.size = hb from hhb.symm])
      clear hnw hb2 hnew zz hhb
      try simp only [Act.put, List.setIfInBounds_toArray, List.set_cons_zero, List.set_cons_succ]
      refine anyJ_two (i := 1) (oi := { dst := some 21, op := Go.Op.call { callee := Go.Callee.value (Go.Operand.func 42), args := #[Go.Operand.tmp 20], argTypes := #[24] }, type := 54, pos := "dominators.go:146", after := #[{ on := 0, ground := Go.Ground.data }], guard := none }) (j := 4) (oj := { dst := some 3, op := Go.Op.alloc 54, type := 0, pos := "dominators.go:146", after := #[], guard := none }) rfl rfl (by kernel_rfl) (by rfl) (by rfl) (fun K hK => ?_) (fun K hK => ?_)
      · go_simp
        have hfw := forward_at pa pc F (x1)
        rw [← HNL.out] at hfw
        refine hfw.mono ?_
        rintro e x2 ⟨cf, he, hnx, hb2⟩
        unfold gval at he
        subst he
        have HH := hid (HH.out.below hb2)
        have c0 := below_cell hb2 c0
        have HBX := hid (bthen HBX.out hb2)
        have HXF := hid hnx
        clear hnx hfw
        refine hK.out _ _ (by dsimp only [Obl]; exact c0) ?_
        clear hK K hb2
        try simp only [Act.put, List.setIfInBounds_toArray, List.set_cons_zero, List.set_cons_succ]
        refine anyJ_two (i := 3) (oi := { dst := some 23, op := Go.Op.call { callee := Go.Callee.value (Go.Operand.func 45), args := #[Go.Operand.tmp 22], argTypes := #[24] }, type := 54, pos := "dominators.go:146", after := #[{ on := 2, ground := Go.Ground.data }, { on := 1, ground := Go.Ground.chain }], guard := none }) (j := 4) (oj := { dst := some 3, op := Go.Op.alloc 54, type := 0, pos := "dominators.go:146", after := #[], guard := none }) rfl rfl (by kernel_rfl) (by rfl) (by rfl) (fun K hK => ?_) (fun K hK => ?_)
        · go_simp
          have hbw := backward_at pa pc F (x2) (hF.below (bthen HB1.out HBX.out)) HV.out hsm
          rw [← HNL.out] at hbw
          refine hbw.mono ?_
          rintro e x3 ⟨cb, B0, bb0, vs0, B, he, hnx, hb2, hrev⟩
          rw [hrev.len, ← HNL.out] at he
          unfold gval at he
          subst he
          have HH := hid (HH.out.below hb2)
          have HXF := hid (HXF.out.below hb2)
          have c0 := below_cell hb2 c0
          have HBX := hid (bthen HBX.out hb2)
          have HXB := hid hnx; have HRV := hid hrev
          clear hnx hrev hbw
          refine hK.out _ _ (by dsimp only [Obl]; exact c0) ?_
          clear hK K hb2
          try simp only [Act.put, List.setIfInBounds_toArray, List.set_cons_zero, List.set_cons_succ]
          refine anyJ_one (i := 4) (oi := { dst := some 3, op := Go.Op.alloc 54, type := 0, pos := "dominators.go:146", after := #[], guard := none }) rfl (by kernel_rfl) (by rfl) (fun K hK => ?_)
          go_simp
          have hb2 := below_alloc (x3) (.cells #[.int .i64 0, .int .i64 0, .nilFunc] 54)
          have hnew : BlkAt ((x3).alloc (.cells #[.int .i64 0, .int .i64 0, .nilFunc] 54)) (x3).heap.size 54 [.int .i64 0, .int .i64 0, .nilFunc] := BlkAt.made _ 54 _
          have zlt := HH.out.lt
          have zz := HBX.out.size
          have HH := hid (HH.out.below hb2)
          have HXF := hid (HXF.out.below hb2)
          have HXB := hid (HXB.out.below hb2)
          have c0 := below_cell hb2 c0
          have HBX := hid (bthen HBX.out hb2)
          refine hK.out _ _ (by dsimp only [Obl]; exact c0) ?_
          clear hK K
          obtain ⟨gb, hgb⟩ : ∃ b, b = (x3).heap.size := ⟨_, rfl⟩
          have zgb : w1.heap.size ≤ gb := by rw [hgb]; exact zz
          have hgh : gb ≠ hb := by omega
          clear zlt
          obtain ⟨x4, hnw⟩ : ∃ x, x = (x3).alloc (.cells #[.int .i64 0, .int .i64 0, .nilFunc] 54) := ⟨_, rfl⟩
          rw [← hgb] at hnew
          rw [← hnw] at c0 HBX hnew HH HXF HXB
          first | rw [← hnw] | (rw [show (w1.alloc (.cells #[.int .i64 0, .int .i64 0, .nilFunc] 54)).drew = x4 from hnw.symm])
          have HG := hid hnew
          first | rw [← hgb] | (rw [show w1.heap.size = gb from hgb.symm])
          clear hnw hb2 hnew zz hgb
          try simp only [Act.put, List.setIfInBounds_toArray, List.set_cons_zero, List.set_cons_succ]
          refine anyJ_one (i := 6) (oi := { dst := none, op := Go.Op.store 54 (Go.Operand.tmp 3) (Go.Operand.tmp 21), type := 0, pos := "dominators.go:146", after := #[{ on := 4, ground := Go.Ground.data }, { on := 1, ground := Go.Ground.data }, { on := 3, ground := Go.Ground.chain }, { on := 0, ground := Go.Ground.phase }, { on := 1, ground := Go.Ground.phase }, { on := 2, ground := Go.Ground.textOnly Go.Departure.lateStores }, { on := 3, ground := Go.Ground.textOnly Go.Departure.lateStoresUnsure }, { on := 4, ground := Go.Ground.phase }, { on := 5, ground := Go.Ground.phase }], guard := none }) rfl (by kernel_rfl) (by rfl) (fun K hK => ?_)
          have g0 := HG.out.cell 0 _ rfl; have g1 := HG.out.cell 1 _ rfl; have g2 := HG.out.cell 2 _ rfl; have gf0 := HG.out.fz 0; have gf1 := HG.out.fz 1; have gf2 := HG.out.fz 2
          go_simp
          refine hK.out _ _ trivial ?_
          clear hK K g0 g1 g2 gf0 gf1 gf2
          try simp only [Act.put, List.setIfInBounds_toArray, List.set_cons_zero, List.set_cons_succ]
          refine anyJ_one (i := 7) (oi := { dst := none, op := Go.Op.store 54 (Go.Operand.tmp 4) (Go.Operand.tmp 23), type := 0, pos := "dominators.go:146", after := #[{ on := 5, ground := Go.Ground.data }, { on := 3, ground := Go.Ground.data }, { on := 6, ground := Go.Ground.chain }, { on := 0, ground := Go.Ground.phase }, { on := 1, ground := Go.Ground.phase }, { on := 2, ground := Go.Ground.phase }, { on := 3, ground := Go.Ground.phase }, { on := 4, ground := Go.Ground.phase }, { on := 5, ground := Go.Ground.phase }, { on := 6, ground := Go.Ground.phase }], guard := none }) rfl (by kernel_rfl) (by rfl) (fun K hK => ?_)
          have g0 := HH.out.cell 0 _ rfl; have g1 := HH.out.cell 1 _ rfl; have g2 := HH.out.cell 2 _ rfl; have gf0 := HH.out.fz 0; have gf1 := HH.out.fz 1; have gf2 := HH.out.fz 2
          go_simp
          refine hK.out _ _ trivial ?_
          clear hK K g0 g1 g2 gf0 gf1 gf2
          try simp only [Act.put, List.setIfInBounds_toArray, List.set_cons_zero, List.set_cons_succ]
          refine anyJ_done (by kernel_rfl) ?_
          go_wp2_with fail
          go_meet
          case rel =>
            have c1 := HXF.out.ne HG.out (by decide)
            have c2 := HXF.out.ne HH.out (by decide)
            have a1 := HG.out.set 0 (.int .i64 n)
            have a2 := a1.set 1 (.int .i64 0)
            have a3 := a2.set 2 (.func (.func 57) #[] #[.pointer (some ⟨cf, 0, none⟩)])
            have b3 := ((HH.out.far hgh.symm 0 (.int .i64 n)).far hgh.symm 1 (.int .i64 0)).far hgh.symm 2 (.func (.func 57) #[] #[.pointer (some ⟨cf, 0, none⟩)])
            have b4 := b3.set 0 (.int .i64 n)
            have b5 := b4.set 1 (.int .i64 1)
            have b6 := b5.set 2 (.func (.func 58) #[] #[.pointer (some ⟨cb, 0, none⟩)])
            have a6 := ((a3.far hgh 0 (.int .i64 n)).far hgh 1 (.int .i64 1)).far hgh 2 (.func (.func 58) #[] #[.pointer (some ⟨cb, 0, none⟩)])
            have f6 := (((((HXF.out.far c1 0 (.int .i64 n)).far c1 1 (.int .i64 0)).far c1 2 (.func (.func 57) #[] #[.pointer (some ⟨cf, 0, none⟩)])).far c2 0 (.int .i64 n)).far c2 1 (.int .i64 1)).far c2 2 (.func (.func 58) #[] #[.pointer (some ⟨cb, 0, none⟩)])
            have v6 := (((((HXB.out.farT HG.out 0 (.int .i64 n)).farT a1 1 (.int .i64 0)).farT a2 2 (.func (.func 57) #[] #[.pointer (some ⟨cf, 0, none⟩)])).farT b3 0 (.int .i64 n)).farT b4 1 (.int .i64 1)).farT b5 2 (.func (.func 58) #[] #[.pointer (some ⟨cb, 0, none⟩)])
            have hbb := (((((HBX.out.setCell (p := ⟨gb, 0, none⟩) zgb (.int .i64 n)).setCell (p := ⟨gb, 1, none⟩) zgb (.int .i64 0)).setCell (p := ⟨gb, 2, none⟩) zgb (.func (.func 57) #[] #[.pointer (some ⟨cf, 0, none⟩)])).setCell (p := ⟨hb, 0, none⟩) zhb (.int .i64 n)).setCell (p := ⟨hb, 1, none⟩) zhb (.int .i64 1)).setCell (p := ⟨hb, 2, none⟩) zhb (.func (.func 58) #[] #[.pointer (some ⟨cb, 0, none⟩)])
            have n1 := fwd_next (pc := pc) (hF.below (bthen HB1.out hbb)) (by rw [← HNL.out]; exact f6.cell 0 _ rfl) (by rw [← HNL.out]; omega)
            exact ⟨gb, hb, cf, cb, B, rfl, rfl, a6, b6, n1, v6.next (by rw [HRV.out.len, ← HNL.out]; omega), HRV.out, hgh, zgb, zhb, hbb⟩
        · go_simp
          have hb2 := below_alloc (x2) (.cells #[.int .i64 0, .int .i64 0, .nilFunc] 54)
          have hnew : BlkAt ((x2).alloc (.cells #[.int .i64 0, .int .i64 0, .nilFunc] 54)) (x2).heap.size 54 [.int .i64 0, .int .i64 0, .nilFunc] := BlkAt.made _ 54 _
          have zlt := HH.out.lt
          have zz := HBX.out.size
          have HH := hid (HH.out.below hb2)
          have HXF := hid (HXF.out.below hb2)
          have c0 := below_cell hb2 c0
          have HBX := hid (bthen HBX.out hb2)
          refine hK.out _ _ (by dsimp only [Obl]; exact c0) ?_
          clear hK K
          obtain ⟨gb, hgb⟩ : ∃ b, b = (x2).heap.size := ⟨_, rfl⟩
          have zgb : w1.heap.size ≤ gb := by rw [hgb]; exact zz
          have hgh : gb ≠ hb := by omega
          clear zlt
          obtain ⟨x3, hnw⟩ : ∃ x, x = (x2).alloc (.cells #[.int .i64 0, .int .i64 0, .nilFunc] 54) := ⟨_, rfl⟩
          rw [← hgb] at hnew
          rw [← hnw] at c0 HBX hnew HH HXF
          first | rw [← hnw] | (rw [show (w1.alloc (.cells #[.int .i64 0, .int .i64 0, .nilFunc] 54)).drew = x3 from hnw.symm])
          have HG := hid hnew
          first | rw [← hgb] | (rw [show w1.heap.size = gb from hgb.symm])
          clear hnw hb2 hnew zz hgb
          try simp only [Act.put, List.setIfInBounds_toArray, List.set_cons_zero, List.set_cons_succ]
          refine anyJ_one (i := 3) (oi := { dst := some 23, op := Go.Op.call { callee := Go.Callee.value (Go.Operand.func 45), args := #[Go.Operand.tmp 22], argTypes := #[24] }, type := 54, pos := "dominators.go:146", after := #[{ on := 2, ground := Go.Ground.data }, { on := 1, ground := Go.Ground.chain }], guard := none }) rfl (by kernel_rfl) (by rfl) (fun K hK => ?_)
          go_simp
          have hbw := backward_at pa pc F (x3) (hF.below (bthen HB1.out HBX.out)) HV.out hsm
          rw [← HNL.out] at hbw
          refine hbw.mono ?_
          rintro e x4 ⟨cb, B0, bb0, vs0, B, he, hnx, hb2, hrev⟩
          rw [hrev.len, ← HNL.out] at he
          unfold gval at he
          subst he
          have HH := hid (HH.out.below hb2)
          have HXF := hid (HXF.out.below hb2)
          have HG := hid (HG.out.below hb2)
          have c0 := below_cell hb2 c0
          have HBX := hid (bthen HBX.out hb2)
          have HXB := hid hnx; have HRV := hid hrev
          clear hnx hrev hbw
          refine hK.out _ _ (by dsimp only [Obl]; exact c0) ?_
          clear hK K hb2
          try simp only [Act.put, List.setIfInBounds_toArray, List.set_cons_zero, List.set_cons_succ]
          refine anyJ_one (i := 6) (oi := { dst := none, op := Go.Op.store 54 (Go.Operand.tmp 3) (Go.Operand.tmp 21), type := 0, pos := "dominators.go:146", after := #[{ on := 4, ground := Go.Ground.data }, { on := 1, ground := Go.Ground.data }, { on := 3, ground := Go.Ground.chain }, { on := 0, ground := Go.Ground.phase }, { on := 1, ground := Go.Ground.phase }, { on := 2, ground := Go.Ground.textOnly Go.Departure.lateStores }, { on := 3, ground := Go.Ground.textOnly Go.Departure.lateStoresUnsure }, { on := 4, ground := Go.Ground.phase }, { on := 5, ground := Go.Ground.phase }], guard := none }) rfl (by kernel_rfl) (by rfl) (fun K hK => ?_)
          have g0 := HG.out.cell 0 _ rfl; have g1 := HG.out.cell 1 _ rfl; have g2 := HG.out.cell 2 _ rfl; have gf0 := HG.out.fz 0; have gf1 := HG.out.fz 1; have gf2 := HG.out.fz 2
          go_simp
          refine hK.out _ _ trivial ?_
          clear hK K g0 g1 g2 gf0 gf1 gf2
          try simp only [Act.put, List.setIfInBounds_toArray, List.set_cons_zero, List.set_cons_succ]
          refine anyJ_one (i := 7) (oi := { dst := none, op := Go.Op.store 54 (Go.Operand.tmp 4) (Go.Operand.tmp 23), type := 0, pos := "dominators.go:146", after := #[{ on := 5, ground := Go.Ground.data }, { on := 3, ground := Go.Ground.data }, { on := 6, ground := Go.Ground.chain }, { on := 0, ground := Go.Ground.phase }, { on := 1, ground := Go.Ground.phase }, { on := 2, ground := Go.Ground.phase }, { on := 3, ground := Go.Ground.phase }, { on := 4, ground := Go.Ground.phase }, { on := 5, ground := Go.Ground.phase }, { on := 6, ground := Go.Ground.phase }], guard := none }) rfl (by kernel_rfl) (by rfl) (fun K hK => ?_)
          have g0 := HH.out.cell 0 _ rfl; have g1 := HH.out.cell 1 _ rfl; have g2 := HH.out.cell 2 _ rfl; have gf0 := HH.out.fz 0; have gf1 := HH.out.fz 1; have gf2 := HH.out.fz 2
          go_simp
          refine hK.out _ _ trivial ?_
          clear hK K g0 g1 g2 gf0 gf1 gf2
          try simp only [Act.put, List.setIfInBounds_toArray, List.set_cons_zero, List.set_cons_succ]
          refine anyJ_done (by kernel_rfl) ?_
          go_wp2_with fail
          go_meet
          case rel =>
            have c1 := HXF.out.ne HG.out (by decide)
            have c2 := HXF.out.ne HH.out (by decide)
            have a1 := HG.out.set 0 (.int .i64 n)
            have a2 := a1.set 1 (.int .i64 0)
            have a3 := a2.set 2 (.func (.func 57) #[] #[.pointer (some ⟨cf, 0, none⟩)])
            have b3 := ((HH.out.far hgh.symm 0 (.int .i64 n)).far hgh.symm 1 (.int .i64 0)).far hgh.symm 2 (.func (.func 57) #[] #[.pointer (some ⟨cf, 0, none⟩)])
            have b4 := b3.set 0 (.int .i64 n)
            have b5 := b4.set 1 (.int .i64 1)
            have b6 := b5.set 2 (.func (.func 58) #[] #[.pointer (some ⟨cb, 0, none⟩)])
            have a6 := ((a3.far hgh 0 (.int .i64 n)).far hgh 1 (.int .i64 1)).far hgh 2 (.func (.func 58) #[] #[.pointer (some ⟨cb, 0, none⟩)])
            have f6 := (((((HXF.out.far c1 0 (.int .i64 n)).far c1 1 (.int .i64 0)).far c1 2 (.func (.func 57) #[] #[.pointer (some ⟨cf, 0, none⟩)])).far c2 0 (.int .i64 n)).far c2 1 (.int .i64 1)).far c2 2 (.func (.func 58) #[] #[.pointer (some ⟨cb, 0, none⟩)])
            have v6 := (((((HXB.out.farT HG.out 0 (.int .i64 n)).farT a1 1 (.int .i64 0)).farT a2 2 (.func (.func 57) #[] #[.pointer (some ⟨cf, 0, none⟩)])).farT b3 0 (.int .i64 n)).farT b4 1 (.int .i64 1)).farT b5 2 (.func (.func 58) #[] #[.pointer (some ⟨cb, 0, none⟩)])
            have hbb := (((((HBX.out.setCell (p := ⟨gb, 0, none⟩) zgb (.int .i64 n)).setCell (p := ⟨gb, 1, none⟩) zgb (.int .i64 0)).setCell (p := ⟨gb, 2, none⟩) zgb (.func (.func 57) #[] #[.pointer (some ⟨cf, 0, none⟩)])).setCell (p := ⟨hb, 0, none⟩) zhb (.int .i64 n)).setCell (p := ⟨hb, 1, none⟩) zhb (.int .i64 1)).setCell (p := ⟨hb, 2, none⟩) zhb (.func (.func 58) #[] #[.pointer (some ⟨cb, 0, none⟩)])
            have n1 := fwd_next (pc := pc) (hF.below (bthen HB1.out hbb)) (by rw [← HNL.out]; exact f6.cell 0 _ rfl) (by rw [← HNL.out]; omega)
            exact ⟨gb, hb, cf, cb, B, rfl, rfl, a6, b6, n1, v6.next (by rw [HRV.out.len, ← HNL.out]; omega), HRV.out, hgh, zgb, zhb, hbb⟩
      · go_simp
        have hb2 := below_alloc (x1) (.cells #[.int .i64 0, .int .i64 0, .nilFunc] 54)
        have hnew : BlkAt ((x1).alloc (.cells #[.int .i64 0, .int .i64 0, .nilFunc] 54)) (x1).heap.size 54 [.int .i64 0, .int .i64 0, .nilFunc] := BlkAt.made _ 54 _
        have zlt := HH.out.lt
        have zz := HBX.out.size
        have HH := hid (HH.out.below hb2)
        have c0 := below_cell hb2 c0
        have HBX := hid (bthen HBX.out hb2)
        refine hK.out _ _ (by dsimp only [Obl]; exact c0) ?_
        clear hK K
        obtain ⟨gb, hgb⟩ : ∃ b, b = (x1).heap.size := ⟨_, rfl⟩
        have zgb : w1.heap.size ≤ gb := by rw [hgb]; exact zz
        have hgh : gb ≠ hb := by omega
        clear zlt
        obtain ⟨x2, hnw⟩ : ∃ x, x = (x1).alloc (.cells #[.int .i64 0, .int .i64 0, .nilFunc] 54) := ⟨_, rfl⟩
        rw [← hgb] at hnew
        rw [← hnw] at c0 HBX hnew HH
        first | rw [← hnw] | (rw [show (w1.alloc (.cells #[.int .i64 0, .int .i64 0, .nilFunc] 54)).drew = x2 from hnw.symm])
        have HG := hid hnew
        first | rw [← hgb] | (rw [show w1.heap.size = gb from hgb.symm])
        clear hnw hb2 hnew zz hgb
        try simp only [Act.put, List.setIfInBounds_toArray, List.set_cons_zero, List.set_cons_succ]
        refine anyJ_one (i := 1) (oi := { dst := some 21, op := Go.Op.call { callee := Go.Callee.value (Go.Operand.func 42), args := #[Go.Operand.tmp 20], argTypes := #[24] }, type := 54, pos := "dominators.go:146", after := #[{ on := 0, ground := Go.Ground.data }], guard := none }) rfl (by kernel_rfl) (by rfl) (fun K hK => ?_)
        go_simp
        have hfw := forward_at pa pc F (x2)
        rw [← HNL.out] at hfw
        refine hfw.mono ?_
        rintro e x3 ⟨cf, he, hnx, hb2⟩
        unfold gval at he
        subst he
        have HH := hid (HH.out.below hb2)
        have HG := hid (HG.out.below hb2)
        have c0 := below_cell hb2 c0
        have HBX := hid (bthen HBX.out hb2)
        have HXF := hid hnx
        clear hnx hfw
        refine hK.out _ _ (by dsimp only [Obl]; exact c0) ?_
        clear hK K hb2
        try simp only [Act.put, List.setIfInBounds_toArray, List.set_cons_zero, List.set_cons_succ]
        refine anyJ_one (i := 3) (oi := { dst := some 23, op := Go.Op.call { callee := Go.Callee.value (Go.Operand.func 45), args := #[Go.Operand.tmp 22], argTypes := #[24] }, type := 54, pos := "dominators.go:146", after := #[{ on := 2, ground := Go.Ground.data }, { on := 1, ground := Go.Ground.chain }], guard := none }) rfl (by kernel_rfl) (by rfl) (fun K hK => ?_)
        go_simp
        have hbw := backward_at pa pc F (x3) (hF.below (bthen HB1.out HBX.out)) HV.out hsm
        rw [← HNL.out] at hbw
        refine hbw.mono ?_
        rintro e x4 ⟨cb, B0, bb0, vs0, B, he, hnx, hb2, hrev⟩
        rw [hrev.len, ← HNL.out] at he
        unfold gval at he
        subst he
        have HH := hid (HH.out.below hb2)
        have HG := hid (HG.out.below hb2)
        have HXF := hid (HXF.out.below hb2)
        have c0 := below_cell hb2 c0
        have HBX := hid (bthen HBX.out hb2)
        have HXB := hid hnx; have HRV := hid hrev
        clear hnx hrev hbw
        refine hK.out _ _ (by dsimp only [Obl]; exact c0) ?_
        clear hK K hb2
        try simp only [Act.put, List.setIfInBounds_toArray, List.set_cons_zero, List.set_cons_succ]
        refine anyJ_one (i := 6) (oi := { dst := none, op := Go.Op.store 54 (Go.Operand.tmp 3) (Go.Operand.tmp 21), type := 0, pos := "dominators.go:146", after := #[{ on := 4, ground := Go.Ground.data }, { on := 1, ground := Go.Ground.data }, { on := 3, ground := Go.Ground.chain }, { on := 0, ground := Go.Ground.phase }, { on := 1, ground := Go.Ground.phase }, { on := 2, ground := Go.Ground.textOnly Go.Departure.lateStores }, { on := 3, ground := Go.Ground.textOnly Go.Departure.lateStoresUnsure }, { on := 4, ground := Go.Ground.phase }, { on := 5, ground := Go.Ground.phase }], guard := none }) rfl (by kernel_rfl) (by rfl) (fun K hK => ?_)
        have g0 := HG.out.cell 0 _ rfl; have g1 := HG.out.cell 1 _ rfl; have g2 := HG.out.cell 2 _ rfl; have gf0 := HG.out.fz 0; have gf1 := HG.out.fz 1; have gf2 := HG.out.fz 2
        go_simp
        refine hK.out _ _ trivial ?_
        clear hK K g0 g1 g2 gf0 gf1 gf2
        try simp only [Act.put, List.setIfInBounds_toArray, List.set_cons_zero, List.set_cons_succ]
        refine anyJ_one (i := 7) (oi := { dst := none, op := Go.Op.store 54 (Go.Operand.tmp 4) (Go.Operand.tmp 23), type := 0, pos := "dominators.go:146", after := #[{ on := 5, ground := Go.Ground.data }, { on := 3, ground := Go.Ground.data }, { on := 6, ground := Go.Ground.chain }, { on := 0, ground := Go.Ground.phase }, { on := 1, ground := Go.Ground.phase }, { on := 2, ground := Go.Ground.phase }, { on := 3, ground := Go.Ground.phase }, { on := 4, ground := Go.Ground.phase }, { on := 5, ground := Go.Ground.phase }, { on := 6, ground := Go.Ground.phase }], guard := none }) rfl (by kernel_rfl) (by rfl) (fun K hK => ?_)
        have g0 := HH.out.cell 0 _ rfl; have g1 := HH.out.cell 1 _ rfl; have g2 := HH.out.cell 2 _ rfl; have gf0 := HH.out.fz 0; have gf1 := HH.out.fz 1; have gf2 := HH.out.fz 2
        go_simp
        refine hK.out _ _ trivial ?_
        clear hK K g0 g1 g2 gf0 gf1 gf2
        try simp only [Act.put, List.setIfInBounds_toArray, List.set_cons_zero, List.set_cons_succ]
        refine anyJ_done (by kernel_rfl) ?_
        go_wp2_with fail
        go_meet
        case rel =>
          have c1 := HXF.out.ne HG.out (by decide)
          have c2 := HXF.out.ne HH.out (by decide)
          have a1 := HG.out.set 0 (.int .i64 n)
          have a2 := a1.set 1 (.int .i64 0)
          have a3 := a2.set 2 (.func (.func 57) #[] #[.pointer (some ⟨cf, 0, none⟩)])
          have b3 := ((HH.out.far hgh.symm 0 (.int .i64 n)).far hgh.symm 1 (.int .i64 0)).far hgh.symm 2 (.func (.func 57) #[] #[.pointer (some ⟨cf, 0, none⟩)])
          have b4 := b3.set 0 (.int .i64 n)
          have b5 := b4.set 1 (.int .i64 1)
          have b6 := b5.set 2 (.func (.func 58) #[] #[.pointer (some ⟨cb, 0, none⟩)])
          have a6 := ((a3.far hgh 0 (.int .i64 n)).far hgh 1 (.int .i64 1)).far hgh 2 (.func (.func 58) #[] #[.pointer (some ⟨cb, 0, none⟩)])
          have f6 := (((((HXF.out.far c1 0 (.int .i64 n)).far c1 1 (.int .i64 0)).far c1 2 (.func (.func 57) #[] #[.pointer (some ⟨cf, 0, none⟩)])).far c2 0 (.int .i64 n)).far c2 1 (.int .i64 1)).far c2 2 (.func (.func 58) #[] #[.pointer (some ⟨cb, 0, none⟩)])
          have v6 := (((((HXB.out.farT HG.out 0 (.int .i64 n)).farT a1 1 (.int .i64 0)).farT a2 2 (.func (.func 57) #[] #[.pointer (some ⟨cf, 0, none⟩)])).farT b3 0 (.int .i64 n)).farT b4 1 (.int .i64 1)).farT b5 2 (.func (.func 58) #[] #[.pointer (some ⟨cb, 0, none⟩)])
          have hbb := (((((HBX.out.setCell (p := ⟨gb, 0, none⟩) zgb (.int .i64 n)).setCell (p := ⟨gb, 1, none⟩) zgb (.int .i64 0)).setCell (p := ⟨gb, 2, none⟩) zgb (.func (.func 57) #[] #[.pointer (some ⟨cf, 0, none⟩)])).setCell (p := ⟨hb, 0, none⟩) zhb (.int .i64 n)).setCell (p := ⟨hb, 1, none⟩) zhb (.int .i64 1)).setCell (p := ⟨hb, 2, none⟩) zhb (.func (.func 58) #[] #[.pointer (some ⟨cb, 0, none⟩)])
          have n1 := fwd_next (pc := pc) (hF.below (bthen HB1.out hbb)) (by rw [← HNL.out]; exact f6.cell 0 _ rfl) (by rw [← HNL.out]; omega)
          exact ⟨gb, hb, cf, cb, B, rfl, rfl, a6, b6, n1, v6.next (by rw [HRV.out.len, ← HNL.out]; omega), HRV.out, hgh, zgb, zhb, hbb⟩
  case rest =>
    obtain ⟨gb, jb, cf, cb, B, rfl, rfl, bG, bH, hxf, hxb, hrev, hgh, zgb, zhb, hbc⟩ := hcut

    have k0 := bG.cell 0 _ rfl; have k1 := bG.cell 1 _ rfl; have k2 := bG.cell 2 _ rfl
    have HAF := hid (GrA.fwd hxf HV.out hsm)
    have HAB := hid (GrA.bwd hxb HV.out hrev)
    have zgl := bG.lt; have zhl := bH.lt
    have HBG := hid bG; have HBH := hid bH; have HRV := hid hrev; have HBC := hid hbc
    clear bG bH hxf hxb hrev hbc
    have hmm := @run_makeMap Try.prog
    go_wp2_with fail
    refine wp_region_J (fun j => match j with | 1 => some (fun W => W.cell? ⟨gb, 0, none⟩ = some (.int .i64 n) ∧ W.cell? ⟨gb, 1, none⟩ = some (.int .i64 0) ∧ W.cell? ⟨gb, 2, none⟩ = some (.func (.func 57) #[] #[.pointer (some ⟨cf, 0, none⟩)])) | 2 => some (fun W => W.cell? ⟨gb, 0, none⟩ = some (.int .i64 n) ∧ W.cell? ⟨gb, 1, none⟩ = some (.int .i64 0) ∧ W.cell? ⟨gb, 2, none⟩ = some (.func (.func 57) #[] #[.pointer (some ⟨cf, 0, none⟩)])) | 4 => some (fun _ => True) | _ => none) (by kernel_rfl) ?_
    refine anyJ_take (some 24) (i := 0) (T := fun W => W.cell? ⟨gb, 0, none⟩ = some (.int .i64 n) ∧ W.cell? ⟨gb, 1, none⟩ = some (.int .i64 0) ∧ W.cell? ⟨gb, 2, none⟩ = some (.func (.func 57) #[] #[.pointer (some ⟨cf, 0, none⟩)])) (v := ?_) rfl rfl (by kernel_rfl) (by kernel_rfl) (by kernel_rfl) (fun _ _ _ h => h) (js := [1]) (by kernel_rfl) (Leads.cons _ rfl (fun w h => h) Leads.nil) rfl (Or.inl ⟨by rfl, ?_⟩) (⟨by go_simp, by go_simp, by go_simp⟩) ?_
    rotate_left
    · (intro wL hSw; (try dsimp only at hSw); go_simp; try with_reducible rfl)
    try simp only [Act.put, List.setIfInBounds_toArray, List.set_cons_zero, List.set_cons_succ]
    refine anyJ_take (some 27) (i := 3) (T := fun W => W.cell? ⟨gb, 0, none⟩ = some (.int .i64 n) ∧ W.cell? ⟨gb, 1, none⟩ = some (.int .i64 0) ∧ W.cell? ⟨gb, 2, none⟩ = some (.func (.func 57) #[] #[.pointer (some ⟨cf, 0, none⟩)])) (v := ?_) rfl rfl (by kernel_rfl) (by kernel_rfl) (by kernel_rfl) (fun _ _ _ h => h) (js := [1, 2]) (by kernel_rfl) (Leads.cons _ rfl (fun w h => h) (Leads.cons _ rfl (fun w h => h) Leads.nil)) rfl (Or.inl ⟨by rfl, ?_⟩) (⟨by go_simp, by go_simp, by go_simp⟩) ?_
    rotate_left
    · (intro wL hSw; (try dsimp only at hSw); go_simp; try with_reducible rfl)
    try simp only [Act.put, List.setIfInBounds_toArray, List.set_cons_zero, List.set_cons_succ]
    refine anyJ_one (i := 1) (oi := { dst := some 25, op := Go.Op.buildSlice 29 1 #[(0, Go.Operand.const (Go.Value.int Go.IntKind.i64 0))], type := 29, pos := "dominators.go:147", after := #[], guard := none }) rfl (by kernel_rfl) (by rfl) (fun K hK => ?_)
    go_simp
    refine hK.out _ _ (by dsimp only [Obl]; exact ⟨by go_simp, by go_simp, by go_simp⟩) ?_
    clear hK K
    try simp only [Act.put, List.setIfInBounds_toArray, List.set_cons_zero, List.set_cons_succ]
    refine anyJ_one (i := 2) (oi := { dst := some 26, op := Go.Op.call { callee := Go.Callee.value (Go.Operand.func 54), args := #[Go.Operand.tmp 24, Go.Operand.const (Go.Value.int Go.IntKind.i64 (-1)), Go.Operand.tmp 25], argTypes := #[54, 3, 29] }, type := 59, pos := "dominators.go:147", after := #[{ on := 0, ground := Go.Ground.data }, { on := 1, ground := Go.Ground.data }], guard := none }) rfl (by kernel_rfl) (by rfl) (fun K hK => ?_)
    go_simp
    refine (HAF.out.reach (bthen (below_drew' wc) (below_alloc wc.drew (.cells #[.int .i64 0] 3))) n 0 (-1) _ 1 [((0 : Nat) : Int)] HNL.out (Row.one _ _ _) (by simp; omega) (by simp)).mono ?_
    rintro e w2 ⟨ab, he, hm, hrb, hb2⟩
    rw [reachB_length, ← HNL.out] at he
    subst he
    have hbx := bthen (bthen (below_drew' wc) (below_alloc wc.drew (.cells #[.int .i64 0] 3))) hb2
    have k0 := below_cell hbx k0; have k1 := below_cell hbx k1; have k2 := below_cell hbx k2
    have HMR := hid hm; have HB2 := hid hbx
    refine hK.out _ _ (by dsimp only [Obl]; exact ⟨k0, k1, k2⟩) ?_
    clear hK K hm hrb hb2 hbx
    try simp only [Act.put, List.setIfInBounds_toArray, List.set_cons_zero, List.set_cons_succ]
    refine anyJ_one (i := 4) (oi := { dst := some 28, op := Go.Op.call { callee := Go.Callee.value (Go.Operand.func 50), args := #[Go.Operand.tmp 27], argTypes := #[54] }, type := 61, pos := "dominators.go:147", after := #[{ on := 3, ground := Go.Ground.data }, { on := 2, ground := Go.Ground.chain }], guard := none }) rfl (by kernel_rfl) (by rfl) (fun K hK => ?_)
    go_simp
    refine (relation_any n 0 57 cf F _ (HAF.out.below HB2.out) HNL.out (by omega)).mono ?_
    rintro e w3 ⟨ob, rbs, he, hm, hob, hb3⟩
    subst he
    have HML := hid hm; have HMR := hid (BlkAt.below HMR.out hb3); have HB3 := hid (bthen HB2.out hb3)
    refine hK.out _ _ trivial ?_
    clear hK K hm hob hb3
    try simp only [Act.put, List.setIfInBounds_toArray, List.set_cons_zero, List.set_cons_succ]
    refine anyJ_take (some 5) (i := 5) (T := fun _ => True) (v := ?_) rfl rfl (by kernel_rfl) (by kernel_rfl) (by kernel_rfl) (fun _ _ _ h => h) (js := [1, 2, 4]) (by kernel_rfl) Leads.true rfl (Or.inl ⟨by rfl, ?_⟩) trivial ?_
    rotate_left
    · (intro wL hSw; (try dsimp only at hSw); go_simp; try with_reducible rfl)
    try simp only [Act.put, List.setIfInBounds_toArray, List.set_cons_zero, List.set_cons_succ]
    refine anyJ_take (some 6) (i := 6) (T := fun _ => True) (v := ?_) rfl rfl (by kernel_rfl) (by kernel_rfl) (by kernel_rfl) (fun _ _ _ h => h) (js := [1, 2, 4]) (by kernel_rfl) Leads.true rfl (Or.inl ⟨by rfl, ?_⟩) trivial ?_
    rotate_left
    · (intro wL hSw; (try dsimp only at hSw); go_simp; try with_reducible rfl)
    try simp only [Act.put, List.setIfInBounds_toArray, List.set_cons_zero, List.set_cons_succ]
    refine anyJ_done (by kernel_rfl) ?_
    have c0 := below_cell (bthen HBC.out HB3.out) c0
    have zc3 : w.heap.size < w3.heap.size := lt_of_cell c0
    go_wp2_with fail
    obtain ⟨mb, hmb⟩ : ∃ mb, mb = w3.heap.size := ⟨_, rfl⟩
    have hm0 : MpI (w3.alloc (.map #[] 0)) w3.heap.size mb [] [] [] := by
      refine ⟨by rw [hmb]; exact heap_alloc_new w3 _, ⟨rfl, fun k hk => by simp at hk, fun k _ hk => by simp at hk⟩, rfl, fun i _ hi => by simp at hi⟩
    have hbm := below_alloc w3 (.map #[] 0)
    obtain ⟨W4, hW4⟩ : ∃ W4, W4 = w3.alloc (.map #[] 0) := ⟨_, rfl⟩
    rw [← hW4] at hm0 hbm
    rw [← hW4]
    try rw [← hmb]
    have c0 := below_cell hbm c0
    clear zc3
    have h0 := (HBH.out.below (bthen HB3.out hbm)).cell 0 _ rfl
    have h1 := (HBH.out.below (bthen HB3.out hbm)).cell 1 _ rfl
    have h2 := (HBH.out.below (bthen HB3.out hbm)).cell 2 _ rfl
    have HM0 := hid hm0; have HBM := hid hbm
    have HMR4 := hid (BlkAt.below HMR.out hbm); have HML4 := hid (HML.out.below hbm)
    have HBW := hid (bthen (bthen HB1.out HBC.out) (bthen HB3.out hbm))
    have HBCW := hid (bthen HB3.out hbm)
    have zck : wc.heap.size ≤ w3.heap.size := HB3.out.size
    have HAB4 := hid (HAB.out.below (bthen HB3.out hbm))
    have zm : w3.heap.size ≤ mb := Nat.le_of_eq hmb.symm
    have zc0 : w.heap.size < w3.heap.size := lt_of_cell (below_cell (bthen HBC.out HB3.out) (show w1.cell? ⟨w.heap.size, 0, none⟩ = _ from HC0.out))
    have zh0 : jb < w3.heap.size := (HBH.out.below HB3.out).lt
    have zab : ab < w3.heap.size := BlkAt.lt HMR.out
    have zob : ob < w3.heap.size := HML.out.row.lt
    have z34 : w3.heap.size ≤ W4.heap.size := HBM.out.size
    clear k0 k1 k2 hm0 hbm hW4 hmb hmm
    obtain ⟨K3, hK3⟩ : ∃ K3, K3 = w3.heap.size := ⟨_, rfl⟩
    rw [← hK3] at HM0 zm zc0 zh0 zab zob z34 zck
    have HB3K := hid (show Below K3 w3 W4 by rw [hK3]; exact HBM.out)
    have hrows : ∀ a, a < n → rbs.getD a 0 < K3 := fun a ha => by rw [hK3]; exact BlkAt.lt (HML.out.marks a ha)
    have HROWS := hid hrows
    clear hK3 HBM hrows
    go_loopw [33] (fun i wr => ∃ b : Nat, ∃ ks vs bs, b ≤ n ∧ i = .int .i64 b ∧ MpI wr K3 mb ks vs bs ∧ (∀ h, getS ks bs h = srcE (okF F) (edgesP F b 0) h) ∧ Below K3 W4 wr) (fun i _ => n - (intOf i).toNat)
    case atStart => exact ⟨0, [], [], [], Nat.zero_le _, rfl, HM0.out, fun h => rfl, Below.refl _ _⟩
    case round =>
      obtain ⟨b, ks, vs, bs, hb, rfl, hmp, hgs, hbr⟩ := hrel
      have HMP := hid hmp; have HGS := hid hgs; have HBR := hid hbr
      have e0 := (hbr.cell (p := ⟨w.heap.size, 0, none⟩) zc0).trans c0
      have hwz := hbr.size
      by_cases hlt : b < n
      · obtain ⟨sb, so, qa, qb, C, cc, rfl, p0, p1, p2, p3⟩ := hF b (by rw [← HNL.out]; exact hlt)
        have hNl := hsm b (by rw [← HNL.out]; exact hlt)
        have hNb := HV.out.ok b (by rw [← HNL.out]; exact hlt)
        rw [← HNL.out] at hNb
        obtain ⟨N, hN⟩ : ∃ N, N = F.getD b [] := ⟨_, rfl⟩
        rw [← hN] at p2 p3 hNl hNb
        have hbwr := HBW.out.trans (hbr.mono (Nat.le_of_lt zc0))
        have p0 := below_cell hbwr p0
        have p1 := below_cell hbwr p1
        have p2 := below_cell hbwr p2
        have HN := hid hN; have HNB := hid hNb
        have i1 : (0 : Int) ≤ (b : Int) := by omega
        have i2 : (b : Int) < (n : Int) := by omega
        have zwr : w.heap.size < wr.heap.size := by omega
        have HMX := hid (hmp.below (below_alloc wr (.cells #[.int .i64 qa, .int .i64 qb, .slice C N.length cc] 40)))
        have HBX := hid (hbr.alloc (by omega) (.cells #[.int .i64 qa, .int .i64 qb, .slice C N.length cc] 40))
        clear hmp hgs hbr hNb hN hbwr
        go_wp2_with fail
        go_loopw [41] (fun i wi => ∃ j : Nat, ∃ ks vs bs, j ≤ N.length ∧ i = .int .i64 j ∧ MpI wi K3 mb ks vs bs ∧ (∀ h, getS ks bs h = srcE (okF F) (edgesP F b j) h) ∧ Below K3 W4 wi) (fun i _ => N.length - (intOf i).toNat)
        case atStart => exact ⟨0, ks, vs, bs, Nat.zero_le _, rfl, HMX.out, HGS.out, HBX.out⟩
        case round =>
          clear HMX HBX HMP HGS HBR hwz zwr e0 p0 p1 p2
          obtain ⟨j, ks, vs, bs, hj, rfl, hmp, hgs, hbi⟩ := hrel
          have HMI := hid hmp; have HGI := hid hgs; have HBI := hid hbi
          rename World => wr0
          rename World => wi
          have hwz := hbi.size
          by_cases hjt : j < N.length
          · obtain ⟨tb, to2, rfl, hx⟩ := p3.int j hjt
            have hx' := below_cell (HBW.out.trans (hbi.mono (Nat.le_of_lt zc0))) hx
            have hxm : N.getD j 0 ∈ N := by rw [List.getD_eq_getElem?_getD, List.getElem?_eq_getElem hjt]; exact List.getElem_mem hjt
            have hxb := HNB.out _ hxm
            have hnx := edgesP_next F b j (by rw [← HN.out]; exact hjt)
            rw [← HN.out] at hnx
            obtain ⟨x, hx0⟩ : ∃ x, x = N.getD j 0 := ⟨_, rfl⟩
            rw [← hx0] at hx' hxb hnx
            obtain ⟨p, rfl⟩ := Int.eq_ofNat_of_zero_le hxb.1
            have hpn : p < n := by omega
            have rc := (hbi.cell (p := ⟨ab, b, none⟩) zab).trans (MarksAt.cell HMR4.out b (by rw [reachB_length, ← HNL.out]; exact hlt))
            have oc := (hbi.cell (p := ⟨ob, p, none⟩) zob).trans (HML4.out.cell p hpn hpn)
            have mc := (hbi.cell (p := ⟨rbs.getD p 0, b, none⟩) (HROWS.out p hpn)).trans ((HML4.out.marks p hpn).cell b (by simp [relL, ← HNL.out]; exact hlt))
            rw [relL_get F 0 p b (by rw [← HNL.out]; exact hlt)] at mc
            obtain ⟨rb, hrb⟩ : ∃ rb, rb = rbs.getD p 0 := ⟨_, rfl⟩
            rw [← hrb] at oc mc
            obtain ⟨r1, hr1⟩ : ∃ r, r = (reachB F (-1) [((0 : Nat) : Int)]).getD b false := ⟨_, rfl⟩
            obtain ⟨r2, hr2⟩ : ∃ r, r = relF F 0 p b := ⟨_, rfl⟩
            rw [← hr1] at rc; rw [← hr2] at mc
            have hok : okF F b p = (r1 && r2) := by rw [hr1, hr2]; rfl
            have HOK := hid hok
            have HNX := hid hnx
            have i3 : (0 : Int) ≤ (p : Int) := by omega
            have i4 : (p : Int) < (n : Int) := by omega
            have hle : (getS ks bs p).length ≤ 1000000 := by
              rw [hgs p]
              have h1 := srcE_le (okF F) (edgesP F b j) p
              have h2 := edgesP_le F hsm b j (by rw [← HNL.out]; omega)
              omega
            have HLE := hid hle
            clear hmp hgs hbi hx hxm hx0 hxb hrb hr1 hr2 hok hnx hle
            have HGN := hid (show ∀ h, srcE (okF F) (edgesP F b (j + 1)) h = if h = p ∧ (r1 && r2) = true then getS ks bs p ++ [(b : Int)] else getS ks bs h from fun h => by
              rw [HNX.out, srcE_snoc, HOK.out, HGI.out p, HGI.out h])
            cases r1 with
            | false =>
              go_wp2_with fail
              exact ⟨⟨j + 1, ks, vs, bs, by omega, by go_num, HMI.out, fun h => by rw [HGN.out h, if_neg (fun hc => by cases hc.2)], HBI.out⟩, by simp [intOf]; omega⟩
            | true =>
              cases r2 with
              | false =>
                go_wp2_with fail
                exact ⟨⟨j + 1, ks, vs, bs, by omega, by go_num, HMI.out, fun h => by rw [HGN.out h, if_neg (fun hc => by cases hc.2)], HBI.out⟩, by simp [intOf]; omega⟩
              | true =>
                have hlk := HMI.out.look p (w' := wi) rfl
                cases hp : posI ks p 0 with
                | none =>
                  rw [hp] at hlk
                  simp only [Option.map_none, Option.getD_none] at hlk
                  have HP := hid hp; clear hp
                  go_wp2_with (at_builtin; refine wpList_append_row rfl (.tmp 62) (.tmp 64) 29 rfl K3 3 i0 (.int .i64 0) 1 8 Try.underlying29 hi hz0 hz1 hz2 rfl (by decide) (.slice none 0 0) 0 [] rfl (World.ownsRow_nil _ _ _ _) (some ⟨wi.heap.size, 0, none⟩) 1 1 [.int .i64 b] rfl rfl (fun e => by cases e) (Row.one _ _ _) (ints_one [_]) (by unfold maxLen; omega) (by omega) (by simp; omega) ?_; intro A7 c7 w7 hown7 hgr7 hat7; rw [Nat.zero_add] at hown7 hat7; obtain ⟨w8, hrun, ⟨vs', hm8⟩, hg8⟩ := (HMI.out.below (below_alloc wi (.cells #[.int .i64 (b : Int)] 3))).step_new p HP.out hown7 hgr7 hat7; have HM8 := hid hm8; have HB8 := hid (((HBI.out.alloc (by omega) (.cells #[.int .i64 (b : Int)] 3)).grown hgr7 (by simp; omega) (fun j hj => by cases hj)).grown hg8 (Nat.le_trans (by simp; omega) hgr7.size) (fun j hj => by injection hj with hj; omega)); clear hown7 hgr7 hat7 hm8 hg8)
                  exact ⟨⟨j + 1, _, vs', _, by omega, by go_num, HM8.out, fun h => by rw [HGN.out h, getS_new ks bs p _ HP.out HMI.out.len]; simp, HB8.out⟩, by simp [intOf]; omega⟩
                | some i =>
                  rw [hp] at hlk
                  simp only [Option.map_some, Option.getD_some] at hlk
                  have hps := posI_some ks p 0 i hp
                  simp only [Nat.sub_zero] at hps
                  have hib : i < bs.length := by rw [HMI.out.len]; exact hps.2.1
                  have hlen2 := HLE.out
                  unfold getS at hlen2
                  rw [hp] at hlen2
                  simp only [Option.map_some, Option.getD_some] at hlen2
                  have hmx := HMI.out.below (below_alloc wi (.cells #[.int .i64 (b : Int)] 3))
                  have hown0 := hmx.own.own i hib
                  have hownlt := fun q (hq : (sval vs bs i).ownBlock = some q) => (hown0.lt q hq).1
                  have HP := hid hp
                  obtain ⟨Ai, hAi⟩ : ∃ A, A = (vs.getD i (none, 0)).1 := ⟨_, rfl⟩
                  obtain ⟨ci, hci⟩ : ∃ c, c = (vs.getD i (none, 0)).2 := ⟨_, rfl⟩
                  have hsv : sval vs bs i = .slice Ai (bs.getD i []).length ci := by unfold sval; rw [hAi, hci]
                  rw [hsv] at hown0 hlk hownlt
                  obtain ⟨li, hli⟩ : ∃ l, l = (bs.getD i []).length := ⟨_, rfl⟩
                  rw [← hli] at hown0 hlk hlen2 hownlt
                  have HOW := hid hown0; have HSV := hid hsv; have HLI := hid hli; have HMXX := hid hmx; have HLT := hid hownlt
                  clear hp hps hown0 hAi hci hsv hli hmx hownlt
                  go_wp2_with (at_builtin; refine wpList_append_row rfl (.tmp 62) (.tmp 64) 29 rfl K3 3 i0 (.int .i64 0) 1 8 Try.underlying29 hi hz0 hz1 hz2 rfl (by decide) (.slice Ai li ci) li (ints (bs.getD i [])) rfl HOW.out (some ⟨wi.heap.size, 0, none⟩) 1 1 [.int .i64 b] rfl rfl (fun e => by cases e) (Row.one _ _ _) (ints_one [_]) (by unfold maxLen; omega) (by omega) (by simp; omega) ?_; intro A7 c7 w7 hown7 hgr7 hat7; have HB7 := hid ((HBI.out.alloc (by omega) (.cells #[.int .i64 (b : Int)] 3)).grown hgr7 (by simp; omega) (fun j hj => HLT.out j hj)); have hsz7 := hgr7.size; rw [HLI.out] at hown7 hgr7 hat7; rw [← HSV.out] at hgr7 hat7; obtain ⟨w8, hrun, ⟨vs', hm8⟩, hg8⟩ := HMXX.out.step_old p i HP.out hown7 hgr7 (by simpa using hat7); rw [← HLI.out] at hrun; have HM8 := hid hm8; have HB8 := hid (HB7.out.grown hg8 (Nat.le_trans (by simp; omega) hsz7) (fun j hj => by injection hj with hj; omega)); clear hown7 hgr7 hat7 hm8 hg8 hsz7)
                  exact ⟨⟨j + 1, _, vs', _, by omega, by go_num, HM8.out, fun h => by rw [HGN.out h, getS_old ks bs p i _ HP.out HMI.out.len HMI.out.inj]; simp, HB8.out⟩, by simp [intOf]; omega⟩
          · obtain rfl : j = N.length := by omega
            have HGF := hid (show ∀ h, getS ks bs h = srcE (okF F) (edgesP F (b + 1) 0) h from fun h => by rw [hgs h, HN.out, edgesP_full])
            clear hmp hgs hbi
            go_wp2_with fail
            exact ⟨⟨b + 1, ks, vs, bs, by omega, by go_num, HMI.out, HGF.out, HBI.out⟩, by simp [intOf]; omega⟩
      · obtain rfl : b = n := by omega
        have hsrc : ∀ h, getS ks bs h = srcL F h := fun h => by rw [hgs h, edgesP_zero]; unfold srcL; rw [← HNL.out]
        obtain ⟨WL, hWL⟩ : ∃ WL, WL = wr := ⟨_, rfl⟩
        rw [← hWL] at HMP HBR e0 hwz
        rw [← hWL]
        have HSRC := hid hsrc
        have zWL : K3 ≤ WL.heap.size := by omega
        clear hmp hgs hbr hsrc hWL wr
        go_wp2_with fail
        go_loopw [12, 71] (fun o i wr => ∃ h : Nat, ∃ A c vs2, h ≤ b ∧ i = .int .i64 h ∧ o = .slice A (loopsP F h).length c ∧ LpSt wr WL.heap.size A c (loopsP F h) vs2 ∧ Below WL.heap.size WL wr) (fun _ i _ => b - (intOf i).toNat)
        case atStart => exact ⟨0, none, 0, [], Nat.zero_le _, rfl, rfl, ⟨rfl, World.ownsRow_nil _ _ _ _, fun k hk => by simp [loopsP] at hk⟩, Below.refl _ _⟩
        case round =>
          obtain ⟨h, A, c, vs2, hh, rfl, rfl, hlp, hbr⟩ := hrel
          have HLP := hid hlp; have HBR2 := hid hbr
          have hMP2 := HMP.out.below hbr
          have e1 := below_cell hbr e0
          have E1 := hid e1
          obtain ⟨ll, hll⟩ : ∃ l, l = (loopsP F h).length := ⟨_, rfl⟩
          have hll2 := loopsP_le F h
          rw [← hll] at hll2 ⊢
          have HLL := hid hll
          rename World => wr
          by_cases hlt : h < b
          · obtain ⟨As, cs, hrd, hrow⟩ := hMP2.read h
            have hlk := hMP2.look h (w' := wr) rfl
            have hlk2 := hMP2.look h (w' := wr.alloc (.cells #[.int .i64 h, .slice none 0 0] 47)) (heap_alloc_old _ _ hMP2.lt)
            rw [hrd, HSRC.out h] at hlk hlk2
            rw [HSRC.out h] at hrow
            have hsn := loopsP_snoc F h
            have hsb := srcE_mem (okF F) F F.length h
            have hsl : (srcL F h).length ≤ 1000000 := by
              have h1 := srcE_le (okF F) (edgesF F F.length) h
              have h2 := edgesF_le F hsm F.length (Nat.le_refl _)
              have h3 : F.length ≤ 1024 := by rw [← HNL.out]; exact hhi
              unfold srcL; omega
            obtain ⟨SR, hSR⟩ : ∃ S, S = srcL F h := ⟨_, rfl⟩
            rw [← hSR] at hlk hlk2 hrow hsn hsl
            have hsb2 : ∀ x ∈ SR, 0 ≤ x ∧ x < (b : Int) := fun x hx => by rw [hSR] at hx; have := hsb x hx; rw [← HNL.out] at this; exact this
            have HSR := hid hSR; have HSN := hid hsn; have HRW := hid hrow; have HSB := hid hsb2
            have i1 : (0 : Int) ≤ (h : Int) := by omega
            have i2 : (h : Int) < (b : Int) := by omega
            clear hlp hrd hMP2 hsb hsn hrow hsb2 hSR hll
            by_cases hz : SR.length = 0
            · have hz' : ((SR.length : Int) == 0) = true := by simp [hz]
              have HZ := hid hz
              clear hz hbr
              go_wp2_with fail
              have hsame : loopsP F (h + 1) = loopsP F h := by rw [HSN.out, if_neg (by rw [HZ.out]; simp)]
              exact ⟨⟨h + 1, A, c, vs2, by omega, by go_num, by rw [hsame, HLL.out], by rw [hsame]; exact HLP.out, HBR2.out⟩, by simp [intOf]; omega⟩
            · have hz' : ((SR.length : Int) == 0) = false := by rw [beq_eq_false_iff_ne]; omega
              have HZ := hid hz
              have k0 := below_cell hbr (show WL.cell? ⟨jb, 0, none⟩ = _ from (HBR.out.cell (p := ⟨jb, 0, none⟩) zh0).trans h0)
              have k1 := below_cell hbr (show WL.cell? ⟨jb, 1, none⟩ = _ from (HBR.out.cell (p := ⟨jb, 1, none⟩) zh0).trans h1)
              have k2 := below_cell hbr (show WL.cell? ⟨jb, 2, none⟩ = _ from (HBR.out.cell (p := ⟨jb, 2, none⟩) zh0).trans h2)
              have zhw : jb < wr.heap.size := lt_of_cell k0
              have zgw : w.heap.size < wr.heap.size := lt_of_cell e1
              have e1' := below_cell (below_alloc wr (.cells #[.int .i64 h, .slice none 0 0] 47)) e1
              have hxb := BlkAt.made wr 47 [.int .i64 (h : Int), .slice none 0 0]
              have bx := below_alloc wr (.cells #[.int .i64 h, .slice none 0 0] 47)
              have hreach := HAB.out.reach (HBCW.out.trans ((HBR.out.mono zck).trans ((bthen hbr bx).mono (Nat.le_trans zck zWL)))) b 1 (h : Int) As cs SR (by rw [HRV.out.len, HNL.out]) (HRW.out.below bx) HSB.out hsl
              have HRE := hid hreach; have HXB := hid hxb; have HBX := hid bx
              clear hbr hz hreach hxb bx
              go_wp2_with fail
              refine HRE.out.mono ?_
              rintro e w5 ⟨sb2, he, hm5, hsb5, hb5⟩
              rw [reachB_length, HRV.out.len, ← HNL.out] at he
              subst he
              rw [HRV.out.reachB, HSR.out] at hm5
              have HXB5 := hid (HXB.out.below hb5); have HM5 := hid hm5
              have HB5 := hid (bthen HBX.out hb5)
              have e1 := below_cell HB5.out e1
              obtain ⟨xb, hxe⟩ : ∃ xb, xb = wr.heap.size := ⟨_, rfl⟩
              rw [← hxe] at HXB5
              rw [← hxe]
              have zxw : wr.heap.size ≤ xb := Nat.le_of_eq hxe.symm
              clear hm5 hsb5 hb5 hxe HRE HXB HBX
              go_wp2_with fail
              go_loopw [90] (fun i wi => ∃ q : Nat, ∃ Ab cbb, q ≤ b ∧ i = .int .i64 q ∧ BlkAt wi xb 47 [.int .i64 h, .slice Ab (bodyP F h q).length cbb] ∧ MarksAt wi sb2 (reachB (revF F) (h : Int) (srcL F h)) ∧ wi.ownsRow wr.heap.size 3 1 (.slice Ab (bodyP F h q).length cbb) (bodyP F h q).length (ints (bodyP F h q)) ∧ Below wr.heap.size wr wi) (fun i _ => b - (intOf i).toNat)
              case atStart => exact ⟨0, none, 0, Nat.zero_le _, rfl, HXB5.out, HM5.out, World.ownsRow_nil _ _ _ _, HB5.out⟩
              case round =>
                obtain ⟨q, Ab, cbb, hq, rfl, hx, hmk, hown, hbi⟩ := hrel
                have HX := hid hx; have HMK := hid hmk; have HOWN := hid hown; have HBI := hid hbi
                rename World => wi
                have f1 := below_cell hbi (show wr.cell? ⟨w.heap.size, 0, none⟩ = _ from E1.out)
                obtain ⟨lb, hlb⟩ : ∃ l, l = (bodyP F h q).length := ⟨_, rfl⟩
                have hlb2 := bodyP_le F h q
                rw [← hlb] at hlb2
                have HLB := hid hlb
                have hwz2 := hbi.size
                by_cases hqt : q < b
                · have xc := hx.cell 1 _ rfl
                  have xf := hx.fz 1
                  rw [← hlb] at xc
                  have ic := MarksAt.cell hmk q (by rw [reachB_length, revF_len, ← HNL.out]; exact hqt)
                  have rc := below_cell hbi (below_cell HBR2.out ((HBR.out.cell (p := ⟨ab, q, none⟩) zab).trans (MarksAt.cell HMR4.out q (by rw [reachB_length, ← HNL.out]; exact hqt))))
                  obtain ⟨r1, hr1⟩ : ∃ r, r = (reachB (revF F) (h : Int) (srcL F h)).getD q false := ⟨_, rfl⟩
                  obtain ⟨r2, hr2⟩ : ∃ r, r = (reachB F (-1) [((0 : Nat) : Int)]).getD q false := ⟨_, rfl⟩
                  rw [← hr1] at ic; rw [← hr2] at rc
                  have hin : inB F h q = (decide (q = h) || (r1 && r2)) := by rw [hr1, hr2]; rfl
                  have HIN := hid hin
                  have HSNB := hid (bodyP_snoc F h q)
                  have j1 : (0 : Int) ≤ (q : Int) := by omega
                  have j2 : (q : Int) < (b : Int) := by omega
                  have hown2 : (wi.alloc (.cells #[.int .i64 (q : Int)] 3)).ownsRow wr.heap.size 3 1 (.slice Ab lb cbb) lb (ints (bodyP F h q)) := by rw [HLB.out]; exact World.ownsRow.alloc hown _
                  have HOW := hid hown2
                  have hne : some xb ≠ (Value.slice Ab lb cbb).ownBlock := by rw [HLB.out]; exact BlkAt.ne_own hx hown (by decide)
                  have hne2 : some sb2 ≠ (Value.slice Ab lb cbb).ownBlock := by rw [HLB.out]; exact BlkAt.ne_own hmk hown (by decide)
                  have hxs : xb ≠ sb2 := BlkAt.ne hx hmk (by decide)
                  have HNE := hid (And.intro hne (And.intro hne2 hxs))
                  have zxi := hx.lt
                  clear hx hmk hown hbi hlb hr1 hr2 hin hown2 hne hne2 hxs
                  by_cases q1 : q = h
                  · have q1' : ((q : Int) == (h : Int)) = true := by simp [q1]
                    have HIN2 := hid (show inB F h q = true by rw [HIN.out, q1]; simp)
                    clear q1
                    go_wp2_with (at_builtin; refine wpList_append_row rfl (.tmp 109) (.tmp 111) 29 rfl wr.heap.size 3 i0 (.int .i64 0) 1 8 Try.underlying29 hi hz0 hz1 hz2 rfl (by decide) (.slice Ab lb cbb) lb (ints (bodyP F h q)) rfl HOW.out (some ⟨wi.heap.size, 0, none⟩) 1 1 [.int .i64 q] rfl rfl (fun e => by cases e) (Row.one _ _ _) (ints_one [_]) (by unfold maxLen; omega) (by omega) (by simp; omega) ?_; intro A7 c7 w7 hown7 hgr7 hat7; have hx7 := (HX.out.below (below_alloc wi (.cells #[.int .i64 (q : Int)] 3))).grown hgr7 HNE.out.1; have xf7 := hx7.fz 1; have xc7 : w7.cell? ⟨xb, 1, none⟩ = some (.slice Ab lb cbb) := (by rw [HLB.out]; exact hx7.cell 1 _ rfl); have HX7 := hid hx7; have HOW7 := hid hown7; have HGR7 := hid hgr7; clear hown7 hgr7 hat7 hx7)
                    have hs : bodyP F h (q + 1) = bodyP F h q ++ [(q : Int)] := by rw [HSNB.out, if_pos HIN2.out]
                    have hl1 : (bodyP F h (q + 1)).length = lb + 1 := by rw [hs, List.length_append, ← HLB.out]; rfl
                    refine ⟨⟨q + 1, A7, c7, by omega, by go_num, ?_, ?_, ?_, ?_⟩, by simp [intOf]; omega⟩
                    · have := HX7.out.set 1 (.slice A7 (lb + 1) c7)
                      rw [hl1]; exact this
                    · exact BlkAt.far (BlkAt.grown (BlkAt.below HMK.out (below_alloc wi (.cells #[.int .i64 (q : Int)] 3))) HGR7.out HNE.out.2.1) HNE.out.2.2.symm _ _
                    · have h7 := HOW7.out
                      have hb7 : some xb ≠ (Value.slice A7 (lb + 1) c7).ownBlock := BlkAt.ne_own HX7.out h7 (by decide)
                      rw [hl1, hs, show ints (bodyP F h q ++ [(q : Int)]) = ints (bodyP F h q) ++ [.int .i64 (q : Int)] from by simp [ints]]
                      exact own_setCell h7 hb7
                    · exact ((bthen HBI.out (below_alloc wi _)).grown HGR7.out (Nat.le_trans hwz2 (by simp)) (fun j hj => (HOW.out.lt j hj).1)).setCell (p := ⟨xb, 1, none⟩) zxw _
                  have q1' : ((q : Int) == (h : Int)) = false := by rw [beq_eq_false_iff_ne]; omega
                  cases r1 with
                  | false =>
                    have hs : bodyP F h (q + 1) = bodyP F h q := by rw [HSNB.out, HIN.out, if_neg (by simp [q1])]
                    have HS := hid hs; clear hs
                    go_wp2_with fail
                    exact ⟨⟨q + 1, Ab, cbb, by omega, by go_num, by rw [HS.out]; exact HX.out, HMK.out, by rw [HS.out]; exact HOWN.out, HBI.out⟩, by simp [intOf]; omega⟩
                  | true =>
                    cases r2 with
                    | false =>
                      have hs : bodyP F h (q + 1) = bodyP F h q := by rw [HSNB.out, HIN.out, if_neg (by simp [q1])]
                      have HS := hid hs; clear hs
                      go_wp2_with fail
                      exact ⟨⟨q + 1, Ab, cbb, by omega, by go_num, by rw [HS.out]; exact HX.out, HMK.out, by rw [HS.out]; exact HOWN.out, HBI.out⟩, by simp [intOf]; omega⟩
                    | true =>
                      have HIN2 := hid (show inB F h q = true by rw [HIN.out]; simp)
                      go_wp2_with (at_builtin; refine wpList_append_row rfl (.tmp 109) (.tmp 111) 29 rfl wr.heap.size 3 i0 (.int .i64 0) 1 8 Try.underlying29 hi hz0 hz1 hz2 rfl (by decide) (.slice Ab lb cbb) lb (ints (bodyP F h q)) rfl HOW.out (some ⟨wi.heap.size, 0, none⟩) 1 1 [.int .i64 q] rfl rfl (fun e => by cases e) (Row.one _ _ _) (ints_one [_]) (by unfold maxLen; omega) (by omega) (by simp; omega) ?_; intro A7 c7 w7 hown7 hgr7 hat7; have hx7 := (HX.out.below (below_alloc wi (.cells #[.int .i64 (q : Int)] 3))).grown hgr7 HNE.out.1; have xf7 := hx7.fz 1; have xc7 : w7.cell? ⟨xb, 1, none⟩ = some (.slice Ab lb cbb) := (by rw [HLB.out]; exact hx7.cell 1 _ rfl); have HX7 := hid hx7; have HOW7 := hid hown7; have HGR7 := hid hgr7; clear hown7 hgr7 hat7 hx7)
                      have hs : bodyP F h (q + 1) = bodyP F h q ++ [(q : Int)] := by rw [HSNB.out, if_pos HIN2.out]
                      have hl1 : (bodyP F h (q + 1)).length = lb + 1 := by rw [hs, List.length_append, ← HLB.out]; rfl
                      refine ⟨⟨q + 1, A7, c7, by omega, by go_num, ?_, ?_, ?_, ?_⟩, by simp [intOf]; omega⟩
                      · have := HX7.out.set 1 (.slice A7 (lb + 1) c7)
                        rw [hl1]; exact this
                      · exact BlkAt.far (BlkAt.grown (BlkAt.below HMK.out (below_alloc wi (.cells #[.int .i64 (q : Int)] 3))) HGR7.out HNE.out.2.1) HNE.out.2.2.symm _ _
                      · have h7 := HOW7.out
                        have hb7 : some xb ≠ (Value.slice A7 (lb + 1) c7).ownBlock := BlkAt.ne_own HX7.out h7 (by decide)
                        rw [hl1, hs, show ints (bodyP F h q ++ [(q : Int)]) = ints (bodyP F h q) ++ [.int .i64 (q : Int)] from by simp [ints]]
                        exact own_setCell h7 hb7
                      · exact ((bthen HBI.out (below_alloc wi _)).grown HGR7.out (Nat.le_trans hwz2 (by simp)) (fun j hj => (HOW.out.lt j hj).1)).setCell (p := ⟨xb, 1, none⟩) zxw _
                · obtain rfl : q = b := by omega
                  have x0 := hx.cell 0 _ rfl
                  have x1 := hx.cell 1 _ rfl
                  rw [← hlb] at x1
                  have hl2 := (HLP.out.below hbi).below (below_alloc wi (.cells #[.int .i64 h, .slice Ab lb cbb] 47))
                  have hbo : (wi.alloc (.cells #[.int .i64 h, .slice Ab lb cbb] 47)).ownsRow WL.heap.size 3 1 (.slice Ab (bodyP F h q).length cbb) (bodyP F h q).length (ints (bodyP F h q)) := own_lower (World.ownsRow.alloc hown _) HBR2.out.size
                  have hro := hl2.row
                  rw [← HLL.out] at hro
                  have HL2 := hid hl2; have HBO := hid hbo; have HRO := hid hro
                  have hzz := HBR2.out.size
                  clear hx hmk hown hbi hlb hl2 hbo hro
                  go_wp2_with (at_builtin; refine wpList_append_row rfl (.tmp 115) (.tmp 117) 43 rfl WL.heap.size 47 ti (.agg #[.int .i64 0, .slice none 0 0]) 2 32 Try.underlying43 hi1 hy0 hy1 hy2 rfl (by decide) (.slice A ll c) ll (lcells (loopsP F h) vs2) rfl HRO.out (some ⟨wi.heap.size, 0, none⟩) 1 1 [.int .i64 h, .slice Ab lb cbb] rfl rfl (fun e => by cases e) (Row.two _ _ _ _) (by simp [Value.oneCell']) (by unfold maxLen; omega) (by omega) (by simp; omega) ?_; intro A7 c7 w7 hown7 hgr7 hat7; have HOW7 := hid hown7; have HGR7 := hid hgr7; clear hown7 hgr7 hat7)
                  have hsame : loopsP F (h + 1) = loopsP F h ++ [(h, bodyP F h q)] := by rw [HSN.out, if_pos HZ.out, ← HNL.out]
                  have hll := HLL.out
                  have h7 := HOW7.out
                  have g7 := HGR7.out
                  rw [hll, HLB.out] at h7
                  rw [hll] at g7
                  have hlast := HL2.out.push h7 g7 HBO.out
                  have hlen1 : (loopsP F h ++ [(h, bodyP F h q)]).length = ll + 1 := by rw [List.length_append, hll]; rfl
                  refine ⟨⟨h + 1, A7, c7, vs2 ++ [(Ab, cbb)], by omega, by go_num, by rw [hsame, hlen1], by rw [hsame]; exact hlast, ?_⟩, by simp [intOf]; omega⟩
                  exact (bthen HBR2.out (bthen HBI.out (below_alloc wi _))).grown g7 (Nat.le_trans hzz (Nat.le_trans hwz2 (by simp))) (fun j hj => (HL2.out.row.lt j hj).1)
          · obtain rfl : h = b := by omega
            clear hlp hbr hMP2
            go_wp2_with fail
            go_ret
            have hfin : loopsP F h = loopsL F := by unfold loopsL; rw [← HNL.out]
            refine ⟨A, c, by rw [← hfin, ← HLL.out]; rfl, by rw [← hfin]; exact HLP.out.lrow, ?_⟩
            exact HBW.out.trans ((HBR.out.mono (Nat.le_of_lt zc0)).trans (HBR2.out.mono (by omega)))
end Go.Proofs.Ytjddegfigdpcbaa
