/- The walk of assessorlaw24.GatesValues: true, at every input. -/
import Derived.Test.YtelbjendeldlcaaD
import Derived.Test.YtelbjendeldlcaaJ
import Derived.Test.YtelbjendeldlcaaK
namespace Go.Proofs.Ytelbjendeldlcaa
open Go.RowKit

set_option maxHeartbeats 1000000 in
theorem values_core (n : Int) (ga : Option Addr) (gc : Nat) (G : List (Int × Int)) (ia : Option Addr) (ic : Nat) (I : List Bool) (la : Option Addr) (lc : Nat) (L : List Int) (w : World) (v : Bool) (bs : List Bool) (er : Int)
    (hG : Row w ga (gcells G)) (hI : Row w ia (bools I)) (hL : Row w la (ints L)) (hgl : ¬ 40 < G.length) (hll : ¬ 40 < L.length) (hbs : bs.length ≤ 40) (hv : ∀ e, Tells (Vld n G) e → e = .returned (.bool v))
    (h10 : ∀ w', Row w' ga (gcells G) → Row w' ia (bools I) → Row w' la (ints L) → Calls Try.prog 10 #[.agg #[.int .i64 n, .slice ga G.length gc], .slice ia I.length ic, .slice la L.length lc] w' (GivesBools w' bs er))
    (h11 : ∀ w', Row w' ga (gcells G) → Row w' ia (bools I) → Row w' la (ints L) → Calls Try.prog 11 #[.agg #[.int .i64 n, .slice ga G.length gc], .slice ia I.length ic, .slice la L.length lc] w' (GivesBools w' bs er)) :
    Calls Try.prog 3 #[.agg #[.int .i64 n, .slice ga G.length gc], .slice ia I.length ic, .slice la L.length lc] w fun e w' => e = .returned (.bool true) ∧ Below w.heap.size w w' := by
  have HV := hid hv; have H10 := hid h10; have H11 := hid h11; clear hv h10 h11
  have g1 : decide ((40 : Int) < (G.length : Int)) = false := by simp; omega
  have g2 : decide ((40 : Int) < (L.length : Int)) = false := by simp; omega
  go_enter Try.func3, Try.ntmps3
  go_wp2_with (first
    | (go_at_call 9; refine (awake_any _).mono ?_; rintro e w1 ⟨rfl, hb1⟩; have c0 := box_cell hb1 0 _ rfl; have c1 := box_cell hb1 1 _ rfl; have hbw := bthen (below_alloc w _) hb1; have HBW := hid hbw; have HG1 := hid (hG.below hbw); have HI1 := hid (hI.below hbw); have HL1 := hid (hL.below hbw); have hz1 := lt_of_cell c0; dsimp only at hz1; clear hb1 hbw)
    | (go_at_call 10; refine (H10.out _ HG1.out HI1.out HL1.out).mono ?_; rintro e w3 ⟨A1, e1, rfl, hr3, hb3⟩; have d0 := below_cell hb3 c0; have d1 := below_cell hb3 c1; have HB3 := hid hb3; have HE3 := hid hr3; have HG3 := hid (HG1.out.below hb3); have HI3 := hid (HI1.out.below hb3); have HL3 := hid (HL1.out.below hb3); clear hb3 hr3 c0 c1)
    | (go_at_call 11; refine (H11.out _ HG3.out HI3.out HL3.out).mono ?_; rintro e w4 ⟨A2, e2, rfl, hr4, hb4⟩; have d0 := below_cell hb4 d0; have d1 := below_cell hb4 d1; have HB4 := hid (bthen HB3.out hb4); have HF4 := hid hr4; have HE4 := hid (HE3.out.below hb4); have HG4 := hid (HG3.out.below hb4); clear hb4 hr4))
  refine wp_region_J (fun j => match j with | 1 => some (fun W => W.cell? ⟨w.heap.size, 0, none⟩ = some (.int .i64 n) ∧ W.cell? ⟨w.heap.size, 1, none⟩ = some (.slice ga G.length gc)) | 3 => some (fun W => W.cell? ⟨w.heap.size, 0, none⟩ = some (.int .i64 n) ∧ W.cell? ⟨w.heap.size, 1, none⟩ = some (.slice ga G.length gc)) | 13 => some (fun W => W.cell? ⟨w.heap.size, 0, none⟩ = some (.int .i64 n) ∧ W.cell? ⟨w.heap.size, 1, none⟩ = some (.slice ga G.length gc)) | _ => none) (by kernel_rfl) ?_
  refine anyJ_take (some 36) (i := 0) (T := fun W => W.cell? ⟨w.heap.size, 0, none⟩ = some (.int .i64 n) ∧ W.cell? ⟨w.heap.size, 1, none⟩ = some (.slice ga G.length gc)) (v := ?_) rfl rfl (by kernel_rfl) (by kernel_rfl) (by kernel_rfl) (fun _ _ _ h => h) (js := []) (by kernel_rfl) Leads.nil rfl (Or.inl ⟨by rfl, ?_⟩) (⟨by go_simp, by go_simp⟩) ?_
  rotate_left
  · (intro wL hSw; (try dsimp only at hSw); go_simp; try with_reducible rfl)
  try simp only [Act.put, List.setIfInBounds_toArray, List.set_cons_zero, List.set_cons_succ]
  refine anyJ_take (some 38) (i := 2) (T := fun W => W.cell? ⟨w.heap.size, 0, none⟩ = some (.int .i64 n) ∧ W.cell? ⟨w.heap.size, 1, none⟩ = some (.slice ga G.length gc)) (v := ?_) rfl rfl (by kernel_rfl) (by kernel_rfl) (by kernel_rfl) (fun _ _ _ h => h) (js := [1]) (by kernel_rfl) (Leads.cons _ rfl (fun w h => h) Leads.nil) rfl (Or.inl ⟨by rfl, ?_⟩) (⟨by go_simp, by go_simp⟩) ?_
  rotate_left
  · (intro wL hSw; (try dsimp only at hSw); go_simp; try with_reducible rfl)
  try simp only [Act.put, List.setIfInBounds_toArray, List.set_cons_zero, List.set_cons_succ]
  refine anyJ_one (i := 1) (oi := { dst := some 37, op := Go.Op.call { callee := Go.Callee.value (Go.Operand.func 12), args := #[Go.Operand.tmp 36], argTypes := #[24] }, type := 4, pos := "law.go:71", after := #[{ on := 0, ground := Go.Ground.data }], guard := none }) rfl (by kernel_rfl) (by rfl) (fun K hK => ?_)
  go_simp
  refine (valid_any n ga gc G _ (HG4.out.below (below_drew' _)) (by omega)).mono ?_
  rintro e w5 ⟨ht, hb5⟩; obtain rfl := HV.out e ht; clear ht
  have c0 := below_cell (bthen (below_drew' _) hb5) d0
  have c1 := below_cell (bthen (below_drew' _) hb5) d1
  have HB5 := hid (bthen (below_drew' _) hb5)
  have HG5 := hid (HG4.out.below HB5.out); have HE5 := hid (HE4.out.below HB5.out); have HF5 := hid (HF4.out.below HB5.out); clear hb5
  refine hK.out _ _ (by dsimp only [Obl]; exact ⟨by go_simp, by go_simp⟩) ?_
  clear hK K
  try simp only [Act.put, List.setIfInBounds_toArray, List.set_cons_zero, List.set_cons_succ]
  refine anyJ_one (i := 3) (oi := { dst := some 39, op := Go.Op.call { callee := Go.Callee.value (Go.Operand.func 13), args := #[Go.Operand.tmp 38], argTypes := #[24] }, type := 4, pos := "law.go:71", after := #[{ on := 2, ground := Go.Ground.data }, { on := 1, ground := Go.Ground.chain }], guard := none }) rfl (by kernel_rfl) (by rfl) (fun K hK => ?_)
  go_simp
  refine (rvalid_any n ga gc G _ HG5.out (by omega)).mono ?_
  rintro e w6 ⟨ht, hb6⟩; obtain rfl := HV.out e ht; clear ht
  have c0 := below_cell hb6 c0
  have c1 := below_cell hb6 c1
  have HB6 := hid hb6
  have HE6 := hid (HE5.out.below hb6); have HF6 := hid (HF5.out.below hb6); clear hb6
  refine hK.out _ _ (by dsimp only [Obl]; exact ⟨by go_simp, by go_simp⟩) ?_
  clear hK K
  try simp only [Act.put, List.setIfInBounds_toArray, List.set_cons_zero, List.set_cons_succ]
  refine anyJ_take (some 40) (i := 4) (T := fun _ => True) (v := ?_) rfl rfl (by kernel_rfl) (by kernel_rfl) (by kernel_rfl) (fun _ _ _ h => h) (js := [1, 3]) (by kernel_rfl) Leads.true rfl (Or.inl ⟨by rfl, ?_⟩) trivial ?_
  rotate_left
  · (intro wL hSw; (try dsimp only at hSw); go_simp; try with_reducible rfl)
  try simp only [Act.put, List.setIfInBounds_toArray, List.set_cons_zero, List.set_cons_succ]
  refine anyJ_take (some 41) (i := 5) (T := fun _ => True) (v := ?_) rfl rfl (by kernel_rfl) (by kernel_rfl) (by kernel_rfl) (fun _ _ _ h => h) (js := [1, 3]) (by kernel_rfl) Leads.true rfl (Or.inl ⟨by rfl, ?_⟩) trivial ?_
  rotate_left
  · (intro wL hSw; (try dsimp only at hSw); go_simp; try with_reducible rfl)
  try simp only [Act.put, List.setIfInBounds_toArray, List.set_cons_zero, List.set_cons_succ]
  refine anyJ_take (some 42) (i := 6) (T := fun _ => True) (v := ?_) rfl rfl (by kernel_rfl) (by kernel_rfl) (by kernel_rfl) (fun _ _ _ h => h) (js := [1, 3]) (by kernel_rfl) Leads.true rfl (Or.inl ⟨by rfl, ?_⟩) trivial ?_
  rotate_left
  · (intro wL hSw; (try dsimp only at hSw); go_simp; try with_reducible rfl)
  try simp only [Act.put, List.setIfInBounds_toArray, List.set_cons_zero, List.set_cons_succ]
  refine anyJ_take (some 43) (i := 7) (T := fun _ => True) (v := ?_) rfl rfl (by kernel_rfl) (by kernel_rfl) (by kernel_rfl) (fun _ _ _ h => h) (js := [1, 3]) (by kernel_rfl) Leads.true rfl (Or.inl ⟨by rfl, ?_⟩) trivial ?_
  rotate_left
  · (intro wL hSw; (try dsimp only at hSw); go_simp; try with_reducible rfl)
  try simp only [Act.put, List.setIfInBounds_toArray, List.set_cons_zero, List.set_cons_succ]
  refine anyJ_take (some 44) (i := 8) (T := fun _ => True) (v := ?_) rfl rfl (by kernel_rfl) (by kernel_rfl) (by kernel_rfl) (fun _ _ _ h => h) (js := [1, 3]) (by kernel_rfl) Leads.true rfl (Or.inl ⟨by rfl, ?_⟩) trivial ?_
  rotate_left
  · (intro wL hSw; (try dsimp only at hSw); go_simp; try with_reducible rfl)
  try simp only [Act.put, List.setIfInBounds_toArray, List.set_cons_zero, List.set_cons_succ]
  refine anyJ_take (some 45) (i := 9) (T := fun _ => True) (v := ?_) rfl rfl (by kernel_rfl) (by kernel_rfl) (by kernel_rfl) (fun _ _ _ h => h) (js := [1, 3]) (by kernel_rfl) Leads.true rfl (Or.inl ⟨by rfl, ?_⟩) trivial ?_
  rotate_left
  · (intro wL hSw; (try dsimp only at hSw); go_simp; try with_reducible rfl)
  try simp only [Act.put, List.setIfInBounds_toArray, List.set_cons_zero, List.set_cons_succ]
  refine anyJ_take (some 46) (i := 10) (T := fun _ => True) (v := ?_) rfl rfl (by kernel_rfl) (by kernel_rfl) (by kernel_rfl) (fun _ _ _ h => h) (js := [1, 3]) (by kernel_rfl) Leads.true rfl (Or.inl ⟨by rfl, ?_⟩) trivial ?_
  rotate_left
  · (intro wL hSw; (try dsimp only at hSw); go_simp; try with_reducible rfl)
  try simp only [Act.put, List.setIfInBounds_toArray, List.set_cons_zero, List.set_cons_succ]
  refine anyJ_take (some 47) (i := 11) (T := fun _ => True) (v := ?_) rfl rfl (by kernel_rfl) (by kernel_rfl) (by kernel_rfl) (fun _ _ _ h => h) (js := [1, 3]) (by kernel_rfl) Leads.true rfl (Or.inl ⟨by rfl, ?_⟩) trivial ?_
  rotate_left
  · (intro wL hSw; (try dsimp only at hSw); go_simp; try with_reducible rfl)
  try simp only [Act.put, List.setIfInBounds_toArray, List.set_cons_zero, List.set_cons_succ]
  refine anyJ_take (some 48) (i := 12) (T := fun _ => True) (v := ?_) rfl rfl (by kernel_rfl) (by kernel_rfl) (by kernel_rfl) (fun _ _ _ h => h) (js := [1, 3]) (by kernel_rfl) Leads.true rfl (Or.inl ⟨by rfl, ?_⟩) trivial ?_
  rotate_left
  · (intro wL hSw; (try dsimp only at hSw); go_simp; try with_reducible rfl)
  try simp only [Act.put, List.setIfInBounds_toArray, List.set_cons_zero, List.set_cons_succ]
  refine anyJ_one (i := 13) (oi := { dst := some 49, op := Go.Op.call { callee := Go.Callee.value (Go.Operand.func 14), args := #[Go.Operand.tmp 47, Go.Operand.tmp 48], argTypes := #[25, 25] }, type := 4, pos := "law.go:71", after := #[{ on := 11, ground := Go.Ground.data }, { on := 12, ground := Go.Ground.data }, { on := 10, ground := Go.Ground.chain }, { on := 10, ground := Go.Ground.guard }], guard := some (10, true) }) rfl (by kernel_rfl) (by rfl) (fun K hK => ?_)
  go_simp
  refine (equalB_any A1 A2 e1 e2 bs bs _ (by omega) (by omega) HE6.out HF6.out).mono ?_
  rintro e w7 ⟨ht, hb7⟩; obtain rfl := ht.eq_yes rfl; clear ht
  have c0 := below_cell hb7 c0
  have c1 := below_cell hb7 c1
  have HB7 := hid hb7; clear hb7
  refine hK.out _ _ (by dsimp only [Obl]; exact ⟨by go_simp, by go_simp⟩) ?_
  clear hK K
  try simp only [Act.put, List.setIfInBounds_toArray, List.set_cons_zero, List.set_cons_succ]
  refine anyJ_take (some 50) (i := 14) (T := fun _ => True) (v := ?_) rfl rfl (by kernel_rfl) (by kernel_rfl) (by kernel_rfl) (fun _ _ _ h => h) (js := [1, 3, 13]) (by kernel_rfl) Leads.true rfl (Or.inl ⟨by rfl, ?_⟩) trivial ?_
  rotate_left
  · (intro wL hSw; (try dsimp only at hSw); go_simp; try with_reducible rfl)
  try simp only [Act.put, List.setIfInBounds_toArray, List.set_cons_zero, List.set_cons_succ]
  refine anyJ_take (some 6) (i := 15) (T := fun _ => True) (v := ?_) rfl rfl (by kernel_rfl) (by kernel_rfl) (by kernel_rfl) (fun _ _ _ h => h) (js := [1, 3, 13]) (by kernel_rfl) Leads.true rfl (Or.inl ⟨by rfl, ?_⟩) trivial ?_
  rotate_left
  · (intro wL hSw; (try dsimp only at hSw); go_simp; try with_reducible rfl)
  try simp only [Act.put, List.setIfInBounds_toArray, List.set_cons_zero, List.set_cons_succ]
  refine anyJ_done (by kernel_rfl) ?_
  go_wp2_with fail
  go_ret
  exact ⟨rfl, bthen (bthen (bthen (bthen HBW.out HB4.out) HB5.out) HB6.out) HB7.out⟩

set_option maxHeartbeats 400000 in
theorem values_big (n : Int) (ga : Option Addr) (gc : Nat) (G : List (Int × Int)) (iv : Value) (la : Option Addr) (lc : Nat) (L : List Int) (w : World)
    (h : 40 < G.length ∨ 40 < L.length) :
    Calls Try.prog 3 #[.agg #[.int .i64 n, .slice ga G.length gc], iv, .slice la L.length lc] w fun e w' => e = .returned (.bool true) ∧ Below w.heap.size w w' := by
  by_cases h1 : 40 < G.length
  · have g1 : (40 : Int) < (G.length : Int) := by omega
    clear h
    go_enter Try.func3, Try.ntmps3
    go_wp2_with (go_at_call 9; refine (awake_any _).mono ?_; rintro e w1 ⟨rfl, hb1⟩; have c0 := box_cell hb1 0 _ rfl; have c1 := box_cell hb1 1 _ rfl; have hbw := bthen (below_alloc w _) hb1; have HBW := hid hbw; have hz1 := lt_of_cell c0; dsimp only at hz1; clear hb1 hbw)
    go_ret
    exact ⟨rfl, HBW.out⟩
  · have g1 : decide ((40 : Int) < (G.length : Int)) = false := by simp; omega
    have g2 : (40 : Int) < (L.length : Int) := by omega
    clear h
    go_enter Try.func3, Try.ntmps3
    go_wp2_with (go_at_call 9; refine (awake_any _).mono ?_; rintro e w1 ⟨rfl, hb1⟩; have c0 := box_cell hb1 0 _ rfl; have c1 := box_cell hb1 1 _ rfl; have hbw := bthen (below_alloc w _) hb1; have HBW := hid hbw; have hz1 := lt_of_cell c0; dsimp only at hz1; clear hb1 hbw)
    go_ret
    exact ⟨rfl, HBW.out⟩

theorem evalF_length (I : List Bool) (G : List (Int × Int)) (L : List Int) : (evalF I G L).length = L.length := List.length_map _
theorem values_any (n : Int) (ga : Option Addr) (gc : Nat) (G : List (Int × Int)) (ia : Option Addr) (ic : Nat) (I : List Bool) (la : Option Addr) (lc : Nat) (L : List Int) (w : World)
    (hG : Row w ga (gcells G)) (hI : Row w ia (bools I)) (hic : ia = none → ic = 0) (hL : Row w la (ints L)) :
    Calls Try.prog 3 #[.agg #[.int .i64 n, .slice ga G.length gc], .slice ia I.length ic, .slice la L.length lc] w fun e w' => e = .returned (.bool true) ∧ Below w.heap.size w w' := by
  by_cases hb : 40 < G.length ∨ 40 < L.length
  · exact values_big n ga gc G _ la lc L w hb
  have hg : ¬ 40 < G.length := fun h => hb (Or.inl h)
  have hl : ¬ 40 < L.length := fun h => hb (Or.inr h)
  by_cases hE : EvalOk n G I.length L
  · exact values_core n ga gc G ia ic I la lc L w true (evalF I G L) 0 hG hI hL hg hl (by rw [evalF_length]; omega) (fun e h => h.eq_yes hE.1)
      (fun w' g i l => eval_yes n ga gc G ia ic I la lc L w' g (by omega) l i hic hE) (fun w' g i l => reval_yes n ga gc G ia ic I la lc L w' g (by omega) l i hE)
  · have k10 := fun (w' : World) (g : Row w' ga (gcells G)) (_ : Row w' ia (bools I)) (l : Row w' la (ints L)) => eval_no n ga gc G (.slice ia I.length ic) ia I.length ic la lc L w' g (by omega) (by omega) l rfl hE
    have k11 := fun (w' : World) (g : Row w' ga (gcells G)) (_ : Row w' ia (bools I)) (l : Row w' la (ints L)) => reval_no n ga gc G (.slice ia I.length ic) ia I.length ic la lc L w' g (by omega) (by omega) l rfl hE
    by_cases hV : Vld n G
    · exact values_core n ga gc G ia ic I la lc L w true [] 1 hG hI hL hg hl (by simp) (fun e h => h.eq_yes hV) k10 k11
    · exact values_core n ga gc G ia ic I la lc L w false [] 1 hG hI hL hg hl (by simp) (fun e h => h.eq_no hV) k10 k11
end Go.Proofs.Ytelbjendeldlcaa
