/- The walk of assessorlaw24.GatesParts: true, at every input. -/
import Derived.Test.YtelbjendeldlcaaAV
import Derived.Test.YtelbjendeldlcaaAP
import Derived.Test.YtelbjendeldlcaaK
namespace Go.Proofs.Ytelbjendeldlcaa
open Go.RowKit

def GivesC (w : World) (n : Int) (H : List (Int × Int)) (M : List Int) (er : Int) (e : Ending) (w' : World) : Prop :=
  ∃ A c B d, e = .returned (.tuple #[.agg #[.int .i64 n, .slice A H.length c], .slice B M.length d, .int .i64 er]) ∧ Row w' A (gcells H) ∧ Row w' B (ints M) ∧ Below w.heap.size w w'
theorem GivesCone.gen {w w' : World} {m : Nat} {H : List (Int × Int)} {M : List Int} {e : Ending} (h : GivesCone w m H M e w') : GivesC w m H M 0 e w' := h
theorem NoCone.gen {w w' : World} {e : Ending} (h : NoCone w e w') : GivesC w 0 [] [] 1 e w' := ⟨none, 0, none, 0, h.1, Row.nil, Row.nil, h.2⟩

set_option maxHeartbeats 2000000 in
theorem parts_core (n : Int) (ga : Option Addr) (gc : Nat) (G : List (Int × Int)) (la : Option Addr) (lc : Nat) (L : List Int) (w : World) (n' : Int) (H : List (Int × Int)) (M xs : List Int) (er : Int)
    (hG : Row w ga (gcells G)) (hL : Row w la (ints L)) (hgl : ¬ 40 < G.length) (hll : ¬ 40 < L.length) (hn : ¬ 60 < n) (hH : H.length ≤ 70000) (hM : M.length ≤ 70000) (hxs : xs.length ≤ 70000)
    (h29 : ∀ w', Row w' ga (gcells G) → Row w' la (ints L) → Calls Try.prog 29 #[.agg #[.int .i64 n, .slice ga G.length gc], .slice la L.length lc] w' (GivesC w' n' H M er))
    (h30 : ∀ w', Row w' ga (gcells G) → Row w' la (ints L) → Calls Try.prog 30 #[.agg #[.int .i64 n, .slice ga G.length gc], .slice la L.length lc] w' (GivesC w' n' H M er))
    (h32 : ∀ w', Row w' ga (gcells G) → Row w' la (ints L) → Calls Try.prog 32 #[.agg #[.int .i64 n, .slice ga G.length gc], .slice la L.length lc] w' (GivesInts w' xs))
    (h33 : ∀ w', Row w' ga (gcells G) → Row w' la (ints L) → Calls Try.prog 33 #[.agg #[.int .i64 n, .slice ga G.length gc], .slice la L.length lc] w' (GivesInts w' xs)) :
    Calls Try.prog 7 #[.agg #[.int .i64 n, .slice ga G.length gc], .slice la L.length lc] w fun e w' => e = .returned (.bool true) ∧ Below w.heap.size w w' := by
  have H29 := hid h29; have H30 := hid h30; have H32 := hid h32; have H33 := hid h33; clear h29 h30 h32 h33
  have g1 : decide ((40 : Int) < (G.length : Int)) = false := by simp; omega
  have g2 : decide ((40 : Int) < (L.length : Int)) = false := by simp; omega
  have g3 : decide ((60 : Int) < n) = false := by simp; omega
  go_enter Try.func7, Try.ntmps7
  go_wp2_with (first
    | (go_at_call 9; refine (awake_any _).mono ?_; rintro e w1 ⟨rfl, hb1⟩; have c0 := box_cell hb1 0 _ rfl; have c1 := box_cell hb1 1 _ rfl; have hbw := bthen (below_alloc w _) hb1; have HBW := hid hbw; have HG1 := hid (hG.below hbw); have HL1 := hid (hL.below hbw); have hz1 := lt_of_cell c0; dsimp only at hz1; clear hb1 hbw)
    | (go_at_call 29; refine (H29.out _ HG1.out HL1.out).mono ?_; rintro e w3 ⟨A1, e1, B1, k1, rfl, hr3, hm3, hb3⟩; have c0 := below_cell hb3 c0; have c1 := below_cell hb3 c1; have hz3 := lt_of_cell c0; dsimp only at hz3; have HB3 := hid hb3; have HH1 := hid (hr3.alloc (.cells #[.int .i64 n', .slice A1 H.length e1] 24)); have HM1 := hid (hm3.alloc (.cells #[.int .i64 n', .slice A1 H.length e1] 24)); have HG3 := hid ((HG1.out.below hb3).alloc (.cells #[.int .i64 n', .slice A1 H.length e1] 24)); have HL3 := hid ((HL1.out.below hb3).alloc (.cells #[.int .i64 n', .slice A1 H.length e1] 24)); clear hb3 hr3 hm3)
    | (go_at_call 30; refine (H30.out _ HG3.out HL3.out).mono ?_; rintro e w4 ⟨A2, e2, B2, k2, rfl, hr4, hm4, hb4⟩; have d0 := box_cell hb4 0 _ rfl; have d1 := box_cell hb4 1 _ rfl; have c0 := below_cell (bthen (below_alloc _ _) hb4) c0; have c1 := below_cell (bthen (below_alloc _ _) hb4) c1; have hz4 := lt_of_cell c0; have hz5 := lt_of_cell d0; dsimp only at hz4 hz5; have HB4 := hid (bthen (bthen HB3.out (below_alloc _ _)) hb4); have HH2 := hid (hr4.alloc (.cells #[.int .i64 n', .slice A2 H.length e2] 24)); have HM2 := hid (hm4.alloc (.cells #[.int .i64 n', .slice A2 H.length e2] 24)); have HH1 := hid ((HH1.out.below hb4).alloc (.cells #[.int .i64 n', .slice A2 H.length e2] 24)); have HM1 := hid ((HM1.out.below hb4).alloc (.cells #[.int .i64 n', .slice A2 H.length e2] 24)); have HG4 := hid ((HG3.out.below hb4).alloc (.cells #[.int .i64 n', .slice A2 H.length e2] 24)); have HL4 := hid ((HL3.out.below hb4).alloc (.cells #[.int .i64 n', .slice A2 H.length e2] 24)); clear hb4 hr4 hm4))
  have c0 : (w4.alloc (.cells #[.int .i64 n', .slice A2 H.length e2] 24)).cell? ⟨w.heap.size, 0, none⟩ = some (.int .i64 n) := by go_simp
  have c1 : (w4.alloc (.cells #[.int .i64 n', .slice A2 H.length e2] 24)).cell? ⟨w.heap.size, 1, none⟩ = some (.slice ga G.length gc) := by go_simp
  have d0 : (w4.alloc (.cells #[.int .i64 n', .slice A2 H.length e2] 24)).cell? ⟨w3.heap.size, 0, none⟩ = some (.int .i64 n') := by go_simp
  have d1 : (w4.alloc (.cells #[.int .i64 n', .slice A2 H.length e2] 24)).cell? ⟨w3.heap.size, 1, none⟩ = some (.slice A1 H.length e1) := by go_simp
  have f0 : (w4.alloc (.cells #[.int .i64 n', .slice A2 H.length e2] 24)).cell? ⟨w4.heap.size, 0, none⟩ = some (.int .i64 n') := by go_simp
  have f1 : (w4.alloc (.cells #[.int .i64 n', .slice A2 H.length e2] 24)).cell? ⟨w4.heap.size, 1, none⟩ = some (.slice A2 H.length e2) := by go_simp
  have hb0 := bthen (bthen HBW.out HB4.out) (below_alloc w4 (.cells #[.int .i64 n', .slice A2 H.length e2] 24))
  obtain ⟨W, hW⟩ : ∃ W, W = w4.alloc (.cells #[.int .i64 n', .slice A2 H.length e2] 24) := ⟨_, rfl⟩
  obtain ⟨b5, hb5⟩ : ∃ b, b = w3.heap.size := ⟨_, rfl⟩
  obtain ⟨b8, hb8⟩ : ∃ b, b = w4.heap.size := ⟨_, rfl⟩
  rw [← hW] at c0 c1 d0 d1 f0 f1 HH1 HH2 HM1 HM2 HG4 HL4 hb0
  rw [← hb5] at d0 d1
  rw [← hb8] at f0 f1
  rw [← hW, ← hb5, ← hb8]
  have HB0 := hid hb0
  clear hb0 hW hb5 hb8
  refine wp_region_J (fun j => match j with | 6 => some (fun W => W.cell? ⟨w.heap.size, 0, none⟩ = some (.int .i64 n) ∧ W.cell? ⟨w.heap.size, 1, none⟩ = some (.slice ga G.length gc) ∧ W.cell? ⟨b5, 0, none⟩ = some (.int .i64 n') ∧ W.cell? ⟨b5, 1, none⟩ = some (.slice A1 H.length e1) ∧ W.cell? ⟨b8, 0, none⟩ = some (.int .i64 n') ∧ W.cell? ⟨b8, 1, none⟩ = some (.slice A2 H.length e2)) | 11 => some (fun W => W.cell? ⟨w.heap.size, 0, none⟩ = some (.int .i64 n) ∧ W.cell? ⟨w.heap.size, 1, none⟩ = some (.slice ga G.length gc) ∧ W.cell? ⟨b5, 0, none⟩ = some (.int .i64 n') ∧ W.cell? ⟨b5, 1, none⟩ = some (.slice A1 H.length e1) ∧ W.cell? ⟨b8, 0, none⟩ = some (.int .i64 n') ∧ W.cell? ⟨b8, 1, none⟩ = some (.slice A2 H.length e2)) | 16 => some (fun W => W.cell? ⟨w.heap.size, 0, none⟩ = some (.int .i64 n) ∧ W.cell? ⟨w.heap.size, 1, none⟩ = some (.slice ga G.length gc) ∧ W.cell? ⟨b5, 0, none⟩ = some (.int .i64 n') ∧ W.cell? ⟨b5, 1, none⟩ = some (.slice A1 H.length e1) ∧ W.cell? ⟨b8, 0, none⟩ = some (.int .i64 n') ∧ W.cell? ⟨b8, 1, none⟩ = some (.slice A2 H.length e2)) | 19 => some (fun W => W.cell? ⟨w.heap.size, 0, none⟩ = some (.int .i64 n) ∧ W.cell? ⟨w.heap.size, 1, none⟩ = some (.slice ga G.length gc) ∧ W.cell? ⟨b5, 0, none⟩ = some (.int .i64 n') ∧ W.cell? ⟨b5, 1, none⟩ = some (.slice A1 H.length e1) ∧ W.cell? ⟨b8, 0, none⟩ = some (.int .i64 n') ∧ W.cell? ⟨b8, 1, none⟩ = some (.slice A2 H.length e2)) | 20 => some (fun W => W.cell? ⟨w.heap.size, 0, none⟩ = some (.int .i64 n) ∧ W.cell? ⟨w.heap.size, 1, none⟩ = some (.slice ga G.length gc) ∧ W.cell? ⟨b5, 0, none⟩ = some (.int .i64 n') ∧ W.cell? ⟨b5, 1, none⟩ = some (.slice A1 H.length e1) ∧ W.cell? ⟨b8, 0, none⟩ = some (.int .i64 n') ∧ W.cell? ⟨b8, 1, none⟩ = some (.slice A2 H.length e2)) | _ => none) (by kernel_rfl) ?_
  refine anyJ_take (some 41) (i := 0) (T := fun _ => True) (v := ?_) rfl rfl (by kernel_rfl) (by kernel_rfl) (by kernel_rfl) (fun _ _ _ h => h) (js := []) (by kernel_rfl) Leads.true rfl (Or.inl ⟨by rfl, ?_⟩) trivial ?_
  rotate_left
  · (intro wL hSw; (try dsimp only at hSw); go_simp; try with_reducible rfl)
  try simp only [Act.put, List.setIfInBounds_toArray, List.set_cons_zero, List.set_cons_succ]
  refine anyJ_take (some 42) (i := 1) (T := fun _ => True) (v := ?_) rfl rfl (by kernel_rfl) (by kernel_rfl) (by kernel_rfl) (fun _ _ _ h => h) (js := []) (by kernel_rfl) Leads.true rfl (Or.inl ⟨by rfl, ?_⟩) trivial ?_
  rotate_left
  · (intro wL hSw; (try dsimp only at hSw); go_simp; try with_reducible rfl)
  try simp only [Act.put, List.setIfInBounds_toArray, List.set_cons_zero, List.set_cons_succ]
  refine anyJ_take (some 43) (i := 2) (T := fun _ => True) (v := ?_) rfl rfl (by kernel_rfl) (by kernel_rfl) (by kernel_rfl) (fun _ _ _ h => h) (js := []) (by kernel_rfl) Leads.true rfl (Or.inl ⟨by rfl, ?_⟩) trivial ?_
  rotate_left
  · (intro wL hSw; (try dsimp only at hSw); go_simp; try with_reducible rfl)
  try simp only [Act.put, List.setIfInBounds_toArray, List.set_cons_zero, List.set_cons_succ]
  refine anyJ_take (some 44) (i := 3) (T := fun _ => True) (v := ?_) rfl rfl (by kernel_rfl) (by kernel_rfl) (by kernel_rfl) (fun _ _ _ h => h) (js := []) (by kernel_rfl) Leads.true rfl (Or.inl ⟨by rfl, ?_⟩) trivial ?_
  rotate_left
  · (intro wL hSw; (try dsimp only at hSw); go_simp; try with_reducible rfl)
  try simp only [Act.put, List.setIfInBounds_toArray, List.set_cons_zero, List.set_cons_succ]
  refine anyJ_take (some 45) (i := 4) (T := fun W => W.cell? ⟨w.heap.size, 0, none⟩ = some (.int .i64 n) ∧ W.cell? ⟨w.heap.size, 1, none⟩ = some (.slice ga G.length gc) ∧ W.cell? ⟨b5, 0, none⟩ = some (.int .i64 n') ∧ W.cell? ⟨b5, 1, none⟩ = some (.slice A1 H.length e1) ∧ W.cell? ⟨b8, 0, none⟩ = some (.int .i64 n') ∧ W.cell? ⟨b8, 1, none⟩ = some (.slice A2 H.length e2)) (v := ?_) rfl rfl (by kernel_rfl) (by kernel_rfl) (by kernel_rfl) (fun _ _ _ h => h) (js := []) (by kernel_rfl) Leads.nil rfl (Or.inl ⟨by rfl, ?_⟩) (⟨by go_simp, by go_simp, by go_simp, by go_simp, by go_simp, by go_simp⟩) ?_
  rotate_left
  · (intro wL hSw; (try dsimp only at hSw); go_simp; try with_reducible rfl)
  try simp only [Act.put, List.setIfInBounds_toArray, List.set_cons_zero, List.set_cons_succ]
  refine anyJ_take (some 46) (i := 5) (T := fun W => W.cell? ⟨w.heap.size, 0, none⟩ = some (.int .i64 n) ∧ W.cell? ⟨w.heap.size, 1, none⟩ = some (.slice ga G.length gc) ∧ W.cell? ⟨b5, 0, none⟩ = some (.int .i64 n') ∧ W.cell? ⟨b5, 1, none⟩ = some (.slice A1 H.length e1) ∧ W.cell? ⟨b8, 0, none⟩ = some (.int .i64 n') ∧ W.cell? ⟨b8, 1, none⟩ = some (.slice A2 H.length e2)) (v := ?_) rfl rfl (by kernel_rfl) (by kernel_rfl) (by kernel_rfl) (fun _ _ _ h => h) (js := []) (by kernel_rfl) Leads.nil rfl (Or.inl ⟨by rfl, ?_⟩) (⟨by go_simp, by go_simp, by go_simp, by go_simp, by go_simp, by go_simp⟩) ?_
  rotate_left
  · (intro wL hSw; (try dsimp only at hSw); go_simp; try with_reducible rfl)
  try simp only [Act.put, List.setIfInBounds_toArray, List.set_cons_zero, List.set_cons_succ]
  refine anyJ_one (i := 6) (oi := { dst := some 47, op := Go.Op.call { callee := Go.Callee.value (Go.Operand.func 27), args := #[Go.Operand.tmp 45, Go.Operand.tmp 46], argTypes := #[24, 24] }, type := 4, pos := "law.go:84", after := #[{ on := 4, ground := Go.Ground.data }, { on := 5, ground := Go.Ground.data }, { on := 3, ground := Go.Ground.chain }, { on := 3, ground := Go.Ground.guard }], guard := some (3, true) }) rfl (by kernel_rfl) (by rfl) (fun K hK => ?_)
  go_simp
  refine (same_any n' n' A1 A2 e1 e2 H H _ (by omega) (by omega) (HH1.out.below (below_drew' _)) (HH2.out.below (below_drew' _))).mono ?_
  rintro e w5 ⟨ht, hb5⟩; obtain rfl := ht.eq_yes ⟨rfl, rfl⟩; clear ht
  have c0 := below_cell (bthen (below_drew' _) hb5) c0
  have c1 := below_cell (bthen (below_drew' _) hb5) c1
  have d0 := below_cell (bthen (below_drew' _) hb5) d0
  have d1 := below_cell (bthen (below_drew' _) hb5) d1
  have f0 := below_cell (bthen (below_drew' _) hb5) f0
  have f1 := below_cell (bthen (below_drew' _) hb5) f1
  have HM1 := hid (HM1.out.below (bthen (below_drew' _) hb5))
  have HM2 := hid (HM2.out.below (bthen (below_drew' _) hb5))
  have HG5 := hid (HG4.out.below (bthen (below_drew' _) hb5))
  have HL5 := hid (HL4.out.below (bthen (below_drew' _) hb5))
  have HB5 := hid (bthen (below_drew' _) hb5)
  clear hb5
  refine hK.out _ _ (by dsimp only [Obl]; exact ⟨c0, c1, d0, d1, f0, f1⟩) ?_
  clear hK K
  try simp only [Act.put, List.setIfInBounds_toArray, List.set_cons_zero, List.set_cons_succ]
  refine anyJ_take (some 48) (i := 7) (T := fun _ => True) (v := ?_) rfl rfl (by kernel_rfl) (by kernel_rfl) (by kernel_rfl) (fun _ _ _ h => h) (js := [6]) (by kernel_rfl) Leads.true rfl (Or.inl ⟨by rfl, ?_⟩) trivial ?_
  rotate_left
  · (intro wL hSw; (try dsimp only at hSw); go_simp; try with_reducible rfl)
  try simp only [Act.put, List.setIfInBounds_toArray, List.set_cons_zero, List.set_cons_succ]
  refine anyJ_take (some 49) (i := 8) (T := fun _ => True) (v := ?_) rfl rfl (by kernel_rfl) (by kernel_rfl) (by kernel_rfl) (fun _ _ _ h => h) (js := [6]) (by kernel_rfl) Leads.true rfl (Or.inl ⟨by rfl, ?_⟩) trivial ?_
  rotate_left
  · (intro wL hSw; (try dsimp only at hSw); go_simp; try with_reducible rfl)
  try simp only [Act.put, List.setIfInBounds_toArray, List.set_cons_zero, List.set_cons_succ]
  refine anyJ_take (some 50) (i := 9) (T := fun _ => True) (v := ?_) rfl rfl (by kernel_rfl) (by kernel_rfl) (by kernel_rfl) (fun _ _ _ h => h) (js := [6]) (by kernel_rfl) Leads.true rfl (Or.inl ⟨by rfl, ?_⟩) trivial ?_
  rotate_left
  · (intro wL hSw; (try dsimp only at hSw); go_simp; try with_reducible rfl)
  try simp only [Act.put, List.setIfInBounds_toArray, List.set_cons_zero, List.set_cons_succ]
  refine anyJ_take (some 51) (i := 10) (T := fun _ => True) (v := ?_) rfl rfl (by kernel_rfl) (by kernel_rfl) (by kernel_rfl) (fun _ _ _ h => h) (js := [6]) (by kernel_rfl) Leads.true rfl (Or.inl ⟨by rfl, ?_⟩) trivial ?_
  rotate_left
  · (intro wL hSw; (try dsimp only at hSw); go_simp; try with_reducible rfl)
  try simp only [Act.put, List.setIfInBounds_toArray, List.set_cons_zero, List.set_cons_succ]
  refine anyJ_one (i := 11) (oi := { dst := some 52, op := Go.Op.call { callee := Go.Callee.value (Go.Operand.func 31), args := #[Go.Operand.tmp 50, Go.Operand.tmp 51], argTypes := #[26, 26] }, type := 4, pos := "law.go:84", after := #[{ on := 9, ground := Go.Ground.data }, { on := 10, ground := Go.Ground.data }, { on := 8, ground := Go.Ground.chain }, { on := 8, ground := Go.Ground.guard }], guard := some (8, true) }) rfl (by kernel_rfl) (by rfl) (fun K hK => ?_)
  go_simp
  refine (rints_any B1 B2 k1 k2 M M _ (by omega) (by omega) HM1.out HM2.out).mono ?_
  rintro e w6 ⟨ht, hb6⟩; obtain rfl := ht.eq_yes rfl; clear ht
  have c0 := below_cell hb6 c0
  have c1 := below_cell hb6 c1
  have d0 := below_cell hb6 d0
  have d1 := below_cell hb6 d1
  have f0 := below_cell hb6 f0
  have f1 := below_cell hb6 f1
  have HG6 := hid (HG5.out.below hb6)
  have HL6 := hid (HL5.out.below hb6)
  have HB6 := hid hb6
  clear hb6
  refine hK.out _ _ (by dsimp only [Obl]; exact ⟨c0, c1, d0, d1, f0, f1⟩) ?_
  clear hK K
  try simp only [Act.put, List.setIfInBounds_toArray, List.set_cons_zero, List.set_cons_succ]
  refine anyJ_take (some 53) (i := 12) (T := fun _ => True) (v := ?_) rfl rfl (by kernel_rfl) (by kernel_rfl) (by kernel_rfl) (fun _ _ _ h => h) (js := [6, 11]) (by kernel_rfl) Leads.true rfl (Or.inl ⟨by rfl, ?_⟩) trivial ?_
  rotate_left
  · (intro wL hSw; (try dsimp only at hSw); go_simp; try with_reducible rfl)
  try simp only [Act.put, List.setIfInBounds_toArray, List.set_cons_zero, List.set_cons_succ]
  refine anyJ_take (some 54) (i := 13) (T := fun _ => True) (v := ?_) rfl rfl (by kernel_rfl) (by kernel_rfl) (by kernel_rfl) (fun _ _ _ h => h) (js := [6, 11]) (by kernel_rfl) Leads.true rfl (Or.inl ⟨by rfl, ?_⟩) trivial ?_
  rotate_left
  · (intro wL hSw; (try dsimp only at hSw); go_simp; try with_reducible rfl)
  try simp only [Act.put, List.setIfInBounds_toArray, List.set_cons_zero, List.set_cons_succ]
  refine anyJ_take (some 55) (i := 14) (T := fun W => W.cell? ⟨w.heap.size, 0, none⟩ = some (.int .i64 n) ∧ W.cell? ⟨w.heap.size, 1, none⟩ = some (.slice ga G.length gc) ∧ W.cell? ⟨b5, 0, none⟩ = some (.int .i64 n') ∧ W.cell? ⟨b5, 1, none⟩ = some (.slice A1 H.length e1) ∧ W.cell? ⟨b8, 0, none⟩ = some (.int .i64 n') ∧ W.cell? ⟨b8, 1, none⟩ = some (.slice A2 H.length e2)) (v := ?_) rfl rfl (by kernel_rfl) (by kernel_rfl) (by kernel_rfl) (fun _ _ _ h => h) (js := [6, 11]) (by kernel_rfl) (Leads.cons _ rfl (fun w h => h) (Leads.cons _ rfl (fun w h => h) Leads.nil)) rfl (Or.inl ⟨by rfl, ?_⟩) (⟨by go_simp, by go_simp, by go_simp, by go_simp, by go_simp, by go_simp⟩) ?_
  rotate_left
  · (intro wL hSw; (try dsimp only at hSw); go_simp; try with_reducible rfl)
  try simp only [Act.put, List.setIfInBounds_toArray, List.set_cons_zero, List.set_cons_succ]
  refine anyJ_take (some 56) (i := 15) (T := fun _ => True) (v := ?_) rfl rfl (by kernel_rfl) (by kernel_rfl) (by kernel_rfl) (fun _ _ _ h => h) (js := [6, 11]) (by kernel_rfl) Leads.true rfl (Or.inl ⟨by rfl, ?_⟩) trivial ?_
  rotate_left
  · (intro wL hSw; (try dsimp only at hSw); go_simp; try with_reducible rfl)
  try simp only [Act.put, List.setIfInBounds_toArray, List.set_cons_zero, List.set_cons_succ]
  refine anyJ_take (some 58) (i := 17) (T := fun W => W.cell? ⟨w.heap.size, 0, none⟩ = some (.int .i64 n) ∧ W.cell? ⟨w.heap.size, 1, none⟩ = some (.slice ga G.length gc) ∧ W.cell? ⟨b5, 0, none⟩ = some (.int .i64 n') ∧ W.cell? ⟨b5, 1, none⟩ = some (.slice A1 H.length e1) ∧ W.cell? ⟨b8, 0, none⟩ = some (.int .i64 n') ∧ W.cell? ⟨b8, 1, none⟩ = some (.slice A2 H.length e2)) (v := ?_) rfl rfl (by kernel_rfl) (by kernel_rfl) (by kernel_rfl) (fun _ _ _ h => h) (js := [6, 11, 16]) (by kernel_rfl) (Leads.cons _ rfl (fun w h => h) (Leads.cons _ rfl (fun w h => h) (Leads.cons _ rfl (fun w h => h) Leads.nil))) rfl (Or.inl ⟨by rfl, ?_⟩) (⟨by go_simp, by go_simp, by go_simp, by go_simp, by go_simp, by go_simp⟩) ?_
  rotate_left
  · (intro wL hSw; (try dsimp only at hSw); go_simp; try with_reducible rfl)
  try simp only [Act.put, List.setIfInBounds_toArray, List.set_cons_zero, List.set_cons_succ]
  refine anyJ_take (some 59) (i := 18) (T := fun _ => True) (v := ?_) rfl rfl (by kernel_rfl) (by kernel_rfl) (by kernel_rfl) (fun _ _ _ h => h) (js := [6, 11, 16]) (by kernel_rfl) Leads.true rfl (Or.inl ⟨by rfl, ?_⟩) trivial ?_
  rotate_left
  · (intro wL hSw; (try dsimp only at hSw); go_simp; try with_reducible rfl)
  try simp only [Act.put, List.setIfInBounds_toArray, List.set_cons_zero, List.set_cons_succ]
  refine anyJ_one (i := 16) (oi := { dst := some 57, op := Go.Op.call { callee := Go.Callee.value (Go.Operand.func 32), args := #[Go.Operand.tmp 55, Go.Operand.tmp 56], argTypes := #[24, 26] }, type := 26, pos := "law.go:84", after := #[{ on := 14, ground := Go.Ground.data }, { on := 15, ground := Go.Ground.data }, { on := 13, ground := Go.Ground.chain }, { on := 13, ground := Go.Ground.guard }], guard := some (13, true) }) rfl (by kernel_rfl) (by rfl) (fun K hK => ?_)
  go_simp
  refine ((H32.out _ HG6.out HL6.out)).mono ?_
  rintro e w7 ⟨A7, e7, rfl, hr7, hb7⟩; have HR7 := hid hr7; clear hr7
  have c0 := below_cell hb7 c0
  have c1 := below_cell hb7 c1
  have d0 := below_cell hb7 d0
  have d1 := below_cell hb7 d1
  have f0 := below_cell hb7 f0
  have f1 := below_cell hb7 f1
  have HG7 := hid (HG6.out.below hb7)
  have HL7 := hid (HL6.out.below hb7)
  have HB7 := hid hb7
  clear hb7
  refine hK.out _ _ (by dsimp only [Obl]; exact ⟨c0, c1, d0, d1, f0, f1⟩) ?_
  clear hK K
  try simp only [Act.put, List.setIfInBounds_toArray, List.set_cons_zero, List.set_cons_succ]
  refine anyJ_one (i := 19) (oi := { dst := some 60, op := Go.Op.call { callee := Go.Callee.value (Go.Operand.func 33), args := #[Go.Operand.tmp 58, Go.Operand.tmp 59], argTypes := #[24, 26] }, type := 26, pos := "law.go:84", after := #[{ on := 17, ground := Go.Ground.data }, { on := 18, ground := Go.Ground.data }, { on := 16, ground := Go.Ground.chain }, { on := 13, ground := Go.Ground.guard }], guard := some (13, true) }) rfl (by kernel_rfl) (by rfl) (fun K hK => ?_)
  go_simp
  refine ((H33.out _ HG7.out HL7.out)).mono ?_
  rintro e w8 ⟨A8, e8, rfl, hr8, hb8⟩; have HR8 := hid hr8; clear hr8
  have c0 := below_cell hb8 c0
  have c1 := below_cell hb8 c1
  have d0 := below_cell hb8 d0
  have d1 := below_cell hb8 d1
  have f0 := below_cell hb8 f0
  have f1 := below_cell hb8 f1
  have HR78 := hid (HR7.out.below hb8)
  have HB8 := hid hb8
  clear hb8
  refine hK.out _ _ (by dsimp only [Obl]; exact ⟨c0, c1, d0, d1, f0, f1⟩) ?_
  clear hK K
  try simp only [Act.put, List.setIfInBounds_toArray, List.set_cons_zero, List.set_cons_succ]
  refine anyJ_one (i := 20) (oi := { dst := some 61, op := Go.Op.call { callee := Go.Callee.value (Go.Operand.func 31), args := #[Go.Operand.tmp 57, Go.Operand.tmp 60], argTypes := #[26, 26] }, type := 4, pos := "law.go:84", after := #[{ on := 16, ground := Go.Ground.data }, { on := 19, ground := Go.Ground.data }, { on := 19, ground := Go.Ground.chain }, { on := 13, ground := Go.Ground.guard }], guard := some (13, true) }) rfl (by kernel_rfl) (by rfl) (fun K hK => ?_)
  go_simp
  refine (rints_any A7 A8 e7 e8 xs xs _ (by omega) (by omega) HR78.out HR8.out).mono ?_
  rintro e w9 ⟨ht, hb9⟩; obtain rfl := ht.eq_yes rfl; clear ht
  have c0 := below_cell hb9 c0
  have c1 := below_cell hb9 c1
  have d0 := below_cell hb9 d0
  have d1 := below_cell hb9 d1
  have f0 := below_cell hb9 f0
  have f1 := below_cell hb9 f1
  have HB9 := hid hb9
  clear hb9
  refine hK.out _ _ (by dsimp only [Obl]; exact ⟨c0, c1, d0, d1, f0, f1⟩) ?_
  clear hK K
  try simp only [Act.put, List.setIfInBounds_toArray, List.set_cons_zero, List.set_cons_succ]
  refine anyJ_take (some 62) (i := 21) (T := fun _ => True) (v := ?_) rfl rfl (by kernel_rfl) (by kernel_rfl) (by kernel_rfl) (fun _ _ _ h => h) (js := [6, 11, 16, 19, 20]) (by kernel_rfl) Leads.true rfl (Or.inl ⟨by rfl, ?_⟩) trivial ?_
  rotate_left
  · (intro wL hSw; (try dsimp only at hSw); go_simp; try with_reducible rfl)
  try simp only [Act.put, List.setIfInBounds_toArray, List.set_cons_zero, List.set_cons_succ]
  refine anyJ_take (some 4) (i := 22) (T := fun _ => True) (v := ?_) rfl rfl (by kernel_rfl) (by kernel_rfl) (by kernel_rfl) (fun _ _ _ h => h) (js := [6, 11, 16, 19, 20]) (by kernel_rfl) Leads.true rfl (Or.inl ⟨by rfl, ?_⟩) trivial ?_
  rotate_left
  · (intro wL hSw; (try dsimp only at hSw); go_simp; try with_reducible rfl)
  try simp only [Act.put, List.setIfInBounds_toArray, List.set_cons_zero, List.set_cons_succ]
  refine anyJ_done (by kernel_rfl) ?_
  go_wp2_with fail
  go_ret
  exact ⟨rfl, bthen (bthen (bthen (bthen (bthen HB0.out HB5.out) HB6.out) HB7.out) HB8.out) HB9.out⟩

set_option maxHeartbeats 400000 in
theorem parts_big (n : Int) (ga : Option Addr) (gl gc : Nat) (la : Option Addr) (ll lc : Nat) (w : World)
    (h : 40 < gl ∨ 40 < ll ∨ 60 < n) :
    Calls Try.prog 7 #[.agg #[.int .i64 n, .slice ga gl gc], .slice la ll lc] w fun e w' => e = .returned (.bool true) ∧ Below w.heap.size w w' := by
  by_cases h1 : 40 < gl
  · have g1 : (40 : Int) < (gl : Int) := by omega
    clear h
    go_enter Try.func7, Try.ntmps7
    go_wp2_with (go_at_call 9; refine (awake_any _).mono ?_; rintro e w1 ⟨rfl, hb1⟩; have c0 := box_cell hb1 0 _ rfl; have c1 := box_cell hb1 1 _ rfl; have hbw := bthen (below_alloc w _) hb1; have HBW := hid hbw; have hz1 := lt_of_cell c0; dsimp only at hz1; clear hb1 hbw)
    go_ret
    exact ⟨rfl, HBW.out⟩
  · have g1 : decide ((40 : Int) < (gl : Int)) = false := by simp; omega
    by_cases h2 : 40 < ll
    · have g2 : (40 : Int) < (ll : Int) := by omega
      clear h
      go_enter Try.func7, Try.ntmps7
      go_wp2_with (go_at_call 9; refine (awake_any _).mono ?_; rintro e w1 ⟨rfl, hb1⟩; have c0 := box_cell hb1 0 _ rfl; have c1 := box_cell hb1 1 _ rfl; have hbw := bthen (below_alloc w _) hb1; have HBW := hid hbw; have hz1 := lt_of_cell c0; dsimp only at hz1; clear hb1 hbw)
      go_ret
      exact ⟨rfl, HBW.out⟩
    · have g2 : decide ((40 : Int) < (ll : Int)) = false := by simp; omega
      have g3 : (60 : Int) < n := by omega
      clear h
      go_enter Try.func7, Try.ntmps7
      go_wp2_with (go_at_call 9; refine (awake_any _).mono ?_; rintro e w1 ⟨rfl, hb1⟩; have c0 := box_cell hb1 0 _ rfl; have c1 := box_cell hb1 1 _ rfl; have hbw := bthen (below_alloc w _) hb1; have HBW := hid hbw; have hz1 := lt_of_cell c0; dsimp only at hz1; clear hb1 hbw)
      go_ret
      exact ⟨rfl, HBW.out⟩

theorem parts_any (n : Int) (ga : Option Addr) (gc : Nat) (G : List (Int × Int)) (la : Option Addr) (lc : Nat) (L : List Int) (w : World)
    (hG : Row w ga (gcells G)) (hL : Row w la (ints L)) :
    Calls Try.prog 7 #[.agg #[.int .i64 n, .slice ga G.length gc], .slice la L.length lc] w fun e w' => e = .returned (.bool true) ∧ Below w.heap.size w w' := by
  by_cases hb : 40 < G.length ∨ 40 < L.length ∨ 60 < n
  · exact parts_big n ga _ gc la _ lc w hb
  have hg : ¬ 40 < G.length := fun h => hb (Or.inl h)
  have hl : ¬ 40 < L.length := fun h => hb (Or.inr (Or.inl h))
  have hn : ¬ 60 < n := fun h => hb (Or.inr (Or.inr h))
  by_cases hE : Vld n G ∧ LitOk (litN n G.length) L
  · obtain ⟨m, rfl⟩ := Int.eq_ofNat_of_zero_le hE.1.lo
    obtain ⟨hV, hK⟩ := hE
    have hN := needF_need m G L (fun i hi => by have := hV.ops i hi; omega)
    have hK2 : LitOk (2 * (1 + m + G.length)) L := by have := hK; rwa [litN_plain hV.lo hV.size] at this
    have e1 := cone_same (fun k => (k : Int)) (fun _ => 0) m G L _ hV hN (1 + m + G.length) (Nat.le_refl _)
    have e2 := lits_same (fun k => (k : Int)) (fun _ => 0) m G L _ hN hK2
    refine parts_core m ga gc G la lc L w m (coneG (mv (fun _ => 0) m (needF m G L)) m G (needF m G L) (1 + m + G.length)) (L.map (mvL (mv (fun _ => 0) m (needF m G L)))) (supL (needF m G L) m) 0 hG hL hg hl hn
      (Nat.le_trans (cone_len _) (by omega)) (by rw [List.length_map]; omega) (Nat.le_trans (supL_length _ _) (by have := hV.hi; omega)) ?_ ?_ ?_ ?_
    · exact fun w' g l => (cone_yes m ga gc G la lc L w' g (by omega) l hV hK).mono fun e w' h => h.gen
    · intro w' g l
      have := rcone_yes m ga gc G la lc L w' g (by omega) l hV hK
      rw [e1, e2] at this
      exact this.mono fun e w' h => h.gen
    · exact fun w' g l => support_yes m ga gc G la lc L w' g (by omega) l hV hK
    · exact fun w' g l => rsupport_yes m ga gc G la lc L w' g (by omega) l hV hK
  · refine parts_core n ga gc G la lc L w 0 [] [] [] 1 hG hL hg hl hn (by simp) (by simp) (by simp) ?_ ?_ ?_ ?_
    · exact fun w' g l => (cone_no n ga gc G la lc L w' g (by omega) (by omega) l hE).mono fun e w' h => h.gen
    · exact fun w' g l => (rcone_no n ga gc G la lc L w' g (by omega) (by omega) l hE).mono fun e w' h => h.gen
    · exact fun w' g l => support_no n ga gc G la lc L w' g (by omega) (by omega) l hE
    · exact fun w' g l => rsupport_no n ga gc G la lc L w' g (by omega) (by omega) l hE
end Go.Proofs.Ytelbjendeldlcaa
