/- ref Reach, Dominates, Postdominates. -/
import Derived.Test.YtjddegfigdpcbaaAK
import Derived.Test.YtjddegfigdpcbaaAB
namespace Go.Proofs.Ytjddegfigdpcbaa
open Go.RowKit

theorem rreach_any (pa : Option Addr) (pc : Nat) (F : List (List Int)) (z : Int) (frm : Nat) (wo : Int) (w : World) (hz : z = (frm : Int)) (hF : FRow w pa F) (hV : VldF F) (hsm : ∀ i, i < F.length → (F.getD i []).length ≤ 900) (hfr : frm < F.length) :
    Calls Try.prog 48 #[.agg #[.slice pa F.length pc], .int .i64 z, .int .i64 wo] w (GivesMarks w (reachB F wo [(frm : Int)])) := by
  subst hz
  go_enter Try.func48, Try.ntmps48
  go_wp2_with (go_at_call 59; refine (rreach17_any pa pc F frm wo _ (hF.below (below_alloc _ _)) hV.ok hV.hi (fun i hi => Nat.le_trans (hsm i hi) (by omega)) hfr).mono ?_; rintro e w1 ⟨rb, rfl, hm, hle, hb⟩)
  go_ret
  exact ⟨rb, rfl, hm, by have := (below_alloc w (.cells #[.slice pa F.length pc] 24)).size; omega, bthen (below_alloc _ _) hb⟩
theorem reachB_self {G : List (List Int)} (hG : GrOk G) (a : Nat) (L : List Int) (ha : a < G.length) : (reachB G (a : Int) L).getD a false = false := by
  cases h : (reachB G (a : Int) L).getD a false with
  | false => rfl
  | true => exact absurd rfl ((reachB_iff hG _ L a ha).1 h).ne
theorem domP_nat {G : List (List Int)} {root a b : Nat} (ha : a < G.length) (hb : b < G.length) : domP G root a b ↔ domB G root a b = true :=
  ⟨fun h => h.2.2.2.2, fun h => ⟨by omega, by omega, by omega, by omega, h⟩⟩
theorem rdom_law {F : List (List Int)} (hV : VldF F) {a b : Nat} (ha : a < F.length) (hb : b < F.length) :
    (domP F 0 a b ↔ ((reachB F (-1) [((0 : Nat) : Int)]).getD b false && !(reachB F (a : Int) [((0 : Nat) : Int)]).getD b false) = true) ∧ (a = b → (reachB F (a : Int) [((0 : Nat) : Int)]).getD b false = false) :=
  ⟨domP_nat ha hb, fun e => by subst e; exact reachB_self hV.ok a _ ha⟩
theorem turnB {F : List (List Int)} (hV : VldF F) (wo : Int) {b : Nat} (hb : b < F.length) : (reachB F wo [(b : Int)]).getD 1 false = (reachB (revF F) wo [((1 : Nat) : Int)]).getD b false := by
  have hr := revF_rev hV
  have h2 := hV.lo
  rw [Bool.eq_iff_iff, reachB_iff hV.ok _ _ 1 (by omega), reachB_iff hr.ok _ _ b (by rw [hr.len]; exact hb)]
  constructor
  · intro h
    refine Rch.turn (fun i j hi hj => ?_) h
    have hjl := (edge_lt hV hi hj).2
    have hjn : j < F.length := by omega
    exact ⟨by rw [hr.len]; exact hjn, (revF_mem F j hjn _).2 ⟨i, rfl, hi, hj⟩⟩
  · intro h
    refine Rch.turn (fun i j hi hj => ?_) h
    rw [hr.len] at hi
    obtain ⟨k, hk, hkn, hki⟩ := (revF_mem F i hi _).1 hj
    have : j = k := by omega
    subst this
    exact ⟨hkn, hki⟩
theorem rpost_law {F : List (List Int)} (hV : VldF F) {a b : Nat} (ha : a < F.length) (hb : b < F.length) :
    (domP (revF F) 1 a b ↔ ((reachB F (-1) [(b : Int)]).getD 1 false && !(reachB F (a : Int) [(b : Int)]).getD 1 false) = true) ∧ (a = b → (reachB F (a : Int) [(b : Int)]).getD 1 false = false) := by
  have hr := revF_rev hV
  rw [turnB hV _ hb, turnB hV _ hb]
  exact ⟨domP_nat (by rw [hr.len]; exact ha) (by rw [hr.len]; exact hb), fun e => by subst e; exact reachB_self hr.ok a _ (by rw [hr.len]; exact ha)⟩
theorem post_iff {F : List (List Int)} (hV : VldF F) (a b : Int) : (∃ B, IsRev F B ∧ domP B 1 a b) ↔ domP (revF F) 1 a b := by
  have hr := revF_rev hV
  refine ⟨fun ⟨B', hr', h⟩ => ?_, fun h => ⟨_, hr, h⟩⟩
  exact (domP_congr (hr'.len.trans hr.len.symm) hr'.ok hr.ok (fun i hi x => (hr'.mem i (by rw [← hr'.len]; exact hi) x).trans (hr.mem i (by rw [← hr'.len]; exact hi) x).symm) a b).1 h
theorem isPt_a {F : List (List Int)} {r : Nat} {a b : Int} (h : domP F r a b) : IsPt F a := ⟨h.1, h.2.2.1⟩
theorem isPt_b {F : List (List Int)} {r : Nat} {a b : Int} (h : domP F r a b) : IsPt F b := ⟨h.2.1, h.2.2.2.1⟩
theorem isPt_a' {F : List (List Int)} {r : Nat} {a b : Int} (h : domP (revF F) r a b) : IsPt F a := ⟨h.1, by have := h.2.2.1; rw [revF_len] at this; exact this⟩
theorem isPt_b' {F : List (List Int)} {r : Nat} {a b : Int} (h : domP (revF F) r a b) : IsPt F b := ⟨h.2.1, by have := h.2.2.2.1; rw [revF_len] at this; exact this⟩
set_option maxHeartbeats 4000000 in
set_option maxRecDepth 100000 in
theorem rDominates_any (pa : Option Addr) (pc : Nat) (F : List (List Int)) (a b : Int) (w : World) (hF : FRow w pa F) (hsm : ∀ i, i < F.length → (F.getD i []).length ≤ 900) :
    Calls Try.prog 21 #[.agg #[.slice pa F.length pc], .int .i64 a, .int .i64 b] w fun e w' => Tells (VldF F ∧ domP F 0 a b) e ∧ Below w.heap.size w w' := by
  have c0 : (w.alloc (.cells #[.slice pa F.length pc] 24)).cell? ⟨w.heap.size, 0, none⟩ = some (.slice pa F.length pc) := by go_simp
  have HF := hid (hF.below (below_alloc w (.cells #[.slice pa F.length pc] 24)))
  have HBW := hid (below_alloc w (.cells #[.slice pa F.length pc] 24))
  clear hF
  by_cases hV : VldF F
  · have hlo := hV.lo
    have HV := hid hV; clear hV
    by_cases hA : IsPt F a
    · by_cases hB : IsPt F b
      · have HA := hid hA; have HB := hid hB
        obtain ⟨a0, a1⟩ := hA; obtain ⟨b0, b1⟩ := hB
        obtain ⟨a, rfl⟩ := Int.eq_ofNat_of_zero_le a0
        obtain ⟨b, rfl⟩ := Int.eq_ofNat_of_zero_le b0
        have han : a < F.length := by omega
        have hbn : b < F.length := by omega
        have HZ := hid (show (0 : Int) = ((0 : Nat) : Int) from rfl)
        have h0n : 0 < F.length := by omega
        have hL := rdom_law HV.out han hbn
        obtain ⟨x1, hx1⟩ : ∃ x, x = (reachB F (-1) [((0 : Nat) : Int)]).getD b false := ⟨_, rfl⟩
        obtain ⟨x2, hx2⟩ : ∃ x, x = (reachB F (a : Int) [((0 : Nat) : Int)]).getD b false := ⟨_, rfl⟩
        rw [← hx1, ← hx2] at hL
        have HX1 := hid hx1; have HX2 := hid hx2; have HL := hid hL
        clear hx1 hx2 hL
        cases x1
        · go_enter Try.func21, Try.ntmps21
          go_wp2_with (first | (go_at_call 14; refine (rvalid_any pa pc F _ HF.out (fun i hi => Nat.le_trans (hsm i hi) (by omega))).mono ?_; rintro e w1 ⟨ht, hb1⟩; obtain rfl := ht.eq_yes HV.out; replace c0 := below_cell hb1 c0; replace HF := hid (HF.out.below hb1); replace HBW := hid (bthen HBW.out hb1); clear ht hb1) | (go_at_call 47; (with_reducible refine (isPoint_any pa pc F (a : Int) _).mono ?_); rintro e w2 ⟨ht, hb2⟩; obtain rfl := ht.eq_yes HA.out; replace c0 := below_cell hb2 c0; replace HF := hid (HF.out.below hb2); replace HBW := hid (bthen HBW.out hb2); clear ht hb2) | (go_at_call 47; (with_reducible refine (isPoint_any pa pc F (b : Int) _).mono ?_); rintro e w2 ⟨ht, hb2⟩; obtain rfl := ht.eq_yes HB.out; replace c0 := below_cell hb2 c0; replace HF := hid (HF.out.below hb2); replace HBW := hid (bthen HBW.out hb2); clear ht hb2) | (go_at_call 48; (with_reducible refine (rreach_any pa pc F 0 0 (-1) _ HZ.out HF.out HV.out hsm h0n).mono ?_); rintro e w3 ⟨rb, rfl, hm, hle, hb3⟩; rw [reachB_length]; have cb := hm.cell b (by rw [reachB_length]; omega); rw [← HX1.out] at cb; replace c0 := below_cell hb3 c0; replace HF := hid (HF.out.below hb3); replace HBW := hid (bthen HBW.out hb3); clear hm hle hb3))
          go_ret
          exact ⟨.no fun h => by have := HL.out.1.1 h.2; simp at this, HBW.out⟩
        · by_cases hab : a = b
          · have q1 : ((a : Int) == (b : Int)) = true := by simp [hab]
            have HAB := hid hab; clear hab
            go_enter Try.func21, Try.ntmps21
            go_wp2_with (first | (go_at_call 14; refine (rvalid_any pa pc F _ HF.out (fun i hi => Nat.le_trans (hsm i hi) (by omega))).mono ?_; rintro e w1 ⟨ht, hb1⟩; obtain rfl := ht.eq_yes HV.out; replace c0 := below_cell hb1 c0; replace HF := hid (HF.out.below hb1); replace HBW := hid (bthen HBW.out hb1); clear ht hb1) | (go_at_call 47; (with_reducible refine (isPoint_any pa pc F (a : Int) _).mono ?_); rintro e w2 ⟨ht, hb2⟩; obtain rfl := ht.eq_yes HA.out; replace c0 := below_cell hb2 c0; replace HF := hid (HF.out.below hb2); replace HBW := hid (bthen HBW.out hb2); clear ht hb2) | (go_at_call 47; (with_reducible refine (isPoint_any pa pc F (b : Int) _).mono ?_); rintro e w2 ⟨ht, hb2⟩; obtain rfl := ht.eq_yes HB.out; replace c0 := below_cell hb2 c0; replace HF := hid (HF.out.below hb2); replace HBW := hid (bthen HBW.out hb2); clear ht hb2) | (go_at_call 48; (with_reducible refine (rreach_any pa pc F 0 0 (-1) _ HZ.out HF.out HV.out hsm h0n).mono ?_); rintro e w3 ⟨rb, rfl, hm, hle, hb3⟩; rw [reachB_length]; have cb := hm.cell b (by rw [reachB_length]; omega); rw [← HX1.out] at cb; replace c0 := below_cell hb3 c0; replace HF := hid (HF.out.below hb3); replace HBW := hid (bthen HBW.out hb3); clear hm hle hb3))
            go_ret
            exact ⟨.yes ⟨HV.out, HL.out.1.2 (by rw [HL.out.2 HAB.out]; rfl)⟩, HBW.out⟩
          · have q1 : ((a : Int) == (b : Int)) = false := by simp; omega
            clear hab
            cases x2
            · go_enter Try.func21, Try.ntmps21
              go_wp2_with (first | (go_at_call 14; refine (rvalid_any pa pc F _ HF.out (fun i hi => Nat.le_trans (hsm i hi) (by omega))).mono ?_; rintro e w1 ⟨ht, hb1⟩; obtain rfl := ht.eq_yes HV.out; replace c0 := below_cell hb1 c0; replace HF := hid (HF.out.below hb1); replace HBW := hid (bthen HBW.out hb1); clear ht hb1) | (go_at_call 47; (with_reducible refine (isPoint_any pa pc F (a : Int) _).mono ?_); rintro e w2 ⟨ht, hb2⟩; obtain rfl := ht.eq_yes HA.out; replace c0 := below_cell hb2 c0; replace HF := hid (HF.out.below hb2); replace HBW := hid (bthen HBW.out hb2); clear ht hb2) | (go_at_call 47; (with_reducible refine (isPoint_any pa pc F (b : Int) _).mono ?_); rintro e w2 ⟨ht, hb2⟩; obtain rfl := ht.eq_yes HB.out; replace c0 := below_cell hb2 c0; replace HF := hid (HF.out.below hb2); replace HBW := hid (bthen HBW.out hb2); clear ht hb2) | (go_at_call 48; (with_reducible refine (rreach_any pa pc F 0 0 (-1) _ HZ.out HF.out HV.out hsm h0n).mono ?_); rintro e w3 ⟨rb, rfl, hm, hle, hb3⟩; rw [reachB_length]; have cb := hm.cell b (by rw [reachB_length]; omega); rw [← HX1.out] at cb; replace c0 := below_cell hb3 c0; replace HF := hid (HF.out.below hb3); replace HBW := hid (bthen HBW.out hb3); clear hm hle hb3) | (go_at_call 48; (with_reducible refine (rreach_any pa pc F 0 0 a _ HZ.out HF.out HV.out hsm h0n).mono ?_); rintro e w3 ⟨rb, rfl, hm, hle, hb3⟩; rw [reachB_length]; have cb := hm.cell b (by rw [reachB_length]; omega); rw [← HX2.out] at cb; replace c0 := below_cell hb3 c0; replace HF := hid (HF.out.below hb3); replace HBW := hid (bthen HBW.out hb3); clear hm hle hb3))
              go_ret
              exact ⟨.yes ⟨HV.out, HL.out.1.2 rfl⟩, HBW.out⟩
            · go_enter Try.func21, Try.ntmps21
              go_wp2_with (first | (go_at_call 14; refine (rvalid_any pa pc F _ HF.out (fun i hi => Nat.le_trans (hsm i hi) (by omega))).mono ?_; rintro e w1 ⟨ht, hb1⟩; obtain rfl := ht.eq_yes HV.out; replace c0 := below_cell hb1 c0; replace HF := hid (HF.out.below hb1); replace HBW := hid (bthen HBW.out hb1); clear ht hb1) | (go_at_call 47; (with_reducible refine (isPoint_any pa pc F (a : Int) _).mono ?_); rintro e w2 ⟨ht, hb2⟩; obtain rfl := ht.eq_yes HA.out; replace c0 := below_cell hb2 c0; replace HF := hid (HF.out.below hb2); replace HBW := hid (bthen HBW.out hb2); clear ht hb2) | (go_at_call 47; (with_reducible refine (isPoint_any pa pc F (b : Int) _).mono ?_); rintro e w2 ⟨ht, hb2⟩; obtain rfl := ht.eq_yes HB.out; replace c0 := below_cell hb2 c0; replace HF := hid (HF.out.below hb2); replace HBW := hid (bthen HBW.out hb2); clear ht hb2) | (go_at_call 48; (with_reducible refine (rreach_any pa pc F 0 0 (-1) _ HZ.out HF.out HV.out hsm h0n).mono ?_); rintro e w3 ⟨rb, rfl, hm, hle, hb3⟩; rw [reachB_length]; have cb := hm.cell b (by rw [reachB_length]; omega); rw [← HX1.out] at cb; replace c0 := below_cell hb3 c0; replace HF := hid (HF.out.below hb3); replace HBW := hid (bthen HBW.out hb3); clear hm hle hb3) | (go_at_call 48; (with_reducible refine (rreach_any pa pc F 0 0 a _ HZ.out HF.out HV.out hsm h0n).mono ?_); rintro e w3 ⟨rb, rfl, hm, hle, hb3⟩; rw [reachB_length]; have cb := hm.cell b (by rw [reachB_length]; omega); rw [← HX2.out] at cb; replace c0 := below_cell hb3 c0; replace HF := hid (HF.out.below hb3); replace HBW := hid (bthen HBW.out hb3); clear hm hle hb3))
              go_ret
              exact ⟨.no fun h => by have := HL.out.1.1 h.2; simp at this, HBW.out⟩
      · have HA := hid hA; have HB := hid hB
        clear hA hB
        go_enter Try.func21, Try.ntmps21
        go_wp2_with (first | (go_at_call 14; refine (rvalid_any pa pc F _ HF.out (fun i hi => Nat.le_trans (hsm i hi) (by omega))).mono ?_; rintro e w1 ⟨ht, hb1⟩; obtain rfl := ht.eq_yes HV.out; replace c0 := below_cell hb1 c0; replace HF := hid (HF.out.below hb1); replace HBW := hid (bthen HBW.out hb1); clear ht hb1) | (go_at_call 47; (with_reducible refine (isPoint_any pa pc F a _).mono ?_); rintro e w2 ⟨ht, hb2⟩; obtain rfl := ht.eq_yes HA.out; replace c0 := below_cell hb2 c0; replace HF := hid (HF.out.below hb2); replace HBW := hid (bthen HBW.out hb2); clear ht hb2) | (go_at_call 47; (with_reducible refine (isPoint_any pa pc F b _).mono ?_); rintro e w2 ⟨ht, hb2⟩; obtain rfl := ht.eq_no HB.out; replace c0 := below_cell hb2 c0; replace HF := hid (HF.out.below hb2); replace HBW := hid (bthen HBW.out hb2); clear ht hb2))
        go_ret
        exact ⟨.no fun h => HB.out (isPt_b h.2), HBW.out⟩
    · have HA := hid hA; clear hA
      go_enter Try.func21, Try.ntmps21
      go_wp2_with (first | (go_at_call 14; refine (rvalid_any pa pc F _ HF.out (fun i hi => Nat.le_trans (hsm i hi) (by omega))).mono ?_; rintro e w1 ⟨ht, hb1⟩; obtain rfl := ht.eq_yes HV.out; replace c0 := below_cell hb1 c0; replace HF := hid (HF.out.below hb1); replace HBW := hid (bthen HBW.out hb1); clear ht hb1) | (go_at_call 47; (with_reducible refine (isPoint_any pa pc F a _).mono ?_); rintro e w2 ⟨ht, hb2⟩; obtain rfl := ht.eq_no HA.out; replace c0 := below_cell hb2 c0; replace HF := hid (HF.out.below hb2); replace HBW := hid (bthen HBW.out hb2); clear ht hb2))
      go_ret
      exact ⟨.no fun h => HA.out (isPt_a h.2), HBW.out⟩
  · have HV := hid hV; clear hV
    go_enter Try.func21, Try.ntmps21
    go_wp2_with (first | (go_at_call 14; refine (rvalid_any pa pc F _ HF.out (fun i hi => Nat.le_trans (hsm i hi) (by omega))).mono ?_; rintro e w1 ⟨ht, hb1⟩; obtain rfl := ht.eq_no HV.out; replace c0 := below_cell hb1 c0; replace HF := hid (HF.out.below hb1); replace HBW := hid (bthen HBW.out hb1); clear ht hb1))
    go_ret
    exact ⟨.no fun h => HV.out h.1, HBW.out⟩
set_option maxHeartbeats 4000000 in
set_option maxRecDepth 100000 in
theorem rPostdominates_any (pa : Option Addr) (pc : Nat) (F : List (List Int)) (a b : Int) (w : World) (hF : FRow w pa F) (hsm : ∀ i, i < F.length → (F.getD i []).length ≤ 900) :
    Calls Try.prog 23 #[.agg #[.slice pa F.length pc], .int .i64 a, .int .i64 b] w fun e w' => Tells (VldF F ∧ domP (revF F) 1 a b) e ∧ Below w.heap.size w w' := by
  have c0 : (w.alloc (.cells #[.slice pa F.length pc] 24)).cell? ⟨w.heap.size, 0, none⟩ = some (.slice pa F.length pc) := by go_simp
  have HF := hid (hF.below (below_alloc w (.cells #[.slice pa F.length pc] 24)))
  have HBW := hid (below_alloc w (.cells #[.slice pa F.length pc] 24))
  clear hF
  by_cases hV : VldF F
  · have hlo := hV.lo
    have HV := hid hV; clear hV
    by_cases hA : IsPt F a
    · by_cases hB : IsPt F b
      · have HA := hid hA; have HB := hid hB
        obtain ⟨a0, a1⟩ := hA; obtain ⟨b0, b1⟩ := hB
        obtain ⟨a, rfl⟩ := Int.eq_ofNat_of_zero_le a0
        obtain ⟨b, rfl⟩ := Int.eq_ofNat_of_zero_le b0
        have han : a < F.length := by omega
        have hbn : b < F.length := by omega
        have HZ := hid (show (0 : Int) = ((0 : Nat) : Int) from rfl)
        have h0n : 0 < F.length := by omega
        have j1 : (1 : Int) < (F.length : Int) := by omega
        have hL := rpost_law HV.out han hbn
        obtain ⟨x1, hx1⟩ : ∃ x, x = (reachB F (-1) [(b : Int)]).getD 1 false := ⟨_, rfl⟩
        obtain ⟨x2, hx2⟩ : ∃ x, x = (reachB F (a : Int) [(b : Int)]).getD 1 false := ⟨_, rfl⟩
        rw [← hx1, ← hx2] at hL
        have HX1 := hid hx1; have HX2 := hid hx2; have HL := hid hL
        clear hx1 hx2 hL
        cases x1
        · go_enter Try.func23, Try.ntmps23
          go_wp2_with (first | (go_at_call 14; refine (rvalid_any pa pc F _ HF.out (fun i hi => Nat.le_trans (hsm i hi) (by omega))).mono ?_; rintro e w1 ⟨ht, hb1⟩; obtain rfl := ht.eq_yes HV.out; replace c0 := below_cell hb1 c0; replace HF := hid (HF.out.below hb1); replace HBW := hid (bthen HBW.out hb1); clear ht hb1) | (go_at_call 47; (with_reducible refine (isPoint_any pa pc F (a : Int) _).mono ?_); rintro e w2 ⟨ht, hb2⟩; obtain rfl := ht.eq_yes HA.out; replace c0 := below_cell hb2 c0; replace HF := hid (HF.out.below hb2); replace HBW := hid (bthen HBW.out hb2); clear ht hb2) | (go_at_call 47; (with_reducible refine (isPoint_any pa pc F (b : Int) _).mono ?_); rintro e w2 ⟨ht, hb2⟩; obtain rfl := ht.eq_yes HB.out; replace c0 := below_cell hb2 c0; replace HF := hid (HF.out.below hb2); replace HBW := hid (bthen HBW.out hb2); clear ht hb2) | (go_at_call 48; (with_reducible refine (rreach_any pa pc F b b (-1) _ rfl HF.out HV.out hsm hbn).mono ?_); rintro e w3 ⟨rb, rfl, hm, hle, hb3⟩; rw [reachB_length]; have cb := hm.cell 1 (by rw [reachB_length]; omega); rw [← HX1.out] at cb; replace c0 := below_cell hb3 c0; replace HF := hid (HF.out.below hb3); replace HBW := hid (bthen HBW.out hb3); clear hm hle hb3))
          go_ret
          exact ⟨.no fun h => by have := HL.out.1.1 h.2; simp at this, HBW.out⟩
        · by_cases hab : a = b
          · have q1 : ((a : Int) == (b : Int)) = true := by simp [hab]
            have HAB := hid hab; clear hab
            go_enter Try.func23, Try.ntmps23
            go_wp2_with (first | (go_at_call 14; refine (rvalid_any pa pc F _ HF.out (fun i hi => Nat.le_trans (hsm i hi) (by omega))).mono ?_; rintro e w1 ⟨ht, hb1⟩; obtain rfl := ht.eq_yes HV.out; replace c0 := below_cell hb1 c0; replace HF := hid (HF.out.below hb1); replace HBW := hid (bthen HBW.out hb1); clear ht hb1) | (go_at_call 47; (with_reducible refine (isPoint_any pa pc F (a : Int) _).mono ?_); rintro e w2 ⟨ht, hb2⟩; obtain rfl := ht.eq_yes HA.out; replace c0 := below_cell hb2 c0; replace HF := hid (HF.out.below hb2); replace HBW := hid (bthen HBW.out hb2); clear ht hb2) | (go_at_call 47; (with_reducible refine (isPoint_any pa pc F (b : Int) _).mono ?_); rintro e w2 ⟨ht, hb2⟩; obtain rfl := ht.eq_yes HB.out; replace c0 := below_cell hb2 c0; replace HF := hid (HF.out.below hb2); replace HBW := hid (bthen HBW.out hb2); clear ht hb2) | (go_at_call 48; (with_reducible refine (rreach_any pa pc F b b (-1) _ rfl HF.out HV.out hsm hbn).mono ?_); rintro e w3 ⟨rb, rfl, hm, hle, hb3⟩; rw [reachB_length]; have cb := hm.cell 1 (by rw [reachB_length]; omega); rw [← HX1.out] at cb; replace c0 := below_cell hb3 c0; replace HF := hid (HF.out.below hb3); replace HBW := hid (bthen HBW.out hb3); clear hm hle hb3))
            go_ret
            exact ⟨.yes ⟨HV.out, HL.out.1.2 (by rw [HL.out.2 HAB.out]; rfl)⟩, HBW.out⟩
          · have q1 : ((a : Int) == (b : Int)) = false := by simp; omega
            clear hab
            cases x2
            · go_enter Try.func23, Try.ntmps23
              go_wp2_with (first | (go_at_call 14; refine (rvalid_any pa pc F _ HF.out (fun i hi => Nat.le_trans (hsm i hi) (by omega))).mono ?_; rintro e w1 ⟨ht, hb1⟩; obtain rfl := ht.eq_yes HV.out; replace c0 := below_cell hb1 c0; replace HF := hid (HF.out.below hb1); replace HBW := hid (bthen HBW.out hb1); clear ht hb1) | (go_at_call 47; (with_reducible refine (isPoint_any pa pc F (a : Int) _).mono ?_); rintro e w2 ⟨ht, hb2⟩; obtain rfl := ht.eq_yes HA.out; replace c0 := below_cell hb2 c0; replace HF := hid (HF.out.below hb2); replace HBW := hid (bthen HBW.out hb2); clear ht hb2) | (go_at_call 47; (with_reducible refine (isPoint_any pa pc F (b : Int) _).mono ?_); rintro e w2 ⟨ht, hb2⟩; obtain rfl := ht.eq_yes HB.out; replace c0 := below_cell hb2 c0; replace HF := hid (HF.out.below hb2); replace HBW := hid (bthen HBW.out hb2); clear ht hb2) | (go_at_call 48; (with_reducible refine (rreach_any pa pc F b b (-1) _ rfl HF.out HV.out hsm hbn).mono ?_); rintro e w3 ⟨rb, rfl, hm, hle, hb3⟩; rw [reachB_length]; have cb := hm.cell 1 (by rw [reachB_length]; omega); rw [← HX1.out] at cb; replace c0 := below_cell hb3 c0; replace HF := hid (HF.out.below hb3); replace HBW := hid (bthen HBW.out hb3); clear hm hle hb3) | (go_at_call 48; (with_reducible refine (rreach_any pa pc F b b a _ rfl HF.out HV.out hsm hbn).mono ?_); rintro e w3 ⟨rb, rfl, hm, hle, hb3⟩; rw [reachB_length]; have cb := hm.cell 1 (by rw [reachB_length]; omega); rw [← HX2.out] at cb; replace c0 := below_cell hb3 c0; replace HF := hid (HF.out.below hb3); replace HBW := hid (bthen HBW.out hb3); clear hm hle hb3))
              go_ret
              exact ⟨.yes ⟨HV.out, HL.out.1.2 rfl⟩, HBW.out⟩
            · go_enter Try.func23, Try.ntmps23
              go_wp2_with (first | (go_at_call 14; refine (rvalid_any pa pc F _ HF.out (fun i hi => Nat.le_trans (hsm i hi) (by omega))).mono ?_; rintro e w1 ⟨ht, hb1⟩; obtain rfl := ht.eq_yes HV.out; replace c0 := below_cell hb1 c0; replace HF := hid (HF.out.below hb1); replace HBW := hid (bthen HBW.out hb1); clear ht hb1) | (go_at_call 47; (with_reducible refine (isPoint_any pa pc F (a : Int) _).mono ?_); rintro e w2 ⟨ht, hb2⟩; obtain rfl := ht.eq_yes HA.out; replace c0 := below_cell hb2 c0; replace HF := hid (HF.out.below hb2); replace HBW := hid (bthen HBW.out hb2); clear ht hb2) | (go_at_call 47; (with_reducible refine (isPoint_any pa pc F (b : Int) _).mono ?_); rintro e w2 ⟨ht, hb2⟩; obtain rfl := ht.eq_yes HB.out; replace c0 := below_cell hb2 c0; replace HF := hid (HF.out.below hb2); replace HBW := hid (bthen HBW.out hb2); clear ht hb2) | (go_at_call 48; (with_reducible refine (rreach_any pa pc F b b (-1) _ rfl HF.out HV.out hsm hbn).mono ?_); rintro e w3 ⟨rb, rfl, hm, hle, hb3⟩; rw [reachB_length]; have cb := hm.cell 1 (by rw [reachB_length]; omega); rw [← HX1.out] at cb; replace c0 := below_cell hb3 c0; replace HF := hid (HF.out.below hb3); replace HBW := hid (bthen HBW.out hb3); clear hm hle hb3) | (go_at_call 48; (with_reducible refine (rreach_any pa pc F b b a _ rfl HF.out HV.out hsm hbn).mono ?_); rintro e w3 ⟨rb, rfl, hm, hle, hb3⟩; rw [reachB_length]; have cb := hm.cell 1 (by rw [reachB_length]; omega); rw [← HX2.out] at cb; replace c0 := below_cell hb3 c0; replace HF := hid (HF.out.below hb3); replace HBW := hid (bthen HBW.out hb3); clear hm hle hb3))
              go_ret
              exact ⟨.no fun h => by have := HL.out.1.1 h.2; simp at this, HBW.out⟩
      · have HA := hid hA; have HB := hid hB
        clear hA hB
        go_enter Try.func23, Try.ntmps23
        go_wp2_with (first | (go_at_call 14; refine (rvalid_any pa pc F _ HF.out (fun i hi => Nat.le_trans (hsm i hi) (by omega))).mono ?_; rintro e w1 ⟨ht, hb1⟩; obtain rfl := ht.eq_yes HV.out; replace c0 := below_cell hb1 c0; replace HF := hid (HF.out.below hb1); replace HBW := hid (bthen HBW.out hb1); clear ht hb1) | (go_at_call 47; (with_reducible refine (isPoint_any pa pc F a _).mono ?_); rintro e w2 ⟨ht, hb2⟩; obtain rfl := ht.eq_yes HA.out; replace c0 := below_cell hb2 c0; replace HF := hid (HF.out.below hb2); replace HBW := hid (bthen HBW.out hb2); clear ht hb2) | (go_at_call 47; (with_reducible refine (isPoint_any pa pc F b _).mono ?_); rintro e w2 ⟨ht, hb2⟩; obtain rfl := ht.eq_no HB.out; replace c0 := below_cell hb2 c0; replace HF := hid (HF.out.below hb2); replace HBW := hid (bthen HBW.out hb2); clear ht hb2))
        go_ret
        exact ⟨.no fun h => HB.out (isPt_b' h.2), HBW.out⟩
    · have HA := hid hA; clear hA
      go_enter Try.func23, Try.ntmps23
      go_wp2_with (first | (go_at_call 14; refine (rvalid_any pa pc F _ HF.out (fun i hi => Nat.le_trans (hsm i hi) (by omega))).mono ?_; rintro e w1 ⟨ht, hb1⟩; obtain rfl := ht.eq_yes HV.out; replace c0 := below_cell hb1 c0; replace HF := hid (HF.out.below hb1); replace HBW := hid (bthen HBW.out hb1); clear ht hb1) | (go_at_call 47; (with_reducible refine (isPoint_any pa pc F a _).mono ?_); rintro e w2 ⟨ht, hb2⟩; obtain rfl := ht.eq_no HA.out; replace c0 := below_cell hb2 c0; replace HF := hid (HF.out.below hb2); replace HBW := hid (bthen HBW.out hb2); clear ht hb2))
      go_ret
      exact ⟨.no fun h => HA.out (isPt_a' h.2), HBW.out⟩
  · have HV := hid hV; clear hV
    go_enter Try.func23, Try.ntmps23
    go_wp2_with (first | (go_at_call 14; refine (rvalid_any pa pc F _ HF.out (fun i hi => Nat.le_trans (hsm i hi) (by omega))).mono ?_; rintro e w1 ⟨ht, hb1⟩; obtain rfl := ht.eq_no HV.out; replace c0 := below_cell hb1 c0; replace HF := hid (HF.out.below hb1); replace HBW := hid (bthen HBW.out hb1); clear ht hb1))
    go_ret
    exact ⟨.no fun h => HV.out h.1, HBW.out⟩
theorem rDom_nat (pa : Option Addr) (pc : Nat) (F : List (List Int)) (a b : Nat) (x : Bool) (w : World) (hF : FRow w pa F) (hsm : ∀ i, i < F.length → (F.getD i []).length ≤ 900) (hV : VldF F) (ha : a < F.length) (hb : b < F.length) (hx : relF F 0 a b = x) :
    Calls Try.prog 21 #[.agg #[.slice pa F.length pc], .int .i64 a, .int .i64 b] w fun e w' => e = .returned (.bool x) ∧ Below w.heap.size w w' := by
  refine (rDominates_any pa pc F a b w hF hsm).mono ?_
  rintro e w1 ⟨ht, hb1⟩
  refine ⟨eq_of_tells ht ?_, hb1⟩
  rw [← hx, relF_iff hV.ok ha hb, ← domB_DomR hV.ok hb, domP_nat ha hb]
  exact ⟨fun h => ⟨hV, h⟩, fun h => h.2⟩
theorem rPost_nat (pa : Option Addr) (pc : Nat) (F : List (List Int)) (a b : Nat) (x : Bool) (w : World) (hF : FRow w pa F) (hsm : ∀ i, i < F.length → (F.getD i []).length ≤ 900) (hV : VldF F) (ha : a < F.length) (hb : b < F.length) (hx : relF (revF F) 1 a b = x) :
    Calls Try.prog 23 #[.agg #[.slice pa F.length pc], .int .i64 a, .int .i64 b] w fun e w' => e = .returned (.bool x) ∧ Below w.heap.size w w' := by
  refine (rPostdominates_any pa pc F a b w hF hsm).mono ?_
  rintro e w1 ⟨ht, hb1⟩
  refine ⟨eq_of_tells ht ?_, hb1⟩
  have hr := revF_rev hV
  rw [← hx, relF_iff hr.ok (by rw [hr.len]; exact ha) (by rw [hr.len]; exact hb), ← domB_DomR hr.ok (by rw [hr.len]; exact hb), domP_nat (by rw [hr.len]; exact ha) (by rw [hr.len]; exact hb)]
  exact ⟨fun h => ⟨hV, h⟩, fun h => h.2⟩
end Go.Proofs.Ytjddegfigdpcbaa
