/- DominatorWalks answers true. -/
import Derived.Test.YtjddegfigdpcbaaU
namespace Go.Proofs.Ytjddegfigdpcbaa
open Go.RowKit

theorem SmallF.s900 {F : List (List Int)} {m : Int} (h : SmallF F m) : ∀ i, i < F.length → (F.getD i []).length ≤ 900 := fun i hi => Nat.le_trans (h.1 i hi) (by omega)
theorem SmallF.s6 {F : List (List Int)} {m : Int} (h : SmallF F m) : ∀ i, i < F.length → (F.getD i []).length ≤ 1000000 := fun i hi => Nat.le_trans (h.1 i hi) (by omega)


theorem row_drop {w : World} {g : Nat} {L : List Int} (h : Row w (some ⟨g, 0, none⟩) (ints L)) (j : Nat) (hj : j ≤ L.length) : Row w (some ⟨g, j, none⟩) (ints (L.drop j)) := by
  intro i hi
  have hi' : i < L.length - j := by simpa [ints] using hi
  obtain ⟨sb, so, e, hc⟩ := h (j + i) (by simp [ints]; omega)
  injection e with e; injection e with e1 e2; subst e1; subst e2
  refine ⟨g, j, rfl, ?_⟩
  rw [Nat.zero_add] at hc
  rw [hc]
  simp [ints, List.getD_eq_getElem?_getD]
theorem hcell_of {w : World} {B g c n : Nat} {L : List Int} {b0 : Int} (h : w.ownsRow B 3 1 (.slice (some ⟨g, 0, none⟩) n c) n (ints L)) (j : Nat) (hj : j < n) (hb : L.getD j 0 = b0) : w.cell? ⟨g, j, none⟩ = some (.int .i64 b0) := by
  have hc := h.cellAt j (by omega)
  have hn : (ints L).length = n := by have := h.1; omega
  rw [ints_length] at hn
  rw [hc, ← hb]
  simp [ints, List.getD_eq_getElem?_getD, List.getElem?_eq_getElem (show j < L.length by omega)]

set_option maxHeartbeats 4000000 in
set_option maxRecDepth 100000 in
theorem walks_any (pa : Option Addr) (pc : Nat) (F : List (List Int)) (ba : Option Addr) (bc : Nat) (C : List Int) (w : World) (hF : FRow w pa F) (hl : F.length ≤ maxLen) (hC : Row w ba (bytes C)) (hcl : C.length ≤ maxLen) (hcr : ∀ n ∈ C, 0 ≤ n ∧ n < 256) :
    Calls Try.prog 8 #[.agg #[.slice pa F.length pc], .slice ba C.length bc] w fun e w' => e = .returned (.bool true) ∧ Below w.heap.size w w' := by
  have HF := hid hF; have HC := hid hC; have HCR := hid hcr; have hl' := hl
  unfold maxLen at hl' hcl
  clear hF hC hcr
  go_enter Try.func8, Try.ntmps8
  go_wp2_with fail
  refine (awake_any _).mono ?_
  rintro e w1 ⟨rfl, hb1⟩
  have c0 : w1.cell? ⟨w.heap.size, 0, none⟩ = some (.slice pa F.length pc) := box_cell hb1 0 _ rfl
  have HBW := hid (bthen (below_alloc w _) hb1)
  replace HF := hid (HF.out.below HBW.out); replace HC := hid (HC.out.below HBW.out)
  clear hb1
  by_cases hS : ¬ SmallF F 30
  · have HS := hid hS; clear hS
    go_wp2_with (go_at_call 12; refine (small_any _ _ _ _ _ HF.out hl).mono ?_; rintro e w2 ⟨ht, hb2⟩; obtain rfl := ht.eq_no HS.out; replace HBW := hid (bthen HBW.out hb2); clear ht hb2)
    go_ret
    exact ⟨rfl, HBW.out⟩
  have hS := Classical.not_not.1 hS
  have hFl := hS.2
  have HS := hid hS; clear hS
  by_cases hV : ¬ VldF F
  · have HV := hid hV; clear hV
    go_wp2_with (first | (go_at_call 12; refine (small_any _ _ _ _ _ HF.out hl).mono ?_; rintro e w2 ⟨ht, hb2⟩; obtain rfl := ht.eq_yes HS.out; replace c0 := below_cell hb2 c0; replace HF := hid (HF.out.below hb2); replace HBW := hid (bthen HBW.out hb2); clear ht hb2) | (go_at_call 13; refine (valid_any _ _ _ _ HF.out HS.out.s6).mono ?_; rintro e w3 ⟨ht, hb3⟩; obtain rfl := ht.eq_no HV.out; replace HBW := hid (bthen HBW.out hb3); clear ht hb3))
    go_ret
    exact ⟨rfl, HBW.out⟩
  have HV := hid (Classical.not_not.1 hV); clear hV
  go_wp2_with (first | (go_at_call 12; refine (small_any _ _ _ _ _ HF.out hl).mono ?_; rintro e w2 ⟨ht, hb2⟩; obtain rfl := ht.eq_yes HS.out; replace c0 := below_cell hb2 c0; replace HF := hid (HF.out.below hb2); replace HC := hid (HC.out.below hb2); replace HBW := hid (bthen HBW.out hb2); clear ht hb2) | (go_at_call 13; refine (valid_any _ _ _ _ HF.out HS.out.s6).mono ?_; rintro e w3 ⟨ht, hb3⟩; obtain rfl := ht.eq_yes HV.out; replace c0 := below_cell hb3 c0; replace HF := hid (HF.out.below hb3); replace HC := hid (HC.out.below hb3); replace HBW := hid (bthen HBW.out hb3); clear ht hb3))
  · go_ret
    exact ⟨rfl, HBW.out⟩
  have hown := World.ownsRow_lit (base := w3.heap.size) (e := 3) (size := 1) w3 #[.int .i64 0] 1 (Nat.le_refl _) (by decide) rfl
  have HOWN := hid (show (w3.alloc (.cells #[.int .i64 0] 3)).ownsRow w3.heap.size 3 1 (.slice (some ⟨w3.heap.size, 0, none⟩) 1 1) 1 (ints [0]) from hown)
  clear hown
  have hC60 : C.length ≤ 60 := by omega
  go_loopw [31, 5] (fun i v wr => ∃ k : Nat, ∃ A c L, k ≤ C.length ∧ i = .int .i64 k ∧ v = .slice A (List.length L) c ∧ wr.ownsRow w3.heap.size 3 1 (.slice A L.length c) L.length (ints L) ∧ WalkOk F L ∧ L.length ≤ k + 1 ∧ Below w3.heap.size w3 wr)
    (fun i _ _ => C.length - (intOf i).toNat)
  case atStart => exact ⟨0, _, 1, [0], Nat.zero_le _, rfl, rfl, HOWN.out, .one (by have := HV.out.lo; omega), by simp, below_alloc _ _⟩
  case round =>
    obtain ⟨k, A, c, L, hk, rfl, rfl, hown, hwk, hkl, hb⟩ := hrel
    have hp := hwk.pos
    have hL61 : L.length ≤ 61 := by omega
    have HOW := hid hown; have HWK := hid hwk; have HBL := hid hb
    have c0' := below_cell hb c0
    have hwz := hb.size
    obtain ⟨g, cap, hv, hbg, hgz⟩ := hown.form hp
    injection hv with hv1 hv2 hv3
    subst hv1
    obtain ⟨sl, hsl⟩ : ∃ sl, L.length = sl + 1 := ⟨L.length - 1, by omega⟩
    have hcell := hown.cellAt sl (by omega)
    obtain ⟨b0, hb0⟩ := Int.eq_ofNat_of_zero_le (hwk.inr sl (by omega)).1
    have hbr := (hwk.inr sl (by omega)).2
    rw [show (ints L)[sl]? = some (.int .i64 (L.getD sl 0)) from by simp [ints, List.getD_eq_getElem?_getD, List.getElem?_eq_getElem (show sl < L.length by omega)], hb0] at hcell
    rw [hb0] at hbr
    have q1 : ((sl + 1 : Nat) : Int) - 1 = (sl : Int) := by omega
    have HB0 := hid hb0; have HSL := hid hsl
    rw [hsl]
    clear hown hwk hb hb0 hv2 hv3
    by_cases hlt : k < C.length
    · obtain ⟨xb, xo, rfl, hx⟩ := HC.out k (by simpa [bytes] using hlt)
      obtain ⟨x, hxe⟩ : ∃ x, x = C.getD k 0 := ⟨_, rfl⟩
      have hxr := HCR.out _ (getD_mem (d := 0) hlt)
      rw [← hxe] at hxr
      obtain ⟨y, rfl⟩ := Int.eq_ofNat_of_zero_le hxr.1
      rw [show (bytes C).getD k undef = .int .u8 (y : Int) from by rw [hxe]; simp [bytes, List.getD_eq_getElem?_getD, List.getElem?_eq_getElem hlt]] at hx
      have hx := below_cell HBL.out hx
      obtain ⟨sb, so, fa, fb, Bn, cn, rfl, f0, f1, f2, f3⟩ := HF.out b0 (by omega)
      have f2 := below_cell HBL.out f2
      obtain ⟨N, hN⟩ : ∃ N, N = F.getD b0 [] := ⟨_, rfl⟩
      rw [← hN] at f2 f3
      have hN8 := HS.out.1 b0 (by omega)
      rw [← hN] at hN8
      have HN := hid hN; have HF3 := hid (f3.below HBL.out)
      clear f0 f1 f3 hN hxe
--TAIL
      by_cases hN0 : N.length = 0
      · have q2 : ((N.length : Int) == 0) = true := by simp [hN0]
        clear hN0
        go_wp2_with fail
        go_big_quiet (fail)
        go_wp2_with fail
        have HBX := hid (HBL.out.trans (show Below w3.heap.size wr (wr.drewN nq) from ⟨rfl, rfl, rfl, Nat.le_refl _, fun _ _ => rfl⟩))
        obtain ⟨wx, hwx⟩ : ∃ wx, wx = wr.drewN nq := ⟨_, rfl⟩
        rw [← hwx] at HBX ⊢
        have HOX := hid (show wx.ownsRow w3.heap.size 3 1 (.slice (some ⟨g, 0, none⟩) L.length c) L.length (ints L) from by rw [hwx]; exact HOW.out)
        have hxz := lt_of_cell (show wx.cell? ⟨g, sl, none⟩ = some (.int .i64 b0) from by rw [hwx]; exact hcell)
        clear hwx
        go_loopw [70] (fun i w5 => ∃ m : Nat, m ≤ F.length ∧ i = .int .i64 m ∧ Below wx.heap.size wx w5) (fun i _ => F.length - (intOf i).toNat)
        case atStart => exact ⟨0, Nat.zero_le _, rfl, Below.refl _ _⟩
        case round =>
          obtain ⟨m, hm, rfl, hb5⟩ := hrel
          have HB5 := hid hb5
          have k0 := below_cell (HBX.out) c0
          have k0 := below_cell hb5 k0
          have HF5 := hid ((HF.out.below HBX.out).below hb5)
          have HO5 := hid (own_below HOX.out hb5)
          have z5 := hb5.size
          have HL5 := hid (Row.of_own HO5.out)
          have hlast := hcell_of HO5.out sl (by omega) HB0.out
          clear hb5
          by_cases hmt : m < F.length
          · have hcap : sl + 1 ≤ c := by
              rcases HOW.out.2 with ⟨h0, _⟩ | ⟨_, _, _, h0, _, _, h1, _⟩
              · cases h0
              · injection h0 with _ _ h0; subst h0; rw [← HSL.out]; exact h1
            by_cases q5 : b0 = 1
            · have q6 : ((b0 : Int) != 1) = false := by simp [q5]
              have HQ5 := hid q5; clear q5
              go_wp2_with (first
                | (go_at_call 20; refine (Dominates_any _ pc F m b0 _ HF5.out HS.out.s900).mono ?_; rintro e w6 ⟨⟨t, rfl, ht⟩, hb6⟩; have HT := hid ht; replace k0 := below_cell hb6 k0; replace HL5 := hid (HL5.out.below hb6); replace HO5 := hid (own_below HO5.out hb6); replace HF5 := hid (HF5.out.below hb6); replace HB5 := hid (bthen HB5.out hb6); have z6 := hb6.size; clear ht hb6)
                | (go_at_call 30; rw [← HSL.out]; refine (contains_any m _ c L _ HL5.out (by omega)).mono ?_; rintro e w7 ⟨rfl, rfl⟩; rw [any_mem (HWK.out.dom HV.out m (by have := (HT.out.1 (by assumption)).2; rw [← HB0.out] at this; rw [HSL.out]; exact this))]))
              all_goals first
                | exact ⟨⟨m + 1, by omega, by go_num, HB5.out⟩, by simp [intOf]; omega⟩
                | skip
              all_goals (
                go_loopw [87] (fun i w5 => ∃ j : Nat, j ≤ L.length ∧ i = .int .i64 j ∧ Below w6.heap.size w6 w5) (fun i _ => L.length - (intOf i).toNat)
                case atStart => exact ⟨0, Nat.zero_le _, rfl, Below.refl _ _⟩
                case round =>
                  obtain ⟨j, hj, rfl, hb7⟩ := hrel
                  have HB7 := hid hb7
                  replace k0 := below_cell hb7 k0
                  replace HF5 := hid (HF5.out.below hb7)
                  replace HO5 := hid (own_below HO5.out hb7)
                  have z7 := hb7.size
                  clear hb7
                  by_cases hjt : j < L.length
                  · obtain ⟨v, hv⟩ := Int.eq_ofNat_of_zero_le (HWK.out.inr j hjt).1
                    have hvj := hcell_of HO5.out j (by omega) hv
                    have HVJ := hid hv; clear hv
                    have HLD := hid (show Row _ (some ⟨g, j, none⟩) (ints (L.drop j)) from row_drop (Row.of_own HO5.out) j (by omega))
                    have hdl : (L.drop j).length = sl + 1 - j := by rw [List.length_drop, HSL.out]
                    have HDL := hid hdl; clear hdl
                    go_wp2_with (first
                      | (go_at_call 22; refine (Postdominates_any _ pc F m v _ HF5.out HS.out.s900).mono ?_; rintro e w8 ⟨⟨t, rfl, ht⟩, hb8⟩; have HT2 := hid ht; replace k0 := below_cell hb8 k0; replace HLD := hid (HLD.out.below hb8); replace HB7 := hid (bthen HB7.out hb8); clear ht hb8)
                      | (go_at_call 30; rw [← HDL.out]; refine (contains_any m _ _ (L.drop j) _ HLD.out (by rw [HDL.out]; omega)).mono ?_; rintro e w9 ⟨rfl, rfl⟩; rw [any_mem (HWK.out.post (by rw [HSL.out, Nat.add_sub_cancel, HB0.out, HQ5.out]; rfl) m j hjt (by have := (HT2.out.1 (by assumption)).2; rw [HVJ.out]; exact this))]))
                    all_goals exact ⟨⟨j + 1, by omega, by go_num, HB7.out⟩, by simp [intOf]; omega⟩
                  · go_wp2_with fail
                    exact ⟨⟨m + 1, by omega, by go_num, bthen HB5.out HB7.out⟩, by simp [intOf]; omega⟩)
            · have q6 : ((b0 : Int) != 1) = true := by simp; omega
              clear q5
              go_wp2_with (first
                | (go_at_call 20; refine (Dominates_any _ pc F m b0 _ HF5.out HS.out.s900).mono ?_; rintro e w6 ⟨⟨t, rfl, ht⟩, hb6⟩; have HT := hid ht; replace k0 := below_cell hb6 k0; replace HL5 := hid (HL5.out.below hb6); replace HO5 := hid (own_below HO5.out hb6); replace HF5 := hid (HF5.out.below hb6); replace HB5 := hid (bthen HB5.out hb6); have z6 := hb6.size; clear ht hb6)
                | (go_at_call 30; rw [← HSL.out]; refine (contains_any m _ c L _ HL5.out (by omega)).mono ?_; rintro e w7 ⟨rfl, rfl⟩; rw [any_mem (HWK.out.dom HV.out m (by have := (HT.out.1 (by assumption)).2; rw [← HB0.out] at this; rw [HSL.out]; exact this))]))
              all_goals first
                | exact ⟨⟨m + 1, by omega, by go_num, HB5.out⟩, by simp [intOf]; omega⟩
                | skip
          · go_wp2_with (go_at_call 20; refine (Dominates_any _ pc F b0 b0 _ HF5.out HS.out.s900).mono ?_; rintro e w6 ⟨ht, hb6⟩; obtain rfl := ht.eq_yes ⟨HV.out, by have := HWK.out.self HV.out; rw [HSL.out, Nat.add_sub_cancel, HB0.out] at this; exact this⟩; replace HB5 := hid (bthen HB5.out hb6); clear ht hb6)
            go_ret
            exact ⟨rfl, HBW.out.trans ((HBX.out.trans (HB5.out.mono (by have := HBX.out.size; omega))).mono (by have := HBW.out.size; omega))⟩

      · obtain ⟨q, hq⟩ : ∃ q, q = y % N.length := ⟨_, rfl⟩
        have hql : q < N.length := by rw [hq]; exact Nat.mod_lt _ (by omega)
        have q3 : (y : Int) % (N.length : Int) = (q : Int) := by rw [hq]; simp
        have q2 : ((N.length : Int) == 0) = false := by simp; intro h; simp [h] at hN0
        have q4 : ¬ N = [] := by intro h; simp [h] at hN0
        obtain ⟨nb, no, rfl, hn⟩ := HF3.out.int q hql
        obtain ⟨u, hu⟩ : ∃ u, u = N.getD q 0 := ⟨_, rfl⟩
        rw [← hu] at hn
        have hum : u ∈ N := by rw [hu]; exact getD_mem hql
        have HWS := hid (HWK.out.snoc HV.out u (by rw [hsl, Nat.add_sub_cancel, HB0.out, Int.toNat_natCast, ← HN.out]; exact hum))
        have HWN := hid (show ((wr.alloc (.cells #[.int .i64 u] 3))).ownsRow w3.heap.size 3 1 (.slice (some ⟨g, 0, none⟩) L.length c) L.length (ints L) from World.ownsRow.alloc HOW.out _)
        clear hu hum hq hN0
        go_wp2_with fail
        go_big_quiet (fail)
        have HWN := hid (show (((wr.drewN nq).alloc (.cells #[.int .i64 u] 3))).ownsRow w3.heap.size 3 1 (.slice (some ⟨g, 0, none⟩) (sl + 1) c) (sl + 1) (ints L) from by rw [← HSL.out]; exact World.ownsRow.alloc HOW.out _)
        obtain ⟨i0, hi, hz0, hz1, hz2⟩ := info_parts info3
        go_wp2_with (at_builtin; refine wpList_append_row rfl (.tmp 49) (.tmp 58) 29 rfl w3.heap.size 3 i0 (.int .i64 0) 1 8 Try.underlying29 hi hz0 hz1 hz2 rfl (by decide) (.slice (some ⟨g, 0, none⟩) (sl + 1) c) (sl + 1) (ints L) rfl HWN.out (some ⟨wr.heap.size, 0, none⟩) 1 1 [.int .i64 u] rfl rfl (fun e => by cases e) (by have := Row.one (wr.drewN nq) (.int .i64 u) 3; simpa using this) (ints_one [_]) (by unfold maxLen; omega) (by omega) (by simp; omega) ?_; intro A4 c4 w4 hown4 hgr4 hat4; have HOWN4 := hid hown4; have HGR4 := hid hgr4; clear hown4 hgr4 hat4)
        have hll : (L ++ [u]).length = sl + 1 + 1 := by rw [List.length_append, hsl]; rfl
        have hown5 := HOWN4.out
        rw [show ints L ++ [.int .i64 u] = ints (L ++ [u]) from by simp [ints]] at hown5
        have hbl : Below w3.heap.size w3 ((wr.drewN nq).alloc (.cells #[.int .i64 u] 3)) := HBL.out.trans (show Below w3.heap.size wr ((wr.drewN nq).alloc (.cells #[.int .i64 u] 3)) from (show Below w3.heap.size wr (wr.drewN nq) from ⟨rfl, rfl, rfl, Nat.le_refl _, fun _ _ => rfl⟩).alloc (by simpa using hwz) _)
        exact ⟨⟨k + 1, A4, c4, L ++ [u], by omega, by go_num, by rw [hll], by rw [hll]; exact hown5, HWS.out, by omega, hbl.grown HGR4.out (by simp; omega) (fun j hj => (HWN.out.lt j hj).1)⟩, by simp [intOf]; omega⟩
    · go_wp2_with fail
      have HBX := hid (HBL.out.trans (show Below w3.heap.size wr (wr) from Below.refl _ _))
      obtain ⟨wx, hwx⟩ : ∃ wx, wx = wr := ⟨_, rfl⟩
      rw [← hwx] at HBX ⊢
      have HOX := hid (show wx.ownsRow w3.heap.size 3 1 (.slice (some ⟨g, 0, none⟩) L.length c) L.length (ints L) from by rw [hwx]; exact HOW.out)
      have hxz := lt_of_cell (show wx.cell? ⟨g, sl, none⟩ = some (.int .i64 b0) from by rw [hwx]; exact hcell)
      clear hwx
      go_loopw [70] (fun i w5 => ∃ m : Nat, m ≤ F.length ∧ i = .int .i64 m ∧ Below wx.heap.size wx w5) (fun i _ => F.length - (intOf i).toNat)
      case atStart => exact ⟨0, Nat.zero_le _, rfl, Below.refl _ _⟩
      case round =>
        obtain ⟨m, hm, rfl, hb5⟩ := hrel
        have HB5 := hid hb5
        have k0 := below_cell (HBX.out) c0
        have k0 := below_cell hb5 k0
        have HF5 := hid ((HF.out.below HBX.out).below hb5)
        have HO5 := hid (own_below HOX.out hb5)
        have z5 := hb5.size
        have HL5 := hid (Row.of_own HO5.out)
        have hlast := hcell_of HO5.out sl (by omega) HB0.out
        clear hb5
        by_cases hmt : m < F.length
        · have hcap : sl + 1 ≤ c := by
            rcases HOW.out.2 with ⟨h0, _⟩ | ⟨_, _, _, h0, _, _, h1, _⟩
            · cases h0
            · injection h0 with _ _ h0; subst h0; rw [← HSL.out]; exact h1
          by_cases q5 : b0 = 1
          · have q6 : ((b0 : Int) != 1) = false := by simp [q5]
            have HQ5 := hid q5; clear q5
            go_wp2_with (first
              | (go_at_call 20; refine (Dominates_any _ pc F m b0 _ HF5.out HS.out.s900).mono ?_; rintro e w6 ⟨⟨t, rfl, ht⟩, hb6⟩; have HT := hid ht; replace k0 := below_cell hb6 k0; replace HL5 := hid (HL5.out.below hb6); replace HO5 := hid (own_below HO5.out hb6); replace HF5 := hid (HF5.out.below hb6); replace HB5 := hid (bthen HB5.out hb6); have z6 := hb6.size; clear ht hb6)
              | (go_at_call 30; rw [← HSL.out]; refine (contains_any m _ c L _ HL5.out (by omega)).mono ?_; rintro e w7 ⟨rfl, rfl⟩; rw [any_mem (HWK.out.dom HV.out m (by have := (HT.out.1 (by assumption)).2; rw [← HB0.out] at this; rw [HSL.out]; exact this))]))
            all_goals first
              | exact ⟨⟨m + 1, by omega, by go_num, HB5.out⟩, by simp [intOf]; omega⟩
              | skip
            all_goals (
              go_loopw [87] (fun i w5 => ∃ j : Nat, j ≤ L.length ∧ i = .int .i64 j ∧ Below w6.heap.size w6 w5) (fun i _ => L.length - (intOf i).toNat)
              case atStart => exact ⟨0, Nat.zero_le _, rfl, Below.refl _ _⟩
              case round =>
                obtain ⟨j, hj, rfl, hb7⟩ := hrel
                have HB7 := hid hb7
                replace k0 := below_cell hb7 k0
                replace HF5 := hid (HF5.out.below hb7)
                replace HO5 := hid (own_below HO5.out hb7)
                have z7 := hb7.size
                clear hb7
                by_cases hjt : j < L.length
                · obtain ⟨v, hv⟩ := Int.eq_ofNat_of_zero_le (HWK.out.inr j hjt).1
                  have hvj := hcell_of HO5.out j (by omega) hv
                  have HVJ := hid hv; clear hv
                  have HLD := hid (show Row _ (some ⟨g, j, none⟩) (ints (L.drop j)) from row_drop (Row.of_own HO5.out) j (by omega))
                  have hdl : (L.drop j).length = sl + 1 - j := by rw [List.length_drop, HSL.out]
                  have HDL := hid hdl; clear hdl
                  go_wp2_with (first
                    | (go_at_call 22; refine (Postdominates_any _ pc F m v _ HF5.out HS.out.s900).mono ?_; rintro e w8 ⟨⟨t, rfl, ht⟩, hb8⟩; have HT2 := hid ht; replace k0 := below_cell hb8 k0; replace HLD := hid (HLD.out.below hb8); replace HB7 := hid (bthen HB7.out hb8); clear ht hb8)
                    | (go_at_call 30; rw [← HDL.out]; refine (contains_any m _ _ (L.drop j) _ HLD.out (by rw [HDL.out]; omega)).mono ?_; rintro e w9 ⟨rfl, rfl⟩; rw [any_mem (HWK.out.post (by rw [HSL.out, Nat.add_sub_cancel, HB0.out, HQ5.out]; rfl) m j hjt (by have := (HT2.out.1 (by assumption)).2; rw [HVJ.out]; exact this))]))
                  all_goals exact ⟨⟨j + 1, by omega, by go_num, HB7.out⟩, by simp [intOf]; omega⟩
                · go_wp2_with fail
                  exact ⟨⟨m + 1, by omega, by go_num, bthen HB5.out HB7.out⟩, by simp [intOf]; omega⟩)
          · have q6 : ((b0 : Int) != 1) = true := by simp; omega
            clear q5
            go_wp2_with (first
              | (go_at_call 20; refine (Dominates_any _ pc F m b0 _ HF5.out HS.out.s900).mono ?_; rintro e w6 ⟨⟨t, rfl, ht⟩, hb6⟩; have HT := hid ht; replace k0 := below_cell hb6 k0; replace HL5 := hid (HL5.out.below hb6); replace HO5 := hid (own_below HO5.out hb6); replace HF5 := hid (HF5.out.below hb6); replace HB5 := hid (bthen HB5.out hb6); have z6 := hb6.size; clear ht hb6)
              | (go_at_call 30; rw [← HSL.out]; refine (contains_any m _ c L _ HL5.out (by omega)).mono ?_; rintro e w7 ⟨rfl, rfl⟩; rw [any_mem (HWK.out.dom HV.out m (by have := (HT.out.1 (by assumption)).2; rw [← HB0.out] at this; rw [HSL.out]; exact this))]))
            all_goals first
              | exact ⟨⟨m + 1, by omega, by go_num, HB5.out⟩, by simp [intOf]; omega⟩
              | skip
        · go_wp2_with (go_at_call 20; refine (Dominates_any _ pc F b0 b0 _ HF5.out HS.out.s900).mono ?_; rintro e w6 ⟨ht, hb6⟩; obtain rfl := ht.eq_yes ⟨HV.out, by have := HWK.out.self HV.out; rw [HSL.out, Nat.add_sub_cancel, HB0.out] at this; exact this⟩; replace HB5 := hid (bthen HB5.out hb6); clear ht hb6)
          go_ret
          exact ⟨rfl, HBW.out.trans ((HBX.out.trans (HB5.out.mono (by have := HBX.out.size; omega))).mono (by have := HBW.out.size; omega))⟩

end Go.Proofs.Ytjddegfigdpcbaa
