/- The walk of assessorlaw24.GatesLimits: true, at every input. -/
import Derived.Test.YtelbjendeldlcaaP
namespace Go.Proofs.Ytelbjendeldlcaa
open Go.RowKit

set_option maxHeartbeats 1000000 in
theorem limits_any (m : Nat) (flip : Bool) (w : World) (hm : m < 65536) : Calls Try.prog 4 #[.int .u16 m, .bool flip] w fun e w' => e = .returned (.bool true) ∧ Below w.heap.size w w' := by
  obtain ⟨k, hk0⟩ : ∃ k, k = m % 2000 := ⟨_, rfl⟩
  have hk : k < 2000 := by omega
  have b1 : (m : Int) % 2000 = (k : Int) := by omega
  have b2 : IntKind.i64.wrap (m : Int) = (m : Int) := IntWalk.i64_in _ (by omega)
  have b3 : IntKind.i64.wrap (k : Int) = (k : Int) := IntWalk.i64_in _ (by omega)
  have HK0 := hid hk0; clear hk0
  go_enter Try.func4, Try.ntmps4
  go_wp2_with (first
    | (go_at_call 9; refine (awake_any _).mono ?_; rintro e w0 ⟨rfl, hb0⟩; have HB0 := hid hb0; clear hb0)
    | (go_at_call 15; refine (new_yes 2 _ (by omega) (by omega)).mono ?_; rintro e w1 ⟨bb, mb, rfl, hbb, hmb, hs1, hb1⟩; have HS1 := hid hs1; have HB1 := hid hb1; have HBB := hid (And.intro hbb hmb); clear hs1 hb1 hbb hmb))
  refine (input_any HS1.out 0).mono ?_
  rw [aw_in0]
  rintro e w2 ⟨rfl, A2, c2, hs2, st2⟩
  have HS2 := hid hs2; have ST2 := hid st2; clear hs2 st2
  go_wp2_with fail
  refine (input_any HS2.out 1).mono ?_
  rw [aw_in1]
  rintro e w3 ⟨rfl, A3, c3, hs3, st3⟩
  have HS3 := hid hs3; have ST3 := hid (ST2.out.trans st3); clear hs3 st3
  go_wp2_with fail
  refine (and_any HS3.out 2 4).mono ?_
  rw [aw_and0]
  rintro e w4 ⟨rfl, A4, c4, hs4, st4⟩
  have HS4 := hid (show BSt w4 bb mb A4 c4 (chS 0) from hs4); have ST4 := hid (ST3.out.trans st4); clear hs4 st4
  go_wp2_with fail
  go_loopw [10, 37] (fun z i wr => ∃ j : Nat, ∃ A c, j ≤ k ∧ i = .int .i64 j ∧ z = .int .i64 (2 * (3 + (j : Int))) ∧ BSt wr bb mb A c (chS j) ∧ Step w1 wr bb mb none A)
    (fun _ i _ => k - (intOf i).toNat)
  case atStart => exact ⟨0, A4, c4, by omega, rfl, rfl, HS4.out, ST4.out⟩
  case round =>
    obtain ⟨j, A, c, hj, rfl, rfl, hs, st⟩ := hrel
    have HS := hid hs; have ST := hid st; clear hs st
    by_cases hlt : j < k
    · have hz : notI (2 * (3 + (j : Int))) = 2 * (3 + (j : Int)) + 1 := by unfold notI; omega
      have hu : chU j = if j % 2 = 0 then 4 else 2 := rfl
      have HZ := hid hz; have HU := hid hu; clear hz hu
      by_cases hp : (j : Int) % 2 = 0
      · have hp' : ((j : Int) % 2 == 0) = true := by simp [hp]
        have he : chU j = 4 := by rw [HU.out, if_pos (by omega)]
        have HE := hid he; clear hp he
        have b4 : IntKind.i64.wrap ((j : Int) % 2) = (j : Int) % 2 := IntWalk.i64_in _ (by omega)
        have hand : PB.and (chS j) (2 * (3 + (j : Int)) + 1) 4 = (chS (j + 1), 2 * (3 + ((j + 1 : Nat) : Int))) := by
          have := chS_and j (by omega); rw [HE.out] at this; exact this
        have HAND := hid hand; clear hand
        go_wp2_with (go_at_call 18; refine (not_any _ _ (by omega) (by omega)).mono ?_; rintro e w5 ⟨rfl, hw5⟩; rw [hw5]; clear hw5 w5)
        rw [HZ.out]
        refine (and_any HS.out (2 * (3 + (j : Int)) + 1) 4).mono ?_
        rw [HAND.out]
        rintro e w6 ⟨rfl, A6, c6, hs6, st6⟩
        have HS6 := hid hs6; have ST6 := hid (ST.out.trans st6); clear hs6 st6
        go_wp2_with fail
        exact ⟨⟨j + 1, A6, c6, by omega, by go_num, by push_cast; rfl, HS6.out, ST6.out⟩, by simp [intOf]; omega⟩
      · have hp' : ((j : Int) % 2 == 0) = false := by simp [hp]
        have he : chU j = 2 := by rw [HU.out, if_neg (by omega)]
        have HE := hid he; clear hp he
        have b4 : IntKind.i64.wrap ((j : Int) % 2) = (j : Int) % 2 := IntWalk.i64_in _ (by omega)
        have hand : PB.and (chS j) (2 * (3 + (j : Int)) + 1) 2 = (chS (j + 1), 2 * (3 + ((j + 1 : Nat) : Int))) := by
          have := chS_and j (by omega); rw [HE.out] at this; exact this
        have HAND := hid hand; clear hand
        go_wp2_with (go_at_call 18; refine (not_any _ _ (by omega) (by omega)).mono ?_; rintro e w5 ⟨rfl, hw5⟩; rw [hw5]; clear hw5 w5)
        rw [HZ.out]
        refine (and_any HS.out (2 * (3 + (j : Int)) + 1) 2).mono ?_
        rw [HAND.out]
        rintro e w6 ⟨rfl, A6, c6, hs6, st6⟩
        have HS6 := hid hs6; have ST6 := hid (ST.out.trans st6); clear hs6 st6
        go_wp2_with fail
        exact ⟨⟨j + 1, A6, c6, by omega, by go_num, by push_cast; rfl, HS6.out, ST6.out⟩, by simp [intOf]; omega⟩
    · obtain rfl : j = k := by omega
      rename World => w5
      have b5 : IntKind.i64.wrap (4 + (j : Int)) = 4 + (j : Int) := IntWalk.i64_in _ (by omega)
      have hlen : 1 + (chS j).n + ((chS j).G.length : Int) = 4 + (j : Int) := by
        show 1 + 2 + ((chG j).length : Int) = _; rw [chG_length]; push_cast; omega
      have HLEN := hid hlen; clear hlen
      have hnn : (4 + (j : Int) != 4 + (j : Int)) = false := by simp
      have hrow : ∀ (w7 : World) (z : Int) (t t2 : TypeId), Row ((w7.alloc (.cells #[.bool true, .bool !flip] t)).alloc (.cells #[.int .i64 z] t2)) (some ⟨w7.heap.size + 1, 0, none⟩) (ints [z]) := fun w7 z t t2 => by
        rw [show w7.heap.size + 1 = (w7.alloc (.cells #[.bool true, .bool !flip] t)).heap.size from by simp]
        exact Row.one _ _ _
      have HROW := hid hrow; clear hrow
      go_wp2_with (first
        | (go_at_call 19; refine (err_any (s := ⟨2, chG j, 0⟩) HS.out).mono ?_; rintro e w6 ⟨rfl, hw6⟩; rw [← hw6]; clear hw6 w6)
        | (go_at_call 20; refine (len_any HS.out).mono ?_; rw [HLEN.out]; rintro e w6 ⟨rfl, hb6⟩; have HB6 := hid hb6; have HS6 := hid (HS.out.below hb6); clear hb6)
        | (go_at_call 21; refine (circuit_any (s := ⟨2, chG j, 0⟩) HS6.out).mono ?_; rintro e w7 ⟨B, d, rfl, hr7, hb7⟩; have HR7 := hid hr7; have HB7 := hid hb7; clear hr7 hb7)
        | (go_at_call 10; refine (eval_yes 2 B d (chG j) _ 2 [true, !flip] _ 1 [2 * (3 + (j : Int))] _ ((HR7.out.alloc _).alloc _) (by simp) (HROW.out _ _ _ _) ((Row.bool2 _ _ _ _).alloc _) (fun e => by cases e) (chG_ok j (by omega))).mono ?_; rw [chG_eval]; rintro e w8 ⟨A8, c8, rfl, hr8, hb8⟩; have HR8 := hid hr8; have HB8 := hid (bthen (bthen (below_alloc _ _) (below_alloc _ _)) hb8); clear hr8 hb8))
      obtain ⟨sb, so, rfl, hcell⟩ := HR8.out.bool 0 (by simp)
      have hcell' : w8.cell? ⟨sb, so, none⟩ = some (.bool (wantF flip j)) := hcell
      have HC := hid hcell'; clear hcell hcell'
      go_loopw [15, 82] (fun z i wr => ∃ q : Nat, q ≤ j ∧ i = .int .i64 q ∧ z = .bool (wantF flip q) ∧ wr = w8)
        (fun _ i _ => j - (intOf i).toNat)
      case atStart => exact ⟨0, by omega, rfl, rfl, rfl⟩
      case round =>
        obtain ⟨q, hq, rfl, rfl, hwr⟩ := hrel
        rw [hwr]; clear hwr
        have hs : wantF flip (q + 1) = (!(wantF flip q) && (q % 2 == 1 || !flip)) := rfl
        have HS' := hid hs; clear hs
        by_cases hlt : q < j
        · have b4 : IntKind.i64.wrap ((q : Int) % 2) = (q : Int) % 2 := IntWalk.i64_in _ (by omega)
          obtain ⟨v, hv⟩ : ∃ v, v = wantF flip q := ⟨_, rfl⟩
          rw [← hv]
          have HV := hid hv; clear hv
          by_cases hp : (q : Int) % 2 = 1
          · have hp' : ((q : Int) % 2 == 1) = true := by simp [hp]
            have hp2 : (q % 2 == 1) = true := by simp; omega
            have HP := hid hp2; clear hp hp2
            cases v with
            | true =>
              go_wp2_with fail
              exact ⟨⟨q + 1, by omega, by go_num, by rw [HS'.out, ← HV.out]; rfl, trivial⟩, by simp [intOf]; omega⟩
            | false =>
              go_wp2_with fail
              exact ⟨⟨q + 1, by omega, by go_num, by rw [HS'.out, ← HV.out, HP.out]; rfl, trivial⟩, by simp [intOf]; omega⟩
          · have hp' : ((q : Int) % 2 == 1) = false := by simp [hp]
            have hp2 : (q % 2 == 1) = false := by simp; omega
            have HP := hid hp2; clear hp hp2
            cases v with
            | true =>
              go_wp2_with fail
              exact ⟨⟨q + 1, by omega, by go_num, by rw [HS'.out, ← HV.out]; rfl, trivial⟩, by simp [intOf]; omega⟩
            | false =>
              go_wp2_with fail
              exact ⟨⟨q + 1, by omega, by go_num, by rw [HS'.out, ← HV.out, HP.out]; rfl, trivial⟩, by simp [intOf]; omega⟩
        · obtain rfl : q = j := by omega
          have hcell := HC.out
          go_wp2_with fail
          go_ret
          refine ⟨rfl, bthen HB0.out (bthen (Step.below_of HB1.out HBB.out.1 HBB.out.2 ST.out) (bthen (bthen HB6.out HB7.out) HB8.out))⟩
end Go.Proofs.Ytelbjendeldlcaa
