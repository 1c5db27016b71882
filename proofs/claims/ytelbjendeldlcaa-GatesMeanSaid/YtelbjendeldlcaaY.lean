/- The walk of assessorlaw24.GatesMean: true, at every input. -/
import Derived.Test.YtelbjendeldlcaaX
namespace Go.Proofs.Ytelbjendeldlcaa
open Go.RowKit

set_option maxHeartbeats 1000000 in
theorem mean_early (n : Int) (oa : Option Addr) (ol oc : Nat) (ia : Option Addr) (il ic : Nat) (w : World) (h : n < 0 ∨ 1024 < n ∨ 40 < ol ∨ (il : Int) ≠ n ∨ 10 < n) :
    Calls Try.prog 5 #[.int .i64 n, .slice oa ol oc, .slice ia il ic] w fun e w' => e = .returned (.bool true) ∧ Below w.heap.size w w' := by
  by_cases h1 : n < 0 ∨ 1024 < n
  · have H1 := hid h1; clear h h1
    go_enter Try.func5, Try.ntmps5
    go_wp2_with (first | (go_at_call 9; refine (awake_any _).mono ?_; rintro e w1 ⟨rfl, hb1⟩; have e1 := box_cell hb1 0 _ rfl; have HB1 := hid (bthen (below_alloc w _) hb1); have z1 := lt_of_cell e1; dsimp only at z1; clear hb1) | (go_at_call 15; refine (new_no n _ H1.out).mono ?_; rintro e w2 ⟨rfl, hw2⟩; rw [← hw2]; clear hw2 w2))
    go_ret
    exact ⟨rfl, bthen HB1.out (below_alloc _ _)⟩
  have hlo : 0 ≤ n := by omega
  have hhi : n ≤ 1024 := by omega
  clear h1
  by_cases h2 : 40 < ol
  · have g2 : (40 : Int) < (ol : Int) := by omega
    clear h
    go_enter Try.func5, Try.ntmps5
    go_wp2_with (first | (go_at_call 9; refine (awake_any _).mono ?_; rintro e w1 ⟨rfl, hb1⟩; have e1 := box_cell hb1 0 _ rfl; have HB1 := hid (bthen (below_alloc w _) hb1); have z1 := lt_of_cell e1; dsimp only at z1; clear hb1) | (go_at_call 15; refine (new_yes n _ hlo hhi).mono ?_; rintro e w2 ⟨bb, mb, rfl, hbb, hmb, hs2, hb2⟩; have e2 := below_cell hb2 e1; have HB2 := hid hb2; have HBB := hid (And.intro hbb hmb); have HS2 := hid hs2; have z2 := lt_of_cell e2; dsimp only at z2; clear hs2 hb2 hbb hmb))
    go_ret
    exact ⟨rfl, bthen HB1.out (bthen HB2.out (below_alloc _ _))⟩
  have g2 : decide ((40 : Int) < (ol : Int)) = false := by simp; omega
  by_cases h3 : (il : Int) = n
  · have g3 : ((il : Int) != n) = false := by simp [h3]
    have g4 : 10 < n := by omega
    clear h h2
    go_enter Try.func5, Try.ntmps5
    go_wp2_with (first | (go_at_call 9; refine (awake_any _).mono ?_; rintro e w1 ⟨rfl, hb1⟩; have e1 := box_cell hb1 0 _ rfl; have HB1 := hid (bthen (below_alloc w _) hb1); have z1 := lt_of_cell e1; dsimp only at z1; clear hb1) | (go_at_call 15; refine (new_yes n _ hlo hhi).mono ?_; rintro e w2 ⟨bb, mb, rfl, hbb, hmb, hs2, hb2⟩; have e2 := below_cell hb2 e1; have HB2 := hid hb2; have HBB := hid (And.intro hbb hmb); have HS2 := hid hs2; have z2 := lt_of_cell e2; dsimp only at z2; clear hs2 hb2 hbb hmb))
    go_ret
    exact ⟨rfl, bthen HB1.out (bthen HB2.out (below_alloc _ _))⟩
  · have g3 : ((il : Int) != n) = true := by simp [h3]
    clear h h2 h3
    go_enter Try.func5, Try.ntmps5
    go_wp2_with (first | (go_at_call 9; refine (awake_any _).mono ?_; rintro e w1 ⟨rfl, hb1⟩; have e1 := box_cell hb1 0 _ rfl; have HB1 := hid (bthen (below_alloc w _) hb1); have z1 := lt_of_cell e1; dsimp only at z1; clear hb1) | (go_at_call 15; refine (new_yes n _ hlo hhi).mono ?_; rintro e w2 ⟨bb, mb, rfl, hbb, hmb, hs2, hb2⟩; have e2 := below_cell hb2 e1; have HB2 := hid hb2; have HBB := hid (And.intro hbb hmb); have HS2 := hid hs2; have z2 := lt_of_cell e2; dsimp only at z2; clear hs2 hb2 hbb hmb))
    go_ret
    exact ⟨rfl, bthen HB1.out (bthen HB2.out (below_alloc _ _))⟩

set_option maxHeartbeats 8000000 in
set_option maxRecDepth 20000 in
theorem mean_main (n : Int) (oa : Option Addr) (oc : Nat) (O : List GOp) (ia : Option Addr) (ic : Nat) (input : List Bool) (w : World)
    (hO : Row w oa (ocells O)) (hI : Row w ia (bools input)) (hic : ia = none → ic = 0) (hlo : 0 ≤ n) (h10 : n ≤ 10) (hol : O.length ≤ 40) (hil : (input.length : Int) = n) :
    Calls Try.prog 5 #[.int .i64 n, .slice oa O.length oc, .slice ia input.length ic] w fun e w' => e = .returned (.bool true) ∧ Below w.heap.size w w' := by
  have hhi : n ≤ 1024 := by omega
  have g2 : decide ((40 : Int) < (O.length : Int)) = false := by simp; omega
  have g3 : ((input.length : Int) != n) = false := by simp [hil]
  have g4 : decide (10 < n) = false := by simp; omega
  have hil1 : (input.length : Int) ≤ n := by omega
  have hil2 : n ≤ (input.length : Int) := by omega
  have HIL := hid hil; clear hil
  go_enter Try.func5, Try.ntmps5
  go_wp2_with (first | (go_at_call 9; refine (awake_any _).mono ?_; rintro e w1 ⟨rfl, hb1⟩; have e1 := box_cell hb1 0 _ rfl; have HB1 := hid (bthen (below_alloc w _) hb1); have z1 := lt_of_cell e1; dsimp only at z1; clear hb1) | (go_at_call 15; refine (new_yes n _ hlo hhi).mono ?_; rintro e w2 ⟨bb, mb, rfl, hbb, hmb, hs2, hb2⟩; have e2 := below_cell hb2 e1; have HB2 := hid hb2; have HBB := hid (And.intro hbb hmb); have HS2 := hid hs2; have z2 := lt_of_cell e2; dsimp only at z2; clear hs2 hb2 hbb hmb))
  have hp3 : (w2.alloc (.cells #[.pointer (some ⟨bb, 0, none⟩)] 36)).cell? ⟨w2.heap.size, 0, none⟩ = some (.pointer (some ⟨bb, 0, none⟩)) := by go_simp
  have hap : Apart (w2.alloc (.cells #[.pointer (some ⟨bb, 0, none⟩)] 36)) bb mb none w2.heap.size := HS2.out.apart _
  have HP3 := hid hp3; have HAP := hid hap
  have hs3 : BSt (w2.alloc (.cells #[.pointer (some ⟨bb, 0, none⟩)] 36)) bb mb none 0 ⟨n, [], 0⟩ := HS2.out.below (below_alloc _ _)
  have hb3 : Below w1.heap.size w1 (w2.alloc (.cells #[.pointer (some ⟨bb, 0, none⟩)] 36)) := bthen HB2.out (below_alloc _ _)
  have HS3 := hid hs3; have HB3 := hid hb3; clear hp3 hap hs3 hb3
  obtain ⟨w3, hw3⟩ : ∃ w3, w3 = w2.alloc (.cells #[.pointer (some ⟨bb, 0, none⟩)] 36) := ⟨_, rfl⟩
  rw [← hw3] at HP3 HAP HS3 HB3
  rw [← hw3]
  have HW3 := hid hw3; clear hw3
  go_loopw [41] (fun i wr => ∃ k : Nat, ∃ A c s, k ≤ O.length ∧ i = .int .i64 k ∧ BSt wr bb mb A c s ∧ s.Inv ∧ s.n = n ∧ s.er = 0 ∧ Step w3 wr bb mb none A)
    (fun i _ => O.length - (intOf i).toNat)
  case atStart =>
    exact ⟨0, none, 0, ⟨n, [], 0⟩, by omega, rfl, HS3.out, ⟨⟨hlo, hhi, by simp; omega⟩, ⟨hlo, hhi, by simp; omega, fun k hk => by simp at hk⟩⟩, rfl, rfl, Step.of_below (Below.refl _ _)⟩
  case round =>
    obtain ⟨k, A, c, s, hk, rfl, hs, hinv, hsn, her, st⟩ := hrel
    have hbr : Below w1.heap.size w1 wr := Step.below_of HB3.out HBB.out.1 HBB.out.2 st
    have HS := hid hs; have HINV := hid hinv; have HSN := hid hsn; have HE := hid her; have ST := hid st
    have HNS := hid (show (input.length : Int) = s.n from HIL.out.trans hsn.symm)
    have p0 : wr.cell? ⟨w2.heap.size, 0, none⟩ = some (.pointer (some ⟨bb, 0, none⟩)) := (cell_of_keep (st.keep _ HAP.out) 0).trans HP3.out
    have i0 := below_cell hbr e1
    have HBR := hid hbr
    have y0 := lt_of_cell p0; have y1 := lt_of_cell i0; dsimp only at y0 y1
    clear hs hinv hsn her st hbr
    by_cases hlt : k < O.length
    · obtain ⟨sb, so, rfl, m0, m1, m2, m3⟩ := hO.op k hlt
      obtain ⟨o, ho⟩ : ∃ o, o = O.getD k gop0 := ⟨_, rfl⟩
      rw [← ho] at m0 m1 m2 m3
      clear ho
      obtain ⟨kk, aa, b2, cc2⟩ := o
      have hbw := bthen HB1.out HBR.out
      have m0 := below_cell hbw m0; have m1 := below_cell hbw m1; have m2 := below_cell hbw m2; have m3 := below_cell hbw m3
      have hir := hI.below hbw
      have HIR := hid hir
      clear hbw hir
      have hst := step_inv HINV.out HNS.out kk aa b2 cc2
      obtain ⟨r, z, hr⟩ : ∃ r z, s.step kk aa b2 cc2 = (r, z) := ⟨_, _, rfl⟩
      rw [hr] at hst
      obtain ⟨hri, hrn, hre⟩ := hst
      have HRI := hid hri; have HRS := hid (show r.n = n from hrn.trans HSN.out); have HRN := hid (show (input.length : Int) = r.n from HNS.out.trans hrn.symm)
      have HRNS := hid hrn; have HRE := hid hre
      have HR := hid hr; clear hri hrn hre hr
      have ado : Calls Try.prog 23 #[.pointer (some ⟨bb, 0, none⟩), .agg #[.int .i64 kk, .int .i64 aa, .int .i64 b2, .int .i64 cc2]] (wr.alloc (.cells #[.int .i64 kk, .int .i64 aa, .int .i64 b2, .int .i64 cc2] 48)) fun e w5 =>
          e = .returned (.int .i64 z) ∧ ∃ A5 c5, MS w5 bb mb A5 c5 r w2.heap.size w.heap.size wr.heap.size ia ic input ⟨kk, aa, b2, cc2⟩ ∧ Step w3 w5 bb mb none A5 := by
        refine (do_any (HS.out.below (below_alloc wr _)) kk aa b2 cc2).mono ?_
        rw [HR.out]
        rintro e w5 ⟨rfl, A5, c5, hs5, st5⟩
        have hap5 := HS.out.apart (.cells #[.int .i64 kk, .int .i64 aa, .int .i64 b2, .int .i64 cc2] 48)
        have st35 := ST.out.trans ((Step.of_below (below_alloc wr _)).trans st5)
        have hb5 : Below w1.heap.size w1 w5 := Step.below_of HB3.out HBB.out.1 HBB.out.2 st35
        have hc := fun j => cell_of_keep (st5.keep _ hap5) j
        exact ⟨rfl, A5, c5, ⟨hs5, (cell_of_keep (st35.keep _ HAP.out) 0).trans HP3.out, below_cell hb5 e1, hI.below (bthen HB1.out hb5), (hc 0).trans (by go_simp), (hc 1).trans (by go_simp), (hc 2).trans (by go_simp), (hc 3).trans (by go_simp)⟩, st35⟩
      have ADO := hid ado; clear ado
      by_cases her : r.er = 0
      · have g5 : (r.er != 0) = false := by simp [her]
        have HER := hid her; clear her
        by_cases h0 : kk = 0
        · subst h0
          have hstep : s.step 0 aa b2 cc2 = s.inp aa := by unfold PB.step; rw [if_pos rfl]
          have hres := inp_res (input := input) HINV.out HNS.out aa
          rw [← hstep, HR.out] at hres
          obtain ⟨_, hP, hlz, hvz⟩ := hres.val HER.out
          simp only [] at hlz hvz
          have zb := PB.lit_bd HRI.out.ok hlz
          clear hstep hres
          obtain ⟨p, rfl⟩ := Int.eq_ofNat_of_zero_le hP.1
          have hp : p < input.length := by have := hP.2; have := HSN.out; omega
          have hpi : (p : Int) < (input.length : Int) := by omega
          have k0 : decide ((p : Int) < 0) = false := by simp
          have k1 : decide ((input.length : Int) ≤ (p : Int)) = false := by simp; omega
          obtain ⟨vb, vo, rfl, hx⟩ := hI.bool p hp
          have hbp : (bools input).getD p undef = .bool (input.getD p false) := by simp [bools, List.getD_eq_getElem?_getD, hp]
          rw [show ((p : Int)).toNat = p from by omega] at hvz
          obtain ⟨v, hv⟩ : ∃ v, input.getD p false = v := ⟨_, rfl⟩
          rw [hv] at hbp hvz
          have HBP := hid hbp; have HP := hid hP; have HLZ := hid hlz; clear hbp hP hlz hv hx
          have HPL := hid (show p < (bools input).length from by simp [bools]; exact hp)
          cases v with
          | true =>
            have HVZ := hid (new_val (v := true) HLZ.out hvz); clear hvz
            go_wp2_with (first
          | (go_at_call 23; refine ADO.out.mono ?_; rintro e w5 ⟨rfl, A5, c5, hm, st5⟩; have HM := hid hm; have ST5 := hid st5; have HB8 := hid (Below.refl w5.heap.size w5); have q0 := hm.o0; have q1 := hm.o1; have q2 := hm.o2; have q3 := hm.o3; have q4 := hm.i0; have q5 := hm.p0; have q6 := (hm.row.cell p HPL.out).trans (congrArg some HBP.out); clear hm st5)
          | (go_at_call 19; refine (err_any HM.out.bst).mono ?_; rintro e w6 ⟨rfl, hw6⟩; rw [← hw6]; clear hw6 w6)
          | (go_at_call 18; refine (not_any z _ (by omega) (by omega)).mono ?_; rintro e w9 ⟨rfl, hw9⟩; rw [hw9]; clear hw9 w9)
          | (go_at_call 22; with_reducible refine (HM.out.value HRI.out hic HRN.out z true HVZ.out.1).mono ?_; rintro e w8 ⟨rfl, hb8⟩; have HM := hid (HM.out.below hb8); have HB8 := hid (bthen HB8.out hb8); have q0 := HM.out.o0; have q1 := HM.out.o1; have q2 := HM.out.o2; have q3 := HM.out.o3; have q4 := HM.out.i0; clear hb8)
          | (go_at_call 22; with_reducible refine (HM.out.value HRI.out hic HRN.out (notI z) (!true) HVZ.out.2).mono ?_; rintro e w8 ⟨rfl, hb8⟩; have HM := hid (HM.out.below hb8); have HB8 := hid (bthen HB8.out hb8); have q0 := HM.out.o0; have q1 := HM.out.o1; have q2 := HM.out.o2; have q3 := HM.out.o3; have q4 := HM.out.i0; clear hb8))
            exact ⟨⟨k + 1, A5, c5, r, by omega, by go_num, HM.out.bst, HRI.out, HRS.out, HER.out, ST5.out.trans (Step.of_below HB8.out)⟩, by simp [intOf]; omega⟩
          | false =>
            have HVZ := hid (new_val (v := false) HLZ.out hvz); clear hvz
            go_wp2_with (first
          | (go_at_call 23; refine ADO.out.mono ?_; rintro e w5 ⟨rfl, A5, c5, hm, st5⟩; have HM := hid hm; have ST5 := hid st5; have HB8 := hid (Below.refl w5.heap.size w5); have q0 := hm.o0; have q1 := hm.o1; have q2 := hm.o2; have q3 := hm.o3; have q4 := hm.i0; have q5 := hm.p0; have q6 := (hm.row.cell p HPL.out).trans (congrArg some HBP.out); clear hm st5)
          | (go_at_call 19; refine (err_any HM.out.bst).mono ?_; rintro e w6 ⟨rfl, hw6⟩; rw [← hw6]; clear hw6 w6)
          | (go_at_call 18; refine (not_any z _ (by omega) (by omega)).mono ?_; rintro e w9 ⟨rfl, hw9⟩; rw [hw9]; clear hw9 w9)
          | (go_at_call 22; with_reducible refine (HM.out.value HRI.out hic HRN.out z false HVZ.out.1).mono ?_; rintro e w8 ⟨rfl, hb8⟩; have HM := hid (HM.out.below hb8); have HB8 := hid (bthen HB8.out hb8); have q0 := HM.out.o0; have q1 := HM.out.o1; have q2 := HM.out.o2; have q3 := HM.out.o3; have q4 := HM.out.i0; clear hb8)
          | (go_at_call 22; with_reducible refine (HM.out.value HRI.out hic HRN.out (notI z) (!false) HVZ.out.2).mono ?_; rintro e w8 ⟨rfl, hb8⟩; have HM := hid (HM.out.below hb8); have HB8 := hid (bthen HB8.out hb8); have q0 := HM.out.o0; have q1 := HM.out.o1; have q2 := HM.out.o2; have q3 := HM.out.o3; have q4 := HM.out.i0; clear hb8))
            exact ⟨⟨k + 1, A5, c5, r, by omega, by go_num, HM.out.bst, HRI.out, HRS.out, HER.out, ST5.out.trans (Step.of_below HB8.out)⟩, by simp [intOf]; omega⟩
        by_cases h1 : kk = 1
        · subst h1; clear h0
          have hstep : s.step 1 aa b2 cc2 = s.and aa b2 := by unfold PB.step; rw [if_neg (by decide), if_pos rfl]
          have hres := and_res (input := input) HINV.out HNS.out aa b2
          rw [← hstep, HR.out] at hres
          obtain ⟨_, hP, hlz, hvz⟩ := hres.val HER.out
          simp only [] at hlz hvz
          have zb := PB.lit_bd HRI.out.ok hlz
          clear hstep hres
          obtain ⟨va, hva⟩ : ∃ v, litVal (valsF input s.G) aa = v := ⟨_, rfl⟩
          obtain ⟨vb, hvb⟩ : ∃ v, litVal (valsF input s.G) b2 = v := ⟨_, rfl⟩
          have Hva0 := old_val HNS.out HRNS.out HRE.out hP.1 hva
          have Hvb0 := old_val HNS.out HRNS.out HRE.out hP.2 hvb
          rw [hva, hvb] at hvz
          have HP := hid hP; have HLZ := hid hlz; clear hP hlz hva hvb
          cases va with
          | true =>
            cases vb with
            | true =>
              have HVZ := hid (new_val (v := true) HLZ.out (hvz.trans rfl)); clear hvz
              have Hva := hid Hva0; clear Hva0
              have Hvb := hid Hvb0; clear Hvb0
              go_wp2_with (first
          | (go_at_call 23; refine ADO.out.mono ?_; rintro e w5 ⟨rfl, A5, c5, hm, st5⟩; have HM := hid hm; have ST5 := hid st5; have HB8 := hid (Below.refl w5.heap.size w5); have q0 := hm.o0; have q1 := hm.o1; have q2 := hm.o2; have q3 := hm.o3; have q4 := hm.i0; have q5 := hm.p0;  clear hm st5)
          | (go_at_call 19; refine (err_any HM.out.bst).mono ?_; rintro e w6 ⟨rfl, hw6⟩; rw [← hw6]; clear hw6 w6)
          | (go_at_call 18; refine (not_any z _ (by omega) (by omega)).mono ?_; rintro e w9 ⟨rfl, hw9⟩; rw [hw9]; clear hw9 w9)
          | (go_at_call 22; with_reducible refine (HM.out.value HRI.out hic HRN.out aa true Hva.out).mono ?_; rintro e w8 ⟨rfl, hb8⟩; have HM := hid (HM.out.below hb8); have HB8 := hid (bthen HB8.out hb8); have q0 := HM.out.o0; have q1 := HM.out.o1; have q2 := HM.out.o2; have q3 := HM.out.o3; have q4 := HM.out.i0; clear hb8)
          | (go_at_call 22; with_reducible refine (HM.out.value HRI.out hic HRN.out b2 true Hvb.out).mono ?_; rintro e w8 ⟨rfl, hb8⟩; have HM := hid (HM.out.below hb8); have HB8 := hid (bthen HB8.out hb8); have q0 := HM.out.o0; have q1 := HM.out.o1; have q2 := HM.out.o2; have q3 := HM.out.o3; have q4 := HM.out.i0; clear hb8)
          | (go_at_call 22; with_reducible refine (HM.out.value HRI.out hic HRN.out z true HVZ.out.1).mono ?_; rintro e w8 ⟨rfl, hb8⟩; have HM := hid (HM.out.below hb8); have HB8 := hid (bthen HB8.out hb8); have q0 := HM.out.o0; have q1 := HM.out.o1; have q2 := HM.out.o2; have q3 := HM.out.o3; have q4 := HM.out.i0; clear hb8)
          | (go_at_call 22; with_reducible refine (HM.out.value HRI.out hic HRN.out (notI z) (!true) HVZ.out.2).mono ?_; rintro e w8 ⟨rfl, hb8⟩; have HM := hid (HM.out.below hb8); have HB8 := hid (bthen HB8.out hb8); have q0 := HM.out.o0; have q1 := HM.out.o1; have q2 := HM.out.o2; have q3 := HM.out.o3; have q4 := HM.out.i0; clear hb8))
              exact ⟨⟨k + 1, A5, c5, r, by omega, by go_num, HM.out.bst, HRI.out, HRS.out, HER.out, ST5.out.trans (Step.of_below HB8.out)⟩, by simp [intOf]; omega⟩
            | false =>
              have HVZ := hid (new_val (v := false) HLZ.out (hvz.trans rfl)); clear hvz
              have Hva := hid Hva0; clear Hva0
              have Hvb := hid Hvb0; clear Hvb0
              go_wp2_with (first
          | (go_at_call 23; refine ADO.out.mono ?_; rintro e w5 ⟨rfl, A5, c5, hm, st5⟩; have HM := hid hm; have ST5 := hid st5; have HB8 := hid (Below.refl w5.heap.size w5); have q0 := hm.o0; have q1 := hm.o1; have q2 := hm.o2; have q3 := hm.o3; have q4 := hm.i0; have q5 := hm.p0;  clear hm st5)
          | (go_at_call 19; refine (err_any HM.out.bst).mono ?_; rintro e w6 ⟨rfl, hw6⟩; rw [← hw6]; clear hw6 w6)
          | (go_at_call 18; refine (not_any z _ (by omega) (by omega)).mono ?_; rintro e w9 ⟨rfl, hw9⟩; rw [hw9]; clear hw9 w9)
          | (go_at_call 22; with_reducible refine (HM.out.value HRI.out hic HRN.out aa true Hva.out).mono ?_; rintro e w8 ⟨rfl, hb8⟩; have HM := hid (HM.out.below hb8); have HB8 := hid (bthen HB8.out hb8); have q0 := HM.out.o0; have q1 := HM.out.o1; have q2 := HM.out.o2; have q3 := HM.out.o3; have q4 := HM.out.i0; clear hb8)
          | (go_at_call 22; with_reducible refine (HM.out.value HRI.out hic HRN.out b2 false Hvb.out).mono ?_; rintro e w8 ⟨rfl, hb8⟩; have HM := hid (HM.out.below hb8); have HB8 := hid (bthen HB8.out hb8); have q0 := HM.out.o0; have q1 := HM.out.o1; have q2 := HM.out.o2; have q3 := HM.out.o3; have q4 := HM.out.i0; clear hb8)
          | (go_at_call 22; with_reducible refine (HM.out.value HRI.out hic HRN.out z false HVZ.out.1).mono ?_; rintro e w8 ⟨rfl, hb8⟩; have HM := hid (HM.out.below hb8); have HB8 := hid (bthen HB8.out hb8); have q0 := HM.out.o0; have q1 := HM.out.o1; have q2 := HM.out.o2; have q3 := HM.out.o3; have q4 := HM.out.i0; clear hb8)
          | (go_at_call 22; with_reducible refine (HM.out.value HRI.out hic HRN.out (notI z) (!false) HVZ.out.2).mono ?_; rintro e w8 ⟨rfl, hb8⟩; have HM := hid (HM.out.below hb8); have HB8 := hid (bthen HB8.out hb8); have q0 := HM.out.o0; have q1 := HM.out.o1; have q2 := HM.out.o2; have q3 := HM.out.o3; have q4 := HM.out.i0; clear hb8))
              exact ⟨⟨k + 1, A5, c5, r, by omega, by go_num, HM.out.bst, HRI.out, HRS.out, HER.out, ST5.out.trans (Step.of_below HB8.out)⟩, by simp [intOf]; omega⟩
          | false =>
            have HVZ := hid (new_val (v := false) HLZ.out (hvz.trans rfl)); clear hvz
            have Hva := hid Hva0; clear Hva0
            have Hvb := hid Hvb0; clear Hvb0
            go_wp2_with (first
          | (go_at_call 23; refine ADO.out.mono ?_; rintro e w5 ⟨rfl, A5, c5, hm, st5⟩; have HM := hid hm; have ST5 := hid st5; have HB8 := hid (Below.refl w5.heap.size w5); have q0 := hm.o0; have q1 := hm.o1; have q2 := hm.o2; have q3 := hm.o3; have q4 := hm.i0; have q5 := hm.p0;  clear hm st5)
          | (go_at_call 19; refine (err_any HM.out.bst).mono ?_; rintro e w6 ⟨rfl, hw6⟩; rw [← hw6]; clear hw6 w6)
          | (go_at_call 18; refine (not_any z _ (by omega) (by omega)).mono ?_; rintro e w9 ⟨rfl, hw9⟩; rw [hw9]; clear hw9 w9)
          | (go_at_call 22; with_reducible refine (HM.out.value HRI.out hic HRN.out aa false Hva.out).mono ?_; rintro e w8 ⟨rfl, hb8⟩; have HM := hid (HM.out.below hb8); have HB8 := hid (bthen HB8.out hb8); have q0 := HM.out.o0; have q1 := HM.out.o1; have q2 := HM.out.o2; have q3 := HM.out.o3; have q4 := HM.out.i0; clear hb8)
          | (go_at_call 22; with_reducible refine (HM.out.value HRI.out hic HRN.out b2 vb Hvb.out).mono ?_; rintro e w8 ⟨rfl, hb8⟩; have HM := hid (HM.out.below hb8); have HB8 := hid (bthen HB8.out hb8); have q0 := HM.out.o0; have q1 := HM.out.o1; have q2 := HM.out.o2; have q3 := HM.out.o3; have q4 := HM.out.i0; clear hb8)
          | (go_at_call 22; with_reducible refine (HM.out.value HRI.out hic HRN.out z false HVZ.out.1).mono ?_; rintro e w8 ⟨rfl, hb8⟩; have HM := hid (HM.out.below hb8); have HB8 := hid (bthen HB8.out hb8); have q0 := HM.out.o0; have q1 := HM.out.o1; have q2 := HM.out.o2; have q3 := HM.out.o3; have q4 := HM.out.i0; clear hb8)
          | (go_at_call 22; with_reducible refine (HM.out.value HRI.out hic HRN.out (notI z) (!false) HVZ.out.2).mono ?_; rintro e w8 ⟨rfl, hb8⟩; have HM := hid (HM.out.below hb8); have HB8 := hid (bthen HB8.out hb8); have q0 := HM.out.o0; have q1 := HM.out.o1; have q2 := HM.out.o2; have q3 := HM.out.o3; have q4 := HM.out.i0; clear hb8))
            exact ⟨⟨k + 1, A5, c5, r, by omega, by go_num, HM.out.bst, HRI.out, HRS.out, HER.out, ST5.out.trans (Step.of_below HB8.out)⟩, by simp [intOf]; omega⟩
        by_cases h2 : kk = 2
        · subst h2; clear h0 h1
          have hstep : s.step 2 aa b2 cc2 = s.or aa b2 := by unfold PB.step; rw [if_neg (by decide), if_neg (by decide), if_pos rfl]
          have hres := or_res (input := input) HINV.out HNS.out aa b2
          rw [← hstep, HR.out] at hres
          obtain ⟨_, hP, hlz, hvz⟩ := hres.val HER.out
          simp only [] at hlz hvz
          have zb := PB.lit_bd HRI.out.ok hlz
          clear hstep hres
          obtain ⟨va, hva⟩ : ∃ v, litVal (valsF input s.G) aa = v := ⟨_, rfl⟩
          obtain ⟨vb, hvb⟩ : ∃ v, litVal (valsF input s.G) b2 = v := ⟨_, rfl⟩
          have Hva0 := old_val HNS.out HRNS.out HRE.out hP.1 hva
          have Hvb0 := old_val HNS.out HRNS.out HRE.out hP.2 hvb
          rw [hva, hvb] at hvz
          have HP := hid hP; have HLZ := hid hlz; clear hP hlz hva hvb
          cases va with
          | true =>
            have HVZ := hid (new_val (v := true) HLZ.out (hvz.trans rfl)); clear hvz
            have Hva := hid Hva0; clear Hva0
            have Hvb := hid Hvb0; clear Hvb0
            go_wp2_with (first
          | (go_at_call 23; refine ADO.out.mono ?_; rintro e w5 ⟨rfl, A5, c5, hm, st5⟩; have HM := hid hm; have ST5 := hid st5; have HB8 := hid (Below.refl w5.heap.size w5); have q0 := hm.o0; have q1 := hm.o1; have q2 := hm.o2; have q3 := hm.o3; have q4 := hm.i0; have q5 := hm.p0;  clear hm st5)
          | (go_at_call 19; refine (err_any HM.out.bst).mono ?_; rintro e w6 ⟨rfl, hw6⟩; rw [← hw6]; clear hw6 w6)
          | (go_at_call 18; refine (not_any z _ (by omega) (by omega)).mono ?_; rintro e w9 ⟨rfl, hw9⟩; rw [hw9]; clear hw9 w9)
          | (go_at_call 22; with_reducible refine (HM.out.value HRI.out hic HRN.out aa true Hva.out).mono ?_; rintro e w8 ⟨rfl, hb8⟩; have HM := hid (HM.out.below hb8); have HB8 := hid (bthen HB8.out hb8); have q0 := HM.out.o0; have q1 := HM.out.o1; have q2 := HM.out.o2; have q3 := HM.out.o3; have q4 := HM.out.i0; clear hb8)
          | (go_at_call 22; with_reducible refine (HM.out.value HRI.out hic HRN.out b2 vb Hvb.out).mono ?_; rintro e w8 ⟨rfl, hb8⟩; have HM := hid (HM.out.below hb8); have HB8 := hid (bthen HB8.out hb8); have q0 := HM.out.o0; have q1 := HM.out.o1; have q2 := HM.out.o2; have q3 := HM.out.o3; have q4 := HM.out.i0; clear hb8)
          | (go_at_call 22; with_reducible refine (HM.out.value HRI.out hic HRN.out z true HVZ.out.1).mono ?_; rintro e w8 ⟨rfl, hb8⟩; have HM := hid (HM.out.below hb8); have HB8 := hid (bthen HB8.out hb8); have q0 := HM.out.o0; have q1 := HM.out.o1; have q2 := HM.out.o2; have q3 := HM.out.o3; have q4 := HM.out.i0; clear hb8)
          | (go_at_call 22; with_reducible refine (HM.out.value HRI.out hic HRN.out (notI z) (!true) HVZ.out.2).mono ?_; rintro e w8 ⟨rfl, hb8⟩; have HM := hid (HM.out.below hb8); have HB8 := hid (bthen HB8.out hb8); have q0 := HM.out.o0; have q1 := HM.out.o1; have q2 := HM.out.o2; have q3 := HM.out.o3; have q4 := HM.out.i0; clear hb8))
            exact ⟨⟨k + 1, A5, c5, r, by omega, by go_num, HM.out.bst, HRI.out, HRS.out, HER.out, ST5.out.trans (Step.of_below HB8.out)⟩, by simp [intOf]; omega⟩
          | false =>
            cases vb with
            | true =>
              have HVZ := hid (new_val (v := true) HLZ.out (hvz.trans rfl)); clear hvz
              have Hva := hid Hva0; clear Hva0
              have Hvb := hid Hvb0; clear Hvb0
              go_wp2_with (first
          | (go_at_call 23; refine ADO.out.mono ?_; rintro e w5 ⟨rfl, A5, c5, hm, st5⟩; have HM := hid hm; have ST5 := hid st5; have HB8 := hid (Below.refl w5.heap.size w5); have q0 := hm.o0; have q1 := hm.o1; have q2 := hm.o2; have q3 := hm.o3; have q4 := hm.i0; have q5 := hm.p0;  clear hm st5)
          | (go_at_call 19; refine (err_any HM.out.bst).mono ?_; rintro e w6 ⟨rfl, hw6⟩; rw [← hw6]; clear hw6 w6)
          | (go_at_call 18; refine (not_any z _ (by omega) (by omega)).mono ?_; rintro e w9 ⟨rfl, hw9⟩; rw [hw9]; clear hw9 w9)
          | (go_at_call 22; with_reducible refine (HM.out.value HRI.out hic HRN.out aa false Hva.out).mono ?_; rintro e w8 ⟨rfl, hb8⟩; have HM := hid (HM.out.below hb8); have HB8 := hid (bthen HB8.out hb8); have q0 := HM.out.o0; have q1 := HM.out.o1; have q2 := HM.out.o2; have q3 := HM.out.o3; have q4 := HM.out.i0; clear hb8)
          | (go_at_call 22; with_reducible refine (HM.out.value HRI.out hic HRN.out b2 true Hvb.out).mono ?_; rintro e w8 ⟨rfl, hb8⟩; have HM := hid (HM.out.below hb8); have HB8 := hid (bthen HB8.out hb8); have q0 := HM.out.o0; have q1 := HM.out.o1; have q2 := HM.out.o2; have q3 := HM.out.o3; have q4 := HM.out.i0; clear hb8)
          | (go_at_call 22; with_reducible refine (HM.out.value HRI.out hic HRN.out z true HVZ.out.1).mono ?_; rintro e w8 ⟨rfl, hb8⟩; have HM := hid (HM.out.below hb8); have HB8 := hid (bthen HB8.out hb8); have q0 := HM.out.o0; have q1 := HM.out.o1; have q2 := HM.out.o2; have q3 := HM.out.o3; have q4 := HM.out.i0; clear hb8)
          | (go_at_call 22; with_reducible refine (HM.out.value HRI.out hic HRN.out (notI z) (!true) HVZ.out.2).mono ?_; rintro e w8 ⟨rfl, hb8⟩; have HM := hid (HM.out.below hb8); have HB8 := hid (bthen HB8.out hb8); have q0 := HM.out.o0; have q1 := HM.out.o1; have q2 := HM.out.o2; have q3 := HM.out.o3; have q4 := HM.out.i0; clear hb8))
              exact ⟨⟨k + 1, A5, c5, r, by omega, by go_num, HM.out.bst, HRI.out, HRS.out, HER.out, ST5.out.trans (Step.of_below HB8.out)⟩, by simp [intOf]; omega⟩
            | false =>
              have HVZ := hid (new_val (v := false) HLZ.out (hvz.trans rfl)); clear hvz
              have Hva := hid Hva0; clear Hva0
              have Hvb := hid Hvb0; clear Hvb0
              go_wp2_with (first
          | (go_at_call 23; refine ADO.out.mono ?_; rintro e w5 ⟨rfl, A5, c5, hm, st5⟩; have HM := hid hm; have ST5 := hid st5; have HB8 := hid (Below.refl w5.heap.size w5); have q0 := hm.o0; have q1 := hm.o1; have q2 := hm.o2; have q3 := hm.o3; have q4 := hm.i0; have q5 := hm.p0;  clear hm st5)
          | (go_at_call 19; refine (err_any HM.out.bst).mono ?_; rintro e w6 ⟨rfl, hw6⟩; rw [← hw6]; clear hw6 w6)
          | (go_at_call 18; refine (not_any z _ (by omega) (by omega)).mono ?_; rintro e w9 ⟨rfl, hw9⟩; rw [hw9]; clear hw9 w9)
          | (go_at_call 22; with_reducible refine (HM.out.value HRI.out hic HRN.out aa false Hva.out).mono ?_; rintro e w8 ⟨rfl, hb8⟩; have HM := hid (HM.out.below hb8); have HB8 := hid (bthen HB8.out hb8); have q0 := HM.out.o0; have q1 := HM.out.o1; have q2 := HM.out.o2; have q3 := HM.out.o3; have q4 := HM.out.i0; clear hb8)
          | (go_at_call 22; with_reducible refine (HM.out.value HRI.out hic HRN.out b2 false Hvb.out).mono ?_; rintro e w8 ⟨rfl, hb8⟩; have HM := hid (HM.out.below hb8); have HB8 := hid (bthen HB8.out hb8); have q0 := HM.out.o0; have q1 := HM.out.o1; have q2 := HM.out.o2; have q3 := HM.out.o3; have q4 := HM.out.i0; clear hb8)
          | (go_at_call 22; with_reducible refine (HM.out.value HRI.out hic HRN.out z false HVZ.out.1).mono ?_; rintro e w8 ⟨rfl, hb8⟩; have HM := hid (HM.out.below hb8); have HB8 := hid (bthen HB8.out hb8); have q0 := HM.out.o0; have q1 := HM.out.o1; have q2 := HM.out.o2; have q3 := HM.out.o3; have q4 := HM.out.i0; clear hb8)
          | (go_at_call 22; with_reducible refine (HM.out.value HRI.out hic HRN.out (notI z) (!false) HVZ.out.2).mono ?_; rintro e w8 ⟨rfl, hb8⟩; have HM := hid (HM.out.below hb8); have HB8 := hid (bthen HB8.out hb8); have q0 := HM.out.o0; have q1 := HM.out.o1; have q2 := HM.out.o2; have q3 := HM.out.o3; have q4 := HM.out.i0; clear hb8))
              exact ⟨⟨k + 1, A5, c5, r, by omega, by go_num, HM.out.bst, HRI.out, HRS.out, HER.out, ST5.out.trans (Step.of_below HB8.out)⟩, by simp [intOf]; omega⟩
        by_cases h3 : kk = 3
        · subst h3; clear h0 h1 h2
          have hstep : s.step 3 aa b2 cc2 = s.xor aa b2 := by unfold PB.step; rw [if_neg (by decide), if_neg (by decide), if_neg (by decide), if_pos rfl]
          have hres := xor_res (input := input) HINV.out HNS.out aa b2
          rw [← hstep, HR.out] at hres
          obtain ⟨_, hP, hlz, hvz⟩ := hres.val HER.out
          simp only [] at hlz hvz
          have zb := PB.lit_bd HRI.out.ok hlz
          clear hstep hres
          obtain ⟨va, hva⟩ : ∃ v, litVal (valsF input s.G) aa = v := ⟨_, rfl⟩
          obtain ⟨vb, hvb⟩ : ∃ v, litVal (valsF input s.G) b2 = v := ⟨_, rfl⟩
          have Hva0 := old_val HNS.out HRNS.out HRE.out hP.1 hva
          have Hvb0 := old_val HNS.out HRNS.out HRE.out hP.2 hvb
          rw [hva, hvb] at hvz
          have HP := hid hP; have HLZ := hid hlz; clear hP hlz hva hvb
          cases va with
          | true =>
            cases vb with
            | true =>
              have HVZ := hid (new_val (v := false) HLZ.out (hvz.trans rfl)); clear hvz
              have Hva := hid Hva0; clear Hva0
              have Hvb := hid Hvb0; clear Hvb0
              go_wp2_with (first
          | (go_at_call 23; refine ADO.out.mono ?_; rintro e w5 ⟨rfl, A5, c5, hm, st5⟩; have HM := hid hm; have ST5 := hid st5; have HB8 := hid (Below.refl w5.heap.size w5); have q0 := hm.o0; have q1 := hm.o1; have q2 := hm.o2; have q3 := hm.o3; have q4 := hm.i0; have q5 := hm.p0;  clear hm st5)
          | (go_at_call 19; refine (err_any HM.out.bst).mono ?_; rintro e w6 ⟨rfl, hw6⟩; rw [← hw6]; clear hw6 w6)
          | (go_at_call 18; refine (not_any z _ (by omega) (by omega)).mono ?_; rintro e w9 ⟨rfl, hw9⟩; rw [hw9]; clear hw9 w9)
          | (go_at_call 22; with_reducible refine (HM.out.value HRI.out hic HRN.out aa true Hva.out).mono ?_; rintro e w8 ⟨rfl, hb8⟩; have HM := hid (HM.out.below hb8); have HB8 := hid (bthen HB8.out hb8); have q0 := HM.out.o0; have q1 := HM.out.o1; have q2 := HM.out.o2; have q3 := HM.out.o3; have q4 := HM.out.i0; clear hb8)
          | (go_at_call 22; with_reducible refine (HM.out.value HRI.out hic HRN.out b2 true Hvb.out).mono ?_; rintro e w8 ⟨rfl, hb8⟩; have HM := hid (HM.out.below hb8); have HB8 := hid (bthen HB8.out hb8); have q0 := HM.out.o0; have q1 := HM.out.o1; have q2 := HM.out.o2; have q3 := HM.out.o3; have q4 := HM.out.i0; clear hb8)
          | (go_at_call 22; with_reducible refine (HM.out.value HRI.out hic HRN.out z false HVZ.out.1).mono ?_; rintro e w8 ⟨rfl, hb8⟩; have HM := hid (HM.out.below hb8); have HB8 := hid (bthen HB8.out hb8); have q0 := HM.out.o0; have q1 := HM.out.o1; have q2 := HM.out.o2; have q3 := HM.out.o3; have q4 := HM.out.i0; clear hb8)
          | (go_at_call 22; with_reducible refine (HM.out.value HRI.out hic HRN.out (notI z) (!false) HVZ.out.2).mono ?_; rintro e w8 ⟨rfl, hb8⟩; have HM := hid (HM.out.below hb8); have HB8 := hid (bthen HB8.out hb8); have q0 := HM.out.o0; have q1 := HM.out.o1; have q2 := HM.out.o2; have q3 := HM.out.o3; have q4 := HM.out.i0; clear hb8))
              refine wp_region_J (fun j => match j with | 3 => some (fun W => W.cell? ⟨wr.heap.size, 1, none⟩ = some (.int .i64 aa) ∧ W.cell? ⟨wr.heap.size, 2, none⟩ = some (.int .i64 b2)) | 7 => some (fun W => W.cell? ⟨wr.heap.size, 1, none⟩ = some (.int .i64 aa) ∧ W.cell? ⟨wr.heap.size, 2, none⟩ = some (.int .i64 b2)) | _ => none) (by kernel_rfl) ?_
              refine anyJ_take (some 108) (i := 0) (T := fun _ => True) (v := ?_) rfl rfl (by kernel_rfl) (by kernel_rfl) (by kernel_rfl) (fun _ _ _ h => h) (js := []) (by kernel_rfl) Leads.true rfl (Or.inl ⟨by rfl, ?_⟩) trivial ?_
              rotate_left
              · (intro wL hSw; (try dsimp only at hSw); go_simp; try with_reducible rfl)
              try simp only [Act.put, List.setIfInBounds_toArray, List.set_cons_zero, List.set_cons_succ]
              refine anyJ_take (some 109) (i := 1) (T := fun _ => True) (v := ?_) rfl rfl (by kernel_rfl) (by kernel_rfl) (by kernel_rfl) (fun _ _ _ h => h) (js := []) (by kernel_rfl) Leads.true rfl (Or.inl ⟨by rfl, ?_⟩) trivial ?_
              rotate_left
              · (intro wL hSw; (try dsimp only at hSw); go_simp; try with_reducible rfl)
              try simp only [Act.put, List.setIfInBounds_toArray, List.set_cons_zero, List.set_cons_succ]
              refine anyJ_take (some 110) (i := 2) (T := fun W => W.cell? ⟨wr.heap.size, 1, none⟩ = some (.int .i64 aa)) (v := ?_) rfl rfl (by kernel_rfl) (by kernel_rfl) (by kernel_rfl) (fun _ _ _ h => h) (js := []) (by kernel_rfl) Leads.nil rfl (Or.inl ⟨by rfl, ?_⟩) (q1) ?_
              rotate_left
              · (intro wL hSw; (try dsimp only at hSw); go_simp; try with_reducible rfl)
              try simp only [Act.put, List.setIfInBounds_toArray, List.set_cons_zero, List.set_cons_succ]
              refine anyJ_take (some 112) (i := 4) (T := fun _ => True) (v := ?_) rfl rfl (by kernel_rfl) (by kernel_rfl) (by kernel_rfl) (fun _ _ _ h => h) (js := [3]) (by kernel_rfl) Leads.true rfl (Or.inl ⟨by rfl, ?_⟩) trivial ?_
              rotate_left
              · (intro wL hSw; (try dsimp only at hSw); go_simp; try with_reducible rfl)
              try simp only [Act.put, List.setIfInBounds_toArray, List.set_cons_zero, List.set_cons_succ]
              refine anyJ_take (some 113) (i := 5) (T := fun _ => True) (v := ?_) rfl rfl (by kernel_rfl) (by kernel_rfl) (by kernel_rfl) (fun _ _ _ h => h) (js := [3]) (by kernel_rfl) Leads.true rfl (Or.inl ⟨by rfl, ?_⟩) trivial ?_
              rotate_left
              · (intro wL hSw; (try dsimp only at hSw); go_simp; try with_reducible rfl)
              try simp only [Act.put, List.setIfInBounds_toArray, List.set_cons_zero, List.set_cons_succ]
              refine anyJ_take (some 114) (i := 6) (T := fun W => W.cell? ⟨wr.heap.size, 2, none⟩ = some (.int .i64 b2)) (v := ?_) rfl rfl (by kernel_rfl) (by kernel_rfl) (by kernel_rfl) (fun _ _ _ h => h) (js := [3]) (by kernel_rfl) (Leads.cons _ rfl (fun w h => h.2) Leads.nil) rfl (Or.inl ⟨by rfl, ?_⟩) (q2) ?_
              rotate_left
              · (intro wL hSw; (try dsimp only at hSw); go_simp; try with_reducible rfl)
              try simp only [Act.put, List.setIfInBounds_toArray, List.set_cons_zero, List.set_cons_succ]
              refine anyJ_one (i := 3) (oi := { dst := some 111, op := Go.Op.call { callee := Go.Callee.value (Go.Operand.tmp 108), args := #[Go.Operand.tmp 110], argTypes := #[3] }, type := 4, pos := "law.go:117", after := #[{ on := 0, ground := Go.Ground.data }, { on := 2, ground := Go.Ground.data }], guard := none }) rfl (by kernel_rfl) (by rfl) (fun K hK => ?_)
              go_simp
              refine ((HM.out.below (below_drew' _)).value HRI.out hic HRN.out aa true Hva.out).mono ?_
              rintro e w8 ⟨rfl, hb8⟩; have HM := hid (HM.out.below (bthen (below_drew' _) hb8)); have HB8 := hid (bthen HB8.out (bthen (below_drew' _) hb8)); have q0 := HM.out.o0; have q1 := HM.out.o1; have q2 := HM.out.o2; have q3 := HM.out.o3; have q4 := HM.out.i0; clear hb8
              refine hK.out _ _ (by dsimp only [Obl]; exact ⟨q1, q2⟩) ?_
              clear hK K
              try simp only [Act.put, List.setIfInBounds_toArray, List.set_cons_zero, List.set_cons_succ]
              refine anyJ_one (i := 7) (oi := { dst := some 115, op := Go.Op.call { callee := Go.Callee.value (Go.Operand.tmp 112), args := #[Go.Operand.tmp 114], argTypes := #[3] }, type := 4, pos := "law.go:117", after := #[{ on := 4, ground := Go.Ground.data }, { on := 6, ground := Go.Ground.data }, { on := 3, ground := Go.Ground.chain }], guard := none }) rfl (by kernel_rfl) (by rfl) (fun K hK => ?_)
              go_simp
              refine (HM.out.value HRI.out hic HRN.out b2 true Hvb.out).mono ?_
              rintro e w8 ⟨rfl, hb8⟩; have HM := hid (HM.out.below hb8); have HB8 := hid (bthen HB8.out hb8); have q0 := HM.out.o0; have q1 := HM.out.o1; have q2 := HM.out.o2; have q3 := HM.out.o3; have q4 := HM.out.i0; clear hb8
              refine hK.out _ _ (by dsimp only [Obl]; exact ⟨q1, q2⟩) ?_
              clear hK K
              try simp only [Act.put, List.setIfInBounds_toArray, List.set_cons_zero, List.set_cons_succ]
              refine anyJ_take (some 116) (i := 8) (T := fun _ => True) (v := ?_) rfl rfl (by kernel_rfl) (by kernel_rfl) (by kernel_rfl) (fun _ _ _ h => h) (js := [3, 7]) (by kernel_rfl) Leads.true rfl (Or.inl ⟨by rfl, ?_⟩) trivial ?_
              rotate_left
              · (intro wL hSw; (try dsimp only at hSw); go_simp; try with_reducible rfl)
              try simp only [Act.put, List.setIfInBounds_toArray, List.set_cons_zero, List.set_cons_succ]
              refine anyJ_take (some 13) (i := 9) (T := fun _ => True) (v := ?_) rfl rfl (by kernel_rfl) (by kernel_rfl) (by kernel_rfl) (fun _ _ _ h => h) (js := [3, 7]) (by kernel_rfl) Leads.true rfl (Or.inl ⟨by rfl, ?_⟩) trivial ?_
              rotate_left
              · (intro wL hSw; (try dsimp only at hSw); go_simp; try with_reducible rfl)
              try simp only [Act.put, List.setIfInBounds_toArray, List.set_cons_zero, List.set_cons_succ]
              refine anyJ_done (by kernel_rfl) ?_
              go_wp2_with (first
          | (go_at_call 23; refine ADO.out.mono ?_; rintro e w5 ⟨rfl, A5, c5, hm, st5⟩; have HM := hid hm; have ST5 := hid st5; have HB8 := hid (Below.refl w5.heap.size w5); have q0 := hm.o0; have q1 := hm.o1; have q2 := hm.o2; have q3 := hm.o3; have q4 := hm.i0; have q5 := hm.p0;  clear hm st5)
          | (go_at_call 19; refine (err_any HM.out.bst).mono ?_; rintro e w6 ⟨rfl, hw6⟩; rw [← hw6]; clear hw6 w6)
          | (go_at_call 18; refine (not_any z _ (by omega) (by omega)).mono ?_; rintro e w9 ⟨rfl, hw9⟩; rw [hw9]; clear hw9 w9)
          | (go_at_call 22; with_reducible refine (HM.out.value HRI.out hic HRN.out aa true Hva.out).mono ?_; rintro e w8 ⟨rfl, hb8⟩; have HM := hid (HM.out.below hb8); have HB8 := hid (bthen HB8.out hb8); have q0 := HM.out.o0; have q1 := HM.out.o1; have q2 := HM.out.o2; have q3 := HM.out.o3; have q4 := HM.out.i0; clear hb8)
          | (go_at_call 22; with_reducible refine (HM.out.value HRI.out hic HRN.out b2 true Hvb.out).mono ?_; rintro e w8 ⟨rfl, hb8⟩; have HM := hid (HM.out.below hb8); have HB8 := hid (bthen HB8.out hb8); have q0 := HM.out.o0; have q1 := HM.out.o1; have q2 := HM.out.o2; have q3 := HM.out.o3; have q4 := HM.out.i0; clear hb8)
          | (go_at_call 22; with_reducible refine (HM.out.value HRI.out hic HRN.out z false HVZ.out.1).mono ?_; rintro e w8 ⟨rfl, hb8⟩; have HM := hid (HM.out.below hb8); have HB8 := hid (bthen HB8.out hb8); have q0 := HM.out.o0; have q1 := HM.out.o1; have q2 := HM.out.o2; have q3 := HM.out.o3; have q4 := HM.out.i0; clear hb8)
          | (go_at_call 22; with_reducible refine (HM.out.value HRI.out hic HRN.out (notI z) (!false) HVZ.out.2).mono ?_; rintro e w8 ⟨rfl, hb8⟩; have HM := hid (HM.out.below hb8); have HB8 := hid (bthen HB8.out hb8); have q0 := HM.out.o0; have q1 := HM.out.o1; have q2 := HM.out.o2; have q3 := HM.out.o3; have q4 := HM.out.i0; clear hb8))
              exact ⟨⟨k + 1, A5, c5, r, by omega, by go_num, HM.out.bst, HRI.out, HRS.out, HER.out, ST5.out.trans (Step.of_below HB8.out)⟩, by simp [intOf]; omega⟩
            | false =>
              have HVZ := hid (new_val (v := true) HLZ.out (hvz.trans rfl)); clear hvz
              have Hva := hid Hva0; clear Hva0
              have Hvb := hid Hvb0; clear Hvb0
              go_wp2_with (first
          | (go_at_call 23; refine ADO.out.mono ?_; rintro e w5 ⟨rfl, A5, c5, hm, st5⟩; have HM := hid hm; have ST5 := hid st5; have HB8 := hid (Below.refl w5.heap.size w5); have q0 := hm.o0; have q1 := hm.o1; have q2 := hm.o2; have q3 := hm.o3; have q4 := hm.i0; have q5 := hm.p0;  clear hm st5)
          | (go_at_call 19; refine (err_any HM.out.bst).mono ?_; rintro e w6 ⟨rfl, hw6⟩; rw [← hw6]; clear hw6 w6)
          | (go_at_call 18; refine (not_any z _ (by omega) (by omega)).mono ?_; rintro e w9 ⟨rfl, hw9⟩; rw [hw9]; clear hw9 w9)
          | (go_at_call 22; with_reducible refine (HM.out.value HRI.out hic HRN.out aa true Hva.out).mono ?_; rintro e w8 ⟨rfl, hb8⟩; have HM := hid (HM.out.below hb8); have HB8 := hid (bthen HB8.out hb8); have q0 := HM.out.o0; have q1 := HM.out.o1; have q2 := HM.out.o2; have q3 := HM.out.o3; have q4 := HM.out.i0; clear hb8)
          | (go_at_call 22; with_reducible refine (HM.out.value HRI.out hic HRN.out b2 false Hvb.out).mono ?_; rintro e w8 ⟨rfl, hb8⟩; have HM := hid (HM.out.below hb8); have HB8 := hid (bthen HB8.out hb8); have q0 := HM.out.o0; have q1 := HM.out.o1; have q2 := HM.out.o2; have q3 := HM.out.o3; have q4 := HM.out.i0; clear hb8)
          | (go_at_call 22; with_reducible refine (HM.out.value HRI.out hic HRN.out z true HVZ.out.1).mono ?_; rintro e w8 ⟨rfl, hb8⟩; have HM := hid (HM.out.below hb8); have HB8 := hid (bthen HB8.out hb8); have q0 := HM.out.o0; have q1 := HM.out.o1; have q2 := HM.out.o2; have q3 := HM.out.o3; have q4 := HM.out.i0; clear hb8)
          | (go_at_call 22; with_reducible refine (HM.out.value HRI.out hic HRN.out (notI z) (!true) HVZ.out.2).mono ?_; rintro e w8 ⟨rfl, hb8⟩; have HM := hid (HM.out.below hb8); have HB8 := hid (bthen HB8.out hb8); have q0 := HM.out.o0; have q1 := HM.out.o1; have q2 := HM.out.o2; have q3 := HM.out.o3; have q4 := HM.out.i0; clear hb8))
              refine wp_region_J (fun j => match j with | 3 => some (fun W => W.cell? ⟨wr.heap.size, 1, none⟩ = some (.int .i64 aa) ∧ W.cell? ⟨wr.heap.size, 2, none⟩ = some (.int .i64 b2)) | 7 => some (fun W => W.cell? ⟨wr.heap.size, 1, none⟩ = some (.int .i64 aa) ∧ W.cell? ⟨wr.heap.size, 2, none⟩ = some (.int .i64 b2)) | _ => none) (by kernel_rfl) ?_
              refine anyJ_take (some 108) (i := 0) (T := fun _ => True) (v := ?_) rfl rfl (by kernel_rfl) (by kernel_rfl) (by kernel_rfl) (fun _ _ _ h => h) (js := []) (by kernel_rfl) Leads.true rfl (Or.inl ⟨by rfl, ?_⟩) trivial ?_
              rotate_left
              · (intro wL hSw; (try dsimp only at hSw); go_simp; try with_reducible rfl)
              try simp only [Act.put, List.setIfInBounds_toArray, List.set_cons_zero, List.set_cons_succ]
              refine anyJ_take (some 109) (i := 1) (T := fun _ => True) (v := ?_) rfl rfl (by kernel_rfl) (by kernel_rfl) (by kernel_rfl) (fun _ _ _ h => h) (js := []) (by kernel_rfl) Leads.true rfl (Or.inl ⟨by rfl, ?_⟩) trivial ?_
              rotate_left
              · (intro wL hSw; (try dsimp only at hSw); go_simp; try with_reducible rfl)
              try simp only [Act.put, List.setIfInBounds_toArray, List.set_cons_zero, List.set_cons_succ]
              refine anyJ_take (some 110) (i := 2) (T := fun W => W.cell? ⟨wr.heap.size, 1, none⟩ = some (.int .i64 aa)) (v := ?_) rfl rfl (by kernel_rfl) (by kernel_rfl) (by kernel_rfl) (fun _ _ _ h => h) (js := []) (by kernel_rfl) Leads.nil rfl (Or.inl ⟨by rfl, ?_⟩) (q1) ?_
              rotate_left
              · (intro wL hSw; (try dsimp only at hSw); go_simp; try with_reducible rfl)
              try simp only [Act.put, List.setIfInBounds_toArray, List.set_cons_zero, List.set_cons_succ]
              refine anyJ_take (some 112) (i := 4) (T := fun _ => True) (v := ?_) rfl rfl (by kernel_rfl) (by kernel_rfl) (by kernel_rfl) (fun _ _ _ h => h) (js := [3]) (by kernel_rfl) Leads.true rfl (Or.inl ⟨by rfl, ?_⟩) trivial ?_
              rotate_left
              · (intro wL hSw; (try dsimp only at hSw); go_simp; try with_reducible rfl)
              try simp only [Act.put, List.setIfInBounds_toArray, List.set_cons_zero, List.set_cons_succ]
              refine anyJ_take (some 113) (i := 5) (T := fun _ => True) (v := ?_) rfl rfl (by kernel_rfl) (by kernel_rfl) (by kernel_rfl) (fun _ _ _ h => h) (js := [3]) (by kernel_rfl) Leads.true rfl (Or.inl ⟨by rfl, ?_⟩) trivial ?_
              rotate_left
              · (intro wL hSw; (try dsimp only at hSw); go_simp; try with_reducible rfl)
              try simp only [Act.put, List.setIfInBounds_toArray, List.set_cons_zero, List.set_cons_succ]
              refine anyJ_take (some 114) (i := 6) (T := fun W => W.cell? ⟨wr.heap.size, 2, none⟩ = some (.int .i64 b2)) (v := ?_) rfl rfl (by kernel_rfl) (by kernel_rfl) (by kernel_rfl) (fun _ _ _ h => h) (js := [3]) (by kernel_rfl) (Leads.cons _ rfl (fun w h => h.2) Leads.nil) rfl (Or.inl ⟨by rfl, ?_⟩) (q2) ?_
              rotate_left
              · (intro wL hSw; (try dsimp only at hSw); go_simp; try with_reducible rfl)
              try simp only [Act.put, List.setIfInBounds_toArray, List.set_cons_zero, List.set_cons_succ]
              refine anyJ_one (i := 3) (oi := { dst := some 111, op := Go.Op.call { callee := Go.Callee.value (Go.Operand.tmp 108), args := #[Go.Operand.tmp 110], argTypes := #[3] }, type := 4, pos := "law.go:117", after := #[{ on := 0, ground := Go.Ground.data }, { on := 2, ground := Go.Ground.data }], guard := none }) rfl (by kernel_rfl) (by rfl) (fun K hK => ?_)
              go_simp
              refine ((HM.out.below (below_drew' _)).value HRI.out hic HRN.out aa true Hva.out).mono ?_
              rintro e w8 ⟨rfl, hb8⟩; have HM := hid (HM.out.below (bthen (below_drew' _) hb8)); have HB8 := hid (bthen HB8.out (bthen (below_drew' _) hb8)); have q0 := HM.out.o0; have q1 := HM.out.o1; have q2 := HM.out.o2; have q3 := HM.out.o3; have q4 := HM.out.i0; clear hb8
              refine hK.out _ _ (by dsimp only [Obl]; exact ⟨q1, q2⟩) ?_
              clear hK K
              try simp only [Act.put, List.setIfInBounds_toArray, List.set_cons_zero, List.set_cons_succ]
              refine anyJ_one (i := 7) (oi := { dst := some 115, op := Go.Op.call { callee := Go.Callee.value (Go.Operand.tmp 112), args := #[Go.Operand.tmp 114], argTypes := #[3] }, type := 4, pos := "law.go:117", after := #[{ on := 4, ground := Go.Ground.data }, { on := 6, ground := Go.Ground.data }, { on := 3, ground := Go.Ground.chain }], guard := none }) rfl (by kernel_rfl) (by rfl) (fun K hK => ?_)
              go_simp
              refine (HM.out.value HRI.out hic HRN.out b2 false Hvb.out).mono ?_
              rintro e w8 ⟨rfl, hb8⟩; have HM := hid (HM.out.below hb8); have HB8 := hid (bthen HB8.out hb8); have q0 := HM.out.o0; have q1 := HM.out.o1; have q2 := HM.out.o2; have q3 := HM.out.o3; have q4 := HM.out.i0; clear hb8
              refine hK.out _ _ (by dsimp only [Obl]; exact ⟨q1, q2⟩) ?_
              clear hK K
              try simp only [Act.put, List.setIfInBounds_toArray, List.set_cons_zero, List.set_cons_succ]
              refine anyJ_take (some 116) (i := 8) (T := fun _ => True) (v := ?_) rfl rfl (by kernel_rfl) (by kernel_rfl) (by kernel_rfl) (fun _ _ _ h => h) (js := [3, 7]) (by kernel_rfl) Leads.true rfl (Or.inl ⟨by rfl, ?_⟩) trivial ?_
              rotate_left
              · (intro wL hSw; (try dsimp only at hSw); go_simp; try with_reducible rfl)
              try simp only [Act.put, List.setIfInBounds_toArray, List.set_cons_zero, List.set_cons_succ]
              refine anyJ_take (some 13) (i := 9) (T := fun _ => True) (v := ?_) rfl rfl (by kernel_rfl) (by kernel_rfl) (by kernel_rfl) (fun _ _ _ h => h) (js := [3, 7]) (by kernel_rfl) Leads.true rfl (Or.inl ⟨by rfl, ?_⟩) trivial ?_
              rotate_left
              · (intro wL hSw; (try dsimp only at hSw); go_simp; try with_reducible rfl)
              try simp only [Act.put, List.setIfInBounds_toArray, List.set_cons_zero, List.set_cons_succ]
              refine anyJ_done (by kernel_rfl) ?_
              go_wp2_with (first
          | (go_at_call 23; refine ADO.out.mono ?_; rintro e w5 ⟨rfl, A5, c5, hm, st5⟩; have HM := hid hm; have ST5 := hid st5; have HB8 := hid (Below.refl w5.heap.size w5); have q0 := hm.o0; have q1 := hm.o1; have q2 := hm.o2; have q3 := hm.o3; have q4 := hm.i0; have q5 := hm.p0;  clear hm st5)
          | (go_at_call 19; refine (err_any HM.out.bst).mono ?_; rintro e w6 ⟨rfl, hw6⟩; rw [← hw6]; clear hw6 w6)
          | (go_at_call 18; refine (not_any z _ (by omega) (by omega)).mono ?_; rintro e w9 ⟨rfl, hw9⟩; rw [hw9]; clear hw9 w9)
          | (go_at_call 22; with_reducible refine (HM.out.value HRI.out hic HRN.out aa true Hva.out).mono ?_; rintro e w8 ⟨rfl, hb8⟩; have HM := hid (HM.out.below hb8); have HB8 := hid (bthen HB8.out hb8); have q0 := HM.out.o0; have q1 := HM.out.o1; have q2 := HM.out.o2; have q3 := HM.out.o3; have q4 := HM.out.i0; clear hb8)
          | (go_at_call 22; with_reducible refine (HM.out.value HRI.out hic HRN.out b2 false Hvb.out).mono ?_; rintro e w8 ⟨rfl, hb8⟩; have HM := hid (HM.out.below hb8); have HB8 := hid (bthen HB8.out hb8); have q0 := HM.out.o0; have q1 := HM.out.o1; have q2 := HM.out.o2; have q3 := HM.out.o3; have q4 := HM.out.i0; clear hb8)
          | (go_at_call 22; with_reducible refine (HM.out.value HRI.out hic HRN.out z true HVZ.out.1).mono ?_; rintro e w8 ⟨rfl, hb8⟩; have HM := hid (HM.out.below hb8); have HB8 := hid (bthen HB8.out hb8); have q0 := HM.out.o0; have q1 := HM.out.o1; have q2 := HM.out.o2; have q3 := HM.out.o3; have q4 := HM.out.i0; clear hb8)
          | (go_at_call 22; with_reducible refine (HM.out.value HRI.out hic HRN.out (notI z) (!true) HVZ.out.2).mono ?_; rintro e w8 ⟨rfl, hb8⟩; have HM := hid (HM.out.below hb8); have HB8 := hid (bthen HB8.out hb8); have q0 := HM.out.o0; have q1 := HM.out.o1; have q2 := HM.out.o2; have q3 := HM.out.o3; have q4 := HM.out.i0; clear hb8))
              exact ⟨⟨k + 1, A5, c5, r, by omega, by go_num, HM.out.bst, HRI.out, HRS.out, HER.out, ST5.out.trans (Step.of_below HB8.out)⟩, by simp [intOf]; omega⟩
          | false =>
            cases vb with
            | true =>
              have HVZ := hid (new_val (v := true) HLZ.out (hvz.trans rfl)); clear hvz
              have Hva := hid Hva0; clear Hva0
              have Hvb := hid Hvb0; clear Hvb0
              go_wp2_with (first
          | (go_at_call 23; refine ADO.out.mono ?_; rintro e w5 ⟨rfl, A5, c5, hm, st5⟩; have HM := hid hm; have ST5 := hid st5; have HB8 := hid (Below.refl w5.heap.size w5); have q0 := hm.o0; have q1 := hm.o1; have q2 := hm.o2; have q3 := hm.o3; have q4 := hm.i0; have q5 := hm.p0;  clear hm st5)
          | (go_at_call 19; refine (err_any HM.out.bst).mono ?_; rintro e w6 ⟨rfl, hw6⟩; rw [← hw6]; clear hw6 w6)
          | (go_at_call 18; refine (not_any z _ (by omega) (by omega)).mono ?_; rintro e w9 ⟨rfl, hw9⟩; rw [hw9]; clear hw9 w9)
          | (go_at_call 22; with_reducible refine (HM.out.value HRI.out hic HRN.out aa false Hva.out).mono ?_; rintro e w8 ⟨rfl, hb8⟩; have HM := hid (HM.out.below hb8); have HB8 := hid (bthen HB8.out hb8); have q0 := HM.out.o0; have q1 := HM.out.o1; have q2 := HM.out.o2; have q3 := HM.out.o3; have q4 := HM.out.i0; clear hb8)
          | (go_at_call 22; with_reducible refine (HM.out.value HRI.out hic HRN.out b2 true Hvb.out).mono ?_; rintro e w8 ⟨rfl, hb8⟩; have HM := hid (HM.out.below hb8); have HB8 := hid (bthen HB8.out hb8); have q0 := HM.out.o0; have q1 := HM.out.o1; have q2 := HM.out.o2; have q3 := HM.out.o3; have q4 := HM.out.i0; clear hb8)
          | (go_at_call 22; with_reducible refine (HM.out.value HRI.out hic HRN.out z true HVZ.out.1).mono ?_; rintro e w8 ⟨rfl, hb8⟩; have HM := hid (HM.out.below hb8); have HB8 := hid (bthen HB8.out hb8); have q0 := HM.out.o0; have q1 := HM.out.o1; have q2 := HM.out.o2; have q3 := HM.out.o3; have q4 := HM.out.i0; clear hb8)
          | (go_at_call 22; with_reducible refine (HM.out.value HRI.out hic HRN.out (notI z) (!true) HVZ.out.2).mono ?_; rintro e w8 ⟨rfl, hb8⟩; have HM := hid (HM.out.below hb8); have HB8 := hid (bthen HB8.out hb8); have q0 := HM.out.o0; have q1 := HM.out.o1; have q2 := HM.out.o2; have q3 := HM.out.o3; have q4 := HM.out.i0; clear hb8))
              refine wp_region_J (fun j => match j with | 3 => some (fun W => W.cell? ⟨wr.heap.size, 1, none⟩ = some (.int .i64 aa) ∧ W.cell? ⟨wr.heap.size, 2, none⟩ = some (.int .i64 b2)) | 7 => some (fun W => W.cell? ⟨wr.heap.size, 1, none⟩ = some (.int .i64 aa) ∧ W.cell? ⟨wr.heap.size, 2, none⟩ = some (.int .i64 b2)) | _ => none) (by kernel_rfl) ?_
              refine anyJ_take (some 108) (i := 0) (T := fun _ => True) (v := ?_) rfl rfl (by kernel_rfl) (by kernel_rfl) (by kernel_rfl) (fun _ _ _ h => h) (js := []) (by kernel_rfl) Leads.true rfl (Or.inl ⟨by rfl, ?_⟩) trivial ?_
              rotate_left
              · (intro wL hSw; (try dsimp only at hSw); go_simp; try with_reducible rfl)
              try simp only [Act.put, List.setIfInBounds_toArray, List.set_cons_zero, List.set_cons_succ]
              refine anyJ_take (some 109) (i := 1) (T := fun _ => True) (v := ?_) rfl rfl (by kernel_rfl) (by kernel_rfl) (by kernel_rfl) (fun _ _ _ h => h) (js := []) (by kernel_rfl) Leads.true rfl (Or.inl ⟨by rfl, ?_⟩) trivial ?_
              rotate_left
              · (intro wL hSw; (try dsimp only at hSw); go_simp; try with_reducible rfl)
              try simp only [Act.put, List.setIfInBounds_toArray, List.set_cons_zero, List.set_cons_succ]
              refine anyJ_take (some 110) (i := 2) (T := fun W => W.cell? ⟨wr.heap.size, 1, none⟩ = some (.int .i64 aa)) (v := ?_) rfl rfl (by kernel_rfl) (by kernel_rfl) (by kernel_rfl) (fun _ _ _ h => h) (js := []) (by kernel_rfl) Leads.nil rfl (Or.inl ⟨by rfl, ?_⟩) (q1) ?_
              rotate_left
              · (intro wL hSw; (try dsimp only at hSw); go_simp; try with_reducible rfl)
              try simp only [Act.put, List.setIfInBounds_toArray, List.set_cons_zero, List.set_cons_succ]
              refine anyJ_take (some 112) (i := 4) (T := fun _ => True) (v := ?_) rfl rfl (by kernel_rfl) (by kernel_rfl) (by kernel_rfl) (fun _ _ _ h => h) (js := [3]) (by kernel_rfl) Leads.true rfl (Or.inl ⟨by rfl, ?_⟩) trivial ?_
              rotate_left
              · (intro wL hSw; (try dsimp only at hSw); go_simp; try with_reducible rfl)
              try simp only [Act.put, List.setIfInBounds_toArray, List.set_cons_zero, List.set_cons_succ]
              refine anyJ_take (some 113) (i := 5) (T := fun _ => True) (v := ?_) rfl rfl (by kernel_rfl) (by kernel_rfl) (by kernel_rfl) (fun _ _ _ h => h) (js := [3]) (by kernel_rfl) Leads.true rfl (Or.inl ⟨by rfl, ?_⟩) trivial ?_
              rotate_left
              · (intro wL hSw; (try dsimp only at hSw); go_simp; try with_reducible rfl)
              try simp only [Act.put, List.setIfInBounds_toArray, List.set_cons_zero, List.set_cons_succ]
              refine anyJ_take (some 114) (i := 6) (T := fun W => W.cell? ⟨wr.heap.size, 2, none⟩ = some (.int .i64 b2)) (v := ?_) rfl rfl (by kernel_rfl) (by kernel_rfl) (by kernel_rfl) (fun _ _ _ h => h) (js := [3]) (by kernel_rfl) (Leads.cons _ rfl (fun w h => h.2) Leads.nil) rfl (Or.inl ⟨by rfl, ?_⟩) (q2) ?_
              rotate_left
              · (intro wL hSw; (try dsimp only at hSw); go_simp; try with_reducible rfl)
              try simp only [Act.put, List.setIfInBounds_toArray, List.set_cons_zero, List.set_cons_succ]
              refine anyJ_one (i := 3) (oi := { dst := some 111, op := Go.Op.call { callee := Go.Callee.value (Go.Operand.tmp 108), args := #[Go.Operand.tmp 110], argTypes := #[3] }, type := 4, pos := "law.go:117", after := #[{ on := 0, ground := Go.Ground.data }, { on := 2, ground := Go.Ground.data }], guard := none }) rfl (by kernel_rfl) (by rfl) (fun K hK => ?_)
              go_simp
              refine ((HM.out.below (below_drew' _)).value HRI.out hic HRN.out aa false Hva.out).mono ?_
              rintro e w8 ⟨rfl, hb8⟩; have HM := hid (HM.out.below (bthen (below_drew' _) hb8)); have HB8 := hid (bthen HB8.out (bthen (below_drew' _) hb8)); have q0 := HM.out.o0; have q1 := HM.out.o1; have q2 := HM.out.o2; have q3 := HM.out.o3; have q4 := HM.out.i0; clear hb8
              refine hK.out _ _ (by dsimp only [Obl]; exact ⟨q1, q2⟩) ?_
              clear hK K
              try simp only [Act.put, List.setIfInBounds_toArray, List.set_cons_zero, List.set_cons_succ]
              refine anyJ_one (i := 7) (oi := { dst := some 115, op := Go.Op.call { callee := Go.Callee.value (Go.Operand.tmp 112), args := #[Go.Operand.tmp 114], argTypes := #[3] }, type := 4, pos := "law.go:117", after := #[{ on := 4, ground := Go.Ground.data }, { on := 6, ground := Go.Ground.data }, { on := 3, ground := Go.Ground.chain }], guard := none }) rfl (by kernel_rfl) (by rfl) (fun K hK => ?_)
              go_simp
              refine (HM.out.value HRI.out hic HRN.out b2 true Hvb.out).mono ?_
              rintro e w8 ⟨rfl, hb8⟩; have HM := hid (HM.out.below hb8); have HB8 := hid (bthen HB8.out hb8); have q0 := HM.out.o0; have q1 := HM.out.o1; have q2 := HM.out.o2; have q3 := HM.out.o3; have q4 := HM.out.i0; clear hb8
              refine hK.out _ _ (by dsimp only [Obl]; exact ⟨q1, q2⟩) ?_
              clear hK K
              try simp only [Act.put, List.setIfInBounds_toArray, List.set_cons_zero, List.set_cons_succ]
              refine anyJ_take (some 116) (i := 8) (T := fun _ => True) (v := ?_) rfl rfl (by kernel_rfl) (by kernel_rfl) (by kernel_rfl) (fun _ _ _ h => h) (js := [3, 7]) (by kernel_rfl) Leads.true rfl (Or.inl ⟨by rfl, ?_⟩) trivial ?_
              rotate_left
              · (intro wL hSw; (try dsimp only at hSw); go_simp; try with_reducible rfl)
              try simp only [Act.put, List.setIfInBounds_toArray, List.set_cons_zero, List.set_cons_succ]
              refine anyJ_take (some 13) (i := 9) (T := fun _ => True) (v := ?_) rfl rfl (by kernel_rfl) (by kernel_rfl) (by kernel_rfl) (fun _ _ _ h => h) (js := [3, 7]) (by kernel_rfl) Leads.true rfl (Or.inl ⟨by rfl, ?_⟩) trivial ?_
              rotate_left
              · (intro wL hSw; (try dsimp only at hSw); go_simp; try with_reducible rfl)
              try simp only [Act.put, List.setIfInBounds_toArray, List.set_cons_zero, List.set_cons_succ]
              refine anyJ_done (by kernel_rfl) ?_
              go_wp2_with (first
          | (go_at_call 23; refine ADO.out.mono ?_; rintro e w5 ⟨rfl, A5, c5, hm, st5⟩; have HM := hid hm; have ST5 := hid st5; have HB8 := hid (Below.refl w5.heap.size w5); have q0 := hm.o0; have q1 := hm.o1; have q2 := hm.o2; have q3 := hm.o3; have q4 := hm.i0; have q5 := hm.p0;  clear hm st5)
          | (go_at_call 19; refine (err_any HM.out.bst).mono ?_; rintro e w6 ⟨rfl, hw6⟩; rw [← hw6]; clear hw6 w6)
          | (go_at_call 18; refine (not_any z _ (by omega) (by omega)).mono ?_; rintro e w9 ⟨rfl, hw9⟩; rw [hw9]; clear hw9 w9)
          | (go_at_call 22; with_reducible refine (HM.out.value HRI.out hic HRN.out aa false Hva.out).mono ?_; rintro e w8 ⟨rfl, hb8⟩; have HM := hid (HM.out.below hb8); have HB8 := hid (bthen HB8.out hb8); have q0 := HM.out.o0; have q1 := HM.out.o1; have q2 := HM.out.o2; have q3 := HM.out.o3; have q4 := HM.out.i0; clear hb8)
          | (go_at_call 22; with_reducible refine (HM.out.value HRI.out hic HRN.out b2 true Hvb.out).mono ?_; rintro e w8 ⟨rfl, hb8⟩; have HM := hid (HM.out.below hb8); have HB8 := hid (bthen HB8.out hb8); have q0 := HM.out.o0; have q1 := HM.out.o1; have q2 := HM.out.o2; have q3 := HM.out.o3; have q4 := HM.out.i0; clear hb8)
          | (go_at_call 22; with_reducible refine (HM.out.value HRI.out hic HRN.out z true HVZ.out.1).mono ?_; rintro e w8 ⟨rfl, hb8⟩; have HM := hid (HM.out.below hb8); have HB8 := hid (bthen HB8.out hb8); have q0 := HM.out.o0; have q1 := HM.out.o1; have q2 := HM.out.o2; have q3 := HM.out.o3; have q4 := HM.out.i0; clear hb8)
          | (go_at_call 22; with_reducible refine (HM.out.value HRI.out hic HRN.out (notI z) (!true) HVZ.out.2).mono ?_; rintro e w8 ⟨rfl, hb8⟩; have HM := hid (HM.out.below hb8); have HB8 := hid (bthen HB8.out hb8); have q0 := HM.out.o0; have q1 := HM.out.o1; have q2 := HM.out.o2; have q3 := HM.out.o3; have q4 := HM.out.i0; clear hb8))
              exact ⟨⟨k + 1, A5, c5, r, by omega, by go_num, HM.out.bst, HRI.out, HRS.out, HER.out, ST5.out.trans (Step.of_below HB8.out)⟩, by simp [intOf]; omega⟩
            | false =>
              have HVZ := hid (new_val (v := false) HLZ.out (hvz.trans rfl)); clear hvz
              have Hva := hid Hva0; clear Hva0
              have Hvb := hid Hvb0; clear Hvb0
              go_wp2_with (first
          | (go_at_call 23; refine ADO.out.mono ?_; rintro e w5 ⟨rfl, A5, c5, hm, st5⟩; have HM := hid hm; have ST5 := hid st5; have HB8 := hid (Below.refl w5.heap.size w5); have q0 := hm.o0; have q1 := hm.o1; have q2 := hm.o2; have q3 := hm.o3; have q4 := hm.i0; have q5 := hm.p0;  clear hm st5)
          | (go_at_call 19; refine (err_any HM.out.bst).mono ?_; rintro e w6 ⟨rfl, hw6⟩; rw [← hw6]; clear hw6 w6)
          | (go_at_call 18; refine (not_any z _ (by omega) (by omega)).mono ?_; rintro e w9 ⟨rfl, hw9⟩; rw [hw9]; clear hw9 w9)
          | (go_at_call 22; with_reducible refine (HM.out.value HRI.out hic HRN.out aa false Hva.out).mono ?_; rintro e w8 ⟨rfl, hb8⟩; have HM := hid (HM.out.below hb8); have HB8 := hid (bthen HB8.out hb8); have q0 := HM.out.o0; have q1 := HM.out.o1; have q2 := HM.out.o2; have q3 := HM.out.o3; have q4 := HM.out.i0; clear hb8)
          | (go_at_call 22; with_reducible refine (HM.out.value HRI.out hic HRN.out b2 false Hvb.out).mono ?_; rintro e w8 ⟨rfl, hb8⟩; have HM := hid (HM.out.below hb8); have HB8 := hid (bthen HB8.out hb8); have q0 := HM.out.o0; have q1 := HM.out.o1; have q2 := HM.out.o2; have q3 := HM.out.o3; have q4 := HM.out.i0; clear hb8)
          | (go_at_call 22; with_reducible refine (HM.out.value HRI.out hic HRN.out z false HVZ.out.1).mono ?_; rintro e w8 ⟨rfl, hb8⟩; have HM := hid (HM.out.below hb8); have HB8 := hid (bthen HB8.out hb8); have q0 := HM.out.o0; have q1 := HM.out.o1; have q2 := HM.out.o2; have q3 := HM.out.o3; have q4 := HM.out.i0; clear hb8)
          | (go_at_call 22; with_reducible refine (HM.out.value HRI.out hic HRN.out (notI z) (!false) HVZ.out.2).mono ?_; rintro e w8 ⟨rfl, hb8⟩; have HM := hid (HM.out.below hb8); have HB8 := hid (bthen HB8.out hb8); have q0 := HM.out.o0; have q1 := HM.out.o1; have q2 := HM.out.o2; have q3 := HM.out.o3; have q4 := HM.out.i0; clear hb8))
              refine wp_region_J (fun j => match j with | 3 => some (fun W => W.cell? ⟨wr.heap.size, 1, none⟩ = some (.int .i64 aa) ∧ W.cell? ⟨wr.heap.size, 2, none⟩ = some (.int .i64 b2)) | 7 => some (fun W => W.cell? ⟨wr.heap.size, 1, none⟩ = some (.int .i64 aa) ∧ W.cell? ⟨wr.heap.size, 2, none⟩ = some (.int .i64 b2)) | _ => none) (by kernel_rfl) ?_
              refine anyJ_take (some 108) (i := 0) (T := fun _ => True) (v := ?_) rfl rfl (by kernel_rfl) (by kernel_rfl) (by kernel_rfl) (fun _ _ _ h => h) (js := []) (by kernel_rfl) Leads.true rfl (Or.inl ⟨by rfl, ?_⟩) trivial ?_
              rotate_left
              · (intro wL hSw; (try dsimp only at hSw); go_simp; try with_reducible rfl)
              try simp only [Act.put, List.setIfInBounds_toArray, List.set_cons_zero, List.set_cons_succ]
              refine anyJ_take (some 109) (i := 1) (T := fun _ => True) (v := ?_) rfl rfl (by kernel_rfl) (by kernel_rfl) (by kernel_rfl) (fun _ _ _ h => h) (js := []) (by kernel_rfl) Leads.true rfl (Or.inl ⟨by rfl, ?_⟩) trivial ?_
              rotate_left
              · (intro wL hSw; (try dsimp only at hSw); go_simp; try with_reducible rfl)
              try simp only [Act.put, List.setIfInBounds_toArray, List.set_cons_zero, List.set_cons_succ]
              refine anyJ_take (some 110) (i := 2) (T := fun W => W.cell? ⟨wr.heap.size, 1, none⟩ = some (.int .i64 aa)) (v := ?_) rfl rfl (by kernel_rfl) (by kernel_rfl) (by kernel_rfl) (fun _ _ _ h => h) (js := []) (by kernel_rfl) Leads.nil rfl (Or.inl ⟨by rfl, ?_⟩) (q1) ?_
              rotate_left
              · (intro wL hSw; (try dsimp only at hSw); go_simp; try with_reducible rfl)
              try simp only [Act.put, List.setIfInBounds_toArray, List.set_cons_zero, List.set_cons_succ]
              refine anyJ_take (some 112) (i := 4) (T := fun _ => True) (v := ?_) rfl rfl (by kernel_rfl) (by kernel_rfl) (by kernel_rfl) (fun _ _ _ h => h) (js := [3]) (by kernel_rfl) Leads.true rfl (Or.inl ⟨by rfl, ?_⟩) trivial ?_
              rotate_left
              · (intro wL hSw; (try dsimp only at hSw); go_simp; try with_reducible rfl)
              try simp only [Act.put, List.setIfInBounds_toArray, List.set_cons_zero, List.set_cons_succ]
              refine anyJ_take (some 113) (i := 5) (T := fun _ => True) (v := ?_) rfl rfl (by kernel_rfl) (by kernel_rfl) (by kernel_rfl) (fun _ _ _ h => h) (js := [3]) (by kernel_rfl) Leads.true rfl (Or.inl ⟨by rfl, ?_⟩) trivial ?_
              rotate_left
              · (intro wL hSw; (try dsimp only at hSw); go_simp; try with_reducible rfl)
              try simp only [Act.put, List.setIfInBounds_toArray, List.set_cons_zero, List.set_cons_succ]
              refine anyJ_take (some 114) (i := 6) (T := fun W => W.cell? ⟨wr.heap.size, 2, none⟩ = some (.int .i64 b2)) (v := ?_) rfl rfl (by kernel_rfl) (by kernel_rfl) (by kernel_rfl) (fun _ _ _ h => h) (js := [3]) (by kernel_rfl) (Leads.cons _ rfl (fun w h => h.2) Leads.nil) rfl (Or.inl ⟨by rfl, ?_⟩) (q2) ?_
              rotate_left
              · (intro wL hSw; (try dsimp only at hSw); go_simp; try with_reducible rfl)
              try simp only [Act.put, List.setIfInBounds_toArray, List.set_cons_zero, List.set_cons_succ]
              refine anyJ_one (i := 3) (oi := { dst := some 111, op := Go.Op.call { callee := Go.Callee.value (Go.Operand.tmp 108), args := #[Go.Operand.tmp 110], argTypes := #[3] }, type := 4, pos := "law.go:117", after := #[{ on := 0, ground := Go.Ground.data }, { on := 2, ground := Go.Ground.data }], guard := none }) rfl (by kernel_rfl) (by rfl) (fun K hK => ?_)
              go_simp
              refine ((HM.out.below (below_drew' _)).value HRI.out hic HRN.out aa false Hva.out).mono ?_
              rintro e w8 ⟨rfl, hb8⟩; have HM := hid (HM.out.below (bthen (below_drew' _) hb8)); have HB8 := hid (bthen HB8.out (bthen (below_drew' _) hb8)); have q0 := HM.out.o0; have q1 := HM.out.o1; have q2 := HM.out.o2; have q3 := HM.out.o3; have q4 := HM.out.i0; clear hb8
              refine hK.out _ _ (by dsimp only [Obl]; exact ⟨q1, q2⟩) ?_
              clear hK K
              try simp only [Act.put, List.setIfInBounds_toArray, List.set_cons_zero, List.set_cons_succ]
              refine anyJ_one (i := 7) (oi := { dst := some 115, op := Go.Op.call { callee := Go.Callee.value (Go.Operand.tmp 112), args := #[Go.Operand.tmp 114], argTypes := #[3] }, type := 4, pos := "law.go:117", after := #[{ on := 4, ground := Go.Ground.data }, { on := 6, ground := Go.Ground.data }, { on := 3, ground := Go.Ground.chain }], guard := none }) rfl (by kernel_rfl) (by rfl) (fun K hK => ?_)
              go_simp
              refine (HM.out.value HRI.out hic HRN.out b2 false Hvb.out).mono ?_
              rintro e w8 ⟨rfl, hb8⟩; have HM := hid (HM.out.below hb8); have HB8 := hid (bthen HB8.out hb8); have q0 := HM.out.o0; have q1 := HM.out.o1; have q2 := HM.out.o2; have q3 := HM.out.o3; have q4 := HM.out.i0; clear hb8
              refine hK.out _ _ (by dsimp only [Obl]; exact ⟨q1, q2⟩) ?_
              clear hK K
              try simp only [Act.put, List.setIfInBounds_toArray, List.set_cons_zero, List.set_cons_succ]
              refine anyJ_take (some 116) (i := 8) (T := fun _ => True) (v := ?_) rfl rfl (by kernel_rfl) (by kernel_rfl) (by kernel_rfl) (fun _ _ _ h => h) (js := [3, 7]) (by kernel_rfl) Leads.true rfl (Or.inl ⟨by rfl, ?_⟩) trivial ?_
              rotate_left
              · (intro wL hSw; (try dsimp only at hSw); go_simp; try with_reducible rfl)
              try simp only [Act.put, List.setIfInBounds_toArray, List.set_cons_zero, List.set_cons_succ]
              refine anyJ_take (some 13) (i := 9) (T := fun _ => True) (v := ?_) rfl rfl (by kernel_rfl) (by kernel_rfl) (by kernel_rfl) (fun _ _ _ h => h) (js := [3, 7]) (by kernel_rfl) Leads.true rfl (Or.inl ⟨by rfl, ?_⟩) trivial ?_
              rotate_left
              · (intro wL hSw; (try dsimp only at hSw); go_simp; try with_reducible rfl)
              try simp only [Act.put, List.setIfInBounds_toArray, List.set_cons_zero, List.set_cons_succ]
              refine anyJ_done (by kernel_rfl) ?_
              go_wp2_with (first
          | (go_at_call 23; refine ADO.out.mono ?_; rintro e w5 ⟨rfl, A5, c5, hm, st5⟩; have HM := hid hm; have ST5 := hid st5; have HB8 := hid (Below.refl w5.heap.size w5); have q0 := hm.o0; have q1 := hm.o1; have q2 := hm.o2; have q3 := hm.o3; have q4 := hm.i0; have q5 := hm.p0;  clear hm st5)
          | (go_at_call 19; refine (err_any HM.out.bst).mono ?_; rintro e w6 ⟨rfl, hw6⟩; rw [← hw6]; clear hw6 w6)
          | (go_at_call 18; refine (not_any z _ (by omega) (by omega)).mono ?_; rintro e w9 ⟨rfl, hw9⟩; rw [hw9]; clear hw9 w9)
          | (go_at_call 22; with_reducible refine (HM.out.value HRI.out hic HRN.out aa false Hva.out).mono ?_; rintro e w8 ⟨rfl, hb8⟩; have HM := hid (HM.out.below hb8); have HB8 := hid (bthen HB8.out hb8); have q0 := HM.out.o0; have q1 := HM.out.o1; have q2 := HM.out.o2; have q3 := HM.out.o3; have q4 := HM.out.i0; clear hb8)
          | (go_at_call 22; with_reducible refine (HM.out.value HRI.out hic HRN.out b2 false Hvb.out).mono ?_; rintro e w8 ⟨rfl, hb8⟩; have HM := hid (HM.out.below hb8); have HB8 := hid (bthen HB8.out hb8); have q0 := HM.out.o0; have q1 := HM.out.o1; have q2 := HM.out.o2; have q3 := HM.out.o3; have q4 := HM.out.i0; clear hb8)
          | (go_at_call 22; with_reducible refine (HM.out.value HRI.out hic HRN.out z false HVZ.out.1).mono ?_; rintro e w8 ⟨rfl, hb8⟩; have HM := hid (HM.out.below hb8); have HB8 := hid (bthen HB8.out hb8); have q0 := HM.out.o0; have q1 := HM.out.o1; have q2 := HM.out.o2; have q3 := HM.out.o3; have q4 := HM.out.i0; clear hb8)
          | (go_at_call 22; with_reducible refine (HM.out.value HRI.out hic HRN.out (notI z) (!false) HVZ.out.2).mono ?_; rintro e w8 ⟨rfl, hb8⟩; have HM := hid (HM.out.below hb8); have HB8 := hid (bthen HB8.out hb8); have q0 := HM.out.o0; have q1 := HM.out.o1; have q2 := HM.out.o2; have q3 := HM.out.o3; have q4 := HM.out.i0; clear hb8))
              exact ⟨⟨k + 1, A5, c5, r, by omega, by go_num, HM.out.bst, HRI.out, HRS.out, HER.out, ST5.out.trans (Step.of_below HB8.out)⟩, by simp [intOf]; omega⟩
        · have k0 : (kk == 0) = false := by simp [h0]
          have k1 : (kk == 1) = false := by simp [h1]
          have k2 : (kk == 2) = false := by simp [h2]
          have k3 : (kk == 3) = false := by simp [h3]
          have hstep : s.step kk aa b2 cc2 = s.mux aa b2 cc2 := by unfold PB.step; rw [if_neg h0, if_neg h1, if_neg h2, if_neg h3]
          have hres := mux_res (input := input) HINV.out HNS.out aa b2 cc2
          rw [← hstep, HR.out] at hres
          obtain ⟨_, hP, hlz, hvz⟩ := hres.val HER.out
          simp only [] at hlz hvz
          have zb := PB.lit_bd HRI.out.ok hlz
          clear hstep hres
          clear h0 h1 h2 h3
          obtain ⟨va, hva⟩ : ∃ v, litVal (valsF input s.G) aa = v := ⟨_, rfl⟩
          obtain ⟨vb, hvb⟩ : ∃ v, litVal (valsF input s.G) b2 = v := ⟨_, rfl⟩
          obtain ⟨vc, hvc⟩ : ∃ v, litVal (valsF input s.G) cc2 = v := ⟨_, rfl⟩
          have Hva0 := old_val HNS.out HRNS.out HRE.out hP.1 hva
          have Hvb0 := old_val HNS.out HRNS.out HRE.out hP.2.1 hvb
          have Hvc0 := old_val HNS.out HRNS.out HRE.out hP.2.2 hvc
          rw [hva, hvb, hvc] at hvz
          have HP := hid hP; have HLZ := hid hlz; clear hP hlz hva hvb hvc
          cases va with
          | true =>
            cases vb with
            | true =>
              have HVZ := hid (new_val (v := true) HLZ.out (hvz.trans rfl)); clear hvz
              have Hva := hid Hva0; clear Hva0
              have Hvb := hid Hvb0; clear Hvb0
              have Hvc := hid Hvc0; clear Hvc0
              go_wp2_with (first
          | (go_at_call 23; refine ADO.out.mono ?_; rintro e w5 ⟨rfl, A5, c5, hm, st5⟩; have HM := hid hm; have ST5 := hid st5; have HB8 := hid (Below.refl w5.heap.size w5); have q0 := hm.o0; have q1 := hm.o1; have q2 := hm.o2; have q3 := hm.o3; have q4 := hm.i0; have q5 := hm.p0;  clear hm st5)
          | (go_at_call 19; refine (err_any HM.out.bst).mono ?_; rintro e w6 ⟨rfl, hw6⟩; rw [← hw6]; clear hw6 w6)
          | (go_at_call 18; refine (not_any z _ (by omega) (by omega)).mono ?_; rintro e w9 ⟨rfl, hw9⟩; rw [hw9]; clear hw9 w9)
          | (go_at_call 22; with_reducible refine (HM.out.value HRI.out hic HRN.out aa true Hva.out).mono ?_; rintro e w8 ⟨rfl, hb8⟩; have HM := hid (HM.out.below hb8); have HB8 := hid (bthen HB8.out hb8); have q0 := HM.out.o0; have q1 := HM.out.o1; have q2 := HM.out.o2; have q3 := HM.out.o3; have q4 := HM.out.i0; clear hb8)
          | (go_at_call 22; with_reducible refine (HM.out.value HRI.out hic HRN.out b2 true Hvb.out).mono ?_; rintro e w8 ⟨rfl, hb8⟩; have HM := hid (HM.out.below hb8); have HB8 := hid (bthen HB8.out hb8); have q0 := HM.out.o0; have q1 := HM.out.o1; have q2 := HM.out.o2; have q3 := HM.out.o3; have q4 := HM.out.i0; clear hb8)
          | (go_at_call 22; with_reducible refine (HM.out.value HRI.out hic HRN.out cc2 vc Hvc.out).mono ?_; rintro e w8 ⟨rfl, hb8⟩; have HM := hid (HM.out.below hb8); have HB8 := hid (bthen HB8.out hb8); have q0 := HM.out.o0; have q1 := HM.out.o1; have q2 := HM.out.o2; have q3 := HM.out.o3; have q4 := HM.out.i0; clear hb8)
          | (go_at_call 22; with_reducible refine (HM.out.value HRI.out hic HRN.out z true HVZ.out.1).mono ?_; rintro e w8 ⟨rfl, hb8⟩; have HM := hid (HM.out.below hb8); have HB8 := hid (bthen HB8.out hb8); have q0 := HM.out.o0; have q1 := HM.out.o1; have q2 := HM.out.o2; have q3 := HM.out.o3; have q4 := HM.out.i0; clear hb8)
          | (go_at_call 22; with_reducible refine (HM.out.value HRI.out hic HRN.out (notI z) (!true) HVZ.out.2).mono ?_; rintro e w8 ⟨rfl, hb8⟩; have HM := hid (HM.out.below hb8); have HB8 := hid (bthen HB8.out hb8); have q0 := HM.out.o0; have q1 := HM.out.o1; have q2 := HM.out.o2; have q3 := HM.out.o3; have q4 := HM.out.i0; clear hb8))
              exact ⟨⟨k + 1, A5, c5, r, by omega, by go_num, HM.out.bst, HRI.out, HRS.out, HER.out, ST5.out.trans (Step.of_below HB8.out)⟩, by simp [intOf]; omega⟩
            | false =>
              have HVZ := hid (new_val (v := false) HLZ.out (hvz.trans rfl)); clear hvz
              have Hva := hid Hva0; clear Hva0
              have Hvb := hid Hvb0; clear Hvb0
              have Hvc := hid Hvc0; clear Hvc0
              go_wp2_with (first
          | (go_at_call 23; refine ADO.out.mono ?_; rintro e w5 ⟨rfl, A5, c5, hm, st5⟩; have HM := hid hm; have ST5 := hid st5; have HB8 := hid (Below.refl w5.heap.size w5); have q0 := hm.o0; have q1 := hm.o1; have q2 := hm.o2; have q3 := hm.o3; have q4 := hm.i0; have q5 := hm.p0;  clear hm st5)
          | (go_at_call 19; refine (err_any HM.out.bst).mono ?_; rintro e w6 ⟨rfl, hw6⟩; rw [← hw6]; clear hw6 w6)
          | (go_at_call 18; refine (not_any z _ (by omega) (by omega)).mono ?_; rintro e w9 ⟨rfl, hw9⟩; rw [hw9]; clear hw9 w9)
          | (go_at_call 22; with_reducible refine (HM.out.value HRI.out hic HRN.out aa true Hva.out).mono ?_; rintro e w8 ⟨rfl, hb8⟩; have HM := hid (HM.out.below hb8); have HB8 := hid (bthen HB8.out hb8); have q0 := HM.out.o0; have q1 := HM.out.o1; have q2 := HM.out.o2; have q3 := HM.out.o3; have q4 := HM.out.i0; clear hb8)
          | (go_at_call 22; with_reducible refine (HM.out.value HRI.out hic HRN.out b2 false Hvb.out).mono ?_; rintro e w8 ⟨rfl, hb8⟩; have HM := hid (HM.out.below hb8); have HB8 := hid (bthen HB8.out hb8); have q0 := HM.out.o0; have q1 := HM.out.o1; have q2 := HM.out.o2; have q3 := HM.out.o3; have q4 := HM.out.i0; clear hb8)
          | (go_at_call 22; with_reducible refine (HM.out.value HRI.out hic HRN.out cc2 vc Hvc.out).mono ?_; rintro e w8 ⟨rfl, hb8⟩; have HM := hid (HM.out.below hb8); have HB8 := hid (bthen HB8.out hb8); have q0 := HM.out.o0; have q1 := HM.out.o1; have q2 := HM.out.o2; have q3 := HM.out.o3; have q4 := HM.out.i0; clear hb8)
          | (go_at_call 22; with_reducible refine (HM.out.value HRI.out hic HRN.out z false HVZ.out.1).mono ?_; rintro e w8 ⟨rfl, hb8⟩; have HM := hid (HM.out.below hb8); have HB8 := hid (bthen HB8.out hb8); have q0 := HM.out.o0; have q1 := HM.out.o1; have q2 := HM.out.o2; have q3 := HM.out.o3; have q4 := HM.out.i0; clear hb8)
          | (go_at_call 22; with_reducible refine (HM.out.value HRI.out hic HRN.out (notI z) (!false) HVZ.out.2).mono ?_; rintro e w8 ⟨rfl, hb8⟩; have HM := hid (HM.out.below hb8); have HB8 := hid (bthen HB8.out hb8); have q0 := HM.out.o0; have q1 := HM.out.o1; have q2 := HM.out.o2; have q3 := HM.out.o3; have q4 := HM.out.i0; clear hb8))
              exact ⟨⟨k + 1, A5, c5, r, by omega, by go_num, HM.out.bst, HRI.out, HRS.out, HER.out, ST5.out.trans (Step.of_below HB8.out)⟩, by simp [intOf]; omega⟩
          | false =>
            cases vc with
            | true =>
              have HVZ := hid (new_val (v := true) HLZ.out (hvz.trans rfl)); clear hvz
              have Hva := hid Hva0; clear Hva0
              have Hvb := hid Hvb0; clear Hvb0
              have Hvc := hid Hvc0; clear Hvc0
              go_wp2_with (first
          | (go_at_call 23; refine ADO.out.mono ?_; rintro e w5 ⟨rfl, A5, c5, hm, st5⟩; have HM := hid hm; have ST5 := hid st5; have HB8 := hid (Below.refl w5.heap.size w5); have q0 := hm.o0; have q1 := hm.o1; have q2 := hm.o2; have q3 := hm.o3; have q4 := hm.i0; have q5 := hm.p0;  clear hm st5)
          | (go_at_call 19; refine (err_any HM.out.bst).mono ?_; rintro e w6 ⟨rfl, hw6⟩; rw [← hw6]; clear hw6 w6)
          | (go_at_call 18; refine (not_any z _ (by omega) (by omega)).mono ?_; rintro e w9 ⟨rfl, hw9⟩; rw [hw9]; clear hw9 w9)
          | (go_at_call 22; with_reducible refine (HM.out.value HRI.out hic HRN.out aa false Hva.out).mono ?_; rintro e w8 ⟨rfl, hb8⟩; have HM := hid (HM.out.below hb8); have HB8 := hid (bthen HB8.out hb8); have q0 := HM.out.o0; have q1 := HM.out.o1; have q2 := HM.out.o2; have q3 := HM.out.o3; have q4 := HM.out.i0; clear hb8)
          | (go_at_call 22; with_reducible refine (HM.out.value HRI.out hic HRN.out b2 vb Hvb.out).mono ?_; rintro e w8 ⟨rfl, hb8⟩; have HM := hid (HM.out.below hb8); have HB8 := hid (bthen HB8.out hb8); have q0 := HM.out.o0; have q1 := HM.out.o1; have q2 := HM.out.o2; have q3 := HM.out.o3; have q4 := HM.out.i0; clear hb8)
          | (go_at_call 22; with_reducible refine (HM.out.value HRI.out hic HRN.out cc2 true Hvc.out).mono ?_; rintro e w8 ⟨rfl, hb8⟩; have HM := hid (HM.out.below hb8); have HB8 := hid (bthen HB8.out hb8); have q0 := HM.out.o0; have q1 := HM.out.o1; have q2 := HM.out.o2; have q3 := HM.out.o3; have q4 := HM.out.i0; clear hb8)
          | (go_at_call 22; with_reducible refine (HM.out.value HRI.out hic HRN.out z true HVZ.out.1).mono ?_; rintro e w8 ⟨rfl, hb8⟩; have HM := hid (HM.out.below hb8); have HB8 := hid (bthen HB8.out hb8); have q0 := HM.out.o0; have q1 := HM.out.o1; have q2 := HM.out.o2; have q3 := HM.out.o3; have q4 := HM.out.i0; clear hb8)
          | (go_at_call 22; with_reducible refine (HM.out.value HRI.out hic HRN.out (notI z) (!true) HVZ.out.2).mono ?_; rintro e w8 ⟨rfl, hb8⟩; have HM := hid (HM.out.below hb8); have HB8 := hid (bthen HB8.out hb8); have q0 := HM.out.o0; have q1 := HM.out.o1; have q2 := HM.out.o2; have q3 := HM.out.o3; have q4 := HM.out.i0; clear hb8))
              exact ⟨⟨k + 1, A5, c5, r, by omega, by go_num, HM.out.bst, HRI.out, HRS.out, HER.out, ST5.out.trans (Step.of_below HB8.out)⟩, by simp [intOf]; omega⟩
            | false =>
              have HVZ := hid (new_val (v := false) HLZ.out (hvz.trans rfl)); clear hvz
              have Hva := hid Hva0; clear Hva0
              have Hvb := hid Hvb0; clear Hvb0
              have Hvc := hid Hvc0; clear Hvc0
              go_wp2_with (first
          | (go_at_call 23; refine ADO.out.mono ?_; rintro e w5 ⟨rfl, A5, c5, hm, st5⟩; have HM := hid hm; have ST5 := hid st5; have HB8 := hid (Below.refl w5.heap.size w5); have q0 := hm.o0; have q1 := hm.o1; have q2 := hm.o2; have q3 := hm.o3; have q4 := hm.i0; have q5 := hm.p0;  clear hm st5)
          | (go_at_call 19; refine (err_any HM.out.bst).mono ?_; rintro e w6 ⟨rfl, hw6⟩; rw [← hw6]; clear hw6 w6)
          | (go_at_call 18; refine (not_any z _ (by omega) (by omega)).mono ?_; rintro e w9 ⟨rfl, hw9⟩; rw [hw9]; clear hw9 w9)
          | (go_at_call 22; with_reducible refine (HM.out.value HRI.out hic HRN.out aa false Hva.out).mono ?_; rintro e w8 ⟨rfl, hb8⟩; have HM := hid (HM.out.below hb8); have HB8 := hid (bthen HB8.out hb8); have q0 := HM.out.o0; have q1 := HM.out.o1; have q2 := HM.out.o2; have q3 := HM.out.o3; have q4 := HM.out.i0; clear hb8)
          | (go_at_call 22; with_reducible refine (HM.out.value HRI.out hic HRN.out b2 vb Hvb.out).mono ?_; rintro e w8 ⟨rfl, hb8⟩; have HM := hid (HM.out.below hb8); have HB8 := hid (bthen HB8.out hb8); have q0 := HM.out.o0; have q1 := HM.out.o1; have q2 := HM.out.o2; have q3 := HM.out.o3; have q4 := HM.out.i0; clear hb8)
          | (go_at_call 22; with_reducible refine (HM.out.value HRI.out hic HRN.out cc2 false Hvc.out).mono ?_; rintro e w8 ⟨rfl, hb8⟩; have HM := hid (HM.out.below hb8); have HB8 := hid (bthen HB8.out hb8); have q0 := HM.out.o0; have q1 := HM.out.o1; have q2 := HM.out.o2; have q3 := HM.out.o3; have q4 := HM.out.i0; clear hb8)
          | (go_at_call 22; with_reducible refine (HM.out.value HRI.out hic HRN.out z false HVZ.out.1).mono ?_; rintro e w8 ⟨rfl, hb8⟩; have HM := hid (HM.out.below hb8); have HB8 := hid (bthen HB8.out hb8); have q0 := HM.out.o0; have q1 := HM.out.o1; have q2 := HM.out.o2; have q3 := HM.out.o3; have q4 := HM.out.i0; clear hb8)
          | (go_at_call 22; with_reducible refine (HM.out.value HRI.out hic HRN.out (notI z) (!false) HVZ.out.2).mono ?_; rintro e w8 ⟨rfl, hb8⟩; have HM := hid (HM.out.below hb8); have HB8 := hid (bthen HB8.out hb8); have q0 := HM.out.o0; have q1 := HM.out.o1; have q2 := HM.out.o2; have q3 := HM.out.o3; have q4 := HM.out.i0; clear hb8))
              exact ⟨⟨k + 1, A5, c5, r, by omega, by go_num, HM.out.bst, HRI.out, HRS.out, HER.out, ST5.out.trans (Step.of_below HB8.out)⟩, by simp [intOf]; omega⟩
      · have g5 : (r.er != 0) = true := by simp [her]
        clear her
        go_wp2_with (first
          | (go_at_call 23; refine ADO.out.mono ?_; rintro e w5 ⟨rfl, A5, c5, hm, st5⟩; have HM := hid hm; have ST5 := hid st5; have HB8 := hid (Below.refl w5.heap.size w5); have q0 := hm.o0; have q1 := hm.o1; have q2 := hm.o2; have q3 := hm.o3; have q4 := hm.i0; have q5 := hm.p0;  clear hm st5)
          | (go_at_call 19; refine (err_any HM.out.bst).mono ?_; rintro e w6 ⟨rfl, hw6⟩; rw [← hw6]; clear hw6 w6)
          | (go_at_call 21; refine (circuit_any HM.out.bst).mono ?_; rintro e w7 ⟨B, d, rfl, hr7, hb7⟩; have HR7 := hid hr7; have HB7 := hid hb7; clear hr7 hb7)
          | (go_at_call 12; refine (valid_any r.n B d r.G _ HR7.out (by have := HRI.out.ok.size; have := HRI.out.ok.lo; omega)).mono ?_; rintro e w8 ⟨ht, hb8⟩; obtain rfl := ht.eq_yes HRI.out.vld; clear ht; have HB9 := hid hb8; clear hb8))
        go_ret
        exact ⟨rfl, bthen HB1.out (bthen (Step.below_of HB3.out HBB.out.1 HBB.out.2 ST5.out) (bthen HB7.out HB9.out))⟩
    · obtain rfl : k = O.length := by omega
      go_wp2_with (first
        | (go_at_call 21; refine (circuit_any HS.out).mono ?_; rintro e w7 ⟨B, d, rfl, hr7, hb7⟩; have HR7 := hid hr7; have HB7 := hid hb7; clear hr7 hb7)
        | (go_at_call 12; refine (valid_any s.n B d s.G _ HR7.out (by have := HINV.out.ok.size; have := HINV.out.ok.lo; omega)).mono ?_; rintro e w8 ⟨ht, hb8⟩; obtain rfl := ht.eq_yes HINV.out.vld; clear ht; have HB8 := hid hb8; clear hb8))
      go_ret
      exact ⟨rfl, bthen HB1.out (bthen HBR.out (bthen HB7.out HB8.out))⟩
end Go.Proofs.Ytelbjendeldlcaa
