/- DominatorBodies answers true. -/
import Derived.Test.YtjddegfigdpcbaaAC
import Derived.Test.YtjddegfigdpcbaaV
namespace Go.Proofs.Ytjddegfigdpcbaa
open Go.RowKit

theorem loops_get (F : List (List Int)) (k : Nat) (hk : k < (loopsL F).length) : ∃ h, h < F.length ∧ srcL F h ≠ [] ∧ (loopsL F).getD k (0, []) = (h, bodyP F h F.length) := by
  have hm := getD_mem (d := (0, [])) hk
  unfold loopsL loopsP at hm ⊢
  obtain ⟨h, hh, e⟩ := List.mem_map.1 hm
  obtain ⟨h1, h2⟩ := List.mem_filter.1 hh
  refine ⟨h, List.mem_range.1 h1, fun e2 => ?_, e.symm⟩
  rw [e2] at h2; simp at h2
theorem loops_inc (F : List (List Int)) (i j : Nat) (hij : i < j) (hj : j < (loopsL F).length) : ((loopsL F).getD i (0, [])).1 < ((loopsL F).getD j (0, [])).1 := by
  have hp : (loopsL F).Pairwise fun x y => x.1 < y.1 := by
    unfold loopsL loopsP
    rw [List.pairwise_map]
    exact List.pairwise_lt_range.filter _
  have := (List.pairwise_iff_getElem.1 hp) i j (by omega) hj hij
  simpa [List.getD_eq_getElem?_getD, List.getElem?_eq_getElem hj, List.getElem?_eq_getElem (show i < (loopsL F).length by omega)] using this
theorem body_sorted (F : List (List Int)) (h i : Nat) (hi : i + 1 < (bodyP F h F.length).length) : (bodyP F h F.length).getD i 0 ≤ (bodyP F h F.length).getD (i + 1) 0 := by
  have hp : (bodyP F h F.length).Pairwise fun x y => x < y := by
    unfold bodyP
    rw [List.pairwise_map]
    exact (List.pairwise_lt_range.filter _).imp fun h => by simpa using h
  have := (List.pairwise_iff_getElem.1 hp) i (i + 1) (by omega) hi (by omega)
  have h2 : (bodyP F h F.length).getD i 0 = (bodyP F h F.length)[i]'(by omega) := by simp [List.getD_eq_getElem?_getD, List.getElem?_eq_getElem (show i < (bodyP F h F.length).length by omega)]
  have h3 : (bodyP F h F.length).getD (i + 1) 0 = (bodyP F h F.length)[i + 1]'hi := by simp [List.getD_eq_getElem?_getD, List.getElem?_eq_getElem hi]
  rw [h2, h3]; omega
theorem head_in (F : List (List Int)) {h : Nat} (hh : h < F.length) : (h : Int) ∈ bodyP F h F.length := mem_body.2 ⟨h, rfl, hh, self_in⟩
/-- is there an edge back among the first -/
def backB (F : List (List Int)) (h : Nat) (M : List Int) (j : Nat) : Bool := (M.take j).any fun x => (F.getD x.toNat []).any fun y => (h : Int) == y
theorem backB_next (F : List (List Int)) (h : Nat) (M : List Int) (j : Nat) (hj : j < M.length) : backB F h M (j + 1) = (backB F h M j || (F.getD (M.getD j 0).toNat []).any fun y => (h : Int) == y) := by
  unfold backB; rw [take_snoc M 0 j hj, List.any_append]; simp
theorem backB_full {F : List (List Int)} (hV : VldF F) {h : Nat} (hh : h < F.length) (hs : srcL F h ≠ []) : backB F h (bodyP F h F.length) (bodyP F h F.length).length = true := by
  unfold backB
  rw [List.take_length]
  obtain ⟨x, hx⟩ := List.exists_mem_of_ne_nil _ hs
  obtain ⟨b, e, _⟩ := (mem_srcL hV hh).1 hx
  subst e
  obtain ⟨hb, hi, he⟩ := src_in hV hh hx
  rw [List.any_eq_true]
  exact ⟨(b : Int), mem_body.2 ⟨b, rfl, hb, hi⟩, by rw [Int.toNat_natCast]; exact any_mem he⟩
theorem contains_q (y : Int) (A : Option Addr) (c : Nat) (L : List Int) (b : Bool) (w : World) (hL : Row w A (ints L)) (hl : L.length ≤ 1000000) (hb : b = L.any fun x => y == x) :
    Calls Try.prog 30 #[.slice A L.length c, .int .i64 y] w fun e w' => e = .returned (.bool b) ∧ w' = w := by
  refine (contains_any y A c L w hL hl).mono ?_
  rintro e w1 ⟨rfl, rfl⟩
  rw [hb]; exact ⟨rfl, rfl⟩
theorem conL_len (F : List (List Int)) : (conL F).length = F.length := by simp [conL]
theorem mem_con {F : List (List Int)} (hV : VldF F) {b : Nat} (hb : b < F.length) {x : Int} (hx : x ∈ (conL F).getD b []) : ∃ a : Nat, x = a ∧ a < F.length ∧ ∃ y ∈ F.getD a [], y ≠ (F.getD a []).getD 0 0 := by
  have e : (conL F).getD b [] = conRow (relF (revF F) 1) F b F.length := by simp [conL, List.getD_eq_getElem?_getD, hb]
  rw [e] at hx
  unfold conRow at hx
  obtain ⟨a, ha, rfl⟩ := List.mem_map.1 hx
  obtain ⟨h1, h2⟩ := List.mem_filter.1 ha
  have han := List.mem_range.1 h1
  exact ⟨a, rfl, han, ctl_two hV han hb h2⟩
theorem con_short (F : List (List Int)) (b : Nat) (hb : b < F.length) : ((conL F).getD b []).length ≤ F.length := by
  have e : (conL F).getD b [] = conRow (relF (revF F) 1) F b F.length := by simp [conL, List.getD_eq_getElem?_getD, hb]
  rw [e]; exact conRow_le _ _ _ _

set_option maxHeartbeats 4000000 in
set_option maxRecDepth 100000 in
theorem bodies_any (pa : Option Addr) (pc : Nat) (F : List (List Int)) (w : World) (hF : FRow w pa F) (hl : F.length ≤ maxLen) :
    Calls Try.prog 10 #[.agg #[.slice pa F.length pc]] w fun e w' => e = .returned (.bool true) ∧ Below w.heap.size w w' := by
  have HF := hid hF; have hl' := hl
  unfold maxLen at hl'
  clear hF
  go_enter Try.func10, Try.ntmps10
  go_wp2_with fail
  refine (awake_any _).mono ?_
  rintro e w1 ⟨rfl, hb1⟩
  have c0 : w1.cell? ⟨w.heap.size, 0, none⟩ = some (.slice pa F.length pc) := box_cell hb1 0 _ rfl
  have HBW := hid (bthen (below_alloc w _) hb1)
  replace HF := hid (HF.out.below HBW.out)
  clear hb1
  by_cases hS : ¬ SmallF F 14
  · have HS := hid hS; clear hS
    go_wp2_with (go_at_call 12; refine (small_any _ _ _ _ _ HF.out hl).mono ?_; rintro e w2 ⟨ht, hb2⟩; obtain rfl := ht.eq_no HS.out; replace HBW := hid (bthen HBW.out hb2); clear ht hb2)
    go_ret
    exact ⟨rfl, HBW.out⟩
  have hS := Classical.not_not.1 hS
  have hFl := hS.2
  have HS := hid hS; clear hS
  by_cases hV : ¬ VldF F
  · have HV := hid hV; clear hV
    go_wp2_with (first | (go_at_call 12; refine (small_any _ _ _ _ _ HF.out hl).mono ?_; rintro e w2 ⟨ht, hb2⟩; obtain rfl := ht.eq_yes HS.out; replace c0 := below_cell hb2 c0; replace HF := hid (HF.out.below hb2); replace HBW := hid (bthen HBW.out hb2); clear ht hb2) | (go_at_call 14; refine (rvalid_any _ _ _ _ HF.out HS.out.s6).mono ?_; rintro e w3 ⟨ht, hb3⟩; obtain rfl := ht.eq_no HV.out; replace HBW := hid (bthen HBW.out hb3); clear ht hb3))
    go_ret
    exact ⟨rfl, HBW.out⟩
  have HV := hid (Classical.not_not.1 hV); clear hV
  go_wp2_with (first | (go_at_call 12; refine (small_any _ _ _ _ _ HF.out hl).mono ?_; rintro e w2 ⟨ht, hb2⟩; obtain rfl := ht.eq_yes HS.out; replace c0 := below_cell hb2 c0; replace HF := hid (HF.out.below hb2); replace HBW := hid (bthen HBW.out hb2); clear ht hb2) | (go_at_call 14; refine (rvalid_any _ _ _ _ HF.out HS.out.s6).mono ?_; rintro e w3 ⟨ht, hb3⟩; obtain rfl := ht.eq_yes HV.out; replace c0 := below_cell hb3 c0; replace HF := hid (HF.out.below hb3); replace HBW := hid (bthen HBW.out hb3); clear ht hb3))
  refine (Loops_yes pa pc F _ HF.out HS.out.s900 HV.out).mono ?_
  rintro e w4 ⟨A, cA, rfl, hr4, hb4⟩
  replace c0 := below_cell hb4 c0; replace HF := hid (HF.out.below hb4); replace HBW := hid (bthen HBW.out hb4)
  have HLP := hid hr4
  clear hr4 hb4
  have hln := loopsP_le F F.length
  change (loopsL F).length ≤ F.length at hln
  go_wp2_with fail
  go_loopw [27, 3] (fun i v wr => ∃ k : Nat, ∃ last : Int, k ≤ (loopsL F).length ∧ i = .int .i64 k ∧ v = .int .i64 last ∧ Hid (∀ j, k ≤ j → j < (loopsL F).length → last < (((loopsL F).getD j (0, [])).1 : Int)) ∧ Below w4.heap.size w4 wr) (fun i _ _ => (loopsL F).length - (intOf i).toNat)
  case atStart => exact ⟨0, -1, Nat.zero_le _, rfl, rfl, fun j _ _ => by omega, Below.refl _ _⟩
  case round =>
    obtain ⟨k, last, hk, rfl, rfl, HLA, hbr⟩ := hrel
    obtain ⟨wo, hwo⟩ : ∃ x, x = wr := ⟨_, rfl⟩
    subst hwo
    have k0 := below_cell hbr c0
    have HBR := hid hbr
    have HFr := hid (HF.out.below hbr)
    by_cases hlt : k < (loopsL F).length
    · obtain ⟨h, hh, hsr, hget⟩ := loops_get F k hlt
      obtain ⟨sb, so, B, cB, rfl, l0, l1, l2⟩ := HLP.out k hlt
      have hlast := HLA.out k (Nat.le_refl _) hlt
      have hinc : ∀ j, k + 1 ≤ j → j < (loopsL F).length → (h : Int) < (((loopsL F).getD j (0, [])).1 : Int) := fun j h1 h2 => by
        have := loops_inc F k j (by omega) h2
        rw [hget] at this
        omega
      rw [hget] at l0 l1 l2 hlast
      dsimp only at l0 l1 l2 hlast
      have hM : 1 ≤ (bodyP F h F.length).length := List.length_pos_of_mem (head_in F hh)
      have hM2 := bodyP_le F h F.length
      have hso := body_sorted F h
      have hhd := any_mem (head_in F hh)
      have hmem : ∀ x ∈ bodyP F h F.length, ∃ c : Nat, x = c ∧ c < F.length ∧ relF F 0 h c = true ∧ (∃ y : Nat, (y : Int) ∈ F.getD c [] ∧ (y : Int) ∈ bodyP F h F.length) := fun x hx => by
        obtain ⟨c, rfl, hc, hi⟩ := mem_body.1 hx
        obtain ⟨y, hy, hyn, hyi⟩ := body_on HV.out hh hsr hc hi
        exact ⟨c, rfl, hc, (relF_iff HV.out.ok hh hc).2 (loop_dom HV.out hh hsr hc hi), y, hy, mem_body.2 ⟨y, rfl, hyn, hyi⟩⟩
      have hbk := backB_full HV.out hh hsr
      obtain ⟨M, hMe⟩ : ∃ M, M = bodyP F h F.length := ⟨_, rfl⟩
      rw [← hMe] at l1 l2 hM hM2 hso hhd hmem hbk
      have l0 := below_cell hbr l0; have l1 := below_cell hbr l1
      have HL2 := hid (l2.below hbr)
      have HIN := hid hinc; have HSO := hid hso; have HHD := hid hhd; have HME := hid hmem; have HBK := hid hbk
      have q1 : decide ((h : Int) ≤ last) = false := by simp; omega
      clear hbr hget hinc hso hhd hmem hbk hMe l2 hsr hlast
      go_wp2_with (first
        | (go_at_call 30; refine (contains_any h _ _ M _ (HL2.out.below (below_alloc _ _)) (by omega)).mono ?_; rintro e w9 ⟨rfl, rfl⟩; rw [HHD.out])
        | (go_at_call 36; refine (isSorted_any _ _ M _ (HL2.out.below (below_alloc _ _)) hM (by omega) HSO.out).mono ?_; rintro e w9 ⟨rfl, hb9⟩; have g0 : w9.cell? ⟨wo.heap.size, 0, none⟩ = some (.int .i64 h) := box_cell hb9 0 _ rfl; have g1 : w9.cell? ⟨wo.heap.size, 1, none⟩ = some (.slice B M.length cB) := box_cell hb9 1 _ rfl; have hb9' := bthen (below_alloc wo _) hb9; replace k0 := below_cell hb9' k0; replace HFr := hid (HFr.out.below hb9'); replace HL2 := hid (HL2.out.below hb9'); replace HBR := hid (bthen HBR.out hb9'); clear hb9 hb9' l0 l1))
      go_loopw [54, 6] (fun i v wi => ∃ j : Nat, ∃ bk : Bool, j ≤ M.length ∧ i = .int .i64 j ∧ v = .bool bk ∧ Hid (bk = backB F h M j) ∧ Below w9.heap.size w9 wi) (fun i _ _ => M.length - (intOf i).toNat)
      case atStart => exact ⟨0, false, Nat.zero_le _, rfl, rfl, rfl, Below.refl _ _⟩
      case round =>
        obtain ⟨j, bk, hj, rfl, rfl, HBK1, hbi⟩ := hrel
        replace k0 := below_cell hbi k0; replace g0 := below_cell hbi g0; replace g1 := below_cell hbi g1
        replace HFr := hid (HFr.out.below hbi); replace HL2 := hid (HL2.out.below hbi)
        have HBI := hid hbi
        clear hbi
        by_cases hjt : j < M.length
        · obtain ⟨c, hce, hcn, hrel, y, hy, hyM⟩ := HME.out _ (getD_mem (d := 0) hjt)
          obtain ⟨mb, mo, rfl, m0⟩ := HL2.out.int j hjt
          rw [hce] at m0
          obtain ⟨fb, fo, qa, qb, C, cc, rfl, p0, p1, p2, p3⟩ := HFr.out c hcn
          have hnx := backB_next F h M j hjt
          rw [hce, Int.toNat_natCast] at hnx
          obtain ⟨N, hN⟩ : ∃ N, N = F.getD c [] := ⟨_, rfl⟩
          have hN8 := HS.out.1 c hcn
          rw [← hN] at p2 p3 hN8 hy hnx
          have HP3 := hid p3; have HNX := hid hnx; have HR := hid hrel
          have hany := show (N.any fun x => M.any fun z => x == z) = true from List.any_eq_true.2 ⟨_, hy, any_mem hyM⟩
          have HANY := hid hany
          obtain ⟨cn, hcv⟩ : ∃ b : Bool, b = N.any fun z => (h : Int) == z := ⟨_, rfl⟩
          have HCV := hid hcv
          clear hce hrel hy hyM p0 p1 p3 hnx hN hany hcv
          cases bk with
          | true =>
            go_wp2_with (first | (go_at_call 20; refine (Dom_nat _ pc F h c _ _ HFr.out HS.out.s900 HV.out hh hcn HR.out).mono ?_; rintro e w8 ⟨rfl, hb8⟩; replace k0 := below_cell hb8 k0; replace g0 := below_cell hb8 g0; replace g1 := below_cell hb8 g1; replace p2 := below_cell hb8 p2; replace HP3 := hid (HP3.out.below hb8); replace HL2 := hid (HL2.out.below hb8); replace HFr := hid (HFr.out.below hb8); replace HBI := hid (bthen HBI.out hb8); clear hb8))
            go_big_quiet (fail)
            go_wp2_with (first | (go_at_call 37; refine (containsFunc_any 38 #[.pointer (some ⟨wo.heap.size, 0, none⟩)] (fun x => M.any fun z => x == z) C cc N _ enter38 (inBody_pred (W := World.drewN w8 nq) (h := h) g1 (HL2.out.below (below_drewN _ _)) (by omega)) (HP3.out.below (below_drewN _ _)) (by omega)).mono ?_; rintro e w7 ⟨rfl, hb7⟩; rw [HANY.out]; replace HBI := hid (bthen HBI.out (bthen (below_drewN _ _) hb7)); clear hb7))
            exact ⟨⟨j + 1, true, by omega, by go_num, rfl, by exact (HNX.out.trans (by rw [← HBK1.out]; rfl)).symm, HBI.out⟩, by simp [intOf]; omega⟩
          | false =>
            go_wp2_with (first | (go_at_call 20; refine (Dom_nat _ pc F h c _ _ HFr.out HS.out.s900 HV.out hh hcn HR.out).mono ?_; rintro e w8 ⟨rfl, hb8⟩; replace k0 := below_cell hb8 k0; replace g0 := below_cell hb8 g0; replace g1 := below_cell hb8 g1; replace p2 := below_cell hb8 p2; replace HP3 := hid (HP3.out.below hb8); replace HL2 := hid (HL2.out.below hb8); replace HFr := hid (HFr.out.below hb8); replace HBI := hid (bthen HBI.out hb8); clear hb8))
            go_big_quiet ((go_at_call 30; exact Calls.quiet_of_same (contains_q h _ _ N cn _ (HP3.out.below (below_drewN _ _)) (by omega) HCV.out)))
            go_wp2_with (first | (go_at_call 37; refine (containsFunc_any 38 #[.pointer (some ⟨wo.heap.size, 0, none⟩)] (fun x => M.any fun z => x == z) C cc N _ enter38 (inBody_pred (W := World.drewN w8 nq) (h := h) g1 (HL2.out.below (below_drewN _ _)) (by omega)) (HP3.out.below (below_drewN _ _)) (by omega)).mono ?_; rintro e w7 ⟨rfl, hb7⟩; rw [HANY.out]; replace HBI := hid (bthen HBI.out (bthen (below_drewN _ _) hb7)); clear hb7))
            exact ⟨⟨j + 1, cn, by omega, by go_num, rfl, by exact (HNX.out.trans (by rw [← HBK1.out, ← HCV.out]; simp)).symm, HBI.out⟩, by simp [intOf]; omega⟩
        · have hjM : j = M.length := by omega
          have hbt : bk = true := by rw [HBK1.out, hjM]; exact HBK.out
          subst hbt
          clear hjM hj
          go_wp2_with fail
          exact ⟨⟨k + 1, h, by omega, by go_num, rfl, HIN.out, bthen HBR.out HBI.out⟩, by simp [intOf]; omega⟩
    · go_wp2_with (first | (go_at_call 25; refine (Control_yes pa pc F _ HFr.out HS.out.s900 HV.out).mono ?_; rintro e w5 ⟨D, cD, rfl, hr5, hb5⟩; have HCR := hid hr5; replace k0 := below_cell hb5 k0; replace HFr := hid (HFr.out.below hb5); replace HBR := hid (bthen HBR.out hb5); clear hr5 hb5))
      have hcn := conL_len F
      have HCN := hid hcn
      have hcl : (conL F).length ≤ 14 := by omega
      clear hcn hk hlt
      go_loopw [103] (fun i wi => ∃ b : Nat, b ≤ (conL F).length ∧ i = .int .i64 b ∧ Below w5.heap.size w5 wi) (fun i _ => (conL F).length - (intOf i).toNat)
      case atStart => exact ⟨0, Nat.zero_le _, rfl, Below.refl _ _⟩
      case round =>
        obtain ⟨b, hb, rfl, hbi⟩ := hrel
        obtain ⟨wb, hwb⟩ : ∃ x, x = wr := ⟨_, rfl⟩
        subst hwb
        have k1 := below_cell hbi k0
        have HBI := hid hbi
        by_cases hbt : b < (conL F).length
        · obtain ⟨sb, so, B, cB, rfl, m0, m1⟩ := HCR.out b hbt
          have hmem : ∀ x ∈ (conL F).getD b [], _ := fun x hx => mem_con HV.out (by rw [← HCN.out]; exact hbt) hx
          have hms := con_short F b (by rw [← HCN.out]; exact hbt)
          obtain ⟨M, hM⟩ : ∃ M, M = (conL F).getD b [] := ⟨_, rfl⟩
          rw [← hM] at m0 m1 hmem hms
          have m0 := below_cell hbi m0
          have HM1 := hid (m1.below hbi); have HME := hid hmem
          clear hbi hmem hM m1
          go_wp2_with fail
          go_loopw [109] (fun i wi => ∃ j : Nat, j ≤ M.length ∧ i = .int .i64 j ∧ Below wb.heap.size wb wi) (fun i _ => M.length - (intOf i).toNat)
          case atStart => exact ⟨0, Nat.zero_le _, rfl, Below.refl _ _⟩
          case round =>
            obtain ⟨j, hj, rfl, hbj⟩ := hrel
            have HBJ := hid hbj
            by_cases hjt : j < M.length
            · obtain ⟨a, hae, han, y, hy, hyn⟩ := HME.out _ (getD_mem (d := 0) hjt)
              obtain ⟨mb, mo, rfl, c1⟩ := HM1.out.int j hjt
              rw [hae] at c1
              have c1 := below_cell hbj c1
              have k2 := below_cell hbj k1
              have HFj := hid ((HFr.out.below HBI.out).below hbj)
              obtain ⟨fb, fo, qa, qb, C, cc, rfl, p0, p1, p2, p3⟩ := HFj.out a han
              obtain ⟨N, hN⟩ : ∃ N, N = F.getD a [] := ⟨_, rfl⟩
              have hN8 := HS.out.1 a han
              rw [← hN] at p2 p3 hy hyn hN8
              have hNp : 1 ≤ N.length := List.length_pos_of_mem hy
              have HANY := hid (show (N.any fun x => x != N.getD 0 0) = true from List.any_eq_true.2 ⟨y, hy, by simpa using hyn⟩)
              have hq : (wr.alloc (.cells #[.slice C N.length cc] 29)).cell? ⟨wr.heap.size, 0, none⟩ = some (.slice C N.length cc) := by go_simp
              have HQ := hid (other_pred (L := N) hq (p3.below (below_alloc wr _)) hNp (by omega))
              have HP3 := hid (p3.below (below_alloc wr (.cells #[.slice C N.length cc] 29)))
              clear hae hy hyn hN p0 p1 p3 hbj hq
              go_wp2_with (first | (go_at_call 37; refine (containsFunc_any 39 #[.pointer (some ⟨wr.heap.size, 0, none⟩)] (fun x => x != N.getD 0 0) C cc N _ enter39 HQ.out HP3.out (by omega)).mono ?_; rintro e w7 ⟨rfl, hb7⟩; rw [HANY.out]; replace HBJ := hid (bthen HBJ.out (bthen (below_alloc _ _) hb7)); clear hb7))
              exact ⟨⟨j + 1, by omega, by go_num, HBJ.out⟩, by simp [intOf]; omega⟩
            · clear hj
              go_wp2_with fail
              exact ⟨⟨b + 1, by omega, by go_num, bthen HBI.out HBJ.out⟩, by simp [intOf]; omega⟩
        · clear hb
          go_wp2_with fail
          go_ret
          exact ⟨rfl, bthen HBW.out (bthen HBR.out HBI.out)⟩
end Go.Proofs.Ytjddegfigdpcbaa
