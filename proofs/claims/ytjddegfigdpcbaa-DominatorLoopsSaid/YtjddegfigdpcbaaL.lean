/- Index, Contains, Lists; Dominators, Postdominators. -/
import Derived.Test.YtjddegfigdpcbaaK
namespace Go.Proofs.Ytjddegfigdpcbaa
open Go.RowKit

set_option maxHeartbeats 400000 in
theorem index_any (y : Int) (A : Option Addr) (c : Nat) (L : List Int) (w : World) (hL : Row w A (ints L)) (hl : L.length ≤ 1000000) :
    Calls Try.prog 53 #[.slice A L.length c, .int .i64 y] w fun e w' => e = .returned (.int .i64 (idxF (fun x => y == x) L 0)) ∧ w = w' := by
  go_enter Try.func53, Try.ntmps53
  go_wp2_with fail
  go_loop [8] (fun i => ∃ k : Nat, k ≤ L.length ∧ i = .int .i64 k ∧ idxF (fun x => y == x) L 0 = idxF (fun x => y == x) (L.drop k) k) (fun i => L.length - (intOf i).toNat)
  case atStart => exact ⟨0, Nat.zero_le _, rfl, rfl⟩
  case round =>
    obtain ⟨k, hk, rfl, hx⟩ := hrel
    have HX := hid hx
    by_cases hlt : k < L.length
    · obtain ⟨sb, so, rfl, hc⟩ := hL.int k hlt
      have hdr := idxF_drop (fun x => y == x) L k hlt k
      obtain ⟨x, hx0⟩ : ∃ x, x = L.getD k 0 := ⟨_, rfl⟩
      rw [← hx0] at hc hdr
      have HD := hid hdr
      clear hx hdr hx0
      by_cases q : y = x
      · have q' : (y == x) = true := by simp [q]
        have HQ := hid q; clear q
        go_wp2_with fail
        go_ret
        exact ⟨by rw [HX.out, HD.out, if_pos (by simpa using HQ.out)]; rfl, rfl⟩
      · have q' : (y == x) = false := by simp [q]
        have HQ := hid q; clear q
        go_wp2_with fail
        go_round
        case rel => exact ⟨k + 1, by omega, by go_num, by rw [HX.out, HD.out, if_neg (by simpa using HQ.out)]⟩
        case measure => simp [intOf]; omega
    · obtain rfl : k = L.length := by omega
      have hd : idxF (fun x => y == x) L 0 = -1 := by rw [hx, List.drop_length]; rfl
      have HD := hid hd
      clear hx hd
      go_wp2_with fail
      go_ret
      exact ⟨by rw [HD.out]; rfl, rfl⟩
theorem contains_any (y : Int) (A : Option Addr) (c : Nat) (L : List Int) (w : World) (hL : Row w A (ints L)) (hl : L.length ≤ 1000000) :
    Calls Try.prog 30 #[.slice A L.length c, .int .i64 y] w fun e w' => e = .returned (.bool (L.any fun x => y == x)) ∧ w = w' := by
  have hi := idxF_any (fun x => y == x) L 0
  have HI := hid hi; clear hi
  go_enter Try.func30, Try.ntmps30
  go_wp2_with (go_at_call 53; refine (index_any y A c L _ hL hl).mono ?_; rintro e w1 ⟨rfl, rfl⟩)
  go_ret
  exact ⟨by rw [← HI.out]; rfl, rfl⟩

set_option maxHeartbeats 1000000 in
theorem lists_any (A B : Option Addr) (c d : Nat) (La Lb : List (List Int)) (w : World) (hl : La.length ≤ 1000000) (hA : LRow w A La) (hB : LRow w B Lb) (hsa : ∀ i, i < La.length → (La.getD i []).length ≤ 1000000) :
    Calls Try.prog 49 #[.slice A La.length c, .slice B Lb.length d] w fun e w' => Tells (La = Lb) e ∧ Below w.heap.size w w' := by
  by_cases h1 : La.length = Lb.length
  · have h1' : ((La.length : Int) != (Lb.length : Int)) = false := by simp [h1]
    have H1 := hid h1; clear h1
    go_enter Try.func49, Try.ntmps49
    go_wp2_with fail
    go_loopw [5] (fun i wr => ∃ k : Nat, k ≤ La.length ∧ i = .int .i64 k ∧ (∃ q, wr = w.drewN q) ∧ ∀ j, j < k → La.getD j [] = Lb.getD j [])
      (fun i _ => La.length - (intOf i).toNat)
    case atStart => exact ⟨0, Nat.zero_le _, rfl, ⟨0, rfl⟩, fun j hj => absurd hj (by omega)⟩
    case round =>
      obtain ⟨k, hk, rfl, ⟨q, rfl⟩, hall⟩ := hrel
      have HA := hid hall; clear hall
      by_cases hlt : k < La.length
      · obtain ⟨sb, so, B1, c1, rfl, hc, hr⟩ := hA k hlt
        obtain ⟨sb', so', B2, c2, rfl, hc', hr'⟩ := hB k (by have := H1.out; omega)
        have hsk := hsa k hlt
        obtain ⟨X, hx⟩ : ∃ x, x = La.getD k [] := ⟨_, rfl⟩
        obtain ⟨Y, hy⟩ : ∃ y, y = Lb.getD k [] := ⟨_, rfl⟩
        rw [← hx] at hc hr hsk; rw [← hy] at hc' hr'
        have HX := hid hx; have HY := hid hy; clear hx hy
        have i1 : (0 : Int) ≤ k := by omega
        have i2 : (k : Int) < La.length := by omega
        have i3 : (k : Int) < Lb.length := by have := H1.out; omega
        by_cases h2 : X.length = Y.length
        · have h2' : ((X.length : Int) != (Y.length : Int)) = false := by simp [h2]
          have H2 := hid h2; clear h2
          go_wp2_with fail
          go_big_quiet (fail)
          go_wp2_with fail
          go_loopw [6] (fun i wi => ∃ j : Nat, j ≤ X.length ∧ i = .int .i64 j ∧ (∃ q, wi = w.drewN q) ∧ ∀ i, i < j → X.getD i 0 = Y.getD i 0)
            (fun i _ => X.length - (intOf i).toNat)
          case atStart => exact ⟨0, Nat.zero_le _, rfl, ⟨q + nq, by rw [World.drewN_drewN]⟩, fun j hj => absurd hj (by omega)⟩
          case round =>
            obtain ⟨j, hj, rfl, ⟨q2, rfl⟩, hall⟩ := hrel
            have HJ := hid hall; clear hall
            by_cases hjt : j < X.length
            · obtain ⟨tb, to, rfl, hu⟩ := hr.int j hjt
              obtain ⟨tb', to', rfl, hv⟩ := hr'.int j (by have := H2.out; omega)
              obtain ⟨u, hu0⟩ : ∃ u, u = X.getD j 0 := ⟨_, rfl⟩
              obtain ⟨v, hv0⟩ : ∃ v, v = Y.getD j 0 := ⟨_, rfl⟩
              rw [← hu0] at hu; rw [← hv0] at hv
              have HU := hid hu0; have HV := hid hv0; clear hu0 hv0
              have j1 : (0 : Int) ≤ j := by omega
              have j2 : (j : Int) < X.length := by omega
              have j3 : (j : Int) < Y.length := by have := H2.out; omega
              by_cases q3 : u = v
              · subst q3
                go_wp2_with fail
                go_big_quiet (fail)
                go_wp2_with fail
                refine ⟨⟨j + 1, by omega, by go_num, ⟨_, rfl⟩, fun i hi => ?_⟩, by simp [intOf]; omega⟩
                by_cases hij : i = j
                · subst hij; rw [← HU.out, ← HV.out]
                · exact HJ.out i (by omega)
              · have q3' : (u != v) = true := by simpa using q3
                have HQ := hid q3; clear q3
                go_wp2_with fail
                go_big_quiet (fail)
                go_wp2_with fail
                go_ret
                exact ⟨.no fun h => HQ.out (by rw [HU.out, HV.out, HX.out, HY.out, h]), (below_drewNK _ _ _).trans (below_drewNK _ _ _)⟩
            · go_wp2_with fail
              refine ⟨⟨k + 1, by omega, by go_num, ⟨_, rfl⟩, fun i hi => ?_⟩, by simp [intOf]; omega⟩
              by_cases hik : i = k
              · subst hik; rw [← HX.out, ← HY.out]; exact getD_ext 0 H2.out fun i hi => HJ.out i (by omega)
              · exact HA.out i (by omega)
        · have h2' : ((X.length : Int) != (Y.length : Int)) = true := by rw [bne_iff_ne]; omega
          have H2 := hid h2; clear h2
          go_wp2_with fail
          go_big_quiet (fail)
          go_wp2_with fail
          go_ret
          exact ⟨.no fun h => H2.out (by rw [HX.out, HY.out, h]), (below_drewNK _ _ _).trans (below_drewNK _ _ _)⟩
      · go_wp2_with fail
        go_ret
        exact ⟨.yes (getD_ext [] H1.out fun j hj => HA.out j (by omega)), below_drewNK _ _ _⟩
  · have h1' : ((La.length : Int) != (Lb.length : Int)) = true := by rw [bne_iff_ne]; omega
    have H1 := hid h1; clear h1
    go_enter Try.func49, Try.ntmps49
    go_wp2_with fail
    go_ret
    exact ⟨.no fun h => H1.out (by rw [h]), Below.refl _ _⟩
theorem lists18_any (A B : Option Addr) (c d : Nat) (La Lb : List (List Int)) (w : World) (hl : La.length ≤ 1000000) (hA : LRow w A La) (hB : LRow w B Lb) (hsa : ∀ i, i < La.length → (La.getD i []).length ≤ 1000000) :
    Calls Try.prog 24 #[.slice A La.length c, .slice B Lb.length d] w fun e w' => Tells (La = Lb) e ∧ Below w.heap.size w w' := by
  go_enter Try.func24, Try.ntmps24
  go_wp2_with (go_at_call 49; refine (lists_any A B c d La Lb _ hl hA hB hsa).mono ?_; rintro e w1 ⟨⟨b, rfl, ht⟩, hb1⟩; have HT := hid ht; clear ht)
  go_ret
  exact ⟨⟨b, rfl, HT.out⟩, hb1⟩

/-- the immediate dominators in plain Lean -/
def domL (F : List (List Int)) : List Int := immL (relF F 0) F.length
theorem Dominators_yes (pa : Option Addr) (pc : Nat) (F : List (List Int)) (w : World) (hF : FRow w pa F) (hsm : ∀ i, i < F.length → (F.getD i []).length ≤ 900) (hV : VldF F) :
    Calls Try.prog 16 #[.agg #[.slice pa F.length pc]] w (GivesInts w (domL F)) := by
  have hlo := hV.lo
  have HV := hid hV; clear hV
  go_enter Try.func16, Try.ntmps16
  go_wp2_with (go_at_call 13; refine (valid_any _ _ _ _ (hF.below (below_alloc _ _)) (fun i hi => Nat.le_trans (hsm i hi) (by omega))).mono ?_; rintro e w1 ⟨ht, hb1⟩; obtain rfl := ht.eq_yes HV.out; have g0 := box_cell hb1 0 _ rfl; have HB1 := hid (bthen (below_alloc w _) hb1); clear ht hb1)
  refine (forward_any pa pc F _ (hF.below HB1.out) HV.out.hi).mono ?_
  rintro e w2 ⟨cb, rfl, hnx, hb2⟩
  have HB2 := hid (bthen HB1.out hb2); have HNX := hid hnx
  clear hnx hb2
  go_wp2_with fail
  refine (immediate_any F.length 0 57 cb F _ (GrA.fwd HNX.out HV.out hsm) rfl (by omega)).mono ?_
  rintro e w3 ⟨A, c, rfl, hr, hb3⟩
  have HR := hid hr; have HB3 := hid (bthen HB2.out hb3); clear hr hb3
  go_wp2_with fail
  go_ret
  exact ⟨A, c, rfl, HR.out, HB3.out⟩
theorem Dominators_no (pa : Option Addr) (pc : Nat) (F : List (List Int)) (w : World) (hF : FRow w pa F) (hsm : ∀ i, i < F.length → (F.getD i []).length ≤ 900) (hV : ¬ VldF F) :
    Calls Try.prog 16 #[.agg #[.slice pa F.length pc]] w (GivesInts w []) := by
  have HV := hid hV; clear hV
  go_enter Try.func16, Try.ntmps16
  go_wp2_with (go_at_call 13; refine (valid_any _ _ _ _ (hF.below (below_alloc _ _)) (fun i hi => Nat.le_trans (hsm i hi) (by omega))).mono ?_; rintro e w1 ⟨ht, hb1⟩; obtain rfl := ht.eq_no HV.out; have g0 := box_cell hb1 0 _ rfl; have HB1 := hid (bthen (below_alloc w _) hb1); clear ht hb1)
  go_ret
  exact ⟨none, 0, rfl, Row.nil, HB1.out⟩
/-- a reversed graph that can be computed -/
def revF (F : List (List Int)) : List (List Int) := (List.range F.length).map fun (c : Nat) => ((List.range F.length).filter fun i => (F.getD i []).contains (c : Int)).map Int.ofNat
theorem revF_len (F : List (List Int)) : (revF F).length = F.length := by simp [revF]
theorem revF_mem (F : List (List Int)) (c : Nat) (hc : c < F.length) (x : Int) : x ∈ (revF F).getD c [] ↔ ∃ i : Nat, x = i ∧ i < F.length ∧ (c : Int) ∈ F.getD i [] := by
  have e : (revF F).getD c [] = ((List.range F.length).filter fun i => (F.getD i []).contains (c : Int)).map Int.ofNat := by simp [revF, List.getD_eq_getElem?_getD, hc]
  rw [e]
  simp only [List.mem_map, List.mem_filter, List.mem_range, List.contains_iff_mem]
  constructor
  · rintro ⟨i, ⟨h1, h2⟩, rfl⟩; exact ⟨i, rfl, h1, h2⟩
  · rintro ⟨i, rfl, h1, h2⟩; exact ⟨i, ⟨h1, h2⟩, rfl⟩
theorem revF_ok (F : List (List Int)) : GrOk (revF F) := fun c hc x hx => by
  rw [revF_len] at hc
  obtain ⟨i, rfl, hi, _⟩ := (revF_mem F c hc x).1 hx
  rw [revF_len]; omega
theorem IsRev.reachB {F B : List (List Int)} (h : IsRev F B) (wo : Int) (L : List Int) : Ytjddegfigdpcbaa.reachB B wo L = Ytjddegfigdpcbaa.reachB (revF F) wo L :=
  reachB_congr (by rw [revF_len, h.len]) h.ok (revF_ok F) (fun i hi x => (h.mem i (by rw [← h.len]; exact hi) x).trans (revF_mem F i (by rw [← h.len]; exact hi) x).symm) wo L
theorem IsRev.relF {F B : List (List Int)} (h : IsRev F B) (root : Nat) : Ytjddegfigdpcbaa.relF B root = Ytjddegfigdpcbaa.relF (revF F) root := by
  funext a b; unfold Ytjddegfigdpcbaa.relF domB; rw [h.reachB, h.reachB]
theorem IsRev.relL {F B : List (List Int)} (h : IsRev F B) (root : Nat) : Ytjddegfigdpcbaa.relL B root = Ytjddegfigdpcbaa.relL (revF F) root := by
  funext a; unfold Ytjddegfigdpcbaa.relL; rw [h.relF, revF_len, h.len]
def postL (F : List (List Int)) : List Int := immL (relF (revF F) 1) F.length
theorem Postdominators_yes (pa : Option Addr) (pc : Nat) (F : List (List Int)) (w : World) (hF : FRow w pa F) (hsm : ∀ i, i < F.length → (F.getD i []).length ≤ 900) (hV : VldF F) :
    Calls Try.prog 18 #[.agg #[.slice pa F.length pc]] w (GivesInts w (postL F)) := by
  have hlo := hV.lo
  have HV := hid hV; clear hV
  go_enter Try.func18, Try.ntmps18
  go_wp2_with (go_at_call 13; refine (valid_any _ _ _ _ (hF.below (below_alloc _ _)) (fun i hi => Nat.le_trans (hsm i hi) (by omega))).mono ?_; rintro e w1 ⟨ht, hb1⟩; obtain rfl := ht.eq_yes HV.out; have g0 := box_cell hb1 0 _ rfl; have HB1 := hid (bthen (below_alloc w _) hb1); clear ht hb1)
  refine (backward_any pa pc F _ (hF.below HB1.out) HV.out hsm).mono ?_
  rintro e w2 ⟨B, ⟨cb, rfl, hnx, hb2⟩, hrev⟩
  have HB2 := hid (bthen HB1.out hb2); have HNX := hid hnx; have HRV := hid hrev
  clear hnx hb2 hrev
  go_wp2_with fail
  refine (immediate_any B.length 1 58 cb B _ (GrA.bwd HNX.out HV.out HRV.out) rfl (by rw [HRV.out.len]; omega)).mono ?_
  rintro e w3 ⟨A, c, rfl, hr, hb3⟩
  have HR := hid hr; have HB3 := hid (bthen HB2.out hb3); clear hr hb3
  go_wp2_with fail
  go_ret
  have e1 : immL (relF B 1) B.length = postL F := by unfold postL; rw [HRV.out.relF, HRV.out.len]
  rw [← e1]
  exact ⟨A, c, rfl, HR.out, HB3.out⟩
theorem Postdominators_no (pa : Option Addr) (pc : Nat) (F : List (List Int)) (w : World) (hF : FRow w pa F) (hsm : ∀ i, i < F.length → (F.getD i []).length ≤ 900) (hV : ¬ VldF F) :
    Calls Try.prog 18 #[.agg #[.slice pa F.length pc]] w (GivesInts w []) := by
  have HV := hid hV; clear hV
  go_enter Try.func18, Try.ntmps18
  go_wp2_with (go_at_call 13; refine (valid_any _ _ _ _ (hF.below (below_alloc _ _)) (fun i hi => Nat.le_trans (hsm i hi) (by omega))).mono ?_; rintro e w1 ⟨ht, hb1⟩; obtain rfl := ht.eq_no HV.out; have g0 := box_cell hb1 0 _ rfl; have HB1 := hid (bthen (below_alloc w _) hb1); clear ht hb1)
  go_ret
  exact ⟨none, 0, rfl, Row.nil, HB1.out⟩
end Go.Proofs.Ytjddegfigdpcbaa
