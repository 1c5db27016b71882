/- ref immediate, Dominators, Postdominators. -/
import Derived.Test.YtjddegfigdpcbaaAQ
import Derived.Test.YtjddegfigdpcbaaAF
namespace Go.Proofs.Ytjddegfigdpcbaa
open Go.RowKit

def allB (R : Nat → Nat → Bool) (a b k : Nat) : Bool := (List.range k).all fun c => !(decide (c ≠ b) && R c b && !R c a)
theorem allB_snoc (R : Nat → Nat → Bool) (a b k : Nat) : allB R a b (k + 1) = (allB R a b k && !(decide (k ≠ b) && R k b && !R k a)) := by
  unfold allB; rw [List.range_succ, List.all_append]; simp
def okB (R : Nat → Nat → Bool) (n a b : Nat) : Bool := decide (a ≠ b) && R a b && allB R a b n
def bestC (R : Nat → Nat → Bool) (n b : Nat) : Nat → Int
  | 0 => -1
  | a + 1 => if okB R n a b = true then (a : Int) else bestC R n b a
theorem bestC_succ (R : Nat → Nat → Bool) (n b a : Nat) : bestC R n b (a + 1) = if okB R n a b = true then (a : Int) else bestC R n b a := rfl
def bestL (R : Nat → Nat → Bool) (n k : Nat) : List Int := (List.range k).map fun b => bestC R n b n
theorem bestL_snoc (R : Nat → Nat → Bool) (n k : Nat) : bestL R n (k + 1) = bestL R n k ++ [bestC R n k n] := by
  unfold bestL; rw [List.range_succ, List.map_append]; rfl
theorem bestC_pos (R : Nat → Nat → Bool) (n b : Nat) : ∀ k, (bestC R n b k = -1 ∧ ∀ a, a < k → okB R n a b = false) ∨ ∃ q : Nat, bestC R n b k = q ∧ q < k ∧ okB R n q b = true := by
  intro k
  induction k with
  | zero => exact .inl ⟨rfl, fun a ha => by omega⟩
  | succ k ih =>
    unfold bestC
    cases h : okB R n k b with
    | true => exact .inr ⟨k, by simp, by omega, h⟩
    | false =>
      rw [if_neg (by simp)]
      rcases ih with ⟨h1, h2⟩ | ⟨q, h1, h2, h3⟩
      · refine .inl ⟨h1, fun a ha => ?_⟩
        by_cases hak : a = k
        · rw [hak]; exact h
        · exact h2 a (by omega)
      · exact .inr ⟨q, h1, by omega, h3⟩
theorem okB_iff (R : Nat → Nat → Bool) (n a b : Nat) (ha : a < n) : okB R n a b = true ↔ IsImm R n b a := by
  unfold okB allB IsImm
  simp only [Bool.and_eq_true, decide_eq_true_eq, List.all_eq_true, List.mem_range, Bool.not_eq_true', Bool.and_eq_false_iff, decide_eq_false_iff_not]
  constructor
  · rintro ⟨⟨h1, h2⟩, h3⟩
    refine ⟨ha, h1, h2, fun c hc hcb hr => ?_⟩
    rcases h3 c hc with (h4 | h4) | h4
    · exact absurd hcb h4
    · rw [hr] at h4; cases h4
    · simpa using h4
  · rintro ⟨_, h1, h2, h3⟩
    refine ⟨⟨h1, h2⟩, fun c hc => ?_⟩
    by_cases hcb : c = b
    · exact .inl (.inl (fun h => h hcb))
    · cases hr : R c b with
      | false => exact .inl (.inr rfl)
      | true => exact .inr (by rw [h3 c hc hcb hr]; rfl)
theorem bestL_immL {n : Nat} {R : Nat → Nat → Bool} (h : TreeR n R) : bestL R n n = immL R n := by
  refine getD_ext 0 (by simp [bestL, immL]) fun b hb => ?_
  have hbn : b < n := by simpa [bestL] using hb
  have e : (bestL R n n).getD b 0 = bestC R n b n := by
    unfold bestL; rw [List.getD_eq_getElem?_getD, List.getElem?_map, List.getElem?_range hbn]; rfl
  rw [e]
  rcases bestC_pos R n b n with ⟨h1, h2⟩ | ⟨q, h1, h2, h3⟩
  · rcases h.immL_is hbn with ⟨h4, _⟩ | ⟨p, h4, h5⟩
    · rw [h1, h4]
    · have := h2 p h5.1
      rw [(okB_iff R n p b h5.1).2 h5] at this; cases this
  · have hq := (okB_iff R n q b h2).1 h3
    rcases h.immL_is hbn with ⟨_, h4⟩ | ⟨p, h4, h5⟩
    · exact absurd hq (h4 q)
    · rw [h1, h4, h.imm_uniq hq h5]
theorem ints_snoc (L : List Int) (x : Int) : ints L ++ [.int .i64 x] = ints (L ++ [x]) := by unfold ints; rw [List.map_append]; rfl
theorem rpairs_n (pa : Option Addr) (pc n : Nat) (F : List (List Int)) (post : Bool) (w : World) (hn : n = F.length) (hF : FRow w pa F) (hV : VldF F) (hsm : ∀ i, i < F.length → (F.getD i []).length ≤ 900) :
    Calls Try.prog 52 #[.agg #[.slice pa n pc], .bool post] w fun e w' => ∃ A c vs, e = .returned (.slice A n c) ∧ RowsSt w' w.heap.size 4 59 A c (rowsP (relP F post) n n) vs ∧ Below w.heap.size w w' := by
  subst hn; exact rpairs_any pa pc F post w hF hV hsm
theorem rvalid_n (pa : Option Addr) (pc n : Nat) (F : List (List Int)) (w : World) (hn : n = F.length) (hF : FRow w pa F) (hsm : ∀ i, i < F.length → (F.getD i []).length ≤ 900) :
    Calls Try.prog 14 #[.agg #[.slice pa n pc]] w fun e w' => Tells (VldF F) e ∧ Below w.heap.size w w' := by
  subst hn; exact rvalid_any pa pc F w hF fun i hi => Nat.le_trans (hsm i hi) (by omega)
set_option maxHeartbeats 4000000 in
set_option maxRecDepth 100000 in
theorem rimm_yes (pa : Option Addr) (pc : Nat) (F : List (List Int)) (post : Bool) (w : World) (hF : FRow w pa F) (hV : VldF F) (hsm : ∀ i, i < F.length → (F.getD i []).length ≤ 900) :
    Calls Try.prog 44 #[.agg #[.slice pa F.length pc], .bool post] w (GivesInts w (bestL (relP F post) F.length F.length)) := by
  obtain ⟨i3, a1, a2, a3, a4⟩ := info_parts info3
  have HF := hid hF; have HV := hid hV; have HSM := hid hsm
  have hnn := hV.hi
  have hlo := hV.lo
  obtain ⟨n, hn⟩ : ∃ n, n = F.length := ⟨_, rfl⟩
  have HN := hid hn
  rw [← hn] at hnn hlo ⊢
  obtain ⟨R, hR⟩ : ∃ R, R = relP F post := ⟨_, rfl⟩
  have HR := hid hR
  rw [← hR]
  clear hF hV hsm hn hR
  have c0 : ((w.alloc (.cells #[.slice pa n pc] 24)).alloc (.cells #[] 3)).cell? ⟨w.heap.size, 0, none⟩ = some (.slice pa n pc) := by go_simp
  have hbw := Ytjddegfigdpcbaa.b2 w (.cells #[.slice pa n pc] 24) (.cells #[] 3)
  have hol := World.ownsRow_lit (base := w.heap.size + 1) (e := 3) (size := 1) (w.alloc (.cells #[.slice pa n pc] 24)) #[] 0 (by simp) (by unfold maxLen; omega) rfl
  rw [show (w.alloc (.cells #[.slice pa n pc] 24)).heap.size = w.heap.size + 1 from by simp] at hol
  have HBW := hid hbw; have HOL := hid hol
  replace HF := hid (HF.out.below hbw)
  clear hbw hol
  go_enter Try.func44, Try.ntmps44
  go_wp2_with (first
    | (go_at_call 14; refine (rvalid_n pa pc n F _ HN.out HF.out HSM.out).mono ?_; rintro e w3 ⟨ht, hb3⟩; obtain rfl := ht.eq_yes HV.out; replace c0 := below_cell hb3 c0; replace HF := hid (HF.out.below hb3); replace HOL := hid (own_below HOL.out hb3); replace HBW := hid (bthen HBW.out hb3); clear ht hb3)
    | (go_at_call 52; refine (rpairs_n pa pc n F post _ HN.out HF.out HV.out HSM.out).mono ?_; rintro e w4 ⟨PA, pcc, pvs, rfl, hrs, hb4⟩; replace c0 := below_cell hb4 c0; replace HOL := hid (own_below HOL.out hb4); replace HBW := hid (bthen HBW.out hb4); rw [← HR.out] at hrs; have HRS := hid hrs; clear hrs hb4))
  obtain ⟨q0, hq0⟩ : ∃ x, x = w3.heap.size := ⟨_, rfl⟩
  rw [← hq0] at HRS
  clear hq0 HF
  obtain ⟨B, hB⟩ : ∃ x, x = w.heap.size + 1 := ⟨_, rfl⟩
  rw [← hB] at HOL ⊢
  have k1 : w.heap.size < B := by omega
  have k2 : B ≤ w4.heap.size := by have := (HOL.out.lt B (by simp [Value.ownBlock])).2; omega
  obtain ⟨sb, so, PC, pcx, rfl, -, -⟩ := PRow.of_rrow HRS.out.rrow 0 (by omega)
  clear hB
  go_loopw [7, 5] (fun i ov wr => ∃ b : Nat, ∃ A c, b ≤ n ∧ i = .int .i64 b ∧ Hid (ov = .slice A b c) ∧ wr.ownsRow B 3 1 (.slice A b c) b (ints (bestL R n b)) ∧ RowsSt wr q0 4 59 (some ⟨sb, so, none⟩) pcc (rowsP R n n) pvs ∧ Below B w4 wr) (fun i _ _ => n - (intOf i).toNat)
  case atStart => exact ⟨0, some ⟨B, 0, none⟩, 0, Nat.zero_le _, rfl, rfl, HOL.out, HRS.out, Below.refl _ _⟩
  case round =>
    clear HOL HRS
    obtain ⟨b, A, c, hb, rfl, hov, hown, hrs, hbr⟩ := hrel
    obtain rfl := hov.out
    clear hov
    have d0 := (hbr.cell (p := ⟨w.heap.size, 0, none⟩) (by show w.heap.size < _; omega)).trans c0
    have HPR := hid (PRow.of_rrow hrs.rrow)
    have HOW := hid hown; have HRS := hid hrs; have HBR := hid hbr
    have hbz := hbr.size
    clear hown hrs hbr
    by_cases hlt : b < n
    · go_wp2_with fail
      obtain ⟨wo, hwo⟩ : ∃ x, x = wr := ⟨_, rfl⟩
      subst hwo
      go_loopw [9, 8] (fun i ov wi => ∃ a : Nat, ∃ z : Int, a ≤ n ∧ i = .int .i64 a ∧ ov = .int .i64 z ∧ Hid (z = bestC R n b a) ∧ wi = wo) (fun i _ _ => n - (intOf i).toNat)
      case atStart => exact ⟨0, -1, Nat.zero_le _, rfl, rfl, rfl, rfl⟩
      case round =>
        obtain ⟨a, z, ha, rfl, rfl, HZ, rfl⟩ := hrel
        by_cases hat : a < n
        · obtain ⟨tb, tq, c', p0, p1⟩ := HPR.out.at a hat
          replace p1 := p1 b hlt
          obtain ⟨x, hx⟩ : ∃ x, x = R a b := ⟨_, rfl⟩
          rw [← hx] at p1
          have HX := hid hx
          clear hx
          have hnx : ∀ y, okB R n a b = y → bestC R n b (a + 1) = if y = true then (a : Int) else z := fun y hy => by rw [HZ.out, bestC_succ, hy]
          have HNX := hid hnx; clear hnx
          by_cases hab : a = b
          · have q1 : ((a : Int) == (b : Int)) = true := by simp [hab]
            have HAB := hid hab; clear hab
            go_wp2_with fail
            exact ⟨⟨a + 1, z, by omega, by go_num, rfl, by exact (HNX.out false (by unfold okB; rw [HAB.out]; simp)).symm, trivial⟩, by simp [intOf]; omega⟩
          · have q1 : ((a : Int) == (b : Int)) = false := by simp; omega
            have HAB := hid hab; clear hab
            cases x with
            | false =>
              go_wp2_with fail
              exact ⟨⟨a + 1, z, by omega, by go_num, rfl, by exact (HNX.out false (by unfold okB; rw [← HX.out]; simp)).symm, trivial⟩, by simp [intOf]; omega⟩
            | true =>
              go_wp2_with fail
              go_loopw [11, 10] (fun i ov wi => ∃ e : Nat, ∃ y : Bool, e ≤ n ∧ i = .int .i64 e ∧ ov = .bool y ∧ Hid (y = allB R a b e) ∧ wi = wr) (fun i _ _ => n - (intOf i).toNat)
              case atStart => exact ⟨0, true, Nat.zero_le _, rfl, rfl, rfl, rfl⟩
              case round =>
                rename World => wi0
                obtain ⟨e, y, he, rfl, rfl, HY, hwe⟩ := hrel
                subst hwe
                by_cases het : e < n
                · obtain ⟨ub, uq, c'', r0, r1⟩ := HPR.out.at e het
                  have r2 := r1 b hlt; have r3 := r1 a hat
                  obtain ⟨x2, hx2⟩ : ∃ x, x = R e b := ⟨_, rfl⟩
                  obtain ⟨x3, hx3⟩ : ∃ x, x = R e a := ⟨_, rfl⟩
                  rw [← hx2] at r2; rw [← hx3] at r3
                  have hall := allB_snoc R a b e
                  rw [← HY.out, ← hx2, ← hx3] at hall
                  have HALL := hid hall
                  clear hx2 hx3 hall r1
                  by_cases heb : e = b
                  · have q2 : ((e : Int) != (b : Int)) = false := by simp [heb]
                    have HEB := hid heb; clear heb
                    go_wp2_with fail
                    exact ⟨⟨e + 1, y, by omega, by go_num, rfl, by exact (HALL.out.trans (by rw [HEB.out]; simp)).symm, trivial⟩, by simp [intOf]; omega⟩
                  · have q2 : ((e : Int) != (b : Int)) = true := by simp; omega
                    have HEB := hid heb; clear heb
                    cases x2 with
                    | false =>
                      go_wp2_with fail
                      exact ⟨⟨e + 1, y, by omega, by go_num, rfl, by exact (HALL.out.trans (by simp)).symm, trivial⟩, by simp [intOf]; omega⟩
                    | true =>
                      cases x3 with
                      | false =>
                        go_wp2_with fail
                        exact ⟨⟨e + 1, false, by omega, by go_num, rfl, by exact (HALL.out.trans (by have := HEB.out; simp [this])).symm, trivial⟩, by simp [intOf]; omega⟩
                      | true =>
                        go_wp2_with fail
                        exact ⟨⟨e + 1, y, by omega, by go_num, rfl, by exact (HALL.out.trans (by simp)).symm, trivial⟩, by simp [intOf]; omega⟩
                · obtain rfl : e = n := by omega
                  cases y with
                  | false =>
                    go_wp2_with fail
                    exact ⟨⟨a + 1, z, by omega, by go_num, rfl, by exact (HNX.out false (by unfold okB; rw [← HY.out]; simp)).symm, trivial⟩, by simp [intOf]; omega⟩
                  | true =>
                    go_wp2_with fail
                    exact ⟨⟨a + 1, a, by omega, by go_num, rfl, by exact (HNX.out true (by have h1 := HAB.out; unfold okB; rw [← HY.out, ← HX.out]; simp [h1])).symm, trivial⟩, by simp [intOf]; omega⟩
        · obtain rfl : a = n := by omega
          have ho5 := own_below HOW.out (below_alloc wr (.cells #[.int .i64 z] 3))
          have hr5 := HRS.out.below (below_alloc wr (.cells #[.int .i64 z] 3))
          have HO5 := hid ho5; have HR5 := hid hr5; have HB5 := hid (HBR.out.trans ((below_alloc wr (.cells #[.int .i64 z] 3)).mono (by omega)))
          clear ho5 hr5
          go_wp2_with (at_builtin; refine wpList_append_row rfl (.tmp 78) (.tmp 80) 29 rfl B 3 i3 (.int .i64 0) 1 8 Try.underlying29 a1 a2 a3 a4 rfl (by decide) (.slice A b c) b (ints (bestL R a b)) rfl HO5.out (some ⟨wr.heap.size, 0, none⟩) 1 1 [.int .i64 z] rfl rfl (fun e => by cases e) (Row.one _ _ _) (ints_one [_]) (by unfold maxLen; omega) (by omega) (by simp; omega) ?_; intro A4 c4 w7 hown4 hgr4 hat4; have HOWN4 := hid hown4; have HGR4 := hid hgr4; clear hown4 hgr4 hat4)
          refine ⟨⟨b + 1, A4, c4, by omega, by go_num, rfl, ?_, ?_, ?_⟩, by simp [intOf]; omega⟩
          · rw [bestL_snoc, ← HZ.out, ← ints_snoc]; exact HOWN4.out
          · exact HR5.out.kept HO5.out (by decide) (by decide) HGR4.out
          · exact HB5.out.grown HGR4.out (by simp; omega) (fun j hj => (HO5.out.lt j hj).1)
    · obtain rfl : b = n := by omega
      go_wp2_with fail
      go_ret
      exact ⟨A, c, by simp [bestL], Row.of_own HOW.out, HBW.out.trans (HBR.out.mono (by omega))⟩
set_option maxHeartbeats 400000 in
theorem rimm_no (pa : Option Addr) (pc : Nat) (F : List (List Int)) (post : Bool) (w : World) (hF : FRow w pa F) (hV : ¬ VldF F) (hsm : ∀ i, i < F.length → (F.getD i []).length ≤ 900) :
    Calls Try.prog 44 #[.agg #[.slice pa F.length pc], .bool post] w (GivesInts w []) := by
  have HV := hid hV
  have hbw := Ytjddegfigdpcbaa.b2 w (.cells #[.slice pa F.length pc] 24) (.cells #[] 3)
  have HBW := hid hbw
  have HF := hid (hF.below hbw)
  clear hV hbw hF
  go_enter Try.func44, Try.ntmps44
  go_wp2_with (go_at_call 14; refine (rvalid_n pa pc F.length F _ rfl HF.out hsm).mono ?_; rintro e w3 ⟨ht, hb3⟩; obtain rfl := ht.eq_no HV.out; replace HBW := hid (bthen HBW.out hb3); clear ht hb3)
  go_ret
  exact ⟨_, _, rfl, Row.nil, HBW.out⟩
theorem rDominators_yes (pa : Option Addr) (pc : Nat) (F : List (List Int)) (w : World) (hF : FRow w pa F) (hsm : ∀ i, i < F.length → (F.getD i []).length ≤ 900) (hV : VldF F) :
    Calls Try.prog 17 #[.agg #[.slice pa F.length pc]] w (GivesInts w (domL F)) := by
  have h := fun w1 (h : FRow w1 pa F) => rimm_yes pa pc F false w1 h hV hsm
  have e : bestL (relP F false) F.length F.length = domL F := bestL_immL (relF_tree hV.ok 0)
  rw [e] at h
  have H := hid h; have HF := hid (hF.below (below_alloc w (.cells #[.slice pa F.length pc] 24)))
  clear h e hV hF
  go_enter Try.func17, Try.ntmps17
  go_wp2_with (go_at_call 44; refine (H.out _ HF.out).mono ?_; rintro e w1 ⟨A, c, rfl, hr, hb⟩; have HB := hid (bthen (below_alloc w _) hb); have HR := hid hr; clear hr hb)
  go_ret
  exact ⟨A, c, rfl, HR.out, HB.out⟩
theorem rPostdominators_yes (pa : Option Addr) (pc : Nat) (F : List (List Int)) (w : World) (hF : FRow w pa F) (hsm : ∀ i, i < F.length → (F.getD i []).length ≤ 900) (hV : VldF F) :
    Calls Try.prog 19 #[.agg #[.slice pa F.length pc]] w (GivesInts w (postL F)) := by
  have h := fun w1 (h : FRow w1 pa F) => rimm_yes pa pc F true w1 h hV hsm
  have e : bestL (relP F true) F.length F.length = postL F := by
    have hr := revF_rev hV
    have := relF_tree hr.ok 1
    rw [hr.len] at this
    exact bestL_immL this
  rw [e] at h
  have H := hid h; have HF := hid (hF.below (below_alloc w (.cells #[.slice pa F.length pc] 24)))
  clear h e hV hF
  go_enter Try.func19, Try.ntmps19
  go_wp2_with (go_at_call 44; refine (H.out _ HF.out).mono ?_; rintro e w1 ⟨A, c, rfl, hr, hb⟩; have HB := hid (bthen (below_alloc w _) hb); have HR := hid hr; clear hr hb)
  go_ret
  exact ⟨A, c, rfl, HR.out, HB.out⟩
theorem rDominators_no (pa : Option Addr) (pc : Nat) (F : List (List Int)) (w : World) (hF : FRow w pa F) (hsm : ∀ i, i < F.length → (F.getD i []).length ≤ 900) (hV : ¬ VldF F) :
    Calls Try.prog 17 #[.agg #[.slice pa F.length pc]] w (GivesInts w []) := by
  have H := hid fun w1 (h : FRow w1 pa F) => rimm_no pa pc F false w1 h hV hsm
  have HF := hid (hF.below (below_alloc w (.cells #[.slice pa F.length pc] 24)))
  clear hV hF
  go_enter Try.func17, Try.ntmps17
  go_wp2_with (go_at_call 44; refine (H.out _ HF.out).mono ?_; rintro e w1 ⟨A, c, rfl, hr, hb⟩; have HB := hid (bthen (below_alloc w _) hb); have HR := hid hr; clear hr hb)
  go_ret
  exact ⟨A, c, rfl, HR.out, HB.out⟩
theorem rPostdominators_no (pa : Option Addr) (pc : Nat) (F : List (List Int)) (w : World) (hF : FRow w pa F) (hsm : ∀ i, i < F.length → (F.getD i []).length ≤ 900) (hV : ¬ VldF F) :
    Calls Try.prog 19 #[.agg #[.slice pa F.length pc]] w (GivesInts w []) := by
  have H := hid fun w1 (h : FRow w1 pa F) => rimm_no pa pc F true w1 h hV hsm
  have HF := hid (hF.below (below_alloc w (.cells #[.slice pa F.length pc] 24)))
  clear hV hF
  go_enter Try.func19, Try.ntmps19
  go_wp2_with (go_at_call 44; refine (H.out _ HF.out).mono ?_; rintro e w1 ⟨A, c, rfl, hr, hb⟩; have HB := hid (bthen (below_alloc w _) hb); have HR := hid hr; clear hr hb)
  go_ret
  exact ⟨A, c, rfl, HR.out, HB.out⟩
end Go.Proofs.Ytjddegfigdpcbaa
