/- ref Control: the control dependences. -/
import Derived.Test.YtjddegfigdpcbaaAR
import Derived.Test.YtjddegfigdpcbaaO
namespace Go.Proofs.Ytjddegfigdpcbaa
open Go.RowKit

theorem FRow.shape {w : World} {pa : Option Addr} {F : List (List Int)} (h : FRow w pa F) (h0 : 0 < F.length) : ∃ fb fo, pa = some ⟨fb, fo, none⟩ := by
  obtain ⟨sb, so, _, _, _, _, e, _⟩ := h 0 h0
  exact ⟨sb, so, e⟩
theorem FRow.at {w : World} {fb fo : Nat} {F : List (List Int)} (h : FRow w (some ⟨fb, fo, none⟩) F) (i : Nat) (hi : i < F.length) : ∃ C c, w.cell? ⟨fb, fo + i * 3 + 2, none⟩ = some (.slice C (F.getD i []).length c) ∧ Row w C (ints (F.getD i [])) := by
  obtain ⟨sb, so, a, b, C, c, e, _, _, h2, h3⟩ := h i hi
  cases e
  exact ⟨C, c, h2, h3⟩
def conP (R : Nat → Nat → Bool) (F : List (List Int)) (n k : Nat) : List (List Int) := (List.range k).map fun b => conRow R F b n
theorem conP_len (R : Nat → Nat → Bool) (F : List (List Int)) (n k : Nat) : (conP R F n k).length = k := by simp [conP]
theorem conP_snoc (R : Nat → Nat → Bool) (F : List (List Int)) (n k : Nat) : (conP R F n (k + 1)).map ints = (conP R F n k).map ints ++ [ints (conRow R F k n)] := by
  unfold conP; rw [List.range_succ, List.map_append, List.map_append]; rfl
def anyP (R : Nat → Nat → Bool) (N : List Int) (b k : Nat) : Bool := (N.take k).any fun x => R b x.toNat
theorem anyP_snoc (R : Nat → Nat → Bool) (N : List Int) (b k p : Nat) (h : k < N.length) (hp : N.getD k 0 = (p : Int)) : anyP R N b (k + 1) = (anyP R N b k || R b p) := by
  unfold anyP; rw [take_snoc N 0 k h, List.any_append, hp]; simp
theorem RowsSt.rowL {w : World} {B c n : Nat} {e1 e2 : TypeId} {A : Option Addr} {Ls : List (List Value)} {vs : List (Option Addr × Nat)} (h : RowsSt w B e1 e2 A c Ls vs) (hn : Ls.length = n) : w.ownsRow B e2 1 (.slice A n c) n (rcells Ls vs) := by
  subst hn; exact h.row
set_option maxHeartbeats 4000000 in
set_option maxRecDepth 100000 in
theorem rControl_yes (pa : Option Addr) (pc : Nat) (F : List (List Int)) (w : World) (hF : FRow w pa F) (hV : VldF F) (hsm : ∀ i, i < F.length → (F.getD i []).length ≤ 900) :
    Calls Try.prog 26 #[.agg #[.slice pa F.length pc]] w (GivesLists w (conL F)) := by
  obtain ⟨i3, a1, a2, a3, a4⟩ := info_parts info3
  obtain ⟨i29, b1, b2, b3, b4⟩ := info_parts info29
  obtain ⟨fb, fo, rfl⟩ := hF.shape (by have := hV.lo; omega)
  have HV := hid hV; have HSM := hid hsm
  have hnn := hV.hi
  have hlo := hV.lo
  obtain ⟨n, hn⟩ : ∃ n, n = F.length := ⟨_, rfl⟩
  have HN := hid hn
  rw [← hn] at hnn hlo ⊢
  obtain ⟨R, hR⟩ : ∃ R, R = relP F true := ⟨_, rfl⟩
  have HR := hid hR
  have HCON := hid (show conL F = conP R F n n by rw [hR, hn]; rfl)
  have c0 : ((w.alloc (.cells #[.slice (some ⟨fb, fo, none⟩) n pc] 24)).alloc (.cells #[] 29)).cell? ⟨w.heap.size, 0, none⟩ = some (.slice (some ⟨fb, fo, none⟩) n pc) := by go_simp
  have hbw := Ytjddegfigdpcbaa.b2 w (.cells #[.slice (some ⟨fb, fo, none⟩) n pc] 24) (.cells #[] 29)
  have hol := RowsSt.lit (w.alloc (.cells #[.slice (some ⟨fb, fo, none⟩) n pc] 24)) (w.heap.size + 1) 3 29 (by simp)
  rw [show (w.alloc (.cells #[.slice (some ⟨fb, fo, none⟩) n pc] 24)).heap.size = w.heap.size + 1 from by simp] at hol
  have HBW := hid hbw; have HOL := hid hol
  have HF := hid (hF.below hbw); have HF0 := hid hF
  clear hF hV hsm hn hR hbw hol
  go_enter Try.func26, Try.ntmps26
  go_wp2_with (first
    | (go_at_call 14; refine (rvalid_n (some ⟨fb, fo, none⟩) pc n F _ HN.out HF.out HSM.out).mono ?_; rintro e w3 ⟨ht, hb3⟩; obtain rfl := ht.eq_yes HV.out; replace c0 := below_cell hb3 c0; replace HF := hid (HF.out.below hb3); replace HOL := hid (HOL.out.below hb3); replace HBW := hid (bthen HBW.out hb3); clear ht hb3)
    | (go_at_call 52; refine (rpairs_n (some ⟨fb, fo, none⟩) pc n F true _ HN.out HF.out HV.out HSM.out).mono ?_; rintro e w4 ⟨PA, pcc, pvs, rfl, hrs, hb4⟩; replace c0 := below_cell hb4 c0; replace HF := hid (HF.out.below hb4); replace HOL := hid (HOL.out.below hb4); replace HBW := hid (bthen HBW.out hb4); rw [← HR.out] at hrs; have HRS := hid hrs; clear hrs hb4))
  obtain ⟨q0, hq0⟩ : ∃ x, x = w3.heap.size := ⟨_, rfl⟩
  rw [← hq0] at HRS
  clear hq0
  obtain ⟨B, hB⟩ : ∃ x, x = w.heap.size + 1 := ⟨_, rfl⟩
  rw [← hB] at HOL ⊢
  have k1 : w.heap.size < B := by omega
  have k2 : B ≤ w4.heap.size := by have := (HOL.out.row.lt B (by simp [Value.ownBlock])).2; omega
  obtain ⟨sb, so, PC, pcx, rfl, -, -⟩ := PRow.of_rrow HRS.out.rrow 0 (by omega)
  clear hB HF
  go_loopw [5, 3] (fun i ov wr => ∃ b : Nat, ∃ A c vs, b ≤ n ∧ i = .int .i64 b ∧ Hid (ov = .slice A b c) ∧ RowsSt wr B 3 29 A c ((conP R F n b).map ints) vs ∧ RowsSt wr q0 4 59 (some ⟨sb, so, none⟩) pcc (rowsP R n n) pvs ∧ Below B w4 wr) (fun i _ _ => n - (intOf i).toNat)
  case atStart => exact ⟨0, some ⟨B, 0, none⟩, 0, [], Nat.zero_le _, rfl, rfl, HOL.out, HRS.out, Below.refl _ _⟩
  case round =>
    clear HOL HRS
    obtain ⟨b, A, c, vs, hb, rfl, hov, hown, hrs, hbr⟩ := hrel
    obtain rfl := hov.out
    clear hov
    have d0 := (hbr.cell (p := ⟨w.heap.size, 0, none⟩) (by show w.heap.size < _; omega)).trans c0
    have HPR := hid (PRow.of_rrow hrs.rrow)
    have HOW := hid hown; have HRS := hid hrs; have HBR := hid hbr; have HF := hid (HF0.out.below (HBW.out.trans (hbr.mono (by omega))))
    have hbz := hbr.size
    clear hown hrs hbr
    by_cases hlt : b < n
    · go_wp2_with fail
      obtain ⟨wo, hwo⟩ : ∃ x, x = wr := ⟨_, rfl⟩
      subst hwo
      have hlit := World.ownsRow_lit (base := wo.heap.size) (e := 3) (size := 1) wo #[] 0 (Nat.le_refl _) (by unfold maxLen; omega) rfl
      have HLIT := hid hlit; clear hlit
      go_loopw [7, 6] (fun i ov wi => ∃ a : Nat, ∃ C d m, a ≤ n ∧ i = .int .i64 a ∧ Hid (ov = .slice C m d) ∧ wi.ownsRow wo.heap.size 3 1 (.slice C m d) m (ints (conRow R F b a)) ∧ Below wo.heap.size wo wi) (fun i _ _ => n - (intOf i).toNat)
      case atStart => exact ⟨0, some ⟨wo.heap.size, 0, none⟩, 0, 0, Nat.zero_le _, rfl, rfl, HLIT.out, below_alloc _ _⟩
      case round =>
        clear HLIT
        obtain ⟨a, C, d, m, ha, rfl, hov, hown, hbi⟩ := hrel
        obtain rfl := hov.out
        clear hov
        have f0 := below_cell hbi d0
        have hm : m ≤ a := by have h1 := hown.1; rw [ints_length] at h1; have := conRow_le R F b a; omega
        by_cases hat : a < n
        · obtain ⟨X, xc, g0, g1⟩ := (HF.out.below hbi).at a (by rw [← HN.out]; exact hat)
          obtain ⟨tb, tq, c', p0, p1⟩ := (HPR.out.below hbi).at b hlt
          have hok := HV.out.ok a (by rw [← HN.out]; exact hat)
          have hNl := HSM.out a (by rw [← HN.out]; exact hat)
          have hctl : ∀ y, ctl R F b a = y → conRow R F b (a + 1) = if y = true then conRow R F b a ++ [(a : Int)] else conRow R F b a := fun y hy => by rw [conRow_snoc, hy]
          have hct2 : ctl R F b a = (!(decide (a ≠ b) && R b a) && anyP R (F.getD a []) b (F.getD a []).length) := by unfold ctl anyP; rw [List.take_length]
          obtain ⟨N, hN⟩ : ∃ N, N = F.getD a [] := ⟨_, rfl⟩
          rw [← hN] at g0 g1 hok hNl hct2
          have HG1 := hid g1; have HP1 := hid p1; have HOK := hid hok; have HCT := hid hctl; have HC2 := hid hct2; have HOWI := hid hown; have HBI := hid hbi
          clear g1 p1 hok hctl hct2 hN hown hbi d0
          go_wp2_with fail
          obtain ⟨wi, hwi⟩ : ∃ x, x = wr := ⟨_, rfl⟩
          subst hwi
          go_loopw [9, 8] (fun i ov wk => ∃ k : Nat, ∃ y : Bool, k ≤ N.length ∧ i = .int .i64 k ∧ ov = .bool y ∧ Hid (y = anyP R N b k) ∧ Below wi.heap.size wi wk) (fun i _ _ => N.length - (intOf i).toNat)
          case atStart => exact ⟨0, false, Nat.zero_le _, rfl, rfl, rfl, Below.refl _ _⟩
          case round =>
            obtain ⟨k, y, hk, rfl, rfl, HY, hbk⟩ := hrel
            replace f0 := below_cell hbk f0; replace g0 := below_cell hbk g0; replace p0 := below_cell hbk p0
            by_cases hkt : k < N.length
            · obtain ⟨xb, xo, rfl, gx⟩ := (HG1.out.below hbk).int k hkt
              have hx0 : N.getD k 0 ∈ N := by rw [List.getD_eq_getElem?_getD, List.getElem?_eq_getElem hkt]; exact List.getElem_mem hkt
              obtain ⟨hxa, hxb⟩ := HOK.out _ hx0
              obtain ⟨x, hx⟩ : ∃ x, x = N.getD k 0 := ⟨_, rfl⟩
              rw [← hx] at gx hxa hxb
              obtain ⟨p, rfl⟩ := Int.eq_ofNat_of_zero_le hxa
              have hpn : p < n := by rw [HN.out]; omega
              have hp1 := below_cell hbk (HP1.out p hpn)
              have hsn := anyP_snoc R N b k p hkt hx.symm
              rw [← HY.out] at hsn
              obtain ⟨z, hz⟩ : ∃ z, z = R b p := ⟨_, rfl⟩
              rw [← hz] at hp1 hsn
              have HSN := hid hsn; have HBK := hid hbk
              have j1 : (p : Int) < (n : Int) := by omega
              clear hx0 hxb hx hsn hz hbk
              cases y with
              | true =>
                go_wp2_with fail
                go_big_quiet (fail)
                go_wp2_with fail
                exact ⟨⟨k + 1, true, by omega, by go_num, rfl, by exact (HSN.out.trans (by simp)).symm, HBK.out.trans (below_drewNK _ _ _)⟩, by simp [intOf]; omega⟩
              | false =>
                go_wp2_with fail
                go_big_quiet (fail)
                go_wp2_with fail
                exact ⟨⟨k + 1, z, by omega, by go_num, rfl, by exact (HSN.out.trans (by simp)).symm, HBK.out.trans (below_drewNK _ _ _)⟩, by simp [intOf]; omega⟩
            · obtain rfl : k = N.length := by omega
              rw [← HY.out] at HC2
              have hp1 := below_cell hbk (HP1.out a hat)
              obtain ⟨z, hz⟩ : ∃ z, z = R b a := ⟨_, rfl⟩
              rw [← hz] at hp1 HC2
              have hbk2 := bthen hbk (below_alloc wr (.cells #[.int .i64 a] 3))
              have hO5 := own_below HOWI.out hbk2
              have HB2 := hid (HBI.out.trans (hbk.mono HBI.out.size)); have HB5 := hid (HBI.out.trans (hbk2.mono HBI.out.size)); have HO5 := hid hO5; have HO2 := hid (own_below HOWI.out hbk)
              have hbz2 := HB2.out.size
              clear hz hbk hbk2 hO5
              cases y with
              | false =>
                go_wp2_with fail
                exact ⟨⟨a + 1, C, d, m, by omega, by go_num, rfl, by rw [HCT.out false (HC2.out.trans (by simp))]; exact HO2.out, HB2.out⟩, by simp [intOf]; omega⟩
              | true =>
                by_cases hab : a = b
                · have q1 : ((a : Int) == (b : Int)) = true := by simp [hab]
                  have HAB := hid hab; clear hab
                  go_wp2_with (at_builtin; refine wpList_append_row rfl (.tmp 77) (.tmp 79) 29 rfl wo.heap.size 3 i3 (.int .i64 0) 1 8 Try.underlying29 a1 a2 a3 a4 rfl (by decide) (.slice C m d) m (ints (conRow R F b a)) rfl HO5.out (some ⟨wr.heap.size, 0, none⟩) 1 1 [.int .i64 a] rfl rfl (fun e => by cases e) (Row.one _ _ _) (ints_one [_]) (by unfold maxLen; omega) (by omega) (by simp; omega) ?_; intro A4 c4 w7 hown4 hgr4 hat4; have HOWN4 := hid hown4; have HGR4 := hid hgr4; clear hown4 hgr4 hat4)
                  refine ⟨⟨a + 1, A4, c4, m + 1, by omega, by go_num, rfl, ?_, ?_⟩, by simp [intOf]; omega⟩
                  · rw [HCT.out true (HC2.out.trans (by rw [HAB.out]; simp)), if_pos rfl, ← ints_snoc]; exact HOWN4.out
                  · exact HB5.out.grown HGR4.out (by simp; omega) (fun j hj => (HO5.out.lt j hj).1)
                · have q1 : ((a : Int) == (b : Int)) = false := by simp; omega
                  have HAB := hid hab; clear hab
                  cases z with
                  | true =>
                    go_wp2_with fail
                    exact ⟨⟨a + 1, C, d, m, by omega, by go_num, rfl, by rw [HCT.out false (HC2.out.trans (by have h1 := HAB.out; simp [h1]))]; exact HO2.out, HB2.out⟩, by simp [intOf]; omega⟩
                  | false =>
                    go_wp2_with (at_builtin; refine wpList_append_row rfl (.tmp 77) (.tmp 79) 29 rfl wo.heap.size 3 i3 (.int .i64 0) 1 8 Try.underlying29 a1 a2 a3 a4 rfl (by decide) (.slice C m d) m (ints (conRow R F b a)) rfl HO5.out (some ⟨wr.heap.size, 0, none⟩) 1 1 [.int .i64 a] rfl rfl (fun e => by cases e) (Row.one _ _ _) (ints_one [_]) (by unfold maxLen; omega) (by omega) (by simp; omega) ?_; intro A4 c4 w7 hown4 hgr4 hat4; have HOWN4 := hid hown4; have HGR4 := hid hgr4; clear hown4 hgr4 hat4)
                    refine ⟨⟨a + 1, A4, c4, m + 1, by omega, by go_num, rfl, ?_, ?_⟩, by simp [intOf]; omega⟩
                    · rw [HCT.out true (HC2.out.trans (by simp)), if_pos rfl, ← ints_snoc]; exact HOWN4.out
                    · exact HB5.out.grown HGR4.out (by simp; omega) (fun j hj => (HO5.out.lt j hj).1)
        · obtain rfl : a = n := by omega
          have hbi2 := bthen hbi (below_alloc wr (.cells #[.slice C m d] 29))
          have hr5 := HOW.out.below hbi2
          have ho5 := own_lower (own_below hown (below_alloc wr (.cells #[.slice C m d] 29))) (show B ≤ wo.heap.size by omega)
          have hrow5 := hr5.rowL (n := b) (by rw [List.length_map, conP_len])
          have HP5 := hid (HRS.out.below hbi2)
          have HR5 := hid hr5; have HO5 := hid ho5; have HW5 := hid hrow5; have HB5 := hid (HBR.out.trans (hbi2.mono (by omega)))
          have hbz2 := hbi.size
          have HM := hid (show m = (ints (conRow R F b a)).length by have := hown.1; omega)
          clear hown hbi hbi2 hr5 ho5 hrow5 d0
          go_wp2_with (at_builtin; refine wpList_append_row rfl (.tmp 81) (.tmp 83) 33 rfl B 29 i29 (.slice none 0 0) 1 24 Try.underlying33 b1 b2 b3 b4 rfl (by decide) (.slice A b c) b (rcells ((conP R F a b).map ints) vs) rfl HW5.out (some ⟨wr.heap.size, 0, none⟩) 1 1 [.slice C m d] rfl rfl (fun e => by cases e) (Row.one _ _ _) (fun u hu => by rw [List.mem_singleton.1 hu]; rfl) (by unfold maxLen; omega) (by omega) (by simp; omega) ?_; intro A4 c4 w7 hown4 hgr4 hat4; have HOWN4 := hid hown4; have HGR4 := hid hgr4; clear hown4 hgr4 hat4)
          have e1 : ((conP R F a b).map ints).length = b := by rw [List.length_map, conP_len]
          have HE1 := hid e1; clear e1
          refine ⟨⟨b + 1, A4, c4, vs ++ [(C, d)], by omega, by go_num, rfl, ?_, ?_, ?_⟩, by simp [intOf]; omega⟩
          · rw [conP_snoc]
            refine HR5.out.push (by decide) (n := m) HM.out ?_ ?_ HO5.out
            · rw [HE1.out]; exact HOWN4.out
            · rw [HE1.out]; exact HGR4.out
          · exact HP5.out.kept HW5.out (by decide) (by decide) HGR4.out
          · exact HB5.out.grown HGR4.out (by simp; omega) (fun j hj => (HW5.out.lt j hj).1)
    · obtain rfl : b = n := by omega
      go_wp2_with fail
      go_ret
      rw [HCON.out]
      exact ⟨A, c, by rw [conP_len]; rfl, HOW.out.rrow.lrow, HBW.out.trans (HBR.out.mono (by omega))⟩
end Go.Proofs.Ytjddegfigdpcbaa
