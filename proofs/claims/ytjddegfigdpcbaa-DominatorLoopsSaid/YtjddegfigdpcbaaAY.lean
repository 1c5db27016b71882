/- ref Loops. -/
import Derived.Test.YtjddegfigdpcbaaAX
import Derived.Test.YtjddegfigdpcbaaQ
namespace Go.Proofs.Ytjddegfigdpcbaa
open Go.RowKit

theorem rreach_n (pa : Option Addr) (pc n : Nat) (F : List (List Int)) (z : Int) (frm : Nat) (wo : Int) (w : World) (hn : n = F.length) (hz : z = (frm : Int)) (hF : FRow w pa F) (hV : VldF F) (hsm : ∀ i, i < F.length → (F.getD i []).length ≤ 900) (hfr : frm < n) :
    Calls Try.prog 48 #[.agg #[.slice pa n pc], .int .i64 z, .int .i64 wo] w fun e w' => ∃ rb, e = .returned (.slice (some ⟨rb, 0, none⟩) n n) ∧ MarksAt w' rb (reachB F wo [(frm : Int)]) ∧ w.heap.size ≤ rb ∧ Below w.heap.size w w' := by
  subst hn
  refine (rreach_any pa pc F z frm wo w hz hF hV hsm hfr).mono ?_
  rintro e w' ⟨rb, he, h1, h2, h3⟩
  rw [reachB_length] at he
  exact ⟨rb, he, h1, h2, h3⟩
theorem LpSt.lit (w : World) (B : Nat) (hb : B ≤ w.heap.size) : LpSt (w.alloc (.cells #[] 47)) B (some ⟨w.heap.size, 0, none⟩) 0 [] [] :=
  ⟨rfl, World.ownsRow_lit w #[] 0 hb (by unfold maxLen; omega) rfl, fun k hk => by simp at hk⟩
theorem LpSt.rowL {w : World} {B c n : Nat} {A : Option Addr} {Ls : List (Nat × List Int)} {vs : List (Option Addr × Nat)} (h : LpSt w B A c Ls vs) (hn : n = Ls.length) : w.ownsRow B 47 2 (.slice A n c) n (lcells Ls vs) := by
  subst hn; exact h.row
theorem isE_snoc (S : List Int) (x : Int) : (!(S ++ [x]).isEmpty) = true := by cases S <;> rfl
set_option maxHeartbeats 8000000 in
set_option maxRecDepth 100000 in
theorem rLoops_yes (pa : Option Addr) (pc : Nat) (F : List (List Int)) (w : World) (hF : FRow w pa F) (hV : VldF F) (hsm : ∀ i, i < F.length → (F.getD i []).length ≤ 900) :
    Calls Try.prog 32 #[.agg #[.slice pa F.length pc]] w (GivesLoops w (loopsL F)) := by
  obtain ⟨i0, hi, hz0, hz1, hz2⟩ := info_parts info3
  obtain ⟨ti, hi1, hy0, hy1, hy2⟩ := info_parts info47
  obtain ⟨fb, fo, rfl⟩ := hF.shape (by have := hV.lo; omega)
  have HV := hid hV; have HSM := hid hsm
  have hnn := hV.hi
  have hlo := hV.lo
  obtain ⟨n, hn⟩ : ∃ n, n = F.length := ⟨_, rfl⟩
  have HN := hid hn
  rw [← hn] at hnn hlo ⊢
  have hmk := run_marks n (by omega)
  have h0n : 0 < n := by omega
  have HZ := hid (show (0 : Int) = ((0 : Nat) : Int) from rfl)
  have c0 : ((w.alloc (.cells #[.slice (some ⟨fb, fo, none⟩) n pc] 24)).alloc (.cells #[] 47)).cell? ⟨w.heap.size, 0, none⟩ = some (.slice (some ⟨fb, fo, none⟩) n pc) := by go_simp
  have hbw := Ytjddegfigdpcbaa.b2 w (.cells #[.slice (some ⟨fb, fo, none⟩) n pc] 24) (.cells #[] 47)
  have hol := LpSt.lit (w.alloc (.cells #[.slice (some ⟨fb, fo, none⟩) n pc] 24)) (w.heap.size + 1) (by simp)
  rw [show (w.alloc (.cells #[.slice (some ⟨fb, fo, none⟩) n pc] 24)).heap.size = w.heap.size + 1 from by simp] at hol
  have HBW := hid hbw; have HOL := hid hol
  have HF := hid (hF.below hbw); have HF0 := hid hF
  have HLP := hid (show loopsL F = loopsP F n by rw [hn]; rfl)
  clear hF hV hsm hn hbw hol
  go_enter Try.func32, Try.ntmps32
  go_wp2_with (first
    | (go_at_call 14; refine (rvalid_n (some ⟨fb, fo, none⟩) pc n F _ HN.out HF.out HSM.out).mono ?_; rintro e w3 ⟨ht, hb3⟩; obtain rfl := ht.eq_yes HV.out; replace c0 := below_cell hb3 c0; replace HF := hid (HF.out.below hb3); replace HOL := hid (HOL.out.below hb3); replace HBW := hid (bthen HBW.out hb3); clear ht hb3)
    | (go_at_call 48; refine (rreach_n (some ⟨fb, fo, none⟩) pc n F 0 0 (-1) _ HN.out HZ.out HF.out HV.out HSM.out h0n).mono ?_; rintro e w4 ⟨rb0, rfl, hm, -, hb4⟩; replace c0 := below_cell hb4 c0; replace HOL := hid (HOL.out.below hb4); replace HBW := hid (bthen HBW.out hb4); have HM := hid hm; clear hm hb4))
  obtain ⟨B, hB⟩ : ∃ x, x = w.heap.size + 1 := ⟨_, rfl⟩
  rw [← hB] at HOL ⊢
  have k1 : w.heap.size < B := by omega
  have k2 : B ≤ w4.heap.size := by have := (HOL.out.row.lt B (by simp [Value.ownBlock])).2; omega
  clear hB HF
  go_loopw [5, 3] (fun i ov wr => ∃ h : Nat, ∃ A c vs ll, h ≤ n ∧ i = .int .i64 h ∧ Hid (ov = .slice A ll c) ∧ Hid (ll = (loopsP F h).length) ∧ LpSt wr B A c (loopsP F h) vs ∧ MarksAt wr rb0 (reachB F (-1) [((0 : Nat) : Int)]) ∧ Below B w4 wr) (fun i _ _ => n - (intOf i).toNat)
  case atStart => exact ⟨0, some ⟨B, 0, none⟩, 0, [], 0, Nat.zero_le _, rfl, rfl, rfl, HOL.out, HM.out, Below.refl _ _⟩
  case round =>
    clear HOL HM
    obtain ⟨h, A, c, vs, ll, hh, rfl, hov, HLL, hlp, hmr, hbr⟩ := hrel
    obtain rfl := hov.out
    clear hov
    have d0 := (hbr.cell (p := ⟨w.heap.size, 0, none⟩) (by show w.heap.size < _; omega)).trans c0
    have HLPS := hid hlp; have HMR := hid hmr; have HBR := hid hbr; have HF := hid (HF0.out.below (HBW.out.trans (hbr.mono (by omega))))
    have hbz := hbr.size
    have hll := loopsP_le F h
    rw [← HLL.out] at hll
    clear hlp hmr hbr
    by_cases hlt : h < n
    · have hhn : h < F.length := by rw [← HN.out]; exact hlt
      have HH := hid hhn
      clear hhn
      go_wp2_with fail
      obtain ⟨wo, hwo⟩ : ∃ x, x = wr := ⟨_, rfl⟩
      subst hwo
      have hmade : MarksAt (wo.alloc (.cells (bools (List.replicate n false)).toArray 4)) wo.heap.size (insL F n h (SB F h 0 0)) := by
        rw [SB_zero, insL_nil]; exact BlkAt.made _ _ _
      have HMA := hid hmade; clear hmade
      obtain ⟨ib, hib⟩ : ∃ ib, ib = wo.heap.size := ⟨_, rfl⟩
      rw [← hib] at HMA
      rw [← hib]
      have hibl : wo.heap.size ≤ ib := by omega
      have HS0 := hid (SB_zero F h)
      clear hib
      go_loopw [8, 7] (fun i ov wi => ∃ b : Nat, ∃ fd : Bool, b ≤ n ∧ i = .int .i64 b ∧ ov = .bool fd ∧ Hid (fd = !(SB F h b 0).isEmpty) ∧ MarksAt wi ib (insL F n h (SB F h b 0)) ∧ Below wo.heap.size wo wi) (fun i _ _ => n - (intOf i).toNat)
      case atStart => exact ⟨0, false, Nat.zero_le _, rfl, rfl, (by rw [HS0.out]; rfl : Hid _), HMA.out, below_alloc _ _⟩
      case round =>
        clear HMA HS0
        obtain ⟨b, fd, hb, rfl, rfl, HFD, hma, hbi⟩ := hrel
        have HMA := hid hma; have HBI := hid hbi
        have f0 := below_cell hbi d0
        have hbz2 := hbi.size
        by_cases hbt : b < n
        · have hbn : b < F.length := by rw [← HN.out]; exact hbt
          obtain ⟨X, xc, g0, g1⟩ := (HF.out.below hbi).at b hbn
          have hok := HV.out.ok b hbn
          have hNl := HSM.out b hbn
          have hsbn := fun k p => SB_next F h b k p
          have hsbf := SB_full F h b
          have hokf := okF_eq HV.out HH.out hbn
          obtain ⟨N, hN⟩ : ∃ N, N = F.getD b [] := ⟨_, rfl⟩
          rw [← hN] at g0 g1 hok hNl hsbf
          simp only [← hN] at hsbn
          have HNN := hid hN
          have HG1 := hid g1; have HOK := hid hok; have HSN := hid hsbn; have HSF := hid hsbf; have HBN := hid hbn; have HKF := hid hokf
          clear g1 hok hsbn hsbf hN hma hbi hbn hokf
          go_wp2_with fail
          obtain ⟨wi, hwi⟩ : ∃ x, x = wr := ⟨_, rfl⟩
          subst hwi
          go_loopw [9, 7] (fun i ov wk => ∃ k : Nat, ∃ fd : Bool, k ≤ N.length ∧ i = .int .i64 k ∧ ov = .bool fd ∧ Hid (fd = !(SB F h b k).isEmpty) ∧ MarksAt wk ib (insL F n h (SB F h b k)) ∧ Below wo.heap.size wo wk) (fun i _ _ => N.length - (intOf i).toNat)
          case atStart => exact ⟨0, fd, Nat.zero_le _, rfl, rfl, HFD, HMA.out, HBI.out⟩
          case round =>
            clear HFD HMA HBI f0 g0 hbz2
            obtain ⟨k, fd, hk, rfl, rfl, HFD, hma, hbk⟩ := hrel
            obtain ⟨X', xc', g0, g1⟩ := (HF.out.below hbk).at b HBN.out
            rw [← HNN.out] at g0 g1
            have f0 := below_cell hbk d0
            have HMA := hid hma; have HBK := hid hbk; have HFk := hid (HF.out.below hbk)
            by_cases hkt : k < N.length
            · obtain ⟨xb, xo, rfl, gx⟩ := g1.int k hkt
              have hx0 : N.getD k 0 ∈ N := by rw [List.getD_eq_getElem?_getD, List.getElem?_eq_getElem hkt]; exact List.getElem_mem hkt
              obtain ⟨hxa, hxb⟩ := HOK.out _ hx0
              obtain ⟨x, hx⟩ : ∃ x, x = N.getD k 0 := ⟨_, rfl⟩
              rw [← hx] at gx hxa hxb
              obtain ⟨p, rfl⟩ := Int.eq_ofNat_of_zero_le hxa
              have hsn := HSN.out k p hkt hx.symm
              rw [HKF.out] at hsn
              have HS1 := hid hsn
              clear hx0 hxb hx hsn hma hbk g1
              by_cases hph : p = h
              · have q1 : ((p : Int) != (h : Int)) = false := by simp [hph]
                have HPH := hid hph; clear hph
                obtain ⟨x, hx⟩ : ∃ x, x = relF F 0 h b := ⟨_, rfl⟩
                rw [← hx] at HS1
                have HX := hid (show x = relP F false h b from hx)
                clear hx
                cases x with
                | false =>
                  go_wp2_with (go_at_call 21; refine (rDom_n (some ⟨fb, fo, none⟩) pc n F h b false _ HN.out HFk.out HSM.out HV.out hlt hbt HX.out).mono ?_; rintro e w6 ⟨rfl, hb6⟩; replace HMA := hid (BlkAt.below HMA.out hb6); replace HBK := hid (bthen HBK.out hb6); replace f0 := below_cell hb6 f0; clear hb6)
                  refine ⟨⟨k + 1, fd, by omega, by go_num, rfl, ?_, ?_, HBK.out⟩, by simp [intOf]; omega⟩
                  · rw [HS1.out, if_neg (fun c => by cases c.2)]; exact HFD
                  · rw [HS1.out, if_neg (fun c => by cases c.2)]; exact HMA.out
                | true =>
                  go_wp2_with (go_at_call 21; refine (rDom_n (some ⟨fb, fo, none⟩) pc n F h b true _ HN.out HFk.out HSM.out HV.out hlt hbt HX.out).mono ?_; rintro e w6 ⟨rfl, hb6⟩; replace HMA := hid (BlkAt.below HMA.out hb6); replace HBK := hid (bthen HBK.out hb6); replace f0 := below_cell hb6 f0; clear hb6)
                  have hS1 : SB F h b (k + 1) = SB F h b k ++ [(b : Int)] := by rw [HS1.out, if_pos ⟨HPH.out.symm, by simp⟩]
                  obtain ⟨S, hS⟩ : ∃ S, S = SB F h b k := ⟨_, rfl⟩
                  rw [← hS] at HMA hS1 HFD
                  rw [← mixL_zero F n h S b] at HMA
                  have HSS := hid hS1
                  clear hS1 hS g0 gx f0
                  go_loopw [10] (fun i wc => ∃ c : Nat, c ≤ n ∧ i = .int .i64 c ∧ MarksAt wc ib (mixL F n h S b c) ∧ Below wo.heap.size wo wc) (fun i _ => n - (intOf i).toNat)
                  case atStart => exact ⟨0, Nat.zero_le _, rfl, HMA.out, HBK.out⟩
                  case round =>
                    clear HMA HBK HFk
                    obtain ⟨c', hc, rfl, hma, hbk⟩ := hrel
                    have f0 := below_cell hbk d0
                    have HMA := hid hma; have HBK := hid hbk; have HFk := hid (HF.out.below hbk)
                    by_cases hct : c' < n
                    · have rc := below_cell hbk (HMR.out.cell c' (by rw [reachB_length, ← HN.out]; exact hct))
                      have ic := hma.cell c' (by rw [mixL_len]; exact hct)
                      have fc := BlkAt.fz hma c'
                      have hnx := mixL_next F n h S b c' hct
                      obtain ⟨v, hv⟩ : ∃ v, v = (reachB F (-1) [((0 : Nat) : Int)]).getD c' false := ⟨_, rfl⟩
                      obtain ⟨u, hu⟩ : ∃ u, u = (reachB F (h : Int) [(c' : Int)]).getD b false := ⟨_, rfl⟩
                      rw [← hv] at rc hnx
                      rw [← hu] at hnx
                      have HU := hid hu; have HNX := hid hnx
                      clear hv hu hnx hma hbk
                      cases v with
                      | false =>
                        go_wp2_with fail
                        exact ⟨⟨c' + 1, by omega, by go_num, by rw [HNX.out, if_neg (by simp)]; exact HMA.out, HBK.out⟩, by simp [intOf]; omega⟩
                      | true =>
                        cases u with
                        | false =>
                          go_wp2_with (go_at_call 48; refine (rreach_n (some ⟨fb, fo, none⟩) pc n F c' c' h _ HN.out rfl HFk.out HV.out HSM.out hct).mono ?_; rintro e w8 ⟨rb1, rfl, hm8, -, hb8⟩; have cu : w8.cell? ⟨rb1, b, none⟩ = some (.bool false) := (by have h9 := hm8.cell b (by rw [reachB_length, ← HN.out]; exact hbt); rw [← HU.out] at h9; exact h9); replace HMA := hid (BlkAt.below HMA.out hb8); replace HBK := hid (bthen HBK.out hb8); clear hm8 hb8)
                          exact ⟨⟨c' + 1, by omega, by go_num, by rw [HNX.out, if_neg (by simp)]; exact HMA.out, HBK.out⟩, by simp [intOf]; omega⟩
                        | true =>
                          go_wp2_with (go_at_call 48; refine (rreach_n (some ⟨fb, fo, none⟩) pc n F c' c' h _ HN.out rfl HFk.out HV.out HSM.out hct).mono ?_; rintro e w8 ⟨rb1, rfl, hm8, -, hb8⟩; have cu : w8.cell? ⟨rb1, b, none⟩ = some (.bool true) := (by have h9 := hm8.cell b (by rw [reachB_length, ← HN.out]; exact hbt); rw [← HU.out] at h9; exact h9); replace HMA := hid (BlkAt.below HMA.out hb8); replace HBK := hid (bthen HBK.out hb8); replace ic := below_cell hb8 ic; have fc8 := BlkAt.fz HMA.out c'; clear hm8 hb8)
                          exact ⟨⟨c' + 1, by omega, by go_num, by rw [HNX.out, if_pos (show (true && true) = true from rfl)]; exact MarksAt.set (ms := mixL F n h S b c') HMA.out c' true, HBK.out.setCell (p := ⟨ib, c', none⟩) hibl _⟩, by simp [intOf]; omega⟩
                    · obtain rfl : c' = n := by omega
                      rw [mixL_full] at HMA
                      clear hma hbk
                      go_wp2_with fail
                      refine ⟨⟨k + 1, true, by omega, by go_num, rfl, ?_, ?_, HBK.out⟩, by simp [intOf]; omega⟩
                      · rw [HSS.out, isE_snoc]; exact (rfl : Hid _)
                      · rw [HSS.out]; exact HMA.out
              · have q1 : ((p : Int) != (h : Int)) = true := by simp; omega
                have HPH := hid hph; clear hph
                have hS1 : SB F h b (k + 1) = SB F h b k := by rw [HS1.out, if_neg (fun c => HPH.out c.1.symm)]
                have HSS := hid hS1; clear hS1
                go_wp2_with fail
                refine ⟨⟨k + 1, fd, by omega, by go_num, rfl, ?_, ?_, HBK.out⟩, by simp [intOf]; omega⟩
                · rw [HSS.out]; exact HFD
                · rw [HSS.out]; exact HMA.out
            · obtain rfl : k = N.length := by omega
              rw [HSF.out] at HFD HMA
              clear hma hbk g1
              go_wp2_with fail
              exact ⟨⟨b + 1, fd, by omega, by go_num, rfl, HFD, HMA.out, HBK.out⟩, by simp [intOf]; omega⟩
        · obtain rfl : b = n := by omega
          have hsd : SB F h b 0 = srcL F h := by rw [HN.out]; exact SB_done F h
          rw [hsd] at HFD HMA
          have hlsn := loopsP_snoc F h
          rw [← HN.out] at hlsn
          have HLS := hid hlsn
          clear hsd hma hbi hlsn
          cases fd with
          | false =>
            have hsame : loopsP F (h + 1) = loopsP F h := by
              rw [HLS.out, if_neg]
              have := HFD.out
              cases hs : srcL F h with
              | nil => simp
              | cons y ys => rw [hs] at this; cases this
            have HSM2 := hid hsame; clear hsame
            go_wp2_with fail
            refine ⟨⟨h + 1, A, c, vs, ll, by omega, by go_num, rfl, ?_, ?_, ?_, HBR.out.trans (HBI.out.mono (by omega))⟩, by simp [intOf]; omega⟩
            · rw [HSM2.out]; exact HLL
            · rw [HSM2.out]; exact HLPS.out.below HBI.out
            · exact BlkAt.below HMR.out HBI.out
          | true =>
            have hsame : loopsP F (h + 1) = loopsP F h ++ [(h, bodyP F h b)] := by
              rw [HLS.out, if_pos]
              have := HFD.out
              cases hs : srcL F h with
              | nil => rw [hs] at this; cases this
              | cons y ys => simp
            have HSM2 := hid hsame; clear hsame HLS
            obtain ⟨wB, hwB⟩ : ∃ x, x = wr := ⟨_, rfl⟩
            subst hwB
            go_wp2_with fail
            have hxb := BlkAt.made wB 47 [.int .i64 (h : Int), .slice none 0 0]
            have HXB := hid hxb; clear hxb
            obtain ⟨xb, hxe⟩ : ∃ xb, xb = wB.heap.size := ⟨_, rfl⟩
            rw [← hxe] at HXB
            rw [← hxe]
            have zxw : wB.heap.size ≤ xb := Nat.le_of_eq hxe.symm
            clear hxe
            go_loopw [12] (fun i wi => ∃ q : Nat, ∃ Ab cbb lb, q ≤ b ∧ i = .int .i64 q ∧ Hid (lb = (bodyP F h q).length) ∧ BlkAt wi xb 47 [.int .i64 h, .slice Ab lb cbb] ∧ wi.ownsRow wB.heap.size 3 1 (.slice Ab lb cbb) lb (ints (bodyP F h q)) ∧ Below wB.heap.size wB wi) (fun i _ => b - (intOf i).toNat)
            case atStart => exact ⟨0, none, 0, 0, Nat.zero_le _, rfl, rfl, HXB.out, World.ownsRow_nil _ _ _ _, below_alloc _ _⟩
            case round =>
              clear HXB
              obtain ⟨q, Ab, cbb, lb, hq, rfl, HLB, hx, hown, hbi⟩ := hrel
              have HX := hid hx; have HOWN := hid hown; have HBI2 := hid (HBI.out.trans (hbi.mono hbz2)); have HBI := hid hbi
              have g0 := below_cell hbi f0
              have hlb2 := bodyP_le F h q
              rw [← HLB.out] at hlb2
              have hwz2 := hbi.size
              by_cases hqt : q < b
              · have xc := hx.cell 1 _ rfl
                have xf := hx.fz 1
                have ic := below_cell hbi (HMA.out.cell q (by rw [insL_len]; exact hqt))
                have hin := inB_ins HV.out HH.out (show q < F.length by rw [← HN.out]; exact hqt)
                rw [show (insL F b h (srcL F h)).getD q false = insF F h (srcL F h) q from map_range_getD b _ q hqt] at ic
                obtain ⟨r1, hr1⟩ : ∃ r, r = insF F h (srcL F h) q := ⟨_, rfl⟩
                rw [← hr1] at ic hin
                have HIN := hid hin
                have HSNB := hid (bodyP_snoc F h q)
                have hown2 : (wr.alloc (.cells #[.int .i64 (q : Int)] 3)).ownsRow wB.heap.size 3 1 (.slice Ab lb cbb) lb (ints (bodyP F h q)) := World.ownsRow.alloc hown _
                have HOW := hid hown2
                have hne : some xb ≠ (Value.slice Ab lb cbb).ownBlock := BlkAt.ne_own hx hown (by decide)
                have HNE := hid hne
                have zxi := hx.lt
                clear hx hown hbi hin hr1 hown2 hne
                by_cases q1 : q = h
                · have q1' : ((q : Int) == (h : Int)) = true := by simp [q1]
                  have HIN2 := hid (show inB F h q = true by rw [HIN.out, q1]; simp)
                  clear q1
                  cases r1 with
                  | true =>
                    go_wp2_with (at_builtin; refine wpList_append_row rfl (.tmp 111) (.tmp 113) 29 rfl wB.heap.size 3 i0 (.int .i64 0) 1 8 Try.underlying29 hi hz0 hz1 hz2 rfl (by decide) (.slice Ab lb cbb) lb (ints (bodyP F h q)) rfl HOW.out (some ⟨wr.heap.size, 0, none⟩) 1 1 [.int .i64 q] rfl rfl (fun e => by cases e) (Row.one _ _ _) (ints_one [_]) (by unfold maxLen; omega) (by omega) (by simp; omega) ?_; intro A7 c7 w7 hown7 hgr7 hat7; have hx7 := (HX.out.below (below_alloc wr (.cells #[.int .i64 (q : Int)] 3))).grown hgr7 HNE.out; have xf7 := hx7.fz 1; have xc7 : w7.cell? ⟨xb, 1, none⟩ = some (.slice Ab lb cbb) := hx7.cell 1 _ rfl; have HX7 := hid hx7; have HOW7 := hid hown7; have HGR7 := hid hgr7; clear hown7 hgr7 hat7 hx7)
                    have hs : bodyP F h (q + 1) = bodyP F h q ++ [(q : Int)] := by rw [HSNB.out, if_pos HIN2.out]
                    refine ⟨⟨q + 1, A7, c7, lb + 1, by omega, by go_num, ?_, ?_, ?_, ?_⟩, by simp [intOf]; omega⟩
                    · exact (show lb + 1 = (bodyP F h (q + 1)).length by rw [hs, List.length_append, ← HLB.out]; rfl)
                    · exact HX7.out.set 1 (.slice A7 (lb + 1) c7)
                    · have h7 := HOW7.out
                      have hb7 : some xb ≠ (Value.slice A7 (lb + 1) c7).ownBlock := BlkAt.ne_own HX7.out h7 (by decide)
                      rw [hs, ← ints_snoc]
                      exact own_setCell h7 hb7
                    · exact ((bthen HBI.out (below_alloc wr _)).grown HGR7.out (Nat.le_trans hwz2 (by simp)) (fun j hj => (HOW.out.lt j hj).1)).setCell (p := ⟨xb, 1, none⟩) zxw _
                  | false =>
                    go_wp2_with (at_builtin; refine wpList_append_row rfl (.tmp 111) (.tmp 113) 29 rfl wB.heap.size 3 i0 (.int .i64 0) 1 8 Try.underlying29 hi hz0 hz1 hz2 rfl (by decide) (.slice Ab lb cbb) lb (ints (bodyP F h q)) rfl HOW.out (some ⟨wr.heap.size, 0, none⟩) 1 1 [.int .i64 q] rfl rfl (fun e => by cases e) (Row.one _ _ _) (ints_one [_]) (by unfold maxLen; omega) (by omega) (by simp; omega) ?_; intro A7 c7 w7 hown7 hgr7 hat7; have hx7 := (HX.out.below (below_alloc wr (.cells #[.int .i64 (q : Int)] 3))).grown hgr7 HNE.out; have xf7 := hx7.fz 1; have xc7 : w7.cell? ⟨xb, 1, none⟩ = some (.slice Ab lb cbb) := hx7.cell 1 _ rfl; have HX7 := hid hx7; have HOW7 := hid hown7; have HGR7 := hid hgr7; clear hown7 hgr7 hat7 hx7)
                    have hs : bodyP F h (q + 1) = bodyP F h q ++ [(q : Int)] := by rw [HSNB.out, if_pos HIN2.out]
                    refine ⟨⟨q + 1, A7, c7, lb + 1, by omega, by go_num, ?_, ?_, ?_, ?_⟩, by simp [intOf]; omega⟩
                    · exact (show lb + 1 = (bodyP F h (q + 1)).length by rw [hs, List.length_append, ← HLB.out]; rfl)
                    · exact HX7.out.set 1 (.slice A7 (lb + 1) c7)
                    · have h7 := HOW7.out
                      have hb7 : some xb ≠ (Value.slice A7 (lb + 1) c7).ownBlock := BlkAt.ne_own HX7.out h7 (by decide)
                      rw [hs, ← ints_snoc]
                      exact own_setCell h7 hb7
                    · exact ((bthen HBI.out (below_alloc wr _)).grown HGR7.out (Nat.le_trans hwz2 (by simp)) (fun j hj => (HOW.out.lt j hj).1)).setCell (p := ⟨xb, 1, none⟩) zxw _
                have q1' : ((q : Int) == (h : Int)) = false := by rw [beq_eq_false_iff_ne]; omega
                have HQ1 := hid q1; clear q1
                cases r1 with
                | false =>
                  have hs : bodyP F h (q + 1) = bodyP F h q := by rw [HSNB.out, HIN.out, if_neg (by have := HQ1.out; simp [this])]
                  have HS := hid hs; clear hs
                  go_wp2_with fail
                  exact ⟨⟨q + 1, Ab, cbb, lb, by omega, by go_num, by rw [HS.out]; exact HLB, HX.out, by rw [HS.out]; exact HOWN.out, HBI.out⟩, by simp [intOf]; omega⟩
                | true =>
                  have HIN2 := hid (show inB F h q = true by rw [HIN.out]; simp)
                  go_wp2_with (at_builtin; refine wpList_append_row rfl (.tmp 111) (.tmp 113) 29 rfl wB.heap.size 3 i0 (.int .i64 0) 1 8 Try.underlying29 hi hz0 hz1 hz2 rfl (by decide) (.slice Ab lb cbb) lb (ints (bodyP F h q)) rfl HOW.out (some ⟨wr.heap.size, 0, none⟩) 1 1 [.int .i64 q] rfl rfl (fun e => by cases e) (Row.one _ _ _) (ints_one [_]) (by unfold maxLen; omega) (by omega) (by simp; omega) ?_; intro A7 c7 w7 hown7 hgr7 hat7; have hx7 := (HX.out.below (below_alloc wr (.cells #[.int .i64 (q : Int)] 3))).grown hgr7 HNE.out; have xf7 := hx7.fz 1; have xc7 : w7.cell? ⟨xb, 1, none⟩ = some (.slice Ab lb cbb) := hx7.cell 1 _ rfl; have HX7 := hid hx7; have HOW7 := hid hown7; have HGR7 := hid hgr7; clear hown7 hgr7 hat7 hx7)
                  have hs : bodyP F h (q + 1) = bodyP F h q ++ [(q : Int)] := by rw [HSNB.out, if_pos HIN2.out]
                  refine ⟨⟨q + 1, A7, c7, lb + 1, by omega, by go_num, ?_, ?_, ?_, ?_⟩, by simp [intOf]; omega⟩
                  · exact (show lb + 1 = (bodyP F h (q + 1)).length by rw [hs, List.length_append, ← HLB.out]; rfl)
                  · exact HX7.out.set 1 (.slice A7 (lb + 1) c7)
                  · have h7 := HOW7.out
                    have hb7 : some xb ≠ (Value.slice A7 (lb + 1) c7).ownBlock := BlkAt.ne_own HX7.out h7 (by decide)
                    rw [hs, ← ints_snoc]
                    exact own_setCell h7 hb7
                  · exact ((bthen HBI.out (below_alloc wr _)).grown HGR7.out (Nat.le_trans hwz2 (by simp)) (fun j hj => (HOW.out.lt j hj).1)).setCell (p := ⟨xb, 1, none⟩) zxw _
              · obtain rfl : q = b := by omega
                have x0 := hx.cell 0 _ rfl
                have x1 := hx.cell 1 _ rfl
                have hbi2 := bthen hbi (below_alloc wr (.cells #[.int .i64 h, .slice Ab lb cbb] 47))
                have hl2 := HLPS.out.below (HBI2.out.trans ((below_alloc wr (.cells #[.int .i64 h, .slice Ab lb cbb] 47)).mono (by omega)))
                have hbo : (wr.alloc (.cells #[.int .i64 h, .slice Ab lb cbb] 47)).ownsRow B 3 1 (.slice Ab (bodyP F h q).length cbb) (bodyP F h q).length (ints (bodyP F h q)) := by rw [← HLB.out]; exact own_lower (World.ownsRow.alloc hown _) (by omega)
                have hro := hl2.rowL HLL.out
                have hmr5 := BlkAt.below HMR.out (HBI2.out.trans ((below_alloc wr (.cells #[.int .i64 h, .slice Ab lb cbb] 47)).mono (by omega)))
                have hmne := BlkAt.ne_own hmr5 hro (by decide)
                have HL2 := hid hl2; have HBO := hid hbo; have HRO := hid hro; have HM5 := hid hmr5; have HMN := hid hmne
                have hb5 := HBR.out.trans ((HBI2.out.trans ((below_alloc wr (.cells #[.int .i64 h, .slice Ab lb cbb] 47)).mono (by omega))).mono (show B ≤ wo.heap.size by omega))
                have HB5 := hid hb5
                clear hx hown hbi hbi2 hl2 hbo hro hmr5 hmne hb5
                go_wp2_with (at_builtin; refine wpList_append_row rfl (.tmp 116) (.tmp 118) 43 rfl B 47 ti (.agg #[.int .i64 0, .slice none 0 0]) 2 32 Try.underlying43 hi1 hy0 hy1 hy2 rfl (by decide) (.slice A ll c) ll (lcells (loopsP F h) vs) rfl HRO.out (some ⟨wr.heap.size, 0, none⟩) 1 1 [.int .i64 h, .slice Ab lb cbb] rfl rfl (fun e => by cases e) (Row.two _ _ _ _) (by simp [Value.oneCell']) (by unfold maxLen; omega) (by omega) (by simp; omega) ?_; intro A7 c7 w7 hown7 hgr7 hat7; have HOW7 := hid hown7; have HGR7 := hid hgr7; clear hown7 hgr7 hat7)
                have hll2 := HLL.out
                have h7 := HOW7.out
                have g7 := HGR7.out
                rw [hll2, HLB.out] at h7
                have g7' := g7
                rw [hll2] at g7'
                have hlast := HL2.out.push h7 g7' HBO.out
                refine ⟨⟨h + 1, A7, c7, vs ++ [(Ab, cbb)], ll + 1, by omega, by go_num, rfl, ?_, ?_, ?_, ?_⟩, by simp [intOf]; omega⟩
                · exact (show ll + 1 = (loopsP F (h + 1)).length by rw [HSM2.out, List.length_append, hll2]; rfl)
                · rw [HSM2.out]; exact hlast
                · exact BlkAt.grown HM5.out g7 HMN.out
                · exact HB5.out.grown g7 (by simp; omega) (fun j hj => (HRO.out.lt j hj).1)
    · obtain rfl : h = n := by omega
      go_wp2_with fail
      go_ret
      rw [HLP.out]
      exact ⟨A, c, by rw [← HLL.out]; rfl, HLPS.out.lrow, HBW.out.trans (HBR.out.mono (by omega))⟩
end Go.Proofs.Ytjddegfigdpcbaa
