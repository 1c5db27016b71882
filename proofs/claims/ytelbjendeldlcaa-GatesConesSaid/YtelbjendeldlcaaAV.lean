/- assessorref24.Cone. -/
import Derived.Test.YtelbjendeldlcaaAU
namespace Go.Proofs.Ytelbjendeldlcaa
open Go.RowKit

set_option maxHeartbeats 1000000 in
theorem rcone_no (n : Int) (ga : Option Addr) (gc : Nat) (G : List (Int × Int)) (la : Option Addr) (lc : Nat) (L : List Int) (w : World)
    (hG : Row w ga (gcells G)) (hlen : G.length ≤ 1000000000000) (hll : L.length ≤ 1000000000000) (hL : Row w la (ints L)) (hno : ¬ (Vld n G ∧ LitOk (litN n G.length) L)) :
    Calls Try.prog 30 #[.agg #[.int .i64 n, .slice ga G.length gc], .slice la L.length lc] w (NoCone w) := by
  have HK := hid hno; clear hno
  go_enter Try.func30, Try.ntmps30
  go_wp2_with (go_at_call 39; refine (all_any _ _ _ _ _ _ _ _ (hG.below (b2 w _ _)) hlen hll (hL.below (b2 w _ _))).mono ?_; rintro e w1 ⟨ht, hb1⟩; obtain rfl := ht.eq_no HK.out; have d0 : World.cell? w1 ⟨w.heap.size + 1, 0, none⟩ = some (.int .i64 0) := below_cell hb1 (by go_simp); have d1 : World.cell? w1 ⟨w.heap.size + 1, 1, none⟩ = some (.slice none 0 0) := below_cell hb1 (by go_simp); have f0 : World.frozen? w1 ⟨w.heap.size + 1, 0, none⟩ = false := (hb1.frozen (p := ⟨w.heap.size + 1, 0, none⟩) (by simp)).trans (by go_simp); have f1 : World.frozen? w1 ⟨w.heap.size + 1, 1, none⟩ = false := (hb1.frozen (p := ⟨w.heap.size + 1, 1, none⟩) (by simp)).trans (by go_simp); have HB := hid (bthen (b2 w _ _) hb1); clear ht hb1)
  refine bodyPost_ret (v := .tuple #[.agg #[.int .i64 0, .slice none 0 0], .slice none 0 0, .int .i64 1]) (by simp [results, Try.results30, go_sem, *]) rfl ⟨rfl, ?_⟩
  exact (HB.out.setCell (p := ⟨w.heap.size + 1, 0, none⟩) (by simp) _).setCell (p := ⟨w.heap.size + 1, 1, none⟩) (by simp) _

set_option maxHeartbeats 2000000 in
set_option maxRecDepth 100000 in
theorem rcone_yes (m : Nat) (ga : Option Addr) (gc : Nat) (G : List (Int × Int)) (la : Option Addr) (lc : Nat) (L : List Int) (w : World)
    (hG : Row w ga (gcells G)) (hll : L.length ≤ 1000000000000) (hL : Row w la (ints L)) (hV : Vld m G) (hK : LitOk (litN m G.length) L) :
    Calls Try.prog 30 #[.agg #[.int .i64 m, .slice ga G.length gc], .slice la L.length lc] w (GivesCone w m (coneG (mv (fun k => (k : Int)) m (needF m G L)) m G (needF m G L) (1 + m + G.length)) (L.map (mvL (mv (fun k => (k : Int)) m (needF m G L))))) := by
  have hlo := hV.lo; have hhi := hV.hi; have hsz := hV.size
  have hnl := needF_length m G L
  obtain ⟨N, hN⟩ : ∃ N, N = 1 + m + G.length := ⟨_, rfl⟩
  have hNle : N ≤ 65536 := by omega
  have hN1 : 1 + (m : Int) + (G.length : Int) ≤ N := by omega
  have hN2 : (N : Int) ≤ 1 + (m : Int) + (G.length : Int) := by omega
  have hnod : nodesI m G.length = (N : Int) := by rw [hN]; unfold nodesI wrap64; omega
  obtain ⟨i0, hi, hz0, hz1, hz2⟩ := info_parts info3
  obtain ⟨ti, hi1, hy0, hy1, hy2⟩ := info_parts info69
  obtain ⟨ms, hms⟩ : ∃ ms, ms = needF m G L := ⟨_, rfl⟩
  have hneed : Need m G L ms := by rw [hms]; exact needF_need m G L (fun i hi => by have := hV.ops i hi; omega)
  rw [← hms] at hnl
  rw [← hN] at hnl
  obtain ⟨fm, hfm⟩ : ∃ fm, fm = mv (fun k => (k : Int)) m ms := ⟨_, rfl⟩
  rw [← hms, ← hfm, ← hN]
  have HFM := hid hfm; clear hfm
  have HK := hid (And.intro hV hK); have HMS := hid hms; have HNL := hid hnl; have HNOD := hid hnod; have HN := hid hN; have HNEED := hid hneed; clear hV hK hms hnl hnod hN hneed
  go_enter Try.func30, Try.ntmps30
  go_wp2_with (first
    | (go_at_call 39; refine (all_any _ _ _ _ _ _ _ _ (hG.below (b2 w _ _)) (by omega) hll (hL.below (b2 w _ _))).mono ?_; rintro e w1 ⟨ht, hb1⟩; obtain rfl := ht.eq_yes HK.out; have c0 : World.cell? w1 ⟨w.heap.size, 0, none⟩ = some (.int .i64 m) := below_cell hb1 (by go_simp); have c1 : World.cell? w1 ⟨w.heap.size, 1, none⟩ = some (.slice ga G.length gc) := below_cell hb1 (by go_simp); have d0 : World.cell? w1 ⟨w.heap.size + 1, 0, none⟩ = some (.int .i64 0) := below_cell hb1 (by go_simp); have d1 : World.cell? w1 ⟨w.heap.size + 1, 1, none⟩ = some (.slice none 0 0) := below_cell hb1 (by go_simp); have f0 : World.frozen? w1 ⟨w.heap.size + 1, 0, none⟩ = false := (hb1.frozen (p := ⟨w.heap.size + 1, 0, none⟩) (by simp)).trans (by go_simp); have f1 : World.frozen? w1 ⟨w.heap.size + 1, 1, none⟩ = false := (hb1.frozen (p := ⟨w.heap.size + 1, 1, none⟩) (by simp)).trans (by go_simp); have HB := hid (bthen (b2 w _ _) hb1); have zw := lt_of_cell c0; dsimp only at zw; have zw2 := lt_of_cell d0; dsimp only at zw2; clear ht hb1)
    | (go_at_call 51; refine (rneeded_any m ga gc G la lc L _ (hG.below HB.out) (hL.below HB.out) hll HK.out.1 HK.out.2).mono ?_; rw [← HMS.out]; rintro e w2 ⟨mb, he, hm2, hmb, hb2⟩; rw [HNL.out] at he; subst he; have c0b := below_cell hb2 c0; have c1b := below_cell hb2 c1; have HM2 := hid hm2; have HB2 := hid hb2; have HMB := hid hmb; clear hm2 hb2 hmb))
  obtain ⟨ob, hob⟩ : ∃ ob, ob = w2.heap.size := ⟨_, rfl⟩
  have hst : CSt2 ((w2.alloc (.cells #[.int .i64 m, .slice none 0 0] 24)).alloc (.cells #[] 3)) w1.heap.size ob mb m none 0 [] ms (some ⟨w2.heap.size + 1, 0, none⟩) 0 [] := by
    have h1 := heap_alloc_new w2 (.cells #[.int .i64 m, .slice none 0 0] 24)
    refine ⟨?_, World.ownsRow_nil _ _ _ _, HM2.out.below (b2 _ _ _), ?_⟩
    · rw [hob, heap_alloc_old _ _ _ (by simp)]; exact h1
    · have := World.ownsRow_lit (base := w1.heap.size) (e := 3) (size := 1) (w2.alloc (.cells #[.int .i64 m, .slice none 0 0] 24)) #[] 0 (by have := HB2.out.size; simp; omega) (by unfold maxLen; omega) rfl
      rw [show (w2.alloc (.cells #[.int .i64 m, .slice none 0 0] 24)).heap.size = w2.heap.size + 1 from by simp] at this
      exact this
  have hbw4 : Below w1.heap.size w1 ((w2.alloc (.cells #[.int .i64 m, .slice none 0 0] 24)).alloc (.cells #[] 3)) := bthen HB2.out (b2 _ _ _)
  have hzo : w1.heap.size ≤ ob := by rw [hob]; exact HB2.out.size
  rw [← hob] at hst
  rw [← hob]
  obtain ⟨w4, hw4⟩ : ∃ w4, w4 = (w2.alloc (.cells #[.int .i64 m, .slice none 0 0] 24)).alloc (.cells #[] 3) := ⟨_, rfl⟩
  rw [← hw4] at hst hbw4
  rw [← hw4]
  have HST := hid hst; have HBW4 := hid hbw4
  clear hst hbw4 hw4 hob c0b c1b
  go_loopw [9, 10] (fun o i wr => ∃ k : Nat, ∃ A c Am cm, k ≤ N ∧ i = .int .i64 k ∧ o = .slice Am k cm ∧ Below w1.heap.size w1 wr ∧ CSt2 wr w1.heap.size ob mb m A c (coneG fm m G ms k) ms Am cm (tos fm k))
    (fun _ i _ => N - (intOf i).toNat)
  case atStart => exact ⟨0, none, 0, _, 0, by omega, rfl, rfl, HBW4.out, HST.out⟩
  case round =>
    obtain ⟨k, A, c, Am, cm, hk, rfl, rfl, hbr, hst⟩ := hrel
    have HBR := hid hbr; have HS := hid hst
    obtain ⟨ol, hol⟩ : ∃ ol, ol = (coneG fm m G ms k).length := ⟨_, rfl⟩
    have HOL := hid hol
    have e0 := below_cell hbr c0
    have e1 := below_cell hbr c1
    clear hst hbr hol
    go_wp2_with fail
    refine (rnodes_any _ _ _ _ _).mono ?_
    rw [HNOD.out]
    rintro e w5 ⟨rfl, hb5⟩
    have HB5 := hid (bthen HBR.out hb5); have HS5 := hid (HS.out.below hb5)
    have e0 := below_cell hb5 e0
    have e1 := below_cell hb5 e1
    clear hb5
    by_cases hlt : k < N
    · have mc := HS5.out.marks.cell k (by rw [HNL.out]; exact hlt)
      have hown := HS5.out.tos
      rw [tos_length] at hown
      have HOWT := hid hown
      have j1 : (k : Int) < (N : Int) := by omega
      have j0 : (0 : Int) ≤ (k : Int) := by omega
      have APP : True := trivial
      clear hown
      by_cases hkm : k ≤ m
      · have hkm' : (k : Int) ≤ (m : Int) := by omega
        have HFK := hid (show fm k = (k : Int) by rw [HFM.out]; exact mv_in _ _ _ _ hkm)
        have HCS := hid (show coneG fm m G ms (k + 1) = coneG fm m G ms k by rw [coneG_snoc, if_neg (fun hc => absurd hc.1 (by omega))])
        clear mc
        go_wp2_with (at_builtin; refine wpList_append_row rfl (.tmp 32) (.tmp 34) 26 rfl w1.heap.size 3 i0 (.int .i64 0) 1 8 Try.underlying26 hi hz0 hz1 hz2 rfl (by decide) (.slice Am k cm) k (ints (tos fm k)) rfl (World.ownsRow.alloc HOWT.out _) (some ⟨w5.heap.size, 0, none⟩) 1 1 [.int .i64 (k : Int)] rfl rfl (fun e => by cases e) (Row.one _ _ _) (ints_one [_]) (by unfold maxLen; omega) (by omega) (by have := HB5.out.size; simp; omega) ?_; intro A6 c6 w6 hown6 hgr6 hat6; have HB6 := hid ((bthen HB5.out (below_alloc _ _)).grown hgr6 (by have := HB5.out.size; simp; omega) (fun j hj => (HOWT.out.lt j hj).1)); have hs6 := (HS5.out.below (below_alloc w5 (.cells #[.int .i64 (k : Int)] 3))).pushT (A4 := A6) (c4 := c6) (x := (k : Int)) (by rw [tos_length]; exact hown6) (by rw [tos_length]; exact hgr6); have e0 := below_cell HB6.out c0; have e1 := below_cell HB6.out c1; have HS6 := hid hs6; clear hs6 hown6 hgr6 hat6)
        refine ⟨⟨k + 1, A, c, A6, c6, by omega, by go_num, rfl, HB6.out, ?_⟩, by simp [intOf]; omega⟩
        rw [HCS.out, tos_snoc, HFK.out]
        exact HS6.out
      · have hkm' : (m : Int) < (k : Int) := by omega
        have hkd : decide ((k : Int) ≤ (m : Int)) = false := by simp; omega
        obtain ⟨b, hb⟩ : ∃ b, b = ms.getD k false := ⟨_, rfl⟩
        rw [← hb] at mc
        cases b with
        | false =>
          have HFK := hid (show fm k = (k : Int) by rw [HFM.out]; unfold mv; rw [if_neg hkm, if_neg (by rw [← hb]; simp)])
          have HCS := hid (show coneG fm m G ms (k + 1) = coneG fm m G ms k by rw [coneG_snoc, if_neg (fun hc => by rw [← hb] at hc; simp at hc)])
          have MCB := hid hb
          clear hb
          go_wp2_with (at_builtin; refine wpList_append_row rfl (.tmp 32) (.tmp 34) 26 rfl w1.heap.size 3 i0 (.int .i64 0) 1 8 Try.underlying26 hi hz0 hz1 hz2 rfl (by decide) (.slice Am k cm) k (ints (tos fm k)) rfl (World.ownsRow.alloc HOWT.out _) (some ⟨w5.heap.size, 0, none⟩) 1 1 [.int .i64 (k : Int)] rfl rfl (fun e => by cases e) (Row.one _ _ _) (ints_one [_]) (by unfold maxLen; omega) (by omega) (by have := HB5.out.size; simp; omega) ?_; intro A6 c6 w6 hown6 hgr6 hat6; have HB6 := hid ((bthen HB5.out (below_alloc _ _)).grown hgr6 (by have := HB5.out.size; simp; omega) (fun j hj => (HOWT.out.lt j hj).1)); have hs6 := (HS5.out.below (below_alloc w5 (.cells #[.int .i64 (k : Int)] 3))).pushT (A4 := A6) (c4 := c6) (x := (k : Int)) (by rw [tos_length]; exact hown6) (by rw [tos_length]; exact hgr6); have e0 := below_cell HB6.out c0; have e1 := below_cell HB6.out c1; have mc := hs6.marks.cell k (by rw [HNL.out]; exact hlt); rw [← MCB.out] at mc; have HS6 := hid hs6; clear hs6 hown6 hgr6 hat6)
          refine ⟨⟨k + 1, A, c, A6, c6, by omega, by go_num, rfl, HB6.out, ?_⟩, by simp [intOf]; omega⟩
          rw [HCS.out, tos_snoc, HFK.out]
          exact HS6.out
        | true =>
          obtain ⟨j, hj⟩ : ∃ j, j = k - 1 - m := ⟨_, rfl⟩
          obtain ⟨hjG, hji, hj2, hmk1, hmk2⟩ := gate_idx hj HN.out hlt hkm
          have holk : ol ≤ k := by rw [HOL.out, coneG_length]; exact Nat.le_trans (sel_le m ms k) (by omega)
          have HFK := hid (show fm k = ((1 + m + ol : Nat) : Int) by rw [HFM.out, mv_gate _ _ _ _ hmk1 hb.symm, HOL.out, coneG_length])
          have HCS := hid (show coneG fm m G ms (k + 1) = coneG fm m G ms k ++ [mvG fm (G.getD (k - 1 - m) (0, 0))] by rw [coneG_snoc, if_pos ⟨hmk1, hb.symm⟩])
          have HNO := hid (nodes_plain m ol (by omega))
          obtain ⟨sb, so, rfl, gx, gy⟩ := hG.gate j hjG
          have hop := (HNEED.out).opA HK.out.1 k hmk1 hmk2 hb.symm
          have hpos := HK.out.1.pos j hjG
          rw [← hj] at hop
          have MCB := hid hb
          clear hb
          obtain ⟨x, hx⟩ : ∃ x, x = (G.getD j (0, 0)).1 := ⟨_, rfl⟩
          obtain ⟨y, hy⟩ : ∃ y, y = (G.getD j (0, 0)).2 := ⟨_, rfl⟩
          rw [← hx] at gx hpos; rw [← hy] at gy hpos
          obtain ⟨p, rfl⟩ := Int.eq_ofNat_of_zero_le hpos.1
          obtain ⟨q, rfl⟩ := Int.eq_ofNat_of_zero_le hpos.2
          have hqk : q / 2 < k := div_lt hy hop.2.2.2.1
          have hpk : p / 2 < k := div_lt hx (Nat.lt_trans hop.2.2.1 hop.2.2.2.1)
          have hsb := Nat.lt_of_lt_of_le (lt_of_cell gx) HB.out.size
          dsimp only at hsb
          have HX := hid hx; have HY := hid hy; have HJ := hid hj; have HJ2 := hid hj2
          have HGX := hid gx; have HGY := hid gy
          clear hop hpos hx hy hj hj2 gx gy
          go_wp2_with (at_builtin; refine wpList_append_row rfl (.tmp 32) (.tmp 34) 26 rfl w1.heap.size 3 i0 (.int .i64 0) 1 8 Try.underlying26 hi hz0 hz1 hz2 rfl (by decide) (.slice Am k cm) k (ints (tos fm k)) rfl (World.ownsRow.alloc HOWT.out _) (some ⟨w5.heap.size, 0, none⟩) 1 1 [.int .i64 (k : Int)] rfl rfl (fun e => by cases e) (Row.one _ _ _) (ints_one [_]) (by unfold maxLen; omega) (by omega) (by have := HB5.out.size; simp; omega) ?_; intro A6 c6 w6 hown6 hgr6 hat6; have HB6 := hid ((bthen HB5.out (below_alloc _ _)).grown hgr6 (by have := HB5.out.size; simp; omega) (fun j hj => (HOWT.out.lt j hj).1)); have hs6 := (HS5.out.below (below_alloc w5 (.cells #[.int .i64 (k : Int)] 3))).pushT (A4 := A6) (c4 := c6) (x := (k : Int)) (by rw [tos_length]; exact hown6) (by rw [tos_length]; exact hgr6); have e0 := below_cell HB6.out c0; have e1 := below_cell HB6.out c1; have mc := hs6.marks.cell k (by rw [HNL.out]; exact hlt); rw [← MCB.out] at mc; have gx := below_cell (bthen HB.out HB6.out) HGX.out; have gy := below_cell (bthen HB.out HB6.out) HGY.out; obtain ⟨tb, rfl, htb, _⟩ := hs6.form (by simp); have HTB := hid htb; have HS6 := hid hs6; have o0 : World.cell? w6 ⟨ob, 0, none⟩ = some (.int .i64 m) := cell_of_row' hs6.row 0 _ rfl; have o1 : World.cell? w6 ⟨ob, 1, none⟩ = some (.slice A ol c) := (by rw [HOL.out]; exact cell_of_row' hs6.row 1 _ rfl); have zo6 := hs6.lt; have zt6 : tb < w6.heap.size := (by assumption); clear hs6 hown6 hgr6 hat6 htb)
          refine (rnodes_any _ _ _ _ _).mono ?_
          rw [HNO.out]
          rintro e w8 ⟨rfl, hb8⟩
          have xa0 := box_cell hb8 0 _ rfl
          have xa1 := box_cell hb8 1 _ rfl
          have HS8 := hid ((HS6.out.below (below_alloc _ _)).below hb8)
          have HB8 := hid (bthen HB6.out (bthen (below_alloc _ _) hb8))
          have tc := HS8.out.cell k (by simp [tos_length])
          have tf := HS8.out.fz k
          have htb := Nat.lt_of_lt_of_le hsb HTB.out
          obtain ⟨t0, ht0⟩ : ∃ t0, t0 = (tos fm k ++ [(k : Int)]).getD k 0 := ⟨_, rfl⟩
          rw [← ht0] at tc
          clear hb8 ht0
          go_wp2_with fail
          have hz : CSt2 (w8.setCell ⟨tb, k, none⟩ (.int .i64 (1 + (m : Int) + (ol : Int)))) w1.heap.size ob mb m A c (coneG fm m G ms k) ms (some ⟨tb, 0, none⟩) c6 (tos fm (k + 1)) := by
            have h1 := HS8.out.setT k (fm k)
            rw [tos_snocset fm k k (fm k) rfl, HFK.out] at h1; push_cast at h1; exact h1
          have hbz : Below w1.heap.size w1 (w8.setCell ⟨tb, k, none⟩ (.int .i64 (1 + (m : Int) + (ol : Int)))) := HB8.out.setCell (p := ⟨tb, k, none⟩) HTB.out _
          have xc0 : (w8.setCell ⟨tb, k, none⟩ (.int .i64 (1 + (m : Int) + (ol : Int)))).cell? ⟨w6.heap.size, 0, none⟩ = some (.int .i64 p) := by go_simp
          have xc1 : (w8.setCell ⟨tb, k, none⟩ (.int .i64 (1 + (m : Int) + (ol : Int)))).cell? ⟨w6.heap.size, 1, none⟩ = some (.int .i64 q) := by go_simp
          obtain ⟨wz, hwz⟩ : ∃ wz, wz = w8.setCell ⟨tb, k, none⟩ (.int .i64 (1 + (m : Int) + (ol : Int))) := ⟨_, rfl⟩
          obtain ⟨xb, hxb⟩ : ∃ xb, xb = w6.heap.size := ⟨_, rfl⟩
          rw [← hwz] at hz hbz xc0 xc1
          rw [← hwz]
          rw [← hxb] at xc0 xc1
          rw [← hxb]
          have oc1 : wz.cell? ⟨ob, 1, none⟩ = some (.slice A ol c) := by rw [HOL.out]; exact cell_of_row' hz.row 1 _ rfl
          have tc0 := hz.cell (p / 2) (by rw [tos_length]; omega)
          have tc1 := hz.cell (q / 2) (by rw [tos_length]; omega)
          rw [tos_getD _ _ _ (by omega)] at tc0
          rw [tos_getD _ _ _ (by omega)] at tc1
          have hu := mv_bd (fun k => (k : Int)) m ms (p / 2) (Int.natCast_nonneg _) (Int.le_refl _)
          have hv := mv_bd (fun k => (k : Int)) m ms (q / 2) (Int.natCast_nonneg _) (Int.le_refl _)
          rw [← HFM.out] at hu hv
          obtain ⟨u, hu'⟩ : ∃ u, u = fm (p / 2) := ⟨_, rfl⟩
          obtain ⟨v, hv'⟩ : ∃ v, v = fm (q / 2) := ⟨_, rfl⟩
          rw [← hu'] at tc0 hu; rw [← hv'] at tc1 hv
          obtain ⟨u0, u1⟩ := hu; obtain ⟨v0, v1⟩ := hv
          have HU := hid hu'; have HV := hid hv'; have HZ := hid hz; have HBZ := hid hbz
          have hno : some ob ≠ (Value.slice A ol c).ownBlock := by rw [HOL.out]; exact own_ne_block hz.own hz.row (by decide)
          have HNO2 := hid hno
          have how : ((wz.drew).alloc (.cells #[.int .i64 (2 * u + (p : Int) % 2), .int .i64 (2 * v + (q : Int) % 2)] 69)).ownsRow w1.heap.size 69 2 (.slice A ol c) ol (gcells (coneG fm m G ms k)) := by
            rw [HOL.out]; exact own_below hz.own (bthen (below_drew' _) (below_alloc _ _))
          have HOW5 := hid how
          have ol2 : ol ≤ 65536 := by omega
          have obl : ob < wz.heap.size := hz.lt
          have i1 : (p : Int) / 2 < (k : Int) + 1 := by omega
          have i2 : 0 ≤ (p : Int) / 2 := by omega
          have i4 : ((p : Int) / 2).toNat = p / 2 := by omega
          have k1 : (q : Int) / 2 < (k : Int) + 1 := by omega
          have k2 : 0 ≤ (q : Int) / 2 := by omega
          have k4 : ((q : Int) / 2).toNat = q / 2 := by omega
          have i3 : IntKind.i64.wrap ((p : Int) / 2) = (p : Int) / 2 := IntWalk.i64_in _ (by omega)
          have k3 : IntKind.i64.wrap ((q : Int) / 2) = (q : Int) / 2 := IntWalk.i64_in _ (by omega)
          have n1 : IntKind.i64.wrap (2 * u) = 2 * u := IntWalk.i64_in _ (by omega)
          have n2 : (p : Int).tmod 2 = (p : Int) % 2 := Int.tmod_eq_emod_of_nonneg (by omega)
          have n3 : IntKind.i64.wrap (2 * u + (p : Int) % 2) = 2 * u + (p : Int) % 2 := IntWalk.i64_in _ (by omega)
          have n4 : IntKind.i64.wrap (2 * v) = 2 * v := IntWalk.i64_in _ (by omega)
          have n5 : (q : Int).tmod 2 = (q : Int) % 2 := Int.tmod_eq_emod_of_nonneg (by omega)
          have n6 : IntKind.i64.wrap (2 * v + (q : Int) % 2) = 2 * v + (q : Int) % 2 := IntWalk.i64_in _ (by omega)
          clear hz hbz hno how hu' hv' hwz hxb xa0 xa1 tc tf
          refine wp_region_J (fun j => match j with | 25 => some (fun W => W.cell? ⟨ob, 1, none⟩ = some (.slice A ol c)) | 26 => some (fun _ => True) | 28 => some (fun _ => True) | _ => none) (by kernel_rfl) ?_
          refine anyJ_take (some 61) (i := 0) (T := fun _ => True) (v := ?_) rfl rfl (by kernel_rfl) (by kernel_rfl) (by kernel_rfl) (fun _ _ _ h => h) (js := [25]) (by kernel_rfl) Leads.true rfl (Or.inl ⟨by rfl, ?_⟩) trivial ?_
          rotate_left
          · (intro wL hSw; (try dsimp only at hSw); go_simp; try with_reducible rfl)
          try simp only [Act.put, List.setIfInBounds_toArray, List.set_cons_zero, List.set_cons_succ]
          refine anyJ_take (some 62) (i := 1) (T := fun W => W.cell? ⟨ob, 1, none⟩ = some (.slice A ol c)) (v := ?_) rfl rfl (by kernel_rfl) (by kernel_rfl) (by kernel_rfl) (fun _ _ _ h => h) (js := [25]) (by kernel_rfl) (Leads.cons _ rfl (fun w h => h) Leads.nil) rfl (Or.inl ⟨by rfl, ?_⟩) (oc1) ?_
          rotate_left
          · (intro wL hSw; (try dsimp only at hSw); go_simp; try with_reducible rfl)
          try simp only [Act.put, List.setIfInBounds_toArray, List.set_cons_zero, List.set_cons_succ]
          refine anyJ_take (some 63) (i := 2) (T := fun _ => True) (v := ?_) rfl rfl (by kernel_rfl) (by kernel_rfl) (by kernel_rfl) (fun _ _ _ h => h) (js := []) (by kernel_rfl) Leads.true rfl (Or.inl ⟨by rfl, ?_⟩) trivial ?_
          rotate_left
          · (intro wL hSw; (try dsimp only at hSw); go_simp; try with_reducible rfl)
          try simp only [Act.put, List.setIfInBounds_toArray, List.set_cons_zero, List.set_cons_succ]
          refine anyJ_take (some 64) (i := 3) (T := fun _ => True) (v := ?_) rfl rfl (by kernel_rfl) (by kernel_rfl) (by kernel_rfl) (fun _ _ _ h => h) (js := []) (by kernel_rfl) Leads.true rfl (Or.inl ⟨by rfl, ?_⟩) trivial ?_
          rotate_left
          · (intro wL hSw; (try dsimp only at hSw); go_simp; try with_reducible rfl)
          try simp only [Act.put, List.setIfInBounds_toArray, List.set_cons_zero, List.set_cons_succ]
          refine anyJ_take (some 65) (i := 4) (T := fun W => W.cell? ⟨xb, 0, none⟩ = some (.int .i64 p) ∧ W.cell? ⟨xb, 1, none⟩ = some (.int .i64 q)) (v := ?_) rfl rfl (by kernel_rfl) (by kernel_rfl) (by kernel_rfl) (fun _ _ _ h => h) (js := []) (by kernel_rfl) Leads.nil rfl (Or.inl ⟨by rfl, ?_⟩) (⟨xc0, xc1⟩) ?_
          rotate_left
          · (intro wL hSw; (try dsimp only at hSw); go_simp; try with_reducible rfl)
          try simp only [Act.put, List.setIfInBounds_toArray, List.set_cons_zero, List.set_cons_succ]
          refine anyJ_take (some 66) (i := 5) (T := fun _ => True) (v := ?_) rfl rfl (by kernel_rfl) (by kernel_rfl) (by kernel_rfl) (fun _ _ _ h => h) (js := []) (by kernel_rfl) Leads.true rfl (Or.inl ⟨by rfl, ?_⟩) trivial ?_
          rotate_left
          · (intro wL hSw; (try dsimp only at hSw); go_simp; try with_reducible rfl)
          try simp only [Act.put, List.setIfInBounds_toArray, List.set_cons_zero, List.set_cons_succ]
          refine anyJ_take (some 67) (i := 6) (T := fun _ => True) (v := ?_) rfl rfl (by kernel_rfl) (by kernel_rfl) (by kernel_rfl) (fun _ _ _ h => h) (js := []) (by kernel_rfl) Leads.true rfl (Or.inl ⟨by rfl, ?_⟩) trivial ?_
          rotate_left
          · (intro wL hSw; (try dsimp only at hSw); go_simp; try with_reducible rfl)
          try simp only [Act.put, List.setIfInBounds_toArray, List.set_cons_zero, List.set_cons_succ]
          refine anyJ_take (some 68) (i := 7) (T := fun W => W.cell? ⟨tb, p / 2, none⟩ = some (.int .i64 u) ∧ W.cell? ⟨tb, q / 2, none⟩ = some (.int .i64 v)) (v := ?_) rfl rfl (by kernel_rfl) (by kernel_rfl) (by kernel_rfl) (fun _ _ _ h => h) (js := []) (by kernel_rfl) Leads.nil rfl (Or.inl ⟨by rfl, ?_⟩) (⟨tc0, tc1⟩) ?_
          rotate_left
          · (intro wL hSw; (try dsimp only at hSw); go_simp; try with_reducible rfl)
          try simp only [Act.put, List.setIfInBounds_toArray, List.set_cons_zero, List.set_cons_succ]
          refine anyJ_take (some 69) (i := 8) (T := fun _ => True) (v := ?_) rfl rfl (by kernel_rfl) (by kernel_rfl) (by kernel_rfl) (fun _ _ _ h => h) (js := []) (by kernel_rfl) Leads.true rfl (Or.inl ⟨by rfl, ?_⟩) trivial ?_
          rotate_left
          · (intro wL hSw; (try dsimp only at hSw); go_simp; try with_reducible rfl)
          try simp only [Act.put, List.setIfInBounds_toArray, List.set_cons_zero, List.set_cons_succ]
          refine anyJ_take (some 70) (i := 9) (T := fun _ => True) (v := ?_) rfl rfl (by kernel_rfl) (by kernel_rfl) (by kernel_rfl) (fun _ _ _ h => h) (js := []) (by kernel_rfl) Leads.true rfl (Or.inl ⟨by rfl, ?_⟩) trivial ?_
          rotate_left
          · (intro wL hSw; (try dsimp only at hSw); go_simp; try with_reducible rfl)
          try simp only [Act.put, List.setIfInBounds_toArray, List.set_cons_zero, List.set_cons_succ]
          refine anyJ_take (some 71) (i := 10) (T := fun W => W.cell? ⟨xb, 0, none⟩ = some (.int .i64 p) ∧ W.cell? ⟨xb, 1, none⟩ = some (.int .i64 q)) (v := ?_) rfl rfl (by kernel_rfl) (by kernel_rfl) (by kernel_rfl) (fun _ _ _ h => h) (js := []) (by kernel_rfl) Leads.nil rfl (Or.inl ⟨by rfl, ?_⟩) (⟨xc0, xc1⟩) ?_
          rotate_left
          · (intro wL hSw; (try dsimp only at hSw); go_simp; try with_reducible rfl)
          try simp only [Act.put, List.setIfInBounds_toArray, List.set_cons_zero, List.set_cons_succ]
          refine anyJ_take (some 72) (i := 11) (T := fun _ => True) (v := ?_) rfl rfl (by kernel_rfl) (by kernel_rfl) (by kernel_rfl) (fun _ _ _ h => h) (js := []) (by kernel_rfl) Leads.true rfl (Or.inl ⟨by rfl, ?_⟩) trivial ?_
          rotate_left
          · (intro wL hSw; (try dsimp only at hSw); go_simp; try with_reducible rfl)
          try simp only [Act.put, List.setIfInBounds_toArray, List.set_cons_zero, List.set_cons_succ]
          refine anyJ_take (some 73) (i := 12) (T := fun _ => True) (v := ?_) rfl rfl (by kernel_rfl) (by kernel_rfl) (by kernel_rfl) (fun _ _ _ h => h) (js := []) (by kernel_rfl) Leads.true rfl (Or.inl ⟨by rfl, ?_⟩) trivial ?_
          rotate_left
          · (intro wL hSw; (try dsimp only at hSw); go_simp; try with_reducible rfl)
          try simp only [Act.put, List.setIfInBounds_toArray, List.set_cons_zero, List.set_cons_succ]
          refine anyJ_take (some 74) (i := 13) (T := fun _ => True) (v := ?_) rfl rfl (by kernel_rfl) (by kernel_rfl) (by kernel_rfl) (fun _ _ _ h => h) (js := []) (by kernel_rfl) Leads.true rfl (Or.inl ⟨by rfl, ?_⟩) trivial ?_
          rotate_left
          · (intro wL hSw; (try dsimp only at hSw); go_simp; try with_reducible rfl)
          try simp only [Act.put, List.setIfInBounds_toArray, List.set_cons_zero, List.set_cons_succ]
          refine anyJ_take (some 75) (i := 14) (T := fun _ => True) (v := ?_) rfl rfl (by kernel_rfl) (by kernel_rfl) (by kernel_rfl) (fun _ _ _ h => h) (js := []) (by kernel_rfl) Leads.true rfl (Or.inl ⟨by rfl, ?_⟩) trivial ?_
          rotate_left
          · (intro wL hSw; (try dsimp only at hSw); go_simp; try with_reducible rfl)
          try simp only [Act.put, List.setIfInBounds_toArray, List.set_cons_zero, List.set_cons_succ]
          refine anyJ_take (some 76) (i := 15) (T := fun W => W.cell? ⟨xb, 0, none⟩ = some (.int .i64 p) ∧ W.cell? ⟨xb, 1, none⟩ = some (.int .i64 q)) (v := ?_) rfl rfl (by kernel_rfl) (by kernel_rfl) (by kernel_rfl) (fun _ _ _ h => h) (js := []) (by kernel_rfl) Leads.nil rfl (Or.inl ⟨by rfl, ?_⟩) (⟨xc0, xc1⟩) ?_
          rotate_left
          · (intro wL hSw; (try dsimp only at hSw); go_simp; try with_reducible rfl)
          try simp only [Act.put, List.setIfInBounds_toArray, List.set_cons_zero, List.set_cons_succ]
          refine anyJ_take (some 77) (i := 16) (T := fun _ => True) (v := ?_) rfl rfl (by kernel_rfl) (by kernel_rfl) (by kernel_rfl) (fun _ _ _ h => h) (js := []) (by kernel_rfl) Leads.true rfl (Or.inl ⟨by rfl, ?_⟩) trivial ?_
          rotate_left
          · (intro wL hSw; (try dsimp only at hSw); go_simp; try with_reducible rfl)
          try simp only [Act.put, List.setIfInBounds_toArray, List.set_cons_zero, List.set_cons_succ]
          refine anyJ_take (some 78) (i := 17) (T := fun _ => True) (v := ?_) rfl rfl (by kernel_rfl) (by kernel_rfl) (by kernel_rfl) (fun _ _ _ h => h) (js := []) (by kernel_rfl) Leads.true rfl (Or.inl ⟨by rfl, ?_⟩) trivial ?_
          rotate_left
          · (intro wL hSw; (try dsimp only at hSw); go_simp; try with_reducible rfl)
          try simp only [Act.put, List.setIfInBounds_toArray, List.set_cons_zero, List.set_cons_succ]
          refine anyJ_take (some 79) (i := 18) (T := fun W => W.cell? ⟨tb, p / 2, none⟩ = some (.int .i64 u) ∧ W.cell? ⟨tb, q / 2, none⟩ = some (.int .i64 v)) (v := ?_) rfl rfl (by kernel_rfl) (by kernel_rfl) (by kernel_rfl) (fun _ _ _ h => h) (js := []) (by kernel_rfl) Leads.nil rfl (Or.inl ⟨by rfl, ?_⟩) (⟨tc0, tc1⟩) ?_
          rotate_left
          · (intro wL hSw; (try dsimp only at hSw); go_simp; try with_reducible rfl)
          try simp only [Act.put, List.setIfInBounds_toArray, List.set_cons_zero, List.set_cons_succ]
          refine anyJ_take (some 80) (i := 19) (T := fun _ => True) (v := ?_) rfl rfl (by kernel_rfl) (by kernel_rfl) (by kernel_rfl) (fun _ _ _ h => h) (js := []) (by kernel_rfl) Leads.true rfl (Or.inl ⟨by rfl, ?_⟩) trivial ?_
          rotate_left
          · (intro wL hSw; (try dsimp only at hSw); go_simp; try with_reducible rfl)
          try simp only [Act.put, List.setIfInBounds_toArray, List.set_cons_zero, List.set_cons_succ]
          refine anyJ_take (some 81) (i := 20) (T := fun _ => True) (v := ?_) rfl rfl (by kernel_rfl) (by kernel_rfl) (by kernel_rfl) (fun _ _ _ h => h) (js := []) (by kernel_rfl) Leads.true rfl (Or.inl ⟨by rfl, ?_⟩) trivial ?_
          rotate_left
          · (intro wL hSw; (try dsimp only at hSw); go_simp; try with_reducible rfl)
          try simp only [Act.put, List.setIfInBounds_toArray, List.set_cons_zero, List.set_cons_succ]
          refine anyJ_take (some 82) (i := 21) (T := fun W => W.cell? ⟨xb, 0, none⟩ = some (.int .i64 p) ∧ W.cell? ⟨xb, 1, none⟩ = some (.int .i64 q)) (v := ?_) rfl rfl (by kernel_rfl) (by kernel_rfl) (by kernel_rfl) (fun _ _ _ h => h) (js := []) (by kernel_rfl) Leads.nil rfl (Or.inl ⟨by rfl, ?_⟩) (⟨xc0, xc1⟩) ?_
          rotate_left
          · (intro wL hSw; (try dsimp only at hSw); go_simp; try with_reducible rfl)
          try simp only [Act.put, List.setIfInBounds_toArray, List.set_cons_zero, List.set_cons_succ]
          refine anyJ_take (some 83) (i := 22) (T := fun _ => True) (v := ?_) rfl rfl (by kernel_rfl) (by kernel_rfl) (by kernel_rfl) (fun _ _ _ h => h) (js := []) (by kernel_rfl) Leads.true rfl (Or.inl ⟨by rfl, ?_⟩) trivial ?_
          rotate_left
          · (intro wL hSw; (try dsimp only at hSw); go_simp; try with_reducible rfl)
          try simp only [Act.put, List.setIfInBounds_toArray, List.set_cons_zero, List.set_cons_succ]
          refine anyJ_take (some 84) (i := 23) (T := fun _ => True) (v := ?_) rfl rfl (by kernel_rfl) (by kernel_rfl) (by kernel_rfl) (fun _ _ _ h => h) (js := []) (by kernel_rfl) Leads.true rfl (Or.inl ⟨by rfl, ?_⟩) trivial ?_
          rotate_left
          · (intro wL hSw; (try dsimp only at hSw); go_simp; try with_reducible rfl)
          try simp only [Act.put, List.setIfInBounds_toArray, List.set_cons_zero, List.set_cons_succ]
          refine anyJ_take (some 85) (i := 24) (T := fun _ => True) (v := ?_) rfl rfl (by kernel_rfl) (by kernel_rfl) (by kernel_rfl) (fun _ _ _ h => h) (js := []) (by kernel_rfl) Leads.true rfl (Or.inl ⟨by rfl, ?_⟩) trivial ?_
          rotate_left
          · (intro wL hSw; (try dsimp only at hSw); go_simp; try with_reducible rfl)
          try simp only [Act.put, List.setIfInBounds_toArray, List.set_cons_zero, List.set_cons_succ]
          refine anyJ_one (i := 25) (oi := { dst := some 86, op := Go.Op.buildSlice 22 1 #[(0, Go.Operand.tmp 85)], type := 22, pos := "ref.go:217", after := #[{ on := 24, ground := Go.Ground.data }], guard := none }) rfl (by kernel_rfl) (by rfl) (fun K hK => ?_)
          go_simp
          refine hK.out _ _ (by dsimp only [Obl]; go_simp) ?_
          clear hK K
          try simp only [Act.put, List.setIfInBounds_toArray, List.set_cons_zero, List.set_cons_succ]
          refine anyJ_one (i := 26) (oi := { dst := some 87, op := Go.Op.call { callee := Go.Callee.builtin Go.Builtin.append, args := #[Go.Operand.tmp 62, Go.Operand.tmp 86], argTypes := #[22, 22] }, type := 22, pos := "ref.go:217", after := #[{ on := 1, ground := Go.Ground.data }, { on := 25, ground := Go.Ground.data }], guard := none }) rfl (by kernel_rfl) (by rfl) (fun K hK => ?_)
          refine wp_append_row (.tmp 62) (.tmp 86) 22 rfl w1.heap.size 69 ti (.agg #[.int .i64 0, .int .i64 0]) 2 16 Try.underlying22 hi1 hy0 hy1 hy2 rfl (by decide) (.slice A ol c) ol (gcells (coneG fm m G ms k)) rfl HOW5.out (some ⟨wz.heap.size, 0, none⟩) 1 1 [.int .i64 (2 * u + (p : Int) % 2), .int .i64 (2 * v + (q : Int) % 2)] rfl rfl (fun e => by cases e) (Row.two _ _ _ _) (by simp [Value.oneCell']) (by unfold maxLen; omega) (by omega) (by have := HBZ.out.size; simp; omega) ?_
          intro A4 c4 w4 hown4 hgr4 hat4
          refine hK.out _ _ trivial ?_
          clear hK K
          have row4 : w4.heap[ob]? = some (.cells #[.int .i64 m, .slice A ol c] 24 (0, 0)) := (hgr4.block ob (by have := HZ.out.lt; simp; omega) HNO2.out).trans ((HZ.out.below (bthen (below_drew' _) (below_alloc _ _))).row.trans (by rw [HOL.out]))
          have f1 := cell_of_row' row4 1 _ rfl
          have fz1 : w4.frozen? ⟨ob, 1, none⟩ = false := by simp [World.frozen?, row4]
          have HOWN4 := hid hown4; have HGR4 := hid hgr4; have HROW4 := hid row4; clear hown4 hgr4 hat4 row4
          try simp only [Act.put, List.setIfInBounds_toArray, List.set_cons_zero, List.set_cons_succ]
          refine anyJ_take (some 88) (i := 27) (T := fun _ => True) (v := ?_) rfl rfl (by kernel_rfl) (by kernel_rfl) (by kernel_rfl) (fun _ _ _ h => h) (js := [25, 26]) (by kernel_rfl) Leads.true rfl (Or.inl ⟨by rfl, ?_⟩) trivial ?_
          rotate_left
          · (intro wL hSw; (try dsimp only at hSw); go_simp; try with_reducible rfl)
          try simp only [Act.put, List.setIfInBounds_toArray, List.set_cons_zero, List.set_cons_succ]
          refine anyJ_one (i := 28) (oi := { dst := none, op := Go.Op.store 22 (Go.Operand.tmp 88) (Go.Operand.tmp 87), type := 0, pos := "ref.go:217", after := #[{ on := 27, ground := Go.Ground.data }, { on := 26, ground := Go.Ground.data }, { on := 26, ground := Go.Ground.chain }, { on := 0, ground := Go.Ground.phase }, { on := 1, ground := Go.Ground.phase }, { on := 2, ground := Go.Ground.phase }, { on := 3, ground := Go.Ground.phase }, { on := 4, ground := Go.Ground.phase }, { on := 5, ground := Go.Ground.phase }, { on := 6, ground := Go.Ground.phase }, { on := 7, ground := Go.Ground.phase }, { on := 8, ground := Go.Ground.phase }, { on := 9, ground := Go.Ground.phase }, { on := 10, ground := Go.Ground.phase }, { on := 11, ground := Go.Ground.phase }, { on := 12, ground := Go.Ground.phase }, { on := 13, ground := Go.Ground.phase }, { on := 14, ground := Go.Ground.phase }, { on := 15, ground := Go.Ground.phase }, { on := 16, ground := Go.Ground.phase }, { on := 17, ground := Go.Ground.phase }, { on := 18, ground := Go.Ground.phase }, { on := 19, ground := Go.Ground.phase }, { on := 20, ground := Go.Ground.phase }, { on := 21, ground := Go.Ground.phase }, { on := 22, ground := Go.Ground.phase }, { on := 23, ground := Go.Ground.phase }, { on := 24, ground := Go.Ground.phase }, { on := 25, ground := Go.Ground.phase }, { on := 26, ground := Go.Ground.phase }], guard := none }) rfl (by kernel_rfl) (by rfl) (fun K hK => ?_)
          go_simp
          refine hK.out _ _ trivial ?_
          clear hK K
          try simp only [Act.put, List.setIfInBounds_toArray, List.set_cons_zero, List.set_cons_succ]
          refine anyJ_done (by kernel_rfl) ?_
          go_wp2_with fail
          have hol := HOL.out
          subst hol
          have hmvg : mvG fm (G.getD (k - 1 - m) (0, 0)) = (2 * u + (p : Int) % 2, 2 * v + (q : Int) % 2) := by
            unfold mvG
            rw [← HJ.out, ← HX.out, ← HY.out, mvL_nat, mvL_nat, ← HU.out, ← HV.out]
          have hzq := HZ.out.below (bthen (below_drew' _) (below_alloc wz.drew (.cells #[.int .i64 (2 * u + (p : Int) % 2), .int .i64 (2 * v + (q : Int) % 2)] 69)))
          have hbq := bthen HBZ.out (bthen (below_drew' _) (below_alloc wz.drew (.cells #[.int .i64 (2 * u + (p : Int) % 2), .int .i64 (2 * v + (q : Int) % 2)] 69)))
          refine ⟨⟨k + 1, A4, c4, _, c6, by omega, by go_num, rfl, (hbq.grown HGR4.out hbq.size (fun j hj => (hzq.own.lt j hj).1)).setCell (p := ⟨ob, 1, none⟩) hzo _, ?_⟩, by simp [intOf]; omega⟩
          have hpush := hzq.push HOWN4.out HGR4.out
          rw [HCS.out, hmvg]
          exact hpush
    · obtain rfl : k = N := by omega
      obtain ⟨tb, rfl, htb, _⟩ := HS5.out.form (by rw [tos_length]; have := HN.out; omega)
      have hbr := HB5.out
      have hst := HS5.out
      have o0 : w5.cell? ⟨ob, 0, none⟩ = some (.int .i64 m) := cell_of_row' hst.row 0 _ rfl
      have o1 : w5.cell? ⟨ob, 1, none⟩ = some (.slice A ol c) := by rw [HOL.out]; exact cell_of_row' hst.row 1 _ rfl
      have g0 := below_cell hbr d0
      have g1 := below_cell hbr d1
      have h0 := (hbr.frozen (p := ⟨w.heap.size + 1, 0, none⟩) zw2).trans f0
      have h1 := (hbr.frozen (p := ⟨w.heap.size + 1, 1, none⟩) zw2).trans f1
      have zo : w.heap.size + 1 < ob := by omega
      have zt : w.heap.size + 1 < tb := by omega
      have zE := hst.lt
      clear hst hbr hlt
      go_wp2_with fail
      go_loopw [12, 13] (fun o i wr => ∃ j : Nat, ∃ Al cl, j ≤ L.length ∧ i = .int .i64 j ∧ o = .slice Al j cl ∧ Below w5.heap.size w5 wr ∧ wr.ownsRow w5.heap.size 3 1 (.slice Al j cl) j (ints ((L.take j).map (mvL fm))))
        (fun _ i _ => L.length - (intOf i).toNat)
      case atStart => exact ⟨0, _, 0, by omega, rfl, rfl, below_alloc _ _, World.ownsRow_lit (base := w5.heap.size) (e := 3) (size := 1) w5 #[] 0 (Nat.le_refl _) (by unfold maxLen; omega) rfl⟩
      case round =>
        obtain ⟨j, Al, cl, hj, rfl, rfl, hbj, hown⟩ := hrel
        have HBJ := hid hbj; have HOWN := hid hown
        have o0' := below_cell hbj o0
        have o1' := below_cell hbj o1
        by_cases hlt : j < L.length
        · obtain ⟨sb, so, rfl, hx⟩ := hL.int j hlt
          have hxr := HK.out.2 (L.getD j 0) (by rw [List.getD_eq_getElem?_getD, List.getElem?_eq_getElem hlt]; exact List.getElem_mem hlt)
          rw [litN_plain hlo hsz] at hxr
          obtain ⟨x, hx0⟩ : ∃ x, x = L.getD j 0 := ⟨_, rfl⟩
          rw [← hx0] at hx hxr
          obtain ⟨hx1, hx3⟩ := hxr
          obtain ⟨p, rfl⟩ := Int.eq_ofNat_of_zero_le hx1
          have hp : p / 2 < k := by omega
          have hx2 := below_cell (bthen (bthen HB.out HB5.out) hbj) hx
          have tc := (HS5.out.below hbj).cell (p / 2) (by rw [tos_length]; exact hp)
          rw [tos_getD _ _ _ hp] at tc
          have hu := mv_bd (fun k => (k : Int)) m ms (p / 2) (Int.natCast_nonneg _) (Int.le_refl _)
          rw [← HFM.out] at hu
          obtain ⟨u, hu'⟩ : ∃ u, u = fm (p / 2) := ⟨_, rfl⟩
          rw [← hu'] at tc hu
          obtain ⟨u0, u1⟩ := hu
          have HU := hid hu'; have HX := hid hx0
          have i1 : (p : Int) / 2 < (k : Int) := by omega
          have i2 : 0 ≤ (p : Int) / 2 := by omega
          have i4 : ((p : Int) / 2).toNat = p / 2 := by omega
          have i5 : (0 : Int) ≤ (j : Int) := by omega
          have i6 : (j : Int) < (L.length : Int) := by omega
          have i3 : IntKind.i64.wrap ((p : Int) / 2) = (p : Int) / 2 := IntWalk.i64_in _ (by omega)
          have n1 : IntKind.i64.wrap (2 * u) = 2 * u := IntWalk.i64_in _ (by omega)
          have n2 : (p : Int).tmod 2 = (p : Int) % 2 := Int.tmod_eq_emod_of_nonneg (by omega)
          have n3 : IntKind.i64.wrap (2 * u + (p : Int) % 2) = 2 * u + (p : Int) % 2 := IntWalk.i64_in _ (by omega)
          clear hu' hx0 hx hbj hown
          go_wp2_with fail
          refine wp_region_J (fun j => match j with | 16 => some (fun _ => True) | 17 => some (fun _ => True) | _ => none) (by kernel_rfl) ?_
          refine anyJ_take (some 96) (i := 0) (T := fun _ => True) (v := ?_) rfl rfl (by kernel_rfl) (by kernel_rfl) (by kernel_rfl) (fun _ _ _ h => h) (js := [16]) (by kernel_rfl) Leads.true rfl (Or.inl ⟨by rfl, ?_⟩) trivial ?_
          rotate_left
          · (intro wL hSw; (try dsimp only at hSw); go_simp; try with_reducible rfl)
          try simp only [Act.put, List.setIfInBounds_toArray, List.set_cons_zero, List.set_cons_succ]
          refine anyJ_take (some 97) (i := 1) (T := fun _ => True) (v := ?_) rfl rfl (by kernel_rfl) (by kernel_rfl) (by kernel_rfl) (fun _ _ _ h => h) (js := []) (by kernel_rfl) Leads.true rfl (Or.inl ⟨by rfl, ?_⟩) trivial ?_
          rotate_left
          · (intro wL hSw; (try dsimp only at hSw); go_simp; try with_reducible rfl)
          try simp only [Act.put, List.setIfInBounds_toArray, List.set_cons_zero, List.set_cons_succ]
          refine anyJ_take (some 98) (i := 2) (T := fun _ => True) (v := ?_) rfl rfl (by kernel_rfl) (by kernel_rfl) (by kernel_rfl) (fun _ _ _ h => h) (js := []) (by kernel_rfl) Leads.true rfl (Or.inl ⟨by rfl, ?_⟩) trivial ?_
          rotate_left
          · (intro wL hSw; (try dsimp only at hSw); go_simp; try with_reducible rfl)
          try simp only [Act.put, List.setIfInBounds_toArray, List.set_cons_zero, List.set_cons_succ]
          refine anyJ_take (some 99) (i := 3) (T := fun _ => True) (v := ?_) rfl rfl (by kernel_rfl) (by kernel_rfl) (by kernel_rfl) (fun _ _ _ h => h) (js := []) (by kernel_rfl) Leads.true rfl (Or.inl ⟨by rfl, ?_⟩) trivial ?_
          rotate_left
          · (intro wL hSw; (try dsimp only at hSw); go_simp; try with_reducible rfl)
          try simp only [Act.put, List.setIfInBounds_toArray, List.set_cons_zero, List.set_cons_succ]
          refine anyJ_take (some 100) (i := 4) (T := fun _ => True) (v := ?_) rfl rfl (by kernel_rfl) (by kernel_rfl) (by kernel_rfl) (fun _ _ _ h => h) (js := []) (by kernel_rfl) Leads.true rfl (Or.inl ⟨by rfl, ?_⟩) trivial ?_
          rotate_left
          · (intro wL hSw; (try dsimp only at hSw); go_simp; try with_reducible rfl)
          try simp only [Act.put, List.setIfInBounds_toArray, List.set_cons_zero, List.set_cons_succ]
          refine anyJ_take (some 101) (i := 5) (T := fun W => W.cell? ⟨sb, so + j, none⟩ = some (.int .i64 p)) (v := ?_) rfl rfl (by kernel_rfl) (by kernel_rfl) (by kernel_rfl) (fun _ _ _ h => h) (js := []) (by kernel_rfl) Leads.nil rfl (Or.inl ⟨by rfl, ?_⟩) (hx2) ?_
          rotate_left
          · (intro wL hSw; (try dsimp only at hSw); go_simp; try with_reducible rfl)
          try simp only [Act.put, List.setIfInBounds_toArray, List.set_cons_zero, List.set_cons_succ]
          refine anyJ_take (some 102) (i := 6) (T := fun _ => True) (v := ?_) rfl rfl (by kernel_rfl) (by kernel_rfl) (by kernel_rfl) (fun _ _ _ h => h) (js := []) (by kernel_rfl) Leads.true rfl (Or.inl ⟨by rfl, ?_⟩) trivial ?_
          rotate_left
          · (intro wL hSw; (try dsimp only at hSw); go_simp; try with_reducible rfl)
          try simp only [Act.put, List.setIfInBounds_toArray, List.set_cons_zero, List.set_cons_succ]
          refine anyJ_take (some 103) (i := 7) (T := fun _ => True) (v := ?_) rfl rfl (by kernel_rfl) (by kernel_rfl) (by kernel_rfl) (fun _ _ _ h => h) (js := []) (by kernel_rfl) Leads.true rfl (Or.inl ⟨by rfl, ?_⟩) trivial ?_
          rotate_left
          · (intro wL hSw; (try dsimp only at hSw); go_simp; try with_reducible rfl)
          try simp only [Act.put, List.setIfInBounds_toArray, List.set_cons_zero, List.set_cons_succ]
          refine anyJ_take (some 104) (i := 8) (T := fun W => W.cell? ⟨tb, p / 2, none⟩ = some (.int .i64 u)) (v := ?_) rfl rfl (by kernel_rfl) (by kernel_rfl) (by kernel_rfl) (fun _ _ _ h => h) (js := []) (by kernel_rfl) Leads.nil rfl (Or.inl ⟨by rfl, ?_⟩) (tc) ?_
          rotate_left
          · (intro wL hSw; (try dsimp only at hSw); go_simp; try with_reducible rfl)
          try simp only [Act.put, List.setIfInBounds_toArray, List.set_cons_zero, List.set_cons_succ]
          refine anyJ_take (some 105) (i := 9) (T := fun _ => True) (v := ?_) rfl rfl (by kernel_rfl) (by kernel_rfl) (by kernel_rfl) (fun _ _ _ h => h) (js := []) (by kernel_rfl) Leads.true rfl (Or.inl ⟨by rfl, ?_⟩) trivial ?_
          rotate_left
          · (intro wL hSw; (try dsimp only at hSw); go_simp; try with_reducible rfl)
          try simp only [Act.put, List.setIfInBounds_toArray, List.set_cons_zero, List.set_cons_succ]
          refine anyJ_take (some 106) (i := 10) (T := fun _ => True) (v := ?_) rfl rfl (by kernel_rfl) (by kernel_rfl) (by kernel_rfl) (fun _ _ _ h => h) (js := []) (by kernel_rfl) Leads.true rfl (Or.inl ⟨by rfl, ?_⟩) trivial ?_
          rotate_left
          · (intro wL hSw; (try dsimp only at hSw); go_simp; try with_reducible rfl)
          try simp only [Act.put, List.setIfInBounds_toArray, List.set_cons_zero, List.set_cons_succ]
          refine anyJ_take (some 107) (i := 11) (T := fun _ => True) (v := ?_) rfl rfl (by kernel_rfl) (by kernel_rfl) (by kernel_rfl) (fun _ _ _ h => h) (js := []) (by kernel_rfl) Leads.true rfl (Or.inl ⟨by rfl, ?_⟩) trivial ?_
          rotate_left
          · (intro wL hSw; (try dsimp only at hSw); go_simp; try with_reducible rfl)
          try simp only [Act.put, List.setIfInBounds_toArray, List.set_cons_zero, List.set_cons_succ]
          refine anyJ_take (some 108) (i := 12) (T := fun _ => True) (v := ?_) rfl rfl (by kernel_rfl) (by kernel_rfl) (by kernel_rfl) (fun _ _ _ h => h) (js := []) (by kernel_rfl) Leads.true rfl (Or.inl ⟨by rfl, ?_⟩) trivial ?_
          rotate_left
          · (intro wL hSw; (try dsimp only at hSw); go_simp; try with_reducible rfl)
          try simp only [Act.put, List.setIfInBounds_toArray, List.set_cons_zero, List.set_cons_succ]
          refine anyJ_take (some 109) (i := 13) (T := fun W => W.cell? ⟨sb, so + j, none⟩ = some (.int .i64 p)) (v := ?_) rfl rfl (by kernel_rfl) (by kernel_rfl) (by kernel_rfl) (fun _ _ _ h => h) (js := []) (by kernel_rfl) Leads.nil rfl (Or.inl ⟨by rfl, ?_⟩) (hx2) ?_
          rotate_left
          · (intro wL hSw; (try dsimp only at hSw); go_simp; try with_reducible rfl)
          try simp only [Act.put, List.setIfInBounds_toArray, List.set_cons_zero, List.set_cons_succ]
          refine anyJ_take (some 110) (i := 14) (T := fun _ => True) (v := ?_) rfl rfl (by kernel_rfl) (by kernel_rfl) (by kernel_rfl) (fun _ _ _ h => h) (js := []) (by kernel_rfl) Leads.true rfl (Or.inl ⟨by rfl, ?_⟩) trivial ?_
          rotate_left
          · (intro wL hSw; (try dsimp only at hSw); go_simp; try with_reducible rfl)
          try simp only [Act.put, List.setIfInBounds_toArray, List.set_cons_zero, List.set_cons_succ]
          refine anyJ_take (some 111) (i := 15) (T := fun _ => True) (v := ?_) rfl rfl (by kernel_rfl) (by kernel_rfl) (by kernel_rfl) (fun _ _ _ h => h) (js := []) (by kernel_rfl) Leads.true rfl (Or.inl ⟨by rfl, ?_⟩) trivial ?_
          rotate_left
          · (intro wL hSw; (try dsimp only at hSw); go_simp; try with_reducible rfl)
          try simp only [Act.put, List.setIfInBounds_toArray, List.set_cons_zero, List.set_cons_succ]
          refine anyJ_one (i := 16) (oi := { dst := some 112, op := Go.Op.buildSlice 26 1 #[(0, Go.Operand.tmp 111)], type := 26, pos := "ref.go:221", after := #[{ on := 15, ground := Go.Ground.data }], guard := none }) rfl (by kernel_rfl) (by rfl) (fun K hK => ?_)
          go_simp
          refine hK.out _ _ trivial ?_
          clear hK K
          try simp only [Act.put, List.setIfInBounds_toArray, List.set_cons_zero, List.set_cons_succ]
          refine anyJ_one (i := 17) (oi := { dst := some 113, op := Go.Op.call { callee := Go.Callee.builtin Go.Builtin.append, args := #[Go.Operand.tmp 96, Go.Operand.tmp 112], argTypes := #[26, 26] }, type := 26, pos := "ref.go:221", after := #[{ on := 0, ground := Go.Ground.data }, { on := 16, ground := Go.Ground.data }], guard := none }) rfl (by kernel_rfl) (by rfl) (fun K hK => ?_)
          refine wp_append_row (.tmp 96) (.tmp 112) 26 rfl w5.heap.size 3 i0 (.int .i64 0) 1 8 Try.underlying26 hi hz0 hz1 hz2 rfl (by decide) (.slice Al j cl) j (ints ((L.take j).map (mvL fm))) rfl (World.ownsRow.alloc (own_below HOWN.out (below_drew' _)) _) (some ⟨wr.heap.size, 0, none⟩) 1 1 [.int .i64 (2 * u + (p : Int) % 2)] rfl rfl (fun e => by cases e) (Row.one _ _ _) (ints_one [_]) (by unfold maxLen; omega) (by omega) (by have := HBJ.out.size; simp; omega) ?_
          intro A4 c4 w4 hown4 hgr4 hat4
          refine hK.out _ _ trivial ?_
          clear hK K
          have HOWN4 := hid hown4; have HGR4 := hid hgr4; clear hown4 hgr4 hat4
          try simp only [Act.put, List.setIfInBounds_toArray, List.set_cons_zero, List.set_cons_succ]
          refine anyJ_take (some 12) (i := 18) (T := fun _ => True) (v := ?_) rfl rfl (by kernel_rfl) (by kernel_rfl) (by kernel_rfl) (fun _ _ _ h => h) (js := [16, 17]) (by kernel_rfl) Leads.true rfl (Or.inl ⟨by rfl, ?_⟩) trivial ?_
          rotate_left
          · (intro wL hSw; (try dsimp only at hSw); go_simp; try with_reducible rfl)
          try simp only [Act.put, List.setIfInBounds_toArray, List.set_cons_zero, List.set_cons_succ]
          refine anyJ_done (by kernel_rfl) ?_
          go_wp2_with fail
          have hb4 : Below w5.heap.size w5 w4 := (bthen HBJ.out (bthen (below_drew' wr) (below_alloc wr.drew _))).grown HGR4.out (by have := HBJ.out.size; simp; omega) (fun j hj => (HOWN.out.lt j hj).1)
          refine ⟨⟨j + 1, A4, c4, by omega, by go_num, rfl, hb4, ?_⟩, by simp [intOf]; omega⟩
          rw [take_snoc L 0 j hlt, ← HX.out, List.map_append]
          simpa [ints, mvL_nat, ← HU.out] using HOWN4.out
        · obtain rfl : j = L.length := by omega
          have g0' := below_cell hbj g0
          have g1' := below_cell hbj g1
          have h0' := (hbj.frozen (p := ⟨w.heap.size + 1, 0, none⟩) (by show w.heap.size + 1 < _; omega)).trans h0
          have h1' := (hbj.frozen (p := ⟨w.heap.size + 1, 1, none⟩) (by show w.heap.size + 1 < _; omega)).trans h1
          have hc := HS5.out.below hbj
          have hH : (L.take L.length).map (mvL fm) = L.map (mvL fm) := by rw [List.take_length]
          rw [hH] at hown
          have HHO := hid hown; have HHC := hid hc
          clear hbj hown hc hH
          go_wp2_with fail
          refine bodyPost_ret (v := .tuple #[.agg #[.int .i64 m, .slice A ol c], .slice Al L.length cl, .int .i64 0]) (by simp [results, Try.results30, go_sem, *]) rfl ?_
          have hol := HOL.out
          subst hol
          refine ⟨A, c, Al, cl, by rw [List.length_map], Row.of_own (own_setLow (own_setLow HHC.out.own (by omega)) (by omega)), ?_, ?_⟩
          · have := Row.of_own (own_setLow (own_setLow HHO.out (b := w.heap.size + 1) (j := 0) (u := .int .i64 m) (by omega)) (b := w.heap.size + 1) (j := 1) (u := .slice A (coneG fm m G ms k).length c) (by omega))
            exact this
          · exact ((bthen (bthen HB.out HB5.out) HBJ.out).setCell (p := ⟨w.heap.size + 1, 0, none⟩) (by simp) _).setCell (p := ⟨w.heap.size + 1, 1, none⟩) (by simp) _
end Go.Proofs.Ytelbjendeldlcaa
