/- ref Reach: the points that can be reached. -/
import Derived.Test.YtjddegfigdpcbaaAJ
import Derived.Test.YtjddegfigdpcbaaL
namespace Go.Proofs.Ytjddegfigdpcbaa
open Go.RowKit

theorem DInv.popF {G : List (List Int)} {wo : Int} {L : List Int} {ms : List Bool} {st F : List Int} {x : Int} (h : DInv G wo L ms (x :: st) F (-1)) : DInv G wo L ms st F x ∧ 0 ≤ x ∧ x < (G.length : Int) ∧ Rch G wo L x.toNat := by
  have hx := h.stk x (by simp)
  refine ⟨⟨h.len, h.sound, fun y hy => h.stk y (List.mem_cons_of_mem _ hy), fun i hi hm => ?_, h.fr⟩, hx.1, hx.2.1, h.sound _ (by omega) hx.2.2⟩
  rcases h.clo i hi hm with h2 | h2 | h2
  · rcases List.mem_cons.1 h2 with h2 | h2
    · exact .inr (.inl h2)
    · exact .inl h2
  · omega
  · exact .inr (.inr h2)
theorem mu_popF (ms : List Bool) (st : List Int) (x : Int) : mu ms st + 1 = mu ms (x :: st) := by unfold mu; simp; omega
theorem reachB_barred {G : List (List Int)} (hG : GrOk G) (x : Int) : reachB G x [x] = List.replicate G.length false := by
  refine getD_ext false (by rw [reachB_length]; simp) fun j hj => ?_
  rw [reachB_length] at hj
  have hn : ∀ j, ¬ Rch G x [x] j := fun j h => by
    induction h with
    | start h1 h2 => exact h2 (List.mem_singleton.1 h1)
    | step _ _ _ _ ih => exact ih
  have : (List.replicate G.length false).getD j false = false := by
    rw [List.getD_eq_getElem?_getD, List.getElem?_replicate]; split <;> rfl
  rw [this]
  cases hc : (reachB G x [x]).getD j false with
  | false => rfl
  | true => exact absurd ((reachB_iff hG x [x] j hj).1 hc) (hn j)
theorem MarksAt.drewNL {w : World} {b q : Nat} {ms : List Bool} (h : MarksAt w b ms) : MarksAt (w.drewN q) b ms := h
set_option maxHeartbeats 4000000 in
set_option maxRecDepth 100000 in
theorem rreach17_any (pa : Option Addr) (pc : Nat) (F : List (List Int)) (frm : Nat) (wo : Int) (w : World) (hF : FRow w pa F) (hG : GrOk F) (hl : F.length ≤ 1024) (hsm : ∀ i, i < F.length → (F.getD i []).length ≤ 1000000) (hfr : frm < F.length) :
    Calls Try.prog 59 #[.agg #[.slice pa F.length pc], .int .i64 frm, .int .i64 wo] w (GivesMarks w (reachB F wo [(frm : Int)])) := by
  obtain ⟨i0, hi, hz0, hz1, hz2⟩ := info_parts info3
  have HF := hid hF; have HG := hid hG; have HSM := hid hsm
  obtain ⟨n, hn⟩ : ∃ n, n = F.length := ⟨_, rfl⟩
  have hmk := run_marks n (by omega)
  have HN := hid hn
  rw [← hn] at hl hfr ⊢
  clear hF hG hsm hn
  obtain ⟨w2, hw2⟩ : ∃ x, x = (w.alloc (.cells #[.slice pa n pc] 24)).alloc (.cells (bools (List.replicate n false)).toArray 4) := ⟨_, rfl⟩
  have hmk2 : (Instr.makeSlice 59 (.int .i64 n) (.int .i64 n)).run Try.prog (w.alloc (.cells #[.slice pa n pc] 24)) = .ok (.slice (some ⟨w.heap.size + 1, 0, none⟩) n n) w2 := by
    rw [hmk, hw2]; simp
  have hb2 : Below w.heap.size w w2 := by rw [hw2]; exact b2 _ _ _
  have hma : MarksAt w2 (w.heap.size + 1) (List.replicate n false) := by
    rw [hw2, show w.heap.size + 1 = (w.alloc (.cells #[.slice pa n pc] 24)).heap.size from by simp]
    exact BlkAt.made _ _ _
  have hc0 : w2.cell? ⟨w.heap.size, 0, none⟩ = some (.slice pa n pc) := by rw [hw2]; go_simp
  have hz2 : w2.heap.size = w.heap.size + 2 := by rw [hw2]; simp
  clear hmk hw2
  obtain ⟨rb, hrb⟩ : ∃ rb, rb = w.heap.size + 1 := ⟨_, rfl⟩
  rw [← hrb] at hmk2 hma
  have HRB := hid hrb
  have hrb1 : w.heap.size < rb := by omega
  have hrb2 : rb < w2.heap.size := by omega
  clear hrb
  by_cases hfw : (frm : Int) = wo
  · subst hfw
    have HMA := hid hma; have HB2 := hid hb2
    clear hma hb2
    go_enter Try.func59, Try.ntmps59
    go_wp2_with fail
    go_ret
    rw [HN.out] at HMA
    have e := reachB_barred HG.out (frm : Int)
    rw [← HN.out] at e HMA
    rw [e]
    exact ⟨rb, by simp, HMA.out, by omega, HB2.out⟩
  · have cf : w2.cell? ⟨rb, frm, none⟩ = some (.bool ((List.replicate n false).getD frm false)) := hma.cell frm (by simpa using hfr)
    have ff : w2.frozen? ⟨rb, frm, none⟩ = false := hma.fz frm
    have HMA := hid hma; have HB2 := hid hb2
    have j1 : (frm : Int) < (n : Int) := by omega
    clear hma hb2
    go_enter Try.func59, Try.ntmps59
    go_wp2_with fail
    have hma2 : MarksAt (w2.setCell ⟨rb, frm, none⟩ (.bool true)) rb ((List.replicate n false).set frm true) := HMA.out.set frm true
    have hb3 : Below w.heap.size w ((w2.setCell ⟨rb, frm, none⟩ (.bool true)).alloc (.cells #[.int .i64 frm] 3)) := (HB2.out.setCell (p := ⟨rb, frm, none⟩) (Nat.le_of_lt hrb1) _).alloc (by simp; omega) _
    have hma3 := hma2.below (below_alloc _ (.cells #[.int .i64 frm] 3))
    have hc3 : ((w2.setCell ⟨rb, frm, none⟩ (.bool true)).alloc (.cells #[.int .i64 frm] 3)).cell? ⟨w.heap.size, 0, none⟩ = some (.slice pa n pc) := by go_simp
    have hoq := OwnQ.single (w2.setCell ⟨rb, frm, none⟩ (.bool true)) (w.heap.size + 2) 3 (.int .i64 frm) (by simp; omega)
    have hz3 : ((w2.setCell ⟨rb, frm, none⟩ (.bool true)).alloc (.cells #[.int .i64 frm] 3)).heap.size = w.heap.size + 3 := by simp [hz2]
    rw [show (w2.setCell ⟨rb, frm, none⟩ (.bool true)).heap.size = w2.heap.size from by simp] at hoq
    have hd0 : DInv F wo [(frm : Int)] ((List.replicate n false).set frm true) [(frm : Int)] [(frm : Int)] (-1) := by
      have := (DInv.init (G := F) (wo := wo) (L := [(frm : Int)])).visit (frm : Int) (by omega) (by rw [← HN.out]; exact j1) (fun h => .start (by simp) h)
      unfold visitF at this
      have hfl : (List.replicate F.length false).getD frm false = false := by
        rw [List.getD_eq_getElem?_getD, List.getElem?_replicate]; split <;> rfl
      rw [if_pos ⟨hfw, by rw [Int.toNat_natCast]; exact hfl⟩, Int.toNat_natCast, ← HN.out] at this
      exact this
    have hm0 : mu ((List.replicate n false).set frm true) [(frm : Int)] ≤ 2 * n := by
      have := mu_visit wo (List.replicate n false) [] (frm : Int) (by rw [Int.toNat_natCast]; simpa using hfr)
      have e : mu (List.replicate n false) [] ≤ 2 * n := by unfold mu; simp
      unfold visitF at this
      have hfl : (List.replicate n false).getD frm false = false := by
        rw [List.getD_eq_getElem?_getD, List.getElem?_replicate]; split <;> rfl
      rw [if_pos ⟨hfw, by rw [Int.toNat_natCast]; exact hfl⟩, Int.toNat_natCast] at this
      exact Nat.le_trans this e
    obtain ⟨w3, hw3⟩ : ∃ x, x = (w2.setCell ⟨rb, frm, none⟩ (.bool true)).alloc (.cells #[.int .i64 frm] 3) := ⟨_, rfl⟩
    rw [← hw3] at hb3 hma3 hc3 hoq hz3 ⊢
    obtain ⟨ms0, hms0⟩ : ∃ x, x = (List.replicate n false).set frm true := ⟨_, rfl⟩
    rw [← hms0] at hma3 hd0 hm0
    rw [hz2] at hoq
    obtain ⟨B, hB⟩ : ∃ x, x = w.heap.size + 2 := ⟨_, rfl⟩
    rw [← hB] at hoq ⊢
    have k1 : w.heap.size + 1 ≤ rb := by omega
    have k2 : w.heap.size + 1 ≤ B := by omega
    have k3 : B ≤ w3.heap.size := by omega
    have HW := hid hb3; have HM3 := hid hma3; have HQ3 := hid hoq; have HD3 := hid hd0; have HU3 := hid hm0
    clear hb3 hma2 hma3 hoq hd0 hm0 hw3 hms0 hB hz3 hz2 cf ff hc0 hrb2 hmk2 HMA HB2
    go_loopg [8] (2 * n) (fun gk tv wr => ∃ ms st g off c sl, tv = .slice (some ⟨g, off, none⟩) sl c ∧ OwnQ wr B 3 (.slice (some ⟨g, off, none⟩) sl c) sl (ints st) ∧ MarksAt wr rb ms ∧ DInv F wo [(frm : Int)] ms st [(frm : Int)] (-1) ∧ mu ms st ≤ gk ∧ gk ≤ 2 * n ∧ Below (w.heap.size + 1) w3 wr)
    case atStart => exact ⟨ms0, [(frm : Int)], B, 0, 1, 1, rfl, HQ3.out, HM3.out, HD3.out, HU3.out, Nat.le_refl _, Below.refl _ _⟩
    case round =>
      clear HM3 HQ3 HD3 HU3
      obtain ⟨ms, st, g, off, c, sl, rfl, hq, hma, hd, hmu, hgk, hbr⟩ := hrel
      have e0 := (hbr.cell (p := ⟨w.heap.size, 0, none⟩) (Nat.lt_succ_self _)).trans hc3
      have hml : ms.length = n := by rw [hd.len, HN.out]
      have hslx : sl = st.length := by have := hq.1; rw [ints_length] at this; exact this.symm
      have hsl : st.length ≤ 2 * n := by unfold mu at hmu; omega
      cases st with
      | nil =>
        obtain rfl : sl = 0 := hslx
        have HMA := hid hma; have HD := hid hd; have HB := hid hbr
        clear hq hma hd hmu hbr
        go_wp2_with fail
        go_ret
        have hfin := HD.out.final HG.out
        rw [← hfin]
        exact ⟨rb, by rw [hml]; rfl, HMA.out, by omega, HW.out.trans (HB.out.mono (Nat.le_succ _))⟩
      | cons x st' =>
        obtain ⟨s1, hs1⟩ : ∃ x, x = st'.length := ⟨_, rfl⟩
        obtain rfl : sl = s1 + 1 := by rw [hslx, hs1]; rfl
        obtain ⟨hd1, hx0, hx1, hxr⟩ := hd.popF
        have hq1 := hq.tail
        have hm1 := mu_popF ms st' x
        obtain ⟨p, rfl⟩ := Int.eq_ofNat_of_zero_le hx0
        have hpn : p < n := by rw [HN.out]; omega
        obtain ⟨qg, qo, hqe, hx⟩ := hq.row.int 0 (by simp)
        cases hqe
        rw [Nat.add_zero] at hx
        have hx : wr.cell? ⟨g, off, none⟩ = some (.int .i64 p) := hx
        obtain ⟨sb, so, a, b, C, c', rfl, h0, h1, h2, h3⟩ := HF.out p (by rw [← HN.out]; exact hpn)
        have hbw : Below w.heap.size w wr := HW.out.trans (hbr.mono (by omega))
        have h2 := below_cell hbw h2
        obtain ⟨N, hN⟩ : ∃ N, N = F.getD p [] := ⟨_, rfl⟩
        have hlk := HSM.out p (by rw [← HN.out]; exact hpn)
        have hnb := HG.out p (by rw [← HN.out]; exact hpn)
        rw [← hN] at h2 h3 hlk hnb
        have hc1 : s1 + 1 ≤ c := by
          obtain ⟨_, _, _, _, _, hv, _, _, hh, _⟩ := hq
          injection hv with _ _ hv; omega
        have j2 : (p : Int) < (n : Int) := by omega
        have j3 : (0 : Int) < ((s1 + 1 : Nat) : Int) := by omega
        have j4 : (1 : Int) ≤ ((s1 + 1 : Nat) : Int) := by omega
        have hq0 : ∃ off2 c2, OwnQ wr B 3 (.slice (some ⟨g, off2, none⟩) s1 c2) s1 (ints st') ∧ ((¬ c = 1 ∧ off2 = off + 1 ∧ c2 = c - 1) ∨ (c = 1 ∧ off2 = off ∧ c2 = 0 ∧ s1 = 0)) := by
          by_cases h1 : c = 1
          · subst h1
            obtain ⟨y1, g', o', cc, cur, y2, y3, y4, y5, y6, y7⟩ := hq1
            cases y2
            have hs0 : s1 = 0 := by omega
            subst hs0
            have hst0 : st' = [] := List.eq_nil_of_length_eq_zero (by simpa using y1)
            subst hst0
            exact ⟨off, 0, ⟨rfl, g, off, 0, cur, rfl, y3, y4, Nat.le_refl _, by omega, fun j u hj => by simp [ints] at hj⟩, .inr ⟨rfl, rfl, rfl, rfl⟩⟩
          · exact ⟨off + 1, c - 1, hq1, .inl ⟨h1, rfl, rfl⟩⟩
        clear hq1
        obtain ⟨off1, c1, hq1, hcase⟩ := hq0
        have HQ1 := hid hq1; have HMA := hid hma; have HD1 := hid hd1; have HM1 := hid (show mu ms st' + 1 ≤ gk by rw [hm1]; exact hmu); have HB := hid hbr; have HNN := hid hN; have HNB := hid hnb; have HR3 := hid h3; have HXR := hid hxr; have HS1 := hid hs1
        clear hq hma hd hmu hbr hslx hd1 hm1 h0 h1 h3 hbw hN hnb hxr hs1 hml
        rcases hcase with ⟨hc2, rfl, rfl⟩ | ⟨rfl, rfl, rfl, rfl⟩ <;>
        (clear hq1
         go_wp2_with fail
         go_big_quiet (fail)
         go_wp2_with fail
         obtain ⟨wo1, hwo1⟩ : ∃ x, x = wr := ⟨_, rfl⟩
         subst hwo1
         go_loopw [10, 8] (fun i tv wi => ∃ j : Nat, ∃ ms2 st2 g2 off2 c2 sl2, j ≤ N.length ∧ i = .int .i64 j ∧ tv = .slice (some ⟨g2, off2, none⟩) sl2 c2 ∧ OwnQ wi B 3 (.slice (some ⟨g2, off2, none⟩) sl2 c2) sl2 (ints st2) ∧ MarksAt wi rb ms2 ∧ DInv F wo [(frm : Int)] ms2 st2 ([(frm : Int)] ++ N.take j) (p : Int) ∧ mu ms2 st2 ≤ mu ms st' ∧ Below (w.heap.size + 1) w3 wi) (fun i _ _ => N.length - (intOf i).toNat)
         case atStart => exact ⟨0, ms, st', _, _, _, _, Nat.zero_le _, rfl, rfl, HQ1.out.below (below_drewN _ _), MarksAt.drewNL HMA.out, by simpa using HD1.out, Nat.le_refl _, HB.out.trans (below_drewNK _ _ _)⟩
         case round =>
           clear HQ1 HMA HB e0 h2 hx
           obtain ⟨j, ms2, st2, g2, off2, c2, sl2, hj, rfl, rfl, hq2, hm2, hd2, hu2, hb2⟩ := hrel
           have hml2 : ms2.length = n := by rw [hd2.len, HN.out]
           have hmu : mu ms st' ≤ 2 * n := by have := HM1.out; omega
           have hsl2 : st2.length ≤ 2 * n := by have := hu2; unfold mu at this hmu; omega
           have hslq : sl2 = st2.length := by have := hq2.1; rw [ints_length] at this; exact this.symm
           have hsl3 : sl2 ≤ 2 * n := by omega
           have HQ2 := hid hq2; have HM2 := hid hm2; have HD2 := hid hd2; have HU2 := hid hu2; have HB2 := hid hb2
           by_cases hjt : j < N.length
           · obtain ⟨tb, tq, rfl, hyw⟩ := HR3.out.int j hjt
             have htb : tb < w.heap.size := lt_of_cell hyw
             have htr : ¬ tb = rb := by omega
             have htr' : ¬ rb = tb := by omega
             have hy := below_cell (HW.out.trans (hb2.mono (Nat.le_succ _))) hyw
             clear hyw
             have hy0 : N.getD j 0 ∈ N := by rw [List.getD_eq_getElem?_getD, List.getElem?_eq_getElem hjt]; exact List.getElem_mem hjt
             have hyb := HNB.out _ hy0
             obtain ⟨y, hye⟩ : ∃ y, y = N.getD j 0 := ⟨_, rfl⟩
             rw [← hye] at hy hyb hy0
             obtain ⟨z, rfl⟩ := Int.eq_ofNat_of_zero_le hyb.1
             have HYE := hid hye
             have hv := hd2.visit (z : Int) hyb.1 hyb.2 (fun h => by
               rw [Int.toNat_natCast]
               exact .step (i := p) HXR.out (by rw [← HN.out]; exact hpn) (by rw [← HNN.out]; exact hy0) h)
             have hzn : z < n := by rw [HN.out]; omega
             have hmv := Nat.le_trans (mu_visit wo ms2 st2 (z : Int) (by rw [Int.toNat_natCast, hml2]; exact hzn)) hu2
             have hvd : DInv F wo [(frm : Int)] (visitF wo (ms2, st2) z).1 (visitF wo (ms2, st2) z).2 ([(frm : Int)] ++ N.take (j + 1)) (p : Int) := by
               rw [take_snoc N 0 j hjt, ← HYE.out, ← List.append_assoc]; exact hv
             have j5 : (z : Int) < (n : Int) := by omega
             have hmz := hm2.cell z (by rw [hml2]; exact hzn)
             have hfz := BlkAt.fz hm2 z
             have hrl := BlkAt.lt hm2
             have hne := hq2.ne_blk hm2 (by decide)
             have hm5 := (hm2.set z true).below (below_alloc _ (.cells #[.int .i64 z] 3))
             have hq5 := (hq2.setCell (j := z) (u := .bool true) hne).below (below_alloc _ (.cells #[.int .i64 z] 3))
             have hbz := hb2.size
             have HVD := hid hvd; have HMV := hid hmv; have HNE := hid hne; have HM5 := hid hm5; have HQ5 := hid hq5
             clear hye hy0 hyb hv hvd hmv hm2 hd2 hu2 hq2 hb2 hne hm5 hq5 hmu hslq
             by_cases qz : (z : Int) = wo
             · have q1 : ((z : Int) != wo) = false := by simp [qz]
               have hvis : visitF wo (ms2, st2) z = (ms2, st2) := by unfold visitF; rw [if_neg (fun hc => hc.1 qz)]
               rw [hvis] at HVD HMV
               clear qz hvis
               go_wp2_with fail
               exact ⟨⟨j + 1, ms2, st2, g2, off2, c2, sl2, by omega, by go_num, rfl, HQ2.out, HM2.out, HVD.out, HMV.out, HB2.out⟩, by simp [intOf]; omega⟩
             · have q1 : ((z : Int) != wo) = true := by simp [qz]
               obtain ⟨bz, hbz2⟩ : ∃ b, b = ms2.getD z false := ⟨_, rfl⟩
               rw [← hbz2] at hmz
               cases bz with
               | true =>
                 have hvis : visitF wo (ms2, st2) z = (ms2, st2) := by unfold visitF; rw [if_neg (fun hc => by have := hc.2; rw [Int.toNat_natCast, ← hbz2] at this; cases this)]
                 rw [hvis] at HVD HMV
                 clear qz hvis hbz2
                 go_wp2_with fail
                 exact ⟨⟨j + 1, ms2, st2, g2, off2, c2, sl2, by omega, by go_num, rfl, HQ2.out, HM2.out, HVD.out, HMV.out, HB2.out⟩, by simp [intOf]; omega⟩
               | false =>
                 have hvis : visitF wo (ms2, st2) z = (ms2.set z true, st2 ++ [(z : Int)]) := by unfold visitF; rw [if_pos ⟨qz, by rw [Int.toNat_natCast]; exact hbz2.symm⟩]; rw [Int.toNat_natCast]
                 rw [hvis] at HVD HMV
                 clear qz hvis hbz2
                 go_wp2_with (at_builtin; refine wpList_append_q rfl (.tmp 65) (.tmp 70) 29 rfl B 3 i0 (.int .i64 0) 8 Try.underlying29 hi hz0 hz1 hz2 rfl (.slice (some ⟨g2, off2, none⟩) sl2 c2) sl2 (ints st2) rfl HQ5.out ⟨wr.heap.size, 0, none⟩ 1 (.int .i64 z) rfl (by go_simp) rfl (by unfold maxLen; omega) (by omega) (by simp; omega) ?_; intro g4 off4 c4 w4 hq4 hgr4; have HQ4 := hid hq4; have HGR4 := hid hgr4; clear hq4 hgr4)
                 refine ⟨⟨j + 1, by omega, by go_num, ms2.set z true, st2 ++ [(z : Int)], g4, off4, c4, sl2 + 1, ⟨⟨rfl, rfl⟩, rfl, rfl⟩, ?_, BlkAt.grown HM5.out HGR4.out HNE.out, HVD.out, HMV.out, ?_⟩, by simp [intOf]; omega⟩
                 · have := HQ4.out; unfold ints at this ⊢; rw [List.map_append]; exact this
                 · exact ((HB2.out.setCell (p := ⟨rb, z, none⟩) k1 _).trans ((below_alloc _ _).mono (by simp; omega))).grown HGR4.out (by simp; omega) (fun j hj => Nat.le_trans k2 (HQ5.out.lt j hj).1)
           · obtain rfl : j = N.length := by omega
             rw [List.take_length] at hd2
             have hcl : DInv F wo [(frm : Int)] ms2 st2 [(frm : Int)] (-1) := DInv.close (D := (p : Int)) (by rw [Int.toNat_natCast, ← HNN.out]; exact hd2)
             have HCL := hid hcl
             have hgk2 : mu ms2 st2 < gk := by have := HM1.out; omega
             clear hq2 hm2 hd2 hu2 hb2 hcl hslq
             go_wp2_with fail
             go_roundg (mu ms2 st2)
             case measure => exact hgk2
             case rel => exact ⟨ms2, st2, g2, off2, c2, sl2, rfl, HQ2.out, HM2.out, HCL.out, Nat.le_refl _, by omega, HB2.out⟩)
end Go.Proofs.Ytjddegfigdpcbaa
