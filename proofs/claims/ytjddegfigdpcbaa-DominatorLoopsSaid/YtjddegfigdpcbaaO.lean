/- Control: the control dependences. -/
import Derived.Test.YtjddegfigdpcbaaN
namespace Go.Proofs.Ytjddegfigdpcbaa
open Go.RowKit

def ctl (R : Nat → Nat → Bool) (F : List (List Int)) (b a : Nat) : Bool := !(decide (a ≠ b) && R b a) && (F.getD a []).any fun x => R b x.toNat
def conRow (R : Nat → Nat → Bool) (F : List (List Int)) (b a : Nat) : List Int := ((List.range a).filter (ctl R F b)).map Int.ofNat
theorem conRow_snoc (R : Nat → Nat → Bool) (F : List (List Int)) (b a : Nat) : conRow R F b (a + 1) = if ctl R F b a = true then conRow R F b a ++ [(a : Int)] else conRow R F b a := by
  unfold conRow; rw [List.range_succ, List.filter_append, List.map_append, List.filter_cons, List.filter_nil]
  split <;> simp
theorem conRow_le (R : Nat → Nat → Bool) (F : List (List Int)) (b a : Nat) : (conRow R F b a).length ≤ a := by
  unfold conRow; rw [List.length_map]; exact Nat.le_trans (List.length_filter_le _ _) (by simp)
def curB (R : Nat → Nat → Bool) (F : List (List Int)) (n b a : Nat) : List (List Int) := (List.range n).map fun c => if c < b then conRow R F c n else if c = b then conRow R F b a else []
theorem curB_length (R : Nat → Nat → Bool) (F : List (List Int)) (n b a : Nat) : (curB R F n b a).length = n := by simp [curB]
theorem curB_get (R : Nat → Nat → Bool) (F : List (List Int)) (n b a : Nat) (h : b < n) : (curB R F n b a).getD b [] = conRow R F b a := by simp [curB, List.getD_eq_getElem?_getD, h]
theorem curB_zero (R : Nat → Nat → Bool) (F : List (List Int)) (n : Nat) : curB R F n 0 0 = List.replicate n [] := List.eq_replicate_iff.2 ⟨by simp [curB], fun b hb => by obtain ⟨k, _, rfl⟩ := List.mem_map.1 hb; simp [conRow]⟩
theorem curB_full (R : Nat → Nat → Bool) (F : List (List Int)) (n b : Nat) : curB R F n b n = curB R F n (b + 1) 0 := List.map_congr_left fun c _ => by
  by_cases h1 : c < b
  · rw [if_pos h1, if_pos (by omega)]
  · by_cases h2 : c = b
    · subst h2; simp
    · rw [if_neg h1, if_neg h2, if_neg (by omega)]; simp [conRow]
theorem curB_next (R : Nat → Nat → Bool) (F : List (List Int)) (n b a : Nat) : curB R F n b (a + 1) = if ctl R F b a = true then (curB R F n b a).set b (conRow R F b a ++ [(a : Int)]) else curB R F n b a := by
  by_cases hc : ctl R F b a = true
  · rw [if_pos hc]
    refine List.ext_getElem? fun i => ?_
    rw [List.getElem?_set]
    simp only [curB, List.getElem?_map, List.length_map, List.length_range]
    by_cases hi : b = i
    · subst hi
      by_cases hb : b < n
      · simp [hb, conRow_snoc, hc]
      · simp [hb]
    · rw [if_neg hi]
      by_cases hin : i < n
      · simp [hin, show ¬ i = b from fun e => hi e.symm]
      · simp [hin]
  · rw [if_neg hc]
    exact List.map_congr_left fun c _ => by rw [conRow_snoc, if_neg hc]
/-- the control dependences in plain Lean -/
def conL (F : List (List Int)) : List (List Int) := (List.range F.length).map fun b => conRow (relF (revF F) 1) F b F.length
theorem curB_done (R : Nat → Nat → Bool) (F : List (List Int)) (n : Nat) : curB R F n n 0 = (List.range n).map fun b => conRow R F b n := List.map_congr_left fun c hc => by rw [if_pos (List.mem_range.1 hc)]
def GivesLists (w : World) (xs : List (List Int)) (e : Ending) (w' : World) : Prop := ∃ A c, e = .returned (.slice A xs.length c) ∧ LRow w' A xs ∧ Below w.heap.size w w'
theorem enter51 (args : Array Value) (W : World) : (callFunc 51 args).run Try.prog W = .ok (.enter 51 args) W := by kernel_rfl
theorem ctl_pred {W : World} {tb xb ob n b : Nat} {rbs : List Nat} {G : List (List Int)} {R : Nat → Nat → Bool} {L : List Int} (hR : R = relF G 1) (hG : G.length = n) (h3 : W.cell? ⟨tb, 0, none⟩ = some (.slice (some ⟨ob, 0, none⟩) n n)) (h5 : W.cell? ⟨xb, 0, none⟩ = some (.int .i64 b))
    (hM : MRow W ob n rbs (relL G 1) n) (hb : b < n) (hL : ∀ x ∈ L, 0 ≤ x ∧ x < (n : Int)) : PredOk W 51 #[.pointer (some ⟨tb, 0, none⟩), .pointer (some ⟨xb, 0, none⟩)] (fun x => R b x.toNat) L := by
  intro x hx w hb'
  obtain ⟨h0, h1⟩ := hL x hx
  obtain ⟨p, rfl⟩ := Int.eq_ofNat_of_zero_le h0
  have hp : p < n := by omega
  have e3 := below_cell hb' h3
  have e5 := below_cell hb' h5
  have oc := (hM.below hb').cell b hb hb
  have mc := ((hM.below hb').marks b hb).cell p (by simp [relL, hG]; exact hp)
  have hv : (relL G 1 b).getD p false = R b ((p : Int)).toNat := by rw [relL_get G 1 b p (by omega), hR, Int.toNat_natCast]
  rw [hv] at mc
  obtain ⟨y, hy⟩ : ∃ y, y = R b ((p : Int)).toNat := ⟨_, rfl⟩
  rw [← hy] at mc
  have hbeta : (fun x : Int => R b x.toNat) (p : Int) = y := hy.symm
  rw [hbeta]
  clear hbeta
  obtain ⟨rb, hrb⟩ : ∃ rb, rb = rbs.getD b 0 := ⟨_, rfl⟩
  rw [← hrb] at oc mc
  have j1 : (0 : Int) ≤ (b : Int) := by omega
  have j2 : (b : Int) < (n : Int) := by omega
  clear hx hb' h3 h5 hM hL hv hy hrb hR hG
  have e : (#[.int .i64 p] ++ #[.pointer (some ⟨tb, 0, none⟩), .pointer (some ⟨xb, 0, none⟩)] : Array Value) = #[.int .i64 p, .pointer (some ⟨tb, 0, none⟩), .pointer (some ⟨xb, 0, none⟩)] := by simp
  rw [e]
  clear e
  go_enter Try.func51, Try.ntmps51
  go_wp2_with fail
  go_ret
  exact ⟨rfl, Below.refl _ _⟩

/-- rows that lie below a bound stay while what lies beyond it turns -/
theorem MRow.below2 {w3 W0 wi : World} {ob n : Nat} {rbs : List Nat} {R : Nat → List Bool} {k K : Nat} (h : MRow w3 ob n rbs R k) (h1 : Below w3.heap.size w3 W0) (h2 : Below K W0 wi) (hK : w3.heap.size ≤ K) : MRow wi ob n rbs R k :=
  h.below (h1.trans (h2.mono hK))
theorem Control_no (pa : Option Addr) (pc : Nat) (F : List (List Int)) (w : World) (hF : FRow w pa F) (hsm : ∀ i, i < F.length → (F.getD i []).length ≤ 900) (hV : ¬ VldF F) :
    Calls Try.prog 25 #[.agg #[.slice pa F.length pc]] w (GivesLists w []) := by
  have HV := hid hV; clear hV
  go_enter Try.func25, Try.ntmps25
  go_wp2_with (go_at_call 13; refine (valid_any _ _ _ _ (hF.below (below_alloc _ _)) (fun i hi => Nat.le_trans (hsm i hi) (by omega))).mono ?_; rintro e w1 ⟨ht, hb1⟩; obtain rfl := ht.eq_no HV.out; have g0 := box_cell hb1 0 _ rfl; have HB1 := hid (bthen (below_alloc w _) hb1); clear ht hb1)
  go_ret
  exact ⟨none, 0, rfl, LRow.nil, HB1.out⟩

set_option maxHeartbeats 4000000 in
theorem Control_yes (pa : Option Addr) (pc : Nat) (F : List (List Int)) (w : World) (hF : FRow w pa F) (hsm : ∀ i, i < F.length → (F.getD i []).length ≤ 900) (hV : VldF F) :
    Calls Try.prog 25 #[.agg #[.slice pa F.length pc]] w (GivesLists w (conL F)) := by
  have hlo := hV.lo; have hhi := hV.hi
  have hmk := run_lists F.length (by omega)
  obtain ⟨i0, hi, hz0, hz1, hz2⟩ := info_parts info3
  obtain ⟨n, hn⟩ : ∃ n, n = F.length := ⟨_, rfl⟩
  rw [← hn] at hmk hhi hlo ⊢
  have HV := hid hV; have HNL := hid hn; clear hV hn
  go_enter Try.func25, Try.ntmps25
  go_wp2_with (go_at_call 13; rw [HNL.out]; refine (valid_any _ _ _ _ (hF.below (below_alloc _ _)) (fun i hi => Nat.le_trans (hsm i hi) (by omega))).mono ?_; rw [← HNL.out]; rintro e w1 ⟨ht, hb1⟩; obtain rfl := ht.eq_yes HV.out; have g0 := box_cell hb1 0 _ rfl; have HB1 := hid (bthen (below_alloc w _) hb1); clear ht hb1)
  have hbk := backward_any pa pc F _ (hF.below HB1.out) HV.out hsm
  rw [← HNL.out] at hbk
  refine hbk.mono ?_
  rintro e w2 ⟨B, ⟨cb, rfl, hnx, hb2⟩, hrev⟩
  have g0 := below_cell hb2 g0
  have HB2 := hid (bthen HB1.out hb2); have HNX := hid hnx; have HRV := hid hrev
  have hBl : B.length = n := by rw [hrev.len, HNL.out]
  have HBL := hid hBl
  clear hnx hb2 hrev hbk hBl
  go_wp2_with fail
  refine (relation_any B.length 1 58 cb B _ (GrA.bwd HNX.out HV.out HRV.out) rfl (by rw [HBL.out]; omega)).mono ?_
  rintro e w3 ⟨ob, rbs, he, hm, hob, hb3⟩
  rw [HBL.out] at he hm
  subst he
  have g0 := below_cell hb3 g0
  have HB3 := hid (bthen HB2.out hb3); have HM := hid hm
  have hz3 := lt_of_cell g0
  dsimp only at hz3
  clear hm hb3 hob
  go_wp2_with fail
  obtain ⟨R, hR⟩ : ∃ R, R = relF B 1 := ⟨_, rfl⟩
  have HR := hid hR
  obtain ⟨W0, hW0⟩ : ∃ W0, W0 = (w3.alloc (.cells #[.slice (some ⟨ob, 0, none⟩) n n] 61)).alloc (.cells (Array.replicate n (Value.slice none 0 0)) 29) := ⟨_, rfl⟩
  have g0 : W0.cell? ⟨w.heap.size, 0, none⟩ = some (.slice pa n pc) := by rw [hW0]; go_simp
  have t0 : W0.cell? ⟨w3.heap.size, 0, none⟩ = some (.slice (some ⟨ob, 0, none⟩) n n) := by rw [hW0]; go_simp
  have hbw := bthen (below_alloc w3 (.cells #[.slice (some ⟨ob, 0, none⟩) n n] 61)) (below_alloc _ (.cells (Array.replicate n (Value.slice none 0 0)) 29))
  rw [← hW0] at hbw
  have hzW : W0.heap.size = w3.heap.size + 2 := by rw [hW0]; simp
  have hst : VS2 W0 (w3.heap.size + 2) (w3.heap.size + 1) (List.replicate n (none, 0)) (curB R F n 0 0) := by
    rw [curB_zero]
    refine VS2.init _ _ _ n ?_
    have e4 := heap_alloc_new (w3.alloc (.cells #[.slice (some ⟨ob, 0, none⟩) n n] 61)) (.cells (Array.replicate n (Value.slice none 0 0)) 29)
    rw [show (w3.alloc (.cells #[.slice (some ⟨ob, 0, none⟩) n n] 61)).heap.size = w3.heap.size + 1 from by simp] at e4
    unfold BlkAt; rw [List.toArray_replicate, hW0]; exact e4
  rw [← hW0]
  obtain ⟨bb, hbb⟩ : ∃ bb, bb = w3.heap.size + 1 := ⟨_, rfl⟩
  rw [← hbb] at hst
  rw [← hbb]
  obtain ⟨tb, htb⟩ : ∃ tb, tb = w3.heap.size := ⟨_, rfl⟩
  rw [← htb] at t0
  rw [← htb]
  obtain ⟨B0, hB0⟩ : ∃ B0, B0 = w3.heap.size + 2 := ⟨_, rfl⟩
  rw [← hB0] at hst
  have kb : w3.heap.size + 1 ≤ bb := by omega
  have kB : w3.heap.size + 1 ≤ B0 := by omega
  have kW : B0 ≤ W0.heap.size := by omega
  have kt : tb < w3.heap.size + 1 := by omega
  have kg : w.heap.size < tb := by omega
  have htw : tb < W0.heap.size := by omega
  have HBW := hid hbw; have HST := hid hst
  clear hst hbw hW0 hbb htb hB0 hzW hmk hR
  go_loopw [22] (fun i wr => ∃ b : Nat, ∃ vs, b ≤ n ∧ i = .int .i64 b ∧ VS2 wr B0 bb vs (curB R F n b 0) ∧ Below (w3.heap.size + 1) W0 wr) (fun i _ => n - (intOf i).toNat)
  case atStart => exact ⟨0, _, Nat.zero_le _, rfl, HST.out, Below.refl _ _⟩
  case round =>
    obtain ⟨b, vs, hb, rfl, hv, hbr⟩ := hrel
    have HVB := hid hv; have HBR := hid hbr
    have e0 := (hbr.cell (p := ⟨w.heap.size, 0, none⟩) (by show w.heap.size < _; omega)).trans g0
    have hwz := hbr.size
    have hwk : w.heap.size < wr.heap.size := by omega
    by_cases hlt : b < n
    · have hxb : BlkAt (wr.alloc (.cells #[.int .i64 b] 3)) wr.heap.size 3 [.int .i64 b] := BlkAt.made wr 3 [.int .i64 b]
      have hva := hv.below (below_alloc wr (.cells #[.int .i64 b] 3))
      have hba : Below (w3.heap.size + 1) W0 (wr.alloc (.cells #[.int .i64 b] 3)) := hbr.alloc (by omega) _
      have hsh : ∀ j, j < (curB R F n b 0).length → (sval vs (curB R F n b 0) j).ownBlock ≠ some wr.heap.size := fun j hj e => by have := (hv.own.own j hj).lt _ e; omega
      have HXB := hid hxb; have HVA := hid hva; have HBA := hid hba; have HSH0 := hid hsh
      have j1 : (0 : Int) ≤ (b : Int) := by omega
      have j2 : (b : Int) < (n : Int) := by omega
      clear hv hbr hxb hva hba hsh
      go_wp2_with fail
      obtain ⟨xb, hxe⟩ : ∃ xb, xb = wr.heap.size := ⟨_, rfl⟩
      rw [← hxe] at HXB HSH0
      rw [← hxe]
      have kx : w3.heap.size + 1 ≤ xb := by omega
      have hxz : xb < (wr.alloc (.cells #[.int .i64 b] 3)).heap.size := by simp; omega
      clear hxe
      go_loopw [28] (fun i wi => ∃ a : Nat, ∃ vs, a ≤ n ∧ i = .int .i64 a ∧ VS2 wi B0 bb vs (curB R F n b a) ∧ BlkAt wi xb 3 [.int .i64 b] ∧ (∀ j, j < (curB R F n b a).length → (sval vs (curB R F n b a) j).ownBlock ≠ some xb) ∧ Below (w3.heap.size + 1) W0 wi) (fun i _ => n - (intOf i).toNat)
      case atStart => exact ⟨0, vs, Nat.zero_le _, rfl, HVA.out, HXB.out, HSH0.out, HBA.out⟩
      case round =>
        clear HVA HXB HSH0 HBA HVB HBR hwz hxz e0
        rename World => wr0
        obtain ⟨a, vs, ha, rfl, hv, hx, hsh, hbi⟩ := hrel
        rename World => wi
        have HVI := hid hv; have HXI := hid hx; have HSH := hid hsh; have HBI := hid hbi
        have e1 := (hbi.cell (p := ⟨w.heap.size, 0, none⟩) (by show w.heap.size < _; omega)).trans g0
        have hwz := hbi.size
        by_cases hat : a < n
        · have hFi : FRow wi pa F := hF.below ((bthen HB3.out HBW.out).trans (hbi.mono (by omega)))
          obtain ⟨sb, so, p, q, C, c, rfl, h0, h1, h2, h3⟩ := hFi a (by rw [← HNL.out]; exact hat)
          have hNl := hsm a (by rw [← HNL.out]; exact hat)
          have hNb := HV.out.ok a (by rw [← HNL.out]; exact hat)
          rw [← HNL.out] at hNb
          obtain ⟨N, hN⟩ : ∃ N, N = F.getD a [] := ⟨_, rfl⟩
          rw [← hN] at h2 h3 hNl hNb
          have HN := hid hN
          have t1 := (hbi.cell (p := ⟨tb, 0, none⟩) (by show tb < _; omega)).trans t0
          have x1 := hx.cell 0 _ rfl
          have hmi : MRow wi ob n rbs (relL B 1) n := HM.out.below2 HBW.out hbi (by omega)
          have oc := hmi.cell b hlt hlt
          have mc := (hmi.marks b hlt).cell a (by simp [relL, HBL.out]; exact hat)
          rw [relL_get B 1 b a (by rw [HBL.out]; exact hat), ← HR.out] at mc
          obtain ⟨rb, hrb⟩ : ∃ rb, rb = rbs.getD b 0 := ⟨_, rfl⟩
          rw [← hrb] at oc mc
          obtain ⟨z, hz⟩ : ∃ z, z = R b a := ⟨_, rfl⟩
          rw [← hz] at mc
          have HZ := hid hz
          have i1 : (0 : Int) ≤ (a : Int) := by omega
          have i2 : (a : Int) < (n : Int) := by omega
          have zob : ob < wi.heap.size := lt_of_cell oc
          have zrb : rb < wi.heap.size := lt_of_cell mc
          have ztb : tb < wi.heap.size := lt_of_cell t1
          have zxi : xb < wi.heap.size := lt_of_cell x1
          have zg : w.heap.size < wi.heap.size := by omega
          have hwj : w3.heap.size + 1 ≤ (wi.alloc (.cells #[.int .i64 p, .int .i64 q, .slice C N.length c] 40)).heap.size := by simp; omega
          have bj := below_alloc wi (.cells #[.int .i64 p, .int .i64 q, .slice C N.length c] 40)
          have HVJ := hid (hv.below bj); have HXJ := hid (hx.below bj); have HBJ := hid (hbi.alloc (by omega) (.cells #[.int .i64 p, .int .i64 q, .slice C N.length c] 40))
          have HRN := hid (h3.below bj)
          have HPR := hid (ctl_pred (L := N) HR.out HBL.out (below_cell bj t1) (below_cell bj x1) (hmi.below bj) hlt hNb)
          clear hv hx hsh hbi hN hz hrb hmi h3 hNb bj
          by_cases q1 : a = b
          · have q1' : ((a : Int) != (b : Int)) = false := by simp [q1]
            have HQ := hid q1; clear q1
            go_wp2_with fail
            refine (containsFunc_any 51 #[.pointer (some ⟨tb, 0, none⟩), .pointer (some ⟨xb, 0, none⟩)] (fun x => R b x.toNat) C c N _ enter51 HPR.out HRN.out (by omega)).mono ?_
            rintro e wk ⟨rfl, hbk⟩
            have hvk := HVJ.out.below hbk
            have hxk := HXJ.out.below hbk
            have hbw := HBJ.out.trans (hbk.mono hwj)
            have e2 := (hbw.cell (p := ⟨w.heap.size, 0, none⟩) (by show w.heap.size < _; omega)).trans g0
            have t2 := (hbw.cell (p := ⟨tb, 0, none⟩) (by show tb < _; omega)).trans t0
            obtain ⟨y, hy⟩ : ∃ y, y = N.any (fun x => R b x.toNat) := ⟨_, rfl⟩
            rw [← hy]
            have hct : ctl R F b a = y := by rw [hy]; unfold ctl; rw [← HN.out]; simp [HQ.out]
            have HY := hid hct
            have HVK := hid hvk; have HXK := hid hxk; have HBK := hid hbw
            have hzk := hbk.size
            have hzj : (wi.alloc (.cells #[.int .i64 p, .int .i64 q, .slice C N.length c] 40)).heap.size = wi.heap.size + 1 := by simp
            rw [hzj] at hzk
            clear hzj
            clear hbk hy hct hbw
            cases y with
            | false =>
              clear hvk hxk
              go_wp2_with fail
              have hcn := curB_next R F n b a
              rw [HY.out] at hcn
              exact ⟨⟨a + 1, vs, by omega, by go_num, by rw [hcn]; simpa using HVK.out, HXK.out, by rw [hcn]; simpa using HSH.out, HBK.out⟩, by simp [intOf]; omega⟩
            | true =>
              have xc1 := hxk.cell 0 _ rfl
              have bc1 := hvk.cell b (by rw [curB_length]; exact hlt)
              rw [show sval vs (curB R F n b a) b = .slice (vs.getD b (none, 0)).1 (conRow R F b a).length (vs.getD b (none, 0)).2 from by unfold sval; rw [curB_get R F n b a hlt]] at bc1
              have hown0 := hvk.own.own b (by rw [curB_length]; exact hlt)
              have hown : ((wk.drew).alloc (.cells #[.int .i64 (a : Int)] 3)).ownsRow B0 3 1 (.slice (vs.getD b (none, 0)).1 (conRow R F b a).length (vs.getD b (none, 0)).2) (conRow R F b a).length (ints (conRow R F b a)) := by
                have := own_below hown0 (bthen (below_drew' _) (below_alloc wk.drew (.cells #[.int .i64 (a : Int)] 3)))
                unfold sval at this
                rw [curB_get R F n b a hlt] at this
                exact this
              have hne2 : some bb ≠ (sval vs (curB R F n b a) b).ownBlock := BlkAt.ne_own hvk.row hown0 (by decide)
              have hne1 : some xb ≠ (sval vs (curB R F n b a) b).ownBlock := fun e => HSH.out b (by rw [curB_length]; exact hlt) e.symm
              have esv : sval vs (curB R F n b a) b = .slice (vs.getD b (none, 0)).1 (conRow R F b a).length (vs.getD b (none, 0)).2 := by unfold sval; rw [curB_get R F n b a hlt]
              rw [esv] at hne1 hne2
              have hlk := conRow_le R F b a
              obtain ⟨Ak, hAk⟩ : ∃ Ak, Ak = (vs.getD b (none, 0)).1 := ⟨_, rfl⟩
              obtain ⟨ck, hck⟩ : ∃ ck, ck = (vs.getD b (none, 0)).2 := ⟨_, rfl⟩
              obtain ⟨lk, hlk2⟩ : ∃ lk, lk = (conRow R F b a).length := ⟨_, rfl⟩
              rw [← hAk, ← hck, ← hlk2] at bc1 hown hne1 hne2 esv
              rw [← hlk2] at hlk
              have HOW := hid hown; have HNE := hid (And.intro hne1 hne2); have HESV := hid esv
              have HVR := hid (hvk.below (bthen (below_drew' _) (below_alloc wk.drew (.cells #[.int .i64 (a : Int)] 3))))
              have HLK := hid hlk2
              have zx := hxk.lt
              have zr := hvk.row.lt
              have zB : B0 ≤ wk.heap.size := by omega
              have zxb : xb ≠ bb := hxk.ne hvk.row (by decide)
              clear hvk hxk hown hown0 hne1 hne2 hAk hck hlk2 esv
              go_wp2_with fail
              refine wp_region_J (fun j => match j with | 7 => some (fun W => W.cell? ⟨xb, 0, none⟩ = some (.int .i64 b) ∧ W.cell? ⟨bb, b, none⟩ = some (.slice Ak lk ck)) | 8 => some (fun W => W.cell? ⟨xb, 0, none⟩ = some (.int .i64 b)) | 10 => some (fun _ => True) | _ => none) (by kernel_rfl) ?_
              refine anyJ_take (some 53) (i := 0) (T := fun _ => True) (v := ?_) rfl rfl (by kernel_rfl) (by kernel_rfl) (by kernel_rfl) (fun _ _ _ h => h) (js := [7, 8]) (by kernel_rfl) Leads.true rfl (Or.inl ⟨by rfl, ?_⟩) trivial ?_
              rotate_left
              · (intro wL hSw; (try dsimp only at hSw); go_simp; try with_reducible rfl)
              try simp only [Act.put, List.setIfInBounds_toArray, List.set_cons_zero, List.set_cons_succ]
              refine anyJ_take (some 54) (i := 1) (T := fun W => W.cell? ⟨xb, 0, none⟩ = some (.int .i64 b)) (v := ?_) rfl rfl (by kernel_rfl) (by kernel_rfl) (by kernel_rfl) (fun _ _ _ h => h) (js := [7, 8]) (by kernel_rfl) (Leads.cons _ rfl (fun w h => h.1) (Leads.cons _ rfl (fun w h => h) Leads.nil)) rfl (Or.inl ⟨by rfl, ?_⟩) (xc1) ?_
              rotate_left
              · (intro wL hSw; (try dsimp only at hSw); go_simp; try with_reducible rfl)
              try simp only [Act.put, List.setIfInBounds_toArray, List.set_cons_zero, List.set_cons_succ]
              refine anyJ_take (some 55) (i := 2) (T := fun _ => True) (v := ?_) rfl rfl (by kernel_rfl) (by kernel_rfl) (by kernel_rfl) (fun _ _ _ h => h) (js := [7]) (by kernel_rfl) Leads.true rfl (Or.inl ⟨by rfl, ?_⟩) trivial ?_
              rotate_left
              · (intro wL hSw; (try dsimp only at hSw); go_simp; try with_reducible rfl)
              try simp only [Act.put, List.setIfInBounds_toArray, List.set_cons_zero, List.set_cons_succ]
              refine anyJ_take (some 56) (i := 3) (T := fun W => W.cell? ⟨xb, 0, none⟩ = some (.int .i64 b)) (v := ?_) rfl rfl (by kernel_rfl) (by kernel_rfl) (by kernel_rfl) (fun _ _ _ h => h) (js := [7]) (by kernel_rfl) (Leads.cons _ rfl (fun w h => h.1) Leads.nil) rfl (Or.inl ⟨by rfl, ?_⟩) (xc1) ?_
              rotate_left
              · (intro wL hSw; (try dsimp only at hSw); go_simp; try with_reducible rfl)
              try simp only [Act.put, List.setIfInBounds_toArray, List.set_cons_zero, List.set_cons_succ]
              refine anyJ_take (some 57) (i := 4) (T := fun _ => True) (v := ?_) rfl rfl (by kernel_rfl) (by kernel_rfl) (by kernel_rfl) (fun _ _ _ h => h) (js := [7]) (by kernel_rfl) Leads.true rfl (Or.inl ⟨by rfl, ?_⟩) trivial ?_
              rotate_left
              · (intro wL hSw; (try dsimp only at hSw); go_simp; try with_reducible rfl)
              try simp only [Act.put, List.setIfInBounds_toArray, List.set_cons_zero, List.set_cons_succ]
              refine anyJ_take (some 58) (i := 5) (T := fun W => W.cell? ⟨bb, b, none⟩ = some (.slice Ak lk ck)) (v := ?_) rfl rfl (by kernel_rfl) (by kernel_rfl) (by kernel_rfl) (fun _ _ _ h => h) (js := [7]) (by kernel_rfl) (Leads.cons _ rfl (fun w h => h.2) Leads.nil) rfl (Or.inl ⟨by rfl, ?_⟩) (bc1) ?_
              rotate_left
              · (intro wL hSw; (try dsimp only at hSw); go_simp; try with_reducible rfl)
              try simp only [Act.put, List.setIfInBounds_toArray, List.set_cons_zero, List.set_cons_succ]
              refine anyJ_take (some 59) (i := 6) (T := fun _ => True) (v := ?_) rfl rfl (by kernel_rfl) (by kernel_rfl) (by kernel_rfl) (fun _ _ _ h => h) (js := []) (by kernel_rfl) Leads.true rfl (Or.inl ⟨by rfl, ?_⟩) trivial ?_
              rotate_left
              · (intro wL hSw; (try dsimp only at hSw); go_simp; try with_reducible rfl)
              try simp only [Act.put, List.setIfInBounds_toArray, List.set_cons_zero, List.set_cons_succ]
              refine anyJ_one (i := 7) (oi := { dst := some 60, op := Go.Op.buildSlice 29 1 #[(0, Go.Operand.tmp 59)], type := 29, pos := "dominators.go:184", after := #[{ on := 6, ground := Go.Ground.data }], guard := none }) rfl (by kernel_rfl) (by rfl) (fun K hK => ?_)
              go_simp
              refine hK.out _ _ (by dsimp only [Obl]; exact ⟨by go_simp, by go_simp⟩) ?_
              clear hK K
              try simp only [Act.put, List.setIfInBounds_toArray, List.set_cons_zero, List.set_cons_succ]
              refine anyJ_one (i := 8) (oi := { dst := some 61, op := Go.Op.call { callee := Go.Callee.builtin Go.Builtin.append, args := #[Go.Operand.tmp 58, Go.Operand.tmp 60], argTypes := #[29, 29] }, type := 29, pos := "dominators.go:184", after := #[{ on := 5, ground := Go.Ground.data }, { on := 7, ground := Go.Ground.data }], guard := none }) rfl (by kernel_rfl) (by rfl) (fun K hK => ?_)
              refine wp_append_row (.tmp 58) (.tmp 60) 29 rfl B0 3 i0 (.int .i64 0) 1 8 Try.underlying29 hi hz0 hz1 hz2 rfl (by decide) (.slice Ak lk ck) lk (ints (conRow R F b a)) rfl HOW.out (some ⟨wk.heap.size, 0, none⟩) 1 1 [.int .i64 a] rfl rfl (fun e => by cases e) (Row.one _ _ _) (ints_one [_]) (by unfold maxLen; omega) (by omega) (by simp; omega) ?_
              intro A7 c7 w7 hown4 hgr4 hat4
              have xc4 := hgr4.cell (show ((wk.drew).alloc (.cells #[.int .i64 (a : Int)] 3)).cell? ⟨xb, 0, none⟩ = some (.int .i64 b) from by go_simp) HNE.out.1
              have bc4 := hgr4.cell (show ((wk.drew).alloc (.cells #[.int .i64 (a : Int)] 3)).cell? ⟨bb, b, none⟩ = some (.slice Ak lk ck) from by go_simp) HNE.out.2
              have bf4 : w7.frozen? ⟨bb, b, none⟩ = false := (HVR.out.row.grown hgr4 HNE.out.2).fz b
              refine hK.out _ _ (by dsimp only [Obl]; exact xc4) ?_
              clear hK K
              have HOWN4 := hid hown4; have HGR4 := hid hgr4; have HAT4 := hid hat4; clear hown4 hgr4 hat4
              try simp only [Act.put, List.setIfInBounds_toArray, List.set_cons_zero, List.set_cons_succ]
              refine anyJ_take (some 62) (i := 9) (T := fun _ => True) (v := ?_) rfl rfl (by kernel_rfl) (by kernel_rfl) (by kernel_rfl) (fun _ _ _ h => h) (js := [7, 8]) (by kernel_rfl) Leads.true rfl (Or.inl ⟨by rfl, ?_⟩) trivial ?_
              rotate_left
              · (intro wL hSw; (try dsimp only at hSw); go_simp; try with_reducible rfl)
              try simp only [Act.put, List.setIfInBounds_toArray, List.set_cons_zero, List.set_cons_succ]
              refine anyJ_one (i := 10) (oi := { dst := none, op := Go.Op.store 29 (Go.Operand.tmp 62) (Go.Operand.tmp 61), type := 0, pos := "dominators.go:184", after := #[{ on := 9, ground := Go.Ground.data }, { on := 8, ground := Go.Ground.data }, { on := 8, ground := Go.Ground.chain }, { on := 0, ground := Go.Ground.phase }, { on := 1, ground := Go.Ground.phase }, { on := 2, ground := Go.Ground.phase }, { on := 3, ground := Go.Ground.phase }, { on := 4, ground := Go.Ground.phase }, { on := 5, ground := Go.Ground.phase }, { on := 6, ground := Go.Ground.phase }, { on := 7, ground := Go.Ground.phase }, { on := 8, ground := Go.Ground.phase }], guard := none }) rfl (by kernel_rfl) (by rfl) (fun K hK => ?_)
              go_simp
              refine hK.out _ _ trivial ?_
              clear hK K
              try simp only [Act.put, List.setIfInBounds_toArray, List.set_cons_zero, List.set_cons_succ]
              refine anyJ_done (by kernel_rfl) ?_
              go_wp2_with fail
              have hb7 : Below (w3.heap.size + 1) W0 (w7.setCell ⟨bb, b, none⟩ (.slice A7 (lk + 1) c7)) :=
                ((HBK.out.trans ((bthen (below_drew' _) (below_alloc wk.drew (.cells #[.int .i64 (a : Int)] 3))).mono (by omega))).grown HGR4.out (by simp; omega) (fun j hj => Nat.le_trans kB (HOW.out.lt j hj).1)).setCell (p := ⟨bb, b, none⟩) kb _
              have h1 := HOWN4.out
              have h2 := HGR4.out
              have h3 := HAT4.out
              have hcg := curB_get R F n b a hlt
              rw [← HESV.out] at h2 h3
              rw [HLK.out, ← hcg] at h1 h3
              have hpush := HVR.out.push b (by rw [curB_length]; exact hlt) h1 h2 (by simpa using h3)
              have hshun := HVR.out.own.shun b (by rw [curB_length]; exact hlt) (x := (a : Int)) (q := xb) (by simp; omega) (by simpa using h3) HSH.out
              have hcn := curB_next R F n b a
              rw [HY.out, if_pos rfl] at hcn
              rw [hcg, ← hcn] at hpush hshun
              have hx7 := ((HXK.out.below (bthen (below_drew' _) (below_alloc wk.drew (.cells #[.int .i64 (a : Int)] 3)))).grown HGR4.out HNE.out.1).far (b' := bb) zxb b (.slice A7 (lk + 1) c7)
              rw [← HLK.out] at hpush
              exact ⟨⟨a + 1, _, by omega, by go_num, hpush, hx7, hshun, hb7⟩, by simp [intOf]; omega⟩
          have q1' : ((a : Int) != (b : Int)) = true := by simp; omega
          cases z with
          | true =>
            go_wp2_with fail
            have hct : ctl R F b a = false := by unfold ctl; rw [← HZ.out]; simp [q1]
            have hcn := curB_next R F n b a
            rw [hct] at hcn
            exact ⟨⟨a + 1, vs, by omega, by go_num, by rw [hcn]; simpa using HVJ.out, HXJ.out, by rw [hcn]; simpa using HSH.out, HBJ.out⟩, by simp [intOf]; omega⟩
          | false =>
            go_wp2_with fail
            refine (containsFunc_any 51 #[.pointer (some ⟨tb, 0, none⟩), .pointer (some ⟨xb, 0, none⟩)] (fun x => R b x.toNat) C c N _ enter51 HPR.out HRN.out (by omega)).mono ?_
            rintro e wk ⟨rfl, hbk⟩
            have hvk := HVJ.out.below hbk
            have hxk := HXJ.out.below hbk
            have hbw := HBJ.out.trans (hbk.mono hwj)
            have e2 := (hbw.cell (p := ⟨w.heap.size, 0, none⟩) (by show w.heap.size < _; omega)).trans g0
            have t2 := (hbw.cell (p := ⟨tb, 0, none⟩) (by show tb < _; omega)).trans t0
            obtain ⟨y, hy⟩ : ∃ y, y = N.any (fun x => R b x.toNat) := ⟨_, rfl⟩
            rw [← hy]
            have hct : ctl R F b a = y := by rw [hy]; unfold ctl; rw [← HN.out]; rw [← HZ.out]; simp
            have HY := hid hct
            have HVK := hid hvk; have HXK := hid hxk; have HBK := hid hbw
            have hzk := hbk.size
            have hzj : (wi.alloc (.cells #[.int .i64 p, .int .i64 q, .slice C N.length c] 40)).heap.size = wi.heap.size + 1 := by simp
            rw [hzj] at hzk
            clear hzj
            clear hbk hy hct hbw
            cases y with
            | false =>
              clear hvk hxk
              go_wp2_with fail
              have hcn := curB_next R F n b a
              rw [HY.out] at hcn
              exact ⟨⟨a + 1, vs, by omega, by go_num, by rw [hcn]; simpa using HVK.out, HXK.out, by rw [hcn]; simpa using HSH.out, HBK.out⟩, by simp [intOf]; omega⟩
            | true =>
              have xc1 := hxk.cell 0 _ rfl
              have bc1 := hvk.cell b (by rw [curB_length]; exact hlt)
              rw [show sval vs (curB R F n b a) b = .slice (vs.getD b (none, 0)).1 (conRow R F b a).length (vs.getD b (none, 0)).2 from by unfold sval; rw [curB_get R F n b a hlt]] at bc1
              have hown0 := hvk.own.own b (by rw [curB_length]; exact hlt)
              have hown : ((wk.drew).alloc (.cells #[.int .i64 (a : Int)] 3)).ownsRow B0 3 1 (.slice (vs.getD b (none, 0)).1 (conRow R F b a).length (vs.getD b (none, 0)).2) (conRow R F b a).length (ints (conRow R F b a)) := by
                have := own_below hown0 (bthen (below_drew' _) (below_alloc wk.drew (.cells #[.int .i64 (a : Int)] 3)))
                unfold sval at this
                rw [curB_get R F n b a hlt] at this
                exact this
              have hne2 : some bb ≠ (sval vs (curB R F n b a) b).ownBlock := BlkAt.ne_own hvk.row hown0 (by decide)
              have hne1 : some xb ≠ (sval vs (curB R F n b a) b).ownBlock := fun e => HSH.out b (by rw [curB_length]; exact hlt) e.symm
              have esv : sval vs (curB R F n b a) b = .slice (vs.getD b (none, 0)).1 (conRow R F b a).length (vs.getD b (none, 0)).2 := by unfold sval; rw [curB_get R F n b a hlt]
              rw [esv] at hne1 hne2
              have hlk := conRow_le R F b a
              obtain ⟨Ak, hAk⟩ : ∃ Ak, Ak = (vs.getD b (none, 0)).1 := ⟨_, rfl⟩
              obtain ⟨ck, hck⟩ : ∃ ck, ck = (vs.getD b (none, 0)).2 := ⟨_, rfl⟩
              obtain ⟨lk, hlk2⟩ : ∃ lk, lk = (conRow R F b a).length := ⟨_, rfl⟩
              rw [← hAk, ← hck, ← hlk2] at bc1 hown hne1 hne2 esv
              rw [← hlk2] at hlk
              have HOW := hid hown; have HNE := hid (And.intro hne1 hne2); have HESV := hid esv
              have HVR := hid (hvk.below (bthen (below_drew' _) (below_alloc wk.drew (.cells #[.int .i64 (a : Int)] 3))))
              have HLK := hid hlk2
              have zx := hxk.lt
              have zr := hvk.row.lt
              have zB : B0 ≤ wk.heap.size := by omega
              have zxb : xb ≠ bb := hxk.ne hvk.row (by decide)
              clear hvk hxk hown hown0 hne1 hne2 hAk hck hlk2 esv
              go_wp2_with fail
              refine wp_region_J (fun j => match j with | 7 => some (fun W => W.cell? ⟨xb, 0, none⟩ = some (.int .i64 b) ∧ W.cell? ⟨bb, b, none⟩ = some (.slice Ak lk ck)) | 8 => some (fun W => W.cell? ⟨xb, 0, none⟩ = some (.int .i64 b)) | 10 => some (fun _ => True) | _ => none) (by kernel_rfl) ?_
              refine anyJ_take (some 53) (i := 0) (T := fun _ => True) (v := ?_) rfl rfl (by kernel_rfl) (by kernel_rfl) (by kernel_rfl) (fun _ _ _ h => h) (js := [7, 8]) (by kernel_rfl) Leads.true rfl (Or.inl ⟨by rfl, ?_⟩) trivial ?_
              rotate_left
              · (intro wL hSw; (try dsimp only at hSw); go_simp; try with_reducible rfl)
              try simp only [Act.put, List.setIfInBounds_toArray, List.set_cons_zero, List.set_cons_succ]
              refine anyJ_take (some 54) (i := 1) (T := fun W => W.cell? ⟨xb, 0, none⟩ = some (.int .i64 b)) (v := ?_) rfl rfl (by kernel_rfl) (by kernel_rfl) (by kernel_rfl) (fun _ _ _ h => h) (js := [7, 8]) (by kernel_rfl) (Leads.cons _ rfl (fun w h => h.1) (Leads.cons _ rfl (fun w h => h) Leads.nil)) rfl (Or.inl ⟨by rfl, ?_⟩) (xc1) ?_
              rotate_left
              · (intro wL hSw; (try dsimp only at hSw); go_simp; try with_reducible rfl)
              try simp only [Act.put, List.setIfInBounds_toArray, List.set_cons_zero, List.set_cons_succ]
              refine anyJ_take (some 55) (i := 2) (T := fun _ => True) (v := ?_) rfl rfl (by kernel_rfl) (by kernel_rfl) (by kernel_rfl) (fun _ _ _ h => h) (js := [7]) (by kernel_rfl) Leads.true rfl (Or.inl ⟨by rfl, ?_⟩) trivial ?_
              rotate_left
              · (intro wL hSw; (try dsimp only at hSw); go_simp; try with_reducible rfl)
              try simp only [Act.put, List.setIfInBounds_toArray, List.set_cons_zero, List.set_cons_succ]
              refine anyJ_take (some 56) (i := 3) (T := fun W => W.cell? ⟨xb, 0, none⟩ = some (.int .i64 b)) (v := ?_) rfl rfl (by kernel_rfl) (by kernel_rfl) (by kernel_rfl) (fun _ _ _ h => h) (js := [7]) (by kernel_rfl) (Leads.cons _ rfl (fun w h => h.1) Leads.nil) rfl (Or.inl ⟨by rfl, ?_⟩) (xc1) ?_
              rotate_left
              · (intro wL hSw; (try dsimp only at hSw); go_simp; try with_reducible rfl)
              try simp only [Act.put, List.setIfInBounds_toArray, List.set_cons_zero, List.set_cons_succ]
              refine anyJ_take (some 57) (i := 4) (T := fun _ => True) (v := ?_) rfl rfl (by kernel_rfl) (by kernel_rfl) (by kernel_rfl) (fun _ _ _ h => h) (js := [7]) (by kernel_rfl) Leads.true rfl (Or.inl ⟨by rfl, ?_⟩) trivial ?_
              rotate_left
              · (intro wL hSw; (try dsimp only at hSw); go_simp; try with_reducible rfl)
              try simp only [Act.put, List.setIfInBounds_toArray, List.set_cons_zero, List.set_cons_succ]
              refine anyJ_take (some 58) (i := 5) (T := fun W => W.cell? ⟨bb, b, none⟩ = some (.slice Ak lk ck)) (v := ?_) rfl rfl (by kernel_rfl) (by kernel_rfl) (by kernel_rfl) (fun _ _ _ h => h) (js := [7]) (by kernel_rfl) (Leads.cons _ rfl (fun w h => h.2) Leads.nil) rfl (Or.inl ⟨by rfl, ?_⟩) (bc1) ?_
              rotate_left
              · (intro wL hSw; (try dsimp only at hSw); go_simp; try with_reducible rfl)
              try simp only [Act.put, List.setIfInBounds_toArray, List.set_cons_zero, List.set_cons_succ]
              refine anyJ_take (some 59) (i := 6) (T := fun _ => True) (v := ?_) rfl rfl (by kernel_rfl) (by kernel_rfl) (by kernel_rfl) (fun _ _ _ h => h) (js := []) (by kernel_rfl) Leads.true rfl (Or.inl ⟨by rfl, ?_⟩) trivial ?_
              rotate_left
              · (intro wL hSw; (try dsimp only at hSw); go_simp; try with_reducible rfl)
              try simp only [Act.put, List.setIfInBounds_toArray, List.set_cons_zero, List.set_cons_succ]
              refine anyJ_one (i := 7) (oi := { dst := some 60, op := Go.Op.buildSlice 29 1 #[(0, Go.Operand.tmp 59)], type := 29, pos := "dominators.go:184", after := #[{ on := 6, ground := Go.Ground.data }], guard := none }) rfl (by kernel_rfl) (by rfl) (fun K hK => ?_)
              go_simp
              refine hK.out _ _ (by dsimp only [Obl]; exact ⟨by go_simp, by go_simp⟩) ?_
              clear hK K
              try simp only [Act.put, List.setIfInBounds_toArray, List.set_cons_zero, List.set_cons_succ]
              refine anyJ_one (i := 8) (oi := { dst := some 61, op := Go.Op.call { callee := Go.Callee.builtin Go.Builtin.append, args := #[Go.Operand.tmp 58, Go.Operand.tmp 60], argTypes := #[29, 29] }, type := 29, pos := "dominators.go:184", after := #[{ on := 5, ground := Go.Ground.data }, { on := 7, ground := Go.Ground.data }], guard := none }) rfl (by kernel_rfl) (by rfl) (fun K hK => ?_)
              refine wp_append_row (.tmp 58) (.tmp 60) 29 rfl B0 3 i0 (.int .i64 0) 1 8 Try.underlying29 hi hz0 hz1 hz2 rfl (by decide) (.slice Ak lk ck) lk (ints (conRow R F b a)) rfl HOW.out (some ⟨wk.heap.size, 0, none⟩) 1 1 [.int .i64 a] rfl rfl (fun e => by cases e) (Row.one _ _ _) (ints_one [_]) (by unfold maxLen; omega) (by omega) (by simp; omega) ?_
              intro A7 c7 w7 hown4 hgr4 hat4
              have xc4 := hgr4.cell (show ((wk.drew).alloc (.cells #[.int .i64 (a : Int)] 3)).cell? ⟨xb, 0, none⟩ = some (.int .i64 b) from by go_simp) HNE.out.1
              have bc4 := hgr4.cell (show ((wk.drew).alloc (.cells #[.int .i64 (a : Int)] 3)).cell? ⟨bb, b, none⟩ = some (.slice Ak lk ck) from by go_simp) HNE.out.2
              have bf4 : w7.frozen? ⟨bb, b, none⟩ = false := (HVR.out.row.grown hgr4 HNE.out.2).fz b
              refine hK.out _ _ (by dsimp only [Obl]; exact xc4) ?_
              clear hK K
              have HOWN4 := hid hown4; have HGR4 := hid hgr4; have HAT4 := hid hat4; clear hown4 hgr4 hat4
              try simp only [Act.put, List.setIfInBounds_toArray, List.set_cons_zero, List.set_cons_succ]
              refine anyJ_take (some 62) (i := 9) (T := fun _ => True) (v := ?_) rfl rfl (by kernel_rfl) (by kernel_rfl) (by kernel_rfl) (fun _ _ _ h => h) (js := [7, 8]) (by kernel_rfl) Leads.true rfl (Or.inl ⟨by rfl, ?_⟩) trivial ?_
              rotate_left
              · (intro wL hSw; (try dsimp only at hSw); go_simp; try with_reducible rfl)
              try simp only [Act.put, List.setIfInBounds_toArray, List.set_cons_zero, List.set_cons_succ]
              refine anyJ_one (i := 10) (oi := { dst := none, op := Go.Op.store 29 (Go.Operand.tmp 62) (Go.Operand.tmp 61), type := 0, pos := "dominators.go:184", after := #[{ on := 9, ground := Go.Ground.data }, { on := 8, ground := Go.Ground.data }, { on := 8, ground := Go.Ground.chain }, { on := 0, ground := Go.Ground.phase }, { on := 1, ground := Go.Ground.phase }, { on := 2, ground := Go.Ground.phase }, { on := 3, ground := Go.Ground.phase }, { on := 4, ground := Go.Ground.phase }, { on := 5, ground := Go.Ground.phase }, { on := 6, ground := Go.Ground.phase }, { on := 7, ground := Go.Ground.phase }, { on := 8, ground := Go.Ground.phase }], guard := none }) rfl (by kernel_rfl) (by rfl) (fun K hK => ?_)
              go_simp
              refine hK.out _ _ trivial ?_
              clear hK K
              try simp only [Act.put, List.setIfInBounds_toArray, List.set_cons_zero, List.set_cons_succ]
              refine anyJ_done (by kernel_rfl) ?_
              go_wp2_with fail
              have hb7 : Below (w3.heap.size + 1) W0 (w7.setCell ⟨bb, b, none⟩ (.slice A7 (lk + 1) c7)) :=
                ((HBK.out.trans ((bthen (below_drew' _) (below_alloc wk.drew (.cells #[.int .i64 (a : Int)] 3))).mono (by omega))).grown HGR4.out (by simp; omega) (fun j hj => Nat.le_trans kB (HOW.out.lt j hj).1)).setCell (p := ⟨bb, b, none⟩) kb _
              have h1 := HOWN4.out
              have h2 := HGR4.out
              have h3 := HAT4.out
              have hcg := curB_get R F n b a hlt
              rw [← HESV.out] at h2 h3
              rw [HLK.out, ← hcg] at h1 h3
              have hpush := HVR.out.push b (by rw [curB_length]; exact hlt) h1 h2 (by simpa using h3)
              have hshun := HVR.out.own.shun b (by rw [curB_length]; exact hlt) (x := (a : Int)) (q := xb) (by simp; omega) (by simpa using h3) HSH.out
              have hcn := curB_next R F n b a
              rw [HY.out, if_pos rfl] at hcn
              rw [hcg, ← hcn] at hpush hshun
              have hx7 := ((HXK.out.below (bthen (below_drew' _) (below_alloc wk.drew (.cells #[.int .i64 (a : Int)] 3)))).grown HGR4.out HNE.out.1).far (b' := bb) zxb b (.slice A7 (lk + 1) c7)
              rw [← HLK.out] at hpush
              exact ⟨⟨a + 1, _, by omega, by go_num, hpush, hx7, hshun, hb7⟩, by simp [intOf]; omega⟩
        · obtain rfl : a = n := by omega
          rw [curB_full] at hv
          have HF := hid hv
          clear hv hx hsh hbi
          go_wp2_with fail
          exact ⟨⟨b + 1, vs, by omega, by go_num, HF.out, HBI.out⟩, by simp [intOf]; omega⟩
    · obtain rfl : b = n := by omega
      clear hv hbr
      go_wp2_with fail
      go_ret
      have hfin : curB R F b b 0 = conL F := by rw [curB_done]; unfold conL; rw [HR.out, HRV.out.relF, ← HNL.out]
      rw [← hfin]
      exact ⟨some ⟨bb, 0, none⟩, b, by rw [curB_length]; rfl, HVB.out.lrow, (bthen HB3.out HBW.out).trans (HBR.out.mono (by omega))⟩
end Go.Proofs.Ytjddegfigdpcbaa
