/- graph.dominates, Dominates, Postdominates. -/
import Derived.Test.YtjddegfigdpcbaaG
namespace Go.Proofs.Ytjddegfigdpcbaa
open Go.RowKit

structure GrA (W : World) (nf cb : Nat) (G : List (List Int)) : Prop where
  next : NextOk W nf cb G
  ok : GrOk G
  enter : ∀ args W, (callFunc nf args).run Try.prog W = .ok (.enter nf args) W
  size : G.length ≤ 1024
  short : ∀ i, i < G.length → (G.getD i []).length ≤ 1000000
theorem GrA.below {W W' : World} {nf cb : Nat} {G : List (List Int)} (h : GrA W nf cb G) (hb : Below W.heap.size W W') : GrA W' nf cb G := ⟨h.next.below hb, h.ok, h.enter, h.size, h.short⟩
theorem GrA.reach {W w : World} {nf cb : Nat} {G : List (List Int)} (h : GrA W nf cb G) (hb : Below W.heap.size W w) (n root : Nat) (wo : Int) (la : Option Addr) (lc : Nat) (L : List Int) (hn : n = G.length)
    (hL : Row w la (ints L)) (hl : ∀ x ∈ L, 0 ≤ x ∧ x < (n : Int)) (hll : L.length ≤ 1000000) :
    Calls Try.prog 54 #[gval n root nf cb, .int .i64 wo, .slice la L.length lc] w (GivesMarks w (reachB G wo L)) :=
  reach_any n root nf cb G wo la lc L w h.enter hn (by rw [hn]; exact h.size) h.ok (h.next.below hb) hL hl hll h.short
theorem VldF.ok {F : List (List Int)} (h : VldF F) : GrOk F := fun i hi x hx => by
  obtain ⟨j, hj, rfl⟩ := List.mem_iff_getElem.1 hx
  have := h.edges i hi j hj
  have e : (F.getD i []).getD j 0 = (F.getD i [])[j] := by
    generalize F.getD i [] = N at hj
    simp [List.getD_eq_getElem?_getD, hj]
  rw [e] at this
  omega
theorem GrA.fwd {W : World} {cb : Nat} {F : List (List Int)} (h : NextOk W 57 cb F) (hV : VldF F) (hs : ∀ i, i < F.length → (F.getD i []).length ≤ 900) : GrA W 57 cb F := ⟨h, hV.ok, enter57, hV.hi, fun i hi => Nat.le_trans (hs i hi) (by omega)⟩
theorem GrA.bwd {W : World} {cb : Nat} {F B : List (List Int)} (h : NextOk W 58 cb B) (hV : VldF F) (hr : IsRev F B) : GrA W 58 cb B := ⟨h, hr.ok, enter58, by rw [hr.len]; exact hV.hi, hr.short⟩

def domB (G : List (List Int)) (root a b : Nat) : Bool := (reachB G (-1) [(root : Int)]).getD b false && !(reachB G (a : Int) [(root : Int)]).getD b false
def domP (G : List (List Int)) (root : Nat) (a b : Int) : Prop := 0 ≤ a ∧ 0 ≤ b ∧ a < G.length ∧ b < G.length ∧ domB G root a.toNat b.toNat = true

theorem Rch.congr {G G' : List (List Int)} {wo : Int} {L : List Int} (hl : G.length = G'.length) (h : ∀ i, i < G.length → ∀ x, x ∈ G.getD i [] ↔ x ∈ G'.getD i []) {j : Nat} (hr : Rch G wo L j) : Rch G' wo L j := by
  induction hr with
  | start h1 h2 => exact .start h1 h2
  | step h1 hi h2 h3 ih => exact .step ih (by omega) ((h _ hi _).1 h2) h3
theorem reachB_congr {G G' : List (List Int)} (hl : G.length = G'.length) (ho : GrOk G) (ho' : GrOk G') (h : ∀ i, i < G.length → ∀ x, x ∈ G.getD i [] ↔ x ∈ G'.getD i []) (wo : Int) (L : List Int) : reachB G wo L = reachB G' wo L := by
  refine getD_ext false (by rw [reachB_length, reachB_length, hl]) fun j hj => ?_
  rw [reachB_length] at hj
  rw [Bool.eq_iff_iff, reachB_iff ho wo L j hj, reachB_iff ho' wo L j (by omega)]
  exact ⟨fun hr => hr.congr hl h, fun hr => hr.congr hl.symm (fun i hi x => (h i (by omega) x).symm)⟩
theorem domP_congr {G G' : List (List Int)} (hl : G.length = G'.length) (ho : GrOk G) (ho' : GrOk G') (h : ∀ i, i < G.length → ∀ x, x ∈ G.getD i [] ↔ x ∈ G'.getD i []) {root : Nat} (a b : Int) : domP G root a b ↔ domP G' root a b := by
  unfold domP domB
  rw [hl, reachB_congr hl ho ho' h, reachB_congr hl ho ho' h]
set_option maxHeartbeats 1000000 in
theorem dominates_any (n root nf cb : Nat) (G : List (List Int)) (a b : Int) (w : World) (hA : GrA w nf cb G) (hn : n = G.length) (hr : root < n) :
    Calls Try.prog 46 #[gval n root nf cb, .int .i64 a, .int .i64 b] w fun e w' => Tells (domP G root a b) e ∧ Below w.heap.size w w' := by
  have hsz := hA.size
  unfold gval
  have HA := hid hA; have HN := hid hn; clear hA hn
  by_cases q1 : a < 0
  · go_enter Try.func46, Try.ntmps46
    go_wp2_with fail
    go_ret
    exact ⟨.no fun h => absurd h.1 (by omega), below_alloc _ _⟩
  have q1' : decide (a < 0) = false := by simp; omega
  by_cases q2 : b < 0
  · go_enter Try.func46, Try.ntmps46
    go_wp2_with fail
    go_ret
    exact ⟨.no fun h => absurd h.2.1 (by omega), below_alloc _ _⟩
  have q2' : decide (b < 0) = false := by simp; omega
  by_cases q3 : (n : Int) ≤ a
  · go_enter Try.func46, Try.ntmps46
    go_wp2_with fail
    go_ret
    exact ⟨.no fun h => absurd h.2.2.1 (by rw [← HN.out]; omega), below_alloc _ _⟩
  have q3' : decide ((n : Int) ≤ a) = false := by simp; omega
  by_cases q4 : (n : Int) ≤ b
  · go_enter Try.func46, Try.ntmps46
    go_wp2_with fail
    go_ret
    exact ⟨.no fun h => absurd h.2.2.2.1 (by rw [← HN.out]; omega), below_alloc _ _⟩
  have q4' : decide ((n : Int) ≤ b) = false := by simp; omega
  obtain ⟨p, rfl⟩ := Int.eq_ofNat_of_zero_le (show 0 ≤ a by omega)
  obtain ⟨q, rfl⟩ := Int.eq_ofNat_of_zero_le (show 0 ≤ b by omega)
  have hp : p < n := by omega
  have hq : q < n := by omega
  have hdom : domP G root (p : Int) (q : Int) ↔ domB G root p q = true := by
    unfold domP; rw [← HN.out]; simp only [Int.toNat_natCast]
    exact ⟨fun h => h.2.2.2.2, fun h => ⟨by omega, by omega, by omega, by omega, h⟩⟩
  have HD := hid hdom
  have j1 : (0 : Int) ≤ (q : Int) := by omega
  have j2 : (q : Int) < (n : Int) := by omega
  have hlr : ∀ x ∈ [(root : Int)], 0 ≤ x ∧ x < (n : Int) := by simp; omega
  have HLR := hid hlr
  have hl1 : (reachB G (-1) [(root : Int)]).length = n := by rw [reachB_length, HN.out]
  have hl2 : (reachB G (p : Int) [(root : Int)]).length = n := by rw [reachB_length, HN.out]
  have HL1 := hid hl1; have HL2 := hid hl2
  clear hdom hlr hl1 hl2
  have b1 := bthen (below_alloc w (.cells #[.int .i64 n, .int .i64 root, .func (.func nf) #[] #[.pointer (some ⟨cb, 0, none⟩)]] 54)) (below_alloc _ (.cells #[.int .i64 root] 3))
  have HB1 := hid b1; clear b1
  go_enter Try.func46, Try.ntmps46
  go_wp2_with fail
  have hrow := Row.one (w.alloc (.cells #[.int .i64 n, .int .i64 root, .func (.func nf) #[] #[.pointer (some ⟨cb, 0, none⟩)]] 54)) (.int .i64 root) 3
  rw [show (w.alloc (.cells #[.int .i64 n, .int .i64 root, .func (.func nf) #[] #[.pointer (some ⟨cb, 0, none⟩)]] 54)).heap.size = w.heap.size + 1 from by simp] at hrow
  refine (HA.out.reach HB1.out n root (-1) _ 1 [(root : Int)] HN.out hrow HLR.out (by simp)).mono ?_
  rintro e w1 ⟨rb, he, hm, hrb, hb1⟩
  rw [HL1.out] at he
  subst he
  have g0 := below_cell hb1 (show ((w.alloc (.cells #[.int .i64 n, .int .i64 root, .func (.func nf) #[] #[.pointer (some ⟨cb, 0, none⟩)]] 54)).alloc (.cells #[.int .i64 root] 3)).cell? ⟨w.heap.size, 0, none⟩ = some (.int .i64 n) from by go_simp)
  have g1 := below_cell hb1 (show ((w.alloc (.cells #[.int .i64 n, .int .i64 root, .func (.func nf) #[] #[.pointer (some ⟨cb, 0, none⟩)]] 54)).alloc (.cells #[.int .i64 root] 3)).cell? ⟨w.heap.size, 1, none⟩ = some (.int .i64 root) from by go_simp)
  have g2 := below_cell hb1 (show ((w.alloc (.cells #[.int .i64 n, .int .i64 root, .func (.func nf) #[] #[.pointer (some ⟨cb, 0, none⟩)]] 54)).alloc (.cells #[.int .i64 root] 3)).cell? ⟨w.heap.size, 2, none⟩ = some (.func (.func nf) #[] #[.pointer (some ⟨cb, 0, none⟩)]) from by go_simp)
  have mc := hm.cell q (by rw [HL1.out]; exact hq)
  have HB2 := hid (bthen HB1.out hb1)
  obtain ⟨x1, hx1⟩ : ∃ x, x = (reachB G (-1) [(root : Int)]).getD q false := ⟨_, rfl⟩
  rw [← hx1] at mc
  have HX1 := hid hx1
  clear hrow hb1 hm hx1 hrb
  cases x1 with
  | false =>
    go_wp2_with fail
    go_ret
    refine ⟨.no fun h => ?_, HB2.out⟩
    have := HD.out.1 h
    unfold domB at this
    rw [← HX1.out] at this
    cases this
  | true =>
    go_wp2_with fail
    refine (HA.out.reach (bthen HB2.out (below_alloc w1 (.cells #[.int .i64 root] 3))) n root (p : Int) _ 1 [(root : Int)] HN.out (Row.one _ _ _) HLR.out (by simp)).mono ?_
    rintro e w2 ⟨rb2, he, hm2, hrb2, hb2⟩
    rw [HL2.out] at he
    subst he
    have mc2 := hm2.cell q (by rw [HL2.out]; exact hq)
    have HB3 := hid (bthen (bthen HB2.out (below_alloc w1 (.cells #[.int .i64 root] 3))) hb2)
    obtain ⟨x2, hx2⟩ : ∃ x, x = (reachB G (p : Int) [(root : Int)]).getD q false := ⟨_, rfl⟩
    rw [← hx2] at mc2
    have HX2 := hid hx2
    clear hb2 hm2 hx2 hrb2 mc
    go_wp2_with fail
    go_ret
    refine ⟨⟨!x2, rfl, ?_⟩, HB3.out⟩
    rw [HD.out]
    unfold domB
    rw [← HX1.out, ← HX2.out, Bool.true_and]

theorem Dominates_any (pa : Option Addr) (pc : Nat) (F : List (List Int)) (a b : Int) (w : World) (hF : FRow w pa F) (hsm : ∀ i, i < F.length → (F.getD i []).length ≤ 900) :
    Calls Try.prog 20 #[.agg #[.slice pa F.length pc], .int .i64 a, .int .i64 b] w fun e w' => Tells (VldF F ∧ domP F 0 a b) e ∧ Below w.heap.size w w' := by
  by_cases hV : VldF F
  · have hlo := hV.lo
    have HV := hid hV; clear hV
    go_enter Try.func20, Try.ntmps20
    go_wp2_with (go_at_call 13; refine (valid_any _ _ _ _ (hF.below (below_alloc _ _)) (fun i hi => Nat.le_trans (hsm i hi) (by omega))).mono ?_; rintro e w1 ⟨ht, hb1⟩; obtain rfl := ht.eq_yes HV.out; have g0 := box_cell hb1 0 _ rfl; have HB1 := hid (bthen (below_alloc w _) hb1); clear ht hb1)
    refine (forward_any pa pc F _ (hF.below HB1.out) HV.out.hi).mono ?_
    rintro e w2 ⟨cb, rfl, hnx, hb2⟩
    have HB2 := hid (bthen HB1.out hb2); have HNX := hid hnx
    clear hnx hb2
    go_wp2_with fail
    refine (dominates_any F.length 0 57 cb F a b _ (GrA.fwd HNX.out HV.out hsm) rfl (by omega)).mono ?_
    rintro e w3 ⟨⟨t, rfl, ht⟩, hb3⟩
    have HT := hid ht; have HB3 := hid (bthen HB2.out hb3); clear ht hb3
    go_wp2_with fail
    go_ret
    exact ⟨⟨t, rfl, HT.out.trans ⟨fun h => ⟨HV.out, h⟩, fun h => h.2⟩⟩, HB3.out⟩
  · have HV := hid hV; clear hV
    go_enter Try.func20, Try.ntmps20
    go_wp2_with (go_at_call 13; refine (valid_any _ _ _ _ (hF.below (below_alloc _ _)) (fun i hi => Nat.le_trans (hsm i hi) (by omega))).mono ?_; rintro e w1 ⟨ht, hb1⟩; obtain rfl := ht.eq_no HV.out; have g0 := box_cell hb1 0 _ rfl; have HB1 := hid (bthen (below_alloc w _) hb1); clear ht hb1)
    go_ret
    exact ⟨.no fun h => HV.out h.1, HB1.out⟩
/-- the postdominators are those of any reversed graph -/
theorem Postdominates_any (pa : Option Addr) (pc : Nat) (F : List (List Int)) (a b : Int) (w : World) (hF : FRow w pa F) (hsm : ∀ i, i < F.length → (F.getD i []).length ≤ 900) :
    Calls Try.prog 22 #[.agg #[.slice pa F.length pc], .int .i64 a, .int .i64 b] w fun e w' => Tells (VldF F ∧ ∃ B, IsRev F B ∧ domP B 1 a b) e ∧ Below w.heap.size w w' := by
  by_cases hV : VldF F
  · have hlo := hV.lo
    have HV := hid hV; clear hV
    go_enter Try.func22, Try.ntmps22
    go_wp2_with (go_at_call 13; refine (valid_any _ _ _ _ (hF.below (below_alloc _ _)) (fun i hi => Nat.le_trans (hsm i hi) (by omega))).mono ?_; rintro e w1 ⟨ht, hb1⟩; obtain rfl := ht.eq_yes HV.out; have g0 := box_cell hb1 0 _ rfl; have HB1 := hid (bthen (below_alloc w _) hb1); clear ht hb1)
    refine (backward_any pa pc F _ (hF.below HB1.out) HV.out hsm).mono ?_
    rintro e w2 ⟨B, ⟨cb, rfl, hnx, hb2⟩, hrev⟩
    have HB2 := hid (bthen HB1.out hb2); have HNX := hid hnx; have HR := hid hrev
    clear hnx hb2 hrev
    go_wp2_with fail
    refine (dominates_any B.length 1 58 cb B a b _ (GrA.bwd HNX.out HV.out HR.out) rfl (by rw [HR.out.len]; omega)).mono ?_
    rintro e w3 ⟨⟨t, rfl, ht⟩, hb3⟩
    have HT := hid ht; have HB3 := hid (bthen HB2.out hb3); clear ht hb3
    go_wp2_with fail
    go_ret
    refine ⟨⟨t, rfl, HT.out.trans ⟨fun h => ⟨HV.out, B, HR.out, h⟩, fun ⟨_, B', hr', h⟩ => ?_⟩⟩, HB3.out⟩
    exact (domP_congr (hr'.len.trans HR.out.len.symm) hr'.ok HR.out.ok (fun i hi x => (hr'.mem i (by rw [← hr'.len]; exact hi) x).trans (HR.out.mem i (by rw [← hr'.len]; exact hi) x).symm) a b).1 h
  · have HV := hid hV; clear hV
    go_enter Try.func22, Try.ntmps22
    go_wp2_with (go_at_call 13; refine (valid_any _ _ _ _ (hF.below (below_alloc _ _)) (fun i hi => Nat.le_trans (hsm i hi) (by omega))).mono ?_; rintro e w1 ⟨ht, hb1⟩; obtain rfl := ht.eq_no HV.out; have g0 := box_cell hb1 0 _ rfl; have HB1 := hid (bthen (below_alloc w _) hb1); clear ht hb1)
    go_ret
    exact ⟨.no fun h => HV.out h.1, HB1.out⟩
end Go.Proofs.Ytjddegfigdpcbaa
