/- The walk of assessorlaw24.GatesCones: true, at every input. -/
import Derived.Test.YtelbjendeldlcaaAY
namespace Go.Proofs.Ytelbjendeldlcaa
open Go.RowKit

theorem Row.of_form {w : World} {base n c : Nat} {A : Option Addr} {X : List Bool} (h : w.ownsRow base 4 1 (.slice A n c) n (bools X)) : A = none → c = 0 := by
  intro e; subst e
  rcases h.2 with ⟨he, _⟩ | ⟨g, cap, cur, he, _⟩
  · injection he with _ _ he
  · cases he
theorem mixed_step {X I : List Bool} {S : List Int} {j n : Nat} (hj : j < S.length) (hn : S.getD j 0 = (n : Int)) (hX : n < X.length) (h : ∀ i : Nat, (i : Int) ∈ S.take j → X.getD i false = I.getD i false) :
    ∀ i : Nat, (i : Int) ∈ S.take (j + 1) → (X.set n (I.getD n false)).getD i false = I.getD i false := by
  intro i hi
  by_cases hin : n = i
  · subst hin; simp [List.getD_eq_getElem?_getD, List.getElem?_set, hX]
  · have : (i : Int) ∈ S.take j := by
      rw [take_snoc S 0 j hj, hn] at hi
      rcases List.mem_append.1 hi with hi | hi
      · exact hi
      · simp at hi; omega
    rw [← h i this]
    simp [List.getD_eq_getElem?_getD, List.getElem?_set, hin]

theorem Row.setBool {w : World} {A : Option Addr} {S : List Int} {q : Addr} {y : Bool} (h : Row w A (ints S)) (hq : w.cell? q = some (.bool y)) (v : Value) : Row (w.setCell q v) A (ints S) := by
  intro j hj
  obtain ⟨sb, so, rfl, hc⟩ := h j hj
  refine ⟨sb, so, rfl, ?_⟩
  have hj' : j < S.length := by simpa [ints] using hj
  have hv : (ints S).getD j undef = .int .i64 (S.getD j 0) := by simp [ints, List.getD_eq_getElem?_getD, hj']
  rw [hv] at hc ⊢
  have hne : (⟨sb, so + j, none⟩ : Addr) ≠ q := by
    intro e; rw [e, hq] at hc; cases hc
  rw [World.cell?_setCell_other]
  · exact hc
  · exact hne.symm

set_option maxHeartbeats 4000000 in
set_option maxRecDepth 100000 in
theorem cones_core (m : Nat) (ga : Option Addr) (gc : Nat) (G : List (Int × Int)) (la : Option Addr) (lc : Nat) (L : List Int) (ia : Option Addr) (ic : Nat) (I : List Bool) (oa : Option Addr) (oc : Nat) (O : List Bool) (w : World) (H : List (Int × Int)) (M SL : List Int) (bs : List Bool)
    (hG : Row w ga (gcells G)) (hL : Row w la (ints L)) (hI : Row w ia (bools I)) (hO : Row w oa (bools O)) (hic : ia = none → ic = 0) (hoc : oa = none → oc = 0)
    (hgl : ¬ 40 < G.length) (hll : ¬ 40 < L.length) (hm : ¬ 10 < (m : Int)) (hil : I.length = m) (hol : O.length = m) (hH : H.length ≤ G.length) (hM : M.length ≤ 40) (hbl : bs.length ≤ 40)
    (hV : Vld m G ∧ Vld m H) (hK : LitOk (litN m G.length) L ∧ LitOk (litN m H.length) M) (hev : evalF I G L = bs ∧ evalF I H M = bs)
    (hSL : SL = supL (needF m G L) m) (hsb : ∀ j, j < SL.length → 0 ≤ SL.getD j 0 ∧ SL.getD j 0 < m) (hsl : SL.length ≤ 1024)
    (hmix : ∀ X : List Bool, X.length = m → (∀ i : Nat, (i : Int) ∈ SL → X.getD i false = I.getD i false) → evalF X G L = bs)
    (h29 : ∀ w', Row w' ga (gcells G) → Row w' la (ints L) → Calls Try.prog 29 #[.agg #[.int .i64 m, .slice ga G.length gc], .slice la L.length lc] w' (GivesCone w' m H M))
    (c29 : ∀ w' A c B d, Row w' A (gcells H) → Row w' B (ints M) → Calls Try.prog 29 #[.agg #[.int .i64 m, .slice A H.length c], .slice B M.length d] w' (GivesCone w' m H M)) :
    Calls Try.prog 8 #[.agg #[.int .i64 m, .slice ga G.length gc], .slice la L.length lc, .slice ia I.length ic, .slice oa O.length oc] w fun e w' => e = .returned (.bool true) ∧ Below w.heap.size w w' := by
  have H29 := hid h29; have C29 := hid c29; have HV := hid hV; have HK := hid hK; have HEV := hid hev; have HSL := hid hSL; have HSB := hid hsb; have HMIX := hid hmix
  have HIL := hid (show (I.length : Int) = (m : Int) by omega)
  have HOL := hid hol; have HILN := hid hil
  have g1 : decide ((40 : Int) < (G.length : Int)) = false := by simp; omega
  have g2 : decide ((40 : Int) < (L.length : Int)) = false := by simp; omega
  have g3 : decide ((10 : Int) < (m : Int)) = false := by simp; omega
  have g5 : ((I.length : Int) != (m : Int)) = false := by simp; omega
  have g6 : ((O.length : Int) != (m : Int)) = false := by simp; omega
  have g7 : decide ((G.length : Int) < (H.length : Int)) = false := by simp; omega
  have l1 : I.length ≤ 10 := by omega
  have l2 : O.length ≤ 10 := by omega
  have l3 : m ≤ 10 := by omega
  clear h29 c29 hV hK hev hSL hsb hmix hil hol
  go_enter Try.func8, Try.ntmps8
  go_wp2_with fail
  refine (awake_any _).mono ?_
  rintro e w1 ⟨rfl, hb1⟩
  have c0 := box_cell hb1 0 _ rfl; have c1 := box_cell hb1 1 _ rfl
  have HBW := hid (bthen (below_alloc w _) hb1); have HG := hid (hG.below HBW.out); have HL := hid (hL.below HBW.out); have HI := hid (hI.below HBW.out); have HO := hid (hO.below HBW.out)
  have z_c0 := lt_of_cell c0; dsimp only at z_c0; clear hb1
  go_wp2_with fail
  refine (valid_any m ga gc G _ HG.out (by omega)).mono ?_
  rintro e w2 ⟨ht, hb2⟩; obtain rfl := ht.eq_yes HV.out.1; clear ht
  have c0 := below_cell hb2 c0
  have c1 := below_cell hb2 c1
  have HG := hid (HG.out.below hb2)
  have HL := hid (HL.out.below hb2)
  have HI := hid (HI.out.below hb2)
  have HO := hid (HO.out.below hb2)
  have HBW := hid (bthen HBW.out hb2)
  clear hb2
  have z_c0 := lt_of_cell c0; dsimp only at z_c0
  go_wp2_with fail
  refine (eval_yes m ga gc G ia ic I la lc L _ HG.out (by omega) HL.out HI.out hic ⟨HV.out.1, HK.out.1, HIL.out⟩).mono ?_
  rw [HEV.out.1]; rintro e w3 ⟨A3, e3, rfl, hr3, hb3⟩
  have c0 := below_cell hb3 c0
  have c1 := below_cell hb3 c1
  have HG := hid (HG.out.below hb3)
  have HL := hid (HL.out.below hb3)
  have HI := hid (HI.out.below hb3)
  have HO := hid (HO.out.below hb3)
  have HBW := hid (bthen HBW.out hb3)
  have HR := hid hr3; clear hr3
  clear hb3
  have z_c0 := lt_of_cell c0; dsimp only at z_c0
  go_wp2_with fail
  refine (H29.out _ HG.out HL.out).mono ?_
  rintro e w4 ⟨A4, e4, B4, k4, rfl, hr4, hm4, hb4⟩
  have c0 := below_cell hb4 c0
  have c1 := below_cell hb4 c1
  have HG := hid (HG.out.below hb4)
  have HL := hid (HL.out.below hb4)
  have HI := hid (HI.out.below hb4)
  have HO := hid (HO.out.below hb4)
  have HR := hid (HR.out.below hb4)
  have HBW := hid (bthen HBW.out hb4)
  have HH4 := hid hr4; have HM4 := hid hm4; clear hr4 hm4
  clear hb4
  have z_c0 := lt_of_cell c0; dsimp only at z_c0
  go_wp2_with fail
  refine (C29.out _ A4 e4 B4 k4 (HH4.out.alloc (.cells #[.int .i64 m, .slice A4 H.length e4] 24)) (HM4.out.alloc (.cells #[.int .i64 m, .slice A4 H.length e4] 24))).mono ?_
  rintro e w5 ⟨A5, e5, B5, k5, rfl, hr5, hm5, hb5⟩
  have c0 := below_cell (bthen (below_alloc _ (.cells #[.int .i64 m, .slice A4 H.length e4] 24)) hb5) c0
  have c1 := below_cell (bthen (below_alloc _ (.cells #[.int .i64 m, .slice A4 H.length e4] 24)) hb5) c1
  have HG := hid (HG.out.below (bthen (below_alloc _ (.cells #[.int .i64 m, .slice A4 H.length e4] 24)) hb5))
  have HL := hid (HL.out.below (bthen (below_alloc _ (.cells #[.int .i64 m, .slice A4 H.length e4] 24)) hb5))
  have HI := hid (HI.out.below (bthen (below_alloc _ (.cells #[.int .i64 m, .slice A4 H.length e4] 24)) hb5))
  have HO := hid (HO.out.below (bthen (below_alloc _ (.cells #[.int .i64 m, .slice A4 H.length e4] 24)) hb5))
  have HR := hid (HR.out.below (bthen (below_alloc _ (.cells #[.int .i64 m, .slice A4 H.length e4] 24)) hb5))
  have HH4 := hid (HH4.out.below (bthen (below_alloc _ (.cells #[.int .i64 m, .slice A4 H.length e4] 24)) hb5))
  have HM4 := hid (HM4.out.below (bthen (below_alloc _ (.cells #[.int .i64 m, .slice A4 H.length e4] 24)) hb5))
  have HBW := hid (bthen HBW.out (bthen (below_alloc _ (.cells #[.int .i64 m, .slice A4 H.length e4] 24)) hb5))
  have d0 := box_cell hb5 0 _ rfl; have d1 := box_cell hb5 1 _ rfl; have HH5 := hid hr5; have HM5 := hid hm5; clear hr5 hm5
  have z_d0 := lt_of_cell d0; dsimp only at z_d0
  clear hb5
  have z_c0 := lt_of_cell c0; dsimp only at z_c0
  go_wp2_with fail
  refine (eval_yes m A4 e4 H ia ic I B4 k4 M _ (HH4.out.alloc (.cells #[.int .i64 m, .slice A5 H.length e5] 24)) (by omega) (HM4.out.alloc (.cells #[.int .i64 m, .slice A5 H.length e5] 24)) (HI.out.alloc (.cells #[.int .i64 m, .slice A5 H.length e5] 24)) hic ⟨HV.out.2, HK.out.2, HIL.out⟩).mono ?_
  rw [HEV.out.2]; rintro e w6 ⟨A6, e6, rfl, hr6, hb6⟩
  have c0 := below_cell (bthen (below_alloc _ (.cells #[.int .i64 m, .slice A5 H.length e5] 24)) hb6) c0
  have c1 := below_cell (bthen (below_alloc _ (.cells #[.int .i64 m, .slice A5 H.length e5] 24)) hb6) c1
  have d0 := below_cell (bthen (below_alloc _ (.cells #[.int .i64 m, .slice A5 H.length e5] 24)) hb6) d0
  have d1 := below_cell (bthen (below_alloc _ (.cells #[.int .i64 m, .slice A5 H.length e5] 24)) hb6) d1
  have HG := hid (HG.out.below (bthen (below_alloc _ (.cells #[.int .i64 m, .slice A5 H.length e5] 24)) hb6))
  have HL := hid (HL.out.below (bthen (below_alloc _ (.cells #[.int .i64 m, .slice A5 H.length e5] 24)) hb6))
  have HI := hid (HI.out.below (bthen (below_alloc _ (.cells #[.int .i64 m, .slice A5 H.length e5] 24)) hb6))
  have HO := hid (HO.out.below (bthen (below_alloc _ (.cells #[.int .i64 m, .slice A5 H.length e5] 24)) hb6))
  have HR := hid (HR.out.below (bthen (below_alloc _ (.cells #[.int .i64 m, .slice A5 H.length e5] 24)) hb6))
  have HH4 := hid (HH4.out.below (bthen (below_alloc _ (.cells #[.int .i64 m, .slice A5 H.length e5] 24)) hb6))
  have HM4 := hid (HM4.out.below (bthen (below_alloc _ (.cells #[.int .i64 m, .slice A5 H.length e5] 24)) hb6))
  have HH5 := hid (HH5.out.below (bthen (below_alloc _ (.cells #[.int .i64 m, .slice A5 H.length e5] 24)) hb6))
  have HM5 := hid (HM5.out.below (bthen (below_alloc _ (.cells #[.int .i64 m, .slice A5 H.length e5] 24)) hb6))
  have HBW := hid (bthen HBW.out (bthen (below_alloc _ (.cells #[.int .i64 m, .slice A5 H.length e5] 24)) hb6))
  have f0 := box_cell hb6 0 _ rfl; have f1 := box_cell hb6 1 _ rfl; have HR6 := hid hr6; clear hr6
  have z_f0 := lt_of_cell f0; dsimp only at z_f0
  clear hb6
  have z_c0 := lt_of_cell c0; dsimp only at z_c0
  have z_d0 := lt_of_cell d0; dsimp only at z_d0
  go_wp2_with fail
  refine (valid_any m A4 e4 H _ HH4.out (by omega)).mono ?_
  rintro e w7 ⟨ht, hb7⟩; obtain rfl := ht.eq_yes HV.out.2; clear ht
  have c0 := below_cell hb7 c0
  have c1 := below_cell hb7 c1
  have d0 := below_cell hb7 d0
  have d1 := below_cell hb7 d1
  have f0 := below_cell hb7 f0
  have f1 := below_cell hb7 f1
  have HG := hid (HG.out.below hb7)
  have HL := hid (HL.out.below hb7)
  have HI := hid (HI.out.below hb7)
  have HO := hid (HO.out.below hb7)
  have HR := hid (HR.out.below hb7)
  have HH4 := hid (HH4.out.below hb7)
  have HM4 := hid (HM4.out.below hb7)
  have HH5 := hid (HH5.out.below hb7)
  have HM5 := hid (HM5.out.below hb7)
  have HR6 := hid (HR6.out.below hb7)
  have HBW := hid (bthen HBW.out hb7)
  clear hb7
  have z_c0 := lt_of_cell c0; dsimp only at z_c0
  have z_d0 := lt_of_cell d0; dsimp only at z_d0
  have z_f0 := lt_of_cell f0; dsimp only at z_f0
  go_wp2_with fail
  refine (equalB_any A6 A3 e6 e3 bs bs _ (by omega) (by omega) HR6.out HR.out).mono ?_
  rintro e w8 ⟨ht, hb8⟩; obtain rfl := ht.eq_yes rfl; clear ht
  have c0 := below_cell hb8 c0
  have c1 := below_cell hb8 c1
  have d0 := below_cell hb8 d0
  have d1 := below_cell hb8 d1
  have f0 := below_cell hb8 f0
  have f1 := below_cell hb8 f1
  have HG := hid (HG.out.below hb8)
  have HL := hid (HL.out.below hb8)
  have HI := hid (HI.out.below hb8)
  have HO := hid (HO.out.below hb8)
  have HR := hid (HR.out.below hb8)
  have HH4 := hid (HH4.out.below hb8)
  have HM4 := hid (HM4.out.below hb8)
  have HH5 := hid (HH5.out.below hb8)
  have HM5 := hid (HM5.out.below hb8)
  have HR6 := hid (HR6.out.below hb8)
  have HBW := hid (bthen HBW.out hb8)
  clear hb8
  have z_c0 := lt_of_cell c0; dsimp only at z_c0
  have z_d0 := lt_of_cell d0; dsimp only at z_d0
  have z_f0 := lt_of_cell f0; dsimp only at z_f0
  go_wp2_with fail
  refine (same_any m m A4 A5 e4 e5 H H _ (by omega) (by omega) HH4.out HH5.out).mono ?_
  rintro e w9 ⟨ht, hb9⟩; obtain rfl := ht.eq_yes ⟨rfl, rfl⟩; clear ht
  have c0 := below_cell hb9 c0
  have c1 := below_cell hb9 c1
  have d0 := below_cell hb9 d0
  have d1 := below_cell hb9 d1
  have f0 := below_cell hb9 f0
  have f1 := below_cell hb9 f1
  have HG := hid (HG.out.below hb9)
  have HL := hid (HL.out.below hb9)
  have HI := hid (HI.out.below hb9)
  have HO := hid (HO.out.below hb9)
  have HR := hid (HR.out.below hb9)
  have HH4 := hid (HH4.out.below hb9)
  have HM4 := hid (HM4.out.below hb9)
  have HH5 := hid (HH5.out.below hb9)
  have HM5 := hid (HM5.out.below hb9)
  have HR6 := hid (HR6.out.below hb9)
  have HBW := hid (bthen HBW.out hb9)
  clear hb9
  have z_c0 := lt_of_cell c0; dsimp only at z_c0
  have z_d0 := lt_of_cell d0; dsimp only at z_d0
  have z_f0 := lt_of_cell f0; dsimp only at z_f0
  go_wp2_with fail
  refine (equalI_any B4 B5 k4 k5 M M _ (by omega) (by omega) HM4.out HM5.out).mono ?_
  rintro e w10 ⟨ht, hb10⟩; obtain rfl := ht.eq_yes rfl; clear ht
  have c0 := below_cell hb10 c0
  have c1 := below_cell hb10 c1
  have d0 := below_cell hb10 d0
  have d1 := below_cell hb10 d1
  have f0 := below_cell hb10 f0
  have f1 := below_cell hb10 f1
  have HG := hid (HG.out.below hb10)
  have HL := hid (HL.out.below hb10)
  have HI := hid (HI.out.below hb10)
  have HO := hid (HO.out.below hb10)
  have HR := hid (HR.out.below hb10)
  have HH4 := hid (HH4.out.below hb10)
  have HM4 := hid (HM4.out.below hb10)
  have HH5 := hid (HH5.out.below hb10)
  have HM5 := hid (HM5.out.below hb10)
  have HR6 := hid (HR6.out.below hb10)
  have HBW := hid (bthen HBW.out hb10)
  clear hb10
  have z_c0 := lt_of_cell c0; dsimp only at z_c0
  have z_d0 := lt_of_cell d0; dsimp only at z_d0
  have z_f0 := lt_of_cell f0; dsimp only at z_f0
  have HI10 := HI; have HG10 := HG; have HL10 := HL; have HR10 := HR; have HC10 := hid c0; have HC11 := hid c1; have HB10 := HBW
  go_wp2_with fail
  refine (clone_any oa oc O _ HO.out hoc (by omega)).mono ?_
  rintro e w11 ⟨A11, e11, rfl, hr11, hb11⟩
  have c0 := below_cell hb11 c0
  have c1 := below_cell hb11 c1
  have d0 := below_cell hb11 d0
  have d1 := below_cell hb11 d1
  have f0 := below_cell hb11 f0
  have f1 := below_cell hb11 f1
  have HG := hid (HG.out.below hb11)
  have HL := hid (HL.out.below hb11)
  have HI := hid (HI.out.below hb11)
  have HO := hid (HO.out.below hb11)
  have HR := hid (HR.out.below hb11)
  have HH4 := hid (HH4.out.below hb11)
  have HM4 := hid (HM4.out.below hb11)
  have HH5 := hid (HH5.out.below hb11)
  have HM5 := hid (HM5.out.below hb11)
  have HR6 := hid (HR6.out.below hb11)
  have HBW := hid (bthen HBW.out hb11)
  have HX0 := hid hr11; clear hr11
  have HB11 := hid hb11
  clear HH4 HM4 HH5 HM5 HR6 d0 d1 f0 f1
  clear hb11
  have z_c0 := lt_of_cell c0; dsimp only at z_c0
  have z_d0 := lt_of_cell d0; dsimp only at z_d0
  have z_f0 := lt_of_cell f0; dsimp only at z_f0
  go_wp2_with fail
  refine (support_yes m ga gc G la lc L _ HG.out (by omega) HL.out HV.out.1 HK.out.1).mono ?_
  rw [← HSL.out]; rintro e w12 ⟨A12, e12, rfl, hr12, hb12⟩
  have c0 := below_cell hb12 c0
  have c1 := below_cell hb12 c1
  have HG := hid (HG.out.below hb12)
  have HL := hid (HL.out.below hb12)
  have HI := hid (HI.out.below hb12)
  have HO := hid (HO.out.below hb12)
  have HR := hid (HR.out.below hb12)
  have HBW := hid (bthen HBW.out hb12)
  have HS := hid hr12; have HX0 := hid (own_below HX0.out hb12); have HBC := hid (bthen HB11.out hb12); clear hr12 HB11
  clear hb12
  have z_c0 := lt_of_cell c0; dsimp only at z_c0
  go_wp2_with fail
  go_loopw [135] (fun i wr => ∃ j : Nat, ∃ X : List Bool, j ≤ SL.length ∧ i = .int .i64 j ∧ X.length = m ∧ Below w10.heap.size w10 wr ∧ wr.ownsRow w10.heap.size 4 1 (.slice A11 O.length e11) O.length (bools X) ∧ Row wr A12 (ints SL) ∧ ∀ i : Nat, (i : Int) ∈ SL.take j → X.getD i false = I.getD i false)
    (fun i _ => SL.length - (intOf i).toNat)
  case atStart => exact ⟨0, O, by omega, rfl, HOL.out, HBC.out, HX0.out, HS.out, fun i hi => by simp at hi⟩
  case round =>
    obtain ⟨j, X, hj, rfl, hXl, hbr, hown, hrs, hall⟩ := hrel
    have HXL := hid hXl; have HBR := hid hbr; have HOWN := hid hown; have HALL := hid hall; have HRS := hid hrs
    clear hXl hall
    by_cases hlt : j < SL.length
    · obtain ⟨sb, so, rfl, hx⟩ := hrs.int j hlt
      obtain ⟨hx0, hx1⟩ := HSB.out j hlt
      obtain ⟨x, hx2⟩ : ∃ x, x = SL.getD j 0 := ⟨_, rfl⟩
      rw [← hx2] at hx hx0 hx1
      obtain ⟨p, rfl⟩ := Int.eq_ofNat_of_zero_le hx0
      have hp : p < m := by omega
      have HX2 := hid hx2
      have hol := HOL.out
      obtain ⟨g, cap, hv, hbg, _⟩ := hown.form (by omega)
      injection hv with hv1 hv2 hv3
      subst hv1
      obtain ⟨ib, io, rfl, hi⟩ := (HI10.out.below hbr).bool p (by rw [HILN.out]; exact hp)
      obtain ⟨b, hb⟩ : ∃ b, b = I.getD p false := ⟨_, rfl⟩
      rw [← hb] at hi
      have HB := hid hb
      have hcc := hown.cellAt p (by omega)
      rw [show (bools X)[p]? = some (.bool (X.getD p false)) from by simp [bools, List.getD_eq_getElem?_getD, List.getElem?_eq_getElem (show p < X.length by rw [HXL.out]; exact hp)]] at hcc
      obtain ⟨y, hy⟩ : ∃ y, y = X.getD p false := ⟨_, rfl⟩
      rw [← hy] at hcc
      have hcf := hown.frozenAt p
      have hst := hown.stored p (.bool b)
      have HST := hid hst
      have hrow := Row.setBool hrs hcc (.bool b)
      have HROW := hid hrow
      have k1 : (p : Int) < (O.length : Int) := by omega
      have k2 : (p : Int) < (I.length : Int) := by rw [HIL.out]; omega
      have k3 : decide ((p : Int) < 0) = false := by simp
      have k4 : (0 : Int) ≤ (p : Int) := by omega
      clear hx2 hb hy hown hst hrow hrs hol hv2 hv3 hbr
      go_wp2_with fail
      refine ⟨⟨j + 1, X.set p b, by omega, by go_num, by rw [List.length_set]; exact HXL.out, HBR.out.setCell (p := ⟨g, p, none⟩) hbg _, ?_, HROW.out, ?_⟩, by simp [intOf]; omega⟩
      · rw [show bools (X.set p b) = (bools X).set p (.bool b) from by simp [bools, List.map_set]]; exact HST.out.1
      · rw [HB.out]
        exact mixed_step hlt HX2.out.symm (by rw [HXL.out]; exact hp) HALL.out
    · obtain rfl : j = SL.length := by omega
      have c0' := below_cell hbr HC10.out
      have c1' := below_cell hbr HC11.out
      have hXO : O.length = X.length := by rw [HOL.out, HXL.out]
      have hall := HALL.out
      rw [List.take_length] at hall
      have hmx := HMIX.out X HXL.out hall
      have hev := eval_yes m ga gc G A11 e11 X la lc L wr (HG10.out.below hbr) (by omega) (HL10.out.below hbr) (by have := Row.of_own hown; exact this) (Row.of_form hown) ⟨HV.out.1, HK.out.1, by rw [HXL.out]⟩
      rw [hmx, ← hXO] at hev
      have HEV2 := hid hev
      clear hev hmx hall hXO hown hrs
      go_wp2_with fail
      refine HEV2.out.mono ?_
      rintro e w13 ⟨A13, e13, rfl, hr13, hb13⟩
      have HR13 := hid hr13; have HR3 := hid (HR10.out.below (bthen hbr hb13)); have HB13 := hid (bthen (bthen HB10.out hbr) hb13)
      clear hr13 hb13
      go_wp2_with fail
      refine (equalB_any A13 A3 e13 e3 bs bs _ (by omega) (by omega) HR13.out HR3.out).mono ?_
      rintro e w14 ⟨ht, hb14⟩; obtain rfl := ht.eq_yes rfl; clear ht
      have HB14 := hid (bthen HB13.out hb14)
      clear hb14
      go_wp2_with fail
      go_ret
      exact ⟨rfl, HB14.out⟩

theorem supL_mem {ms : List Bool} {k : Nat} {x : Int} (h : x ∈ supL ms k) : 0 ≤ x ∧ x < k := by
  unfold supL at h
  obtain ⟨i, hi, rfl⟩ := List.mem_map.1 h
  have := List.mem_range.1 (List.mem_filter.1 hi).1
  exact ⟨Int.natCast_nonneg _, by simp; omega⟩
theorem mem_supL {ms : List Bool} {k i : Nat} (hi : i < k) (h : ms.getD (i + 1) false = true) : (i : Int) ∈ supL ms k := by
  unfold supL
  exact List.mem_map.2 ⟨i, List.mem_filter.2 ⟨List.mem_range.2 hi, h⟩, rfl⟩
set_option maxRecDepth 100000 in
set_option maxHeartbeats 1000000 in
theorem cones_lit (n : Int) (ga : Option Addr) (gc : Nat) (G : List (Int × Int)) (la : Option Addr) (lc : Nat) (L : List Int) (ia : Option Addr) (ic : Nat) (I : List Bool) (oa : Option Addr) (oc : Nat) (O : List Bool) (w : World)
    (hG : Row w ga (gcells G)) (hL : Row w la (ints L))
    (hgl : ¬ 40 < G.length) (hll : ¬ 40 < L.length) (hm : ¬ 10 < n) (hil : (I.length : Int) = n) (hol : (O.length : Int) = n) (hV : Vld n G) (hK : ¬ LitOk (litN n G.length) L) :
    Calls Try.prog 8 #[.agg #[.int .i64 n, .slice ga G.length gc], .slice la L.length lc, .slice ia I.length ic, .slice oa O.length oc] w fun e w' => e = .returned (.bool true) ∧ Below w.heap.size w w' := by
  have g1 : decide ((40 : Int) < (G.length : Int)) = false := by simp; omega
  have g2 : decide ((40 : Int) < (L.length : Int)) = false := by simp; omega
  have g3 : decide ((10 : Int) < n) = false := by simp; omega
  have g5 : ((I.length : Int) != n) = false := by simp [hil]
  have g6 : ((O.length : Int) != n) = false := by simp [hol]
  have HV := hid hV; have HK := hid hK
  clear hV hK hil hol
  go_enter Try.func8, Try.ntmps8
  go_wp2_with (first
    | (go_at_call 9; refine (awake_any _).mono ?_; rintro e w1 ⟨rfl, hb1⟩; have c0 := box_cell hb1 0 _ rfl; have c1 := box_cell hb1 1 _ rfl; have hbw := bthen (below_alloc w _) hb1; have HBW := hid hbw; have HG1 := hid (hG.below hbw); have HL1 := hid (hL.below hbw); have hz1 := lt_of_cell c0; dsimp only at hz1; clear hb1 hbw)
    | (go_at_call 12; refine (valid_any n ga gc G _ HG1.out (by omega)).mono ?_; rintro e w2 ⟨ht, hb2⟩; obtain rfl := ht.eq_yes HV.out; have c0 := below_cell hb2 c0; have c1 := below_cell hb2 c1; have HB2 := hid hb2; clear ht hb2)
    | (go_at_call 10; refine (eval_no n ga gc G (.slice ia I.length ic) ia I.length ic la lc L _ (HG1.out.below HB2.out) (by omega) (by omega) (HL1.out.below HB2.out) rfl (fun h => HK.out h.2.1)).mono ?_; rintro e w3 ⟨A3, e3, rfl, hr3, hb3⟩; have HB3 := hid hb3; clear hb3 hr3))
  go_ret
  exact ⟨rfl, bthen (bthen HBW.out HB2.out) HB3.out⟩
theorem cones_any (n : Int) (ga : Option Addr) (gc : Nat) (G : List (Int × Int)) (la : Option Addr) (lc : Nat) (L : List Int) (ia : Option Addr) (ic : Nat) (I : List Bool) (oa : Option Addr) (oc : Nat) (O : List Bool) (w : World)
    (hG : Row w ga (gcells G)) (hL : Row w la (ints L)) (hI : Row w ia (bools I)) (hO : Row w oa (bools O)) (hic : ia = none → ic = 0) (hoc : oa = none → oc = 0) :
    Calls Try.prog 8 #[.agg #[.int .i64 n, .slice ga G.length gc], .slice la L.length lc, .slice ia I.length ic, .slice oa O.length oc] w fun e w' => e = .returned (.bool true) ∧ Below w.heap.size w w' := by
  by_cases hb : 40 < G.length ∨ 40 < L.length ∨ 10 < n ∨ ¬ Vld n G ∨ (I.length : Int) ≠ n ∨ (O.length : Int) ≠ n
  · exact cones_early n ga gc G la _ lc ia _ ic oa _ oc w hG hb
  simp only [not_or, Decidable.not_not] at hb
  obtain ⟨hg, hl, hn, hV, hil, hol⟩ := hb
  have hV := Classical.not_not.1 hV
  by_cases hK : LitOk (litN n G.length) L
  · obtain ⟨m, rfl⟩ := Int.eq_ofNat_of_zero_le hV.lo
    have hN := needF_need m G L (fun i hi => by have := hV.ops i hi; omega)
    have hK2 : LitOk (2 * (1 + m + G.length)) L := by have := hK; rwa [litN_plain hV.lo hV.size] at this
    obtain ⟨d, hd⟩ : ∃ d : Nat → Int, d = fun _ => 0 := ⟨_, rfl⟩
    have hVH := cone_valid (d := d) hV hN
    have hKH := cone_lits (d := d) hN hK2
    have hlen := @cone_len m G (needF m G L) (mv d m (needF m G L))
    have hil' : I.length = m := by omega
    have hol' : O.length = m := by omega
    refine cones_core m ga gc G la lc L ia ic I oa oc O w (coneG (mv d m (needF m G L)) m G (needF m G L) (1 + m + G.length)) (L.map (mvL (mv d m (needF m G L)))) (supL (needF m G L) m) (evalF I G L)
      hG hL hI hO hic hoc hg hl hn hil' hol' hlen (by rw [List.length_map]; omega) (by unfold evalF; rw [List.length_map]; omega) ⟨hV, hVH⟩ ⟨hK, by rw [litN_plain hVH.lo hVH.size]; exact hKH⟩ ⟨rfl, cone_eval hV hN hK2 I hil'⟩ rfl ?_ (Nat.le_trans (supL_length _ _) (by omega)) ?_ ?_ ?_
    · intro j hj
      exact supL_mem (k := m) (by rw [List.getD_eq_getElem?_getD, List.getElem?_eq_getElem hj]; exact List.getElem_mem hj)
    · intro X hX hx
      exact eval_supp hV hN hK2 I X hil' hX fun i hi hms => hx i (mem_supL hi hms)
    · intro w' g l
      have := cone_yes m ga gc G la lc L w' g (by omega) l hV hK
      rw [hd]; exact this
    · intro w' A c B e hr hm'
      have hN' := needF_need m (coneG (mv d m (needF m G L)) m G (needF m G L) (1 + m + G.length)) (L.map (mvL (mv d m (needF m G L)))) (fun i hi => by have := hVH.ops i hi; omega)
      have hcc := cone_cone (d' := fun _ => 0) hV hN hK2 hN'
      have := cone_yes m A c _ B e _ w' hr (by rw [List.length_map]; omega) hm' hVH (by rw [litN_plain hVH.lo hVH.size]; exact hKH)
      rw [hcc.1, hcc.2] at this
      exact this
  · exact cones_lit n ga gc G la lc L ia ic I oa oc O w hG hL hg hl hn hil hol hV hK
end Go.Proofs.Ytelbjendeldlcaa
