/- assessorlaw24.awake answers true, and leaves older blocks alone. -/
import Derived.Test.YtelbjendeldlcaaH
namespace Go.Proofs.Ytelbjendeldlcaa
open Go.RowKit

def awG : List (Int × Int) := [(2, 4), (2, 5), (3, 4), (9, 11)]
theorem aw_in0 : PB.inp ⟨2, [], 0⟩ 0 = (⟨2, [], 0⟩, 2) := by kernel_rfl
theorem aw_in1 : PB.inp ⟨2, [], 0⟩ 1 = (⟨2, [], 0⟩, 4) := by kernel_rfl
theorem aw_and0 : PB.and ⟨2, [], 0⟩ 2 4 = (⟨2, [(2, 4)], 0⟩, 6) := by kernel_rfl
theorem aw_and1 : PB.and ⟨2, [(2, 4)], 0⟩ 2 4 = (⟨2, [(2, 4)], 0⟩, 6) := by kernel_rfl
theorem aw_xor : PB.xor ⟨2, [(2, 4)], 0⟩ 2 4 = (⟨2, awG, 0⟩, 13) := by kernel_rfl
theorem aw_eval : evalF [true, false] awG [6, 13] = [false, true] := by kernel_rfl
theorem aw_vld : Vld 2 awG := by
  refine ⟨by omega, by omega, by decide, fun k hk => ?_⟩
  have hk' : k < 4 := hk
  have : k = 0 ∨ k = 1 ∨ k = 2 ∨ k = 3 := by omega
  rcases this with rfl | rfl | rfl | rfl <;> (unfold GOk; decide)
theorem aw_ok : EvalOk 2 awG 2 [6, 13] := by
  refine ⟨aw_vld, ?_, rfl⟩
  intro x hx
  have : litN 2 awG.length = 14 := by kernel_rfl
  rw [this]
  simp at hx
  omega
theorem Row.bool2 (w : World) (a b : Bool) (t : TypeId) : Row (w.alloc (.cells #[.bool a, .bool b] t)) (some ⟨w.heap.size, 0, none⟩) (bools [a, b]) := Row.two _ _ _ _
theorem GivesBools.inv {w : World} {bs : List Bool} {er : Int} {e : Ending} {w' : World} (h : GivesBools w bs er e w') : ∃ A c, e = .returned (.tuple #[.slice A bs.length c, .int .i64 er]) ∧ Row w' A (bools bs) ∧ Below w.heap.size w w' := h
/-- a builder that was made after a world leaves that world's blocks alone -/
theorem Step.below_of {w w1 w2 : World} {bb mb : Nat} {A : Option Addr} (hb : Below w.heap.size w w1) (hbb : w.heap.size ≤ bb) (hmb : w.heap.size ≤ mb) (st : Step w1 w2 bb mb none A) : Below w.heap.size w w2 :=
  ⟨st.os.trans hb.os, st.tape.trans hb.tape, st.output.trans hb.output, Nat.le_trans hb.size st.size, fun b hlt => (st.keep b ⟨Nat.lt_of_lt_of_le hlt hb.size, by omega, by omega, fun a ha => by cases ha⟩).trans (hb.block b hlt)⟩

theorem Row.fresh (w : World) (cs : Array Value) (t : TypeId) : Row (w.alloc (.cells cs t)) (some ⟨w.heap.size, 0, none⟩) cs.toList := by
  intro j hj
  refine ⟨w.heap.size, 0, rfl, ?_⟩
  have hj' : j < cs.size := by simpa using hj
  rw [Nat.zero_add]
  refine box_cell (Below.refl _ _) j _ ?_
  simp [List.getD_eq_getElem?_getD, hj']
set_option maxHeartbeats 1000000 in
theorem awake_any (w : World) : Calls Try.prog 9 #[] w fun e w' => e = .returned (.bool true) ∧ Below w.heap.size w w' := by
  go_enter Try.func9, Try.ntmps9
  go_wp2_with (go_at_call 15; refine (new_yes 2 w (by omega) (by omega)).mono ?_; rintro e w1 ⟨bb, mb, rfl, hbb, hmb, hs1, hb1⟩; have HS1 := hid hs1; have HB1 := hid hb1; have HBB := hid (And.intro hbb hmb); clear hs1 hb1 hbb hmb)
  refine (input_any HS1.out 0).mono ?_
  rw [aw_in0]
  rintro e w2 ⟨rfl, A2, c2, hs2, st2⟩
  have HS2 := hid hs2; have ST2 := hid st2; clear hs2 st2
  go_wp2_with fail
  refine (input_any HS2.out 1).mono ?_
  rw [aw_in1]
  rintro e w3 ⟨rfl, A3, c3, hs3, st3⟩
  have HS3 := hid hs3; have ST3 := hid (ST2.out.trans st3); clear hs3 st3
  go_wp2_with fail
  refine (and_any HS3.out 2 4).mono ?_
  rw [aw_and0]
  rintro e w4 ⟨rfl, A4, c4, hs4, st4⟩
  have HS4 := hid hs4; have ST4 := hid (ST3.out.trans st4); clear hs4 st4
  go_wp2_with fail
  refine (and_any HS4.out 2 4).mono ?_
  rw [aw_and1]
  rintro e w5 ⟨rfl, A5, c5, hs5, st5⟩
  have HS5 := hid hs5; have ST5 := hid (ST4.out.trans st5); clear hs5 st5
  go_wp2_with fail
  refine (xor_any HS5.out 2 4).mono ?_
  rw [aw_xor]
  rintro e w6 ⟨rfl, A6, c6, hs6, st6⟩
  have HS6 := hid hs6; have ST6 := hid (ST5.out.trans st6); clear hs6 st6
  go_wp2_with fail
  refine (circuit_any HS6.out).mono ?_
  rintro e w7 ⟨B, d, rfl, hr7, hb7⟩
  have HR7 := hid hr7
  have hbw : Below w.heap.size w w7 := bthen (Step.below_of HB1.out HBB.out.1 HBB.out.2 ST6.out) hb7
  have HBW := hid hbw
  have HS7 := hid (HS6.out.below hb7)
  clear hr7 hb7 hbw
  have hrg : ∀ o1 o2 o3, Row (((w7.alloc o1).alloc o2).alloc o3) B (gcells awG) := fun o1 o2 o3 => ((HR7.out.alloc _).alloc _).alloc _
  have hri : ∀ o1 t o3, Row (((w7.alloc o1).alloc (.cells #[.bool true, .bool false] t)).alloc o3) (some ⟨w7.heap.size + 1, 0, none⟩) (bools [true, false]) := fun o1 t o3 => by
    rw [show w7.heap.size + 1 = (w7.alloc o1).heap.size from by simp]
    exact (Row.bool2 _ _ _ _).alloc _
  have hrl : ∀ o1 o2 t, Row (((w7.alloc o1).alloc o2).alloc (.cells #[.int .i64 6, .int .i64 13] t)) (some ⟨w7.heap.size + 1 + 1, 0, none⟩) (ints [6, 13]) := fun o1 o2 t => by
    rw [show w7.heap.size + 1 + 1 = ((w7.alloc o1).alloc o2).heap.size from by simp]
    exact Row.two _ _ _ _
  have HRG := hid hrg; have HRI := hid hri; have HRL := hid hrl; clear hrg hri hrl
  go_wp2_with (go_at_call 10; refine (eval_yes 2 B d awG _ 2 [true, false] _ 2 [6, 13] _ (HRG.out _ _ _) (by simp) (HRL.out _ _ _) (HRI.out _ _ _) (fun e => by cases e) aw_ok).mono ?_; rw [aw_eval]; rintro e w8 ⟨A8, c8, rfl, hr8, hb8⟩; have c0 := below_cell hb8 (show World.cell? (World.alloc (World.alloc (World.alloc w7 _) _) _) ⟨w7.heap.size, 0, none⟩ = some (.int .i64 2) from by go_simp); have c1 := below_cell hb8 (show World.cell? (World.alloc (World.alloc (World.alloc w7 _) _) _) ⟨w7.heap.size, 1, none⟩ = some (.slice B awG.length d) from by go_simp); have hb78 := bthen (bthen (bthen (below_alloc w7 _) (below_alloc _ _)) (below_alloc _ _)) hb8; have HB78 := hid hb78; have HR8 := hid hr8; have hg8 := HR7.out.below hb78; have HG8 := hid hg8; have HS8 := hid (HS7.out.below hb78); clear hr8 hb8 hb78 hg8)
  refine (err_any HS8.out).mono ?_
  rintro e w9 ⟨rfl, hw9⟩; rw [← hw9]; clear hw9 w9
  have hsm : Row (w8.alloc (.cells #[.int .i64 2, .int .i64 4, .int .i64 2, .int .i64 5, .int .i64 3, .int .i64 4, .int .i64 9, .int .i64 11] 69)) (some ⟨w8.heap.size, 0, none⟩) (gcells awG) := Row.fresh w8 _ _
  have HSM := hid hsm; clear hsm
  go_wp2_with (go_at_call 27; refine (same_any 2 2 B _ d 4 awG awG _ (by decide) (by decide) (HG8.out.alloc _) HSM.out).mono ?_; rintro e w9 ⟨ht, hb9⟩; obtain rfl := ht.eq_yes ⟨rfl, rfl⟩; clear ht; have d0 := below_cell (bthen (below_alloc w8 _) hb9) c0; have d1 := below_cell (bthen (below_alloc w8 _) hb9) c1; have hg9 := HG8.out.below (bthen (below_alloc w8 _) hb9); have HG9 := hid hg9; have hbb9 := bthen (below_alloc w8 _) hb9; have HB9 := hid hbb9; clear hg9 hb9 hbb9)
  refine (valid_any 2 B d awG _ HG9.out (by decide)).mono ?_
  rintro e w10 ⟨ht, hb10⟩; obtain rfl := ht.eq_yes aw_vld; clear ht
  have HB10 := hid (bthen HB9.out hb10); clear hb10
  go_wp2_with (go_at_call 14; refine (equalB_any A8 _ c8 2 [false, true] [false, true] _ (by decide) (by decide) ((HR8.out.below HB10.out).alloc _) (Row.bool2 _ _ _ _)).mono ?_; rintro e w11 ⟨ht, hb11⟩; obtain rfl := ht.eq_yes rfl; clear ht; have HB11 := hid hb11; clear hb11)
  go_ret
  exact ⟨rfl, bthen (bthen (bthen (bthen HBW.out HB78.out) HB10.out) (below_alloc _ _)) HB11.out⟩
end Go.Proofs.Ytelbjendeldlcaa
