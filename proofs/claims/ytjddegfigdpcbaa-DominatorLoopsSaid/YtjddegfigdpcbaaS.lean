/- assessorlaw18.awake answers true, and leaves older blocks alone. -/
import Derived.Test.YtjddegfigdpcbaaQ
namespace Go.Proofs.Ytjddegfigdpcbaa
open Go.RowKit

theorem Loops_no (pa : Option Addr) (pc : Nat) (F : List (List Int)) (w : World) (hF : FRow w pa F) (hsm : ∀ i, i < F.length → (F.getD i []).length ≤ 900) (hV : ¬ VldF F) :
    Calls Try.prog 31 #[.agg #[.slice pa F.length pc]] w (GivesLoops w []) := by
  have HV := hid hV; clear hV
  go_enter Try.func31, Try.ntmps31
  go_wp2_with (go_at_call 13; refine (valid_any _ _ _ _ (hF.below (below_alloc _ _)) (fun i hi => Nat.le_trans (hsm i hi) (by omega))).mono ?_; rintro e w1 ⟨ht, hb1⟩; obtain rfl := ht.eq_no HV.out; have g0 := box_cell hb1 0 _ rfl; have HB1 := hid (bthen (below_alloc w _) hb1); clear ht hb1)
  go_ret
  exact ⟨none, 0, rfl, LpRow.nil, HB1.out⟩
theorem revF_isRev (F : List (List Int)) (hl : F.length ≤ 1024) : IsRev F (revF F) := by
  refine ⟨revF_len F, fun c hc x => revF_mem F c hc x, fun c hc => ?_⟩
  rw [revF_len] at hc
  have e : (revF F).getD c [] = ((List.range F.length).filter fun i => (F.getD i []).contains (c : Int)).map Int.ofNat := by simp [revF, List.getD_eq_getElem?_getD, hc]
  rw [e, List.length_map]
  have := List.length_filter_le (fun i => (F.getD i []).contains (c : Int)) (List.range F.length)
  rw [List.length_range] at this; omega
def awF : List (List Int) := [[2], [], [3, 4], [2], [1]]
theorem aw_loops : loopsL awF = [(2, [2, 3])] := by decide +kernel
theorem aw_dom : domL awF = [-1, 4, 0, 2, 2] := by decide +kernel
theorem aw_post : postL awF = [2, -1, 4, 2, 1] := by decide +kernel
theorem aw_con : conL awF = [[], [], [2], [2], []] := by decide +kernel
theorem aw_small : ∀ i, i < awF.length → (awF.getD i []).length ≤ 900 := by decide
theorem aw_small6 : ∀ i, i < awF.length → (awF.getD i []).length ≤ 1000000 := fun i hi => Nat.le_trans (aw_small i hi) (by omega)
theorem aw_vld : VldF awF := ⟨by decide, by decide, by decide, by decide⟩
theorem aw_d1 : domP awF 0 2 4 := ⟨by decide, by decide, by decide, by decide, by decide +kernel⟩
theorem aw_d2 : ∃ B, IsRev awF B ∧ domP B 1 4 3 := ⟨revF awF, revF_isRev awF (by decide), ⟨by decide, by decide, by decide +kernel, by decide +kernel, by decide +kernel⟩⟩
theorem Row.fresh (w : World) (cs : Array Value) (t : TypeId) : Row (w.alloc (.cells cs t)) (some ⟨w.heap.size, 0, none⟩) cs.toList := by
  intro j hj
  refine ⟨w.heap.size, 0, rfl, ?_⟩
  have hj' : j < cs.size := by simpa using hj
  rw [Nat.zero_add]
  refine box_cell (Below.refl _ _) j _ ?_
  simp [List.getD_eq_getElem?_getD, hj']
/-- the cells of the lists that Control is compared with -/
def awC (z : Nat) : Array Value := #[.slice (some ⟨z, 0, none⟩) 0 0, .slice (some ⟨z + 1, 0, none⟩) 0 0, .slice (some ⟨z + 1 + 1, 0, none⟩) 1 1, .slice (some ⟨z + 1 + 1 + 1, 0, none⟩) 1 1, .slice (some ⟨z + 1 + 1 + 1 + 1, 0, none⟩) 0 0]
theorem aw_lists (w : World) : LRow ((((((w.alloc (.cells #[] 3)).alloc (.cells #[] 3)).alloc (.cells #[.int .i64 2] 3)).alloc (.cells #[.int .i64 2] 3)).alloc (.cells #[] 3)).alloc (.cells (awC w.heap.size) 29)) (some ⟨w.heap.size + 1 + 1 + 1 + 1 + 1, 0, none⟩) [[], [], [2], [2], []] := by
  have hR : ∀ b, ((((((w.alloc (.cells #[] 3)).alloc (.cells #[] 3)).alloc (.cells #[.int .i64 2] 3)).alloc (.cells #[.int .i64 2] 3)).alloc (.cells #[] 3)).alloc (.cells (awC w.heap.size) 29)).cell? ⟨b, 0, none⟩ = some (.int .i64 2) → Row ((((((w.alloc (.cells #[] 3)).alloc (.cells #[] 3)).alloc (.cells #[.int .i64 2] 3)).alloc (.cells #[.int .i64 2] 3)).alloc (.cells #[] 3)).alloc (.cells (awC w.heap.size) 29)) (some ⟨b, 0, none⟩) (ints [2]) := fun b hb j hj => by
    have : j = 0 := by simp [ints] at hj; omega
    subst this; exact ⟨b, 0, rfl, hb⟩
  intro i hi
  have : i = 0 ∨ i = 1 ∨ i = 2 ∨ i = 3 ∨ i = 4 := by simp at hi; omega
  rcases this with rfl | rfl | rfl | rfl | rfl
  · exact ⟨_, 0, _, 0, rfl, by go_simp; rfl, Row.nil⟩
  · exact ⟨_, 0, _, 0, rfl, by go_simp; rfl, Row.nil⟩
  · exact ⟨_, 0, _, 1, rfl, by go_simp; rfl, hR _ (by go_simp)⟩
  · exact ⟨_, 0, _, 1, rfl, by go_simp; rfl, hR _ (by go_simp)⟩
  · exact ⟨_, 0, _, 0, rfl, by go_simp; rfl, Row.nil⟩
/-- the world when awake has laid its flow -/
def awW (w : World) : World := ((((((w.alloc (.cells #[.int .i64 2] 3)).alloc (.cells #[.int .i64 3, .int .i64 4] 3)).alloc (.cells #[.int .i64 2] 3)).alloc (.cells #[.int .i64 1] 3)).alloc (.cells #[.int .i64 0, .int .i64 0, .slice (some ⟨w.heap.size, 0, none⟩) 1 1, .int .i64 0, .int .i64 0, .slice none 0 0, .int .i64 0, .int .i64 0, .slice (some ⟨w.heap.size + 1, 0, none⟩) 2 2, .int .i64 0, .int .i64 0, .slice (some ⟨w.heap.size + 1 + 1, 0, none⟩) 1 1, .int .i64 0, .int .i64 0, .slice (some ⟨w.heap.size + 1 + 1 + 1, 0, none⟩) 1 1] 40)).alloc (.cells #[.slice (some ⟨w.heap.size + 1 + 1 + 1 + 1, 0, none⟩) 5 5] 24))
theorem aw_c0 (w : World) : (awW w).cell? ⟨w.heap.size + 1 + 1 + 1 + 1 + 1, 0, none⟩ = some (.slice (some ⟨w.heap.size + 1 + 1 + 1 + 1, 0, none⟩) 5 5) := by
  unfold awW; go_simp
theorem aw_below (w : World) : Below w.heap.size w (awW w) :=
  bthen (bthen (bthen (bthen (bthen (below_alloc _ _) (below_alloc _ _)) (below_alloc _ _)) (below_alloc _ _)) (below_alloc _ _)) (below_alloc _ _)
theorem aw_row (w : World) : FRow (awW w) (some ⟨w.heap.size + 1 + 1 + 1 + 1, 0, none⟩) awF := by
  have hR : ∀ b x, (awW w).cell? ⟨b, 0, none⟩ = some (.int .i64 x) → Row (awW w) (some ⟨b, 0, none⟩) (ints [x]) := fun b x hb j hj => by
    have : j = 0 := by simp [ints] at hj; omega
    subst this; exact ⟨b, 0, rfl, hb⟩
  have hR2 : ∀ b x y, (awW w).cell? ⟨b, 0, none⟩ = some (.int .i64 x) → (awW w).cell? ⟨b, 1, none⟩ = some (.int .i64 y) → Row (awW w) (some ⟨b, 0, none⟩) (ints [x, y]) := fun b x y hb hb2 j hj => by
    have : j = 0 ∨ j = 1 := by simp [ints] at hj; omega
    rcases this with rfl | rfl
    · exact ⟨b, 0, rfl, hb⟩
    · exact ⟨b, 0, rfl, hb2⟩
  intro i hi
  have : i = 0 ∨ i = 1 ∨ i = 2 ∨ i = 3 ∨ i = 4 := by simp [awF] at hi; omega
  rcases this with rfl | rfl | rfl | rfl | rfl
  · exact ⟨_, 0, 0, 0, (some ⟨w.heap.size, 0, none⟩), 1, rfl, by unfold awW; go_simp, by unfold awW; go_simp, (show (awW w).cell? ⟨w.heap.size + 1 + 1 + 1 + 1, 2, none⟩ = some (.slice (some ⟨w.heap.size, 0, none⟩) 1 1) from by unfold awW; go_simp), hR _ _ (by unfold awW; go_simp)⟩
  · exact ⟨_, 0, 0, 0, none, 0, rfl, by unfold awW; go_simp, by unfold awW; go_simp, (show (awW w).cell? ⟨w.heap.size + 1 + 1 + 1 + 1, 5, none⟩ = some (.slice none 0 0) from by unfold awW; go_simp), Row.nil⟩
  · exact ⟨_, 0, 0, 0, (some ⟨w.heap.size + 1, 0, none⟩), 2, rfl, by unfold awW; go_simp, by unfold awW; go_simp, (show (awW w).cell? ⟨w.heap.size + 1 + 1 + 1 + 1, 8, none⟩ = some (.slice (some ⟨w.heap.size + 1, 0, none⟩) 2 2) from by unfold awW; go_simp), hR2 _ _ _ (by unfold awW; go_simp) (by unfold awW; go_simp)⟩
  · exact ⟨_, 0, 0, 0, (some ⟨w.heap.size + 1 + 1, 0, none⟩), 1, rfl, by unfold awW; go_simp, by unfold awW; go_simp, (show (awW w).cell? ⟨w.heap.size + 1 + 1 + 1 + 1, 11, none⟩ = some (.slice (some ⟨w.heap.size + 1 + 1, 0, none⟩) 1 1) from by unfold awW; go_simp), hR _ _ (by unfold awW; go_simp)⟩
  · exact ⟨_, 0, 0, 0, (some ⟨w.heap.size + 1 + 1 + 1, 0, none⟩), 1, rfl, by unfold awW; go_simp, by unfold awW; go_simp, (show (awW w).cell? ⟨w.heap.size + 1 + 1 + 1 + 1, 14, none⟩ = some (.slice (some ⟨w.heap.size + 1 + 1 + 1, 0, none⟩) 1 1) from by unfold awW; go_simp), hR _ _ (by unfold awW; go_simp)⟩
set_option maxHeartbeats 4000000 in
set_option maxRecDepth 100000 in
theorem awake_any (w : World) : Calls Try.prog 11 #[] w fun e w' => e = .returned (.bool true) ∧ Below w.heap.size w w' := by
  go_enter Try.func11, Try.ntmps11
  go_wp2_with fail
  have HF := hid (aw_row w); have c0 := aw_c0 w; have HBW := hid (aw_below w)
  change Calls Try.prog 31 _ (awW w) _
  generalize awW w = W at HF c0 HBW ⊢
  go_wp2_with fail
  refine (Loops_yes _ 5 awF _ HF.out aw_small aw_vld).mono ?_
  rw [aw_loops]; rintro e w1 ⟨A1, k1, rfl, hr1, hb1⟩
  have c0 := below_cell hb1 c0
  have HF := hid (HF.out.below hb1)
  have HBW := hid (bthen HBW.out hb1)
  obtain ⟨sb, so, C1, d1, rfl, l0, l1, hrb⟩ := hr1 0 (by decide)
  simp only [Nat.zero_mul, Nat.add_zero] at l0 l1
  have l0 : w1.cell? ⟨sb, so, none⟩ = some (.int .i64 2) := l0
  have l1 : w1.cell? ⟨sb, so + 1, none⟩ = some (.slice C1 2 d1) := l1
  have HRB := hid (show Row w1 C1 (ints [2, 3]) from hrb); clear hr1 hrb
  clear hb1
  go_wp2_with fail
  refine (valid_any _ 5 awF _ HF.out aw_small6).mono ?_
  rintro e w2 ⟨ht, hb2⟩; obtain rfl := ht.eq_yes aw_vld; clear ht
  have c0 := below_cell hb2 c0
  have l0 := below_cell hb2 l0
  have l1 := below_cell hb2 l1
  have HF := hid (HF.out.below hb2)
  have HRB := hid (HRB.out.below hb2)
  have HBW := hid (bthen HBW.out hb2)
  clear hb2
  go_wp2_with fail
  refine (Dominators_yes _ 5 awF _ HF.out aw_small aw_vld).mono ?_
  rw [aw_dom]; rintro e w3 ⟨A3, k3, rfl, hr3, hb3⟩
  have c0 := below_cell hb3 c0
  have l0 := below_cell hb3 l0
  have l1 := below_cell hb3 l1
  have HF := hid (HF.out.below hb3)
  have HRB := hid (HRB.out.below hb3)
  have HBW := hid (bthen HBW.out hb3)
  have HR3 := hid hr3; clear hr3
  clear hb3
  go_wp2_with fail
  refine (equalI_any _ _ k3 5 [-1, 4, 0, 2, 2] [-1, 4, 0, 2, 2] _ (by decide) (by decide) (HR3.out.below (below_alloc _ (.cells #[.int .i64 (-1), .int .i64 4, .int .i64 0, .int .i64 2, .int .i64 2] 3))) (Row.fresh _ #[.int .i64 (-1), .int .i64 4, .int .i64 0, .int .i64 2, .int .i64 2] 3)).mono ?_
  rintro e w4 ⟨ht, hb4⟩; obtain rfl := ht.eq_yes rfl; clear ht HR3
  have c0 := below_cell (bthen (below_alloc _ (.cells #[.int .i64 (-1), .int .i64 4, .int .i64 0, .int .i64 2, .int .i64 2] 3)) hb4) c0
  have l0 := below_cell (bthen (below_alloc _ (.cells #[.int .i64 (-1), .int .i64 4, .int .i64 0, .int .i64 2, .int .i64 2] 3)) hb4) l0
  have l1 := below_cell (bthen (below_alloc _ (.cells #[.int .i64 (-1), .int .i64 4, .int .i64 0, .int .i64 2, .int .i64 2] 3)) hb4) l1
  have HF := hid (HF.out.below (bthen (below_alloc _ (.cells #[.int .i64 (-1), .int .i64 4, .int .i64 0, .int .i64 2, .int .i64 2] 3)) hb4))
  have HRB := hid (HRB.out.below (bthen (below_alloc _ (.cells #[.int .i64 (-1), .int .i64 4, .int .i64 0, .int .i64 2, .int .i64 2] 3)) hb4))
  have HBW := hid (bthen HBW.out (bthen (below_alloc _ (.cells #[.int .i64 (-1), .int .i64 4, .int .i64 0, .int .i64 2, .int .i64 2] 3)) hb4))
  clear hb4
  go_wp2_with fail
  refine (Postdominators_yes _ 5 awF _ HF.out aw_small aw_vld).mono ?_
  rw [aw_post]; rintro e w5 ⟨A5, k5, rfl, hr5, hb5⟩
  have c0 := below_cell hb5 c0
  have l0 := below_cell hb5 l0
  have l1 := below_cell hb5 l1
  have HF := hid (HF.out.below hb5)
  have HRB := hid (HRB.out.below hb5)
  have HBW := hid (bthen HBW.out hb5)
  have HR5 := hid hr5; clear hr5
  clear hb5
  go_wp2_with fail
  refine (equalI_any _ _ k5 5 [2, -1, 4, 2, 1] [2, -1, 4, 2, 1] _ (by decide) (by decide) (HR5.out.below (below_alloc _ (.cells #[.int .i64 2, .int .i64 (-1), .int .i64 4, .int .i64 2, .int .i64 1] 3))) (Row.fresh _ #[.int .i64 2, .int .i64 (-1), .int .i64 4, .int .i64 2, .int .i64 1] 3)).mono ?_
  rintro e w6 ⟨ht, hb6⟩; obtain rfl := ht.eq_yes rfl; clear ht HR5
  have c0 := below_cell (bthen (below_alloc _ (.cells #[.int .i64 2, .int .i64 (-1), .int .i64 4, .int .i64 2, .int .i64 1] 3)) hb6) c0
  have l0 := below_cell (bthen (below_alloc _ (.cells #[.int .i64 2, .int .i64 (-1), .int .i64 4, .int .i64 2, .int .i64 1] 3)) hb6) l0
  have l1 := below_cell (bthen (below_alloc _ (.cells #[.int .i64 2, .int .i64 (-1), .int .i64 4, .int .i64 2, .int .i64 1] 3)) hb6) l1
  have HF := hid (HF.out.below (bthen (below_alloc _ (.cells #[.int .i64 2, .int .i64 (-1), .int .i64 4, .int .i64 2, .int .i64 1] 3)) hb6))
  have HRB := hid (HRB.out.below (bthen (below_alloc _ (.cells #[.int .i64 2, .int .i64 (-1), .int .i64 4, .int .i64 2, .int .i64 1] 3)) hb6))
  have HBW := hid (bthen HBW.out (bthen (below_alloc _ (.cells #[.int .i64 2, .int .i64 (-1), .int .i64 4, .int .i64 2, .int .i64 1] 3)) hb6))
  clear hb6
  go_wp2_with fail
  refine (equalI_any C1 _ d1 2 [2, 3] [2, 3] _ (by decide) (by decide) (HRB.out.below (below_alloc _ (.cells #[.int .i64 2, .int .i64 3] 3))) (Row.fresh _ #[.int .i64 2, .int .i64 3] 3)).mono ?_
  rintro e w7 ⟨ht, hb7⟩; obtain rfl := ht.eq_yes rfl; clear ht
  have c0 := below_cell (bthen (below_alloc _ (.cells #[.int .i64 2, .int .i64 3] 3)) hb7) c0
  have l0 := below_cell (bthen (below_alloc _ (.cells #[.int .i64 2, .int .i64 3] 3)) hb7) l0
  have l1 := below_cell (bthen (below_alloc _ (.cells #[.int .i64 2, .int .i64 3] 3)) hb7) l1
  have HF := hid (HF.out.below (bthen (below_alloc _ (.cells #[.int .i64 2, .int .i64 3] 3)) hb7))
  have HRB := hid (HRB.out.below (bthen (below_alloc _ (.cells #[.int .i64 2, .int .i64 3] 3)) hb7))
  have HBW := hid (bthen HBW.out (bthen (below_alloc _ (.cells #[.int .i64 2, .int .i64 3] 3)) hb7))
  clear hb7
  clear l0 l1 HRB
  go_wp2_with fail
  refine (Control_yes _ 5 awF _ HF.out aw_small aw_vld).mono ?_
  rw [aw_con]; rintro e w8 ⟨A8, k8, rfl, hr8, hb8⟩
  have c0 := below_cell hb8 c0
  have HF := hid (HF.out.below hb8)
  have HBW := hid (bthen HBW.out hb8)
  have HR8 := hid hr8; clear hr8
  clear hb8
  have hz8 : ∀ o1 o2 o3 o4 o5 o6, Below w8.heap.size w8 ((((((w8.alloc o1).alloc o2).alloc o3).alloc o4).alloc o5).alloc o6) := fun o1 o2 o3 o4 o5 o6 => bthen (bthen (bthen (bthen (bthen (below_alloc _ _) (below_alloc _ _)) (below_alloc _ _)) (below_alloc _ _)) (below_alloc _ _)) (below_alloc _ _)
  have HZ8 := hid hz8; have HLS := hid (aw_lists w8); clear hz8
  go_wp2_with fail
  refine (lists18_any A8 _ k8 5 [[], [], [2], [2], []] [[], [], [2], [2], []] _ (by decide) (HR8.out.below (HZ8.out (.cells #[] 3) (.cells #[] 3) (.cells #[.int .i64 2] 3) (.cells #[.int .i64 2] 3) (.cells #[] 3) (.cells (awC w8.heap.size) 29))) HLS.out (by decide)).mono ?_
  rintro e w9 ⟨ht, hb9⟩; obtain rfl := ht.eq_yes rfl; clear ht
  have c0 := below_cell (bthen (HZ8.out (.cells #[] 3) (.cells #[] 3) (.cells #[.int .i64 2] 3) (.cells #[.int .i64 2] 3) (.cells #[] 3) (.cells (awC w8.heap.size) 29)) hb9) c0
  have HF := hid (HF.out.below (bthen (HZ8.out (.cells #[] 3) (.cells #[] 3) (.cells #[.int .i64 2] 3) (.cells #[.int .i64 2] 3) (.cells #[] 3) (.cells (awC w8.heap.size) 29)) hb9))
  have HBW := hid (bthen HBW.out (bthen (HZ8.out (.cells #[] 3) (.cells #[] 3) (.cells #[.int .i64 2] 3) (.cells #[.int .i64 2] 3) (.cells #[] 3) (.cells (awC w8.heap.size) 29)) hb9))
  clear HZ8 HLS HR8
  clear hb9
  go_wp2_with fail
  refine (Dominates_any _ 5 awF 2 4 _ HF.out aw_small).mono ?_
  rintro e w10 ⟨ht, hb10⟩; obtain rfl := ht.eq_yes ⟨aw_vld, aw_d1⟩; clear ht
  have c0 := below_cell hb10 c0
  have HF := hid (HF.out.below hb10)
  have HBW := hid (bthen HBW.out hb10)
  clear hb10
  go_wp2_with fail
  refine (Postdominates_any _ 5 awF 4 3 _ HF.out aw_small).mono ?_
  rintro e w11 ⟨ht, hb11⟩; obtain rfl := ht.eq_yes ⟨aw_vld, aw_d2⟩; clear ht
  have c0 := below_cell hb11 c0
  have HF := hid (HF.out.below hb11)
  have HBW := hid (bthen HBW.out hb11)
  clear hb11
  go_wp2_with fail
  go_ret
  exact ⟨rfl, HBW.out⟩
end Go.Proofs.Ytjddegfigdpcbaa
