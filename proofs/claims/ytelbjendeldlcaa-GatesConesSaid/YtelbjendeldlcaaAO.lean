/- gates.Support: the inputs that some literals need. -/
import Derived.Test.YtelbjendeldlcaaAN
namespace Go.Proofs.Ytelbjendeldlcaa
open Go.RowKit

set_option maxHeartbeats 1000000 in
theorem support_no (n : Int) (ga : Option Addr) (gc : Nat) (G : List (Int × Int)) (la : Option Addr) (lc : Nat) (L : List Int) (w : World)
    (hG : Row w ga (gcells G)) (hlen : G.length ≤ 1000000000000) (hll : L.length ≤ 1000000000000) (hL : Row w la (ints L)) (hno : ¬ (Vld n G ∧ LitOk (litN n G.length) L)) :
    Calls Try.prog 32 #[.agg #[.int .i64 n, .slice ga G.length gc], .slice la L.length lc] w (GivesInts w []) := by
  have HK := hid hno; clear hno
  go_enter Try.func32, Try.ntmps32
  go_wp2_with (go_at_call 37; refine (known_any _ _ _ _ _ _ _ _ (hG.alloc _) hlen hll (hL.alloc _)).mono ?_; rintro e w1 ⟨ht, hb1⟩; obtain rfl := ht.eq_no HK.out; have HB := hid (bthen (below_alloc w _) hb1); clear ht hb1)
  go_ret
  exact ⟨_, _, rfl, Row.nil, HB.out⟩

set_option maxHeartbeats 1000000 in
theorem support_yes (m : Nat) (ga : Option Addr) (gc : Nat) (G : List (Int × Int)) (la : Option Addr) (lc : Nat) (L : List Int) (w : World)
    (hG : Row w ga (gcells G)) (hll : L.length ≤ 1000000000000) (hL : Row w la (ints L)) (hV : Vld m G) (hK : LitOk (litN m G.length) L) :
    Calls Try.prog 32 #[.agg #[.int .i64 m, .slice ga G.length gc], .slice la L.length lc] w (GivesInts w (supL (needF m G L) m)) := by
  have hlo := hV.lo; have hhi := hV.hi; have hsz := hV.size
  have hnl := needF_length m G L
  obtain ⟨i0, hi, hz0, hz1, hz2⟩ := info_parts info3
  obtain ⟨ms, hms⟩ : ∃ ms, ms = needF m G L := ⟨_, rfl⟩
  rw [← hms] at hnl
  have hn1 : 1 + (m : Int) ≤ (ms.length : Int) := by rw [hnl]; push_cast; omega
  have j1 : IntKind.i64.wrap (1 + (m : Int)) = 1 + (m : Int) := IntWalk.i64_in _ (by omega)
  obtain ⟨ao, hao, hadr⟩ : ∃ ao, (ms.length ≠ 1 → ao = 1) ∧ ∀ mb, (if ms.length = 1 then some (⟨mb, 0, none⟩ : Addr) else some ⟨mb, 1, none⟩) = some ⟨mb, ao, none⟩ := by
    by_cases h1 : ms.length = 1
    · exact ⟨0, fun h => absurd h1 h, fun mb => by rw [if_pos h1]⟩
    · exact ⟨1, fun _ => rfl, fun mb => by rw [if_neg h1]⟩
  have j2 : (0 : Int) ≤ 1 + (m : Int) := by omega
  have j3 : max (1 + (m : Int)) 0 = 1 + (m : Int) := by omega
  have j4 : (1 : Int) ≤ 1 + (m : Int) := by omega
  have j5 : (1 + (m : Int)).toNat - 1 = m := by omega
  have HAO := hid hao; clear hao
  have HK := hid (And.intro hV hK); have HMS := hid hms; have HNL := hid hnl; clear hV hK hms hnl
  go_enter Try.func32, Try.ntmps32
  go_wp2_with (go_at_call 37; refine (known_any _ _ _ _ _ _ _ _ (hG.alloc _) (by omega) hll (hL.alloc _)).mono ?_; rintro e w1 ⟨ht, hb1⟩; obtain rfl := ht.eq_yes HK.out; have c0 := box_cell hb1 0 _ rfl; have c1 := box_cell hb1 1 _ rfl; have HB := hid (bthen (below_alloc w _) hb1); have zw := lt_of_cell c0; dsimp only at zw; clear ht hb1)
  refine wp_region_J (fun j => match j with | 2 => some (fun W => W.cell? ⟨w.heap.size, 0, none⟩ = some (.int .i64 m) ∧ W.cell? ⟨w.heap.size, 1, none⟩ = some (.slice ga G.length gc)) | _ => none) (by kernel_rfl) ?_
  refine anyJ_take (some 12) (i := 0) (T := fun W => W.cell? ⟨w.heap.size, 0, none⟩ = some (.int .i64 m) ∧ W.cell? ⟨w.heap.size, 1, none⟩ = some (.slice ga G.length gc)) (v := ?_) rfl rfl (by kernel_rfl) (by kernel_rfl) (by kernel_rfl) (fun _ _ _ h => h) (js := []) (by kernel_rfl) Leads.nil rfl (Or.inl ⟨by rfl, ?_⟩) (⟨by go_simp, by go_simp⟩) ?_
  rotate_left
  · (intro wL hSw; (try dsimp only at hSw); go_simp; try with_reducible rfl)
  try simp only [Act.put, List.setIfInBounds_toArray, List.set_cons_zero, List.set_cons_succ]
  refine anyJ_take (some 13) (i := 1) (T := fun _ => True) (v := ?_) rfl rfl (by kernel_rfl) (by kernel_rfl) (by kernel_rfl) (fun _ _ _ h => h) (js := []) (by kernel_rfl) Leads.true rfl (Or.inl ⟨by rfl, ?_⟩) trivial ?_
  rotate_left
  · (intro wL hSw; (try dsimp only at hSw); go_simp; try with_reducible rfl)
  try simp only [Act.put, List.setIfInBounds_toArray, List.set_cons_zero, List.set_cons_succ]
  refine anyJ_take (some 15) (i := 3) (T := fun _ => True) (v := ?_) rfl rfl (by kernel_rfl) (by kernel_rfl) (by kernel_rfl) (fun _ _ _ h => h) (js := [2]) (by kernel_rfl) Leads.true rfl (Or.inl ⟨by rfl, ?_⟩) trivial ?_
  rotate_left
  · (intro wL hSw; (try dsimp only at hSw); go_simp; try with_reducible rfl)
  try simp only [Act.put, List.setIfInBounds_toArray, List.set_cons_zero, List.set_cons_succ]
  refine anyJ_take (some 16) (i := 4) (T := fun W => W.cell? ⟨w.heap.size, 0, none⟩ = some (.int .i64 m)) (v := ?_) rfl rfl (by kernel_rfl) (by kernel_rfl) (by kernel_rfl) (fun _ _ _ h => h) (js := [2]) (by kernel_rfl) (Leads.cons _ rfl (fun w h => h.1) Leads.nil) rfl (Or.inl ⟨by rfl, ?_⟩) (by go_simp) ?_
  rotate_left
  · (intro wL hSw; (try dsimp only at hSw); go_simp; try with_reducible rfl)
  try simp only [Act.put, List.setIfInBounds_toArray, List.set_cons_zero, List.set_cons_succ]
  refine anyJ_take (some 17) (i := 5) (T := fun _ => True) (v := ?_) rfl rfl (by kernel_rfl) (by kernel_rfl) (by kernel_rfl) (fun _ _ _ h => h) (js := [2]) (by kernel_rfl) Leads.true rfl (Or.inl ⟨by rfl, ?_⟩) trivial ?_
  rotate_left
  · (intro wL hSw; (try dsimp only at hSw); go_simp; try with_reducible rfl)
  try simp only [Act.put, List.setIfInBounds_toArray, List.set_cons_zero, List.set_cons_succ]
  refine anyJ_take (some 20) (i := 8) (T := fun _ => True) (v := ?_) rfl rfl (by kernel_rfl) (by kernel_rfl) (by kernel_rfl) (fun _ _ _ h => h) (js := [2]) (by kernel_rfl) Leads.true rfl (Or.inl ⟨by rfl, ?_⟩) trivial ?_
  rotate_left
  · (intro wL hSw; (try dsimp only at hSw); go_simp; try with_reducible rfl)
  try simp only [Act.put, List.setIfInBounds_toArray, List.set_cons_zero, List.set_cons_succ]
  refine anyJ_one (i := 2) (oi := { dst := some 14, op := Go.Op.call { callee := Go.Callee.value (Go.Operand.func 50), args := #[Go.Operand.tmp 12, Go.Operand.tmp 13], argTypes := #[24, 26] }, type := 25, pos := "gates.go:201", after := #[{ on := 0, ground := Go.Ground.data }, { on := 1, ground := Go.Ground.data }], guard := none }) rfl (by kernel_rfl) (by rfl) (fun K hK => ?_)
  go_simp
  refine (needed_any m ga gc G la lc L _ (hG.below (bthen HB.out (below_drew' _))) (hL.below (bthen HB.out (below_drew' _))) hll HK.out.1 HK.out.2).mono ?_
  rw [← HMS.out]
  rintro e w2 ⟨mb, rfl, hm2, hmb, hb2⟩
  have c0 := below_cell (bthen (below_drew' _) hb2) c0
  have c1 := below_cell (bthen (below_drew' _) hb2) c1
  have HM2 := hid hm2; have HB2 := hid (bthen (bthen HB.out (below_drew' _)) hb2); have HMB := hid hmb; clear hm2 hb2 hmb
  refine hK.out _ _ (by dsimp only [Obl]; exact ⟨c0, c1⟩) ?_
  clear hK K
  try simp only [Act.put, List.setIfInBounds_toArray, List.set_cons_zero, List.set_cons_succ]
  refine anyJ_take (some 18) (i := 6) (T := fun _ => True) (v := ?_) rfl rfl (by kernel_rfl) (by kernel_rfl) (by kernel_rfl) (fun _ _ _ h => h) (js := [2]) (by kernel_rfl) Leads.true rfl (Or.inl ⟨by rfl, ?_⟩) trivial ?_
  rotate_left
  · (intro wL hSw; (try dsimp only at hSw); go_simp; try with_reducible rfl)
  try simp only [Act.put, List.setIfInBounds_toArray, List.set_cons_zero, List.set_cons_succ]
  refine anyJ_take (some 19) (i := 7) (T := fun _ => True) (v := ?_) rfl rfl (by kernel_rfl) (by kernel_rfl) (by kernel_rfl) (fun _ _ _ h => h) (js := [2]) (by kernel_rfl) Leads.true rfl (Or.inl ⟨by rfl, ?_⟩) trivial ?_
  rotate_left
  · (intro wL hSw; (try dsimp only at hSw); go_simp; try with_reducible rfl)
  try simp only [Act.put, List.setIfInBounds_toArray, List.set_cons_zero, List.set_cons_succ]
  refine anyJ_done (by kernel_rfl) ?_
  go_wp2_with fail
  go_loopw [5, 20] (fun o i wr => ∃ k : Nat, ∃ Ao co, k ≤ m ∧ i = .int .i64 k ∧ o = .slice Ao (supL ms k).length co ∧ Below w2.heap.size w2 wr ∧ wr.ownsRow w2.heap.size 3 1 (.slice Ao (supL ms k).length co) (supL ms k).length (ints (supL ms k)))
    (fun _ i _ => m - (intOf i).toNat)
  case atStart => exact ⟨0, none, 0, by omega, rfl, rfl, Below.refl _ _, World.ownsRow_nil _ _ _ _⟩
  case round =>
    obtain ⟨k, Ao, co, hk, rfl, rfl, hbr, hown⟩ := hrel
    have HBR := hid hbr; have HOWN := hid hown
    have hll := supL_length ms k
    obtain ⟨ol, hol⟩ : ∃ ol, ol = (supL ms k).length := ⟨_, rfl⟩
    have HOL := hid hol
    by_cases hlt : k < m
    · have hcj := (HM2.out.below hbr).cell (k + 1) (by rw [HNL.out]; omega)
      have hsn := supL_snoc ms k
      obtain ⟨b, hb⟩ : ∃ b, b = ms.getD (k + 1) false := ⟨_, rfl⟩
      rw [← hb] at hcj hsn
      obtain rfl := HAO.out (by rw [HNL.out]; omega)
      rw [Nat.add_comm k 1] at hcj
      have HSN := hid hsn
      have j6 : (k : Int) < (m : Int) := by omega
      rw [← hol]
      clear hbr hown hb hsn hol hadr
      cases b with
      | false =>
        go_wp2_with fail
        have hs : supL ms (k + 1) = supL ms k := by rw [HSN.out]; simp
        refine ⟨⟨k + 1, Ao, co, by omega, by go_num, ?_⟩, by simp [intOf]; omega⟩
        rw [hs]
        exact ⟨by rw [HOL.out], HBR.out, HOWN.out⟩
      | true =>
        have hs : supL ms (k + 1) = supL ms k ++ [Int.ofNat k] := by rw [HSN.out]; simp
        have HS := hid hs; clear hs
        have hown5 : wr.ownsRow w2.heap.size 3 1 (.slice Ao ol co) ol (ints (supL ms k)) := by rw [HOL.out]; exact HOWN.out
        have HOW5 := hid hown5; clear hown5
        have hol2 : ol ≤ 1024 := by have := HOL.out; omega
        go_wp2_with (at_builtin; refine wpList_append_row rfl (.tmp 26) (.tmp 28) 26 rfl w2.heap.size 3 i0 (.int .i64 0) 1 8 Try.underlying26 hi hz0 hz1 hz2 rfl (by decide) (.slice Ao ol co) ol (ints (supL ms k)) rfl (World.ownsRow.alloc HOW5.out _) (some ⟨wr.heap.size, 0, none⟩) 1 1 [.int .i64 k] rfl rfl (fun e => by cases e) (Row.one _ _ _) (ints_one [_]) (by unfold maxLen; omega) (by omega) (by have := HBR.out.size; simp; omega) ?_; intro A4 c4 w4 hown4 hgr4 hat4; have HOWN4 := hid hown4; have HGR4 := hid hgr4; clear hown4 hgr4 hat4)
        have hb4 : Below w2.heap.size w2 w4 := (bthen HBR.out (below_alloc wr _)).grown HGR4.out (by have := HBR.out.size; simp; omega) (fun j hj => by rw [HOL.out] at hj; exact (HOWN.out.lt j hj).1)
        have hl : (supL ms (k + 1)).length = ol + 1 := by rw [HS.out, List.length_append, ← HOL.out]; rfl
        refine ⟨⟨k + 1, A4, c4, by omega, by go_num, ?_⟩, by simp [intOf]; omega⟩
        rw [hl]
        exact ⟨rfl, hb4, by rw [HS.out]; simpa [ints] using HOWN4.out⟩
    · obtain rfl : k = m := by omega
      clear hbr hown
      go_wp2_with fail
      go_ret
      rw [← HMS.out]
      exact ⟨Ao, co, rfl, Row.of_own HOWN.out, bthen HB2.out HBR.out⟩
end Go.Proofs.Ytelbjendeldlcaa
