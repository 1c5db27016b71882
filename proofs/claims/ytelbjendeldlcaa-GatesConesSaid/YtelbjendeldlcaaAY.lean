/- slices.Clone at bools; the early ends of assessorlaw24.GatesCones. -/
import Derived.Test.YtelbjendeldlcaaAW
namespace Go.Proofs.Ytelbjendeldlcaa
open Go.RowKit

theorem eqnil_yes (w : World) : (binOp .eql 25 (.slice none 0 0) (.slice none 0 0)).run Try.prog w = .ok (.bool true) w := by kernel_rfl
theorem eqnil_no (a : Addr) (l c : Nat) (w : World) : (binOp .eql 25 (.slice (some a) l c) (.slice none 0 0)).run Try.prog w = .ok (.bool false) w := by kernel_rfl
set_option maxHeartbeats 400000 in
theorem clone_any (A : Option Addr) (c : Nat) (L : List Bool) (w : World) (hL : Row w A (bools L)) (hc : A = none → c = 0) (hl : L.length ≤ 1000000) :
    Calls Try.prog 35 #[.slice A L.length c] w fun e w' => ∃ A' c', e = .returned (.slice A' L.length c') ∧ w'.ownsRow w.heap.size 4 1 (.slice A' L.length c') L.length (bools L) ∧ Below w.heap.size w w' := by
  obtain ⟨i0, hi, hz0, hz1, hz2⟩ := info_parts info4
  have hy := eqnil_yes
  have hn := eqnil_no
  cases A with
  | none =>
    have hLn : L = [] := by
      cases L with
      | nil => rfl
      | cons u us => obtain ⟨sb, so, he, _⟩ := hL 0 (by simp [bools]); cases he
    subst hLn
    obtain rfl := hc rfl
    go_enter Try.func35, Try.ntmps35
    go_wp2_with fail
    go_ret
    exact ⟨none, 0, rfl, World.ownsRow_nil _ _ _ _, Below.refl _ _⟩
  | some a =>
    have hrow := hL.below (below_alloc w (.cells #[] 4))
    have hlit := World.ownsRow_lit (base := w.heap.size) (e := 4) (size := 1) w #[] 0 (Nat.le_refl _) (by unfold maxLen; omega) rfl
    have HR := hid hrow; have HL := hid hlit
    have hlen : (bools L).length = L.length * 1 := by rw [bools_length, Nat.mul_one]
    have HLEN := hid hlen
    clear hrow hlit hL hc hlen
    go_enter Try.func35, Try.ntmps35
    go_wp2_with (at_builtin; refine wpList_append_row rfl (.tmp 5) (.tmp 6) 25 rfl w.heap.size 4 i0 (.bool false) 1 1 Try.underlying25 hi hz0 hz1 hz2 rfl (by decide) (.slice (some ⟨w.heap.size, 0, none⟩) 0 0) 0 [] rfl HL.out (some a) L.length c (bools L) rfl HLEN.out (fun e => by cases e) HR.out (bools_one _) (by unfold maxLen; omega) (by omega) (by simp) ?_; intro A4 c4 w4 hown4 hgr4 hat4; rw [Nat.zero_add] at hown4; have HOWN4 := hid hown4; have HGR4 := hid hgr4; clear hown4 hgr4 hat4)
    go_ret
    exact ⟨A4, c4, by first | rfl | (show Ending.returned (Value.slice A4 (0 + L.length) c4) = _; rw [Nat.zero_add]), HOWN4.out, (below_alloc w _).grown HGR4.out (by simp) (fun j hj => (HL.out.lt j hj).1)⟩

set_option maxHeartbeats 1000000 in
set_option maxRecDepth 100000 in
theorem cones_early (n : Int) (ga : Option Addr) (gc : Nat) (G : List (Int × Int)) (la : Option Addr) (ll lc : Nat) (ia : Option Addr) (il ic : Nat) (oa : Option Addr) (ol oc : Nat) (w : World) (hG : Row w ga (gcells G))
    (h : 40 < G.length ∨ 40 < ll ∨ 10 < n ∨ ¬ Vld n G ∨ (il : Int) ≠ n ∨ (ol : Int) ≠ n) :
    Calls Try.prog 8 #[.agg #[.int .i64 n, .slice ga G.length gc], .slice la ll lc, .slice ia il ic, .slice oa ol oc] w fun e w' => e = .returned (.bool true) ∧ Below w.heap.size w w' := by
  by_cases h1 : 40 < G.length
  · have g1 : (40 : Int) < (G.length : Int) := by omega
    clear h
    go_enter Try.func8, Try.ntmps8
    go_wp2_with (first | (go_at_call 9; refine (awake_any _).mono ?_; rintro e w1 ⟨rfl, hb1⟩; have c0 := box_cell hb1 0 _ rfl; have c1 := box_cell hb1 1 _ rfl; have hbw := bthen (below_alloc w _) hb1; have HBW := hid hbw; have HG1 := hid (hG.below hbw); have hz1 := lt_of_cell c0; dsimp only at hz1; clear hb1 hbw))
    go_ret
    exact ⟨rfl, HBW.out⟩
  have g1 : decide ((40 : Int) < (G.length : Int)) = false := by simp; omega
  by_cases h2 : 40 < ll
  · have g2 : (40 : Int) < (ll : Int) := by omega
    clear h
    go_enter Try.func8, Try.ntmps8
    go_wp2_with (first | (go_at_call 9; refine (awake_any _).mono ?_; rintro e w1 ⟨rfl, hb1⟩; have c0 := box_cell hb1 0 _ rfl; have c1 := box_cell hb1 1 _ rfl; have hbw := bthen (below_alloc w _) hb1; have HBW := hid hbw; have HG1 := hid (hG.below hbw); have hz1 := lt_of_cell c0; dsimp only at hz1; clear hb1 hbw))
    go_ret
    exact ⟨rfl, HBW.out⟩
  have g2 : decide ((40 : Int) < (ll : Int)) = false := by simp; omega
  by_cases h3 : 10 < n
  · clear h
    go_enter Try.func8, Try.ntmps8
    go_wp2_with (first | (go_at_call 9; refine (awake_any _).mono ?_; rintro e w1 ⟨rfl, hb1⟩; have c0 := box_cell hb1 0 _ rfl; have c1 := box_cell hb1 1 _ rfl; have hbw := bthen (below_alloc w _) hb1; have HBW := hid hbw; have HG1 := hid (hG.below hbw); have hz1 := lt_of_cell c0; dsimp only at hz1; clear hb1 hbw))
    go_ret
    exact ⟨rfl, HBW.out⟩
  have g3 : decide ((10 : Int) < n) = false := by simp; omega
  by_cases h4 : Vld n G
  · have H4 := hid h4; clear h4
    by_cases h5 : (il : Int) = n
    · have h6 : (ol : Int) ≠ n := by
        rcases h with h | h | h | h | h | h
        · omega
        · omega
        · omega
        · exact absurd H4.out h
        · exact absurd h5 h
        · exact h
      have g5 : ((il : Int) != n) = false := by simp [h5]
      have g6 : ((ol : Int) != n) = true := by simp [h6]
      clear h h5 h6
      go_enter Try.func8, Try.ntmps8
      go_wp2_with (first | (go_at_call 9; refine (awake_any _).mono ?_; rintro e w1 ⟨rfl, hb1⟩; have c0 := box_cell hb1 0 _ rfl; have c1 := box_cell hb1 1 _ rfl; have hbw := bthen (below_alloc w _) hb1; have HBW := hid hbw; have HG1 := hid (hG.below hbw); have hz1 := lt_of_cell c0; dsimp only at hz1; clear hb1 hbw) | (go_at_call 12; refine (valid_any n ga gc G _ HG1.out (by omega)).mono ?_; rintro e w2 ⟨ht, hb2⟩; obtain rfl := ht.eq_yes H4.out; have c0 := below_cell hb2 c0; have c1 := below_cell hb2 c1; have HB2 := hid hb2; clear ht hb2))
      go_ret
      exact ⟨rfl, bthen HBW.out HB2.out⟩
    · have g5 : ((il : Int) != n) = true := by simp [h5]
      clear h h5
      go_enter Try.func8, Try.ntmps8
      go_wp2_with (first | (go_at_call 9; refine (awake_any _).mono ?_; rintro e w1 ⟨rfl, hb1⟩; have c0 := box_cell hb1 0 _ rfl; have c1 := box_cell hb1 1 _ rfl; have hbw := bthen (below_alloc w _) hb1; have HBW := hid hbw; have HG1 := hid (hG.below hbw); have hz1 := lt_of_cell c0; dsimp only at hz1; clear hb1 hbw) | (go_at_call 12; refine (valid_any n ga gc G _ HG1.out (by omega)).mono ?_; rintro e w2 ⟨ht, hb2⟩; obtain rfl := ht.eq_yes H4.out; have c0 := below_cell hb2 c0; have c1 := below_cell hb2 c1; have HB2 := hid hb2; clear ht hb2))
      go_ret
      exact ⟨rfl, bthen HBW.out HB2.out⟩
  · have H4 := hid h4; clear h h4
    go_enter Try.func8, Try.ntmps8
    go_wp2_with (first | (go_at_call 9; refine (awake_any _).mono ?_; rintro e w1 ⟨rfl, hb1⟩; have c0 := box_cell hb1 0 _ rfl; have c1 := box_cell hb1 1 _ rfl; have hbw := bthen (below_alloc w _) hb1; have HBW := hid hbw; have HG1 := hid (hG.below hbw); have hz1 := lt_of_cell c0; dsimp only at hz1; clear hb1 hbw) | (go_at_call 12; refine (valid_any n ga gc G _ HG1.out (by omega)).mono ?_; rintro e w2 ⟨ht, hb2⟩; obtain rfl := ht.eq_no H4.out; have c0 := below_cell hb2 c0; have c1 := below_cell hb2 c1; have HB2 := hid hb2; clear ht hb2))
    go_ret
    exact ⟨rfl, bthen HBW.out HB2.out⟩
end Go.Proofs.Ytelbjendeldlcaa
