/- gates.Valid. -/
import Derived.Test.YtelbjendeldlcaaB
namespace Go.Proofs.Ytelbjendeldlcaa
open Go.RowKit

/-- gate number k of a circuit is as the chapter asks -/
def GOk (n : Int) (G : List (Int × Int)) (k : Nat) : Prop :=
  2 ≤ (G.getD k (0, 0)).1 ∧ (G.getD k (0, 0)).1 < (G.getD k (0, 0)).2 ∧ (G.getD k (0, 0)).2 < 2 * (1 + n + k) ∧ (G.getD k (0, 0)).2 ≠ notI (G.getD k (0, 0)).1 ∧ G.getD k (0, 0) ∉ G.take k
structure Vld (n : Int) (G : List (Int × Int)) : Prop where
  lo : 0 ≤ n
  hi : n ≤ 1024
  size : 1 + n + G.length ≤ 65536
  gates : ∀ k, k < G.length → GOk n G k

theorem zero4 (w : World) : (zeroValue 4).run Try.prog w = .ok (.bool false) w := by kernel_rfl

set_option maxHeartbeats 1000000 in
theorem valid_any (n : Int) (ga : Option Addr) (gc : Nat) (G : List (Int × Int)) (w : World) (hG : Row w ga (gcells G)) (hlen : G.length ≤ 1000000000000) :
    Calls Try.prog 12 #[.agg #[.int .i64 n, .slice ga G.length gc]] w fun e w' => Tells (Vld n G) e ∧ Below w.heap.size w w' := by
  have hmm := @run_makeMap Try.prog
  go_enter Try.func12, Try.ntmps12
  by_cases h1 : n < 0
  · go_wp2
    go_ret
    exact ⟨.no fun h => absurd h.lo (by omega), (Below.refl _ _).alloc (Nat.le_refl _) _⟩
  by_cases h2 : 1024 < n
  · go_wp2
    go_ret
    exact ⟨.no fun h => absurd h.hi (by omega), (Below.refl _ _).alloc (Nat.le_refl _) _⟩
  have hn : nodesI n G.length = 1 + n + G.length := by unfold nodesI wrap64; omega
  by_cases h3 : 65536 < 1 + n + (G.length : Int)
  · go_wp2_with (go_at_call 40; refine (nodes_any _ _ _ _ _).mono ?_; rintro e w1 ⟨rfl, hb1⟩; rw [hn])
    go_ret
    exact ⟨.no fun h => absurd h.size (by omega), ((Below.refl _ _).alloc (Nat.le_refl _) _).trans (hb1.mono (by simp))⟩
  have hlen2 : G.length ≤ 65536 := by omega
  go_wp2_with (go_at_call 40; refine (nodes_any _ _ _ _ _).mono ?_; rintro e w1 ⟨rfl, hb1⟩; rw [hn]; have c0 := box_cell hb1 0 _ rfl; have c1 := box_cell hb1 1 _ rfl; have hz1 := lt_of_cell c0; dsimp only at hz1)
  have hB1 : Below w.heap.size w w1 := ((Below.refl _ _).alloc (Nat.le_refl _) _).trans (hb1.mono (by simp))
  go_loopw [24] (fun i wr => ∃ k : Nat, k ≤ G.length ∧ i = .int .i64 k ∧ MapAt wr w1.heap.size (fun _ => .bool true) (G.take k) ∧ Below w.heap.size w wr ∧ wr.cell? ⟨w.heap.size, 0, none⟩ = some (.int .i64 n) ∧ ∀ j, j < k → GOk n G j)
    (fun i _ => G.length - (intOf i).toNat)
  case atStart => exact ⟨0, Nat.zero_le _, rfl, by rw [List.take_zero]; exact MapAt.made _ _, hB1.alloc (by omega) _, by go_simp, fun j hj => absurd hj (by omega)⟩
  case round =>
    obtain ⟨k, hk, rfl, hm, hb, hbox, hall⟩ := hrel
    have HA := hid hall; clear hall
    have hz := lt_of_cell hbox; dsimp only at hz
    by_cases hlt : k < G.length
    · obtain ⟨sb, so, rfl, hx, hy⟩ := hG.gate k hlt
      obtain ⟨x, hx0⟩ : ∃ x, x = (G.getD k (0, 0)).1 := ⟨_, rfl⟩
      obtain ⟨y, hy0⟩ : ∃ y, y = (G.getD k (0, 0)).2 := ⟨_, rfl⟩
      rw [← hx0] at hx; rw [← hy0] at hy
      have hg : G.getD k (0, 0) = (x, y) := by rw [hx0, hy0]
      have hok : GOk n G k ↔ (2 ≤ x ∧ x < y ∧ y < 2 * (1 + n + k) ∧ y ≠ notI x ∧ (x, y) ∉ G.take k) := by unfold GOk; rw [hg]
      have HO := hid hok; have HG := hid hg; clear hx0 hy0 hok hg
      have hx' := (hb.cell (lt_of_cell hx)).trans hx
      have hy' := (hb.cell (lt_of_cell hy)).trans hy
      have hlk := fun q => lookup_at (((hm.alloc (.cells #[.int .i64 x, .int .i64 y] 69))).drewN q) 70 4 Try.underlying70 _ zero4 (x, y) false
      have hup := fun q => mapUpdate_at (((hm.alloc (.cells #[.int .i64 x, .int .i64 y] 69))).drewN q) 70 4 Try.underlying70 (x, y)
      simp only [gkey, Bool.false_eq_true, if_false] at hlk hup
      have hmlt := hm.lt
      have hBr : ∀ q, Below w.heap.size w ((wr.alloc (.cells #[.int .i64 x, .int .i64 y] 69)).drewN q) := fun q => (hb.alloc (by have := hb.size; omega) _).trans ⟨rfl, rfl, rfl, Nat.le_refl _, fun _ _ => rfl⟩
      have HM := hid hm; clear hm
      have HBr := hid hBr; have HB := hid hb; have HUP := hid hup; have HLK := hid hlk; clear hx hy c0 c1 hBr hb hup hlk hB1 hb1 hG
      by_cases q1 : x < 2
      · go_wp2_with fail
        go_big_quiet (fail)
        go_wp2_with fail
        go_ret
        exact ⟨.no fun h => absurd (HO.out.1 (h.gates k hlt)).1 (by omega), HBr.out _⟩
      have d1 : decide (x < 2) = false := by simp; omega
      by_cases q2 : y ≤ x
      · go_wp2_with fail
        go_big_quiet (fail)
        go_wp2_with fail
        go_ret
        exact ⟨.no fun h => absurd (HO.out.1 (h.gates k hlt)).2.1 (by omega), HBr.out _⟩
      have d2 : decide (y ≤ x) = false := by simp; omega
      have e1 : IntKind.i64.wrap (2 * (1 + n + k)) = 2 * (1 + n + k) := IntWalk.i64_in _ (by omega)
      by_cases q3 : 2 * (1 + n + k) ≤ y
      · go_wp2_with fail
        go_big_quiet (fail)
        go_wp2_with fail
        go_ret
        exact ⟨.no fun h => absurd (HO.out.1 (h.gates k hlt)).2.2.1 (by omega), HBr.out _⟩
      have d3 : decide (2 * (1 + n + k) ≤ y) = false := by simp; omega
      by_cases q4 : (y == notI x) = true
      · go_wp2_with fail
        go_big_quiet ((go_at_call 18; exact Calls.quiet_of_same (not_any _ _ (by omega) (by omega))))
        go_wp2_with fail
        go_ret
        exact ⟨.no fun h => absurd (by simpa using q4) (HO.out.1 (h.gates k hlt)).2.2.2.1, HBr.out _⟩
      have q4' : (y == notI x) = false := by simpa using q4
      clear q4
      have hlk := HLK.out
      by_cases q5 : (x, y) ∈ G.take k
      · obtain ⟨j, hj⟩ : ∃ j, findG 0 (G.take k) (x, y) = some j := by
          cases hf : findG 0 (G.take k) (x, y) with
          | some j => exact ⟨j, rfl⟩
          | none => exact absurd q5 ((findG_none 0).1 hf)
        rw [hj] at hlk
        simp only [Option.map_some, Option.getD_some] at hlk
        clear hj
        go_wp2_with fail
        go_big_quiet ((go_at_call 18; exact Calls.quiet_of_same (not_any _ _ (by omega) (by omega))))
        go_wp2_with fail
        go_ret
        exact ⟨.no fun h => (HO.out.1 (h.gates k hlt)).2.2.2.2 q5, HBr.out _⟩
      · rw [(findG_none 0).2 q5] at hlk
        simp only [Option.map_none, Option.getD_none] at hlk
        go_wp2_with fail
        go_big_quiet ((go_at_call 18; exact Calls.quiet_of_same (not_any _ _ (by omega) (by omega))))
        obtain ⟨w2, hrun, hm2, hg2⟩ := HUP.out nq q5 (.bool true) rfl
        have HM2 := hid hm2; have HG2 := hid hg2; clear hm2 hg2
        have hc : ((wr.alloc (.cells #[.int .i64 x, .int .i64 y] 69)).drewN nq).cell? ⟨w.heap.size, 0, none⟩ = some (.int .i64 n) := by go_simp
        have HC := hid hc; clear hc
        go_wp2_with fail
        refine ⟨⟨k + 1, by omega, by go_num, ?_, (HBr.out nq).grown HG2.out (HBr.out nq).size (fun j hj => by cases hj; omega), HG2.out.cell HC.out (by simp; omega), fun j hj => ?_⟩, by simp [intOf]; omega⟩
        · rw [take_snoc G (0, 0) k hlt, HG.out]; exact HM2.out
        · by_cases hjk : j = k
          · subst hjk; exact HO.out.2 ⟨by omega, by omega, by omega, by simpa using q4', q5⟩
          · exact HA.out j (by omega)
    · go_wp2
      go_ret
      exact ⟨.yes ⟨by omega, by omega, by omega, fun j hj => HA.out j (by omega)⟩, hb⟩
end Go.Proofs.Ytelbjendeldlcaa
