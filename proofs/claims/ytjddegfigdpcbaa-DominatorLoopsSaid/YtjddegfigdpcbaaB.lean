/- Flows in memory; Small, Valid, isPoint, Other of chapters 17 and 18. Lengths below 10^6 where nothing else is said. -/
import Derived.Test.YtjddegfigdpcbaaR
namespace Go.Proofs.Ytjddegfigdpcbaa
open Go.RowKit

/-- the points of a flow, each with its next points -/
def FRow (w : World) (A : Option Addr) (F : List (List Int)) : Prop :=
  ∀ i, i < F.length → ∃ sb so a b B c, A = some ⟨sb, so, none⟩ ∧ w.cell? ⟨sb, so + i * 3, none⟩ = some (.int .i64 a) ∧ w.cell? ⟨sb, so + i * 3 + 1, none⟩ = some (.int .i64 b) ∧
    w.cell? ⟨sb, so + i * 3 + 2, none⟩ = some (.slice B (F.getD i []).length c) ∧ Row w B (ints (F.getD i []))
theorem FRow.below {w w' : World} {A : Option Addr} {F : List (List Int)} (hb : Below w.heap.size w w') (h : FRow w A F) : FRow w' A F := fun i hi => by
  obtain ⟨sb, so, a, b, B, c, e, h0, h1, h2, h3⟩ := h i hi
  exact ⟨sb, so, a, b, B, c, e, below_cell hb h0, below_cell hb h1, below_cell hb h2, h3.below hb⟩
theorem FRow.nil {w : World} {A : Option Addr} : FRow w A [] := fun i hi => by simp at hi

def SmallF (F : List (List Int)) (most : Int) : Prop := (∀ i, i < F.length → (F.getD i []).length ≤ 8) ∧ (F.length : Int) ≤ most
structure VldF (F : List (List Int)) : Prop where
  lo : 2 ≤ F.length
  hi : F.length ≤ 1024
  ex : (F.getD 1 []).length = 0
  edges : ∀ i, i < F.length → ∀ j, j < (F.getD i []).length → 0 < (F.getD i []).getD j 0 ∧ (F.getD i []).getD j 0 < F.length

set_option maxHeartbeats 400000 in
theorem rsmall_any (pa : Option Addr) (pc : Nat) (F : List (List Int)) (most : Int) (w : World) (hF : FRow w pa F) (hl : F.length ≤ maxLen) :
    Calls Try.prog 40 #[.agg #[.slice pa F.length pc], .int .i64 most] w fun e w' => Tells (SmallF F most) e ∧ Below w.heap.size w w' := by
  unfold maxLen at hl
  go_enter Try.func40, Try.ntmps40
  go_wp2_with fail
  go_loop [5] (fun i => ∃ k : Nat, k ≤ F.length ∧ i = .int .i64 k ∧ ∀ j, j < k → (F.getD j []).length ≤ 8) (fun i => F.length - (intOf i).toNat)
  case atStart => exact ⟨0, Nat.zero_le _, rfl, fun j hj => absurd hj (by omega)⟩
  case round =>
    obtain ⟨k, hk, rfl, hall⟩ := hrel
    have HA := hid hall; clear hall
    by_cases hlt : k < F.length
    · obtain ⟨sb, so, a, b, B, c, rfl, h0, h1, h2, h3⟩ := hF k hlt
      obtain ⟨l, hl2⟩ : ∃ l, l = (F.getD k []).length := ⟨_, rfl⟩
      rw [← hl2] at h2
      have h2' := below_cell (below_alloc w (.cells #[.slice (some ⟨sb, so, none⟩) F.length pc] 24)) h2
      have HL := hid hl2; clear h0 h1 h2 h3 hl2
      by_cases q : 8 < l
      · go_wp2_with fail
        go_ret
        exact ⟨.no fun h => absurd (h.1 k hlt) (by rw [← HL.out]; omega), below_alloc _ _⟩
      · go_wp2_with fail
        go_round
        case rel =>
          refine ⟨k + 1, by omega, by go_num, fun j hj => ?_⟩
          by_cases hjk : j = k
          · subst hjk; rw [← HL.out]; omega
          · exact HA.out j (by omega)
        case measure => simp [intOf]; omega
    · go_wp2_with fail
      go_ret
      refine ⟨⟨_, rfl, ?_⟩, below_alloc _ _⟩
      simp only [decide_eq_true_eq]
      exact ⟨fun h => ⟨fun j hj => HA.out j (by omega), h⟩, fun h => h.2⟩
theorem small_any (pa : Option Addr) (pc : Nat) (F : List (List Int)) (most : Int) (w : World) (hF : FRow w pa F) (hl : F.length ≤ maxLen) :
    Calls Try.prog 12 #[.agg #[.slice pa F.length pc], .int .i64 most] w fun e w' => Tells (SmallF F most) e ∧ Below w.heap.size w w' := by
  go_enter Try.func12, Try.ntmps12
  go_wp2_with (go_at_call 40; refine (rsmall_any _ _ _ _ _ (hF.below (below_alloc _ _)) hl).mono ?_; rintro e w1 ⟨⟨b, rfl, hb⟩, hb1⟩)
  go_ret
  exact ⟨⟨b, rfl, hb⟩, bthen (below_alloc _ _) hb1⟩

set_option maxHeartbeats 400000 in
theorem valid_any (pa : Option Addr) (pc : Nat) (F : List (List Int)) (w : World) (hF : FRow w pa F) (hsm : ∀ i, i < F.length → (F.getD i []).length ≤ 1000000) :
    Calls Try.prog 13 #[.agg #[.slice pa F.length pc]] w fun e w' => Tells (VldF F) e ∧ Below w.heap.size w w' := by
  by_cases q1 : F.length < 2
  · have q1' : (F.length : Int) < 2 := by omega
    go_enter Try.func13, Try.ntmps13
    go_wp2_with fail
    go_ret
    exact ⟨.no fun h => absurd h.lo (by omega), below_alloc _ _⟩
  by_cases q2 : 1024 < F.length
  · have q2' : (1024 : Int) < (F.length : Int) := by omega
    have q1' : decide ((F.length : Int) < 2) = false := by simp; omega
    go_enter Try.func13, Try.ntmps13
    go_wp2_with fail
    go_ret
    exact ⟨.no fun h => absurd h.hi (by omega), below_alloc _ _⟩
  have q1' : decide ((F.length : Int) < 2) = false := by simp; omega
  have q2' : decide ((1024 : Int) < (F.length : Int)) = false := by simp; omega
  have q0 : (1 : Int) < (F.length : Int) := by omega
  obtain ⟨sb, so, a1, b1, B1, c1, rfl, g0, g1, g2, g3⟩ := hF 1 (by omega)
  simp only [Nat.one_mul] at g0 g1 g2
  obtain ⟨l1, hl1⟩ : ∃ l, l = (F.getD 1 []).length := ⟨_, rfl⟩
  rw [← hl1] at g2
  have g2' := below_cell (below_alloc w (.cells #[.slice (some ⟨sb, so, none⟩) F.length pc] 24)) g2
  have HL1 := hid hl1
  have bw := below_alloc w (.cells #[.slice (some ⟨sb, so, none⟩) F.length pc] 24)
  by_cases q3 : ((l1 : Int) != 0) = true
  · clear g0 g1 g2 g3 hl1
    go_enter Try.func13, Try.ntmps13
    go_wp2_with fail
    go_ret
    exact ⟨.no fun h => absurd h.ex (by rw [← HL1.out]; simpa using q3), below_alloc _ _⟩
  have q3' : ((l1 : Int) != 0) = false := by simpa using q3
  have hex : (F.getD 1 []).length = 0 := by rw [← hl1]; simpa using q3
  have HEX := hid hex
  have HBW := hid bw
  clear g0 g1 g2 g3 hl1 q3 hex bw
  go_enter Try.func13, Try.ntmps13
  go_wp2_with fail
  go_loopw [29] (fun i wr => ∃ k : Nat, k ≤ F.length ∧ i = .int .i64 k ∧ Below w.heap.size w wr ∧ ∀ i, i < k → ∀ j, j < (F.getD i []).length → 0 < (F.getD i []).getD j 0 ∧ (F.getD i []).getD j 0 < F.length)
    (fun i _ => F.length - (intOf i).toNat)
  case atStart => exact ⟨0, Nat.zero_le _, rfl, HBW.out, fun j hj => absurd hj (by omega)⟩
  case round =>
    obtain ⟨k, hk, rfl, hbr, hall⟩ := hrel
    have HA := hid hall; clear hall
    by_cases hlt : k < F.length
    · obtain ⟨_, _, a, b, B, c, e, h0, h1, h2, h3⟩ := (hF.below hbr) k hlt
      injection e with e; injection e with e1 e2; subst e1; subst e2
      have hlk := hsm k hlt
      obtain ⟨N, hN⟩ : ∃ N, N = F.getD k [] := ⟨_, rfl⟩
      rw [← hN] at h2 h3 hlk
      have HB := hid hbr
      have HN := hid hN
      clear hN hbr g2'
      go_wp2_with fail
      go_loopw [36] (fun i wi => ∃ j : Nat, j ≤ N.length ∧ i = .int .i64 j ∧ wi = wr.alloc (.cells #[.int .i64 a, .int .i64 b, .slice B N.length c] 40) ∧ ∀ i, i < j → 0 < N.getD i 0 ∧ N.getD i 0 < F.length) (fun i _ => N.length - (intOf i).toNat)
      case atStart => exact ⟨0, Nat.zero_le _, rfl, rfl, fun j hj => absurd hj (by omega)⟩
      case round =>
        obtain ⟨j, hj, rfl, rfl, hall⟩ := hrel
        have HJ := hid hall; clear hall
        by_cases hjt : j < N.length
        · obtain ⟨tb, to, rfl, hx⟩ := h3.int j hjt
          have hx' := below_cell (below_alloc wr (.cells #[.int .i64 a, .int .i64 b, .slice (some ⟨tb, to, none⟩) N.length c] 40)) hx
          obtain ⟨x, hx0⟩ : ∃ x, x = N.getD j 0 := ⟨_, rfl⟩
          rw [← hx0] at hx'
          have HX := hid hx0; clear hx hx0
          by_cases r1 : x ≤ 0
          · go_wp2_with fail
            go_ret
            exact ⟨.no fun h => absurd (h.edges k hlt j (by rw [← HN.out]; exact hjt)).1 (by rw [← HN.out, ← HX.out]; omega), bthen HB.out (below_alloc _ _)⟩
          have r1' : decide (x ≤ 0) = false := by simp; omega
          by_cases r2 : (F.length : Int) ≤ x
          · go_wp2_with fail
            go_ret
            exact ⟨.no fun h => absurd (h.edges k hlt j (by rw [← HN.out]; exact hjt)).2 (by rw [← HN.out, ← HX.out]; omega), bthen HB.out (below_alloc _ _)⟩
          · go_wp2_with fail
            refine ⟨⟨j + 1, by omega, by go_num, by simp, fun i hi => ?_⟩, by simp [intOf]; omega⟩
            by_cases hij : i = j
            · subst hij; rw [← HX.out]; omega
            · exact HJ.out i (by omega)
        · obtain rfl : j = N.length := by omega
          go_wp2_with fail
          refine ⟨⟨k + 1, by omega, by go_num, bthen HB.out (below_alloc _ _), fun i hi => ?_⟩, by simp [intOf]; omega⟩
          by_cases hik : i = k
          · subst hik; rw [← HN.out]; exact HJ.out
          · exact HA.out i (by omega)
    · go_wp2_with fail
      go_ret
      exact ⟨.yes ⟨by omega, by omega, HEX.out, fun i hi => HA.out i (by omega)⟩, hbr⟩

set_option maxHeartbeats 400000 in
theorem rvalid17_any (pa : Option Addr) (pc : Nat) (F : List (List Int)) (w : World) (hF : FRow w pa F) (hsm : ∀ i, i < F.length → (F.getD i []).length ≤ 1000000) :
    Calls Try.prog 41 #[.agg #[.slice pa F.length pc]] w fun e w' => Tells (VldF F) e ∧ Below w.heap.size w w' := by
  by_cases q1 : F.length < 2
  · have q1' : (F.length : Int) < 2 := by omega
    go_enter Try.func41, Try.ntmps41
    go_wp2_with fail
    go_ret
    exact ⟨.no fun h => absurd h.lo (by omega), below_alloc _ _⟩
  by_cases q2 : 1024 < F.length
  · have q2' : (1024 : Int) < (F.length : Int) := by omega
    have q1' : decide ((F.length : Int) < 2) = false := by simp; omega
    go_enter Try.func41, Try.ntmps41
    go_wp2_with fail
    go_ret
    exact ⟨.no fun h => absurd h.hi (by omega), below_alloc _ _⟩
  have q1' : decide ((F.length : Int) < 2) = false := by simp; omega
  have q2' : decide ((1024 : Int) < (F.length : Int)) = false := by simp; omega
  have q0 : (1 : Int) < (F.length : Int) := by omega
  obtain ⟨sb, so, a1, b1, B1, c1, rfl, g0, g1, g2, g3⟩ := hF 1 (by omega)
  simp only [Nat.one_mul] at g0 g1 g2
  obtain ⟨l1, hl1⟩ : ∃ l, l = (F.getD 1 []).length := ⟨_, rfl⟩
  rw [← hl1] at g2
  have g2' := below_cell (below_alloc w (.cells #[.slice (some ⟨sb, so, none⟩) F.length pc] 24)) g2
  have HL1 := hid hl1
  have bw := below_alloc w (.cells #[.slice (some ⟨sb, so, none⟩) F.length pc] 24)
  by_cases q3 : 0 < l1
  · have q3' : (0 : Int) < (l1 : Int) := by omega
    clear g0 g1 g2 g3 hl1
    go_enter Try.func41, Try.ntmps41
    go_wp2_with fail
    go_ret
    exact ⟨.no fun h => absurd h.ex (by rw [← HL1.out]; omega), below_alloc _ _⟩
  have hex : (F.getD 1 []).length = 0 := by rw [← hl1]; omega
  have HEX := hid hex
  have HBW := hid bw
  have hFB := hF.below bw
  have HFB := hid hFB
  clear g0 g1 g2 g3 hl1 hex bw hFB hF
  obtain rfl : l1 = 0 := by omega
  clear q3
  go_enter Try.func41, Try.ntmps41
  go_wp2_with fail
  go_loop [4] (fun i => ∃ k : Nat, k ≤ F.length ∧ i = .int .i64 k ∧ ∀ i, i < k → ∀ j, j < (F.getD i []).length → 0 < (F.getD i []).getD j 0 ∧ (F.getD i []).getD j 0 < F.length)
    (fun i => F.length - (intOf i).toNat)
  case atStart => exact ⟨0, Nat.zero_le _, rfl, fun j hj => absurd hj (by omega)⟩
  case round =>
    obtain ⟨k, hk, rfl, hall⟩ := hrel
    have HA := hid hall; clear hall
    by_cases hlt : k < F.length
    · obtain ⟨_, _, a, b, B, c, e, h0, h1, h2, h3⟩ := HFB.out k hlt
      injection e with e; injection e with e1 e2; subst e1; subst e2
      have hlk := hsm k hlt
      obtain ⟨N, hN⟩ : ∃ N, N = F.getD k [] := ⟨_, rfl⟩
      rw [← hN] at h2 h3 hlk
      have HN := hid hN
      clear hN h0 h1
      have j1 : (k : Int) < (F.length : Int) := by omega
      have j0 : (0 : Int) ≤ (k : Int) := by omega
      go_wp2_with fail
      go_loop [5] (fun i => ∃ j : Nat, j ≤ N.length ∧ i = .int .i64 j ∧ ∀ i, i < j → 0 < N.getD i 0 ∧ N.getD i 0 < F.length) (fun i => N.length - (intOf i).toNat)
      case atStart => exact ⟨0, Nat.zero_le _, rfl, fun j hj => absurd hj (by omega)⟩
      case round =>
        obtain ⟨j, hj, rfl, hall⟩ := hrel
        have HJ := hid hall; clear hall
        by_cases hjt : j < N.length
        · obtain ⟨tb, to, rfl, hx⟩ := h3.int j hjt
          obtain ⟨x, hx0⟩ : ∃ x, x = N.getD j 0 := ⟨_, rfl⟩
          rw [← hx0] at hx
          have HX := hid hx0; clear hx0
          by_cases r1 : x < 1
          · go_wp2_with fail
            go_ret
            exact ⟨.no fun h => absurd (h.edges k hlt j (by rw [← HN.out]; exact hjt)).1 (by rw [← HN.out, ← HX.out]; omega), HBW.out⟩
          have r1' : decide (x < 1) = false := by simp; omega
          by_cases r2 : (F.length : Int) ≤ x
          · go_wp2_with fail
            go_ret
            exact ⟨.no fun h => absurd (h.edges k hlt j (by rw [← HN.out]; exact hjt)).2 (by rw [← HN.out, ← HX.out]; omega), HBW.out⟩
          · go_wp2_with fail
            go_round
            case rel =>
              refine ⟨j + 1, by omega, by go_num, fun i hi => ?_⟩
              by_cases hij : i = j
              · subst hij; rw [← HX.out]; omega
              · exact HJ.out i (by omega)
            case measure => simp [intOf]; omega
        · obtain rfl : j = N.length := by omega
          go_wp2_with fail
          go_round
          case rel =>
            refine ⟨k + 1, by omega, by go_num, fun i hi => ?_⟩
            by_cases hik : i = k
            · subst hik; rw [← HN.out]; exact HJ.out
            · exact HA.out i (by omega)
          case measure => simp [intOf]; omega
    · go_wp2_with fail
      go_ret
      exact ⟨.yes ⟨by omega, by omega, HEX.out, fun i hi => HA.out i (by omega)⟩, HBW.out⟩
theorem rvalid_any (pa : Option Addr) (pc : Nat) (F : List (List Int)) (w : World) (hF : FRow w pa F) (hsm : ∀ i, i < F.length → (F.getD i []).length ≤ 1000000) :
    Calls Try.prog 14 #[.agg #[.slice pa F.length pc]] w fun e w' => Tells (VldF F) e ∧ Below w.heap.size w w' := by
  go_enter Try.func14, Try.ntmps14
  go_wp2_with (go_at_call 41; refine (rvalid17_any _ _ _ _ (hF.below (below_alloc _ _)) hsm).mono ?_; rintro e w1 ⟨⟨b, rfl, hb⟩, hb1⟩)
  go_ret
  exact ⟨⟨b, rfl, hb⟩, bthen (below_alloc _ _) hb1⟩
def IsPt (F : List (List Int)) (a : Int) : Prop := 0 ≤ a ∧ a < F.length
theorem isPoint_any (pa : Option Addr) (pc : Nat) (F : List (List Int)) (a : Int) (w : World) :
    Calls Try.prog 47 #[.agg #[.slice pa F.length pc], .int .i64 a] w fun e w' => Tells (IsPt F a) e ∧ Below w.heap.size w w' := by
  by_cases q1 : 0 ≤ a
  · go_enter Try.func47, Try.ntmps47
    go_wp2_with fail
    go_ret
    exact ⟨⟨_, rfl, by simp [IsPt, q1]⟩, below_alloc _ _⟩
  · have q1' : decide (0 ≤ a) = false := by simp; omega
    go_enter Try.func47, Try.ntmps47
    go_wp2_with fail
    go_ret
    exact ⟨.no fun h => absurd h.1 (by omega), below_alloc _ _⟩
def otherI (n : Int) : Int := if n < 2 then 1 - n else n
theorem other_any (n : Int) (w : World) (h : -4611686018427387904 ≤ n) :
    Calls Try.prog 29 #[.int .i64 n] w fun e w' => e = .returned (.int .i64 (otherI n)) ∧ w = w' := by
  by_cases q : n < 2
  · go_enter Try.func29, Try.ntmps29
    go_wp2_with fail
    go_ret
    exact ⟨by unfold otherI; rw [if_pos q]; rfl, rfl⟩
  · go_enter Try.func29, Try.ntmps29
    go_wp2_with fail
    go_ret
    exact ⟨by unfold otherI; rw [if_neg (by omega)]; rfl, rfl⟩
end Go.Proofs.Ytjddegfigdpcbaa
