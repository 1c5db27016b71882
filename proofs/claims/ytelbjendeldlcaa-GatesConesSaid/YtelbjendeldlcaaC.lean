/- Literals of circuits: (*Builder).literal, known, IsLiteral, all; slices.Equal at bools and ints; Same. Lengths below 10^12. -/
import Derived.Test.YtelbjendeldlcaaV
import Derived.Deep.RegionHeld3
namespace Go.Proofs.Ytelbjendeldlcaa
open Go.RowKit

def LitOk (N : Int) (L : List Int) : Prop := ∀ x, x ∈ L → 0 ≤ x ∧ x < N
theorem LitOk.of_all {N : Int} {L : List Int} (h : ∀ j, j < L.length → 0 ≤ L.getD j 0 ∧ L.getD j 0 < N) : LitOk N L := by
  intro x hx
  obtain ⟨j, hj, rfl⟩ := List.mem_iff_getElem.1 hx
  have := h j hj
  rwa [List.getD_eq_getElem?_getD, List.getElem?_eq_getElem hj] at this
theorem LitOk.at_ {N : Int} {L : List Int} (h : LitOk N L) (j : Nat) (hj : j < L.length) : 0 ≤ L.getD j 0 ∧ L.getD j 0 < N := by
  rw [List.getD_eq_getElem?_getD, List.getElem?_eq_getElem hj]
  exact h _ (List.getElem_mem hj)
def litN (n : Int) (l : Nat) : Int := wrap64 (2 * nodesI n l)

set_option maxHeartbeats 400000 in
theorem literal_any (bb : Nat) (n : Int) (ga : Option Addr) (gl gc : Nat) (la : Option Addr) (lc : Nat) (L : List Int) (w : World)
   (hlen : L.length ≤ 1000000000000)
   (h0 : w.cell? ⟨bb, 0, none⟩ = some (.int .i64 n)) (h1 : w.cell? ⟨bb, 1, none⟩ = some (.slice ga gl gc)) (hL : Row w la (ints L)) :
    Calls Try.prog 42 #[.pointer (some ⟨bb, 0, none⟩), .slice la L.length lc] w fun e w' => Tells (LitOk (litN n gl) L) e ∧ Below w.heap.size w w' := by
  go_enter Try.func42, Try.ntmps42
  go_wp2
  go_loopw [9] (fun i wr => ∃ k : Nat, k ≤ L.length ∧ i = .int .i64 k ∧ (∀ j, j < k → 0 ≤ L.getD j 0 ∧ L.getD j 0 < litN n gl) ∧ Below w.heap.size w wr)
    (fun i _ => L.length - (intOf i).toNat)
  case atStart => exact ⟨0, Nat.zero_le _, rfl, fun j hj => absurd hj (by omega), Below.refl _ _⟩
  case round =>
    obtain ⟨k, hk, rfl, hall, hb⟩ := hrel
    have g0 := below_cell hb h0
    have g1 := below_cell hb h1
    have HA := hid hall; clear hall
    by_cases hlt : k < L.length
    · obtain ⟨sb, so, rfl, hc⟩ := hL.int k hlt
      obtain ⟨x, hx⟩ : ∃ x, x = L.getD k 0 := ⟨_, rfl⟩
      rw [← hx] at hc
      have hc' := below_cell hb hc
      have HX := hid hx; clear hc hx
      by_cases q1 : x < 0
      · go_wp2
        go_ret
        exact ⟨.no fun h => absurd (h.at_ k hlt).1 (by rw [← HX.out]; omega), hb⟩
      by_cases q2 : litN n gl ≤ x
      · have q2' : wrap64 (2 * nodesI n gl) ≤ x := q2
        go_wp2_with (go_at_call 40; refine (nodes_any _ _ _ _ _).mono ?_; rintro e w1 ⟨rfl, hb2⟩)
        go_ret
        exact ⟨.no fun h => absurd (h.at_ k hlt).2 (by rw [← HX.out]; omega), hb.trans (hb2.mono hb.size)⟩
      · have q2' : ¬ wrap64 (2 * nodesI n gl) ≤ x := q2
        go_wp2_with (go_at_call 40; refine (nodes_any _ _ _ _ _).mono ?_; rintro e w1 ⟨rfl, hb2⟩)
        refine ⟨⟨k + 1, by omega, by go_num, fun j hj => ?_, hb.trans (hb2.mono hb.size)⟩, by simp [intOf]; omega⟩
        by_cases hjk : j = k
        · subst hjk; rw [← HX.out]; omega
        · exact HA.out j (by omega)
    · go_wp2
      go_ret
      exact ⟨.yes (.of_all fun j hj => HA.out j (by omega)), hb⟩

set_option maxHeartbeats 400000 in
theorem isLiteral_any (n : Int) (a : Option Addr) (l c : Nat) (x : Int) (w : World) :
    Calls Try.prog 54 #[.agg #[.int .i64 n, .slice a l c], .int .i64 x] w fun e w' => Tells (0 ≤ x ∧ x < litN n l) e ∧ Below w.heap.size w w' := by
  by_cases q1 : 0 ≤ x
  · go_enter Try.func54, Try.ntmps54
    go_wp2_with (go_at_call 26; refine (rnodes_any _ _ _ _ _).mono ?_; rintro e w1 ⟨rfl, hb2⟩)
    go_ret
    exact ⟨⟨_, rfl, by simp [litN, q1]⟩, ((Below.refl _ _).alloc (Nat.le_refl _) _).trans (hb2.mono (by simp))⟩
  · go_enter Try.func54, Try.ntmps54
    go_wp2_with fail
    go_ret
    exact ⟨.no fun h => absurd h.1 (by omega), (Below.refl _ _).alloc (Nat.le_refl _) _⟩

set_option maxHeartbeats 400000 in
theorem known_any (n : Int) (ga : Option Addr) (gc : Nat) (G : List (Int × Int)) (la : Option Addr) (lc : Nat) (L : List Int) (w : World) (hG : Row w ga (gcells G)) (hlen : G.length ≤ 1000000000000) (hll : L.length ≤ 1000000000000) (hL : Row w la (ints L)) :
    Calls Try.prog 37 #[.agg #[.int .i64 n, .slice ga G.length gc], .slice la L.length lc] w fun e w' => Tells (Vld n G ∧ LitOk (litN n G.length) L) e ∧ Below w.heap.size w w' := by
  by_cases hV : Vld n G
  · by_cases hK : LitOk (litN n G.length) L
    · go_enter Try.func37, Try.ntmps37
      go_wp2_with (first
        | (go_at_call 12; refine (valid_any _ _ _ _ _ ((hG.alloc _).alloc _) hlen).mono ?_; rintro e w1 ⟨ht, hb1⟩; obtain rfl := ht.eq_yes hV; have c0 : w1.cell? ⟨w.heap.size + 1, 0, none⟩ = some (.int .i64 n) := (by have := box_cell hb1 0 _ rfl; simpa using this); have c1 : w1.cell? ⟨w.heap.size + 1, 1, none⟩ = some (.slice ga G.length gc) := (by have := box_cell hb1 1 _ rfl; simpa using this); clear ht)
        | (go_at_call 42; refine (literal_any _ _ _ _ _ _ _ _ _ hll c0 c1 (((hL.alloc _).alloc _).below hb1)).mono ?_; rintro e w2 ⟨ht, hb2⟩; obtain rfl := ht.eq_yes hK; clear ht))
      go_ret
      exact ⟨.yes ⟨hV, hK⟩, bthen (bthen (bthen (below_alloc _ _) (below_alloc _ _)) hb1) hb2⟩
    · go_enter Try.func37, Try.ntmps37
      go_wp2_with (first
        | (go_at_call 12; refine (valid_any _ _ _ _ _ ((hG.alloc _).alloc _) hlen).mono ?_; rintro e w1 ⟨ht, hb1⟩; obtain rfl := ht.eq_yes hV; have c0 : w1.cell? ⟨w.heap.size + 1, 0, none⟩ = some (.int .i64 n) := (by have := box_cell hb1 0 _ rfl; simpa using this); have c1 : w1.cell? ⟨w.heap.size + 1, 1, none⟩ = some (.slice ga G.length gc) := (by have := box_cell hb1 1 _ rfl; simpa using this); clear ht)
        | (go_at_call 42; refine (literal_any _ _ _ _ _ _ _ _ _ hll c0 c1 (((hL.alloc _).alloc _).below hb1)).mono ?_; rintro e w2 ⟨ht, hb2⟩; obtain rfl := ht.eq_no hK; clear ht))
      go_ret
      exact ⟨.no fun h => hK h.2, bthen (bthen (bthen (below_alloc _ _) (below_alloc _ _)) hb1) hb2⟩
  · go_enter Try.func37, Try.ntmps37
    go_wp2_with (go_at_call 12; refine (valid_any _ _ _ _ _ ((hG.alloc _).alloc _) hlen).mono ?_; rintro e w1 ⟨ht, hb1⟩; obtain rfl := ht.eq_no hV; clear ht)
    go_ret
    exact ⟨.no fun h => hV h.1, bthen (bthen (below_alloc _ _) (below_alloc _ _)) hb1⟩

set_option maxHeartbeats 1000000 in
theorem rvalid_any (n : Int) (ga : Option Addr) (gc : Nat) (G : List (Int × Int)) (w : World) (hG : Row w ga (gcells G)) (hlen : G.length ≤ 1000000000000) :
    Calls Try.prog 13 #[.agg #[.int .i64 n, .slice ga G.length gc]] w fun e w' => Tells (Vld n G) e ∧ Below w.heap.size w w' := by
  by_cases h1 : n < 0
  · go_enter Try.func13, Try.ntmps13
    go_wp2
    go_ret
    exact ⟨.no fun h => absurd h.lo (by omega), (Below.refl _ _).alloc (Nat.le_refl _) _⟩
  by_cases h2 : 1024 < n
  · go_enter Try.func13, Try.ntmps13
    go_wp2
    go_ret
    exact ⟨.no fun h => absurd h.hi (by omega), (Below.refl _ _).alloc (Nat.le_refl _) _⟩
  by_cases h4 : 65536 < G.length
  · go_enter Try.func13, Try.ntmps13
    go_wp2
    go_ret
    exact ⟨.no fun h => absurd h.size (by omega), (Below.refl _ _).alloc (Nat.le_refl _) _⟩
  have hn : nodesI n G.length = 1 + n + G.length := by unfold nodesI wrap64; omega
  by_cases h3 : 65536 < 1 + n + (G.length : Int)
  · go_enter Try.func13, Try.ntmps13
    go_wp2_with (go_at_call 26; refine (rnodes_any _ _ _ _ _).mono ?_; rintro e w1 ⟨rfl, hb1⟩; rw [hn])
    go_ret
    exact ⟨.no fun h => absurd h.size (by omega), ((Below.refl _ _).alloc (Nat.le_refl _) _).trans (hb1.mono (by simp))⟩
  go_enter Try.func13, Try.ntmps13
  go_wp2_with (go_at_call 26; refine (rnodes_any _ _ _ _ _).mono ?_; rintro e w1 ⟨rfl, hb1⟩; rw [hn]; have c0 := box_cell hb1 0 _ rfl; have c1 := box_cell hb1 1 _ rfl; have hz1 := lt_of_cell c0; dsimp only at hz1)
  have hB1 : Below w.heap.size w w1 := ((Below.refl _ _).alloc (Nat.le_refl _) _).trans (hb1.mono (by simp))
  go_loopw [3] (fun i wr => ∃ k : Nat, k ≤ G.length ∧ i = .int .i64 k ∧ (∃ q, wr = w1.drewN q) ∧ ∀ j, j < k → GOk n G j)
    (fun i _ => G.length - (intOf i).toNat)
  case atStart => exact ⟨0, Nat.zero_le _, rfl, ⟨0, rfl⟩, fun j hj => absurd hj (by omega)⟩
  case round =>
    obtain ⟨k, hk, rfl, ⟨q, rfl⟩, hall⟩ := hrel
    have HA := hid hall; clear hall
    by_cases hlt : k < G.length
    · obtain ⟨sb, so, rfl, hx, hy⟩ := hG.gate k hlt
      obtain ⟨x, hx0⟩ : ∃ x, x = (G.getD k (0, 0)).1 := ⟨_, rfl⟩
      obtain ⟨y, hy0⟩ : ∃ y, y = (G.getD k (0, 0)).2 := ⟨_, rfl⟩
      rw [← hx0] at hx; rw [← hy0] at hy
      have hg : G.getD k (0, 0) = (x, y) := by rw [hx0, hy0]
      have hok : GOk n G k ↔ (2 ≤ x ∧ x < y ∧ y < 2 * (1 + n + k) ∧ y ≠ notI x ∧ (x, y) ∉ G.take k) := by unfold GOk; rw [hg]
      have HO := hid hok; have HG := hid hg; clear hx0 hy0 hok hg
      have hx' := below_cell hB1 hx
      have hy' := below_cell hB1 hy
      have i1 : (0 : Int) ≤ k := by omega
      have i2 : (k : Int) < G.length := by omega
      clear hx hy
      go_wp2_with fail
      go_big_quiet (fail)
      have hBr : ∀ q, Below w.heap.size w (w1.drewN q) := fun q => bthen hB1 (below_drewN _ q)
      by_cases q1 : x < 2
      · go_wp2_with fail
        go_ret
        exact ⟨.no fun h => absurd (HO.out.1 (h.gates k hlt)).1 (by omega), hBr _⟩
      by_cases q2 : y ≤ x
      · go_wp2_with fail
        go_ret
        exact ⟨.no fun h => absurd (HO.out.1 (h.gates k hlt)).2.1 (by omega), hBr _⟩
      by_cases q3 : 2 * (1 + n + k) ≤ y
      · go_wp2_with fail
        go_ret
        exact ⟨.no fun h => absurd (HO.out.1 (h.gates k hlt)).2.2.1 (by omega), hBr _⟩
      by_cases q4 : (notI x == y) = true
      · go_wp2_with (go_at_call 28; refine (rnot_any _ _ (by omega) (by omega)).mono ?_; rintro e w2 ⟨rfl, rfl⟩)
        go_ret
        exact ⟨.no fun h => absurd (by simpa using q4 : notI x = y).symm (HO.out.1 (h.gates k hlt)).2.2.2.1, hBr _⟩
      have q4' : (notI x == y) = false := by simpa using q4
      clear q4
      go_wp2_with (go_at_call 28; refine (rnot_any _ _ (by omega) (by omega)).mono ?_; rintro e w2 ⟨rfl, rfl⟩)
      go_loopw [6] (fun i wr => ∃ m : Nat, m ≤ k ∧ i = .int .i64 m ∧ (∃ q, wr = w1.drewN q) ∧ ∀ j, j < m → G.getD j (0, 0) ≠ (x, y))
        (fun i _ => k - (intOf i).toNat)
      case atStart => exact ⟨0, Nat.zero_le _, rfl, ⟨_, rfl⟩, fun j hj => absurd hj (by omega)⟩
      case round =>
        obtain ⟨m, hm, rfl, ⟨q', rfl⟩, hall⟩ := hrel
        have HA2 := hid hall; clear hall
        by_cases hlt2 : m < k
        · obtain ⟨sb', so', e', hx2, hy2⟩ := hG.gate m (by omega)
          injection e' with e'; injection e' with e1 e2; subst e1; subst e2
          obtain ⟨a, ha0⟩ : ∃ a, a = (G.getD m (0, 0)).1 := ⟨_, rfl⟩
          obtain ⟨b, hb0⟩ : ∃ b, b = (G.getD m (0, 0)).2 := ⟨_, rfl⟩
          rw [← ha0] at hx2; rw [← hb0] at hy2
          have hg2 : G.getD m (0, 0) = (a, b) := by rw [ha0, hb0]
          have HG2 := hid hg2; clear ha0 hb0 hg2
          have hx2' := below_cell hB1 hx2
          have hy2' := below_cell hB1 hy2
          clear hx2 hy2
          have i3 : (0 : Int) ≤ m := by omega
          have i4 : (m : Int) < G.length := by omega
          have hgd := fun p q W => guard69 .eql p q a b x y W
          by_cases q5 : (a, b) = (x, y)
          · have hT : (a == x && b == y) = true := by obtain ⟨rfl, rfl⟩ := Prod.mk.inj q5; simp
            have heq := fun W => eql69 a b x y W
            simp only [hT] at heq
            have HQ5 := hid q5; clear q5 hT
            go_wp2_with fail
            go_big_quiet (fail)
            go_wp2_with fail
            go_ret
            refine ⟨.no fun h => (HO.out.1 (h.gates k hlt)).2.2.2.2 ?_, bthen hB1 (bthen (below_drewN _ _) (below_drewN _ _))⟩
            rw [← HQ5.out, ← HG2.out]
            exact mem_take_getD G (0, 0) hlt2 hlt
          · have hT : (a == x && b == y) = false := by
              rw [Bool.and_eq_false_iff]; simp only [beq_eq_false_iff_ne]
              by_cases hax : a = x
              · right; intro hby; exact q5 (by rw [hax, hby])
              · left; exact hax
            have heq := fun W => eql69 a b x y W
            simp only [hT] at heq
            have HQ5 := hid q5; clear q5 hT
            go_wp2_with fail
            go_big_quiet (fail)
            go_wp2_with fail
            refine ⟨⟨m + 1, by omega, by go_num, ⟨_, rfl⟩, fun j hj => ?_⟩, by simp [intOf]; omega⟩
            by_cases hjm : j = m
            · subst hjm; rw [HG2.out]; exact HQ5.out
            · exact HA2.out j (by omega)
        · go_wp2_with fail
          refine ⟨⟨k + 1, by omega, by go_num, ⟨_, rfl⟩, fun j hj => ?_⟩, by simp [intOf]; omega⟩
          by_cases hjk : j = k
          · subst hjk
            refine HO.out.2 ⟨by omega, by omega, by omega, fun e => by simp [e] at q4', fun hmem => ?_⟩
            obtain ⟨i, hi, he⟩ := mem_take_inv G (0, 0) hmem
            exact HA2.out i (by omega) he
          · exact HA.out j (by omega)
    · go_wp2
      go_ret
      exact ⟨.yes ⟨by omega, by omega, by omega, fun j hj => HA.out j (by omega)⟩, hB1.trans ⟨rfl, rfl, rfl, Nat.le_refl _, fun _ _ => rfl⟩⟩
end Go.Proofs.Ytelbjendeldlcaa
