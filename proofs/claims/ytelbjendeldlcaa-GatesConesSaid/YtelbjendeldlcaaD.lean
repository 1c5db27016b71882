/- all; slices.Equal at bools and ints; Same. Lengths below 10^12. -/
import Derived.Test.YtelbjendeldlcaaC
namespace Go.Proofs.Ytelbjendeldlcaa
open Go.RowKit

set_option maxHeartbeats 400000 in
theorem all_any (n : Int) (ga : Option Addr) (gc : Nat) (G : List (Int × Int)) (la : Option Addr) (lc : Nat) (L : List Int) (w : World) (hG : Row w ga (gcells G)) (hlen : G.length ≤ 1000000000000) (hll : L.length ≤ 1000000000000) (hL : Row w la (ints L)) :
    Calls Try.prog 39 #[.agg #[.int .i64 n, .slice ga G.length gc], .slice la L.length lc] w fun e w' => Tells (Vld n G ∧ LitOk (litN n G.length) L) e ∧ Below w.heap.size w w' := by
  go_enter Try.func39, Try.ntmps39
  go_wp2_with fail
  go_loopw [5] (fun i wr => ∃ k : Nat, k ≤ L.length ∧ i = .int .i64 k ∧ Below (w.heap.size + 1) (w.alloc (.cells #[.int .i64 n, .slice ga G.length gc] 24)) wr ∧ ∀ j, j < k → 0 ≤ L.getD j 0 ∧ L.getD j 0 < litN n G.length)
    (fun i _ => L.length - (intOf i).toNat)
  case atStart => exact ⟨0, Nat.zero_le _, rfl, Below.refl _ _, fun j hj => absurd hj (by omega)⟩
  case round =>
    obtain ⟨k, hk, rfl, hb, hall⟩ := hrel
    have HA := hid hall; clear hall
    have hbw : Below w.heap.size w wr := (below_alloc _ _).trans (hb.mono (by omega))
    have c0 : wr.cell? ⟨w.heap.size, 0, none⟩ = some (.int .i64 n) := by rw [hb.cell (by simp)]; go_simp
    have c1 : wr.cell? ⟨w.heap.size, 1, none⟩ = some (.slice ga G.length gc) := by rw [hb.cell (by simp)]; go_simp
    by_cases hlt : k < L.length
    · obtain ⟨sb, so, rfl, hc⟩ := hL.int k hlt
      obtain ⟨x, hx⟩ : ∃ x, x = L.getD k 0 := ⟨_, rfl⟩
      rw [← hx] at hc
      have hc' := below_cell hbw hc
      have HX := hid hx; clear hc hx
      by_cases q : 0 ≤ x ∧ x < litN n G.length
      · go_wp2_with fail
        go_region_held3 (fun W => W.cell? ⟨w.heap.size, 0, none⟩ = some (.int .i64 n) ∧ W.cell? ⟨w.heap.size, 1, none⟩ = some (.slice ga G.length gc) ∧ W.cell? ⟨sb, so + k, none⟩ = some (.int .i64 x)) (first | exact ⟨below_cell hbX c0, below_cell hbX c1, below_cell hbX hc'⟩ | go_simp) ((go_at_call 54; refine (isLiteral_any _ _ _ _ _ _).mono ?_; rintro e w1 ⟨ht, hb1⟩; obtain rfl := ht.eq_yes q; have hbX := bthen (below_drew' wr) hb1; clear ht))
        go_wp2_with fail
        refine ⟨⟨k + 1, by omega, by go_num, hb.trans (hbX.mono (by have := hb.size; simp at this; omega)), fun j hj => ?_⟩, by simp [intOf]; omega⟩
        by_cases hjk : j = k
        · subst hjk; rw [← HX.out]; exact q
        · exact HA.out j (by omega)
      · go_wp2_with fail
        go_region_held3 (fun W => W.cell? ⟨w.heap.size, 0, none⟩ = some (.int .i64 n) ∧ W.cell? ⟨w.heap.size, 1, none⟩ = some (.slice ga G.length gc) ∧ W.cell? ⟨sb, so + k, none⟩ = some (.int .i64 x)) (first | exact ⟨below_cell hbX c0, below_cell hbX c1, below_cell hbX hc'⟩ | go_simp) ((go_at_call 54; refine (isLiteral_any _ _ _ _ _ _).mono ?_; rintro e w1 ⟨ht, hb1⟩; obtain rfl := ht.eq_no q; have hbX := bthen (below_drew' wr) hb1; clear ht))
        go_wp2_with fail
        go_ret
        exact ⟨.no fun h => q (by rw [HX.out]; exact h.2.at_ k hlt), bthen hbw hbX⟩
    · by_cases hV : Vld n G
      · go_wp2_with (go_at_call 13; refine (rvalid_any _ _ _ _ _ (hG.below hbw) hlen).mono ?_; rintro e w1 ⟨ht, hb1⟩; obtain rfl := ht.eq_yes hV; clear ht)
        go_ret
        exact ⟨.yes ⟨hV, .of_all fun j hj => HA.out j (by omega)⟩, bthen hbw hb1⟩
      · go_wp2_with (go_at_call 13; refine (rvalid_any _ _ _ _ _ (hG.below hbw) hlen).mono ?_; rintro e w1 ⟨ht, hb1⟩; obtain rfl := ht.eq_no hV; clear ht)
        go_ret
        exact ⟨.no fun h => hV h.1, bthen hbw hb1⟩

theorem getD_ext {α : Type} (d : α) {L M : List α} (hl : L.length = M.length) (h : ∀ j, j < L.length → L.getD j d = M.getD j d) : L = M := by
  apply List.ext_getElem hl
  intro j h1 h2
  have := h j h1
  rwa [List.getD_eq_getElem?_getD, List.getD_eq_getElem?_getD, List.getElem?_eq_getElem h1, List.getElem?_eq_getElem h2] at this

set_option maxHeartbeats 400000 in
theorem equalB_any (A B : Option Addr) (c d : Nat) (L M : List Bool) (w : World) (hl : L.length ≤ 1000000000000) (hm : M.length ≤ 1000000000000) (hL : Row w A (bools L)) (hM : Row w B (bools M)) :
    Calls Try.prog 14 #[.slice A L.length c, .slice B M.length d] w fun e w' => Tells (L = M) e ∧ Below w.heap.size w w' := by
  by_cases h1 : L.length = M.length
  · have h1' : ((L.length : Int) != (M.length : Int)) = false := by simp [h1]
    have H1 := hid h1; clear h1
    go_enter Try.func14, Try.ntmps14
    go_wp2_with fail
    go_loopw [13] (fun i wr => ∃ k : Nat, k ≤ L.length ∧ i = .int .i64 k ∧ (∃ q, wr = w.drewN q) ∧ ∀ j, j < k → L.getD j false = M.getD j false)
      (fun i _ => L.length - (intOf i).toNat)
    case atStart => exact ⟨0, Nat.zero_le _, rfl, ⟨0, rfl⟩, fun j hj => absurd hj (by omega)⟩
    case round =>
      obtain ⟨k, hk, rfl, ⟨q, rfl⟩, hall⟩ := hrel
      have HA := hid hall; clear hall
      by_cases hlt : k < L.length
      · obtain ⟨sb, so, rfl, hc⟩ := hL.bool k hlt
        obtain ⟨sb', so', rfl, hc'⟩ := hM.bool k (by have := H1.out; omega)
        obtain ⟨x, hx⟩ : ∃ x, x = L.getD k false := ⟨_, rfl⟩
        obtain ⟨y, hy⟩ : ∃ y, y = M.getD k false := ⟨_, rfl⟩
        rw [← hx] at hc; rw [← hy] at hc'
        have HX := hid hx; have HY := hid hy; clear hx hy
        have i1 : (0 : Int) ≤ k := by omega
        have i2 : (k : Int) < L.length := by omega
        have i3 : (k : Int) < M.length := by have := H1.out; omega
        by_cases q : x = y
        · subst q
          go_wp2_with fail
          go_big_quiet (fail)
          go_wp2_with fail
          refine ⟨⟨k + 1, by omega, by go_num, ⟨_, rfl⟩, fun j hj => ?_⟩, by simp [intOf]; omega⟩
          by_cases hjk : j = k
          · subst hjk; rw [← HX.out, ← HY.out]
          · exact HA.out j (by omega)
        · have q' : (x == y) = false := by simpa using q
          have HQ := hid q; clear q
          go_wp2_with fail
          go_big_quiet (fail)
          go_wp2_with fail
          go_ret
          exact ⟨.no fun h => HQ.out (by rw [HX.out, HY.out, h]), bthen (below_drewN _ _) (below_drewN _ _)⟩
      · go_wp2_with fail
        go_ret
        exact ⟨.yes (getD_ext false H1.out fun j hj => HA.out j (by omega)), below_drewN _ _⟩
  · have h1' : ((L.length : Int) != (M.length : Int)) = true := by rw [bne_iff_ne]; omega
    have H1 := hid h1; clear h1
    go_enter Try.func14, Try.ntmps14
    go_wp2_with fail
    go_ret
    exact ⟨.no fun h => H1.out (by rw [h]), Below.refl _ _⟩
set_option maxHeartbeats 400000 in
theorem equalI_any (A B : Option Addr) (c d : Nat) (L M : List Int) (w : World) (hl : L.length ≤ 1000000000000) (hm : M.length ≤ 1000000000000) (hL : Row w A (ints L)) (hM : Row w B (ints M)) :
    Calls Try.prog 34 #[.slice A L.length c, .slice B M.length d] w fun e w' => Tells (L = M) e ∧ Below w.heap.size w w' := by
  by_cases h1 : L.length = M.length
  · have h1' : ((L.length : Int) != (M.length : Int)) = false := by simp [h1]
    have H1 := hid h1; clear h1
    go_enter Try.func34, Try.ntmps34
    go_wp2_with fail
    go_loopw [13] (fun i wr => ∃ k : Nat, k ≤ L.length ∧ i = .int .i64 k ∧ (∃ q, wr = w.drewN q) ∧ ∀ j, j < k → L.getD j 0 = M.getD j 0)
      (fun i _ => L.length - (intOf i).toNat)
    case atStart => exact ⟨0, Nat.zero_le _, rfl, ⟨0, rfl⟩, fun j hj => absurd hj (by omega)⟩
    case round =>
      obtain ⟨k, hk, rfl, ⟨q, rfl⟩, hall⟩ := hrel
      have HA := hid hall; clear hall
      by_cases hlt : k < L.length
      · obtain ⟨sb, so, rfl, hc⟩ := hL.int k hlt
        obtain ⟨sb', so', rfl, hc'⟩ := hM.int k (by have := H1.out; omega)
        obtain ⟨x, hx⟩ : ∃ x, x = L.getD k 0 := ⟨_, rfl⟩
        obtain ⟨y, hy⟩ : ∃ y, y = M.getD k 0 := ⟨_, rfl⟩
        rw [← hx] at hc; rw [← hy] at hc'
        have HX := hid hx; have HY := hid hy; clear hx hy
        have i1 : (0 : Int) ≤ k := by omega
        have i2 : (k : Int) < L.length := by omega
        have i3 : (k : Int) < M.length := by have := H1.out; omega
        by_cases q : x = y
        · subst q
          go_wp2_with fail
          go_big_quiet (fail)
          go_wp2_with fail
          refine ⟨⟨k + 1, by omega, by go_num, ⟨_, rfl⟩, fun j hj => ?_⟩, by simp [intOf]; omega⟩
          by_cases hjk : j = k
          · subst hjk; rw [← HX.out, ← HY.out]
          · exact HA.out j (by omega)
        · have q' : (x != y) = true := by simpa using q
          have HQ := hid q; clear q
          go_wp2_with fail
          go_big_quiet (fail)
          go_wp2_with fail
          go_ret
          exact ⟨.no fun h => HQ.out (by rw [HX.out, HY.out, h]), bthen (below_drewN _ _) (below_drewN _ _)⟩
      · go_wp2_with fail
        go_ret
        exact ⟨.yes (getD_ext 0 H1.out fun j hj => HA.out j (by omega)), below_drewN _ _⟩
  · have h1' : ((L.length : Int) != (M.length : Int)) = true := by rw [bne_iff_ne]; omega
    have H1 := hid h1; clear h1
    go_enter Try.func34, Try.ntmps34
    go_wp2_with fail
    go_ret
    exact ⟨.no fun h => H1.out (by rw [h]), Below.refl _ _⟩

set_option maxHeartbeats 400000 in
theorem same_any (n m : Int) (A B : Option Addr) (c d : Nat) (G H : List (Int × Int)) (w : World) (hl : G.length ≤ 1000000000000) (hm : H.length ≤ 1000000000000) (hG : Row w A (gcells G)) (hH : Row w B (gcells H)) :
    Calls Try.prog 27 #[.agg #[.int .i64 n, .slice A G.length c], .agg #[.int .i64 m, .slice B H.length d]] w fun e w' => Tells (n = m ∧ G = H) e ∧ Below w.heap.size w w' := by
  have hB2 : ∀ o1 o2 q, Below w.heap.size w (((w.alloc o1).alloc o2).drewN q) := fun o1 o2 q => bthen (bthen (below_alloc _ _) (below_alloc _ _)) (below_drewN _ _)
  have hB0 : ∀ o1 o2, Below w.heap.size w ((w.alloc o1).alloc o2) := fun o1 o2 => bthen (below_alloc _ _) (below_alloc _ _)
  have HB := hid hB2; have HB0 := hid hB0; clear hB2 hB0
  by_cases h0 : n = m
  · have h0' : (n != m) = false := by simp [h0]
    have H0 := hid h0; clear h0
    by_cases h1 : G.length = H.length
    · have h1' : ((G.length : Int) != (H.length : Int)) = false := by simp [h1]
      have H1 := hid h1; clear h1
      go_enter Try.func27, Try.ntmps27
      go_wp2_with fail
      go_loopw [5] (fun i wr => ∃ k : Nat, k ≤ G.length ∧ i = .int .i64 k ∧ (∃ q, wr = ((w.alloc (.cells #[.int .i64 n, .slice A G.length c] 24)).alloc (.cells #[.int .i64 m, .slice B H.length d] 24)).drewN q) ∧ ∀ j, j < k → G.getD j (0, 0) = H.getD j (0, 0))
        (fun i _ => G.length - (intOf i).toNat)
      case atStart => exact ⟨0, Nat.zero_le _, rfl, ⟨0, rfl⟩, fun j hj => absurd hj (by omega)⟩
      case round =>
        obtain ⟨k, hk, rfl, ⟨q, rfl⟩, hall⟩ := hrel
        have HA := hid hall; clear hall
        by_cases hlt : k < G.length
        · obtain ⟨sb, so, rfl, hx, hy⟩ := hG.gate k hlt
          obtain ⟨sb', so', rfl, hx', hy'⟩ := hH.gate k (by have := H1.out; omega)
          obtain ⟨x, hxe⟩ : ∃ x, x = (G.getD k (0, 0)).1 := ⟨_, rfl⟩
          obtain ⟨y, hye⟩ : ∃ y, y = (G.getD k (0, 0)).2 := ⟨_, rfl⟩
          obtain ⟨x', hxe'⟩ : ∃ x, x = (H.getD k (0, 0)).1 := ⟨_, rfl⟩
          obtain ⟨y', hye'⟩ : ∃ y, y = (H.getD k (0, 0)).2 := ⟨_, rfl⟩
          rw [← hxe] at hx; rw [← hye] at hy; rw [← hxe'] at hx'; rw [← hye'] at hy'
          have hg : G.getD k (0, 0) = (x, y) := by rw [hxe, hye]
          have hh : H.getD k (0, 0) = (x', y') := by rw [hxe', hye']
          have HG := hid hg; have HH := hid hh; clear hxe hye hxe' hye' hg hh
          have z1 := lt_of_cell hx; have z2 := lt_of_cell hx'
          dsimp only at z1 z2
          have i1 : (0 : Int) ≤ k := by omega
          have i2 : (k : Int) < G.length := by omega
          have i3 : (k : Int) < H.length := by have := H1.out; omega
          have hgd := fun p q W => guard69 .neq p q x y x' y' W
          have heq := fun W => neq69 x y x' y' W
          by_cases q5 : (x, y) = (x', y')
          · have hT : (x == x' && y == y') = true := by obtain ⟨rfl, rfl⟩ := Prod.mk.inj q5; simp
            simp only [hT] at heq
            have HQ5 := hid q5; clear q5 hT
            go_wp2_with fail
            go_big_quiet (fail)
            go_wp2_with fail
            refine ⟨⟨k + 1, by omega, by go_num, ⟨_, rfl⟩, fun j hj => ?_⟩, by simp [intOf]; omega⟩
            by_cases hjk : j = k
            · subst hjk; rw [HG.out, HH.out]; exact HQ5.out
            · exact HA.out j (by omega)
          · have hT : (x == x' && y == y') = false := by
              rw [Bool.and_eq_false_iff]; simp only [beq_eq_false_iff_ne]
              by_cases hax : x = x'
              · right; intro hby; exact q5 (by rw [hax, hby])
              · left; exact hax
            simp only [hT] at heq
            have HQ5 := hid q5; clear q5 hT
            go_wp2_with fail
            go_big_quiet (fail)
            go_wp2_with fail
            go_ret
            exact ⟨.no fun h => HQ5.out (by rw [← HG.out, ← HH.out, h.2]), bthen (HB.out _ _ _) (below_drewN _ _)⟩
        · go_wp2_with fail
          go_ret
          exact ⟨.yes ⟨H0.out, getD_ext (0, 0) H1.out fun j hj => HA.out j (by omega)⟩, HB.out _ _ _⟩
    · have h1' : ((G.length : Int) != (H.length : Int)) = true := by rw [bne_iff_ne]; omega
      have H1 := hid h1; clear h1
      go_enter Try.func27, Try.ntmps27
      go_wp2_with fail
      go_ret
      exact ⟨.no fun h => H1.out (by rw [h.2]), HB0.out _ _⟩
  · have h0' : (n != m) = true := by simpa using h0
    have H0 := hid h0; clear h0
    go_enter Try.func27, Try.ntmps27
    go_wp2_with fail
    go_ret
    exact ⟨.no fun h => H0.out h.1, HB0.out _ _⟩
end Go.Proofs.Ytelbjendeldlcaa
