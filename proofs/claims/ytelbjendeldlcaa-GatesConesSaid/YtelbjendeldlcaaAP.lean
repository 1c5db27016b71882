/- assessorref22.Ints: two lists of numbers are equal. -/
import Derived.Test.YtelbjendeldlcaaD
namespace Go.Proofs.Ytelbjendeldlcaa
open Go.RowKit

set_option maxHeartbeats 400000 in
theorem rints_any (A B : Option Addr) (c d : Nat) (L M : List Int) (w : World) (hl : L.length ≤ 1000000000000) (hm : M.length ≤ 1000000000000) (hL : Row w A (ints L)) (hM : Row w B (ints M)) :
    Calls Try.prog 31 #[.slice A L.length c, .slice B M.length d] w fun e w' => Tells (L = M) e ∧ Below w.heap.size w w' := by
  by_cases h1 : L.length = M.length
  · have h1' : ((L.length : Int) != (M.length : Int)) = false := by simp [h1]
    have H1 := hid h1; clear h1
    go_enter Try.func31, Try.ntmps31
    go_wp2_with fail
    go_loopw [5] (fun i wr => ∃ k : Nat, k ≤ L.length ∧ i = .int .i64 k ∧ (∃ q, wr = w.drewN q) ∧ ∀ j, j < k → L.getD j 0 = M.getD j 0)
      (fun i _ => L.length - (intOf i).toNat)
    case atStart => exact ⟨0, Nat.zero_le _, rfl, ⟨0, rfl⟩, fun j hj => absurd hj (by omega)⟩
    case round =>
      obtain ⟨k, hk, rfl, ⟨q, rfl⟩, hall⟩ := hrel
      have HA := hid hall; clear hall
      by_cases hlt : k < L.length
      · obtain ⟨sb, so, rfl, hc⟩ := hL.int k hlt
        obtain ⟨sb', so', rfl, hc'⟩ := hM.int k (by have := H1.out; omega)
        obtain ⟨x, hx⟩ : ∃ x, x = L.getD k 0 := ⟨_, rfl⟩
        obtain ⟨y, hy⟩ : ∃ y, y = M.getD k 0 := ⟨_, rfl⟩
        rw [← hx] at hc; rw [← hy] at hc'
        have HX := hid hx; have HY := hid hy; clear hx hy
        have i1 : (0 : Int) ≤ k := by omega
        have i2 : (k : Int) < L.length := by omega
        have i3 : (k : Int) < M.length := by have := H1.out; omega
        by_cases q : x = y
        · subst q
          go_wp2_with fail
          go_big_quiet (fail)
          go_wp2_with fail
          refine ⟨⟨k + 1, by omega, by go_num, ⟨_, rfl⟩, fun j hj => ?_⟩, by simp [intOf]; omega⟩
          by_cases hjk : j = k
          · subst hjk; rw [← HX.out, ← HY.out]
          · exact HA.out j (by omega)
        · have q' : (x != y) = true := by simpa using q
          have HQ := hid q; clear q
          go_wp2_with fail
          go_big_quiet (fail)
          go_wp2_with fail
          go_ret
          exact ⟨.no fun h => HQ.out (by rw [HX.out, HY.out, h]), bthen (below_drewN _ _) (below_drewN _ _)⟩
      · go_wp2_with fail
        go_ret
        exact ⟨.yes (getD_ext 0 H1.out fun j hj => HA.out j (by omega)), below_drewN _ _⟩
  · have h1' : ((L.length : Int) != (M.length : Int)) = true := by rw [bne_iff_ne]; omega
    have H1 := hid h1; clear h1
    go_enter Try.func31, Try.ntmps31
    go_wp2_with fail
    go_ret
    exact ⟨.no fun h => H1.out (by rw [h]), Below.refl _ _⟩


end Go.Proofs.Ytelbjendeldlcaa
