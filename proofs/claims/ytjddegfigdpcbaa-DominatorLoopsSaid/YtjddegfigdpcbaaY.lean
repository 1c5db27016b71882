/- The way up by immediate dominators: DominatorChains' closure. -/
import Derived.Test.YtjddegfigdpcbaaX
namespace Go.Proofs.Ytjddegfigdpcbaa
open Go.RowKit

set_option maxHeartbeats 1000000 in
theorem chain_any (A : Option Addr) (c : Nat) (T : List Int) (a b : Int) (nb n : Nat) (w : World) (hT : Row w A (ints T)) (hl : T.length = n) (hn : n ≤ 1024) (hc : w.cell? ⟨nb, 0, none⟩ = some (.int .i64 n)) :
    Calls Try.prog 27 #[.slice A n c, .int .i64 a, .int .i64 b, .pointer (some ⟨nb, 0, none⟩)] w fun e w' => e = .returned (.bool (chainB T n a (n + 1) b)) ∧ w = w' := by
  obtain ⟨x, hx⟩ : ∃ x, x = chainB T n a (n + 1) b := ⟨_, rfl⟩
  rw [← hx]
  have HX := hid hx; have HL := hid hl; clear hx hl
  go_enter Try.func27, Try.ntmps27
  go_wp2_with fail
  go_loopw [10, 2] (fun i v wr => ∃ k : Nat, ∃ b' : Int, k ≤ n + 1 ∧ i = .int .i64 k ∧ v = .int .i64 b' ∧ wr = w ∧ Hid (chainB T n a (n + 1 - k) b' = x)) (fun i _ _ => n + 1 - (intOf i).toNat)
  case atStart => exact ⟨0, b, Nat.zero_le _, rfl, rfl, rfl, HX.out.symm⟩
  case round =>
    obtain ⟨k, b', hk, rfl, rfl, rfl, HC⟩ := hrel
    by_cases hlt : k < n + 1
    · have hstep : chainB T n a (n + 1 - k) b' = if a = b' then true else if b' < 0 ∨ (n : Int) ≤ b' then false else chainB T n a (n + 1 - (k + 1)) (T.getD b'.toNat 0) := by
        rw [show n + 1 - k = (n + 1 - (k + 1)) + 1 by omega]; rfl
      have HST := hid hstep; clear hstep
      by_cases q : a = b'
      · have q1 : (a == b') = true := by simp [q]
        have hx : x = true := by rw [← HC.out, HST.out, if_pos q]
        have HX2 := hid hx; clear q hx
        go_wp2_with fail
        go_ret
        exact ⟨by rw [HX2.out]; rfl, rfl⟩
      have q1 : (a == b') = false := by simpa using q
      by_cases q2 : b' < 0
      · have hx : x = false := by rw [← HC.out, HST.out, if_neg q, if_pos (.inl q2)]
        have HX2 := hid hx; clear q hx
        go_wp2_with fail
        go_ret
        exact ⟨by rw [HX2.out]; rfl, rfl⟩
      by_cases q3 : (n : Int) ≤ b'
      · have hx : x = false := by rw [← HC.out, HST.out, if_neg q, if_pos (.inr q3)]
        have HX2 := hid hx; clear q hx
        go_wp2_with fail
        go_ret
        exact ⟨by rw [HX2.out]; rfl, rfl⟩
      have hx : chainB T n a (n + 1 - (k + 1)) (T.getD b'.toNat 0) = x := by rw [← HC.out, HST.out, if_neg q, if_neg (by omega)]
      obtain ⟨p, rfl⟩ := Int.eq_ofNat_of_zero_le (show 0 ≤ b' by omega)
      rw [Int.toNat_natCast] at hx
      obtain ⟨sb, so, rfl, ht⟩ := hT.int p (by rw [HL.out]; omega)
      obtain ⟨y, hy⟩ : ∃ y, y = T.getD p 0 := ⟨_, rfl⟩
      rw [← hy] at hx ht
      have HX2 := hid hx
      clear q hx hy
      go_wp2_with fail
      exact ⟨⟨k + 1, y, by omega, by go_num, rfl, trivial, HX2⟩, by simp [intOf]; omega⟩
    · have hx : x = false := by rw [← HC.out, show n + 1 - k = 0 by omega]; rfl
      have HX2 := hid hx; clear hx
      go_wp2_with fail
      go_ret
      exact ⟨by rw [HX2.out]; rfl, rfl⟩
end Go.Proofs.Ytjddegfigdpcbaa
