/- Small functions of chapter 24: Not, nodes, literals. Bounds: numbers below 2^62. -/
import Derived.Test.YtelbjendeldlcaaA
import Derived.Deep.QuietTactic
import Derived.BigQuiet
namespace Go.Proofs.Ytelbjendeldlcaa
open Go.RowKit
def notI (x : Int) : Int := if x % 2 = 0 then x + 1 else x - 1
theorem nat_xor_one (m : Nat) : m ^^^ 1 = if m % 2 = 0 then m + 1 else m - 1 := by
  have h1 : (m ^^^ 1) / 2 = m / 2 := by rw [Nat.xor_div_two]; simp
  have h2 : (m ^^^ 1) % 2 = 1 ↔ ¬ (m % 2 = 1) := by rw [Nat.xor_mod_two_eq_one]; simp
  generalize m ^^^ 1 = t at *
  split <;> omega
theorem xor_one (x : Int) (h : -4611686018427387904 ≤ x) (h' : x ≤ 4611686018427387904) : bits .xor .i64 x 1 = notI x := by
  unfold bits
  simp only [BitVec.toNat_xor, BitVec.toNat_ofInt]
  have e1 : ((1 : Int) % ((2 ^ IntKind.i64.bits : Nat) : Int)).toNat = 1 := by decide
  have e2 : ((2 ^ IntKind.i64.bits : Nat) : Int) = 18446744073709551616 := by decide
  rw [e1, e2, nat_xor_one, IntKind.wrap_i64]
  unfold notI
  by_cases h2 : x % 2 = 0
  · rw [if_pos h2, if_pos (by omega)]; omega
  · rw [if_neg h2, if_neg (by omega)]; omega
theorem not_any (x : Int) (w : World) (h : -4611686018427387904 ≤ x) (h' : x ≤ 4611686018427387904) :
    Calls Try.prog 18 #[.int .i64 x] w fun e w' => e = .returned (.int .i64 (notI x)) ∧ w' = w := by
  have hx := xor_one x h h'
  go_enter Try.func18, Try.ntmps18
  go_wp2
  go_ret
  exact ⟨by rw [← hx]; rfl, rfl⟩
theorem rnot_any (x : Int) (w : World) (h : -4611686018427387904 ≤ x) (h' : x ≤ 4611686018427387904) :
    Calls Try.prog 28 #[.int .i64 x] w fun e w' => e = .returned (.int .i64 (notI x)) ∧ w' = w := by
  by_cases h2 : x % 2 = 0
  · have h3 : (x.tmod 2 == 0) = true := by rw [beq_iff_eq]; exact Int.dvd_iff_tmod_eq_zero.1 (Int.dvd_of_emod_eq_zero h2)
    go_enter Try.func28, Try.ntmps28
    go_wp2
    go_ret
    exact ⟨by unfold notI; rw [if_pos h2]; rfl, rfl⟩
  · have h3 : (x.tmod 2 == 0) = false := by rw [beq_eq_false_iff_ne]; exact fun h4 => h2 (Int.emod_eq_zero_of_dvd (Int.dvd_iff_tmod_eq_zero.2 h4))
    go_enter Try.func28, Try.ntmps28
    go_wp2
    go_ret
    exact ⟨by unfold notI; rw [if_neg h2]; rfl, rfl⟩

/-- the call answers a bool that tells whether p holds -/
def Tells (p : Prop) (e : Ending) : Prop := ∃ b, e = .returned (.bool b) ∧ (b = true ↔ p)
theorem Tells.yes {p : Prop} (h : p) : Tells p (.returned (.bool true)) := ⟨true, rfl, by simp [h]⟩
theorem Tells.no {p : Prop} (h : ¬ p) : Tells p (.returned (.bool false)) := ⟨false, rfl, by simp [h]⟩
theorem Tells.eq_yes {p : Prop} {e : Ending} (h : Tells p e) (hp : p) : e = .returned (.bool true) := by
  obtain ⟨b, rfl, hb⟩ := h
  rw [hb.2 hp]
theorem Tells.eq_no {p : Prop} {e : Ending} (h : Tells p e) (hp : ¬ p) : e = .returned (.bool false) := by
  obtain ⟨b, rfl, hb⟩ := h
  cases b with
  | false => rfl
  | true => exact absurd (hb.1 rfl) hp
def nodesI (n : Int) (l : Nat) : Int := wrap64 (wrap64 (1 + n) + l)
theorem nodes_any (n : Int) (a : Option Addr) (l c : Nat) (w : World) :
    Calls Try.prog 40 #[.agg #[.int .i64 n, .slice a l c]] w fun e w' => e = .returned (.int .i64 (nodesI n l)) ∧ Below w.heap.size w w' := by
  go_enter Try.func40, Try.ntmps40
  go_wp2
  go_ret
  exact ⟨rfl, (Below.refl _ _).alloc (Nat.le_refl _) _⟩
theorem rnodes_any (n : Int) (a : Option Addr) (l c : Nat) (w : World) :
    Calls Try.prog 26 #[.agg #[.int .i64 n, .slice a l c]] w fun e w' => e = .returned (.int .i64 (nodesI n l)) ∧ Below w.heap.size w w' := by
  go_enter Try.func26, Try.ntmps26
  go_wp2
  go_ret
  exact ⟨rfl, (Below.refl _ _).alloc (Nat.le_refl _) _⟩
end Go.Proofs.Ytelbjendeldlcaa
