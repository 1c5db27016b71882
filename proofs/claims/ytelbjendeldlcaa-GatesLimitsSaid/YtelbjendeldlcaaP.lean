/- assessorlaw24.GatesLimits: a chain of conjunctions, its circuit and its value, in plain terms. -/
import Derived.Test.YtelbjendeldlcaaK
namespace Go.Proofs.Ytelbjendeldlcaa
open Go.RowKit

def chU (i : Nat) : Int := if i % 2 = 0 then 4 else 2
def chG (k : Nat) : List (Int × Int) := (2, 4) :: (List.range k).map fun i => (chU i, 2 * (3 + (i : Int)) + 1)
def chS (k : Nat) : PB := ⟨2, chG k, 0⟩
theorem chG_length (k : Nat) : (chG k).length = k + 1 := by simp [chG]
theorem chG_snoc (k : Nat) : chG (k + 1) = chG k ++ [(chU k, 2 * (3 + (k : Int)) + 1)] := by
  unfold chG; rw [List.range_succ]; simp
theorem chU_or (k : Nat) : chU k = 4 ∨ chU k = 2 := by unfold chU; split <;> simp
theorem chG_mem {k : Nat} {p q : Int} (h : (p, q) ∈ chG k) : q = 4 ∨ ∃ i : Nat, i < k ∧ q = 2 * (3 + (i : Int)) + 1 := by
  unfold chG at h
  simp only [List.mem_cons, List.mem_map, List.mem_range, Prod.mk.injEq] at h
  rcases h with ⟨_, h⟩ | ⟨i, hi, _, h⟩
  · exact Or.inl h
  · exact Or.inr ⟨i, hi, h.symm⟩
theorem chS_and (k : Nat) (hk : k < 60000) : PB.and (chS k) (2 * (3 + (k : Int)) + 1) (chU k) = (chS (k + 1), 2 * (3 + ((k + 1 : Nat) : Int))) := by
  have hu := chU_or k
  have hl := chG_length k
  have hN : (chS k).N = 2 * (k : Int) + 8 := by unfold PB.N chS; simp only []; rw [hl]; push_cast; omega
  have hq : notI (2 * (3 + (k : Int)) + 1) = 2 * (k : Int) + 6 := by unfold notI; omega
  unfold PB.and
  rw [if_neg (by show ¬ (0 : Int) ≠ 0; simp), if_neg (by unfold PB.lit; rw [hN]; omega)]
  rw [Int.min_eq_right (by omega), Int.max_eq_left (by omega)]
  unfold PB.pair
  rw [if_neg (by rw [hq]; omega), if_neg (by omega)]
  have hf : findG 0 (chS k).G (chU k, 2 * (3 + (k : Int)) + 1) = none := by
    rw [findG_none]
    intro hm
    rcases chG_mem hm with h | ⟨i, hi, h⟩ <;> omega
  rw [hf]
  simp only []
  rw [if_neg (by show ¬ (65536 : Int) ≤ 1 + 2 + ((chG k).length : Int); rw [hl]; omega)]
  unfold chS
  simp only []
  rw [← chG_snoc, hl]
  refine Prod.ext rfl ?_
  simp only []
  push_cast; omega
theorem chG_getD (k i : Nat) (h : i < k) : (chG k).getD (i + 1) (0, 0) = (chU i, 2 * (3 + (i : Int)) + 1) := by
  unfold chG
  simp [List.getD_eq_getElem?_getD, h]
theorem chG_vld (k : Nat) (hk : k < 60000) : Vld 2 (chG k) := by
  refine ⟨by omega, by omega, by rw [chG_length]; omega, fun j hj => ?_⟩
  rw [chG_length] at hj
  match j, hj with
  | 0, _ =>
    unfold GOk
    simp [chG, notI]
  | i + 1, hj =>
    have hi : i < k := by omega
    have hu := chU_or i
    unfold GOk
    rw [chG_getD k i hi]
    simp only []
    refine ⟨by omega, by omega, by push_cast; omega, by unfold notI; omega, fun hm => ?_⟩
    have ht : (chG k).take (i + 1) = chG i := by
      unfold chG
      rw [List.take_succ_cons, ← List.map_take, List.take_range, Nat.min_eq_left (by omega)]
    rw [ht] at hm
    rcases chG_mem hm with h | ⟨m, hm, h⟩ <;> omega
def wantF (flip : Bool) : Nat → Bool
  | 0 => !flip
  | i + 1 => !(wantF flip i) && (i % 2 == 1 || !flip)
theorem chG_vals (flip : Bool) : ∀ k, (valsF [true, !flip] (chG k)).getD (3 + k) false = wantF flip k ∧ (valsF [true, !flip] (chG k)).getD 1 false = true ∧ (valsF [true, !flip] (chG k)).getD 2 false = !flip := by
  intro k
  induction k with
  | zero => cases flip <;> decide
  | succ k ih =>
    obtain ⟨h1, h2, h3⟩ := ih
    have hl : (valsF [true, !flip] (chG k)).length = 4 + k := by rw [valsF_length, chG_length]; simp; omega
    rw [chG_snoc, valsF_snoc]
    refine ⟨?_, ?_, ?_⟩
    · rw [show 3 + (k + 1) = (valsF [true, !flip] (chG k)).length from by omega]
      rw [List.getD_eq_getElem?_getD, List.getElem?_append_right (Nat.le_refl _)]
      simp only [Nat.sub_self, List.getElem?_cons_zero, Option.getD_some]
      unfold gateVal
      simp only []
      have hz : litVal (valsF [true, !flip] (chG k)) (2 * (3 + (k : Int)) + 1) = !(wantF flip k) := by
        unfold litVal
        rw [show ((2 * (3 + (k : Int)) + 1) / 2).toNat = 3 + k from by omega, h1, show (2 * (3 + (k : Int)) + 1) % 2 = 1 from by omega]
        cases wantF flip k <;> rfl
      rw [hz]
      unfold chU; rw [show wantF flip (k + 1) = (!(wantF flip k) && (k % 2 == 1 || !flip)) from rfl]
      by_cases hp : k % 2 = 0
      · rw [if_pos hp]
        have : litVal (valsF [true, !flip] (chG k)) 4 = !flip := by
          unfold litVal; rw [show ((4 : Int) / 2).toNat = 2 from rfl, h3]; cases flip <;> rfl
        rw [this, hp]
        cases wantF flip k <;> cases flip <;> rfl
      · rw [if_neg hp]
        have : litVal (valsF [true, !flip] (chG k)) 2 = true := by
          unfold litVal; rw [show ((2 : Int) / 2).toNat = 1 from rfl, h2]; rfl
        rw [this, show k % 2 = 1 from by omega]
        cases wantF flip k <;> cases flip <;> rfl
    · rw [List.getD_eq_getElem?_getD, List.getElem?_append_left (by omega), ← List.getD_eq_getElem?_getD, h2]
    · rw [List.getD_eq_getElem?_getD, List.getElem?_append_left (by omega), ← List.getD_eq_getElem?_getD, h3]
theorem chG_eval (flip : Bool) (k : Nat) : evalF [true, !flip] (chG k) [2 * (3 + (k : Int))] = [wantF flip k] := by
  unfold evalF
  simp only [List.map_cons, List.map_nil]
  unfold litVal
  rw [show (2 * (3 + (k : Int)) / 2).toNat = 3 + k from by omega, (chG_vals flip k).1, show (2 * (3 + (k : Int))) % 2 = 0 from by omega]
  cases wantF flip k <;> rfl
theorem chG_ok (k : Nat) (hk : k < 60000) : EvalOk 2 (chG k) 2 [2 * (3 + (k : Int))] := by
  refine ⟨chG_vld k hk, ?_, rfl⟩
  intro x hx
  rw [litN_plain (by omega) (by rw [chG_length]; omega), chG_length]
  simp at hx
  push_cast; omega
end Go.Proofs.Ytelbjendeldlcaa
