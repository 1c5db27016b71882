/- cmp.Less, slices.IsSorted, the two closures of DominatorBodies. -/
import Derived.Test.YtjddegfigdpcbaaAB
namespace Go.Proofs.Ytjddegfigdpcbaa
open Go.RowKit

theorem nan_any (x : Int) (w : World) : Calls Try.prog 61 #[.int .i64 x] w fun e w' => e = .returned (.bool false) ∧ w = w' := by
  go_enter Try.func61, Try.ntmps61
  go_wp2_with fail
  go_ret
  exact ⟨by simp, rfl⟩
theorem less_any (x y : Int) (w : World) : Calls Try.prog 55 #[.int .i64 x, .int .i64 y] w fun e w' => e = .returned (.bool (decide (x < y))) ∧ w' = w := by
  go_enter Try.func55, Try.ntmps55
  go_wp2_with (go_at_call 61; refine (nan_any _ _).mono ?_; rintro e w1 ⟨rfl, rfl⟩)
  go_ret
  exact ⟨rfl, rfl⟩
set_option maxHeartbeats 1000000 in
theorem isSorted_any (A : Option Addr) (c : Nat) (L : List Int) (w : World) (hL : Row w A (ints L)) (hp : 1 ≤ L.length) (hl : L.length ≤ 1000000) (hs : ∀ i, i + 1 < L.length → L.getD i 0 ≤ L.getD (i + 1) 0) :
    Calls Try.prog 36 #[.slice A L.length c] w fun e w' => e = .returned (.bool true) ∧ Below w.heap.size w w' := by
  obtain ⟨sl, hsl⟩ : ∃ sl, L.length = sl + 1 := ⟨L.length - 1, by omega⟩
  have HL := hid hL; have HS := hid hs; have HSL := hid hsl
  rw [hsl]
  have q1 : ((sl + 1 : Nat) : Int) - 1 = (sl : Int) := by omega
  clear hL hs
  go_enter Try.func36, Try.ntmps36
  go_wp2_with fail
  go_loopw [3] (fun i wr => ∃ k : Nat, k ≤ sl ∧ i = .int .i64 k ∧ Below w.heap.size w wr) (fun i _ => (intOf i).toNat)
  case atStart => exact ⟨sl, Nat.le_refl _, rfl, Below.refl _ _⟩
  case round =>
    obtain ⟨k, hk, rfl, hb⟩ := hrel
    have HB := hid hb
    cases k with
    | zero =>
      go_wp2_with fail
      go_ret
      exact ⟨rfl, HB.out⟩
    | succ j =>
      have HLr := hid (HL.out.below hb)
      clear hb
      obtain ⟨sb, so, rfl, c1⟩ := HLr.out.int (j + 1) (by omega)
      obtain ⟨sb2, so2, e, c2⟩ := HLr.out.int j (by omega)
      injection e with e; injection e with e1 e2; subst e1; subst e2
      have hlt := HS.out j (by omega)
      obtain ⟨x, hx⟩ : ∃ x, x = L.getD (j + 1) 0 := ⟨_, rfl⟩
      obtain ⟨y, hy⟩ : ∃ y, y = L.getD j 0 := ⟨_, rfl⟩
      rw [← hx] at c1 hlt; rw [← hy] at c2 hlt
      have q3 : ((j + 1 : Nat) : Int) - 1 = (j : Int) := by omega
      have q4 : decide (x < y) = false := by simp; omega
      clear hx hy
      go_wp2_with fail
      go_big_quiet ((go_at_call 55; exact Calls.quiet_of_same (less_any _ _ _)))
      go_wp2_with fail
      exact ⟨⟨j, by omega, by go_num, HB.out.trans (below_drewNK _ _ _)⟩, by simp [intOf]⟩
theorem enter38 (args : Array Value) (W : World) : (callFunc 38 args).run Try.prog W = .ok (.enter 38 args) W := by kernel_rfl
theorem enter39 (args : Array Value) (W : World) : (callFunc 39 args).run Try.prog W = .ok (.enter 39 args) W := by kernel_rfl
/-- the first closure: is the point in the body -/
theorem inBody_pred {W : World} {lb : Nat} {h : Int} {A : Option Addr} {c : Nat} {M L : List Int} (h1 : W.cell? ⟨lb, 1, none⟩ = some (.slice A M.length c)) (hM : Row W A (ints M)) (hl : M.length ≤ 1000000) :
    PredOk W 38 #[.pointer (some ⟨lb, 0, none⟩)] (fun x => M.any fun y => x == y) L := fun x _ w' hb => by
  have k1 := below_cell hb h1
  have HM := hid (hM.below hb)
  go_enter Try.func38, Try.ntmps38
  go_wp2_with (go_at_call 30; refine (contains_any x A c M _ HM.out hl).mono ?_; rintro e w1 ⟨rfl, rfl⟩)
  go_ret
  exact ⟨rfl, Below.refl _ _⟩
/-- the second closure: another one than the first -/
theorem other_pred {W : World} {nb : Nat} {A : Option Addr} {c : Nat} {M L : List Int} (h1 : W.cell? ⟨nb, 0, none⟩ = some (.slice A M.length c)) (hM : Row W A (ints M)) (hl : 1 ≤ M.length) (hl2 : M.length ≤ 1000000) :
    PredOk W 39 #[.pointer (some ⟨nb, 0, none⟩)] (fun x => x != M.getD 0 0) L := fun x _ w' hb => by
  have k1 := below_cell hb h1
  obtain ⟨sb, so, rfl, m0⟩ := (hM.below hb).int 0 hl
  rw [Nat.add_zero] at m0
  go_enter Try.func39, Try.ntmps39
  go_wp2_with fail
  go_ret
  exact ⟨rfl, Below.refl _ _⟩
end Go.Proofs.Ytjddegfigdpcbaa
