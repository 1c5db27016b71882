/- assessorlaw24.do: one step of a program on the builder; and the closure that evaluates a literal. -/
import Derived.Test.YtelbjendeldlcaaT
import Derived.Test.YtelbjendeldlcaaK
namespace Go.Proofs.Ytelbjendeldlcaa
open Go.RowKit

def PB.step (s : PB) (k a b c : Int) : PB × Int :=
  if k = 0 then s.inp a else if k = 1 then s.and a b else if k = 2 then s.or a b else if k = 3 then s.xor a b else s.mux a b c
theorem below_bst {w : World} {bb mb : Nat} {A : Option Addr} {r : PB × Int} {e : Ending} {w1 w' : World} (hb : Below w.heap.size w w1) (h : BPost w1 bb mb A r e w') : BPost w bb mb A r e w' := by
  obtain ⟨he, A', c', hs, st⟩ := h
  exact ⟨he, A', c', hs, (Step.of_below hb).trans st⟩

set_option maxHeartbeats 400000 in
theorem do_any {w : World} {bb mb : Nat} {A : Option Addr} {cc : Nat} {s : PB} (h : BSt w bb mb A cc s) (k a b c : Int) :
    Calls Try.prog 23 #[.pointer (some ⟨bb, 0, none⟩), .agg #[.int .i64 k, .int .i64 a, .int .i64 b, .int .i64 c]] w fun e w' => BPost w bb mb A (s.step k a b c) e w' := by
  have hs : ∀ o, BSt (w.alloc o) bb mb A cc s := fun o => h.below (below_alloc w o)
  have HS := hid hs; clear hs h
  by_cases h0 : k = 0
  · have hst : s.step k a b c = s.inp a := by unfold PB.step; rw [if_pos h0]
    have HST := hid hst; clear hst; subst h0
    go_enter Try.func23, Try.ntmps23
    go_wp2_with (go_at_call 16; refine (input_any (HS.out _) a).mono ?_; rintro e w1 ⟨rfl, A1, c1, hs1, st1⟩; have H1 := hid hs1; have S1 := hid st1; clear hs1 st1)
    go_ret
    rw [HST.out]
    exact ⟨rfl, A1, c1, H1.out, (Step.of_below (below_alloc w _)).trans S1.out⟩
  by_cases h1 : k = 1
  · have hst : s.step k a b c = s.and a b := by unfold PB.step; rw [if_neg h0, if_pos h1]
    have HST := hid hst; clear hst; subst h1
    go_enter Try.func23, Try.ntmps23
    go_wp2_with (go_at_call 17; refine (and_any (HS.out _) a b).mono ?_; rintro e w1 ⟨rfl, A1, c1, hs1, st1⟩; have H1 := hid hs1; have S1 := hid st1; clear hs1 st1)
    go_ret
    rw [HST.out]
    exact ⟨rfl, A1, c1, H1.out, (Step.of_below (below_alloc w _)).trans S1.out⟩
  by_cases h2 : k = 2
  · have hst : s.step k a b c = s.or a b := by unfold PB.step; rw [if_neg h0, if_neg h1, if_pos h2]
    have HST := hid hst; clear hst; subst h2
    go_enter Try.func23, Try.ntmps23
    go_wp2_with (go_at_call 43; refine (or_any (HS.out _) a b).mono ?_; rintro e w1 ⟨rfl, A1, c1, hs1, st1⟩; have H1 := hid hs1; have S1 := hid st1; clear hs1 st1)
    go_ret
    rw [HST.out]
    exact ⟨rfl, A1, c1, H1.out, (Step.of_below (below_alloc w _)).trans S1.out⟩
  by_cases h3 : k = 3
  · have hst : s.step k a b c = s.xor a b := by unfold PB.step; rw [if_neg h0, if_neg h1, if_neg h2, if_pos h3]
    have HST := hid hst; clear hst; subst h3
    go_enter Try.func23, Try.ntmps23
    go_wp2_with (go_at_call 36; refine (xor_any (HS.out _) a b).mono ?_; rintro e w1 ⟨rfl, A1, c1, hs1, st1⟩; have H1 := hid hs1; have S1 := hid st1; clear hs1 st1)
    go_ret
    rw [HST.out]
    exact ⟨rfl, A1, c1, H1.out, (Step.of_below (below_alloc w _)).trans S1.out⟩
  · have hst : s.step k a b c = s.mux a b c := by unfold PB.step; rw [if_neg h0, if_neg h1, if_neg h2, if_neg h3]
    have HST := hid hst; clear hst
    have k0 : (k == 0) = false := by simp [h0]
    have k1 : (k == 1) = false := by simp [h1]
    have k2 : (k == 2) = false := by simp [h2]
    have k3 : (k == 3) = false := by simp [h3]
    clear h0 h1 h2 h3
    go_enter Try.func23, Try.ntmps23
    go_wp2_with (go_at_call 44; refine (mux_any (HS.out _) a b c).mono ?_; rintro e w1 ⟨rfl, A1, c1, hs1, st1⟩; have H1 := hid hs1; have S1 := hid st1; clear hs1 st1)
    go_ret
    rw [HST.out]
    exact ⟨rfl, A1, c1, H1.out, (Step.of_below (below_alloc w _)).trans S1.out⟩
end Go.Proofs.Ytelbjendeldlcaa
