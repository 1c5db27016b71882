/- The computed relation is that of dominators; contracts over numbers of points. -/
import Derived.Test.YtjddegfigdpcbaaY
namespace Go.Proofs.Ytjddegfigdpcbaa
open Go.RowKit

theorem domB_DomR {G : List (List Int)} (hG : GrOk G) {root a b : Nat} (hb : b < G.length) : domB G root a b = true ↔ DomR G root a b := domB_iff hG hb
theorem relF_iff {G : List (List Int)} (hG : GrOk G) {root a b : Nat} (ha : a < G.length) (hb : b < G.length) : relF G root a b = true ↔ DomR G root a b := by
  unfold relF
  rw [Bool.and_eq_true, domB_DomR hG hb, reachB_iff hG _ _ _ ha]
  exact ⟨fun h => h.2, fun h => ⟨h.reached, h⟩⟩
theorem relF_tree {G : List (List Int)} (hG : GrOk G) (root : Nat) : TreeR G.length (relF G root) where
  tr a b c ha hb hc h1 h2 := (relF_iff hG ha hc).2 (((relF_iff hG ha hb).1 h1).trans ((relF_iff hG hb hc).1 h2))
  anti a b ha hb h1 h2 := ((relF_iff hG ha hb).1 h1).anti ((relF_iff hG hb ha).1 h2)
  left a b ha hb h1 := (relF_iff hG ha ha).2 (.refl ((relF_iff hG ha hb).1 h1).reached)
  right a b ha hb h1 := (relF_iff hG hb hb).2 (.refl ((relF_iff hG ha hb).1 h1).1)
  tot a b c ha hb hc h1 h2 := (((relF_iff hG ha hc).1 h1).total ((relF_iff hG hb hc).1 h2)).imp (relF_iff hG ha hb).2 (relF_iff hG hb ha).2
theorem eq_of_tells {p : Prop} {x : Bool} {e : Ending} (h : Tells p e) (hx : x = true ↔ p) : e = .returned (.bool x) := by
  obtain ⟨b, rfl, hb⟩ := h
  have : b = x := by cases b <;> cases x <;> simp_all
  rw [this]
theorem Dom_nat (pa : Option Addr) (pc : Nat) (F : List (List Int)) (a b : Nat) (x : Bool) (w : World) (hF : FRow w pa F) (hsm : ∀ i, i < F.length → (F.getD i []).length ≤ 900) (hV : VldF F) (ha : a < F.length) (hb : b < F.length) (hx : relF F 0 a b = x) :
    Calls Try.prog 20 #[.agg #[.slice pa F.length pc], .int .i64 a, .int .i64 b] w fun e w' => e = .returned (.bool x) ∧ Below w.heap.size w w' := by
  refine (Dominates_any pa pc F a b w hF hsm).mono ?_
  rintro e w1 ⟨ht, hb1⟩
  refine ⟨eq_of_tells ht ?_, hb1⟩
  rw [← hx, relF_iff hV.ok ha hb, ← domB_DomR hV.ok hb]
  exact ⟨fun h => ⟨hV, by omega, by omega, by omega, by omega, h⟩, fun h => h.2.2.2.2.2⟩
theorem revF_rev {F : List (List Int)} (hV : VldF F) : IsRev F (revF F) := revF_isRev F hV.hi
theorem Post_nat (pa : Option Addr) (pc : Nat) (F : List (List Int)) (a b : Nat) (x : Bool) (w : World) (hF : FRow w pa F) (hsm : ∀ i, i < F.length → (F.getD i []).length ≤ 900) (hV : VldF F) (ha : a < F.length) (hb : b < F.length) (hx : relF (revF F) 1 a b = x) :
    Calls Try.prog 22 #[.agg #[.slice pa F.length pc], .int .i64 a, .int .i64 b] w fun e w' => e = .returned (.bool x) ∧ Below w.heap.size w w' := by
  refine (Postdominates_any pa pc F a b w hF hsm).mono ?_
  rintro e w1 ⟨ht, hb1⟩
  refine ⟨eq_of_tells ht ?_, hb1⟩
  have hr := revF_rev hV
  rw [← hx, relF_iff hr.ok (by rw [hr.len]; exact ha) (by rw [hr.len]; exact hb), ← domB_DomR hr.ok (by rw [hr.len]; exact hb)]
  refine ⟨fun h => ⟨hV, _, hr, by omega, by omega, by rw [hr.len]; omega, by rw [hr.len]; omega, h⟩, fun ⟨_, B', hr', h⟩ => ?_⟩
  exact ((domP_congr (hr'.len.trans hr.len.symm) hr'.ok hr.ok (fun i hi x => (hr'.mem i (by rw [← hr'.len]; exact hi) x).trans (hr.mem i (by rw [← hr'.len]; exact hi) x).symm) a b).1 h).2.2.2.2
theorem immL_none {n : Nat} {R : Nat → Nat → Bool} {b : Nat} (hb : b < n) (h : ∀ a, a < n → a ≠ b → R a b = false) : (immL R n).getD b 0 = -1 := by
  have hg : (immL R n).getD b 0 = imC R n b n := by simp [immL, List.getD_eq_getElem?_getD, hb]
  rw [hg]
  rcases imC_pos R n b n _ rfl with ⟨e1, _⟩ | ⟨q, _, hq, hqb, hqr, _⟩
  · exact e1
  · rw [h q hq hqb] at hqr; cases hqr
theorem immL_off {n : Nat} {R : Nat → Nat → Bool} (h : TreeR n R) {b : Nat} (hb : b < n) (hbb : R b b = false) : (immL R n).getD b 0 = -1 := immL_none hb fun a ha _ => by
  cases e : R a b with
  | false => rfl
  | true => rw [h.right a b ha hb e] at hbb; cases hbb
theorem immL_root {G : List (List Int)} (hG : GrOk G) {root : Nat} (hr : root < G.length) : (immL (relF G root) G.length).getD root 0 = -1 := immL_none hr fun a ha hne => by
  cases e : relF G root a root with
  | false => rfl
  | true => exact absurd ((relF_iff hG ha hr).1 e).of_root hne
theorem chainD_any (A : Option Addr) (c : Nat) (F : List (List Int)) (a b : Nat) (x : Bool) (nb : Nat) (w : World) (hV : VldF F) (hT : Row w A (ints (domL F))) (hc : w.cell? ⟨nb, 0, none⟩ = some (.int .i64 F.length)) (ha : a < F.length) (hb : b < F.length) (hbb : relF F 0 b b = true) (hx : relF F 0 a b = x) :
    Calls Try.prog 27 #[.slice A F.length c, .int .i64 a, .int .i64 b, .pointer (some ⟨nb, 0, none⟩)] w fun e w' => e = .returned (.bool x) ∧ w = w' := by
  refine (chain_any A c (domL F) a b nb F.length w hT (by simp [domL, immL]) hV.hi hc).mono ?_
  rintro e w1 ⟨rfl, rfl⟩
  have := (relF_tree hV.ok 0).chain ha (F.length + 1) b hb hbb (Nat.lt_succ_of_le (depC_le _ _ _))
  rw [← hx, ← this]; exact ⟨rfl, rfl⟩
theorem chainP_any (A : Option Addr) (c : Nat) (F : List (List Int)) (a b : Nat) (x : Bool) (nb : Nat) (w : World) (hV : VldF F) (hT : Row w A (ints (postL F))) (hc : w.cell? ⟨nb, 0, none⟩ = some (.int .i64 F.length)) (ha : a < F.length) (hb : b < F.length) (hbb : relF (revF F) 1 b b = true) (hx : relF (revF F) 1 a b = x) :
    Calls Try.prog 27 #[.slice A F.length c, .int .i64 a, .int .i64 b, .pointer (some ⟨nb, 0, none⟩)] w fun e w' => e = .returned (.bool x) ∧ w = w' := by
  refine (chain_any A c (postL F) a b nb F.length w hT (by simp [postL, immL]) hV.hi hc).mono ?_
  rintro e w1 ⟨rfl, rfl⟩
  have hr := revF_rev hV
  have ht := relF_tree hr.ok 1
  rw [hr.len] at ht
  have := ht.chain ha (F.length + 1) b hb hbb (Nat.lt_succ_of_le (depC_le _ _ _))
  rw [← hx, ← this]; exact ⟨rfl, rfl⟩
end Go.Proofs.Ytjddegfigdpcbaa
