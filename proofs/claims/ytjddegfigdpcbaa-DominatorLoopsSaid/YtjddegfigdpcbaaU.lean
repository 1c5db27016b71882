/- Walks and dominators, in plain words. -/
import Derived.Test.YtjddegfigdpcbaaT
namespace Go.Proofs.Ytjddegfigdpcbaa
open Go.RowKit

structure WalkOk (F : List (List Int)) (L : List Int) : Prop where
  pos : 1 ≤ L.length
  first : L.getD 0 0 = 0
  edge : ∀ j, j + 1 < L.length → L.getD (j + 1) 0 ∈ F.getD (L.getD j 0).toNat []
  inr : ∀ j, j < L.length → 0 ≤ L.getD j 0 ∧ L.getD j 0 < F.length
theorem WalkOk.one {F : List (List Int)} (h : 1 ≤ F.length) : WalkOk F [0] :=
  ⟨by simp, rfl, fun j hj => absurd hj (by simp), fun j hj => by
    have : j = 0 := by simp at hj; omega
    subst this; simp; omega⟩
theorem getD_snoc {L : List Int} {x : Int} (j : Nat) (h : j < L.length) : (L ++ [x]).getD j 0 = L.getD j 0 := by
  rw [List.getD_eq_getElem?_getD, List.getElem?_append_left h, ← List.getD_eq_getElem?_getD]
theorem getD_snoc_last {L : List Int} {x : Int} : (L ++ [x]).getD L.length 0 = x := by simp [List.getD_eq_getElem?_getD]
theorem getD_mem {α : Type} {L : List α} {d : α} {j : Nat} (h : j < L.length) : L.getD j d ∈ L := by
  rw [List.getD_eq_getElem?_getD, List.getElem?_eq_getElem h]; exact List.getElem_mem h
theorem mem_getD {α : Type} {L : List α} {x : α} (d : α) (h : x ∈ L) : ∃ j, j < L.length ∧ L.getD j d = x := by
  obtain ⟨j, hj, e⟩ := List.getElem_of_mem h
  exact ⟨j, hj, by rw [List.getD_eq_getElem?_getD, List.getElem?_eq_getElem hj]; exact e⟩
theorem WalkOk.snoc {F : List (List Int)} {L : List Int} (hV : VldF F) (h : WalkOk F L) (x : Int) (hx : x ∈ F.getD (L.getD (L.length - 1) 0).toNat []) : WalkOk F (L ++ [x]) := by
  have hp := h.pos
  have hr := h.inr (L.length - 1) (by omega)
  obtain ⟨q, hq, e⟩ := mem_getD 0 hx
  have hb := hV.edges _ (by omega) q hq
  rw [e] at hb
  refine ⟨by simp, ?_, fun j hj => ?_, fun j hj => ?_⟩
  · rw [getD_snoc 0 (by omega)]; exact h.first
  · simp at hj
    by_cases hl : j + 1 < L.length
    · rw [getD_snoc _ hl, getD_snoc _ (by omega)]; exact h.edge j hl
    · have : j + 1 = L.length := by omega
      rw [this, getD_snoc_last, getD_snoc j (by omega)]
      have : j = L.length - 1 := by omega
      rw [this]; exact hx
  · simp at hj
    by_cases hl : j < L.length
    · rw [getD_snoc _ hl]; exact h.inr j hl
    · have : j = L.length := by omega
      rw [this, getD_snoc_last]; omega
theorem WalkOk.reach {F : List (List Int)} {L : List Int} (h : WalkOk F L) (wo : Int) (hwo : wo ∉ L) : ∀ j, j < L.length → Rch F wo [0] (L.getD j 0).toNat
  | 0, hj => by
    rw [h.first]
    refine .start (by simp) fun e => hwo ?_
    have := getD_mem (d := 0) hj
    rw [h.first] at this
    rw [← e]; simpa using this
  | j + 1, hj => by
    have hr := h.inr (j + 1) hj
    have hr0 := h.inr j (by omega)
    refine .step (h.reach wo hwo j (by omega)) (by omega) ?_ ?_
    · rw [Int.toNat_of_nonneg hr.1]; exact h.edge j hj
    · rw [Int.toNat_of_nonneg hr.1]
      intro e
      exact hwo (by rw [← e]; exact getD_mem hj)
theorem domB_iff {G : List (List Int)} (hG : GrOk G) {root a b : Nat} (hb : b < G.length) : domB G root a b = true ↔ Rch G (-1) [(root : Int)] b ∧ ¬ Rch G (a : Int) [(root : Int)] b := by
  unfold domB
  rw [Bool.and_eq_true, Bool.not_eq_true', ← Bool.not_eq_true, reachB_iff hG _ _ _ hb, reachB_iff hG _ _ _ hb]
theorem Rch.ne {G : List (List Int)} {wo : Int} {L : List Int} {j : Nat} (h : Rch G wo L j) : (j : Int) ≠ wo := by cases h <;> assumption
theorem WalkOk.dom {F : List (List Int)} {L : List Int} (hV : VldF F) (h : WalkOk F L) (a : Int) (hd : domP F 0 a (L.getD (L.length - 1) 0)) : a ∈ L := by
  have hp := h.pos
  by_cases ha : a ∈ L
  · exact ha
  · have h1 := h.reach a ha (L.length - 1) (by omega)
    have h2 := ((domB_iff hV.ok (by have := hd.2.2.2.1; have := hd.2.1; omega)).1 hd.2.2.2.2).2
    rw [Int.toNat_of_nonneg hd.1] at h2
    exact absurd h1 h2
theorem WalkOk.self {F : List (List Int)} {L : List Int} (hV : VldF F) (h : WalkOk F L) : domP F 0 (L.getD (L.length - 1) 0) (L.getD (L.length - 1) 0) := by
  have hp := h.pos
  have hr := h.inr (L.length - 1) (by omega)
  refine ⟨hr.1, hr.1, hr.2, hr.2, (domB_iff hV.ok (by omega)).2 ⟨h.reach (-1) (fun hm => ?_) _ (by omega), fun h2 => h2.ne rfl⟩⟩
  obtain ⟨j, hj, e⟩ := mem_getD 0 hm
  have := h.inr j hj
  omega
theorem WalkOk.back {F B : List (List Int)} {L : List Int} (h : WalkOk F L) (hrev : IsRev F B) (hl : L.getD (L.length - 1) 0 = 1) (a : Int) (i : Nat) (ha : a ∉ L.drop i) : ∀ k, k < L.length - i → Rch B a [1] (L.getD (L.length - 1 - k) 0).toNat
  | 0, hk => by
    rw [Nat.sub_zero, hl]
    refine .start (by simp) fun e => ha ?_
    have : (L.drop i).getD (L.length - 1 - i) 0 ∈ L.drop i := getD_mem (by rw [List.length_drop]; omega)
    rw [List.getD_eq_getElem?_getD, List.getElem?_drop, ← List.getD_eq_getElem?_getD, show i + (L.length - 1 - i) = L.length - 1 by omega, hl] at this
    rw [← e]; simpa using this
  | k + 1, hk => by
    obtain ⟨j, hj⟩ : ∃ j, j = L.length - 1 - (k + 1) := ⟨_, rfl⟩
    have ih := h.back hrev hl a i ha k (by omega)
    rw [show L.length - 1 - k = j + 1 by omega] at ih
    rw [← hj]
    have r1 := h.inr (j + 1) (by omega)
    have r0 := h.inr j (by omega)
    refine .step ih (by rw [hrev.len]; omega) ?_ ?_
    · rw [hrev.mem _ (by omega)]
      exact ⟨(L.getD j 0).toNat, rfl, by omega, by rw [Int.toNat_of_nonneg r1.1]; exact h.edge j (by omega)⟩
    · rw [Int.toNat_of_nonneg r0.1]
      intro e
      have : (L.drop i).getD (j - i) 0 ∈ L.drop i := getD_mem (by rw [List.length_drop]; omega)
      rw [List.getD_eq_getElem?_getD, List.getElem?_drop, ← List.getD_eq_getElem?_getD, show i + (j - i) = j by omega, e] at this
      exact ha this
theorem WalkOk.post {F : List (List Int)} {L : List Int} (h : WalkOk F L) (hl : L.getD (L.length - 1) 0 = 1) (a : Int) (i : Nat) (hi : i < L.length) (hd : ∃ B, IsRev F B ∧ domP B 1 a (L.getD i 0)) : a ∈ L.drop i := by
  obtain ⟨B, hrev, hd⟩ := hd
  by_cases ha : a ∈ L.drop i
  · exact ha
  · have h1 := h.back hrev hl a i ha (L.length - 1 - i) (by omega)
    rw [show L.length - 1 - (L.length - 1 - i) = i by omega] at h1
    have h2 := ((domB_iff hrev.ok (by have := hd.2.2.2.1; have := hd.2.1; omega)).1 hd.2.2.2.2).2
    rw [Int.toNat_of_nonneg hd.1] at h2
    exact absurd h1 h2
theorem any_mem {L : List Int} {a : Int} (h : a ∈ L) : (L.any fun x => a == x) = true := by
  rw [List.any_eq_true]; exact ⟨a, h, by simp⟩
end Go.Proofs.Ytjddegfigdpcbaa
