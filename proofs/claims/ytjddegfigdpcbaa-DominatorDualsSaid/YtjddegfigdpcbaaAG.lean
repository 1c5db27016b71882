/- Reverse: which edges are turned, the points in memory. -/
import Derived.Test.YtjddegfigdpcbaaAF
namespace Go.Proofs.Ytjddegfigdpcbaa
open Go.RowKit

/-- which edges have been turned -/
structure SwI (F : List (List Int)) (k j : Nat) (bs : List (List Int)) : Prop where
  len : bs.length = F.length
  mem : ∀ c, c < F.length → ∀ x, x ∈ bs.getD (oth c) [] ↔ ∃ i : Nat, x = (oth i : Nat) ∧ i < F.length ∧ ((i < k ∧ (c : Int) ∈ F.getD i []) ∨ (i = k ∧ (c : Int) ∈ (F.getD k []).take j))
  short : ∀ c, c < F.length → (bs.getD c []).length ≤ 8 * k + j
theorem SwI.init (F : List (List Int)) : SwI F 0 0 (List.replicate F.length []) := by
  have hr : ∀ c, (List.replicate F.length ([] : List Int)).getD c [] = [] := fun c => by rw [List.getD_eq_getElem?_getD, List.getElem?_replicate]; split <;> rfl
  exact ⟨by simp, fun c _ x => by rw [hr]; simp, fun c _ => by rw [hr]; simp⟩
theorem SwI.push {F : List (List Int)} {k j : Nat} {bs : List (List Int)} (h : SwI F k j bs) (h2 : 2 ≤ F.length) (hk : k < F.length) (hj : j < (F.getD k []).length) {p : Nat} (hp : (F.getD k []).getD j 0 = (p : Int)) (hpn : p < F.length) :
    SwI F k (j + 1) (bs.set (oth p) (bs.getD (oth p) [] ++ [((oth k : Nat) : Int)])) := by
  refine ⟨by rw [List.length_set]; exact h.len, fun c hc x => ?_, fun c hc => ?_⟩
  · rw [take_snoc _ 0 j hj, hp]
    by_cases hpc : p = c
    · subst hpc
      rw [getD_set_same _ _ (by rw [h.len]; exact oth_lt h2 hc), List.mem_append, h.mem p hc]
      constructor
      · rintro (⟨i, rfl, hi, h1 | h1⟩ | h1)
        · exact ⟨i, rfl, hi, .inl h1⟩
        · exact ⟨i, rfl, hi, .inr ⟨h1.1, List.mem_append_left _ h1.2⟩⟩
        · exact ⟨k, List.mem_singleton.1 h1, hk, .inr ⟨rfl, List.mem_append_right _ (List.mem_singleton.2 rfl)⟩⟩
      · rintro ⟨i, rfl, hi, h1 | ⟨rfl, h1⟩⟩
        · exact .inl ⟨i, rfl, hi, .inl h1⟩
        · exact .inr (List.mem_singleton.2 rfl)
    · rw [getD_set_other _ _ _ (fun e => hpc (oth_inj e)), h.mem c hc]
      have hne : (c : Int) ∉ [(p : Int)] := by simp; omega
      constructor
      · rintro ⟨i, rfl, hi, h1 | h1⟩
        · exact ⟨i, rfl, hi, .inl h1⟩
        · exact ⟨i, rfl, hi, .inr ⟨h1.1, List.mem_append_left _ h1.2⟩⟩
      · rintro ⟨i, rfl, hi, h1 | ⟨h0, h1⟩⟩
        · exact ⟨i, rfl, hi, .inl h1⟩
        · rcases List.mem_append.1 h1 with h1 | h1
          · exact ⟨i, rfl, hi, .inr ⟨h0, h1⟩⟩
          · exact absurd h1 hne
  · by_cases hpc : oth p = c
    · subst hpc
      rw [getD_set_same _ _ (by rw [h.len]; exact hc), List.length_append]
      have := h.short (oth p) hc; rw [List.length_singleton]; omega
    · rw [getD_set_other _ _ _ hpc]
      have := h.short c hc; omega
theorem SwI.next {F : List (List Int)} {k : Nat} {bs : List (List Int)} (h : SwI F k (F.getD k []).length bs) (hl : (F.getD k []).length ≤ 8) : SwI F (k + 1) 0 bs := by
  refine ⟨h.len, fun c hc x => ?_, fun c hc => by have := h.short c hc; omega⟩
  rw [h.mem c hc, List.take_length]
  constructor
  · rintro ⟨i, rfl, hi, h1 | ⟨rfl, h1⟩⟩
    · exact ⟨i, rfl, hi, .inl ⟨by omega, h1.2⟩⟩
    · exact ⟨i, rfl, hi, .inl ⟨by omega, h1⟩⟩
  · rintro ⟨i, rfl, hi, h1 | ⟨_, h1⟩⟩
    · by_cases hik : i = k
      · subst hik; exact ⟨i, rfl, hi, .inr ⟨rfl, h1.2⟩⟩
      · exact ⟨i, rfl, hi, .inl ⟨by omega, h1.2⟩⟩
    · simp at h1
theorem SwI.done {F : List (List Int)} {bs : List (List Int)} (h : SwI F F.length 0 bs) (hl : F.length ≤ 14) : IsSwap F bs := by
  refine ⟨h.len, fun c hc x => ?_, fun c hc => by have := h.short c hc; omega⟩
  rw [h.mem c hc]
  constructor
  · rintro ⟨i, rfl, hi, h1 | ⟨h0, h1⟩⟩
    · exact ⟨i, rfl, hi, h1.2⟩
    · omega
  · rintro ⟨i, rfl, hi, h1⟩
    exact ⟨i, rfl, hi, .inl ⟨hi, h1⟩⟩

/-- points in memory whose lists are owned -/
structure PtSt (w : World) (B pb : Nat) (vs : List (Option Addr × Nat)) (bs : List (List Int)) : Prop where
  row : ∃ cs, BlkAt w pb 40 cs ∧ cs.length = 3 * bs.length ∧ ∀ i, i < bs.length → cs[i * 3]? = some (.int .i64 0) ∧ cs[i * 3 + 1]? = some (.int .i64 0) ∧ cs[i * 3 + 2]? = some (sval vs bs i)
  own : OwnL w B vs bs
section
variable {w : World} {B pb : Nat} {vs : List (Option Addr × Nat)} {bs : List (List Int)}
theorem PtSt.below (h : PtSt w B pb vs bs) {w' : World} (hb' : Below w.heap.size w w') : PtSt w' B pb vs bs := by
  obtain ⟨cs, h1, h2, h3⟩ := h.row
  exact ⟨⟨cs, h1.below hb', h2, h3⟩, h.own.below hb'⟩
theorem PtSt.lt (h : PtSt w B pb vs bs) : pb < w.heap.size := by
  obtain ⟨cs, h1, _⟩ := h.row
  exact h1.lt
theorem PtSt.cell (h : PtSt w B pb vs bs) (k : Nat) (hk : k < bs.length) : w.cell? ⟨pb, k * 3 + 2, none⟩ = some (sval vs bs k) := by
  obtain ⟨cs, h1, h2, h3⟩ := h.row
  exact h1.cell _ _ (h3 k hk).2.2
theorem PtSt.fz (h : PtSt w B pb vs bs) (j : Nat) : w.frozen? ⟨pb, j, none⟩ = false := by
  obtain ⟨cs, h1, h2, h3⟩ := h.row
  exact h1.fz j
theorem PtSt.ne (h : PtSt w B pb vs bs) (k : Nat) (hk : k < bs.length) : some pb ≠ (sval vs bs k).ownBlock := by
  obtain ⟨cs, h1, h2, h3⟩ := h.row
  exact h.own.ne_blk h1 (by decide) k hk
theorem PtSt.push (h : PtSt w B pb vs bs) (k : Nat) (hk : k < bs.length) {w4 : World} {A4 : Option Addr} {c4 : Nat} {x : Int}
    (hown : w4.ownsRow B 3 1 (.slice A4 ((bs.getD k []).length + 1) c4) ((bs.getD k []).length + 1) (ints (bs.getD k []) ++ [.int .i64 x])) (hg : w.grownBy w4 (sval vs bs k).ownBlock)
    (hat : (Value.slice A4 ((bs.getD k []).length + 1) c4).ownBlock = (sval vs bs k).ownBlock ∨ (Value.slice A4 ((bs.getD k []).length + 1) c4).ownBlock = some w.heap.size) :
    PtSt (w4.setCell ⟨pb, k * 3 + 2, none⟩ (.slice A4 ((bs.getD k []).length + 1) c4)) B pb (vs.set k (A4, c4)) (bs.set k (bs.getD k [] ++ [x])) := by
  have hkv : k < vs.length := by rw [h.own.len]; exact hk
  have hl : (bs.getD k [] ++ [x]).length = (bs.getD k []).length + 1 := by simp
  obtain ⟨cs, h1, h2, h3⟩ := h.row
  have row4 := h1.grown hg (h.own.ne_blk h1 (by decide) k hk)
  have o4 := h.own.push k hk hown hg hat
  refine ⟨⟨cs.set (k * 3 + 2) (.slice A4 ((bs.getD k []).length + 1) c4), row4.set _ _, by rw [List.length_set, List.length_set, h2], fun i hi => ?_⟩, o4.setCell (fun j hj => o4.ne_blk row4 (by decide) j hj)⟩
  rw [List.length_set] at hi
  have hi3 := h3 i hi
  rw [List.getElem?_set, List.getElem?_set, List.getElem?_set, if_neg (by omega), if_neg (by omega)]
  refine ⟨hi3.1, hi3.2.1, ?_⟩
  by_cases hki : k = i
  · subst hki
    rw [if_pos rfl, if_pos (by omega), sval_set vs bs k hkv hk A4 c4, hl]
  · rw [if_neg (by omega), sval_other vs bs k i hki]
    exact hi3.2.2
theorem PtSt.frow (h : PtSt w B pb vs bs) : FRow w (some ⟨pb, 0, none⟩) bs := fun i hi => by
  obtain ⟨cs, h1, h2, h3⟩ := h.row
  have hi3 := h3 i hi
  refine ⟨pb, 0, 0, 0, (vs.getD i (none, 0)).1, (vs.getD i (none, 0)).2, rfl, ?_, ?_, ?_, Row.of_own (h.own.own i hi)⟩
  · rw [Nat.zero_add]; exact h1.cell _ _ hi3.1
  · rw [Nat.zero_add]; exact h1.cell _ _ hi3.2.1
  · rw [Nat.zero_add]; exact h1.cell _ _ hi3.2.2
end
end Go.Proofs.Ytjddegfigdpcbaa
