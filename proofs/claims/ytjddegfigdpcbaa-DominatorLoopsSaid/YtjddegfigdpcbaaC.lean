/- Reachability in plain Lean: what can be reached without a point, computed by rounds; the invariant of a search. -/
import Derived.Test.YtjddegfigdpcbaaA
namespace Go.Proofs.Ytjddegfigdpcbaa

/-- all edges lead to points -/
def GrOk (G : List (List Int)) : Prop := ∀ i, i < G.length → ∀ x ∈ G.getD i [], 0 ≤ x ∧ x < (G.length : Int)
/-- j is reached from some points by a path without wo -/
inductive Rch (G : List (List Int)) (wo : Int) (L : List Int) : Nat → Prop
  | start {i : Nat} : (i : Int) ∈ L → (i : Int) ≠ wo → Rch G wo L i
  | step {i j : Nat} : Rch G wo L i → i < G.length → (j : Int) ∈ G.getD i [] → (j : Int) ≠ wo → Rch G wo L j

def stepB (G : List (List Int)) (wo : Int) (ms : List Bool) : List Bool :=
  (List.range G.length).map fun (j : Nat) => ms.getD j false || (decide ((j : Int) ≠ wo) && (List.range G.length).any fun i => ms.getD i false && (G.getD i []).contains (j : Int))
def initB (n : Nat) (wo : Int) (L : List Int) : List Bool := (List.range n).map fun (j : Nat) => decide ((j : Int) ≠ wo) && L.contains (j : Int)
def iterB (G : List (List Int)) (wo : Int) (L : List Int) : Nat → List Bool
  | 0 => initB G.length wo L
  | k + 1 => stepB G wo (iterB G wo L k)
def reachB (G : List (List Int)) (wo : Int) (L : List Int) : List Bool := iterB G wo L G.length

theorem map_range_getD (n : Nat) (f : Nat → Bool) (j : Nat) (h : j < n) : ((List.range n).map f).getD j false = f j := by simp [List.getD_eq_getElem?_getD, h]
theorem stepB_length (G : List (List Int)) (wo : Int) (ms : List Bool) : (stepB G wo ms).length = G.length := by simp [stepB]
theorem iterB_length (G : List (List Int)) (wo : Int) (L : List Int) : ∀ k, (iterB G wo L k).length = G.length
  | 0 => by simp [iterB, initB]
  | k + 1 => by simp [iterB, stepB_length]
theorem reachB_length (G : List (List Int)) (wo : Int) (L : List Int) : (reachB G wo L).length = G.length := iterB_length G wo L _
theorem stepB_get (G : List (List Int)) (wo : Int) (ms : List Bool) (j : Nat) (hj : j < G.length) : (stepB G wo ms).getD j false = true ↔ ms.getD j false = true ∨ ((j : Int) ≠ wo ∧ ∃ i, i < G.length ∧ ms.getD i false = true ∧ (j : Int) ∈ G.getD i []) := by
  unfold stepB
  rw [map_range_getD _ _ _ hj]
  simp only [Bool.or_eq_true, Bool.and_eq_true, decide_eq_true_eq, List.any_eq_true, List.mem_range, List.contains_iff_mem]
theorem initB_get (n : Nat) (wo : Int) (L : List Int) (j : Nat) (hj : j < n) : (initB n wo L).getD j false = true ↔ (j : Int) ≠ wo ∧ (j : Int) ∈ L := by
  unfold initB
  rw [map_range_getD _ _ _ hj]
  simp only [Bool.and_eq_true, decide_eq_true_eq, List.contains_iff_mem]
theorem iterB_sound (G : List (List Int)) (wo : Int) (L : List Int) : ∀ k j, j < G.length → (iterB G wo L k).getD j false = true → Rch G wo L j := by
  intro k
  induction k with
  | zero => intro j hj h; obtain ⟨h1, h2⟩ := (initB_get _ _ _ j hj).1 h; exact .start h2 h1
  | succ k ih =>
    intro j hj h
    rcases (stepB_get _ _ _ j hj).1 h with h | ⟨h1, i, hi, h2, h3⟩
    · exact ih j hj h
    · exact .step (ih i hi h2) hi h3 h1
theorem count_lt : ∀ (a b : List Bool), a.length = b.length → (∀ j, j < a.length → a.getD j false = true → b.getD j false = true) → a ≠ b → a.count true < b.count true := by
  intro a
  induction a with
  | nil => intro b hl _ hne; exact absurd (List.eq_nil_of_length_eq_zero hl.symm).symm hne
  | cons x a ih =>
    intro b hl h hne
    cases b with
    | nil => simp at hl
    | cons y b =>
      have hl' : a.length = b.length := by simpa using hl
      have h0 := h 0 (by simp)
      have ht : ∀ j, j < a.length → a.getD j false = true → b.getD j false = true := fun j hj hh => by
        have := h (j + 1) (by simpa using hj); simpa using this (by simpa using hh)
      simp only [List.getD_cons_zero] at h0
      by_cases hab : a = b
      · subst hab
        have hxy : x ≠ y := fun e => hne (by rw [e])
        cases x with
        | false => cases y with
          | false => exact absurd rfl hxy
          | true => simp [List.count_cons]
        | true => have := h0 rfl; exact absurd this.symm hxy
      · have := ih b hl' ht hab
        rw [List.count_cons, List.count_cons]
        cases x with
        | false => simp; omega
        | true => rw [h0 rfl]; simp; omega
theorem iterB_mono (G : List (List Int)) (wo : Int) (L : List Int) (k j : Nat) (hj : j < G.length) (h : (iterB G wo L k).getD j false = true) : (iterB G wo L (k + 1)).getD j false = true :=
  (stepB_get _ _ _ j hj).2 (.inl h)
theorem iterB_grow (G : List (List Int)) (wo : Int) (L : List Int) : ∀ k, iterB G wo L (k + 1) = iterB G wo L k ∨ k + 1 ≤ (iterB G wo L (k + 1)).count true := by
  have key : ∀ k, iterB G wo L k ≠ iterB G wo L (k + 1) → (iterB G wo L k).count true < (iterB G wo L (k + 1)).count true := fun k hne =>
    count_lt _ _ (by rw [iterB_length, iterB_length]) (fun j hj h => iterB_mono G wo L k j (by rw [iterB_length] at hj; exact hj) h) hne
  intro k
  induction k with
  | zero =>
    by_cases h : iterB G wo L 0 = iterB G wo L 1
    · exact .inl h.symm
    · have := key 0 h; exact .inr (by omega)
  | succ k ih =>
    by_cases h : iterB G wo L (k + 1) = iterB G wo L (k + 2)
    · exact .inl h.symm
    · right
      have h2 := key (k + 1) h
      rcases ih with h3 | h3
      · have e : stepB G wo (iterB G wo L (k + 1)) = stepB G wo (iterB G wo L k) := congrArg _ h3
        exact absurd (show iterB G wo L (k + 1) = stepB G wo (iterB G wo L (k + 1)) from e.symm ▸ rfl) h
      · omega
theorem reachB_fix (G : List (List Int)) (wo : Int) (L : List Int) : stepB G wo (reachB G wo L) = reachB G wo L := by
  rcases iterB_grow G wo L G.length with h | h
  · exact h
  · have := List.count_le_length (a := true) (l := iterB G wo L (G.length + 1))
    rw [iterB_length] at this; omega
theorem iterB_start (G : List (List Int)) (wo : Int) (L : List Int) (j : Nat) (hj : j < G.length) (h : (initB G.length wo L).getD j false = true) : ∀ k, (iterB G wo L k).getD j false = true
  | 0 => h
  | k + 1 => iterB_mono G wo L k j hj (iterB_start G wo L j hj h k)
theorem reachB_iff {G : List (List Int)} (hG : GrOk G) (wo : Int) (L : List Int) (j : Nat) (hj : j < G.length) : (reachB G wo L).getD j false = true ↔ Rch G wo L j := by
  refine ⟨iterB_sound G wo L _ j hj, fun h => ?_⟩
  induction h with
  | start h1 h2 => exact iterB_start G wo L _ hj ((initB_get _ _ _ _ hj).2 ⟨h2, h1⟩) _
  | @step i j h1 hi h2 h3 ih =>
    rw [← reachB_fix]
    exact (stepB_get _ _ _ j hj).2 (.inr ⟨h3, i, hi, ih hi, h2⟩)

/-! the search -/
def visitF (wo : Int) (p : List Bool × List Int) (x : Int) : List Bool × List Int := if x ≠ wo ∧ p.1.getD x.toNat false = false then (p.1.set x.toNat true, p.2 ++ [x]) else p
structure DInv (G : List (List Int)) (wo : Int) (L : List Int) (ms : List Bool) (st F : List Int) (D : Int) : Prop where
  len : ms.length = G.length
  sound : ∀ j, j < G.length → ms.getD j false = true → Rch G wo L j
  stk : ∀ x ∈ st, 0 ≤ x ∧ x < (G.length : Int) ∧ ms.getD x.toNat false = true
  clo : ∀ i : Nat, i < G.length → ms.getD i false = true → (i : Int) ∈ st ∨ (i : Int) = D ∨ ∀ x ∈ G.getD i [], x ≠ wo → ms.getD x.toNat false = true
  fr : ∀ x ∈ F, x ≠ wo → ms.getD x.toNat false = true
theorem set_mono (ms : List Bool) (i j : Nat) (h : ms.getD j false = true) : (ms.set i true).getD j false = true := by
  simp only [List.getD_eq_getElem?_getD, List.getElem?_set] at *
  by_cases hij : i = j
  · subst hij
    by_cases hl : i < ms.length
    · simp [hl]
    · simp [List.getElem?_eq_none (Nat.le_of_not_lt hl)] at h
  · simpa [hij] using h
theorem set_inv (ms : List Bool) (i j : Nat) (h : (ms.set i true).getD j false = true) : ms.getD j false = true ∨ j = i := by
  by_cases hij : i = j
  · exact .inr hij.symm
  · left; simpa [List.getD_eq_getElem?_getD, List.getElem?_set, hij] using h
theorem set_self (ms : List Bool) (i : Nat) (h : i < ms.length) : (ms.set i true).getD i false = true := by simp [List.getD_eq_getElem?_getD, h]
theorem DInv.visit {G : List (List Int)} {wo : Int} {L : List Int} {ms : List Bool} {st F : List Int} {D : Int} (h : DInv G wo L ms st F D) (x : Int) (h0 : 0 ≤ x) (h1 : x < (G.length : Int)) (hr : x ≠ wo → Rch G wo L x.toNat) :
    DInv G wo L (visitF wo (ms, st) x).1 (visitF wo (ms, st) x).2 (F ++ [x]) D := by
  unfold visitF
  by_cases hc : x ≠ wo ∧ ms.getD x.toNat false = false
  · simp only [if_pos hc]
    refine ⟨by rw [List.length_set]; exact h.len, fun j hj hm => ?_, fun y hy => ?_, fun i hi hm => ?_, fun y hy hne => ?_⟩
    · rcases set_inv _ _ _ hm with hm | rfl
      · exact h.sound j hj hm
      · exact hr hc.1
    · rcases List.mem_append.1 hy with hy | hy
      · have := h.stk y hy; exact ⟨this.1, this.2.1, set_mono _ _ _ this.2.2⟩
      · obtain rfl := List.mem_singleton.1 hy
        exact ⟨h0, h1, set_self _ _ (by rw [h.len]; omega)⟩
    · rcases set_inv _ _ _ hm with hm | rfl
      · rcases h.clo i hi hm with h2 | h2 | h2
        · exact .inl (List.mem_append_left _ h2)
        · exact .inr (.inl h2)
        · exact .inr (.inr fun y hy hne => set_mono _ _ _ (h2 y hy hne))
      · exact .inl (List.mem_append_right _ (by rw [Int.toNat_of_nonneg h0]; exact List.mem_singleton.2 rfl))
    · rcases List.mem_append.1 hy with hy | hy
      · exact set_mono _ _ _ (h.fr y hy hne)
      · obtain rfl := List.mem_singleton.1 hy
        exact set_self _ _ (by rw [h.len]; omega)
  · simp only [if_neg hc]
    refine ⟨h.len, h.sound, h.stk, h.clo, fun y hy hne => ?_⟩
    rcases List.mem_append.1 hy with hy | hy
    · exact h.fr y hy hne
    · obtain rfl := List.mem_singleton.1 hy
      cases hm : ms.getD y.toNat false with
      | true => rfl
      | false => exact absurd ⟨hne, hm⟩ hc
theorem DInv.pop {G : List (List Int)} {wo : Int} {L : List Int} {ms : List Bool} {st F : List Int} {x : Int} (h : DInv G wo L ms (st ++ [x]) F (-1)) : DInv G wo L ms st F x ∧ 0 ≤ x ∧ x < (G.length : Int) ∧ Rch G wo L x.toNat := by
  have hx := h.stk x (by simp)
  refine ⟨⟨h.len, h.sound, fun y hy => h.stk y (List.mem_append_left _ hy), fun i hi hm => ?_, h.fr⟩, hx.1, hx.2.1, h.sound _ (by omega) hx.2.2⟩
  rcases h.clo i hi hm with h2 | h2 | h2
  · rcases List.mem_append.1 h2 with h2 | h2
    · exact .inl h2
    · exact .inr (.inl (List.mem_singleton.1 h2))
  · omega
  · exact .inr (.inr h2)
theorem DInv.close {G : List (List Int)} {wo : Int} {L : List Int} {ms : List Bool} {st F : List Int} {D : Int} (h : DInv G wo L ms st (F ++ G.getD D.toNat []) D) : DInv G wo L ms st F (-1) := by
  refine ⟨h.len, h.sound, h.stk, fun i hi hm => ?_, fun y hy => h.fr y (List.mem_append_left _ hy)⟩
  rcases h.clo i hi hm with h2 | h2 | h2
  · exact .inl h2
  · right; right
    intro y hy hne
    exact h.fr y (List.mem_append_right _ (by rw [← h2]; simpa using hy)) hne
  · exact .inr (.inr h2)
theorem DInv.final {G : List (List Int)} (hG : GrOk G) {wo : Int} {L : List Int} {ms : List Bool} (h : DInv G wo L ms [] L (-1)) : ms = reachB G wo L := by
  refine getD_ext false (by rw [h.len, reachB_length]) fun j hj => ?_
  rw [h.len] at hj
  rw [Bool.eq_iff_iff, reachB_iff hG wo L j hj]
  refine ⟨h.sound j hj, fun hr => ?_⟩
  induction hr with
  | start h1 h2 => simpa using h.fr _ h1 h2
  | @step i j h1 hi h2 h3 ih =>
    rcases h.clo i hi (ih hi) with h4 | h4 | h4
    · simp at h4
    · omega
    · simpa using h4 _ h2 h3
theorem DInv.init {G : List (List Int)} {wo : Int} {L : List Int} : DInv G wo L (List.replicate G.length false) [] [] (-1) := by
  have hr : ∀ j, (List.replicate G.length false).getD j false = false := fun j => by
    rw [List.getD_eq_getElem?_getD, List.getElem?_replicate]; split <;> rfl
  exact ⟨by simp, (fun j _ h => by rw [hr] at h; cases h), (fun x hx => by simp at hx), (fun i _ h => by rw [hr] at h; cases h), (fun x hx => by simp at hx)⟩
def mu (ms : List Bool) (st : List Int) : Nat := 2 * ms.count false + st.length
theorem count_set : ∀ (ms : List Bool) (i : Nat), i < ms.length → ms.getD i false = false → (ms.set i true).count false + 1 = ms.count false := by
  intro ms
  induction ms with
  | nil => intro i h; simp at h
  | cons b ms ih =>
    intro i hi hb
    cases i with
    | zero => simp at hb; subst hb; simp [List.count_cons]
    | succ i =>
      have := ih i (by simpa using hi) (by simpa using hb)
      rw [List.set_cons_succ, List.count_cons, List.count_cons]; omega
theorem mu_visit (wo : Int) (ms : List Bool) (st : List Int) (x : Int) (h : x.toNat < ms.length) : mu (visitF wo (ms, st) x).1 (visitF wo (ms, st) x).2 ≤ mu ms st := by
  unfold visitF
  split
  · rename_i hc
    have := count_set ms x.toNat h hc.2
    unfold mu; simp only [List.length_append, List.length_cons, List.length_nil]; omega
  · exact Nat.le_refl _
theorem mu_pop (ms : List Bool) (st : List Int) (x : Int) : mu ms st + 1 = mu ms (st ++ [x]) := by unfold mu; simp; omega
theorem visit_len (wo : Int) (ms : List Bool) (st : List Int) (x : Int) : (visitF wo (ms, st) x).1.length = ms.length := by unfold visitF; split <;> simp
end Go.Proofs.Ytjddegfigdpcbaa
