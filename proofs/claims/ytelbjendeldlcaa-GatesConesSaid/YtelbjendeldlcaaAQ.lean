/- The cone in plain Lean: which nodes are needed, where they go, and what the moved circuit means. -/
import Derived.Test.YtelbjendeldlcaaAK
import Derived.Test.YtelbjendeldlcaaD
namespace Go.Proofs.Ytelbjendeldlcaa

def opA (G : List (Int × Int)) (j : Nat) : Nat := ((G.getD j (0, 0)).1 / 2).toNat
def opB (G : List (Int × Int)) (j : Nat) : Nat := ((G.getD j (0, 0)).2 / 2).toNat

theorem getD_set (ms : List Bool) (i : Nat) (p : Nat) (hp : p < ms.length) : (ms.set i true).getD p false = true ↔ ms.getD p false = true ∨ i = p := by
  simp only [List.getD_eq_getElem?_getD, List.getElem?_set]
  by_cases h : i = p
  · subst h; simp [hp]
  · simp [h]
theorem mark_getD (ms : List Bool) (x : Int) (p : Nat) (hp : p < ms.length) : (mark ms x).getD p false = true ↔ ms.getD p false = true ∨ (x / 2).toNat = p := getD_set ms _ p hp
theorem markAll_getD (L : List Int) : ∀ (ms : List Bool) (p : Nat), p < ms.length → ((markAll ms L).getD p false = true ↔ ms.getD p false = true ∨ ∃ x ∈ L, (x / 2).toNat = p) := by
  induction L with
  | nil => intro ms p _; simp [markAll]
  | cons x L ih =>
    intro ms p hp
    have := ih (mark ms x) p (by rw [mark_length]; exact hp)
    unfold markAll at *
    rw [List.foldl_cons, this, mark_getD ms x p hp]
    simp [or_assoc]
theorem mark_other (ms : List Bool) (x : Int) (p : Nat) (h : (x / 2).toNat ≠ p) : (mark ms x).getD p false = ms.getD p false := by
  unfold mark; simp [List.getD_eq_getElem?_getD, List.getElem?_set, h]
theorem downF_other (n : Nat) (G : List (Int × Int)) (p : Nat) : ∀ (k : Nat) (ms : List Bool), (∀ i, i < k → opA G i ≠ p ∧ opB G i ≠ p) → (downF n G k ms).getD p false = ms.getD p false := by
  intro k
  induction k with
  | zero => intro ms _; rfl
  | succ k ih =>
    intro ms h
    unfold downF
    rw [ih _ (fun i hi => h i (by omega))]
    split
    · rw [mark_other _ _ _ (h k (by omega)).2, mark_other _ _ _ (h k (by omega)).1]
    · rfl
theorem downF_length' (n : Nat) (G : List (Int × Int)) : ∀ k ms, (downF n G k ms).length = ms.length := by
  intro k
  induction k with
  | zero => intro ms; rfl
  | succ k ih => intro ms; unfold downF; rw [ih]; split <;> simp [mark_length]
theorem downF_iff (n : Nat) (G : List (Int × Int)) : ∀ (k : Nat) (ms : List Bool), (∀ i, i < k → opA G i < 1 + n + i ∧ opB G i < 1 + n + i) → 1 + n + k ≤ ms.length → ∀ p, p < ms.length →
    ((downF n G k ms).getD p false = true ↔ ms.getD p false = true ∨ ∃ i, i < k ∧ (downF n G k ms).getD (1 + n + i) false = true ∧ (opA G i = p ∨ opB G i = p)) := by
  intro k
  induction k with
  | zero => intro ms _ _ p _; simp [downF]
  | succ k ih =>
    intro ms h hl p hp
    obtain ⟨ms', hms'⟩ : ∃ ms', ms' = if ms.getD (1 + n + k) false then mark (mark ms (G.getD k (0, 0)).1) (G.getD k (0, 0)).2 else ms := ⟨_, rfl⟩
    have hd : downF n G (k + 1) ms = downF n G k ms' := by rw [hms']; rfl
    have hlen : ms'.length = ms.length := by rw [hms']; split <;> simp [mark_length]
    have hk := h k (by omega)
    have hsame : ms'.getD (1 + n + k) false = ms.getD (1 + n + k) false := by
      rw [hms']; split
      · rw [mark_other _ _ _ (show opB G k ≠ _ by omega), mark_other _ _ _ (show opA G k ≠ _ by omega)]
      · rfl
    have hself : (downF n G (k + 1) ms).getD (1 + n + k) false = ms.getD (1 + n + k) false := by
      rw [hd, downF_other n G _ k ms' (fun i hi => by have := h i (by omega); omega), hsame]
    have hpm : ms'.getD p false = true ↔ ms.getD p false = true ∨ (ms.getD (1 + n + k) false = true ∧ (opA G k = p ∨ opB G k = p)) := by
      by_cases hb : ms.getD (1 + n + k) false = true
      · rw [hms', if_pos hb, mark_getD _ _ _ (by rw [mark_length]; exact hp), mark_getD _ _ _ hp, or_assoc]
        simp only [hb, true_and]; exact Iff.rfl
      · rw [hms', if_neg hb]; simp only [hb, Bool.false_eq_true, false_and, or_false]
    have hih := ih ms' (fun i hi => h i (by omega)) (by omega) p (by omega)
    rw [← hd] at hih
    rw [hih, hpm]
    constructor
    · rintro ((h1 | h1) | ⟨i, hi, h1⟩)
      · exact .inl h1
      · exact .inr ⟨k, by omega, by rw [hself]; exact h1.1, h1.2⟩
      · exact .inr ⟨i, by omega, h1⟩
    · rintro (h1 | ⟨i, hi, h1⟩)
      · exact .inl (.inl h1)
      · by_cases hik : i = k
        · subst hik; rw [hself] at h1; exact .inl (.inr h1)
        · exact .inr ⟨i, by omega, h1⟩

/-- what is needed -/
structure Need (n : Nat) (G : List (Int × Int)) (L : List Int) (ms : List Bool) : Prop where
  len : ms.length = 1 + n + G.length
  iff : ∀ p, p < 1 + n + G.length → (ms.getD p false = true ↔ (∃ x ∈ L, (x / 2).toNat = p) ∨ ∃ i, i < G.length ∧ ms.getD (1 + n + i) false = true ∧ (opA G i = p ∨ opB G i = p))
theorem needF_need (n : Nat) (G : List (Int × Int)) (L : List Int) (h : ∀ i, i < G.length → opA G i < 1 + n + i ∧ opB G i < 1 + n + i) : Need n G L (needF n G L) := by
  have hl : (markAll (List.replicate (1 + n + G.length) false) L).length = 1 + n + G.length := by rw [markAll_length]; simp
  refine ⟨by unfold needF; rw [downF_length', hl], fun p hp => ?_⟩
  have := downF_iff n G G.length _ h (by rw [hl]; omega) p (by rw [hl]; exact hp)
  unfold needF
  rw [this, markAll_getD _ _ _ (by simpa using hp)]
  simp [List.getD_eq_getElem?_getD, List.getElem?_replicate, hp]

theorem Vld.ops {n : Nat} {G : List (Int × Int)} (h : Vld n G) (j : Nat) (hj : j < G.length) : opA G j < opB G j ∧ opB G j < 1 + n + j ∧ 1 ≤ opA G j := by
  have := h.gates j hj
  unfold GOk notI at this
  obtain ⟨h1, h2, h3, h4, _⟩ := this
  unfold opA opB
  have hne : ¬ (G.getD j (0, 0)).1 / 2 = (G.getD j (0, 0)).2 / 2 := by
    intro e; apply h4; split <;> omega
  omega

/-! where nodes go -/
def sel (n : Nat) (ms : List Bool) (k : Nat) : List Nat := (List.range k).filter fun j => decide (n < j) && ms.getD j false
def mv (d : Nat → Int) (n : Nat) (ms : List Bool) (k : Nat) : Int := if k ≤ n then k else if ms.getD k false = true then ((1 + n + (sel n ms k).length : Nat) : Int) else d k
def mvL (f : Nat → Int) (x : Int) : Int := 2 * f (x / 2).toNat + x % 2
def mvG (f : Nat → Int) (g : Int × Int) : Int × Int := (mvL f g.1, mvL f g.2)
def coneG (f : Nat → Int) (n : Nat) (G : List (Int × Int)) (ms : List Bool) (k : Nat) : List (Int × Int) := (sel n ms k).map fun j => mvG f (G.getD (j - 1 - n) (0, 0))
def tos (f : Nat → Int) (k : Nat) : List Int := (List.range k).map f

theorem tos_length (f : Nat → Int) (k : Nat) : (tos f k).length = k := by simp [tos]
theorem tos_snoc (f : Nat → Int) (k : Nat) : tos f (k + 1) = tos f k ++ [f k] := by simp [tos, List.range_succ]
theorem tos_getD (f : Nat → Int) (k j : Nat) (h : j < k) : (tos f k).getD j 0 = f j := by simp [tos, List.getD_eq_getElem?_getD, h]
theorem sel_snoc (n : Nat) (ms : List Bool) (k : Nat) : sel n ms (k + 1) = if n < k ∧ ms.getD k false = true then sel n ms k ++ [k] else sel n ms k := by
  unfold sel; rw [List.range_succ, List.filter_append, List.filter_cons, List.filter_nil]
  by_cases h : n < k ∧ ms.getD k false = true
  · rw [if_pos h, if_pos (by simp only [Bool.and_eq_true, decide_eq_true_eq]; exact h)]
  · rw [if_neg h, if_neg (by simp only [Bool.and_eq_true, decide_eq_true_eq]; exact h)]; simp
theorem coneG_snoc (f : Nat → Int) (n : Nat) (G : List (Int × Int)) (ms : List Bool) (k : Nat) : coneG f n G ms (k + 1) = if n < k ∧ ms.getD k false = true then coneG f n G ms k ++ [mvG f (G.getD (k - 1 - n) (0, 0))] else coneG f n G ms k := by
  unfold coneG; rw [sel_snoc]; split <;> simp
theorem coneG_length (f : Nat → Int) (n : Nat) (G : List (Int × Int)) (ms : List Bool) (k : Nat) : (coneG f n G ms k).length = (sel n ms k).length := by simp [coneG]
theorem sel_le (n : Nat) (ms : List Bool) : ∀ k, (sel n ms k).length ≤ k - 1 - n := by
  intro k
  induction k with
  | zero => simp [sel]
  | succ k ih => rw [sel_snoc]; split <;> (try rw [List.length_append]) <;> simp <;> omega
theorem sel_mono (n : Nat) (ms : List Bool) (j : Nat) : ∀ k, j ≤ k → (sel n ms j).length ≤ (sel n ms k).length := by
  intro k
  induction k with
  | zero => intro h; obtain rfl : j = 0 := by omega
            exact Nat.le_refl _
  | succ k ih =>
    intro h
    by_cases hjk : j = k + 1
    · subst hjk; exact Nat.le_refl _
    · have := ih (by omega)
      rw [sel_snoc n ms k]; split <;> (try rw [List.length_append]) <;> simp <;> omega
theorem sel_lt (n : Nat) (ms : List Bool) (j k : Nat) (h : j < k) (hn : n < j) (hm : ms.getD j false = true) : (sel n ms j).length < (sel n ms k).length := by
  have h1 := sel_mono n ms (j + 1) k h
  rw [sel_snoc, if_pos ⟨hn, hm⟩, List.length_append] at h1
  simp at h1; omega
theorem sel_at (n : Nat) (ms : List Bool) (j : Nat) (hn : n < j) (hm : ms.getD j false = true) : ∀ K, j < K → (sel n ms K).getD (sel n ms j).length 0 = j := by
  intro K
  induction K with
  | zero => intro h; omega
  | succ K ih =>
    intro h
    rw [sel_snoc]
    by_cases hjK : j = K
    · subst hjK; rw [if_pos ⟨hn, hm⟩]; simp [List.getD_eq_getElem?_getD]
    · have hlt := sel_lt n ms j K (by omega) hn hm
      have := ih (by omega)
      split
      · rw [List.getD_eq_getElem?_getD, List.getElem?_append_left hlt, ← List.getD_eq_getElem?_getD]; exact this
      · exact this
theorem sel_inv (n : Nat) (ms : List Bool) : ∀ K i, i < (sel n ms K).length → ∃ j, j < K ∧ n < j ∧ ms.getD j false = true ∧ (sel n ms j).length = i := by
  intro K
  induction K with
  | zero => intro i h; simp [sel] at h
  | succ K ih =>
    intro i h
    rw [sel_snoc] at h
    by_cases hc : n < K ∧ ms.getD K false = true
    · rw [if_pos hc, List.length_append] at h
      by_cases he : i = (sel n ms K).length
      · exact ⟨K, by omega, hc.1, hc.2, he.symm⟩
      · obtain ⟨j, h1, h2⟩ := ih i (by simp at h; omega)
        exact ⟨j, by omega, h2⟩
    · rw [if_neg hc] at h
      obtain ⟨j, h1, h2⟩ := ih i h
      exact ⟨j, by omega, h2⟩
def kept (n : Nat) (ms : List Bool) (k : Nat) : Prop := k ≤ n ∨ ms.getD k false = true
theorem mv_same (d d' : Nat → Int) (n : Nat) (ms : List Bool) (k : Nat) (h : kept n ms k) : mv d n ms k = mv d' n ms k := by
  unfold mv
  by_cases h1 : k ≤ n
  · rw [if_pos h1, if_pos h1]
  · rcases h with h | h
    · exact absurd h h1
    · rw [if_neg h1, if_neg h1, if_pos h, if_pos h]
theorem mv_in (d : Nat → Int) (n : Nat) (ms : List Bool) (k : Nat) (h : k ≤ n) : mv d n ms k = k := by unfold mv; rw [if_pos h]
theorem mv_gate (d : Nat → Int) (n : Nat) (ms : List Bool) (k : Nat) (h : n < k) (hm : ms.getD k false = true) : mv d n ms k = ((1 + n + (sel n ms k).length : Nat) : Int) := by
  unfold mv; rw [if_neg (by omega), if_pos hm]
/-- kept nodes keep their order -/
theorem mv_lt (d : Nat → Int) (n : Nat) (ms : List Bool) (j k : Nat) (hj : kept n ms j) (hk : kept n ms k) (h : j < k) : mv d n ms j < mv d n ms k := by
  by_cases h1 : k ≤ n
  · rw [mv_in d n ms k h1, mv_in d n ms j (by omega)]; omega
  · have hk' : ms.getD k false = true := hk.resolve_left h1
    rw [mv_gate d n ms k (by omega) hk']
    by_cases h2 : j ≤ n
    · rw [mv_in d n ms j h2]; omega
    · have hj' : ms.getD j false = true := hj.resolve_left h2
      rw [mv_gate d n ms j (by omega) hj']
      have := sel_lt n ms j k h (by omega) hj'
      omega
theorem mv_inj (d : Nat → Int) (n : Nat) (ms : List Bool) (j k : Nat) (hj : kept n ms j) (hk : kept n ms k) (h : mv d n ms j = mv d n ms k) : j = k := by
  rcases Nat.lt_trichotomy j k with h1 | h1 | h1
  · have := mv_lt d n ms j k hj hk h1; omega
  · exact h1
  · have := mv_lt d n ms k j hk hj h1; omega
theorem mv_nonneg (d : Nat → Int) (n : Nat) (ms : List Bool) (k : Nat) (hk : kept n ms k) : 0 ≤ mv d n ms k := by
  by_cases h1 : k ≤ n
  · rw [mv_in d n ms k h1]; omega
  · rw [mv_gate d n ms k (by omega) (hk.resolve_left h1)]; omega
theorem mvL_div (f : Nat → Int) (x : Int) : mvL f x / 2 = f (x / 2).toNat := by unfold mvL; omega
theorem mvL_mod (f : Nat → Int) (x : Int) : mvL f x % 2 = x % 2 := by unfold mvL; omega
theorem mvL_inj (d : Nat → Int) (n : Nat) (ms : List Bool) (x y : Int) (hx0 : 0 ≤ x) (hy0 : 0 ≤ y) (hx : kept n ms (x / 2).toNat) (hy : kept n ms (y / 2).toNat) (h : mvL (mv d n ms) x = mvL (mv d n ms) y) : x = y := by
  have h1 := mvL_div (mv d n ms) x; have h2 := mvL_div (mv d n ms) y
  have h3 := mvL_mod (mv d n ms) x; have h4 := mvL_mod (mv d n ms) y
  rw [h] at h1 h3
  have := mv_inj d n ms _ _ hx hy (by omega)
  omega

/-- the moved circuit does not depend on what stands at nodes that are not needed -/
theorem cone_same (d d' : Nat → Int) (n : Nat) (G : List (Int × Int)) (L : List Int) (ms : List Bool) (hV : Vld n G) (hN : Need n G L ms) (k : Nat) (hk : k ≤ 1 + n + G.length) :
    coneG (mv d n ms) n G ms k = coneG (mv d' n ms) n G ms k := by
  unfold coneG
  refine List.map_congr_left fun j hj => ?_
  unfold sel at hj
  rw [List.mem_filter, List.mem_range] at hj
  obtain ⟨h1, h2⟩ := hj
  simp only [Bool.and_eq_true, decide_eq_true_eq] at h2
  have hop := hV.ops (j - 1 - n) (by omega)
  have hj' : 1 + n + (j - 1 - n) = j := by omega
  have ha : ms.getD (opA G (j - 1 - n)) false = true := (hN.iff _ (by omega)).2 (.inr ⟨j - 1 - n, by omega, by rw [hj']; exact h2.2, .inl rfl⟩)
  have hb : ms.getD (opB G (j - 1 - n)) false = true := (hN.iff _ (by omega)).2 (.inr ⟨j - 1 - n, by omega, by rw [hj']; exact h2.2, .inr rfl⟩)
  unfold mvG mvL
  rw [show ((G.getD (j - 1 - n) (0, 0)).1 / 2).toNat = opA G (j - 1 - n) from rfl, show ((G.getD (j - 1 - n) (0, 0)).2 / 2).toNat = opB G (j - 1 - n) from rfl, mv_same d d' n ms _ (.inr ha), mv_same d d' n ms _ (.inr hb)]
theorem lits_same (d d' : Nat → Int) (n : Nat) (G : List (Int × Int)) (L : List Int) (ms : List Bool) (hN : Need n G L ms) (hK : LitOk (2 * (1 + n + G.length)) L) :
    L.map (mvL (mv d n ms)) = L.map (mvL (mv d' n ms)) := by
  refine List.map_congr_left fun x hx => ?_
  have := hK x hx
  have h := (hN.iff (x / 2).toNat (by omega)).2 (.inl ⟨x, hx, rfl⟩)
  unfold mvL; rw [mv_same d d' n ms _ (.inr h)]
end Go.Proofs.Ytelbjendeldlcaa
