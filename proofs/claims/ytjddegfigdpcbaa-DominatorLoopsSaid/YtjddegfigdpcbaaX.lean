/- Dominators in plain words: a chain; immediate ones by depths; the way up. -/
import Derived.Test.YtjddegfigdpcbaaU
namespace Go.Proofs.Ytjddegfigdpcbaa

section
variable {G : List (List Int)} {r : Nat}
def DomR (G : List (List Int)) (r a b : Nat) : Prop := Rch G (-1) [(r : Int)] b ∧ ¬ Rch G (a : Int) [(r : Int)] b
theorem Rch.start' {wo : Int} {s : Nat} (h : (s : Int) ≠ wo) : Rch G wo [(s : Int)] s := .start (by simp) h
theorem Rch.weak {wo : Int} {L : List Int} {j : Nat} (h : Rch G wo L j) : Rch G (-1) L j := by
  induction h with
  | start h _ => exact .start h (by omega)
  | step _ hi he _ ih => exact .step ih hi he (by omega)
theorem DomR.refl {b : Nat} (h : Rch G (-1) [(r : Int)] b) : DomR G r b b := ⟨h, fun h2 => h2.ne rfl⟩
/-- a dominator is reached -/
theorem DomR.reached {a b : Nat} (h : DomR G r a b) : Rch G (-1) [(r : Int)] a := by
  refine Classical.byContradiction fun hn => h.2 ?_
  have : ∀ x, Rch G (-1) [(r : Int)] x → Rch G (a : Int) [(r : Int)] x := fun x hx => by
    induction hx with
    | @start i hi hw => exact .start hi fun e => hn (by have e' : i = a := by omega
                                                        subst e'; exact .start hi hw)
    | @step i j h1 hi he hw ih => exact .step ih hi he fun e => hn (by have e' : j = a := by omega
                                                                       subst e'; exact .step h1 hi he hw)
  exact this b h.1
theorem DomR.trans {a b c : Nat} (h1 : DomR G r a b) (h2 : DomR G r b c) : DomR G r a c := by
  refine ⟨h2.1, fun hc => ?_⟩
  have : ∀ x, Rch G (a : Int) [(r : Int)] x → Rch G (b : Int) [(r : Int)] x ∨ Rch G (a : Int) [(r : Int)] b := fun x hx => by
    induction hx with
    | @start i hi hw =>
      by_cases e : i = b
      · subst e; exact .inr (.start hi hw)
      · exact .inl (.start hi (by omega))
    | @step i j k1 hi he hw ih =>
      by_cases e : j = b
      · subst e; exact .inr (.step k1 hi he hw)
      · rcases ih with ih | ih
        · exact .inl (.step ih hi he (by omega))
        · exact .inr ih
  rcases this c hc with k | k
  · exact h2.2 k
  · exact h1.2 k
theorem DomR.total {a b c : Nat} (h1 : DomR G r a c) (h2 : DomR G r b c) : DomR G r a b ∨ DomR G r b a := by
  by_cases hab : a = b
  · subst hab; exact .inl (.refl h1.reached)
  refine Classical.byContradiction fun hn => ?_
  have ha : Rch G (b : Int) [(r : Int)] a := Classical.byContradiction fun k => hn (.inr ⟨h1.reached, k⟩)
  have hb : Rch G (a : Int) [(r : Int)] b := Classical.byContradiction fun k => hn (.inl ⟨h2.reached, k⟩)
  have : ∀ x, Rch G (-1) [(r : Int)] x → Rch G (a : Int) [(r : Int)] x ∨ Rch G (b : Int) [(r : Int)] x := fun x hx => by
    induction hx with
    | @start i hi hw =>
      by_cases e : i = a
      · subst e; exact .inr ha
      · exact .inl (.start hi (by omega))
    | @step i j k1 hi he hw ih =>
      by_cases e : j = a
      · subst e; exact .inr ha
      · by_cases e2 : j = b
        · subst e2; exact .inl hb
        · rcases ih with ih | ih
          · exact .inl (.step ih hi he (by omega))
          · exact .inr (.step ih hi he (by omega))
  rcases this c h1.1 with k | k
  · exact h1.2 k
  · exact h2.2 k
theorem DomR.anti {a b : Nat} (h1 : DomR G r a b) (h2 : DomR G r b a) : a = b := by
  refine Classical.byContradiction fun hab => ?_
  have : ∀ x, Rch G (-1) [(r : Int)] x → Rch G (a : Int) [(r : Int)] b ∨ Rch G (b : Int) [(r : Int)] a ∨ (Rch G (a : Int) [(r : Int)] x ∧ Rch G (b : Int) [(r : Int)] x) := fun x hx => by
    induction hx with
    | @start i hi hw =>
      by_cases e : i = a
      · subst e; exact .inr (.inl (.start hi (by omega)))
      · by_cases e2 : i = b
        · subst e2; exact .inl (.start hi (by omega))
        · exact .inr (.inr ⟨.start hi (by omega), .start hi (by omega)⟩)
    | @step i j k1 hi he hw ih =>
      rcases ih with ih | ih | ⟨i1, i2⟩
      · exact .inl ih
      · exact .inr (.inl ih)
      · by_cases e : j = a
        · subst e; exact .inr (.inl (.step i2 hi he (by omega)))
        · by_cases e2 : j = b
          · subst e2; exact .inl (.step i1 hi he (by omega))
          · exact .inr (.inr ⟨.step i1 hi he (by omega), .step i2 hi he (by omega)⟩)
  rcases this a h1.reached with k | k | k
  · exact h1.2 k
  · exact h2.2 k
  · exact k.1.ne rfl
theorem DomR.root {b : Nat} (h : Rch G (-1) [(r : Int)] b) : DomR G r r b := by
  refine ⟨h, fun hx => ?_⟩
  have : ∀ x, Rch G (r : Int) [(r : Int)] x → False := fun x hx => by
    induction hx with
    | start hi hw => exact hw (by simpa using hi)
    | step _ _ _ _ ih => exact ih
  exact this b hx
theorem DomR.of_root {a : Nat} (h : DomR G r a r) : a = r := by
  refine Classical.byContradiction fun hn => h.2 (.start' (by omega))
/-- paths turned around -/
theorem Rch.turn {F B : List (List Int)} {wo : Int} {s : Nat} (hb : ∀ i j : Nat, i < F.length → (j : Int) ∈ F.getD i [] → j < B.length ∧ (i : Int) ∈ B.getD j []) {t : Nat} (h : Rch F wo [(s : Int)] t) : Rch B wo [(t : Int)] s := by
  have : ∀ x, Rch F wo [(s : Int)] x → ∀ L, Rch B wo L x → Rch B wo L s := fun x hx => by
    induction hx with
    | @start i hi hw =>
      intro L hL
      have : i = s := by simp at hi; omega
      subst this; exact hL
    | @step i j k1 hi he hw ih =>
      intro L hL
      have := hb i j hi he
      exact ih L (.step hL this.1 this.2 k1.ne)
  exact this t h _ (.start' h.ne)
end

/-- a relation like that of dominators -/
structure TreeR (n : Nat) (R : Nat → Nat → Bool) : Prop where
  tr : ∀ a b c, a < n → b < n → c < n → R a b = true → R b c = true → R a c = true
  anti : ∀ a b, a < n → b < n → R a b = true → R b a = true → a = b
  left : ∀ a b, a < n → b < n → R a b = true → R a a = true
  right : ∀ a b, a < n → b < n → R a b = true → R b b = true
  tot : ∀ a b c, a < n → b < n → c < n → R a c = true → R b c = true → R a b = true ∨ R b a = true
theorem filter_le {α : Type} (p q : α → Bool) : ∀ (L : List α), (∀ x ∈ L, p x = true → q x = true) → (L.filter p).length ≤ (L.filter q).length
  | [], _ => by simp
  | x :: L, h => by
    have ih := filter_le p q L fun y hy => h y (List.mem_cons_of_mem _ hy)
    have hx := h x (List.mem_cons_self ..)
    rw [List.filter_cons, List.filter_cons]
    cases hp : p x <;> cases hq : q x <;> simp_all <;> omega
theorem filter_lt {α : Type} (p q : α → Bool) : ∀ (L : List α), (∀ x ∈ L, p x = true → q x = true) → (∃ x ∈ L, p x = false ∧ q x = true) → (L.filter p).length < (L.filter q).length
  | [], _, ⟨x, hx, _⟩ => by cases hx
  | x :: L, h, ⟨y, hy, h1, h2⟩ => by
    have hx := h x (List.mem_cons_self ..)
    have hL : ∀ y ∈ L, p y = true → q y = true := fun y hy => h y (List.mem_cons_of_mem _ hy)
    rcases List.mem_cons.1 hy with e | hy
    · subst e
      have ih := filter_le p q L hL
      rw [List.filter_cons, List.filter_cons, h1, h2]; simp; omega
    · have ih := filter_lt p q L hL ⟨y, hy, h1, h2⟩
      rw [List.filter_cons, List.filter_cons]
      cases hp : p x <;> cases hq : q x <;> simp_all <;> omega
/-- as many but one: the same but one -/
theorem filter_eq_one {p q : Nat → Bool} {b : Nat} : ∀ (L : List Nat), L.Nodup → (∀ x ∈ L, p x = true → q x = true) → b ∈ L → q b = true → p b = false → (L.filter q).length ≤ (L.filter p).length + 1 → ∀ x ∈ L, x ≠ b → q x = true → p x = true := by
  intro L hnd hle hb hqb hpb hlen x hx hxb hqx
  refine Classical.byContradiction fun hpx => ?_
  have hpx : p x = false := by simpa using hpx
  have h1 : (L.filter p).length < (L.filter fun y => p y || decide (y = b)).length := filter_lt _ _ L (fun y _ h => by simp [h]) ⟨b, hb, hpb, by simp⟩
  have h2 : (L.filter fun y => p y || decide (y = b)).length < (L.filter q).length := filter_lt _ _ L (fun y hy h => by
    simp at h; rcases h with h | h
    · exact hle y hy h
    · rw [h]; exact hqb) ⟨x, hx, by simp [hpx, hxb], hqx⟩
  omega
theorem filter_add_one {p q : Nat → Bool} {b : Nat} : ∀ (L : List Nat), L.Nodup → (∀ x ∈ L, q x = true ↔ p x = true ∨ x = b) → b ∈ L → p b = false → (L.filter q).length = (L.filter p).length + 1
  | [], _, _, hb, _ => by cases hb
  | x :: L, hnd, h, hb, hpb => by
    have hnd' := List.nodup_cons.1 hnd
    have hx := h x (List.mem_cons_self ..)
    rw [List.filter_cons, List.filter_cons]
    by_cases e : x = b
    · subst e
      have hq : q x = true := hx.2 (.inr rfl)
      have : L.filter q = L.filter p := List.filter_congr fun y hy => by
        have hy' := h y (List.mem_cons_of_mem _ hy)
        have : y ≠ x := fun e => hnd'.1 (e ▸ hy)
        cases hq : q y <;> cases hp : p y <;> simp_all
      rw [hq, hpb, this]; simp
    · have hb' : b ∈ L := by rcases List.mem_cons.1 hb with e2 | h2
                             · exact absurd e2.symm e
                             · exact h2
      have ih := filter_add_one L hnd'.2 (fun y hy => h y (List.mem_cons_of_mem _ hy)) hb' hpb
      have : q x = p x := by cases hq : q x <;> cases hp : p x <;> simp_all
      rw [this]; split <;> simp [ih]
/-- the immediate one by depths is the immediate one by definition -/
theorem TreeR.imm {n : Nat} {R : Nat → Nat → Bool} (h : TreeR n R) {a b : Nat} (ha : a < n) (hb : b < n) (hab : a ≠ b) (hr : R a b = true) :
    ((depC R n a : Int) = (depC R n b : Int) - 1) ↔ ∀ c, c < n → c ≠ b → R c b = true → R c a = true := by
  have hsub : ∀ c, c < n → R c a = true → R c b = true := fun c hc hca => h.tr c a b hc ha hb hca hr
  have hbb := h.right a b ha hb hr
  have hba : R b a = false := by
    cases e : R b a with
    | false => rfl
    | true => exact absurd (h.anti a b ha hb hr e) hab
  unfold depC
  constructor
  · intro he c hc hcb hcr
    exact filter_eq_one (p := fun x => R x a) (q := fun x => R x b) (b := b) (List.range n) List.nodup_range (fun x hx => hsub x (List.mem_range.1 hx)) (List.mem_range.2 hb) hbb hba (by omega) c (List.mem_range.2 hc) hcb hcr
  · intro hall
    have := filter_add_one (p := fun x => R x a) (q := fun x => R x b) (b := b) (List.range n) List.nodup_range (fun x hx => ⟨fun hq => by
        by_cases e : x = b
        · exact .inr e
        · exact .inl (hall x (List.mem_range.1 hx) e hq), fun hq => by
        rcases hq with hq | rfl
        · exact hsub x (List.mem_range.1 hx) hq
        · exact hbb⟩) (List.mem_range.2 hb) hba
    omega
theorem TreeR.dep_lt {n : Nat} {R : Nat → Nat → Bool} (h : TreeR n R) {a b : Nat} (ha : a < n) (hb : b < n) (hab : a ≠ b) (hr : R a b = true) : depC R n a < depC R n b := by
  unfold depC
  exact filter_lt (fun x => R x a) (fun x => R x b) (List.range n) (fun x hx hp => h.tr x a b (List.mem_range.1 hx) ha hb hp hr) ⟨b, List.mem_range.2 hb, by
    cases e : R b a with
    | false => rfl
    | true => exact absurd (h.anti a b ha hb hr e) hab, h.right a b ha hb hr⟩
/-- who has a strict one above has an immediate one -/
theorem TreeR.has {n : Nat} {R : Nat → Nat → Bool} (h : TreeR n R) {b : Nat} (hb : b < n) : ∀ (k a : Nat), depC R n b - depC R n a ≤ k → a < n → a ≠ b → R a b = true → ∃ p, p < n ∧ p ≠ b ∧ R p b = true ∧ (depC R n p : Int) = (depC R n b : Int) - 1
  | 0, a, hk, ha, hab, hr => absurd (h.dep_lt ha hb hab hr) (by omega)
  | k + 1, a, hk, ha, hab, hr => by
    by_cases hall : ∀ c, c < n → c ≠ b → R c b = true → R c a = true
    · exact ⟨a, ha, hab, hr, (h.imm ha hb hab hr).2 hall⟩
    · obtain ⟨c, hc⟩ := Classical.not_forall.1 hall
      have hcn : c < n := Classical.byContradiction fun k => hc fun k2 => absurd k2 k
      have hcb : c ≠ b := fun e => hc fun _ k2 => absurd e k2
      have hcr : R c b = true := Classical.byContradiction fun k => hc fun _ _ k2 => absurd k2 k
      have hca : ¬ R c a = true := fun k => hc fun _ _ _ => k
      have hac : R a c = true := (h.tot a c b ha hcn hb hr hcr).resolve_right hca
      have hne : a ≠ c := fun e => hca (by subst e; exact h.left a b ha hb hr)
      have := h.dep_lt ha hcn hne hac
      exact h.has hb k c (by omega) hcn hcb hcr
theorem imC_pos (R : Nat → Nat → Bool) (n b : Nat) : ∀ (k : Nat) (p : Int), imC R n b k = p → p = -1 ∧ (∀ a, a < k → ¬ ((a ≠ b ∧ R a b = true) ∧ (depC R n a : Int) = (depC R n b : Int) - 1)) ∨ ∃ q : Nat, p = q ∧ q < k ∧ q ≠ b ∧ R q b = true ∧ (depC R n q : Int) = (depC R n b : Int) - 1
  | 0, p, h => .inl ⟨h.symm, fun a ha => absurd ha (by omega)⟩
  | k + 1, p, h => by
    unfold imC at h
    split at h
    · rename_i hc
      exact .inr ⟨k, h.symm, by omega, hc.1.1, hc.1.2, hc.2⟩
    · rename_i hc
      rcases imC_pos R n b k p h with ⟨e, hall⟩ | ⟨q, e, hq, h2⟩
      · exact .inl ⟨e, fun a ha => by
          by_cases hak : a = k
          · subst hak; exact hc
          · exact hall a (by omega)⟩
      · exact .inr ⟨q, e, by omega, h2⟩
/-- the way up -/
def chainB (T : List Int) (n : Nat) (a : Int) : Nat → Int → Bool
  | 0, _ => false
  | k + 1, b => if a = b then true else if b < 0 ∨ (n : Int) ≤ b then false else chainB T n a k (T.getD b.toNat 0)
theorem TreeR.chain {n : Nat} {R : Nat → Nat → Bool} (h : TreeR n R) {a : Nat} (ha : a < n) : ∀ (k b : Nat), b < n → R b b = true → depC R n b < k → chainB (immL R n) n a k b = R a b
  | 0, b, _, _, hk => absurd hk (by omega)
  | k + 1, b, hb, hbb, hk => by
    unfold chainB
    by_cases e : a = b
    · subst e; rw [if_pos rfl, hbb]
    rw [if_neg (by omega), if_neg (by omega), Int.toNat_natCast]
    have hg : (immL R n).getD b 0 = imC R n b n := by simp [immL, List.getD_eq_getElem?_getD, hb]
    rw [hg]
    have hpos : 0 < depC R n b := by
      unfold depC
      rw [List.length_pos_iff_exists_mem]
      exact ⟨b, List.mem_filter.2 ⟨List.mem_range.2 hb, hbb⟩⟩
    rcases imC_pos R n b n _ rfl with ⟨e1, hall⟩ | ⟨q, e1, hq, hqb, hqr, hqd⟩
    · rw [e1]
      have hr : R a b = false := by
        cases er : R a b with
        | false => rfl
        | true =>
          obtain ⟨p, hp, hpb, hpr, hpd⟩ := h.has hb _ a (Nat.le_refl _) ha e er
          exact absurd ⟨⟨hpb, hpr⟩, hpd⟩ (hall p hp)
      rw [hr]
      obtain ⟨j, rfl⟩ : ∃ j, k = j + 1 := ⟨k - 1, by omega⟩
      unfold chainB
      rw [if_neg (by omega), if_pos (by omega)]
    · rw [e1, h.chain ha k q hq (h.left q b hq hb hqr) (by omega)]
      have himm := (h.imm hq hb hqb hqr).1 hqd
      cases er : R a b with
      | true => exact himm a ha e er
      | false =>
        cases eq : R a q with
        | false => rfl
        | true => rw [h.tr a q b ha hq hb eq hqr] at er; cases er
end Go.Proofs.Ytjddegfigdpcbaa
