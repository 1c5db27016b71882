/- Flows turned around: the exchange of entry and exit. -/
import Derived.Test.YtjddegfigdpcbaaZ0
namespace Go.Proofs.Ytjddegfigdpcbaa

/-- the immediate one, told by what it is -/
def IsImm (R : Nat → Nat → Bool) (n b : Nat) (p : Nat) : Prop := p < n ∧ p ≠ b ∧ R p b = true ∧ ∀ c, c < n → c ≠ b → R c b = true → R c p = true
theorem TreeR.imm_uniq {n : Nat} {R : Nat → Nat → Bool} (h : TreeR n R) {b p q : Nat} (hp : IsImm R n b p) (hq : IsImm R n b q) : p = q :=
  h.anti p q hp.1 hq.1 (hq.2.2.2 p hp.1 hp.2.1 hp.2.2.1) (hp.2.2.2 q hq.1 hq.2.1 hq.2.2.1)
theorem TreeR.immL_is {n : Nat} {R : Nat → Nat → Bool} (h : TreeR n R) {b : Nat} (hb : b < n) : ((immL R n).getD b 0 = -1 ∧ ∀ p, ¬ IsImm R n b p) ∨ ∃ p : Nat, (immL R n).getD b 0 = p ∧ IsImm R n b p := by
  have hg : (immL R n).getD b 0 = imC R n b n := by simp [immL, List.getD_eq_getElem?_getD, hb]
  rw [hg]
  rcases imC_pos R n b n _ rfl with ⟨e1, hall⟩ | ⟨q, e1, hq, hqb, hqr, hqd⟩
  · exact .inl ⟨e1, fun p hp => hall p hp.1 ⟨⟨hp.2.1, hp.2.2.1⟩, (h.imm hp.1 hb hp.2.1 hp.2.2.1).2 hp.2.2.2⟩⟩
  · exact .inr ⟨q, e1, hq, hqb, hqr, (h.imm hq hb hqb hqr).1 hqd⟩
def oth (i : Nat) : Nat := if i < 2 then 1 - i else i
theorem oth_oth (i : Nat) : oth (oth i) = i := by
  unfold oth
  by_cases h : i < 2
  · rw [if_pos h, if_pos (by omega)]; omega
  · rw [if_neg h, if_neg h]
theorem oth_lt {i n : Nat} (h2 : 2 ≤ n) (h : i < n) : oth i < n := by unfold oth; split <;> omega
theorem oth_inj {i j : Nat} (h : oth i = oth j) : i = j := by rw [← oth_oth i, h, oth_oth]
/-- paths under the exchange of entry and exit -/
theorem Rch.swap {G G' : List (List Int)} {wo wo' : Int} {s : Nat} (hl : G.length = G'.length) (h2 : 2 ≤ G.length) (he : ∀ i j : Nat, i < G.length → (j : Int) ∈ G.getD i [] → ((oth j : Nat) : Int) ∈ G'.getD (oth i) []) (hw : ∀ i : Nat, (i : Int) ≠ wo → ((oth i : Nat) : Int) ≠ wo') {t : Nat} (h : Rch G wo [(s : Int)] t) : Rch G' wo' [((oth s : Nat) : Int)] (oth t) := by
  induction h with
  | @start i hi h3 =>
    have : i = s := by simp at hi; omega
    subst this
    exact .start' (hw _ h3)
  | @step i j k1 hi hj h3 ih => exact .step ih (by rw [← hl]; exact oth_lt h2 hi) (he i j hi hj) (hw _ h3)
theorem oth_wo (a i : Nat) (h : (i : Int) ≠ (a : Int)) : ((oth i : Nat) : Int) ≠ ((oth a : Nat) : Int) := fun e => by
  have h2 := oth_inj (i := i) (j := a) (by omega)
  omega
theorem oth_none : ∀ i : Nat, (i : Int) ≠ -1 → ((oth i : Nat) : Int) ≠ -1 := fun i _ e => by omega
theorem DomR.swap {G G' : List (List Int)} (hl : G.length = G'.length) (h2 : 2 ≤ G.length) (he : ∀ i j : Nat, i < G.length → (j : Int) ∈ G.getD i [] → ((oth j : Nat) : Int) ∈ G'.getD (oth i) []) (he' : ∀ i j : Nat, i < G'.length → (j : Int) ∈ G'.getD i [] → ((oth j : Nat) : Int) ∈ G.getD (oth i) []) {r a b : Nat} (h : DomR G r a b) : DomR G' (oth r) (oth a) (oth b) := by
  refine ⟨h.1.swap hl h2 he oth_none, fun k => h.2 ?_⟩
  have := k.swap hl.symm (by omega) he' (oth_wo (oth a))
  rwa [oth_oth, oth_oth, oth_oth] at this
/-- g is F with all edges turned, entry and exit exchanged -/
structure IsSwap (F g : List (List Int)) : Prop where
  len : g.length = F.length
  mem : ∀ c, c < F.length → ∀ x, x ∈ g.getD (oth c) [] ↔ ∃ i : Nat, x = (oth i : Nat) ∧ i < F.length ∧ (c : Int) ∈ F.getD i []
  short : ∀ c, c < F.length → (g.getD c []).length ≤ 900
theorem IsSwap.mem' {F g : List (List Int)} (h : IsSwap F g) (h2 : 2 ≤ F.length) (c : Nat) (hc : c < F.length) (x : Int) : x ∈ g.getD c [] ↔ ∃ i : Nat, x = (oth i : Nat) ∧ i < F.length ∧ ((oth c : Nat) : Int) ∈ F.getD i [] := by
  have := h.mem (oth c) (oth_lt h2 hc) x
  rwa [oth_oth] at this
theorem IsSwap.vld {F g : List (List Int)} (hV : VldF F) (h : IsSwap F g) : VldF g where
  lo := by rw [h.len]; exact hV.lo
  hi := by rw [h.len]; exact hV.hi
  ex := by
    rw [List.length_eq_zero_iff, List.eq_nil_iff_forall_not_mem]
    intro x hx
    obtain ⟨i, _, hi, he⟩ := (h.mem 0 (by have := hV.lo; omega) x).1 hx
    have := (mem_getD 0 he)
    obtain ⟨j, hj, e⟩ := this
    have := (hV.edges i hi j hj).1
    omega
  edges i hi j hj := by
    have h2 := hV.lo
    rw [h.len] at hi
    obtain ⟨i', e, hi', he⟩ := (h.mem' h2 i hi _).1 (getD_mem (d := 0) hj)
    have h1 : i' ≠ 1 := fun e1 => by
      subst e1
      have := hV.ex
      rw [List.length_eq_zero_iff] at this
      rw [this] at he; cases he
    have hl := oth_lt h2 hi'
    have hp : 0 < oth i' := by unfold oth; split <;> omega
    rw [e, h.len]; omega
/-- dominators of the turned flow are postdominators -/
theorem swap_rel {F g : List (List Int)} (hV : VldF F) (h : IsSwap F g) {a b : Nat} (ha : a < F.length) (hb : b < F.length) : relF g 0 (oth a) (oth b) = relF (revF F) 1 a b := by
  have h2 := hV.lo
  have hr := revF_rev hV
  have hl : (revF F).length = g.length := by rw [hr.len, h.len]
  have e1 : ∀ i j : Nat, i < (revF F).length → (j : Int) ∈ (revF F).getD i [] → ((oth j : Nat) : Int) ∈ g.getD (oth i) [] := fun i j hi hj => by
    rw [hr.len] at hi
    obtain ⟨j', e, hj', he⟩ := (hr.mem i hi _).1 hj
    have : j' = j := by omega
    subst this
    exact (h.mem i hi _).2 ⟨j', rfl, hj', he⟩
  have e2 : ∀ i j : Nat, i < g.length → (j : Int) ∈ g.getD i [] → ((oth j : Nat) : Int) ∈ (revF F).getD (oth i) [] := fun i j hi hj => by
    rw [h.len] at hi
    obtain ⟨j', e, hj', he⟩ := (h.mem' h2 i hi _).1 hj
    have : j = oth j' := by omega
    subst this
    rw [oth_oth]
    exact (hr.mem (oth i) (oth_lt h2 hi) _).2 ⟨j', rfl, hj', he⟩
  have hiff : relF g 0 (oth a) (oth b) = true ↔ relF (revF F) 1 a b = true := by
    rw [relF_iff (h.vld hV).ok (by rw [h.len]; exact oth_lt h2 ha) (by rw [h.len]; exact oth_lt h2 hb), relF_iff hr.ok (by rw [hr.len]; exact ha) (by rw [hr.len]; exact hb)]
    constructor
    · intro k
      have := k.swap hl.symm (by rw [h.len]; exact h2) e2 e1
      rwa [oth_oth, oth_oth] at this
    · intro k
      exact k.swap hl (by rw [hr.len]; exact h2) e1 e2
  cases e1 : relF g 0 (oth a) (oth b) <;> cases e2 : relF (revF F) 1 a b <;> simp_all
/-- the trees agree under the exchange -/
theorem swap_tree {F g : List (List Int)} (hV : VldF F) (h : IsSwap F g) {i : Nat} (hi : i < F.length) :
    ((postL F).getD i 0 = -1 ∧ (domL g).getD (oth i) 0 = -1) ∨ ∃ p : Nat, p < F.length ∧ (postL F).getD i 0 = p ∧ (domL g).getD (oth i) 0 = (oth p : Nat) := by
  have h2 := hV.lo
  have hr := revF_rev hV
  have t1 := relF_tree hr.ok 1
  have t2 := relF_tree (h.vld hV).ok 0
  rw [hr.len] at t1
  rw [h.len] at t2
  have i1 := t1.immL_is hi
  have i2 := t2.immL_is (oth_lt h2 hi)
  unfold postL domL
  rw [h.len]
  have imp : ∀ p, IsImm (relF (revF F) 1) F.length i p → IsImm (relF g 0) F.length (oth i) (oth p) := fun p hp => by
    refine ⟨oth_lt h2 hp.1, fun e => hp.2.1 (oth_inj e), by rw [swap_rel hV h hp.1 hi]; exact hp.2.2.1, fun c hc hne hcr => ?_⟩
    have e := swap_rel hV h (oth_lt h2 hc) hi
    rw [oth_oth] at e
    have e' := swap_rel hV h (oth_lt h2 hc) hp.1
    rw [oth_oth] at e'
    rw [e']
    exact hp.2.2.2 (oth c) (oth_lt h2 hc) (fun k => hne (by rw [← k, oth_oth])) (by rw [← e]; exact hcr)
  have imp' : ∀ q, IsImm (relF g 0) F.length (oth i) q → IsImm (relF (revF F) 1) F.length i (oth q) := fun q hq => by
    have eq := swap_rel hV h (oth_lt h2 hq.1) hi
    rw [oth_oth] at eq
    refine ⟨oth_lt h2 hq.1, fun e => hq.2.1 (by rw [← e, oth_oth]), by rw [← eq]; exact hq.2.2.1, fun c hc hne hcr => ?_⟩
    have e := swap_rel hV h hc hi
    have e' := swap_rel hV h hc (oth_lt h2 hq.1)
    rw [oth_oth] at e'
    rw [← e']
    exact hq.2.2.2 (oth c) (oth_lt h2 hc) (fun k => hne (oth_inj k)) (by rw [e]; exact hcr)
  rcases i1 with ⟨a1, n1⟩ | ⟨p, a1, hp⟩
  · rcases i2 with ⟨a2, _⟩ | ⟨q, _, hq⟩
    · exact .inl ⟨a1, a2⟩
    · exact absurd (imp' q hq) (n1 _)
  · rcases i2 with ⟨_, n2⟩ | ⟨q, a2, hq⟩
    · exact absurd (imp p hp) (n2 _)
    · refine .inr ⟨p, hp.1, a1, ?_⟩
      rw [a2, t2.imm_uniq hq (imp p hp)]
end Go.Proofs.Ytjddegfigdpcbaa
