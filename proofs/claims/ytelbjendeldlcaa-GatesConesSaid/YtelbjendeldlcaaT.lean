/- What the builder's operators mean: plain laws over the plain builder, with no program in sight. -/
import Derived.Test.YtelbjendeldlcaaH
namespace Go.Proofs.Ytelbjendeldlcaa
open Go.RowKit

theorem foldl_vals_prefix (t : List (Int × Int)) : ∀ acc : List Bool, ∃ u, t.foldl (fun vs g => vs ++ [gateVal vs g]) acc = acc ++ u := by
  induction t with
  | nil => intro acc; exact ⟨[], by simp⟩
  | cons g t ih =>
    intro acc
    obtain ⟨u, hu⟩ := ih (acc ++ [gateVal acc g])
    exact ⟨gateVal acc g :: u, by rw [List.foldl_cons, hu]; simp⟩
theorem valsF_app (input : List Bool) (G t : List (Int × Int)) : ∃ u, valsF input (G ++ t) = valsF input G ++ u := by
  unfold valsF; rw [List.foldl_append]; exact foldl_vals_prefix t _
theorem litVal_app {vs u : List Bool} {x : Int} (h : (x / 2).toNat < vs.length) : litVal (vs ++ u) x = litVal vs x := by
  unfold litVal
  rw [List.getD_eq_getElem?_getD, List.getElem?_append_left h, ← List.getD_eq_getElem?_getD]
theorem litVal_not (vs : List Bool) {x : Int} (h : 0 ≤ x) : litVal vs (notI x) = !litVal vs x := by
  unfold litVal notI
  by_cases hp : x % 2 = 0
  · rw [if_pos hp, show ((x + 1) / 2).toNat = (x / 2).toNat from by omega, show (x + 1) % 2 = 1 from by omega, hp]
    cases vs.getD (x / 2).toNat false <;> rfl
  · rw [if_neg hp, show ((x - 1) / 2).toNat = (x / 2).toNat from by omega, show (x - 1) % 2 = 0 from by omega, show x % 2 = 1 from by omega]
    cases vs.getD (x / 2).toNat false <;> rfl
theorem notI_notI (x : Int) : notI (notI x) = x := by unfold notI; split <;> split <;> omega
theorem PB.lit_not {s : PB} {x : Int} (h : s.lit x) : s.lit (notI x) := by
  have h2 : s.N % 2 = 0 := by unfold PB.N; omega
  unfold PB.lit at *; unfold notI; split <;> omega
theorem vals_head (input : List Bool) (G : List (Int × Int)) : (valsF input G).getD 0 false = false := by
  obtain ⟨u, hu⟩ := valsF_app input [] G
  rw [List.nil_append] at hu
  rw [hu]; rfl
theorem vals_input (input : List Bool) (G : List (Int × Int)) (i : Nat) (h : i < input.length) : (valsF input G).getD (i + 1) false = input.getD i false := by
  obtain ⟨u, hu⟩ := valsF_app input [] G
  rw [List.nil_append] at hu
  rw [hu]
  show ((false :: input) ++ u).getD (i + 1) false = _
  rw [List.getD_eq_getElem?_getD, List.getElem?_append_left (by simp; omega), List.getElem?_cons_succ, ← List.getD_eq_getElem?_getD]
theorem vals_gate {n : Int} {input : List Bool} {G : List (Int × Int)} (hv : Vld n G) (hn : (input.length : Int) = n) {j : Nat} (hj : j < G.length) :
    (valsF input G).getD (1 + input.length + j) false = gateVal (valsF input G) (G.getD j (0, 0)) := by
  have hg := hv.gates j hj
  have hsplit : G = (G.take j ++ [G.getD j (0, 0)]) ++ G.drop (j + 1) := by
    rw [← take_snoc G (0, 0) j hj, List.take_append_drop]
  obtain ⟨g, hg0⟩ : ∃ g, g = G.getD j (0, 0) := ⟨_, rfl⟩
  unfold GOk at hg
  rw [← hg0] at hsplit hg ⊢
  obtain ⟨u, hu⟩ := valsF_app input (G.take j ++ [g]) (G.drop (j + 1))
  rw [← hsplit, valsF_snoc] at hu
  have hl : (valsF input (G.take j)).length = 1 + input.length + j := by rw [valsF_length]; simp; omega
  have hgv : gateVal (valsF input G) g = gateVal (valsF input (G.take j)) g := by
    unfold gateVal
    rw [hu, List.append_assoc, litVal_app (by rw [hl]; omega), litVal_app (by rw [hl]; omega)]
  rw [hgv, hu, List.getD_eq_getElem?_getD, List.getElem?_append_left (by simp; omega), ← hl, List.getElem?_append_right (Nat.le_refl _)]
  simp

structure PB.Inv (s : PB) : Prop where
  ok : s.Ok
  vld : Vld s.n s.G
/-- what an operation gives: v, where no error was kept, and the circuit only grows -/
structure Res (input : List Bool) (s : PB) (r : PB × Int) (P : Prop) (v : Bool) : Prop where
  inv : r.1.Inv
  n : r.1.n = s.n
  ext : ∃ t, r.1.G = s.G ++ t
  val : r.1.er = 0 → s.er = 0 ∧ P ∧ r.1.lit r.2 ∧ litVal (valsF input r.1.G) r.2 = v
theorem lit_len {s : PB} {input : List Bool} (hn : (input.length : Int) = s.n) {x : Int} (h : s.lit x) : (x / 2).toNat < (valsF input s.G).length := by
  rw [valsF_length]; unfold PB.lit PB.N at h; omega
theorem lit_ext {s r : PB} {x : Int} (hn : r.n = s.n) (he : ∃ t, r.G = s.G ++ t) (h : s.lit x) : r.lit x := by
  obtain ⟨t, ht⟩ := he
  unfold PB.lit PB.N at *; rw [hn, ht]; simp; omega
theorem val_ext {s r : PB} {input : List Bool} (hn : (input.length : Int) = s.n) (he : ∃ t, r.G = s.G ++ t) {x : Int} (h : s.lit x) : litVal (valsF input r.G) x = litVal (valsF input s.G) x := by
  obtain ⟨t, ht⟩ := he
  obtain ⟨u, hu⟩ := valsF_app input s.G t
  rw [ht, hu, litVal_app (lit_len hn h)]
theorem Res.same {input : List Bool} {s : PB} {P : Prop} {v : Bool} {z : Int} (hi : s.Inv) (h : s.er = 0 → P ∧ s.lit z ∧ litVal (valsF input s.G) z = v) : Res input s (s, z) P v :=
  ⟨hi, rfl, ⟨[], by simp⟩, fun e => ⟨e, h e⟩⟩
theorem Res.err {input : List Bool} {s : PB} {P : Prop} {v : Bool} {z k : Int} (hi : s.Inv) (hk : k ≠ 0) : Res input s ({ s with er := k }, z) P v :=
  ⟨⟨⟨hi.ok.lo, hi.ok.hi, hi.ok.size⟩, hi.vld⟩, rfl, ⟨[], by simp⟩, fun e => absurd e hk⟩
theorem lit0 {s : PB} (hi : s.Inv) : s.lit 0 := by have := hi.ok.lo; unfold PB.lit PB.N; omega
theorem pair_res {input : List Bool} {s : PB} (hi : s.Inv) (hn : (input.length : Int) = s.n) {p q : Int} (hp : s.lit p) (hq : s.lit q) (hpq : p ≤ q) :
    Res input s (s.pair p q) True (litVal (valsF input s.G) p && litVal (valsF input s.G) q) := by
  have hz : litVal (valsF input s.G) 0 = false := by unfold litVal; rw [show ((0 : Int) / 2).toNat = 0 from rfl, vals_head]; rfl
  have h1 : litVal (valsF input s.G) 1 = true := by unfold litVal; rw [show ((1 : Int) / 2).toNat = 0 from rfl, vals_head]; rfl
  unfold PB.pair
  split
  · rename_i h
    refine Res.same hi fun _ => ⟨trivial, lit0 hi, ?_⟩
    rw [hz]
    rcases h with h | h
    · rw [h, hz]; rfl
    · rw [h, litVal_not _ hq.1]; cases litVal (valsF input s.G) q <;> rfl
  split
  · rename_i h0 h
    refine Res.same hi fun _ => ⟨trivial, hq, ?_⟩
    rcases h with h | h
    · rw [h, h1]; rfl
    · rw [h]; cases litVal (valsF input s.G) q <;> rfl
  rename_i h0 h1'
  have p0 := hp.1
  have hq2 := hq.2
  unfold PB.N at hq2
  split
  · rename_i j hj
    have hj' := findG_some 0 j hj
    rw [Nat.sub_zero] at hj'
    have hlt : j < s.G.length := (List.getElem?_eq_some_iff.1 hj'.2).1
    have hgd : s.G.getD j (0, 0) = (p, q) := by rw [List.getD_eq_getElem?_getD, hj'.2]; rfl
    refine Res.same hi fun _ => ⟨trivial, ?_, ?_⟩
    · have := hi.ok.lo
      unfold PB.lit PB.N; omega
    · unfold litVal
      have e1 : (2 * (1 + s.n + (j : Int)) / 2).toNat = 1 + input.length + j := by omega
      have e2 : (2 * (1 + s.n + (j : Int))) % 2 = 0 := by omega
      rw [e1, e2, vals_gate hi.vld hn hlt, hgd]
      unfold gateVal
      simp only []
      unfold litVal
      generalize ((valsF input s.G).getD (p / 2).toNat false != (p % 2 == 1) && (valsF input s.G).getD (q / 2).toNat false != (q % 2 == 1)) = b
      cases b <;> rfl
  · rename_i hf
    have hnot : (p, q) ∉ s.G := (findG_none 0).1 hf
    split
    · exact Res.err hi (by decide)
    · rename_i hsz
      have hok := hi.ok
      have hvl := hi.vld
      have lo := hok.lo; have hhi := hok.hi
      refine ⟨⟨⟨lo, hhi, by simp; omega⟩, ⟨lo, hhi, by simp; omega, fun k hk => ?_⟩⟩, rfl, ⟨[(p, q)], rfl⟩, fun e => ⟨e, trivial, ?_, ?_⟩⟩
      · simp only [List.length_append, List.length_cons, List.length_nil] at hk
        unfold GOk
        simp only []
        by_cases hk' : k < s.G.length
        · have := hvl.gates k hk'
          unfold GOk at this
          rw [List.getD_eq_getElem?_getD, List.getElem?_append_left hk', ← List.getD_eq_getElem?_getD, List.take_append_of_le_length (by omega)]
          exact this
        · obtain rfl : k = s.G.length := by omega
          have hd : (s.G ++ [(p, q)]).getD s.G.length (0, 0) = (p, q) := by simp [List.getD_eq_getElem?_getD]
          rw [hd]
          simp only []
          refine ⟨by omega, by omega, by omega, fun e => h0 (Or.inr (by rw [e, notI_notI])), ?_⟩
          simp only [List.take_left']
          exact hnot
      · unfold PB.lit PB.N; simp; omega
      · simp only []
        rw [valsF_snoc]
        unfold litVal
        have hl : (valsF input s.G).length = 1 + input.length + s.G.length := valsF_length _ _
        have e1 : (2 * (1 + s.n + (s.G.length : Int)) / 2).toNat = (valsF input s.G).length := by rw [hl]; omega
        have e2 : (2 * (1 + s.n + (s.G.length : Int))) % 2 = 0 := by omega
        rw [e1, e2, List.getD_eq_getElem?_getD, List.getElem?_append_right (Nat.le_refl _)]
        simp only [Nat.sub_self, List.getElem?_cons_zero, Option.getD_some]
        unfold gateVal
        simp only []
        unfold litVal
        generalize ((valsF input s.G).getD (p / 2).toNat false != (p % 2 == 1) && (valsF input s.G).getD (q / 2).toNat false != (q % 2 == 1)) = b
        cases b <;> rfl
theorem and_res {input : List Bool} {s : PB} (hi : s.Inv) (hn : (input.length : Int) = s.n) (x y : Int) :
    Res input s (s.and x y) (s.lit x ∧ s.lit y) (litVal (valsF input s.G) x && litVal (valsF input s.G) y) := by
  unfold PB.and
  split
  · rename_i h; exact Res.same hi fun e => absurd e h
  split
  · exact Res.err hi (by decide)
  · rename_i h0 h1
    have hl : s.lit x ∧ s.lit y := Decidable.of_not_not h1
    rcases Int.le_total x y with hle | hle
    · rw [Int.min_eq_left hle, Int.max_eq_right hle]
      have := pair_res hi hn hl.1 hl.2 hle
      exact ⟨this.inv, this.n, this.ext, fun e => let ⟨a, _, c, d⟩ := this.val e; ⟨a, hl, c, d⟩⟩
    · rw [Int.min_eq_right hle, Int.max_eq_left hle]
      have := pair_res hi hn hl.2 hl.1 hle
      exact ⟨this.inv, this.n, this.ext, fun e => let ⟨a, _, c, d⟩ := this.val e; ⟨a, hl, c, by rw [d, Bool.and_comm]⟩⟩
theorem or_res {input : List Bool} {s : PB} (hi : s.Inv) (hn : (input.length : Int) = s.n) (x y : Int) :
    Res input s (s.or x y) (s.lit x ∧ s.lit y) (litVal (valsF input s.G) x || litVal (valsF input s.G) y) := by
  unfold PB.or
  split
  · rename_i h; exact Res.same hi fun e => absurd e h
  split
  · exact Res.err hi (by decide)
  · rename_i h0 h1
    have hl : s.lit x ∧ s.lit y := Decidable.of_not_not h1
    have h := and_res hi hn (notI x) (notI y)
    refine ⟨h.inv, h.n, h.ext, fun e => ?_⟩
    obtain ⟨a, b, c, d⟩ := h.val e
    have hs : (s.and (notI x) (notI y)).1.settle (notI (s.and (notI x) (notI y)).2) = notI (s.and (notI x) (notI y)).2 := by
      unfold PB.settle; rw [if_neg (by simpa using e)]
    simp only [hs]
    refine ⟨a, hl, PB.lit_not c, ?_⟩
    rw [litVal_not _ c.1, d, litVal_not _ hl.1.1, litVal_not _ hl.2.1]
    cases litVal (valsF input s.G) x <;> cases litVal (valsF input s.G) y <;> rfl
theorem both_res {input : List Bool} {s : PB} (hi : s.Inv) (hn : (input.length : Int) = s.n) (c x d y : Int) (hd : s.lit d) (hy : s.lit y) :
    Res input s (s.both c x d y) (s.lit c ∧ s.lit x) ((litVal (valsF input s.G) c && litVal (valsF input s.G) x) || (litVal (valsF input s.G) d && litVal (valsF input s.G) y)) := by
  unfold PB.both
  simp only []
  have h1 := and_res hi hn c x
  generalize s.and c x = r1 at *
  have n1 : (input.length : Int) = r1.1.n := by rw [h1.n]; exact hn
  have h2 := and_res h1.inv n1 d y
  generalize r1.1.and d y = r2 at *
  have n2 : (input.length : Int) = r2.1.n := by rw [h2.n]; exact n1
  have h3 := or_res h2.inv n2 r1.2 r2.2
  generalize r2.1.or r1.2 r2.2 = r3 at *
  have hext : ∃ t, r3.1.G = s.G ++ t := by
    obtain ⟨t1, e1⟩ := h1.ext; obtain ⟨t2, e2⟩ := h2.ext; obtain ⟨t3, e3⟩ := h3.ext
    exact ⟨t1 ++ (t2 ++ t3), by rw [e3, e2, e1]; simp⟩
  refine ⟨h3.inv, by rw [h3.n, h2.n, h1.n], hext, fun e => ?_⟩
  have hs : r3.1.settle r3.2 = r3.2 := by unfold PB.settle; rw [if_neg (by simpa using e)]
  simp only [hs]
  obtain ⟨e2, _, l3, v3⟩ := h3.val e
  obtain ⟨e1, _, l2, v2⟩ := h2.val e2
  obtain ⟨e0, hlit, l1, v1⟩ := h1.val e1
  refine ⟨e0, hlit, l3, ?_⟩
  rw [v3, v2, val_ext n1 h2.ext l1, v1, val_ext hn h1.ext hd, val_ext hn h1.ext hy]
theorem xor_res {input : List Bool} {s : PB} (hi : s.Inv) (hn : (input.length : Int) = s.n) (x y : Int) :
    Res input s (s.xor x y) (s.lit x ∧ s.lit y) (litVal (valsF input s.G) x != litVal (valsF input s.G) y) := by
  unfold PB.xor
  split
  · rename_i h; exact Res.same hi fun e => absurd e h
  split
  · exact Res.err hi (by decide)
  · rename_i h0 h1
    have hl : s.lit x ∧ s.lit y := Decidable.of_not_not h1
    have h := both_res hi hn x (notI y) (notI x) y (PB.lit_not hl.1) hl.2
    refine ⟨h.inv, h.n, h.ext, fun e => let ⟨a, _, c, d⟩ := h.val e; ⟨a, hl, c, ?_⟩⟩
    rw [d, litVal_not _ hl.1.1, litVal_not _ hl.2.1]
    cases litVal (valsF input s.G) x <;> cases litVal (valsF input s.G) y <;> rfl
theorem mux_res {input : List Bool} {s : PB} (hi : s.Inv) (hn : (input.length : Int) = s.n) (c x y : Int) :
    Res input s (s.mux c x y) (s.lit c ∧ s.lit x ∧ s.lit y) (if litVal (valsF input s.G) c then litVal (valsF input s.G) x else litVal (valsF input s.G) y) := by
  unfold PB.mux
  split
  · rename_i h; exact Res.same hi fun e => absurd e h
  split
  · exact Res.err hi (by decide)
  · rename_i h0 h1
    have hl : s.lit c ∧ s.lit x ∧ s.lit y := Decidable.of_not_not h1
    have h := both_res hi hn c x (notI c) y (PB.lit_not hl.1) hl.2.2
    refine ⟨h.inv, h.n, h.ext, fun e => let ⟨a, _, l, d⟩ := h.val e; ⟨a, hl, l, ?_⟩⟩
    rw [d, litVal_not _ hl.1.1]
    cases litVal (valsF input s.G) c <;> cases litVal (valsF input s.G) x <;> cases litVal (valsF input s.G) y <;> rfl
theorem inp_res {input : List Bool} {s : PB} (hi : s.Inv) (hn : (input.length : Int) = s.n) (i : Int) :
    Res input s (s.inp i) (0 ≤ i ∧ i < s.n) (input.getD i.toNat false) := by
  unfold PB.inp
  split
  · rename_i h; exact Res.same hi fun e => absurd e h
  split
  · exact Res.err hi (by decide)
  · rename_i h0 h1
    have h2 : 0 ≤ i ∧ i < s.n := by omega
    refine Res.same hi fun _ => ⟨h2, ?_, ?_⟩
    · unfold PB.lit PB.N; omega
    · unfold litVal
      rw [show (2 * (i + 1) / 2).toNat = i.toNat + 1 from by omega, vals_input input s.G i.toNat (by omega), show (2 * (i + 1)) % 2 = 0 from by omega]
      cases input.getD i.toNat false <;> rfl
end Go.Proofs.Ytelbjendeldlcaa
