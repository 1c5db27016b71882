/- Plain laws of the cone: it is valid, means the same, is its own cone; inputs outside of the support do not matter. -/
import Derived.Test.YtelbjendeldlcaaAQ
namespace Go.Proofs.Ytelbjendeldlcaa

section
variable {n : Nat} {G : List (Int × Int)} {L : List Int} {ms : List Bool} {d : Nat → Int}

theorem coneG_at (f : Nat → Int) (k : Nat) (h1 : n < k) (h2 : ms.getD k false = true) (h3 : k < 1 + n + G.length) :
    (coneG f n G ms (1 + n + G.length)).getD (sel n ms k).length (0, 0) = mvG f (G.getD (k - 1 - n) (0, 0)) := by
  have hs := sel_at n ms k h1 h2 _ h3
  have hl := sel_lt n ms k _ h3 h1 h2
  unfold coneG
  rw [List.getD_eq_getElem?_getD, List.getElem?_map, List.getElem?_eq_getElem hl]
  rw [List.getD_eq_getElem?_getD, List.getElem?_eq_getElem hl] at hs
  simp only [Option.getD_some, Option.map_some] at *
  rw [hs]
theorem coneG_inv (f : Nat → Int) (i : Nat) (hi : i < (coneG f n G ms (1 + n + G.length)).length) :
    ∃ k, n < k ∧ k < 1 + n + G.length ∧ ms.getD k false = true ∧ (sel n ms k).length = i ∧ (coneG f n G ms (1 + n + G.length)).getD i (0, 0) = mvG f (G.getD (k - 1 - n) (0, 0)) := by
  rw [coneG_length] at hi
  obtain ⟨k, h1, h2, h3, h4⟩ := sel_inv n ms _ i hi
  exact ⟨k, h2, h1, h3, h4, by rw [← h4]; exact coneG_at f k h2 h3 h1⟩
theorem Need.opA (hN : Need n G L ms) (hV : Vld n G) (k : Nat) (h1 : n < k) (h2 : k < 1 + n + G.length) (h3 : ms.getD k false = true) :
    ms.getD (opA G (k - 1 - n)) false = true ∧ ms.getD (opB G (k - 1 - n)) false = true ∧ Ytelbjendeldlcaa.opA G (k - 1 - n) < opB G (k - 1 - n) ∧ opB G (k - 1 - n) < k ∧ 1 ≤ Ytelbjendeldlcaa.opA G (k - 1 - n) := by
  have hop := hV.ops (k - 1 - n) (by omega)
  have hj : 1 + n + (k - 1 - n) = k := by omega
  exact ⟨(hN.iff _ (by omega)).2 (.inr ⟨k - 1 - n, by omega, by rw [hj]; exact h3, .inl rfl⟩), (hN.iff _ (by omega)).2 (.inr ⟨k - 1 - n, by omega, by rw [hj]; exact h3, .inr rfl⟩), by omega, by omega, by omega⟩
theorem Vld.pos {m : Int} (hV : Vld m G) (j : Nat) (hj : j < G.length) : 0 ≤ (G.getD j (0, 0)).1 ∧ 0 ≤ (G.getD j (0, 0)).2 := by
  have := hV.gates j hj; unfold GOk at this; omega
theorem cone_len (f : Nat → Int) : (coneG f n G ms (1 + n + G.length)).length ≤ G.length := by
  rw [coneG_length]; have := sel_le n ms (1 + n + G.length); omega
theorem mv_bound (k : Nat) (hk : kept n ms k) (h : k < 1 + n + G.length) : mv d n ms k < 1 + n + ((coneG (mv d n ms) n G ms (1 + n + G.length)).length : Int) := by
  rw [coneG_length]
  by_cases h1 : k ≤ n
  · rw [mv_in d n ms k h1]; omega
  · have hm := hk.resolve_left h1
    rw [mv_gate d n ms k (by omega) hm]
    have := sel_lt n ms k _ h (by omega) hm
    omega
theorem cone_valid (hV : Vld n G) (hN : Need n G L ms) : Vld n (coneG (mv d n ms) n G ms (1 + n + G.length)) := by
  have hsz := hV.size
  refine ⟨hV.lo, hV.hi, ?_, fun i hi => ?_⟩
  · have := @cone_len n G ms (mv d n ms); omega
  · obtain ⟨k, h1, h2, h3, h4, h5⟩ := coneG_inv (mv d n ms) i hi
    have hop := hN.opA hV k h1 h2 h3
    have hpos := hV.pos (k - 1 - n) (by omega)
    have hg := hV.gates (k - 1 - n) (by omega)
    unfold GOk at hg
    have ka := mv_lt d n ms (opA G (k - 1 - n)) (opB G (k - 1 - n)) (.inr hop.1) (.inr hop.2.1) hop.2.2.1
    have kb := mv_lt d n ms (opB G (k - 1 - n)) k (.inr hop.2.1) (.inr h3) hop.2.2.2.1
    have k0 : 1 ≤ mv d n ms (opA G (k - 1 - n)) := by
      have h0 := mv_lt d n ms 0 (opA G (k - 1 - n)) (.inl (by omega)) (.inr hop.1) (by omega)
      rw [mv_in d n ms 0 (by omega)] at h0; omega
    rw [mv_gate d n ms k h1 h3, h4] at kb
    unfold GOk
    rw [h5]
    have e1 : (mvG (mv d n ms) (G.getD (k - 1 - n) (0, 0))).1 = 2 * mv d n ms (opA G (k - 1 - n)) + (G.getD (k - 1 - n) (0, 0)).1 % 2 := rfl
    have e2 : (mvG (mv d n ms) (G.getD (k - 1 - n) (0, 0))).2 = 2 * mv d n ms (opB G (k - 1 - n)) + (G.getD (k - 1 - n) (0, 0)).2 % 2 := rfl
    rw [e1, e2]
    refine ⟨by omega, by omega, by omega, ?_, ?_⟩
    · unfold notI; split <;> omega
    · intro hmem
      obtain ⟨i', hi', he⟩ := mem_take_inv _ (0, 0) hmem
      obtain ⟨k', g1, g2, g3, g4, g5⟩ := coneG_inv (n := n) (G := G) (ms := ms) (mv d n ms) i' (by omega)
      have hop' := hN.opA hV k' g1 g2 g3
      have hpos' := hV.pos (k' - 1 - n) (by omega)
      rw [g5] at he
      have q1 := congrArg Prod.fst he
      have q2 := congrArg Prod.snd he
      have r1 := mvL_inj d n ms _ _ hpos'.1 hpos.1 (.inr hop'.1) (.inr hop.1) q1
      have r2 := mvL_inj d n ms _ _ hpos'.2 hpos.2 (.inr hop'.2.1) (.inr hop.2.1) q2
      have hkk : k' < k := by
        rcases Nat.lt_trichotomy k' k with c | c | c
        · exact c
        · subst c; omega
        · have := sel_lt n ms k k' c h1 h3; omega
      refine hg.2.2.2.2 ?_
      rw [show G.getD (k - 1 - n) (0, 0) = G.getD (k' - 1 - n) (0, 0) from Prod.ext r1.symm r2.symm]
      exact mem_take_getD G (0, 0) (by omega) (by omega)
theorem cone_lits (hN : Need n G L ms) (hK : LitOk (2 * (1 + n + G.length)) L) : LitOk (2 * (1 + n + ((coneG (mv d n ms) n G ms (1 + n + G.length)).length : Int))) (L.map (mvL (mv d n ms))) := by
  intro y hy
  obtain ⟨x, hx, rfl⟩ := List.mem_map.1 hy
  have h0 := hK x hx
  have hm := (hN.iff (x / 2).toNat (by omega)).2 (.inl ⟨x, hx, rfl⟩)
  have h1 := mv_bound (n := n) (ms := ms) (d := d) (G := G) (x / 2).toNat (.inr hm) (by omega)
  have h2 := mv_nonneg d n ms (x / 2).toNat (.inr hm)
  unfold mvL; omega

/-! values -/
theorem foldl_vals_ext (H : List (Int × Int)) : ∀ acc : List Bool, ∃ t, H.foldl (fun vs g => vs ++ [gateVal vs g]) acc = acc ++ t := by
  induction H with
  | nil => intro acc; exact ⟨[], by simp⟩
  | cons g H ih => intro acc; obtain ⟨t, ht⟩ := ih (acc ++ [gateVal acc g]); exact ⟨[gateVal acc g] ++ t, by rw [List.foldl_cons, ht, List.append_assoc]⟩
theorem valsF_take (input : List Bool) (k p : Nat) (hk : k ≤ G.length) (hp : p < 1 + input.length + k) : (valsF input G).getD p false = (valsF input (G.take k)).getD p false := by
  have hl : (valsF input (G.take k)).length = 1 + input.length + k := by rw [valsF_length]; simp; omega
  have : valsF input G = (G.drop k).foldl (fun vs g => vs ++ [gateVal vs g]) (valsF input (G.take k)) := by
    unfold valsF; rw [← List.foldl_append, List.take_append_drop]
  obtain ⟨t, ht⟩ := foldl_vals_ext (G.drop k) (valsF input (G.take k))
  rw [this, ht, List.getD_eq_getElem?_getD, List.getElem?_append_left (by omega), ← List.getD_eq_getElem?_getD]
theorem valsF_in (input : List Bool) (p : Nat) (hp : p ≤ input.length) : (valsF input G).getD p false = (false :: input).getD p false := by
  rw [valsF_take input 0 p (by omega) (by omega), List.take_zero]; rfl
theorem litVal_congr (vs vs' : List Bool) (x y : Int) (h : vs.getD (x / 2).toNat false = vs'.getD (y / 2).toNat false) (hm : x % 2 = y % 2) : litVal vs x = litVal vs' y := by
  unfold litVal; rw [h, hm]
theorem valsF_gate (input : List Bool) (j : Nat) (hj : j < G.length) (ha : opA G j < 1 + input.length + j) (hb : opB G j < 1 + input.length + j) :
    (valsF input G).getD (1 + input.length + j) false = gateVal (valsF input G) (G.getD j (0, 0)) := by
  rw [valsF_take input (j + 1) _ (by omega) (by omega), take_snoc G (0, 0) j hj, valsF_snoc]
  have hl : (valsF input (G.take j)).length = 1 + input.length + j := by rw [valsF_length]; simp; omega
  rw [List.getD_eq_getElem?_getD, List.getElem?_append_right (by omega), hl]
  simp only [Nat.sub_self, List.getElem?_cons_zero, Option.getD_some]
  unfold gateVal
  rw [litVal_congr (valsF input (G.take j)) (valsF input G) _ _ (valsF_take input j _ (by omega) ha).symm rfl, litVal_congr (valsF input (G.take j)) (valsF input G) _ _ (valsF_take input j _ (by omega) hb).symm rfl]
/-- a kept node has the value of the node where it goes -/
theorem cone_vals (hV : Vld n G) (hN : Need n G L ms) (input : List Bool) (hi : input.length = n) : ∀ k, k < 1 + n + G.length → kept n ms k →
    (valsF input (coneG (mv d n ms) n G ms (1 + n + G.length))).getD (mv d n ms k).toNat false = (valsF input G).getD k false := by
  intro k
  induction k using Nat.strongRecOn with
  | _ k ih =>
    intro hk hkept
    by_cases h1 : k ≤ n
    · rw [mv_in d n ms k h1, Int.toNat_natCast, valsF_in input k (by omega), valsF_in input k (by omega)]
    · have hm := hkept.resolve_left h1
      have hop := hN.opA hV k (by omega) hk hm
      have hg := coneG_at (n := n) (ms := ms) (G := G) (mv d n ms) k (by omega) hm hk
      have hl := sel_lt n ms k _ hk (by omega) hm
      have hpos := hV.pos (k - 1 - n) (by omega)
      have hka := mv_lt d n ms (opA G (k - 1 - n)) k (.inr hop.1) (.inr hm) (by omega)
      have hkb := mv_lt d n ms (opB G (k - 1 - n)) k (.inr hop.2.1) (.inr hm) (by omega)
      have hka0 := mv_nonneg d n ms (opA G (k - 1 - n)) (.inr hop.1)
      have hkb0 := mv_nonneg d n ms (opB G (k - 1 - n)) (.inr hop.2.1)
      have ia := ih (opA G (k - 1 - n)) (by omega) (by omega) (.inr hop.1)
      have ib := ih (opB G (k - 1 - n)) (by omega) (by omega) (.inr hop.2.1)
      rw [mv_gate d n ms k (by omega) hm] at hka hkb
      rw [mv_gate d n ms k (by omega) hm, Int.toNat_natCast, ← hi]
      have eA : opA (coneG (mv d n ms) n G ms (1 + n + G.length)) (sel n ms k).length = (mv d n ms (opA G (k - 1 - n))).toNat := by
        unfold Ytelbjendeldlcaa.opA; rw [hg]; unfold mvG; simp only; rw [mvL_div]
      have eB : opB (coneG (mv d n ms) n G ms (1 + n + G.length)) (sel n ms k).length = (mv d n ms (opB G (k - 1 - n))).toNat := by
        unfold opB; rw [hg]; unfold mvG; simp only; rw [mvL_div]
      rw [valsF_gate input _ (by rw [hi, coneG_length]; exact hl) (by rw [hi, eA]; omega) (by rw [hi, eB]; omega), hi, hg]
      have hk' : k = 1 + input.length + (k - 1 - n) := by omega
      rw [show (valsF input G).getD k false = (valsF input G).getD (1 + input.length + (k - 1 - n)) false from by rw [← hk'], valsF_gate input _ (by omega) (by omega) (by omega)]
      unfold gateVal mvG
      simp only
      rw [litVal_congr _ (valsF input G) _ (G.getD (k - 1 - n) (0, 0)).1 (by rw [mvL_div]; exact ia) (mvL_mod _ _), litVal_congr _ (valsF input G) _ (G.getD (k - 1 - n) (0, 0)).2 (by rw [mvL_div]; exact ib) (mvL_mod _ _)]
theorem cone_eval (hV : Vld n G) (hN : Need n G L ms) (hK : LitOk (2 * (1 + n + G.length)) L) (input : List Bool) (hi : input.length = n) :
    evalF input (coneG (mv d n ms) n G ms (1 + n + G.length)) (L.map (mvL (mv d n ms))) = evalF input G L := by
  unfold evalF
  rw [List.map_map]
  refine List.map_congr_left fun x hx => ?_
  have h0 := hK x hx
  have hm := (hN.iff (x / 2).toNat (by omega)).2 (.inl ⟨x, hx, rfl⟩)
  exact litVal_congr _ _ _ _ (by rw [mvL_div]; exact cone_vals hV hN input hi _ (by omega) (.inr hm)) (mvL_mod _ _)
/-- inputs that are not needed do not matter -/
theorem vals_supp (hV : Vld n G) (hN : Need n G L ms) (input mixed : List Bool) (hi : input.length = n) (hm : mixed.length = n) (hs : ∀ i, i < n → ms.getD (i + 1) false = true → mixed.getD i false = input.getD i false) :
    ∀ k, k < 1 + n + G.length → ms.getD k false = true → (valsF mixed G).getD k false = (valsF input G).getD k false := by
  intro k
  induction k using Nat.strongRecOn with
  | _ k ih =>
    intro hk hkm
    by_cases h1 : k ≤ n
    · rw [valsF_in _ k (by omega), valsF_in _ k (by omega)]
      cases k with
      | zero => rfl
      | succ i => rw [List.getD_cons_succ, List.getD_cons_succ]; exact hs i (by omega) hkm
    · have hop := hN.opA hV k (by omega) hk hkm
      have e1 : (valsF mixed G).getD k false = (valsF mixed G).getD (1 + mixed.length + (k - 1 - n)) false := by rw [show 1 + mixed.length + (k - 1 - n) = k from by omega]
      have e2 : (valsF input G).getD k false = (valsF input G).getD (1 + input.length + (k - 1 - n)) false := by rw [show 1 + input.length + (k - 1 - n) = k from by omega]
      rw [e1, e2, valsF_gate _ _ (by omega) (by omega) (by omega), valsF_gate _ _ (by omega) (by omega) (by omega)]
      have ia := ih (opA G (k - 1 - n)) (by omega) (by omega) hop.1
      have ib := ih (opB G (k - 1 - n)) (by omega) (by omega) hop.2.1
      unfold gateVal
      rw [litVal_congr _ (valsF input G) _ (G.getD (k - 1 - n) (0, 0)).1 ia rfl, litVal_congr _ (valsF input G) _ (G.getD (k - 1 - n) (0, 0)).2 ib rfl]
theorem eval_supp (hV : Vld n G) (hN : Need n G L ms) (hK : LitOk (2 * (1 + n + G.length)) L) (input mixed : List Bool) (hi : input.length = n) (hm : mixed.length = n) (hs : ∀ i, i < n → ms.getD (i + 1) false = true → mixed.getD i false = input.getD i false) :
    evalF mixed G L = evalF input G L := by
  unfold evalF
  refine List.map_congr_left fun x hx => ?_
  have h0 := hK x hx
  have hm' := (hN.iff (x / 2).toNat (by omega)).2 (.inl ⟨x, hx, rfl⟩)
  exact litVal_congr _ _ _ _ (vals_supp hV hN input mixed hi hm hs _ (by omega) hm') rfl

/-! the cone of the cone -/
theorem cone_need (hV : Vld n G) (hN : Need n G L ms) (hK : LitOk (2 * (1 + n + G.length)) L) {ms' : List Bool} (hN' : Need n (coneG (mv d n ms) n G ms (1 + n + G.length)) (L.map (mvL (mv d n ms))) ms') :
    ∀ q k, k < 1 + n + G.length → 1 + n + G.length - k ≤ q → ms.getD k false = true → ms'.getD (mv d n ms k).toNat false = true := by
  intro q
  induction q with
  | zero => intro k h1 h2; omega
  | succ q ih =>
    intro k h1 h2 hm
    have hb := mv_bound (n := n) (ms := ms) (d := d) (G := G) k (.inr hm) h1
    have h0 := mv_nonneg d n ms k (.inr hm)
    refine (hN'.iff _ (by omega)).2 ?_
    rcases (hN.iff k h1).1 hm with ⟨x, hx, hxk⟩ | ⟨i, hi, him, hik⟩
    · exact .inl ⟨mvL (mv d n ms) x, List.mem_map.2 ⟨x, hx, rfl⟩, by rw [mvL_div, hxk]⟩
    · have hop := hV.ops i hi
      have hk' := ih (1 + n + i) (by omega) (by rcases hik with h | h <;> omega) him
      rw [mv_gate d n ms (1 + n + i) (by omega) him, Int.toNat_natCast] at hk'
      have hg := coneG_at (n := n) (ms := ms) (G := G) (mv d n ms) (1 + n + i) (by omega) him (by omega)
      have hl := sel_lt n ms (1 + n + i) (1 + n + G.length) (by omega) (by omega) him
      have e : 1 + n + i - 1 - n = i := by omega
      rw [e] at hg
      refine .inr ⟨_, by rw [coneG_length]; exact hl, hk', ?_⟩
      unfold Ytelbjendeldlcaa.opA opB
      rw [hg]
      unfold mvG
      simp only
      rw [mvL_div, mvL_div]
      rcases hik with h | h
      · left; rw [← h]; rfl
      · right; rw [← h]; rfl
theorem sel_all (n : Nat) (ms : List Bool) (K : Nat) (h : ∀ k, n < k → k < K → ms.getD k false = true) : ∀ k, k ≤ K → (sel n ms k).length = k - 1 - n := by
  intro k
  induction k with
  | zero => intro _; simp [sel]
  | succ k ih =>
    intro hk
    rw [sel_snoc]
    have := ih (by omega)
    by_cases hn : n < k
    · rw [if_pos ⟨hn, h k hn (by omega)⟩, List.length_append, this]; simp; omega
    · rw [if_neg (fun hc => hn hc.1), this]; omega
theorem cone_idem {d' : Nat → Int} {H : List (Int × Int)} {M : List Int} {ms' : List Bool} (hV : Vld n H) (hK : LitOk (2 * (1 + n + H.length)) M) (h : ∀ k, n < k → k < 1 + n + H.length → ms'.getD k false = true) :
    coneG (mv d' n ms') n H ms' (1 + n + H.length) = H ∧ M.map (mvL (mv d' n ms')) = M := by
  have hmv : ∀ k, k < 1 + n + H.length → mv d' n ms' k = k := fun k hk => by
    by_cases h1 : k ≤ n
    · exact mv_in _ _ _ _ h1
    · rw [mv_gate _ _ _ _ (by omega) (h k (by omega) hk), sel_all n ms' _ h k (by omega)]; omega
  have hL : ∀ x : Int, 0 ≤ x → (x / 2).toNat < 1 + n + H.length → mvL (mv d' n ms') x = x := fun x h0 hx => by
    unfold mvL; rw [hmv _ hx]; omega
  have hlen := sel_all n ms' _ h _ (Nat.le_refl _)
  constructor
  · refine getD_ext (0, 0) (by rw [coneG_length, hlen]; omega) fun i hi => ?_
    obtain ⟨k, h1, h2, h3, h4, h5⟩ := coneG_inv (mv d' n ms') i hi
    rw [sel_all n ms' _ h k (by omega)] at h4
    rw [h5, h4]
    have hop := hV.ops i (by omega)
    have hpos := hV.pos i (by omega)
    unfold mvG
    rw [hL _ hpos.1 (by unfold Ytelbjendeldlcaa.opA opB at hop; omega), hL _ hpos.2 (by unfold Ytelbjendeldlcaa.opA opB at hop; omega)]
  · conv => rhs; rw [← List.map_id M]
    refine List.map_congr_left fun x hx => ?_
    have := hK x hx
    exact hL x this.1 (by omega)
theorem cone_cone {d' : Nat → Int} (hV : Vld n G) (hN : Need n G L ms) (hK : LitOk (2 * (1 + n + G.length)) L) {ms' : List Bool} (hN' : Need n (coneG (mv d n ms) n G ms (1 + n + G.length)) (L.map (mvL (mv d n ms))) ms') :
    coneG (mv d' n ms') n (coneG (mv d n ms) n G ms (1 + n + G.length)) ms' (1 + n + (coneG (mv d n ms) n G ms (1 + n + G.length)).length) = coneG (mv d n ms) n G ms (1 + n + G.length) ∧
    (L.map (mvL (mv d n ms))).map (mvL (mv d' n ms')) = L.map (mvL (mv d n ms)) := by
  refine cone_idem (cone_valid hV hN) (cone_lits hN hK) fun k h1 h2 => ?_
  obtain ⟨k0, g1, g2, g3, g4, _⟩ := coneG_inv (G := G) (n := n) (ms := ms) (mv d n ms) (k - 1 - n) (by omega)
  have := cone_need hV hN hK hN' _ k0 g2 (Nat.le_refl _) g3
  rw [mv_gate d n ms k0 g1 g3, Int.toNat_natCast, g4, show 1 + n + (k - 1 - n) = k from by omega] at this
  exact this
end
end Go.Proofs.Ytelbjendeldlcaa
