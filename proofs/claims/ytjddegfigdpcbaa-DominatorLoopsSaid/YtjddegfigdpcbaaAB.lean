/- Loops and control dependences, in plain words: what DominatorBodies asks of them. -/
import Derived.Test.YtjddegfigdpcbaaZ0
namespace Go.Proofs.Ytjddegfigdpcbaa
open Go.RowKit

theorem mem_edgesF {F : List (List Int)} {n b : Nat} {x : Int} : (b, x) ∈ edgesF F n ↔ b < n ∧ x ∈ F.getD b [] := by
  unfold edgesF
  rw [List.mem_flatMap]
  constructor
  · rintro ⟨b', hb', h⟩
    obtain ⟨y, hy, e⟩ := List.mem_map.1 h
    injection e with e1 e2
    subst e1; subst e2
    exact ⟨List.mem_range.1 hb', hy⟩
  · rintro ⟨hb, hx⟩
    exact ⟨b, List.mem_range.2 hb, List.mem_map.2 ⟨x, hx, rfl⟩⟩
theorem mem_srcL {F : List (List Int)} (hV : VldF F) {h : Nat} (hh : h < F.length) {x : Int} : x ∈ srcL F h ↔ ∃ b : Nat, x = b ∧ b < F.length ∧ (h : Int) ∈ F.getD b [] ∧ DomR F 0 h b := by
  unfold srcL srcE
  rw [List.mem_map]
  constructor
  · rintro ⟨⟨b, y⟩, he, rfl⟩
    obtain ⟨h1, h2⟩ := List.mem_filter.1 he
    obtain ⟨hb, hy⟩ := mem_edgesF.1 h1
    simp [okF] at h2
    obtain ⟨e, _, hr⟩ := h2
    subst e
    exact ⟨b, rfl, hb, hy, (relF_iff hV.ok hh hb).1 hr⟩
  · rintro ⟨b, rfl, hb, hy, hd⟩
    refine ⟨(b, (h : Int)), List.mem_filter.2 ⟨mem_edgesF.2 ⟨hb, hy⟩, ?_⟩, rfl⟩
    have h1 := (reachB_iff hV.ok (-1) [((0 : Nat) : Int)] b hb).2 hd.1
    have h2 := (relF_iff hV.ok hh hb).2 hd
    simp only [okF, h1, h2]; simp
theorem inB_iff {F : List (List Int)} (hV : VldF F) {h c : Nat} (hc : c < F.length) : inB F h c = true ↔ c = h ∨ (Rch (revF F) (h : Int) (srcL F h) c ∧ Rch F (-1) [((0 : Nat) : Int)] c) := by
  unfold inB
  have hr := revF_rev hV
  rw [Bool.or_eq_true, decide_eq_true_eq, Bool.and_eq_true, reachB_iff hr.ok _ _ _ (by rw [hr.len]; exact hc), reachB_iff hV.ok _ _ _ hc]
theorem mem_body {F : List (List Int)} {h : Nat} {x : Int} : x ∈ bodyP F h F.length ↔ ∃ c : Nat, x = c ∧ c < F.length ∧ inB F h c = true := by
  unfold bodyP
  rw [List.mem_map]
  constructor
  · rintro ⟨c, hc, rfl⟩
    obtain ⟨h1, h2⟩ := List.mem_filter.1 hc
    exact ⟨c, rfl, List.mem_range.1 h1, h2⟩
  · rintro ⟨c, rfl, hc, h2⟩
    exact ⟨c, List.mem_filter.2 ⟨List.mem_range.2 hc, h2⟩, rfl⟩
theorem edge_lt {F : List (List Int)} (hV : VldF F) {i : Nat} {x : Int} (hi : i < F.length) (hx : x ∈ F.getD i []) : 0 ≤ x ∧ x < F.length := by
  have := hV.ok i hi x hx; omega
/-- what stands in a body is dominated by the head -/
theorem body_dom {F : List (List Int)} (hV : VldF F) {h : Nat} (hh : h < F.length) {c : Nat} (hr : Rch (revF F) (h : Int) (srcL F h) c) : Rch F (-1) [((0 : Nat) : Int)] c → DomR F 0 h c := by
  have hrev := revF_rev hV
  induction hr with
  | @start i hi hw =>
    intro _
    obtain ⟨b, e, _, _, hd⟩ := (mem_srcL hV hh).1 hi
    have : i = b := by omega
    subst this; exact hd
  | @step i j k1 hi he hw ih =>
    intro hj
    rw [hrev.len] at hi
    obtain ⟨j', e, hjn, hij⟩ := (hrev.mem i hi _).1 he
    have : j' = j := by omega
    subst this
    have hri : Rch F (-1) [((0 : Nat) : Int)] i := .step hj hjn hij (by omega)
    have hdi := ih hri
    refine ⟨hj, fun hx => hdi.2 (.step hx hjn hij k1.ne)⟩
theorem loop_dom {F : List (List Int)} (hV : VldF F) {h : Nat} (hh : h < F.length) (hs : srcL F h ≠ []) {c : Nat} (hc : c < F.length) (hi : inB F h c = true) : DomR F 0 h c := by
  rcases (inB_iff hV hc).1 hi with rfl | ⟨h1, h2⟩
  · obtain ⟨x, hx⟩ := List.exists_mem_of_ne_nil _ hs
    obtain ⟨b, _, _, _, hd⟩ := (mem_srcL hV hh).1 hx
    exact .refl hd.reached
  · exact body_dom hV hh h1 h2
theorem src_in {F : List (List Int)} (hV : VldF F) {h b : Nat} (hh : h < F.length) (hb : (b : Int) ∈ srcL F h) : b < F.length ∧ inB F h b = true ∧ (h : Int) ∈ F.getD b [] := by
  obtain ⟨b', e, hbn, he, hd⟩ := (mem_srcL hV hh).1 hb
  have : b = b' := by omega
  subst this
  refine ⟨hbn, (inB_iff hV hbn).2 ?_, he⟩
  by_cases e2 : b = h
  · exact .inl e2
  · exact .inr ⟨.start hb (by omega), hd.1⟩
theorem self_in {F : List (List Int)} {h : Nat} : inB F h h = true := by simp [inB]
theorem Rch.mono {G : List (List Int)} {wo : Int} {L M : List Int} {j : Nat} (hm : ∀ x ∈ L, x ∈ M) (h : Rch G wo L j) : Rch G wo M j := by
  induction h with
  | start h1 h2 => exact .start (hm _ h1) h2
  | step _ hi he hw ih => exact .step ih hi he hw
/-- the last stay at a dominator -/
theorem leave_dom {F : List (List Int)} {h b : Nat} (hd : DomR F 0 h b) (hne : b ≠ h) : ∃ y : Nat, (y : Int) ∈ F.getD h [] ∧ h < F.length ∧ Rch F (h : Int) [(y : Int)] b := by
  have : ∀ x, Rch F (-1) [((0 : Nat) : Int)] x → Rch F (h : Int) [((0 : Nat) : Int)] x ∨ x = h ∨ ∃ y : Nat, (y : Int) ∈ F.getD h [] ∧ h < F.length ∧ Rch F (h : Int) [(y : Int)] x := fun x hx => by
    induction hx with
    | @start i hi hw =>
      by_cases e : i = h
      · exact .inr (.inl e)
      · exact .inl (.start hi (by omega))
    | @step i j k1 hi he hw ih =>
      by_cases e : j = h
      · exact .inr (.inl e)
      · rcases ih with ih | rfl | ⟨y, h1, h2, h3⟩
        · exact .inl (.step ih hi he (by omega))
        · exact .inr (.inr ⟨j, he, hi, .start' (by omega)⟩)
        · exact .inr (.inr ⟨y, h1, h2, .step h3 hi he (by omega)⟩)
  rcases this b hd.1 with k | k | k
  · exact absurd k hd.2
  · exact absurd k hne
  · exact k
/-- from each point of a body some way on stays within -/
theorem body_on {F : List (List Int)} (hV : VldF F) {h : Nat} (hh : h < F.length) (hs : srcL F h ≠ []) {c : Nat} (hc : c < F.length) (hi : inB F h c = true) : ∃ y : Nat, (y : Int) ∈ F.getD c [] ∧ y < F.length ∧ inB F h y = true := by
  have hrev := revF_rev hV
  rcases (inB_iff hV hc).1 hi with rfl | ⟨h1, h2⟩
  · obtain ⟨x, hx⟩ := List.exists_mem_of_ne_nil _ hs
    obtain ⟨b, e, hbn, he, hd⟩ := (mem_srcL hV hh).1 hx
    by_cases e2 : b = c
    · subst e2; exact ⟨b, he, hc, self_in⟩
    · obtain ⟨y, hy, _, hyb⟩ := leave_dom hd e2
      have hyl := edge_lt hV hc hy
      refine ⟨y, hy, by omega, (inB_iff hV (by omega)).2 (.inr ⟨?_, .step hd.reached hc hy (by omega)⟩)⟩
      have := hyb.turn (B := revF F) (fun i j hi hj => by
        have := edge_lt hV hi hj
        exact ⟨by rw [hrev.len]; omega, (hrev.mem j (by omega) _).2 ⟨i, rfl, hi, hj⟩⟩)
      exact this.mono fun z hz => by simp at hz; rw [hz, ← e]; exact hx
  · cases h1 with
    | start hm hw =>
      obtain ⟨b, e, hbn, he, hd⟩ := (mem_srcL hV hh).1 hm
      have : c = b := by omega
      subst this
      exact ⟨h, he, hh, self_in⟩
    | @step i j k1 hi2 he hw =>
      rw [hrev.len] at hi2
      obtain ⟨j', e, hjn, hij⟩ := (hrev.mem i hi2 _).1 he
      have : j' = c := by omega
      subst this
      exact ⟨i, hij, hi2, (inB_iff hV hi2).2 (.inr ⟨k1, .step h2 hjn hij (by omega)⟩)⟩
/-- a point on which another depends leads to two different points -/
theorem ctl_two {F : List (List Int)} (hV : VldF F) {a b : Nat} (ha : a < F.length) (hb : b < F.length) (hc : ctl (relF (revF F) 1) F b a = true) : ∃ x ∈ F.getD a [], x ≠ (F.getD a []).getD 0 0 := by
  have hrev := revF_rev hV
  refine Classical.byContradiction fun hn => ?_
  have hall : ∀ x ∈ F.getD a [], x = (F.getD a []).getD 0 0 := fun x hx => Classical.byContradiction fun k => hn ⟨x, hx, k⟩
  unfold ctl at hc
  rw [Bool.and_eq_true, Bool.not_eq_true', List.any_eq_true] at hc
  obtain ⟨hns, x, hx, hr⟩ := hc
  have hxl := edge_lt hV ha hx
  obtain ⟨s, rfl⟩ := Int.eq_ofNat_of_zero_le hxl.1
  have hsl : s < F.length := by omega
  rw [Int.toNat_natCast] at hr
  have hds := (relF_iff hrev.ok (by rw [hrev.len]; exact hb) (by rw [hrev.len]; exact hsl)).1 hr
  have hal : ∀ y ∈ F.getD a [], y = (s : Int) := fun y hy => (hall y hy).trans (hall _ hx).symm
  have ha1 : a ≠ 1 := fun e => by
    subst e
    have := hV.ex
    rw [List.length_eq_zero_iff] at this
    rw [this] at hx; cases hx
  have hae : (a : Int) ∈ (revF F).getD s [] := (hrev.mem s hsl _).2 ⟨a, rfl, ha, hx⟩
  have hra : Rch (revF F) (-1) [((1 : Nat) : Int)] a := .step hds.1 (by rw [hrev.len]; exact hsl) hae (by omega)
  have hin : ∀ i j : Nat, i < (revF F).length → (j : Int) ∈ (revF F).getD i [] → j = a → i = s := fun i j hi hj e => by
    subst e
    rw [hrev.len] at hi
    obtain ⟨j', e2, _, h3⟩ := (hrev.mem i hi _).1 hj
    have : j' = j := by omega
    subst this
    have := hal _ h3
    omega
  by_cases hab : a = b
  · subst hab
    have : ∀ y, Rch (revF F) (-1) [((1 : Nat) : Int)] y → Rch (revF F) (a : Int) [((1 : Nat) : Int)] y ∨ Rch (revF F) (a : Int) [((1 : Nat) : Int)] s := fun y hy => by
      induction hy with
      | @start i hi hw =>
        have : i = 1 := by simp at hi; omega
        subst this
        exact .inl (.start hi (by omega))
      | @step i j k1 hi he hw ih =>
        rcases ih with ih | ih
        · by_cases e : j = a
          · have := hin i j hi he e
            subst this; exact .inr ih
          · exact .inl (.step ih hi he (by omega))
        · exact .inr ih
    rcases this s hds.1 with k | k <;> exact hds.2 k
  · have hd : DomR (revF F) 1 b a := by
      refine ⟨hra, fun k => ?_⟩
      cases k with
      | start hi hw => exact ha1 (by simp at hi; omega)
      | @step i j k1 hi he hw =>
        have := hin i a hi he rfl
        subst this; exact hds.2 k1
    have := (relF_iff hrev.ok (by rw [hrev.len]; exact hb) (by rw [hrev.len]; exact ha)).2 hd
    rw [this] at hns
    simp at hns
    exact hab hns
end Go.Proofs.Ytjddegfigdpcbaa
