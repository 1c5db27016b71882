/- ref Loops, plain: sources by edges, the inside of a loop by ways to its sources. -/
import Derived.Test.YtjddegfigdpcbaaAU
import Derived.Test.YtjddegfigdpcbaaAB
namespace Go.Proofs.Ytjddegfigdpcbaa
open Go.RowKit

theorem Rch.split {G : List (List Int)} {wo : Int} {L : List Int} {j : Nat} (h : Rch G wo L j) : ∃ x : Nat, (x : Int) ∈ L ∧ Rch G wo [(x : Int)] j := by
  induction h with
  | @start j h1 h2 => exact ⟨j, h1, .start (by simp) h2⟩
  | step h1 h2 h3 h4 ih =>
    obtain ⟨x, hx, hr⟩ := ih
    exact ⟨x, hx, .step hr h2 h3 h4⟩
theorem turnR {F : List (List Int)} (hV : VldF F) (wo : Int) {s t : Nat} : Rch F wo [(s : Int)] t ↔ Rch (revF F) wo [(t : Int)] s := by
  have hr := revF_rev hV
  constructor
  · intro h
    refine Rch.turn (fun i j hi hj => ?_) h
    have hjl := (edge_lt hV hi hj).2
    have hjn : j < F.length := by omega
    exact ⟨by rw [hr.len]; exact hjn, (revF_mem F j hjn _).2 ⟨i, rfl, hi, hj⟩⟩
  · intro h
    refine Rch.turn (fun i j hi hj => ?_) h
    rw [hr.len] at hi
    obtain ⟨k, hk, hkn, hki⟩ := (revF_mem F i hi _).1 hj
    have : j = k := by omega
    subst this
    exact ⟨hkn, hki⟩
def SB (F : List (List Int)) (h b k : Nat) : List Int := srcE (okF F) (edgesP F b k) h
theorem SB_zero (F : List (List Int)) (h : Nat) : SB F h 0 0 = [] := by
  unfold SB; rw [edgesP_zero]; rfl
theorem SB_full (F : List (List Int)) (h b : Nat) : SB F h b (F.getD b []).length = SB F h (b + 1) 0 := by unfold SB; rw [edgesP_full]
theorem SB_done (F : List (List Int)) (h : Nat) : SB F h F.length 0 = srcL F h := by unfold SB srcL; rw [edgesP_zero]
theorem SB_next (F : List (List Int)) (h b k p : Nat) (hk : k < (F.getD b []).length) (hp : (F.getD b []).getD k 0 = (p : Int)) : SB F h b (k + 1) = if h = p ∧ okF F b h = true then SB F h b k ++ [(b : Int)] else SB F h b k := by
  unfold SB
  rw [edgesP_next F b k hk, hp, srcE_snoc]
  by_cases e : h = p
  · subst e; rfl
  · rw [if_neg (fun c => e c.1), if_neg (fun c => e c.1)]
theorem okF_eq {F : List (List Int)} (hV : VldF F) {h b : Nat} (hh : h < F.length) (hb : b < F.length) : okF F b h = relF F 0 h b := by
  unfold okF
  cases hr : relF F 0 h b with
  | false => simp
  | true =>
    have := ((relF_iff hV.ok hh hb).1 hr).1
    rw [(reachB_iff hV.ok _ _ b hb).2 this]; rfl
theorem SB_lt {F : List (List Int)} {h b k : Nat} {x : Int} (hx : x ∈ SB F h b k) (hb : b < F.length) : 0 ≤ x ∧ x < (F.length : Int) := by
  unfold SB srcE edgesP at hx
  obtain ⟨e, he, rfl⟩ := List.mem_map.1 hx
  have he := (List.mem_filter.1 he).1
  rcases List.mem_append.1 he with he | he
  · have := edgesF_src F b e he; omega
  · obtain ⟨y, _, rfl⟩ := List.mem_map.1 he
    dsimp only
    omega
def insF (F : List (List Int)) (h : Nat) (S : List Int) (c : Nat) : Bool := (reachB F (-1) [((0 : Nat) : Int)]).getD c false && S.any fun b => (reachB F (h : Int) [(c : Int)]).getD b.toNat false
def insL (F : List (List Int)) (n h : Nat) (S : List Int) : List Bool := (List.range n).map (insF F h S)
theorem insL_len (F : List (List Int)) (n h : Nat) (S : List Int) : (insL F n h S).length = n := by simp [insL]
theorem insL_nil (F : List (List Int)) (n h : Nat) : insL F n h [] = List.replicate n false := List.eq_replicate_iff.2 ⟨by simp [insL], fun x hx => by
  obtain ⟨c, _, rfl⟩ := List.mem_map.1 hx
  simp [insF]⟩
theorem insF_snoc (F : List (List Int)) (h : Nat) (S : List Int) (b c : Nat) : insF F h (S ++ [(b : Int)]) c = (insF F h S c || ((reachB F (-1) [((0 : Nat) : Int)]).getD c false && (reachB F (h : Int) [(c : Int)]).getD b false)) := by
  unfold insF
  rw [List.any_append]
  simp [Bool.and_or_distrib_left]
def mixL (F : List (List Int)) (n h : Nat) (S : List Int) (b k : Nat) : List Bool := (List.range n).map fun c => if c < k then insF F h (S ++ [(b : Int)]) c else insF F h S c
theorem mixL_len (F : List (List Int)) (n h : Nat) (S : List Int) (b k : Nat) : (mixL F n h S b k).length = n := by simp [mixL]
theorem mixL_zero (F : List (List Int)) (n h : Nat) (S : List Int) (b : Nat) : mixL F n h S b 0 = insL F n h S := List.map_congr_left fun c _ => by rw [if_neg (by omega)]
theorem mixL_full (F : List (List Int)) (n h : Nat) (S : List Int) (b : Nat) : mixL F n h S b n = insL F n h (S ++ [(b : Int)]) := List.map_congr_left fun c hc => by rw [if_pos (List.mem_range.1 hc)]
theorem mixL_next (F : List (List Int)) (n h : Nat) (S : List Int) (b k : Nat) (hk : k < n) :
    mixL F n h S b (k + 1) = if ((reachB F (-1) [((0 : Nat) : Int)]).getD k false && (reachB F (h : Int) [(k : Int)]).getD b false) = true then (mixL F n h S b k).set k true else mixL F n h S b k := by
  refine List.ext_getElem? fun i => ?_
  by_cases hin : i < n
  · by_cases hik : i = k
    · subst hik
      have e : insF F h (S ++ [(b : Int)]) i = (insF F h S i || ((reachB F (-1) [((0 : Nat) : Int)]).getD i false && (reachB F (h : Int) [(i : Int)]).getD b false)) := insF_snoc F h S b i
      cases hc : ((reachB F (-1) [((0 : Nat) : Int)]).getD i false && (reachB F (h : Int) [(i : Int)]).getD b false) with
      | true =>
        rw [hc] at e
        rw [if_pos rfl, List.getElem?_set]
        simp [mixL, hin, e]
      | false =>
        rw [hc] at e
        rw [if_neg (by simp)]
        simp [mixL, hin, e]
    · have e : (mixL F n h S b (k + 1))[i]? = (mixL F n h S b k)[i]? := by
        unfold mixL
        rw [List.getElem?_map, List.getElem?_map, List.getElem?_range hin]
        simp only [Option.map_some]
        by_cases h1 : i < k
        · rw [if_pos (by omega), if_pos h1]
        · rw [if_neg (by omega), if_neg h1]
      rw [e]
      split
      · rw [List.getElem?_set, if_neg (fun c => hik c.symm)]
      · rfl
  · rw [List.getElem?_eq_none (by rw [mixL_len]; omega)]
    split
    · rw [List.getElem?_eq_none (by rw [List.length_set, mixL_len]; omega)]
    · rw [List.getElem?_eq_none (by rw [mixL_len]; omega)]
theorem inB_ins {F : List (List Int)} (hV : VldF F) {h c : Nat} (hh : h < F.length) (hc : c < F.length) : inB F h c = (insF F h (srcL F h) c || decide (c = h)) := by
  rw [Bool.eq_iff_iff, inB_iff hV hc, Bool.or_eq_true, decide_eq_true_iff, Or.comm]
  refine or_congr ?_ Iff.rfl
  unfold insF
  rw [Bool.and_eq_true, reachB_iff hV.ok _ _ c hc, List.any_eq_true, and_comm]
  refine and_congr_right fun hr => ?_
  constructor
  · intro h1
    obtain ⟨x, hx, h2⟩ := h1.split
    obtain ⟨b, hb, hbl, _⟩ := (mem_srcL hV hh).1 hx
    have hxb : x = b := by omega
    subst hxb
    exact ⟨(x : Int), hx, by rw [Int.toNat_natCast]; exact (reachB_iff hV.ok _ _ x hbl).2 ((turnR hV _).2 h2)⟩
  · rintro ⟨x, hx, h2⟩
    obtain ⟨b, rfl, hbl, _⟩ := (mem_srcL hV hh).1 hx
    rw [Int.toNat_natCast] at h2
    exact Rch.mono (fun y hy => by rw [List.mem_singleton.1 hy]; exact hx) ((turnR hV _).1 ((reachB_iff hV.ok _ _ b hbl).1 h2))
end Go.Proofs.Ytjddegfigdpcbaa
