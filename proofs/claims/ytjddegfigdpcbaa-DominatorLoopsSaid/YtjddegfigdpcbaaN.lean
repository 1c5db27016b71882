/- Lists of numbers that are owned, one block each: in a row of slices, in a map. -/
import Derived.Test.YtjddegfigdpcbaaL
namespace Go.Proofs.Ytjddegfigdpcbaa
open Go.RowKit

/-- each list owns its block -/
structure OwnL (w : World) (B : Nat) (vs : List (Option Addr × Nat)) (bs : List (List Int)) : Prop where
  len : vs.length = bs.length
  own : ∀ k, k < bs.length → w.ownsRow B 3 1 (sval vs bs k) (bs.getD k []).length (ints (bs.getD k []))
  apart : ∀ k k', k < bs.length → k' < bs.length → k ≠ k' → (sval vs bs k).ownBlock = none ∨ (sval vs bs k).ownBlock ≠ (sval vs bs k').ownBlock
section
variable {w : World} {B : Nat} {vs : List (Option Addr × Nat)} {bs : List (List Int)}
theorem OwnL.below (h : OwnL w B vs bs) {w' : World} (hb' : Below w.heap.size w w') : OwnL w' B vs bs := ⟨h.len, fun k hk => own_below (h.own k hk) hb', h.apart⟩
theorem OwnL.push (h : OwnL w B vs bs) (k : Nat) (hk : k < bs.length) {w4 : World} {A4 : Option Addr} {c4 : Nat} {x : Int}
    (hown : w4.ownsRow B 3 1 (.slice A4 ((bs.getD k []).length + 1) c4) ((bs.getD k []).length + 1) (ints (bs.getD k []) ++ [.int .i64 x])) (hg : w.grownBy w4 (sval vs bs k).ownBlock)
    (hat : (Value.slice A4 ((bs.getD k []).length + 1) c4).ownBlock = (sval vs bs k).ownBlock ∨ (Value.slice A4 ((bs.getD k []).length + 1) c4).ownBlock = some w.heap.size) :
    OwnL w4 B (vs.set k (A4, c4)) (bs.set k (bs.getD k [] ++ [x])) := by
  have hkv : k < vs.length := by rw [h.len]; exact hk
  have hl : (bs.getD k [] ++ [x]).length = (bs.getD k []).length + 1 := by simp
  refine ⟨by simp [h.len], fun j hj => ?_, fun i j hi hj hij => ?_⟩
  · rw [List.length_set] at hj
    by_cases hkj : k = j
    · subst hkj
      rw [sval_set vs bs k hkv hk, getD_set_same bs k hk, hl, show ints (bs.getD k [] ++ [x]) = ints (bs.getD k []) ++ [.int .i64 x] from by simp [ints]]
      exact hown
    · rw [sval_other vs bs k j hkj, getD_set_other bs k j hkj]
      exact (h.own j hj).kept hg (h.apart j k hj hk (Ne.symm hkj))
  · rw [List.length_set] at hi hj
    have hlt : ∀ m, m < bs.length → ∀ q, (sval vs bs m).ownBlock = some q → q < w.heap.size := fun m hm q hq => ((h.own m hm).lt q hq).2
    by_cases hki : k = i
    · subst hki
      rw [sval_set vs bs k hkv hk, sval_other vs bs k j hij, hl]
      rcases hat with hat | hat
      · rw [hat]; exact h.apart k j hi hj hij
      · right; rw [hat]; intro e; have := hlt j hj _ e.symm; omega
    · rw [sval_other vs bs k i hki]
      by_cases hkj : k = j
      · subst hkj
        rw [sval_set vs bs k hkv hk, hl]
        rcases hat with hat | hat
        · rw [hat]; exact h.apart i k hi hj hij
        · rw [hat]
          cases ho : (sval vs bs i).ownBlock with
          | none => left; rfl
          | some q => right; intro e; injection e with e; have := hlt i hi q ho; omega
      · rw [sval_other vs bs k j hkj]; exact h.apart i j hi hj hij
theorem OwnL.setCell (h : OwnL w B vs bs) {b j : Nat} {v : Value} (hne : ∀ k, k < bs.length → some b ≠ (sval vs bs k).ownBlock) : OwnL (w.setCell ⟨b, j, none⟩ v) B vs bs :=
  ⟨h.len, fun k hk => own_setCell (h.own k hk) (hne k hk), h.apart⟩
theorem OwnL.ne_blk (h : OwnL w B vs bs) {b : Nat} {t : TypeId} {cs : List Value} (hb : BlkAt w b t cs) (ht : t ≠ 3) (k : Nat) (hk : k < bs.length) : some b ≠ (sval vs bs k).ownBlock := BlkAt.ne_own hb (h.own k hk) ht
/-- which blocks the lists do not lie in, after one has grown -/
theorem OwnL.shun (h : OwnL w B vs bs) (k : Nat) (hk : k < bs.length) {A4 : Option Addr} {c4 : Nat} {x : Int} {q : Nat} (hq : q < w.heap.size)
    (hat : (Value.slice A4 ((bs.getD k []).length + 1) c4).ownBlock = (sval vs bs k).ownBlock ∨ (Value.slice A4 ((bs.getD k []).length + 1) c4).ownBlock = some w.heap.size)
    (hs : ∀ j, j < bs.length → (sval vs bs j).ownBlock ≠ some q) : ∀ j, j < (bs.set k (bs.getD k [] ++ [x])).length → (sval (vs.set k (A4, c4)) (bs.set k (bs.getD k [] ++ [x])) j).ownBlock ≠ some q := by
  intro j hj
  rw [List.length_set] at hj
  have hkv : k < vs.length := by rw [h.len]; exact hk
  by_cases hkj : k = j
  · subst hkj
    rw [sval_set vs bs k hkv hk, show (bs.getD k [] ++ [x]).length = (bs.getD k []).length + 1 from by simp]
    rcases hat with hat | hat
    · rw [hat]; exact hs k hk
    · rw [hat]; intro e; injection e with e; omega
  · rw [sval_other vs bs k j hkj]; exact hs j hj
theorem OwnL.init (w : World) (B n : Nat) : OwnL w B (List.replicate n (none, 0)) (List.replicate n []) := by
  have e : ∀ k, sval (List.replicate n (none, 0)) (List.replicate n []) k = .slice none 0 0 := fun k => by
    unfold sval
    rw [List.getD_eq_getElem?_getD, List.getElem?_replicate, List.getD_eq_getElem?_getD, List.getElem?_replicate]
    split <;> rfl
  have er : ∀ k, (List.replicate n ([] : List Int)).getD k [] = [] := fun k => by rw [List.getD_eq_getElem?_getD, List.getElem?_replicate]; split <;> rfl
  exact ⟨by simp, fun k _ => by rw [e, er]; exact World.ownsRow_nil _ _ _ _, fun k _ _ _ _ => by rw [e]; exact .inl rfl⟩
end
/-- a row of slices -/
structure VS2 (w : World) (B bb : Nat) (vs : List (Option Addr × Nat)) (bs : List (List Int)) : Prop where
  row : BlkAt w bb 29 ((List.range bs.length).map (sval vs bs))
  own : OwnL w B vs bs
section
variable {w : World} {B bb : Nat} {vs : List (Option Addr × Nat)} {bs : List (List Int)}
theorem VS2.below (h : VS2 w B bb vs bs) {w' : World} (hb' : Below w.heap.size w w') : VS2 w' B bb vs bs := ⟨h.row.below hb', h.own.below hb'⟩
theorem VS2.cell (h : VS2 w B bb vs bs) (k : Nat) (hk : k < bs.length) : w.cell? ⟨bb, k, none⟩ = some (sval vs bs k) := h.row.cell k _ (by simp [hk])
theorem VS2.push (h : VS2 w B bb vs bs) (k : Nat) (hk : k < bs.length) {w4 : World} {A4 : Option Addr} {c4 : Nat} {x : Int}
    (hown : w4.ownsRow B 3 1 (.slice A4 ((bs.getD k []).length + 1) c4) ((bs.getD k []).length + 1) (ints (bs.getD k []) ++ [.int .i64 x])) (hg : w.grownBy w4 (sval vs bs k).ownBlock)
    (hat : (Value.slice A4 ((bs.getD k []).length + 1) c4).ownBlock = (sval vs bs k).ownBlock ∨ (Value.slice A4 ((bs.getD k []).length + 1) c4).ownBlock = some w.heap.size) :
    VS2 (w4.setCell ⟨bb, k, none⟩ (.slice A4 ((bs.getD k []).length + 1) c4)) B bb (vs.set k (A4, c4)) (bs.set k (bs.getD k [] ++ [x])) := by
  have hkv : k < vs.length := by rw [h.own.len]; exact hk
  have hl : (bs.getD k [] ++ [x]).length = (bs.getD k []).length + 1 := by simp
  have row4 := h.row.grown hg (h.own.ne_blk h.row (by decide) k hk)
  have o4 := h.own.push k hk hown hg hat
  refine ⟨?_, o4.setCell (fun j hj => o4.ne_blk row4 (by decide) j hj)⟩
  have := row4.set k (.slice A4 ((bs.getD k []).length + 1) c4)
  rw [List.length_set]
  refine Eq.trans this ?_
  congr 2
  refine congrArg List.toArray (List.ext_getElem? fun i => ?_)
  rw [List.getElem?_set, List.getElem?_map]
  by_cases hki : k = i
  · subst hki
    simp [hk, sval_set vs bs k hkv hk A4 c4]
  · rw [if_neg hki, List.getElem?_map]
    by_cases hi : i < bs.length
    · simp [hi, sval_other vs bs k i hki]
    · simp [hi]
theorem VS2.init (w : World) (B bb n : Nat) (h2 : BlkAt w bb 29 (List.replicate n (Value.slice none 0 0))) : VS2 w B bb (List.replicate n (none, 0)) (List.replicate n []) := by
  have e : ∀ k, sval (List.replicate n (none, 0)) (List.replicate n []) k = .slice none 0 0 := fun k => by
    unfold sval
    rw [List.getD_eq_getElem?_getD, List.getElem?_replicate, List.getD_eq_getElem?_getD, List.getElem?_replicate]
    split <;> rfl
  refine ⟨?_, OwnL.init w B n⟩
  rw [List.length_replicate]
  have : (List.range n).map (sval (List.replicate n (none, 0)) (List.replicate n [])) = List.replicate n (Value.slice none 0 0) :=
    List.eq_replicate_iff.2 ⟨by simp, fun b hb => by obtain ⟨k, _, rfl⟩ := List.mem_map.1 hb; exact e k⟩
  rw [this]; exact h2
theorem VS2.lrow (h : VS2 w B bb vs bs) : LRow w (some ⟨bb, 0, none⟩) bs := fun i hi => by
  refine ⟨bb, 0, (vs.getD i (none, 0)).1, (vs.getD i (none, 0)).2, rfl, ?_, Row.of_own (h.own.own i hi)⟩
  rw [Nat.zero_add]; exact h.cell i hi
end
end Go.Proofs.Ytjddegfigdpcbaa
