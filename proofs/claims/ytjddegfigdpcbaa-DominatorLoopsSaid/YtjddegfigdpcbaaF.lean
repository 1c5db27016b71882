/- forward; the lists of backward in memory. -/
import Derived.Test.YtjddegfigdpcbaaE
import Derived.Laws.EntriesVeiled
namespace Go.Proofs.Ytjddegfigdpcbaa
open Go.RowKit

def GivesGraph (w : World) (root nf : Nat) (G : List (List Int)) (e : Ending) (w' : World) : Prop := ∃ cb, e = .returned (gval G.length root nf cb) ∧ NextOk w' nf cb G ∧ Below w.heap.size w w'
theorem forward_at (pa : Option Addr) (pc : Nat) (F : List (List Int)) (w : World) :
    Calls Try.prog 42 #[.agg #[.slice pa F.length pc]] w fun e w' => ∃ cb, e = .returned (gval F.length 0 57 cb) ∧ BlkAt w' cb 24 [.slice pa F.length pc] ∧ Below w.heap.size w w' := by
  go_enter Try.func42, Try.ntmps42
  go_wp2_with fail
  refine bodyPost_ret (v := gval F.length 0 57 w.heap.size) (by simp [results, Try.results42, go_sem, gval, *]) rfl ?_
  refine ⟨w.heap.size, rfl, BlkAt.below (BlkAt.made w 24 [.slice pa F.length pc]) (below_alloc _ _), bthen (below_alloc _ _) (below_alloc _ _)⟩
theorem forward_any (pa : Option Addr) (pc : Nat) (F : List (List Int)) (w : World) (hF : FRow w pa F) (hl : F.length ≤ 1024) :
    Calls Try.prog 42 #[.agg #[.slice pa F.length pc]] w (GivesGraph w 0 57 F) :=
  (forward_at pa pc F w).mono fun _ _ ⟨cb, he, hc, hb⟩ => ⟨cb, he, fwd_next (pc := pc) (hF.below hb) (hc.cell 0 _ rfl) (by omega), hb⟩

/-! lists that are owned, one block each -/
def sval (vs : List (Option Addr × Nat)) (bs : List (List Int)) (k : Nat) : Value := .slice (vs.getD k (none, 0)).1 (bs.getD k []).length (vs.getD k (none, 0)).2
structure VSt (w : World) (B hb bb : Nat) (vs : List (Option Addr × Nat)) (bs : List (List Int)) : Prop where
  len : vs.length = bs.length
  box : BlkAt w hb 33 [.slice (some ⟨bb, 0, none⟩) bs.length bs.length]
  row : BlkAt w bb 29 ((List.range bs.length).map (sval vs bs))
  own : ∀ k, k < bs.length → w.ownsRow B 3 1 (sval vs bs k) (bs.getD k []).length (ints (bs.getD k []))
  apart : ∀ k k', k < bs.length → k' < bs.length → k ≠ k' → (sval vs bs k).ownBlock = none ∨ (sval vs bs k).ownBlock ≠ (sval vs bs k').ownBlock
section
variable {w : World} {B hb bb : Nat} {vs : List (Option Addr × Nat)} {bs : List (List Int)}
theorem VSt.below (h : VSt w B hb bb vs bs) {w' : World} (hb' : Below w.heap.size w w') : VSt w' B hb bb vs bs :=
  ⟨h.len, h.box.below hb', h.row.below hb', fun k hk => own_below (h.own k hk) hb', h.apart⟩
theorem VSt.cell (h : VSt w B hb bb vs bs) (k : Nat) (hk : k < bs.length) : w.cell? ⟨bb, k, none⟩ = some (sval vs bs k) := h.row.cell k _ (by simp [hk])
theorem sval_set (vs : List (Option Addr × Nat)) (bs : List (List Int)) (k : Nat) (hv : k < vs.length) (hk : k < bs.length) (A : Option Addr) (c : Nat) (L : List Int) :
    sval (vs.set k (A, c)) (bs.set k L) k = .slice A L.length c := by
  simp [sval, List.getD_eq_getElem?_getD, hv, hk]
theorem sval_other (vs : List (Option Addr × Nat)) (bs : List (List Int)) (k j : Nat) (hjk : k ≠ j) (A : Option Addr) (c : Nat) (L : List Int) :
    sval (vs.set k (A, c)) (bs.set k L) j = sval vs bs j := by
  simp [sval, List.getD_eq_getElem?_getD, List.getElem?_set, hjk]
theorem getD_set_other (bs : List (List Int)) (k j : Nat) (h : k ≠ j) (L : List Int) : (bs.set k L).getD j [] = bs.getD j [] := by simp [List.getD_eq_getElem?_getD, List.getElem?_set, h]
theorem getD_set_same (bs : List (List Int)) (k : Nat) (h : k < bs.length) (L : List Int) : (bs.set k L).getD k [] = L := by simp [List.getD_eq_getElem?_getD, h]
/-- a number is put behind list k -/
theorem VSt.push (h : VSt w B hb bb vs bs) (k : Nat) (hk : k < bs.length) {w4 : World} {A4 : Option Addr} {c4 : Nat} {x : Int}
    (hown : w4.ownsRow B 3 1 (.slice A4 ((bs.getD k []).length + 1) c4) ((bs.getD k []).length + 1) (ints (bs.getD k []) ++ [.int .i64 x])) (hg : w.grownBy w4 (sval vs bs k).ownBlock)
    (hat : (Value.slice A4 ((bs.getD k []).length + 1) c4).ownBlock = (sval vs bs k).ownBlock ∨ (Value.slice A4 ((bs.getD k []).length + 1) c4).ownBlock = some w.heap.size) :
    VSt (w4.setCell ⟨bb, k, none⟩ (.slice A4 ((bs.getD k []).length + 1) c4)) B hb bb (vs.set k (A4, c4)) (bs.set k (bs.getD k [] ++ [x])) := by
  have hkv : k < vs.length := by rw [h.len]; exact hk
  have hl : (bs.getD k [] ++ [x]).length = (bs.getD k []).length + 1 := by simp
  have row4 := h.row.grown hg (BlkAt.ne_own h.row (h.own k hk) (by decide))
  have box4 := h.box.grown hg (BlkAt.ne_own h.box (h.own k hk) (by decide))
  refine ⟨by simp [h.len], ?_, ?_, fun j hj => ?_, fun i j hi hj hij => ?_⟩
  · rw [List.length_set]; exact box4.far (box4.ne row4 (by decide)) _ _
  · have := row4.set k (.slice A4 ((bs.getD k []).length + 1) c4)
    rw [List.length_set]
    refine Eq.trans this ?_
    congr 2
    refine congrArg List.toArray (List.ext_getElem? fun i => ?_)
    rw [List.getElem?_set, List.getElem?_map]
    by_cases hki : k = i
    · subst hki
      simp [hk, sval_set vs bs k hkv hk A4 c4]
    · rw [if_neg hki, List.getElem?_map]
      by_cases hi : i < bs.length
      · simp [hi, sval_other vs bs k i hki]
      · simp [hi]
  · rw [List.length_set] at hj
    by_cases hkj : k = j
    · subst hkj
      rw [sval_set vs bs k hkv hk, getD_set_same bs k hk, hl, show ints (bs.getD k [] ++ [x]) = ints (bs.getD k []) ++ [.int .i64 x] from by simp [ints]]
      exact own_setCell hown (BlkAt.ne_own row4 hown (by decide))
    · rw [sval_other vs bs k j hkj, getD_set_other bs k j hkj]
      have h4 := (h.own j hj).kept hg (h.apart j k hj hk (Ne.symm hkj))
      exact own_setCell h4 (BlkAt.ne_own row4 h4 (by decide))
  · rw [List.length_set] at hi hj
    have hlt : ∀ m, m < bs.length → ∀ q, (sval vs bs m).ownBlock = some q → q < w.heap.size := fun m hm q hq => ((h.own m hm).lt q hq).2
    by_cases hki : k = i
    · subst hki
      rw [sval_set vs bs k hkv hk, sval_other vs bs k j hij, hl]
      rcases hat with hat | hat
      · rw [hat]; exact h.apart k j hi hj hij
      · right; rw [hat]; intro e; have := hlt j hj _ e.symm; omega
    · rw [sval_other vs bs k i hki]
      by_cases hkj : k = j
      · subst hkj
        rw [sval_set vs bs k hkv hk, hl]
        rcases hat with hat | hat
        · rw [hat]; exact h.apart i k hi hj hij
        · rw [hat]
          cases ho : (sval vs bs i).ownBlock with
          | none => left; rfl
          | some q => right; intro e; injection e with e; have := hlt i hi q ho; omega
      · rw [sval_other vs bs k j hkj]; exact h.apart i j hi hj hij
theorem VSt.lrow (h : VSt w B hb bb vs bs) : LRow w (some ⟨bb, 0, none⟩) bs := fun i hi => by
  refine ⟨bb, 0, (vs.getD i (none, 0)).1, (vs.getD i (none, 0)).2, rfl, ?_, Row.of_own (h.own i hi)⟩
  rw [Nat.zero_add]; exact h.cell i hi
end
end Go.Proofs.Ytjddegfigdpcbaa
