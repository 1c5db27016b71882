/- Lists of lists that are made one after another: the outer row and each inner row are owned. -/
import Derived.Test.YtjddegfigdpcbaaQ0
namespace Go.Proofs.Ytjddegfigdpcbaa
open Go.RowKit

/-- a slice of slices of cells -/
def RRow (w : World) (A : Option Addr) (Ls : List (List Value)) : Prop :=
  ∀ i, i < Ls.length → ∃ sb so C c, A = some ⟨sb, so, none⟩ ∧ w.cell? ⟨sb, so + i, none⟩ = some (.slice C (Ls.getD i []).length c) ∧ Row w C (Ls.getD i [])
theorem RRow.below {w w' : World} {A : Option Addr} {Ls : List (List Value)} (hb : Below w.heap.size w w') (h : RRow w A Ls) : RRow w' A Ls := fun i hi => by
  obtain ⟨sb, so, B, c, e, h0, h1⟩ := h i hi
  exact ⟨sb, so, B, c, e, below_cell hb h0, h1.below hb⟩
theorem RRow.lrow {w : World} {A : Option Addr} {Ls : List (List Int)} (h : RRow w A (Ls.map ints)) : LRow w A Ls := fun i hi => by
  obtain ⟨sb, so, B, c, e, h0, h1⟩ := h i (by simpa using hi)
  have e1 : (Ls.map ints).getD i [] = ints (Ls.getD i []) := by
    rw [List.getD_eq_getElem?_getD, List.getElem?_map, List.getD_eq_getElem?_getD, List.getElem?_eq_getElem hi]; rfl
  rw [e1] at h0 h1
  rw [ints_length] at h0
  exact ⟨sb, so, B, c, e, h0, h1⟩
def rval (Ls : List (List Value)) (vs : List (Option Addr × Nat)) (k : Nat) : Value := .slice (vs.getD k (none, 0)).1 (Ls.getD k []).length (vs.getD k (none, 0)).2
def rcells (Ls : List (List Value)) (vs : List (Option Addr × Nat)) : List Value := (List.range Ls.length).map (rval Ls vs)
structure RowsSt (w : World) (B : Nat) (e1 e2 : TypeId) (A : Option Addr) (c : Nat) (Ls : List (List Value)) (vs : List (Option Addr × Nat)) : Prop where
  len : vs.length = Ls.length
  row : w.ownsRow B e2 1 (.slice A Ls.length c) Ls.length (rcells Ls vs)
  own : ∀ k, k < Ls.length → w.ownsRow B e1 1 (rval Ls vs k) (Ls.getD k []).length (Ls.getD k [])
theorem RowsSt.lit (w : World) (B : Nat) (e1 e2 : TypeId) (hb : B ≤ w.heap.size) : RowsSt (w.alloc (.cells #[] e2)) B e1 e2 (some ⟨w.heap.size, 0, none⟩) 0 [] [] :=
  ⟨rfl, World.ownsRow_lit w #[] 0 hb (by unfold maxLen; omega) rfl, fun k hk => by simp at hk⟩
section
variable {w : World} {B c : Nat} {e1 e2 : TypeId} {A : Option Addr} {Ls : List (List Value)} {vs : List (Option Addr × Nat)}
theorem RowsSt.below (h : RowsSt w B e1 e2 A c Ls vs) {w' : World} (hb : Below w.heap.size w w') : RowsSt w' B e1 e2 A c Ls vs := ⟨h.len, own_below h.row hb, fun k hk => own_below (h.own k hk) hb⟩
theorem RowsSt.kept (h : RowsSt w B e1 e2 A c Ls vs) {w' : World} {B' n' : Nat} {e' : TypeId} {s' : Nat} {v' : Value} {xs' : List Value} (ho : w.ownsRow B' e' s' v' n' xs') (h1 : e1 ≠ e') (h2 : e2 ≠ e') (hg : w.grownBy w' v'.ownBlock) : RowsSt w' B e1 e2 A c Ls vs :=
  ⟨h.len, h.row.kept hg (own_ne_own h.row ho h2), fun k hk => (h.own k hk).kept hg (own_ne_own (h.own k hk) ho h1)⟩
theorem RowsSt.rrow (h : RowsSt w B e1 e2 A c Ls vs) : RRow w A Ls := fun i hi => by
  obtain ⟨g, cap, hv, _, _⟩ := h.row.form (by omega)
  injection hv with h1 _ h3
  subst h1
  have e0 := h.row.cellAt i (by omega)
  unfold rcells at e0
  rw [List.getElem?_map, List.getElem?_range hi] at e0
  exact ⟨g, 0, (vs.getD i (none, 0)).1, (vs.getD i (none, 0)).2, rfl, by rw [Nat.zero_add]; exact e0, Row.of_own (h.own i hi)⟩
theorem RowsSt.push (h : RowsSt w B e1 e2 A c Ls vs) (hne : e1 ≠ e2) {w4 : World} {A4 Ab : Option Addr} {c4 cb n : Nat} {body : List Value} (hn : n = body.length)
    (hown : w4.ownsRow B e2 1 (.slice A4 (Ls.length + 1) c4) (Ls.length + 1) (rcells Ls vs ++ [.slice Ab n cb])) (hg : w.grownBy w4 (Value.slice A Ls.length c).ownBlock)
    (hb : w.ownsRow B e1 1 (.slice Ab n cb) n body) : RowsSt w4 B e1 e2 A4 c4 (Ls ++ [body]) (vs ++ [(Ab, cb)]) := by
  subst hn
  have hl := h.len
  have hold : ∀ k, k < Ls.length → rval (Ls ++ [body]) (vs ++ [(Ab, cb)]) k = rval Ls vs k := fun k hk => by unfold rval; rw [getD_append_old _ _ _ _ hk, getD_append_old _ _ _ _ (by omega)]
  have hnew : rval (Ls ++ [body]) (vs ++ [(Ab, cb)]) Ls.length = .slice Ab body.length cb := by
    unfold rval; rw [getD_append_new]
    have := getD_append_new vs (Ab, cb) (none, 0)
    rw [hl] at this; rw [this]
  refine ⟨by simp [hl], ?_, fun k hk => ?_⟩
  · rw [List.length_append, List.length_singleton]
    have : rcells (Ls ++ [body]) (vs ++ [(Ab, cb)]) = rcells Ls vs ++ [.slice Ab body.length cb] := by
      unfold rcells
      rw [List.length_append, List.length_singleton, List.range_succ, List.map_append]
      congr 1
      · exact List.map_congr_left fun k hk => hold k (List.mem_range.1 hk)
      · simp only [List.map_cons, List.map_nil, hnew]
    rw [this]; exact hown
  · rw [List.length_append, List.length_singleton] at hk
    by_cases hkl : k < Ls.length
    · rw [hold k hkl, getD_append_old _ _ _ _ hkl]
      exact (h.own k hkl).kept hg (own_ne_own (h.own k hkl) h.row hne)
    · obtain rfl : k = Ls.length := by omega
      rw [hnew, getD_append_new]
      exact hb.kept hg (own_ne_own hb h.row hne)
end
end Go.Proofs.Ytjddegfigdpcbaa
