/- A builder and the reference builder side by side. -/
import Derived.Test.YtelbjendeldlcaaAG
import Derived.Test.YtelbjendeldlcaaK
namespace Go.Proofs.Ytelbjendeldlcaa
open Go.RowKit

theorem Apart.below {W W' : World} {bb mb : Nat} {A : Option Addr} {b : Nat} (h : Apart W bb mb A b) (hb : Below W.heap.size W W') : Apart W' bb mb A b := ⟨Nat.lt_of_lt_of_le h.1 hb.size, h.2⟩
theorem setCell_size (w : World) (a : Addr) (u : Value) : (w.setCell a u).heap.size = w.heap.size := by
  cases hs : a.spot <;> simp [World.setCell, hs]
theorem BSt.setOther {W : World} {bb mb : Nat} {A : Option Addr} {c : Nat} {s : PB} {b : Nat} (h : BSt W bb mb A c s) (hap : Apart W bb mb A b) (j : Nat) (u : Value) : BSt (W.setCell ⟨b, j, none⟩ u) bb mb A c s ∧ Apart (W.setCell ⟨b, j, none⟩ u) bb mb A b := by
  refine ⟨⟨(setCell_heap_ne W b j u bb (Ne.symm hap.2.1)).trans h.row, own_setCell h.own ?_, (setCell_heap_ne W b j u mb (Ne.symm hap.2.2.1)).trans h.map, h.ok⟩, ⟨by rw [setCell_size]; exact hap.1, hap.2⟩⟩
  intro e
  cases A with
  | none => simp [Value.ownBlock] at e
  | some a => simp [Value.ownBlock] at e; exact hap.2.2.2 a rfl e.symm
theorem BSt.put3 {W : World} {bb mb : Nat} {A : Option Addr} {c : Nat} {s : PB} {b : Nat} {x y z : Value} (h : BSt W bb mb A c s) (hap : Apart W bb mb A b) : BSt (put3 W b x y z) bb mb A c s :=
  let h1 := h.setOther hap 0 x
  let h2 := h1.1.setOther h1.2 1 y
  (h2.1.setOther h2.2 2 z).1
theorem put3_size (W : World) (b : Nat) (x y z : Value) : (put3 W b x y z).heap.size = W.heap.size := by unfold put3; rw [setCell_size, setCell_size, setCell_size]
theorem RRow.mono {Z Z' : Nat → Prop} {w : World} {A : Option Addr} {cs : List Value} (h : RRow Z w A cs) (hz : ∀ b, b < w.heap.size → Z b → Z' b) : RRow Z' w A cs :=
  ⟨h.row, h.ty, fun a ha => by
    obtain ⟨c, fz, hc⟩ := h.ty a ha
    exact hz _ (Array.getElem?_eq_some_iff.1 hc).1 (h.z a ha)⟩
theorem RRow.keep {Z : Nat → Prop} {w w' : World} {A : Option Addr} {cs : List Value} (h : RRow Z w A cs) (hk : ∀ b, Z b → w'.heap[b]? = w.heap[b]?) : RRow Z w' A cs := by
  refine ⟨fun j hj => ?_, fun a ha => ?_, h.z⟩
  · obtain ⟨sb, so, rfl, hc⟩ := h.row j hj
    exact ⟨sb, so, rfl, (cell_of_keep (hk sb (h.z _ rfl)) _).trans hc⟩
  · obtain ⟨c, fz, hc⟩ := h.ty a ha
    exact ⟨c, fz, (hk _ (h.z a ha)).trans hc⟩

/-- the builder (state s) and the reference builder in block b (state t) -/
structure BI (W : World) (bb mb : Nat) (A : Option Addr) (c : Nat) (s t : PB) (b : Nat) (B : Option Addr) (d : Nat) : Prop where
  bst : BSt W bb mb A c s
  ap : Apart W bb mb A b
  ty : BB W b
  c0 : W.cell? ⟨b, 0, none⟩ = some (.int .i64 t.n)
  c1 : W.cell? ⟨b, 1, none⟩ = some (.slice B t.G.length d)
  c2 : W.cell? ⟨b, 2, none⟩ = some (.int .i64 t.er)
  fz : ∀ j, W.frozen? ⟨b, j, none⟩ = false
  row : RRow (Apart W bb mb A) W B (gcells t.G)
  nil : (t.G = [] → B = none ∧ d = 0) ∧ t.G.length ≤ d
section
variable {W W' : World} {bb mb : Nat} {A : Option Addr} {c : Nat} {s t : PB} {b : Nat} {B : Option Addr} {d : Nat}
theorem BI.below (h : BI W bb mb A c s t b B d) (hb : Below W.heap.size W W') : BI W' bb mb A c s t b B d :=
  ⟨h.bst.below hb, h.ap.below hb, h.ty.below hb, below_cell hb h.c0, below_cell hb h.c1, below_cell hb h.c2, fun j => ((bcell hb).2 _ _ h.ap.1).trans (h.fz j), (h.row.below hb).mono (fun b' _ hz => hz.below hb), h.nil⟩
theorem frozen_of_keep {w w' : World} {b : Nat} (h : w'.heap[b]? = w.heap[b]?) (j : Nat) : w'.frozen? ⟨b, j, none⟩ = w.frozen? ⟨b, j, none⟩ := by unfold World.frozen?; simp only []; rw [h]
/-- the builder steps -/
theorem BI.step {A' : Option Addr} {c' : Nat} {s' : PB} (h : BI W bb mb A c s t b B d) (hs : BSt W' bb mb A' c' s') (st : Step W W' bb mb A A') : BI W' bb mb A' c' s' t b B d := by
  have hk := st.keep b h.ap
  obtain ⟨cc, fz, hc⟩ := h.ty
  exact ⟨hs, st.apart b h.ap, ⟨cc, fz, hk.trans hc⟩, (cell_of_keep hk 0).trans h.c0, (cell_of_keep hk 1).trans h.c1, (cell_of_keep hk 2).trans h.c2, fun j => (frozen_of_keep hk j).trans (h.fz j),
    (h.row.keep (fun b' hz => st.keep b' hz)).mono (fun b' _ hz => st.apart b' hz), h.nil⟩
/-- the reference builder's new value is stored -/
theorem BI.store {t' : PB} {B' : Option Addr} {d' : Nat} (h : BI W bb mb A c s t b B d) (hr : RRow (Apart W bb mb A) W B' (gcells t'.G)) (hn : (t'.G = [] → B' = none ∧ d' = 0) ∧ t'.G.length ≤ d') :
    BI (put3 W b (.int .i64 t'.n) (.slice B' t'.G.length d') (.int .i64 t'.er)) bb mb A c s t' b B' d' := by
  have c0 := h.c0; have c1 := h.c1; have c2 := h.c2; have fz := h.fz
  have hap : ∀ b', Apart W bb mb A b' → Apart (put3 W b (.int .i64 t'.n) (.slice B' t'.G.length d') (.int .i64 t'.er)) bb mb A b' := fun b' hz => ⟨by rw [put3_size]; exact hz.1, hz.2⟩
  refine ⟨h.bst.put3 h.ap, hap _ h.ap, put3_bb h.ty h.ty, ?_, ?_, ?_, fun j => ?_, (put3_row hr h.ty).mono (fun b' _ hz => hap b' hz), hn⟩
  all_goals simp [put3, go_sem, *]
end
end Go.Proofs.Ytelbjendeldlcaa
