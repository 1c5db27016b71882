/- Steps as rows of cells; what a step means; the state in a round of assessorlaw24.GatesMean. -/
import Derived.Test.YtelbjendeldlcaaW
namespace Go.Proofs.Ytelbjendeldlcaa
open Go.RowKit

structure GOp where
  k : Int
  a : Int
  b : Int
  c : Int
def ocells (O : List GOp) : List Value := O.flatMap fun o => [.int .i64 o.k, .int .i64 o.a, .int .i64 o.b, .int .i64 o.c]
theorem ocells_length (O : List GOp) : (ocells O).length = 4 * O.length := by
  induction O with
  | nil => rfl
  | cons g O ih => simp only [ocells, List.flatMap_cons, List.length_append] at *; rw [ih]; simp; omega
def gop0 : GOp := ⟨0, 0, 0, 0⟩
theorem ocells_get (O : List GOp) : ∀ k, k < O.length → (ocells O).getD (4 * k) undef = .int .i64 (O.getD k gop0).k ∧ (ocells O).getD (4 * k + 1) undef = .int .i64 (O.getD k gop0).a ∧ (ocells O).getD (4 * k + 2) undef = .int .i64 (O.getD k gop0).b ∧ (ocells O).getD (4 * k + 3) undef = .int .i64 (O.getD k gop0).c := by
  induction O with
  | nil => intro k hk; simp at hk
  | cons g O ih =>
    intro k hk
    cases k with
    | zero => simp [ocells]
    | succ k =>
      have := ih k (by simpa using hk)
      simp only [ocells, List.flatMap_cons, List.cons_append, List.nil_append, show 4 * (k + 1) = 4 * k + 1 + 1 + 1 + 1 from by omega, List.getD_cons_succ]
      simpa [ocells] using this
theorem Row.cell {w : World} {sb so : Nat} {cs : List Value} (h : Row w (some ⟨sb, so, none⟩) cs) (j : Nat) (hj : j < cs.length) : w.cell? ⟨sb, so + j, none⟩ = some (cs.getD j undef) := by
  obtain ⟨sb', so', e, hc⟩ := h j hj
  injection e with e; injection e with e1 e2; subst e1; subst e2; exact hc
theorem Row.op {w : World} {A : Option Addr} {O : List GOp} (h : Row w A (ocells O)) (k : Nat) (hk : k < O.length) :
    ∃ sb so, A = some ⟨sb, so, none⟩ ∧ w.cell? ⟨sb, so + k * 4, none⟩ = some (.int .i64 (O.getD k gop0).k) ∧ w.cell? ⟨sb, so + k * 4 + 1, none⟩ = some (.int .i64 (O.getD k gop0).a) ∧ w.cell? ⟨sb, so + k * 4 + 2, none⟩ = some (.int .i64 (O.getD k gop0).b) ∧ w.cell? ⟨sb, so + k * 4 + 3, none⟩ = some (.int .i64 (O.getD k gop0).c) := by
  have hl := ocells_length O
  obtain ⟨sb, so, rfl, _⟩ := h (4 * k) (by omega)
  have hg := ocells_get O k hk
  rw [Nat.mul_comm k 4]
  exact ⟨sb, so, rfl, (h.cell _ (by omega)).trans (by rw [hg.1]), (h.cell (4 * k + 1) (by omega)).trans (by rw [hg.2.1]), (h.cell (4 * k + 2) (by omega)).trans (by rw [hg.2.2.1]), (h.cell (4 * k + 3) (by omega)).trans (by rw [hg.2.2.2])⟩

structure MS (W : World) (bb mb : Nat) (A : Option Addr) (c : Nat) (s : PB) (pb ib ob : Nat) (ia : Option Addr) (ic : Nat) (input : List Bool) (o : GOp) : Prop where
  bst : BSt W bb mb A c s
  p0 : W.cell? ⟨pb, 0, none⟩ = some (.pointer (some ⟨bb, 0, none⟩))
  i0 : W.cell? ⟨ib, 0, none⟩ = some (.slice ia input.length ic)
  row : Row W ia (bools input)
  o0 : W.cell? ⟨ob, 0, none⟩ = some (.int .i64 o.k)
  o1 : W.cell? ⟨ob, 1, none⟩ = some (.int .i64 o.a)
  o2 : W.cell? ⟨ob, 2, none⟩ = some (.int .i64 o.b)
  o3 : W.cell? ⟨ob, 3, none⟩ = some (.int .i64 o.c)
section
variable {W W' : World} {bb mb : Nat} {A : Option Addr} {c : Nat} {s : PB} {pb ib ob : Nat} {ia : Option Addr} {ic : Nat} {input : List Bool} {o : GOp}
theorem MS.below (hb : Below W.heap.size W W') (h : MS W bb mb A c s pb ib ob ia ic input o) : MS W' bb mb A c s pb ib ob ia ic input o :=
  ⟨h.bst.below hb, below_cell hb h.p0, below_cell hb h.i0, h.row.below hb, below_cell hb h.o0, below_cell hb h.o1, below_cell hb h.o2, below_cell hb h.o3⟩
theorem MS.value (h : MS W bb mb A c s pb ib ob ia ic input o) (hi : s.Inv) (hic : ia = none → ic = 0) (hn : (input.length : Int) = s.n) (x : Int) (b : Bool) (hb : (decide (s.lit x) && litVal (valsF input s.G) x) = b) :
    Calls Try.prog 22 #[.int .i64 x, .pointer (some ⟨pb, 0, none⟩), .pointer (some ⟨ib, 0, none⟩)] W fun e w' => e = .returned (.bool b) ∧ Below W.heap.size W w' :=
  mean_value h.bst hi pb ib ia ic input x b h.p0 h.i0 h.row hic hn hb
end
theorem cell_of_keep {w w' : World} {b : Nat} (h : w'.heap[b]? = w.heap[b]?) (j : Nat) : w'.cell? ⟨b, j, none⟩ = w.cell? ⟨b, j, none⟩ := by unfold World.cell?; simp only []; rw [h]
/-- a fresh block is none of the builder's -/
theorem BSt.apart {w : World} {bb mb : Nat} {A : Option Addr} {c : Nat} {s : PB} (h : BSt w bb mb A c s) (o : Obj) : Apart (w.alloc o) bb mb A w.heap.size :=
  ⟨by simp, by have := h.lt; omega, by have := h.map.lt; omega, fun a ha => by have := own_blk_lt h.own a ha; omega⟩
theorem step_inv {input : List Bool} {s : PB} (hi : s.Inv) (hn : (input.length : Int) = s.n) (k a b c : Int) : (s.step k a b c).1.Inv ∧ (s.step k a b c).1.n = s.n ∧ ∃ t, (s.step k a b c).1.G = s.G ++ t := by
  unfold PB.step
  split
  · have := inp_res hi hn a; exact ⟨this.inv, this.n, this.ext⟩
  split
  · have := and_res hi hn a b; exact ⟨this.inv, this.n, this.ext⟩
  split
  · have := or_res hi hn a b; exact ⟨this.inv, this.n, this.ext⟩
  split
  · have := xor_res hi hn a b; exact ⟨this.inv, this.n, this.ext⟩
  · have := mux_res hi hn a b c; exact ⟨this.inv, this.n, this.ext⟩
/-- the value of an old literal, read in the new circuit -/
theorem old_val {input : List Bool} {s r : PB} (hn : (input.length : Int) = s.n) (hrn : r.n = s.n) (he : ∃ t, r.G = s.G ++ t) {x : Int} (h : s.lit x) {v : Bool} (hv : litVal (valsF input s.G) x = v) :
    (decide (r.lit x) && litVal (valsF input r.G) x) = v := by
  rw [decide_eq_true (lit_ext hrn he h), val_ext hn he h, hv]; rfl
theorem new_val {input : List Bool} {r : PB} {z : Int} {v : Bool} (h : r.lit z) (hv : litVal (valsF input r.G) z = v) : (decide (r.lit z) && litVal (valsF input r.G) z) = v ∧ (decide (r.lit (notI z)) && litVal (valsF input r.G) (notI z)) = !v := by
  constructor
  · rw [decide_eq_true h, hv]; rfl
  · rw [decide_eq_true (PB.lit_not h), litVal_not _ h.1, hv]; rfl
end Go.Proofs.Ytelbjendeldlcaa
