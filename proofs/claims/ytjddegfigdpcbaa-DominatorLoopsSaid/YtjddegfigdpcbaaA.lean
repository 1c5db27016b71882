/- Words for the walks: slices that are read, blocks that are owned, bools that tell. No condition. -/
import Derived.Test.YtjddegfigdpcbaaRows
import Derived.WalkKit
import Derived.WalkSpells
import Derived.WalkLawsBesides
import Derived.Maps.AppendAt
import Derived.Laws.OwnMore
import Derived.Deep.QuietTactic
import Derived.BigQuiet
import Derived.Deep.AppendLies
namespace Go.Proofs.Ytjddegfigdpcbaa
open Go.RowKit

theorem hid {p : Prop} (h : p) : Hid p := h
theorem lt_of_cell {w : World} {a : Addr} {v : Value} (h : w.cell? a = some v) : a.block < w.heap.size := World.block_lt_of_cell? w a h
theorem below_cell {w w' : World} (hb : Below w.heap.size w w') {a : Addr} {v : Value} (h : w.cell? a = some v) : w'.cell? a = some v := (hb.cell (lt_of_cell h)).trans h

theorem bcell {W w1 : World} (hb : Below W.heap.size W w1) : (∀ b o, b < W.heap.size → w1.cell? ⟨b, o, none⟩ = W.cell? ⟨b, o, none⟩) ∧ (∀ b o, b < W.heap.size → w1.frozen? ⟨b, o, none⟩ = W.frozen? ⟨b, o, none⟩) :=
  ⟨fun b o h => hb.cell (p := ⟨b, o, none⟩) h, fun b o h => hb.frozen (p := ⟨b, o, none⟩) h⟩

/-- a new block's cells, in a later world -/
theorem box_cell {w w1 : World} {cs : Array Value} {t : TypeId} (hb : Below (w.alloc (.cells cs t)).heap.size (w.alloc (.cells cs t)) w1) (j : Nat) (v : Value) (h : cs[j]? = some v) : w1.cell? ⟨w.heap.size, j, none⟩ = some v := by
  rw [hb.cell (p := ⟨w.heap.size, j, none⟩) (by simp)]
  simp only [World.cell?, World.alloc]
  show (match (w.heap.push (.cells cs t))[w.heap.size]? with | some (.cells c _ _) => if (none : Option Nat).isSome then none else c[j]? | _ => none) = _
  rw [Array.getElem?_push_size]
  exact h
/-- the cells of a slice, one after another -/
def Row (w : World) (A : Option Addr) (cs : List Value) : Prop := ∀ j, j < cs.length → ∃ sb so, A = some ⟨sb, so, none⟩ ∧ w.cell? ⟨sb, so + j, none⟩ = some (cs.getD j undef)
theorem Row.below {w w' : World} {A : Option Addr} {cs : List Value} (hb : Below w.heap.size w w') (h : Row w A cs) : Row w' A cs := fun j hj => by
  obtain ⟨sb, so, e, hc⟩ := h j hj
  exact ⟨sb, so, e, below_cell hb hc⟩
theorem below_alloc (w : World) (o : Obj) : Below w.heap.size w (w.alloc o) := (Below.refl _ _).alloc (Nat.le_refl _) _
theorem bthen {w w1 w2 : World} (h : Below w.heap.size w w1) (k : Below w1.heap.size w1 w2) : Below w.heap.size w w2 := h.trans (k.mono h.size)
theorem below_drewN (w : World) (q : Nat) : Below w.heap.size w (w.drewN q) := ⟨rfl, rfl, rfl, Nat.le_refl _, fun _ _ => rfl⟩
theorem below_drew' (w : World) : Below w.heap.size w w.drew := ⟨rfl, rfl, rfl, Nat.le_refl _, fun _ _ => rfl⟩
theorem Row.alloc {w : World} {A : Option Addr} {cs : List Value} (h : Row w A cs) (o : Obj) : Row (w.alloc o) A cs := h.below (below_alloc w o)
theorem Row.nil {w : World} {A : Option Addr} : Row w A [] := fun j hj => by simp at hj
theorem Row.of_own {w : World} {base : Nat} {e : TypeId} {sz : Nat} {A : Option Addr} {n c : Nat} {xs : List Value} (h : w.ownsRow base e sz (.slice A n c) n xs) : Row w A xs := by
  intro j hj
  rcases h.2 with ⟨he, rfl⟩ | ⟨g, cap, cur, he, _⟩
  · have := h.1; rw [Nat.zero_mul] at this; omega
  · injection he with he
    subst he
    refine ⟨g, 0, rfl, ?_⟩
    have := h.cells (g := g) rfl j (xs.getD j undef) (by simp [List.getD_eq_getElem?_getD, List.getElem?_eq_getElem hj])
    rw [Nat.zero_add]
    have ha : (⟨g, 0, none⟩ : Addr).add j = ⟨g, j, none⟩ := by unfold Addr.add; split <;> simp_all
    rwa [ha] at this

def ints (L : List Int) : List Value := L.map (Value.int .i64)
def bools (L : List Bool) : List Value := L.map Value.bool
theorem Row.int {w : World} {A : Option Addr} {L : List Int} (h : Row w A (ints L)) (k : Nat) (hk : k < L.length) : ∃ sb so, A = some ⟨sb, so, none⟩ ∧ w.cell? ⟨sb, so + k, none⟩ = some (.int .i64 (L.getD k 0)) := by
  obtain ⟨sb, so, e, hc⟩ := h k (by simpa [ints] using hk)
  refine ⟨sb, so, e, hc.trans ?_⟩
  simp [ints, List.getD_eq_getElem?_getD, List.getElem?_eq_getElem hk]
theorem Row.bool {w : World} {A : Option Addr} {L : List Bool} (h : Row w A (bools L)) (k : Nat) (hk : k < L.length) : ∃ sb so, A = some ⟨sb, so, none⟩ ∧ w.cell? ⟨sb, so + k, none⟩ = some (.bool (L.getD k false)) := by
  obtain ⟨sb, so, e, hc⟩ := h k (by simpa [bools] using hk)
  refine ⟨sb, so, e, hc.trans ?_⟩
  simp [bools, List.getD_eq_getElem?_getD, List.getElem?_eq_getElem hk]
theorem take_snoc {α : Type} (L : List α) (d : α) (k : Nat) (h : k < L.length) : L.take (k + 1) = L.take k ++ [L.getD k d] := by
  rw [List.take_succ_eq_append_getElem h]
  simp [List.getD_eq_getElem?_getD, List.getElem?_eq_getElem h]

theorem mem_take_getD {α : Type} (L : List α) (d : α) {j k : Nat} (h : j < k) (hk : k < L.length) : L.getD j d ∈ L.take k := by
  rw [List.getD_eq_getElem?_getD, List.getElem?_eq_getElem (by omega)]
  exact List.mem_take_iff_getElem.2 ⟨j, by omega, rfl⟩
theorem mem_take_inv {α : Type} (L : List α) (d : α) {k : Nat} {x : α} (h : x ∈ L.take k) : ∃ i, i < k ∧ L.getD i d = x := by
  obtain ⟨i, hi, e⟩ := List.mem_take_iff_getElem.1 h
  refine ⟨i, by omega, ?_⟩
  rw [List.getD_eq_getElem?_getD, List.getElem?_eq_getElem (by omega)]
  exact e

theorem cell_of_row' {w : World} {b : Nat} {cs : Array Value} {t : TypeId} {fz : Nat × Nat} (h : w.heap[b]? = some (.cells cs t fz)) (j : Nat) (v : Value) (hv : cs[j]? = some v) : w.cell? ⟨b, j, none⟩ = some v := by
  simp only [World.cell?, h]
  exact hv
theorem setCell_row {w : World} {b : Nat} {cs : Array Value} {t : TypeId} {fz : Nat × Nat} (h : w.heap[b]? = some (.cells cs t fz)) (j : Nat) (v : Value) : (w.setCell ⟨b, j, none⟩ v).heap[b]? = some (.cells (cs.setIfInBounds j v) t fz) := by
  simp only [World.setCell, Array.getElem?_modify, h]
  rfl
theorem own_below {w w1 : World} {base : Nat} {e : TypeId} {size n : Nat} {v : Value} {xs : List Value} (h : w.ownsRow base e size v n xs) (hb : Below w.heap.size w w1) : w1.ownsRow base e size v n xs :=
  h.kept (row := none) ⟨hb.os, hb.tape, hb.output, hb.size, fun i hi _ => hb.block i hi⟩ (by cases v.ownBlock <;> simp)
theorem own_shape {w : World} {base n : Nat} {e : TypeId} {size : Nat} {v : Value} {xs : List Value} (h : w.ownsRow base e size v n xs) : ∃ A c, v = .slice A n c := by
  rcases h.2 with ⟨rfl, rfl⟩ | ⟨g, cap, cur, rfl, _⟩
  · exact ⟨none, 0, rfl⟩
  · exact ⟨_, cap, rfl⟩
theorem own_ne_block {w : World} {base n : Nat} {e t : TypeId} {size : Nat} {v : Value} {xs : List Value} {b : Nat} {cs : Array Value} {fz : Nat × Nat} (h : w.ownsRow base e size v n xs) (hb : w.heap[b]? = some (.cells cs t fz)) (hne : t ≠ e) : some b ≠ v.ownBlock := by
  rcases h.2 with ⟨rfl, rfl⟩ | ⟨g, cap, cur, rfl, _, hh, _⟩
  · intro h; cases h
  · intro hk
    have : b = g := Option.some.inj hk
    subst this
    rw [hb] at hh
    injection hh with hh
    injection hh with _ h2 _
    exact hne h2
theorem Row.one (w : World) (x : Value) (t : TypeId) : Row (w.alloc (.cells #[x] t)) (some ⟨w.heap.size, 0, none⟩) [x] := by
  intro j hj
  refine ⟨w.heap.size, 0, rfl, ?_⟩
  match j, hj with
  | 0, _ => exact box_cell (Below.refl _ _) 0 _ rfl
/-- a row stays while another block's cell is written -/
theorem own_setCell {w : World} {base n : Nat} {e : TypeId} {size : Nat} {v : Value} {xs : List Value} {b j : Nat} {u : Value} (h : w.ownsRow base e size v n xs) (hne : some b ≠ v.ownBlock) : (w.setCell ⟨b, j, none⟩ u).ownsRow base e size v n xs :=
  h.kept (row := some b) ⟨rfl, rfl, rfl, by simp [World.setCell], fun k _ hk => Below.heap_setCell _ _ _ _ (fun e => hk (by rw [e]))⟩ (by
    cases hv : v.ownBlock with
    | none => left; rfl
    | some g => right; intro e; exact hne (by rw [hv, e]))
section
variable {P : Program} {Q : Exit → Act → World → Prop}
theorem run_append_row (w : World) (base : Nat) (t ty e : TypeId) (i : TypeInfo) (z : Value) (size bytes : Nat) (ht : P.underlying t = some (.slice e)) (hi : P.info? e = some i) (hz : i.zero = some z)
    (hsize : i.size = size) (hby : i.bytes = bytes) (hzs : z.cells.size = size) (hsz : 0 < size)
    (v : Value) (n : Nat) (xs : List Value) (hown : w.ownsRow base e size v n xs)
    (B : Option Addr) (m c : Nat) (news : List Value) (hl : news.length = m * size) (hB : B = none → c = 0) (hnews : Row w B news) (h1 : ∀ u ∈ news, u.oneCell' = true)
    (h63 : n + m ≤ maxLen) (hbytes : (n + m) * bytes ≤ 140737488355328) (hbase : base ≤ w.heap.size) :
    ∃ A' c' w', (Builtin.append_ #[t, t] ty #[v, .slice B m c]).run P w = .ok (.slice A' (n + m) c') w' ∧ w'.ownsRow base e size (.slice A' (n + m) c') (n + m) (xs ++ news) ∧ w.grownBy w' v.ownBlock ∧ ((Value.slice A' (n + m) c').ownBlock = v.ownBlock ∨ (Value.slice A' (n + m) c').ownBlock = some w.heap.size) := by
  cases B with
  | none =>
    have hm : news = [] := by
      cases news with
      | nil => rfl
      | cons u us => obtain ⟨sb, so, he, _⟩ := hnews 0 (by simp); cases he
    have hm0 : m = 0 := by
      rw [hm] at hl
      rcases Nat.eq_zero_or_pos m with h0 | h0
      · exact h0
      · have := Nat.mul_pos h0 hsz
        rw [← hl] at this; simp at this
    subst hm0
    obtain rfl := hB rfl
    have hr := run_append_owned_none (P := P) w base t ty e i size ht hi v n xs hown
    obtain ⟨A', c', hv⟩ := own_shape hown
    refine ⟨A', c', w, by rw [hr, hv]; rfl, ?_, ⟨rfl, rfl, rfl, Nat.le_refl _, fun _ _ _ => rfl⟩, .inl (by rw [hv]; rfl)⟩
    rw [hm, List.append_nil, Nat.add_zero, ← hv]; exact hown
  | some ad =>
    have hn : ∀ j u, news[j]? = some u → w.cell? (ad.add j) = some u := fun j u hj => by
      have hjl : j < news.length := (List.getElem?_eq_some_iff.1 hj).1
      obtain ⟨sb, so, he, hc⟩ := hnews j hjl
      injection he with he; subst he
      have ha : (⟨sb, so, none⟩ : Addr).add j = ⟨sb, so + j, none⟩ := by unfold Addr.add; split <;> simp_all
      rw [ha, hc]
      rw [List.getD_eq_getElem?_getD, hj]; rfl
    obtain ⟨v', w', hr, h2, h3, _, h5⟩ := run_append_own_at (P := P) w base t ty e i z size bytes ht hi hz hsize hby hzs hsz v n xs hown ad m c news hl hn h1 h63 hbytes hbase
    obtain ⟨A', c', hv⟩ := own_shape h2
    subst hv
    exact ⟨A', c', w', hr, h2, h3, h5⟩

theorem wp_append_row {o : Oper} {a : Act} {w : World} {K : Act → World → Prop} (s x : Operand) (t : TypeId)
    (ho : o.op = .call { callee := .builtin .append, args := #[s, x], argTypes := #[t, t] })
    (base : Nat) (e : TypeId) (i : TypeInfo) (z : Value) (size bytes : Nat) (ht : P.underlying t = some (.slice e)) (hi : P.info? e = some i) (hz : i.zero = some z)
    (hsize : i.size = size) (hby : i.bytes = bytes) (hzs : z.cells.size = size) (hsz : 0 < size)
    (v : Value) (n : Nat) (xs : List Value) (hs : a.eval s = v) (hown : w.ownsRow base e size v n xs)
    (B : Option Addr) (m c : Nat) (news : List Value) (hx : a.eval x = .slice B m c) (hl : news.length = m * size) (hB : B = none → c = 0) (hnews : Row w B news) (h1 : ∀ u ∈ news, u.oneCell' = true)
    (h63 : n + m ≤ maxLen) (hbytes : (n + m) * bytes ≤ 140737488355328) (hbase : base ≤ w.heap.size)
    (h : ∀ A' c' w', w'.ownsRow base e size (.slice A' (n + m) c') (n + m) (xs ++ news) → w.grownBy w' v.ownBlock → ((Value.slice A' (n + m) c').ownBlock = v.ownBlock ∨ (Value.slice A' (n + m) c').ownBlock = some w.heap.size) → K (a.put o.dst (.slice A' (n + m) c')) w') :
    Oper.wp P o a w K Q := by
  obtain ⟨A', c', w', hr, h2, h3, h5⟩ := run_append_row (P := P) w base t o.type e i z size bytes ht hi hz hsize hby hzs hsz v n xs hown B m c news hl hB hnews h1 h63 hbytes hbase
  unfold Oper.wp execOp
  simp only [ho, resolve, invoke, builtin, Sem.run_bind, Sem.run_pure, Result.andThen_ok, List.map_toArray, List.map_cons, List.map_nil, hs, hx, hr]
  exact h A' c' w' h2 h3 h5

theorem wpList_append_row {ops : Array Oper} {rest : List Oper} {o : Oper} {a : Act} {w : World} (hgd : o.guard = none) (s x : Operand) (t : TypeId)
    (ho : o.op = .call { callee := .builtin .append, args := #[s, x], argTypes := #[t, t] })
    (base : Nat) (e : TypeId) (i : TypeInfo) (z : Value) (size bytes : Nat) (ht : P.underlying t = some (.slice e)) (hi : P.info? e = some i) (hz : i.zero = some z)
    (hsize : i.size = size) (hby : i.bytes = bytes) (hzs : z.cells.size = size) (hsz : 0 < size)
    (v : Value) (n : Nat) (xs : List Value) (hs : a.eval s = v) (hown : w.ownsRow base e size v n xs)
    (B : Option Addr) (m c : Nat) (news : List Value) (hx : a.eval x = .slice B m c) (hl : news.length = m * size) (hB : B = none → c = 0) (hnews : Row w B news) (h1 : ∀ u ∈ news, u.oneCell' = true)
    (h63 : n + m ≤ maxLen) (hbytes : (n + m) * bytes ≤ 140737488355328) (hbase : base ≤ w.heap.size)
    (h : ∀ A' c' w', w'.ownsRow base e size (.slice A' (n + m) c') (n + m) (xs ++ news) → w.grownBy w' v.ownBlock → ((Value.slice A' (n + m) c').ownBlock = v.ownBlock ∨ (Value.slice A' (n + m) c').ownBlock = some w.heap.size) → wpList P ops Q rest (a.put o.dst (.slice A' (n + m) c')) w') :
    wpList P ops Q (o :: rest) a w :=
  wpList_plain hgd fun K hK => wp_append_row s x t ho base e i z size bytes ht hi hz hsize hby hzs hsz v n xs hs hown B m c news hx hl hB hnews h1 h63 hbytes hbase fun A' c' w' h2 h3 h5 => hK _ _ (h A' c' w' h2 h3 h5)
end
theorem own_ne_own {w : World} {B B' n n' : Nat} {e e' : TypeId} {s s' : Nat} {v v' : Value} {xs xs' : List Value} (h : w.ownsRow B e s v n xs) (h' : w.ownsRow B' e' s' v' n' xs') (hne : e ≠ e') : v.ownBlock = none ∨ v.ownBlock ≠ v'.ownBlock := by
  rcases h.2 with ⟨rfl, rfl⟩ | ⟨g, cap, cur, rfl, _, hh, _⟩
  · left; rfl
  · right
    exact own_ne_block h' hh hne
theorem own_setLow {w : World} {base n : Nat} {e : TypeId} {size : Nat} {v : Value} {xs : List Value} {b j : Nat} {u : Value} (h : w.ownsRow base e size v n xs) (hb : b < base) : (w.setCell ⟨b, j, none⟩ u).ownsRow base e size v n xs :=
  own_setCell h (fun e => by have := (h.lt b e.symm).1; omega)
theorem b2 (w : World) (o1 o2 : Obj) : Below w.heap.size w ((w.alloc o1).alloc o2) := bthen (below_alloc _ _) (below_alloc _ _)
set_option maxHeartbeats 400000 in
theorem Row.two (w : World) (x y : Value) (t : TypeId) : Row (w.alloc (.cells #[x, y] t)) (some ⟨w.heap.size, 0, none⟩) [x, y] := by
  intro j hj
  refine ⟨w.heap.size, 0, rfl, ?_⟩
  match j, hj with
  | 0, _ => exact box_cell (Below.refl _ _) 0 _ rfl
  | 1, _ => exact box_cell (Below.refl _ _) 1 _ rfl
theorem ints_one (L : List Int) : ∀ u ∈ ints L, u.oneCell' = true := by
  intro u hu
  simp only [ints, List.mem_map] at hu
  obtain ⟨b, _, rfl⟩ := hu
  rfl
theorem ints_length (L : List Int) : (ints L).length = L.length := by simp [ints]

theorem bools_one (L : List Bool) : ∀ u ∈ bools L, u.oneCell' = true := by
  intro u hu
  simp only [bools, List.mem_map] at hu
  obtain ⟨b, _, rfl⟩ := hu
  rfl
theorem bools_length (L : List Bool) : (bools L).length = L.length := by simp [bools]

theorem getD_ext {α : Type} (d : α) {L M : List α} (hl : L.length = M.length) (h : ∀ j, j < L.length → L.getD j d = M.getD j d) : L = M := by
  apply List.ext_getElem hl
  intro j h1 h2
  have := h j h1
  rwa [List.getD_eq_getElem?_getD, List.getD_eq_getElem?_getD, List.getElem?_eq_getElem h1, List.getElem?_eq_getElem h2] at this

/-- the call answers a bool that tells whether p holds -/
def Tells (p : Prop) (e : Ending) : Prop := ∃ b, e = .returned (.bool b) ∧ (b = true ↔ p)
theorem Tells.yes {p : Prop} (h : p) : Tells p (.returned (.bool true)) := ⟨true, rfl, by simp [h]⟩
theorem Tells.no {p : Prop} (h : ¬ p) : Tells p (.returned (.bool false)) := ⟨false, rfl, by simp [h]⟩
theorem Tells.eq_yes {p : Prop} {e : Ending} (h : Tells p e) (hp : p) : e = .returned (.bool true) := by
  obtain ⟨b, rfl, hb⟩ := h
  rw [hb.2 hp]
theorem Tells.eq_no {p : Prop} {e : Ending} (h : Tells p e) (hp : ¬ p) : e = .returned (.bool false) := by
  obtain ⟨b, rfl, hb⟩ := h
  cases b with
  | false => rfl
  | true => exact absurd (hb.1 rfl) hp

/-- block b holds these cells -/
def BlkAt (w : World) (b : Nat) (t : TypeId) (cs : List Value) : Prop := w.heap[b]? = some (.cells cs.toArray t (0, 0))
theorem BlkAt.made (w : World) (t : TypeId) (cs : List Value) : BlkAt (w.alloc (.cells cs.toArray t)) w.heap.size t cs := heap_alloc_new w _
theorem BlkAt.lt {w : World} {b : Nat} {t : TypeId} {cs : List Value} (h : BlkAt w b t cs) : b < w.heap.size := (Array.getElem?_eq_some_iff.1 h).1
theorem BlkAt.cell {w : World} {b : Nat} {t : TypeId} {cs : List Value} (h : BlkAt w b t cs) (j : Nat) (v : Value) (hv : cs[j]? = some v) : w.cell? ⟨b, j, none⟩ = some v := cell_of_row' h j v (by simpa using hv)
theorem BlkAt.fz {w : World} {b : Nat} {t : TypeId} {cs : List Value} (h : BlkAt w b t cs) (j : Nat) : w.frozen? ⟨b, j, none⟩ = false := by
  unfold World.frozen?; simp only []; rw [h]; simp
theorem BlkAt.below {w w' : World} {b : Nat} {t : TypeId} {cs : List Value} (h : BlkAt w b t cs) (hb : Below w.heap.size w w') : BlkAt w' b t cs := (hb.block _ h.lt).trans h
theorem BlkAt.set {w : World} {b : Nat} {t : TypeId} {cs : List Value} (h : BlkAt w b t cs) (j : Nat) (v : Value) : BlkAt (w.setCell ⟨b, j, none⟩ v) b t (cs.set j v) := by
  unfold BlkAt at *
  rw [setCell_row h]; simp
theorem BlkAt.far {w : World} {b b' : Nat} {t : TypeId} {cs : List Value} (h : BlkAt w b t cs) (hne : b ≠ b') (j : Nat) (v : Value) : BlkAt (w.setCell ⟨b', j, none⟩ v) b t cs := (Below.heap_setCell _ _ _ _ hne).trans h
theorem BlkAt.ne {w : World} {b b' : Nat} {t t' : TypeId} {cs cs' : List Value} (h : BlkAt w b t cs) (h' : BlkAt w b' t' cs') (hne : t ≠ t') : b ≠ b' := by
  intro e; subst e; unfold BlkAt at *; rw [h] at h'
  injection h' with h'; injection h' with _ h2 _; exact hne h2
theorem BlkAt.grown {w w' : World} {b : Nat} {t : TypeId} {cs : List Value} (h : BlkAt w b t cs) {row : Option Nat} (hg : w.grownBy w' row) (hne : some b ≠ row) : BlkAt w' b t cs := (hg.block b h.lt hne).trans h
theorem BlkAt.ne_own {w : World} {b : Nat} {t : TypeId} {cs : List Value} (h : BlkAt w b t cs) {base n : Nat} {e : TypeId} {size : Nat} {v : Value} {xs : List Value} (h' : w.ownsRow base e size v n xs) (hne : t ≠ e) : some b ≠ v.ownBlock := own_ne_block h' h hne
/-- what a fresh cell holds, later -/
theorem Row.of_blk {w : World} {b : Nat} {t : TypeId} {cs : List Value} (h : BlkAt w b t cs) : Row w (some ⟨b, 0, none⟩) cs := fun j hj => ⟨b, 0, rfl, by rw [Nat.zero_add]; exact h.cell j _ (by rw [List.getD_eq_getElem?_getD, List.getElem?_eq_getElem hj]; rfl)⟩
def MarksAt (w : World) (b : Nat) (ms : List Bool) : Prop := BlkAt w b 4 (bools ms)
theorem MarksAt.cell {w : World} {b : Nat} {ms : List Bool} (h : MarksAt w b ms) (j : Nat) (hj : j < ms.length) : w.cell? ⟨b, j, none⟩ = some (.bool (ms.getD j false)) :=
  BlkAt.cell h j _ (by simp [bools, List.getD_eq_getElem?_getD, hj])
theorem MarksAt.set {w : World} {b : Nat} {ms : List Bool} (h : MarksAt w b ms) (j : Nat) (x : Bool) : MarksAt (w.setCell ⟨b, j, none⟩ (.bool x)) b (ms.set j x) := by
  have := BlkAt.set h j (.bool x)
  unfold MarksAt; rw [show bools (ms.set j x) = (bools ms).set j (.bool x) from by simp [bools, List.map_set]]; exact this
def IntsAt (w : World) (b : Nat) (T : List Int) : Prop := BlkAt w b 3 (ints T)
theorem IntsAt.cell {w : World} {b : Nat} {T : List Int} (h : IntsAt w b T) (j : Nat) (hj : j < T.length) : w.cell? ⟨b, j, none⟩ = some (.int .i64 (T.getD j 0)) :=
  BlkAt.cell h j _ (by simp [ints, List.getD_eq_getElem?_getD, hj])
theorem IntsAt.set {w : World} {b : Nat} {T : List Int} (h : IntsAt w b T) (j : Nat) (x : Int) : IntsAt (w.setCell ⟨b, j, none⟩ (.int .i64 x)) b (T.set j x) := by
  have := BlkAt.set h j (.int .i64 x)
  unfold IntsAt; rw [show ints (T.set j x) = (ints T).set j (.int .i64 x) from by simp [ints, List.map_set]]; exact this
end Go.Proofs.Ytjddegfigdpcbaa
