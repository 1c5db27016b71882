/- Words for the walks of chapter 24: slices that are read, arrays of two numbers, maps keyed by such arrays. No condition. -/
import Derived.Test.YtelbjendeldlcaaRows
import Derived.WalkKit
import Derived.WalkSpells
import Derived.WalkLawsBesides
namespace Go.Proofs.Ytelbjendeldlcaa
open Go.RowKit

theorem hid {p : Prop} (h : p) : Hid p := h
theorem lt_of_cell {w : World} {a : Addr} {v : Value} (h : w.cell? a = some v) : a.block < w.heap.size := World.block_lt_of_cell? w a h
theorem below_cell {w w' : World} (hb : Below w.heap.size w w') {a : Addr} {v : Value} (h : w.cell? a = some v) : w'.cell? a = some v := (hb.cell (lt_of_cell h)).trans h

theorem bcell {W w1 : World} (hb : Below W.heap.size W w1) : (∀ b o, b < W.heap.size → w1.cell? ⟨b, o, none⟩ = W.cell? ⟨b, o, none⟩) ∧ (∀ b o, b < W.heap.size → w1.frozen? ⟨b, o, none⟩ = W.frozen? ⟨b, o, none⟩) :=
  ⟨fun b o h => hb.cell (p := ⟨b, o, none⟩) h, fun b o h => hb.frozen (p := ⟨b, o, none⟩) h⟩

/-- a new block's cells, in a later world -/
theorem box_cell {w w1 : World} {cs : Array Value} {t : TypeId} (hb : Below (w.alloc (.cells cs t)).heap.size (w.alloc (.cells cs t)) w1) (j : Nat) (v : Value) (h : cs[j]? = some v) : w1.cell? ⟨w.heap.size, j, none⟩ = some v := by
  rw [hb.cell (p := ⟨w.heap.size, j, none⟩) (by simp)]
  simp only [World.cell?, World.alloc]
  show (match (w.heap.push (.cells cs t))[w.heap.size]? with | some (.cells c _ _) => if (none : Option Nat).isSome then none else c[j]? | _ => none) = _
  rw [Array.getElem?_push_size]
  exact h
/-- the cells of a slice, one after another -/
def Row (w : World) (A : Option Addr) (cs : List Value) : Prop := ∀ j, j < cs.length → ∃ sb so, A = some ⟨sb, so, none⟩ ∧ w.cell? ⟨sb, so + j, none⟩ = some (cs.getD j undef)
theorem Row.below {w w' : World} {A : Option Addr} {cs : List Value} (hb : Below w.heap.size w w') (h : Row w A cs) : Row w' A cs := fun j hj => by
  obtain ⟨sb, so, e, hc⟩ := h j hj
  exact ⟨sb, so, e, below_cell hb hc⟩
theorem below_alloc (w : World) (o : Obj) : Below w.heap.size w (w.alloc o) := (Below.refl _ _).alloc (Nat.le_refl _) _
theorem bthen {w w1 w2 : World} (h : Below w.heap.size w w1) (k : Below w1.heap.size w1 w2) : Below w.heap.size w w2 := h.trans (k.mono h.size)
theorem below_drewN (w : World) (q : Nat) : Below w.heap.size w (w.drewN q) := ⟨rfl, rfl, rfl, Nat.le_refl _, fun _ _ => rfl⟩
theorem below_drew' (w : World) : Below w.heap.size w w.drew := ⟨rfl, rfl, rfl, Nat.le_refl _, fun _ _ => rfl⟩
theorem Row.alloc {w : World} {A : Option Addr} {cs : List Value} (h : Row w A cs) (o : Obj) : Row (w.alloc o) A cs := h.below (below_alloc w o)
theorem Row.nil {w : World} {A : Option Addr} : Row w A [] := fun j hj => by simp at hj
theorem Row.of_own {w : World} {base : Nat} {e : TypeId} {sz : Nat} {A : Option Addr} {n c : Nat} {xs : List Value} (h : w.ownsRow base e sz (.slice A n c) n xs) : Row w A xs := by
  intro j hj
  rcases h.2 with ⟨he, rfl⟩ | ⟨g, cap, cur, he, _⟩
  · have := h.1; rw [Nat.zero_mul] at this; omega
  · injection he with he
    subst he
    refine ⟨g, 0, rfl, ?_⟩
    have := h.cells (g := g) rfl j (xs.getD j undef) (by simp [List.getD_eq_getElem?_getD, List.getElem?_eq_getElem hj])
    rw [Nat.zero_add]
    have ha : (⟨g, 0, none⟩ : Addr).add j = ⟨g, j, none⟩ := by unfold Addr.add; split <;> simp_all
    rwa [ha] at this

def ints (L : List Int) : List Value := L.map (Value.int .i64)
def bools (L : List Bool) : List Value := L.map Value.bool
/-- the cells of gates -/
def gcells (G : List (Int × Int)) : List Value := G.flatMap fun g => [.int .i64 g.1, .int .i64 g.2]
theorem gcells_length (G : List (Int × Int)) : (gcells G).length = 2 * G.length := by
  induction G with
  | nil => rfl
  | cons g G ih => simp [gcells] at *; omega
theorem gcells_get (G : List (Int × Int)) : ∀ k, k < G.length → (gcells G).getD (2 * k) undef = .int .i64 (G.getD k (0, 0)).1 ∧ (gcells G).getD (2 * k + 1) undef = .int .i64 (G.getD k (0, 0)).2 := by
  induction G with
  | nil => intro k hk; simp at hk
  | cons g G ih =>
    intro k hk
    cases k with
    | zero => simp [gcells]
    | succ k =>
      have := ih k (by simpa using hk)
      simp only [gcells, List.flatMap_cons, List.cons_append, List.nil_append, show 2 * (k + 1) = 2 * k + 1 + 1 from by omega, List.getD_cons_succ]
      simpa [gcells] using this

theorem Row.int {w : World} {A : Option Addr} {L : List Int} (h : Row w A (ints L)) (k : Nat) (hk : k < L.length) : ∃ sb so, A = some ⟨sb, so, none⟩ ∧ w.cell? ⟨sb, so + k, none⟩ = some (.int .i64 (L.getD k 0)) := by
  obtain ⟨sb, so, e, hc⟩ := h k (by simpa [ints] using hk)
  refine ⟨sb, so, e, hc.trans ?_⟩
  simp [ints, List.getD_eq_getElem?_getD, List.getElem?_eq_getElem hk]
theorem Row.bool {w : World} {A : Option Addr} {L : List Bool} (h : Row w A (bools L)) (k : Nat) (hk : k < L.length) : ∃ sb so, A = some ⟨sb, so, none⟩ ∧ w.cell? ⟨sb, so + k, none⟩ = some (.bool (L.getD k false)) := by
  obtain ⟨sb, so, e, hc⟩ := h k (by simpa [bools] using hk)
  refine ⟨sb, so, e, hc.trans ?_⟩
  simp [bools, List.getD_eq_getElem?_getD, List.getElem?_eq_getElem hk]
theorem Row.gate {w : World} {A : Option Addr} {G : List (Int × Int)} (h : Row w A (gcells G)) (k : Nat) (hk : k < G.length) :
    ∃ sb so, A = some ⟨sb, so, none⟩ ∧ w.cell? ⟨sb, so + k * 2, none⟩ = some (.int .i64 (G.getD k (0, 0)).1) ∧ w.cell? ⟨sb, so + k * 2 + 1, none⟩ = some (.int .i64 (G.getD k (0, 0)).2) := by
  have hl := gcells_length G
  obtain ⟨sb, so, e, hc⟩ := h (2 * k) (by omega)
  obtain ⟨sb', so', e', hc'⟩ := h (2 * k + 1) (by omega)
  rw [e] at e'; injection e' with e'; injection e' with e1 e2; subst e1; subst e2
  rw [Nat.mul_comm k 2]
  exact ⟨sb, so, e, hc.trans (by rw [(gcells_get G k hk).1]), (show _ + (2 * k + 1) = _ from rfl) ▸ hc'.trans (by rw [(gcells_get G k hk).2])⟩

theorem take_snoc {α : Type} (L : List α) (d : α) (k : Nat) (h : k < L.length) : L.take (k + 1) = L.take k ++ [L.getD k d] := by
  rw [List.take_succ_eq_append_getElem h]
  simp [List.getD_eq_getElem?_getD, List.getElem?_eq_getElem h]

theorem mem_take_getD {α : Type} (L : List α) (d : α) {j k : Nat} (h : j < k) (hk : k < L.length) : L.getD j d ∈ L.take k := by
  rw [List.getD_eq_getElem?_getD, List.getElem?_eq_getElem (by omega)]
  exact List.mem_take_iff_getElem.2 ⟨j, by omega, rfl⟩
theorem mem_take_inv {α : Type} (L : List α) (d : α) {k : Nat} {x : α} (h : x ∈ L.take k) : ∃ i, i < k ∧ L.getD i d = x := by
  obtain ⟨i, hi, e⟩ := List.mem_take_iff_getElem.1 h
  refine ⟨i, by omega, ?_⟩
  rw [List.getD_eq_getElem?_getD, List.getElem?_eq_getElem (by omega)]
  exact e
/-! arrays of two numbers -/
def gkey (g : Int × Int) : Value := .agg #[.int .i64 g.1, .int .i64 g.2]
theorem part2a (x y : Int) (w : World) : (part 3 #[.int .i64 x, .int .i64 y] 0).run Try.prog w = .ok (.int .i64 x) w := by kernel_rfl
theorem part2b (x y : Int) (w : World) : (part 3 #[.int .i64 x, .int .i64 y] 1).run Try.prog w = .ok (.int .i64 y) w := by kernel_rfl
theorem size3 (w : World) : (sizeOf 3).run Try.prog w = .ok 1 w := by kernel_rfl
theorem eqIn69 (d : Nat) (x y a b : Int) (w : World) : (Op.equalIn (d + 2) 69 (.agg #[.int .i64 x, .int .i64 y]) (.agg #[.int .i64 a, .int .i64 b])).run Try.prog w = .ok (x == a && y == b) w := by
  have h1 := part2a x y w; have h2 := part2b x y w; have h3 := part2a a b w; have h4 := part2b a b w; have h5 := size3 w
  have e1 := run_equalIn_int (P := Try.prog) w d 3 .i64 .i64 x a Try.underlying3
  have e2 := run_equalIn_int (P := Try.prog) w d 3 .i64 .i64 y b Try.underlying3
  rw [Op.equalIn]
  simp only [Sem.run_bind, run_underlying Try.underlying69, Result.andThen_ok, h5, Std.Legacy.Range.forIn_eq_forIn_range', Std.Legacy.Range.size, Nat.sub_zero, Nat.add_one_sub_one, Nat.div_one, List.range'_succ, List.range'_zero, List.forIn_cons, List.forIn_nil, Nat.zero_mul, Nat.zero_add, Nat.one_mul]
  simp only [h1, h2, h3, h4, e1, e2, Result.andThen_ok]
  cases h6 : (x == a) <;> cases h7 : (y == b) <;> simp [h1, h2, h3, h4, e1, e2, h6, h7]
theorem eq69 (x y a b : Int) (w : World) : (Op.equal 69 (.agg #[.int .i64 x, .int .i64 y]) (.agg #[.int .i64 a, .int .i64 b])).run Try.prog w = .ok (x == a && y == b) w := eqIn69 9998 x y a b w
theorem guard69 (op : BinOp) (p q : Operand) (x y a b : Int) (w : World) : (eqGuard op 69 p q (.agg #[.int .i64 x, .int .i64 y]) (.agg #[.int .i64 a, .int .i64 b])).run Try.prog w = .ok () w := by
  cases op <;> kernel_rfl
theorem eql69 (x y a b : Int) (w : World) : (binOp .eql 69 (.agg #[.int .i64 x, .int .i64 y]) (.agg #[.int .i64 a, .int .i64 b])).run Try.prog w = .ok (.bool (x == a && y == b)) w := by
  have h : binOp .eql 69 (.agg #[.int .i64 x, .int .i64 y]) (.agg #[.int .i64 a, .int .i64 b]) = (do pure (.bool (← Op.equal 69 (.agg #[.int .i64 x, .int .i64 y]) (.agg #[.int .i64 a, .int .i64 b])))) := rfl
  rw [h]
  simp only [Sem.run_bind, eq69, Result.andThen_ok, Sem.run_pure]
theorem neq69 (x y a b : Int) (w : World) : (binOp .neq 69 (.agg #[.int .i64 x, .int .i64 y]) (.agg #[.int .i64 a, .int .i64 b])).run Try.prog w = .ok (.bool (!(x == a && y == b))) w := by
  have h : binOp .neq 69 (.agg #[.int .i64 x, .int .i64 y]) (.agg #[.int .i64 a, .int .i64 b]) = (do pure (.bool (!(← Op.equal 69 (.agg #[.int .i64 x, .int .i64 y]) (.agg #[.int .i64 a, .int .i64 b]))))) := rfl
  rw [h]
  simp only [Sem.run_bind, eq69, Result.andThen_ok, Sem.run_pure]
theorem check69 (e : Bool) (x y : Int) (w : World) : (Instr.checkKey e 10000 69 (.agg #[.int .i64 x, .int .i64 y])).run Try.prog w = .ok () w := by
  cases e
  · kernel_rfl
  · kernel_rfl

/-! maps keyed by them -/
def entsF (val : Nat → Value) : Nat → List (Int × Int) → List MapEntry
  | _, [] => []
  | i, g :: G => ⟨gkey g, val i, i⟩ :: entsF val (i + 1) G
def findG : Nat → List (Int × Int) → Int × Int → Option Nat
  | _, [], _ => none
  | i, g :: G, k => if g = k then some i else findG (i + 1) G k
theorem findG_none {G : List (Int × Int)} {k : Int × Int} : ∀ i, findG i G k = none ↔ k ∉ G := by
  induction G with
  | nil => intro i; simp [findG]
  | cons g G ih =>
    intro i
    by_cases h : g = k
    · simp [findG, h]
    · simp only [findG, if_neg h, ih, List.mem_cons, not_or]
      exact ⟨fun h1 => ⟨fun e => h e.symm, h1⟩, fun h1 => h1.2⟩
theorem findG_some {G : List (Int × Int)} {k : Int × Int} : ∀ i j, findG i G k = some j → i ≤ j ∧ G[j - i]? = some k := by
  induction G with
  | nil => intro i j h; simp [findG] at h
  | cons g G ih =>
    intro i j h
    by_cases hg : g = k
    · simp only [findG, if_pos hg, Option.some.injEq] at h
      subst h; subst hg
      simp
    · simp only [findG, if_neg hg] at h
      obtain ⟨h1, h2⟩ := ih (i + 1) j h
      refine ⟨by omega, ?_⟩
      rw [show j - i = (j - (i + 1)) + 1 from by omega, List.getElem?_cons_succ]
      exact h2
theorem entsF_length (val : Nat → Value) : ∀ i (G : List (Int × Int)), (entsF val i G).length = G.length
  | _, [] => rfl
  | i, g :: G => by simp [entsF, entsF_length val (i + 1) G]
theorem entsF_snoc (val : Nat → Value) (k : Int × Int) : ∀ i (G : List (Int × Int)), entsF val i (G ++ [k]) = entsF val i G ++ [⟨gkey k, val (i + G.length), i + G.length⟩]
  | i, [] => rfl
  | i, g :: G => by simp [entsF, entsF_snoc val k (i + 1) G, show i + 1 + G.length = i + (G.length + 1) from by omega]
theorem entsF_get (val : Nat → Value) : ∀ i (G : List (Int × Int)) j, j < G.length → (entsF val i G)[j]? = some ⟨gkey (G.getD j (0, 0)), val (i + j), i + j⟩
  | _, [], j, h => by simp at h
  | i, g :: G, 0, _ => by simp [entsF]
  | i, g :: G, j + 1, h => by
    simp only [entsF, List.getElem?_cons_succ, List.getD_cons_succ]
    rw [entsF_get val (i + 1) G j (by simpa using h), show i + 1 + j = i + (j + 1) from by omega]
theorem run_findAsking (val : Nat → Value) (k : Int × Int) (w : World) : ∀ (G : List (Int × Int)) (i : Nat),
    (Instr.findAsking 69 (gkey k) (entsF val i G) i).run Try.prog w = .ok ((findG i G k).map fun j => (j, val j)) w := by
  intro G
  induction G with
  | nil => intro i; rfl
  | cons g G ih =>
    intro i
    obtain ⟨a, b⟩ := g
    obtain ⟨x, y⟩ := k
    simp only [entsF, Instr.findAsking, gkey, Sem.run_bind, eq69, Result.andThen_ok]
    by_cases h : ((a, b) : Int × Int) = (x, y)
    · obtain ⟨rfl, rfl⟩ := Prod.mk.inj h
      simp [findG]
    · have hf : (x == a && y == b) = false := by
        rw [Bool.and_eq_false_iff]
        simp only [beq_eq_false_iff_ne]
        by_cases hx : x = a
        · right; intro hy; exact h (by rw [hx, hy])
        · left; exact hx
      rw [hf]
      simp only [Bool.false_eq_true, if_false, findG, if_neg h]
      exact ih (i + 1)
theorem run_findKey (val : Nat → Value) (k : Int × Int) (w : World) (G : List (Int × Int)) :
    (Instr.findKey 69 (gkey k) (entsF val 0 G)).run Try.prog w = .ok ((findG 0 G k).map fun j => (j, val j)) w := by
  unfold Instr.findKey
  simp only [Sem.run_bind, run_underlying Try.underlying69, Result.andThen_ok]
  cases G with
  | nil => rfl
  | cons g G => exact run_findAsking val k w (g :: G) 0
/-- block mb is a map that holds under each gate what stands at its place -/
def MapAt (w : World) (mb : Nat) (val : Nat → Value) (G : List (Int × Int)) : Prop := w.heap[mb]? = some (.map (entsF val 0 G).toArray G.length)
theorem MapAt.lt {w : World} {mb : Nat} {val : Nat → Value} {G : List (Int × Int)} (h : MapAt w mb val G) : mb < w.heap.size := (Array.getElem?_eq_some_iff.1 h).1
theorem heap_alloc_old (w : World) (o : Obj) (b : Nat) (h : b < w.heap.size) : (w.alloc o).heap[b]? = w.heap[b]? := Below.heap_alloc w o b h
theorem MapAt.alloc {w : World} {mb : Nat} {val : Nat → Value} {G : List (Int × Int)} (h : MapAt w mb val G) (o : Obj) : MapAt (w.alloc o) mb val G := (heap_alloc_old w o mb h.lt).trans h
theorem MapAt.drewN {w : World} {mb : Nat} {val : Nat → Value} {G : List (Int × Int)} (h : MapAt w mb val G) (q : Nat) : MapAt (w.drewN q) mb val G := h
theorem MapAt.below {w w' : World} {mb : Nat} {val : Nat → Value} {G : List (Int × Int)} (hb : Below w.heap.size w w') (h : MapAt w mb val G) : MapAt w' mb val G := (hb.block mb h.lt).trans h
theorem MapAt.made (w : World) (val : Nat → Value) : MapAt (w.alloc (.map #[] 0)) w.heap.size val [] := by
  show (w.heap.push _)[w.heap.size]? = _
  rw [Array.getElem?_push_size]; rfl
theorem run_getMap {w : World} {mb : Nat} {es : Array MapEntry} {c : Nat} (h : w.heap[mb]? = some (.map es c)) : (getObj mb).run Try.prog w = .ok (.map es c) w := by
  unfold getObj Sem.run
  rw [h]; rfl
theorem run_setMap {w : World} {mb : Nat} {es : Array MapEntry} {c : Nat} (h : w.heap[mb]? = some (.map es c)) (o : Obj) : (setObj mb o).run Try.prog w = .ok () { w with heap := w.heap.setIfInBounds mb o } := by
  unfold setObj Sem.run
  rw [h]; rfl
theorem lookup_at {w : World} {mb : Nat} {val : Nat → Value} {G : List (Int × Int)} (h : MapAt w mb val G) (T E : TypeId) (hT : Try.prog.underlying T = some (.map 69 E)) (z : Value) (hz : ∀ w, (zeroValue E).run Try.prog w = .ok z w) (k : Int × Int) (ok : Bool) :
    (Instr.lookup T (.map (some mb)) (gkey k) ok).run Try.prog w = .ok (if ok then .tuple #[((findG 0 G k).map val).getD z, .bool (findG 0 G k).isSome] else ((findG 0 G k).map val).getD z) w := by
  unfold Instr.lookup
  simp only [Sem.run_bind, run_underlying hT, Result.andThen_ok, run_getMap h]
  have hc := check69 (entsF val 0 G).toArray.isEmpty k.1 k.2 w
  simp only [gkey] at *
  simp only [Sem.run_pure, Result.andThen_ok, hc]
  have hk := run_findKey val k w G
  simp only [gkey] at hk
  rw [hk]
  simp only [Result.andThen_ok]
  cases hf : findG 0 G k with
  | none => cases ok <;> simp [hz]
  | some j => cases ok <;> simp
/-- a store under a new key -/
theorem mapUpdate_at {w : World} {mb : Nat} {val : Nat → Value} {G : List (Int × Int)} (h : MapAt w mb val G) (T E : TypeId) (hT : Try.prog.underlying T = some (.map 69 E)) (k : Int × Int) (hk : k ∉ G) (v : Value) (hv : v = val G.length) :
    ∃ w', (Instr.mapUpdate T (.map (some mb)) (gkey k) v).run Try.prog w = .ok () w' ∧ MapAt w' mb val (G ++ [k]) ∧ w.grownBy w' (some mb) := by
  subst hv
  have hlt := h.lt
  refine ⟨{ w with heap := w.heap.setIfInBounds mb (.map ((entsF val 0 G).toArray.push ⟨gkey k, val G.length, G.length⟩) (G.length + 1)) }, ?_, ?_, ?_⟩
  · unfold Instr.mapUpdate
    have hc := check69 false k.1 k.2 w
    have hk' := run_findKey val k w G
    rw [(findG_none 0).2 hk] at hk'
    simp only [gkey] at *
    simp only [Sem.run_bind, run_underlying hT, Result.andThen_ok, run_getMap h, hc, hk', Option.map_none]
    exact run_setMap h _
  · show (w.heap.setIfInBounds mb _)[mb]? = _
    rw [Array.getElem?_setIfInBounds_self_of_lt hlt, entsF_snoc]
    simp
  · refine ⟨rfl, rfl, rfl, by simp, fun b hb hne => ?_⟩
    show (w.heap.setIfInBounds mb _)[b]? = _
    rw [Array.getElem?_setIfInBounds_ne]
    intro e; exact hne (by rw [e])
end Go.Proofs.Ytelbjendeldlcaa
