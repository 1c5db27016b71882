/- The builder of chapter 24: its state in memory, its state as plain data, and the small methods. No condition but the state's own bounds. -/
import Derived.Test.YtelbjendeldlcaaD
import Derived.Test.YtelbjendeldlcaaL
import Derived.Deep.AppendLies
import Derived.Maps.AppendAt
namespace Go.Proofs.Ytelbjendeldlcaa
open Go.RowKit

/-! ### The builder as plain data -/
structure PB where
  n : Int
  G : List (Int × Int)
  er : Int
def PB.N (s : PB) : Int := 2 * (1 + s.n + s.G.length)
def PB.lit (s : PB) (x : Int) : Prop := 0 ≤ x ∧ x < s.N
instance (s : PB) (x : Int) : Decidable (s.lit x) := by unfold PB.lit; infer_instance
def PB.fail (s : PB) (e : Int) : PB := if s.er = 0 then { s with er := e } else s
def PB.inp (s : PB) (i : Int) : PB × Int := if s.er ≠ 0 then (s, 0) else if i < 0 ∨ s.n ≤ i then ({ s with er := 1 }, 0) else (s, 2 * (i + 1))
def PB.pair (s : PB) (p q : Int) : PB × Int :=
  if p = 0 ∨ p = notI q then (s, 0) else if p = 1 ∨ p = q then (s, q) else
  match findG 0 s.G (p, q) with
  | some j => (s, 2 * (1 + s.n + j))
  | none => if 65536 ≤ 1 + s.n + s.G.length then ({ s with er := 8 }, 0) else ({ s with G := s.G ++ [(p, q)] }, 2 * (1 + s.n + s.G.length))
def PB.and (s : PB) (x y : Int) : PB × Int :=
  if s.er ≠ 0 then (s, 0) else if ¬ (s.lit x ∧ s.lit y) then ({ s with er := 1 }, 0) else s.pair (min x y) (max x y)
def PB.settle (s : PB) (x : Int) : Int := if s.er ≠ 0 then 0 else x
def PB.or (s : PB) (x y : Int) : PB × Int :=
  if s.er ≠ 0 then (s, 0) else if ¬ (s.lit x ∧ s.lit y) then ({ s with er := 1 }, 0) else
  ((s.and (notI x) (notI y)).1, (s.and (notI x) (notI y)).1.settle (notI (s.and (notI x) (notI y)).2))
def PB.both (s : PB) (c x d y : Int) : PB × Int :=
  let r1 := s.and c x
  let r2 := r1.1.and d y
  let r3 := r2.1.or r1.2 r2.2
  (r3.1, r3.1.settle r3.2)
def PB.xor (s : PB) (x y : Int) : PB × Int :=
  if s.er ≠ 0 then (s, 0) else if ¬ (s.lit x ∧ s.lit y) then ({ s with er := 1 }, 0) else s.both x (notI y) (notI x) y
def PB.mux (s : PB) (c x y : Int) : PB × Int :=
  if s.er ≠ 0 then (s, 0) else if ¬ (s.lit c ∧ s.lit x ∧ s.lit y) then ({ s with er := 1 }, 0) else s.both c x (notI c) y
/-- the bounds that every builder keeps -/
structure PB.Ok (s : PB) : Prop where
  lo : 0 ≤ s.n
  hi : s.n ≤ 1024
  size : 1 + s.n + s.G.length ≤ 65536

/-! ### A new entry by place, then its store -/
theorem zero3 (w : World) : (zeroValue 3).run Try.prog w = .ok (.int .i64 0) w := by kernel_rfl
theorem mapEntry_at {w : World} {mb : Nat} {val : Nat → Value} {G : List (Int × Int)} (h : MapAt w mb val G) (k : Int × Int) (hk : k ∉ G) :
    ∃ w', (Instr.mapEntry 71 (.map (some mb)) (gkey k)).run Try.prog w = .ok (.tuple #[.int .i64 0, .int .i64 G.length]) w' ∧
      w'.heap[mb]? = some (.map ((entsF val 0 G).toArray.push ⟨gkey k, .int .i64 0, G.length⟩) (G.length + 1)) ∧ w.grownBy w' (some mb) := by
  have hlt := h.lt
  refine ⟨{ w with heap := w.heap.setIfInBounds mb (.map ((entsF val 0 G).toArray.push ⟨gkey k, .int .i64 0, G.length⟩) (G.length + 1)) }, ?_, ?_, ?_⟩
  · unfold Instr.mapEntry
    have hc := check69 false k.1 k.2 w
    have hk' := run_findKey val k w G
    rw [(findG_none 0).2 hk] at hk'
    have hset := run_setMap h (.map ((entsF val 0 G).toArray.push ⟨gkey k, .int .i64 0, G.length⟩) (G.length + 1))
    simp only [gkey] at *
    simp only [Sem.run_bind, run_underlying Try.underlying71, Result.andThen_ok, run_getMap h, hc, hk', Option.map_none, zero3, hset]
    rfl
  · show (w.heap.setIfInBounds mb _)[mb]? = _
    rw [Array.getElem?_setIfInBounds_self_of_lt hlt]
  · refine ⟨rfl, rfl, rfl, by simp, fun b hb hne => ?_⟩
    show (w.heap.setIfInBounds mb _)[b]? = _
    rw [Array.getElem?_setIfInBounds_ne]
    intro e; exact hne (by rw [e])
theorem find_last (val : Nat → Value) (e : MapEntry) : ∀ (G : List (Int × Int)) (i : Nat), e.born = i + G.length → (entsF val i G ++ [e]).findIdx? (fun e => (e.born : Int) == ((i + G.length : Nat) : Int)) = some G.length
  | [], i, h => by simp [entsF, h]
  | g :: G, i, h => by
    have := find_last val e G (i + 1) (by rw [h]; simp; omega)
    simp only [entsF, List.cons_append, List.findIdx?_cons, List.length_cons]
    rw [show i + (G.length + 1) = i + 1 + G.length from by omega, this]
    have hne : ((i : Int) == ((i + 1 + G.length : Nat) : Int)) = false := by rw [beq_eq_false_iff_ne]; omega
    rw [hne]; rfl
theorem entryStore_at {w : World} {mb : Nat} {val : Nat → Value} {G : List (Int × Int)} {k : Int × Int} (h : w.heap[mb]? = some (.map ((entsF val 0 G).toArray.push ⟨gkey k, .int .i64 0, G.length⟩) (G.length + 1))) (v : Value) (hv : v = val G.length) :
    ∃ w', (Instr.entryStore 71 (.map (some mb)) (.int .i64 G.length) v).run Try.prog w = .ok () w' ∧ MapAt w' mb val (G ++ [k]) ∧ w.grownBy w' (some mb) := by
  subst hv
  have hlt : mb < w.heap.size := (Array.getElem?_eq_some_iff.1 h).1
  have hf := find_last val ⟨gkey k, .int .i64 0, G.length⟩ G 0 (by simp)
  simp only [Nat.zero_add] at hf
  have hpush : (entsF val 0 G).toArray.push ⟨gkey k, .int .i64 0, G.length⟩ = (entsF val 0 G ++ [(⟨gkey k, .int .i64 0, G.length⟩ : MapEntry)]).toArray := by simp
  rw [hpush] at h
  refine ⟨{ w with heap := w.heap.setIfInBounds mb (.map ((entsF val 0 (G ++ [k])).toArray) (G.length + 1)) }, ?_, ?_, ?_⟩
  · unfold Instr.entryStore
    have hset := run_setMap h (.map ((entsF val 0 (G ++ [k])).toArray) (G.length + 1))
    have hmod : ((entsF val 0 G ++ [(⟨gkey k, .int .i64 0, G.length⟩ : MapEntry)]).toArray.modify G.length fun e => { e with val := val G.length }) = (entsF val 0 (G ++ [k])).toArray := by
      rw [entsF_snoc]
      apply Array.ext'
      simp only [Array.toList_modify, Nat.zero_add]
      apply List.ext_getElem?
      intro n
      rw [List.getElem?_modify]
      by_cases hn : n < G.length
      · rw [List.getElem?_append_left (by rw [entsF_length]; exact hn), List.getElem?_append_left (by rw [entsF_length]; exact hn)]
        have hne : G.length ≠ n := by omega
        simp [hne]
      · rw [List.getElem?_append_right (by rw [entsF_length]; omega), List.getElem?_append_right (by rw [entsF_length]; omega), entsF_length]
        by_cases hn2 : n = G.length
        · subst hn2; simp
        · rw [List.getElem?_eq_none (by simp; omega), List.getElem?_eq_none (by simp; omega)]
          rfl
    have hint : (asInt (.int .i64 (G.length : Int))).run Try.prog w = .ok (G.length : Int) w := rfl
    simp only [Sem.run_bind, run_getMap h, Result.andThen_ok, hint, List.findIdx?_toArray, hf, hmod, hset]
  · show (w.heap.setIfInBounds mb _)[mb]? = _
    rw [Array.getElem?_setIfInBounds_self_of_lt hlt]
    simp
  · refine ⟨rfl, rfl, rfl, by simp, fun b hb hne => ?_⟩
    show (w.heap.setIfInBounds mb _)[b]? = _
    rw [Array.getElem?_setIfInBounds_ne]
    intro e; exact hne (by rw [e])

/-! ### The builder in memory -/
structure BSt (w : World) (bb mb : Nat) (A : Option Addr) (c : Nat) (s : PB) : Prop where
  row : w.heap[bb]? = some (.cells #[.int .i64 s.n, .slice A s.G.length c, .map (some mb), .int .i64 s.er] 73 (0, 0))
  own : w.ownsRow 0 69 2 (.slice A s.G.length c) s.G.length (gcells s.G)
  map : MapAt w mb (fun j => .int .i64 (1 + s.n + j)) s.G
  ok : s.Ok
/-- a block that is none of the builder's -/
def Apart (w : World) (bb mb : Nat) (A : Option Addr) (b : Nat) : Prop := b < w.heap.size ∧ b ≠ bb ∧ b ≠ mb ∧ ∀ a, A = some a → a.block ≠ b
structure Step (w w' : World) (bb mb : Nat) (A A' : Option Addr) : Prop where
  os : w'.os = w.os
  tape : w'.tape = w.tape
  output : w'.output = w.output
  size : w.heap.size ≤ w'.heap.size
  keep : ∀ b, Apart w bb mb A b → w'.heap[b]? = w.heap[b]?
  apart : ∀ b, Apart w bb mb A b → Apart w' bb mb A' b
theorem Step.trans {w w1 w2 : World} {bb mb : Nat} {A A1 A2 : Option Addr} (h : Step w w1 bb mb A A1) (k : Step w1 w2 bb mb A1 A2) : Step w w2 bb mb A A2 :=
  ⟨k.os.trans h.os, k.tape.trans h.tape, k.output.trans h.output, Nat.le_trans h.size k.size, fun b hb => (k.keep b (h.apart b hb)).trans (h.keep b hb), fun b hb => k.apart b (h.apart b hb)⟩
theorem Step.of_below {w w' : World} {bb mb : Nat} {A : Option Addr} (h : Below w.heap.size w w') : Step w w' bb mb A A :=
  ⟨h.os, h.tape, h.output, h.size, fun b hb => h.block b hb.1, fun _ hb => ⟨Nat.lt_of_lt_of_le hb.1 h.size, hb.2⟩⟩
theorem Step.refl (w : World) (bb mb : Nat) (A : Option Addr) : Step w w bb mb A A := .of_below (Below.refl _ _)

theorem cell_of_row' {w : World} {b : Nat} {cs : Array Value} {t : TypeId} {fz : Nat × Nat} (h : w.heap[b]? = some (.cells cs t fz)) (j : Nat) (v : Value) (hv : cs[j]? = some v) : w.cell? ⟨b, j, none⟩ = some v := by
  simp only [World.cell?, h]
  exact hv
theorem setCell_row {w : World} {b : Nat} {cs : Array Value} {t : TypeId} {fz : Nat × Nat} (h : w.heap[b]? = some (.cells cs t fz)) (j : Nat) (v : Value) : (w.setCell ⟨b, j, none⟩ v).heap[b]? = some (.cells (cs.setIfInBounds j v) t fz) := by
  simp only [World.setCell, Array.getElem?_modify, h]
  rfl
theorem BSt.c0 {w : World} {bb mb : Nat} {A : Option Addr} {c : Nat} {s : PB} (h : BSt w bb mb A c s) : w.cell? ⟨bb, 0, none⟩ = some (.int .i64 s.n) := cell_of_row' h.row 0 _ rfl
theorem BSt.c1 {w : World} {bb mb : Nat} {A : Option Addr} {c : Nat} {s : PB} (h : BSt w bb mb A c s) : w.cell? ⟨bb, 1, none⟩ = some (.slice A s.G.length c) := cell_of_row' h.row 1 _ rfl
theorem BSt.c2 {w : World} {bb mb : Nat} {A : Option Addr} {c : Nat} {s : PB} (h : BSt w bb mb A c s) : w.cell? ⟨bb, 2, none⟩ = some (.map (some mb)) := cell_of_row' h.row 2 _ rfl
theorem BSt.c3 {w : World} {bb mb : Nat} {A : Option Addr} {c : Nat} {s : PB} (h : BSt w bb mb A c s) : w.cell? ⟨bb, 3, none⟩ = some (.int .i64 s.er) := cell_of_row' h.row 3 _ rfl
theorem BSt.fz {w : World} {bb mb : Nat} {A : Option Addr} {c : Nat} {s : PB} (h : BSt w bb mb A c s) (j : Nat) : w.frozen? ⟨bb, j, none⟩ = false := by
  simp [World.frozen?, h.row]
theorem BSt.lt {w : World} {bb mb : Nat} {A : Option Addr} {c : Nat} {s : PB} (h : BSt w bb mb A c s) : bb < w.heap.size := (Array.getElem?_eq_some_iff.1 h.row).1
theorem own_below {w w1 : World} {base : Nat} {e : TypeId} {size n : Nat} {v : Value} {xs : List Value} (h : w.ownsRow base e size v n xs) (hb : Below w.heap.size w w1) : w1.ownsRow base e size v n xs :=
  h.kept (row := none) ⟨hb.os, hb.tape, hb.output, hb.size, fun i hi _ => hb.block i hi⟩ (by cases v.ownBlock <;> simp)
theorem BSt.below {w w' : World} {bb mb : Nat} {A : Option Addr} {c : Nat} {s : PB} (h : BSt w bb mb A c s) (hb : Below w.heap.size w w') : BSt w' bb mb A c s :=
  ⟨(hb.block bb h.lt).trans h.row, own_below h.own hb, h.map.below hb, h.ok⟩
/-- the builder's blocks differ -/
theorem BSt.ne_map {w : World} {bb mb : Nat} {A : Option Addr} {c : Nat} {s : PB} (h : BSt w bb mb A c s) : bb ≠ mb := by
  intro e; have h1 := h.row; have h2 := h.map; unfold MapAt at h2; rw [e, h2] at h1; cases h1
theorem BSt.row_ne {w : World} {bb mb : Nat} {A : Option Addr} {c : Nat} {s : PB} (h : BSt w bb mb A c s) (a : Addr) (ha : A = some a) : a.block ≠ bb ∧ a.block ≠ mb := by
  subst ha
  rcases h.own.2 with ⟨he, _⟩ | ⟨g, cap, cur, he, _, hh, _⟩
  · cases he
  · injection he with he; injection he with he; subst he
    refine ⟨fun e => ?_, fun e => ?_⟩
    · have h1 := h.row; dsimp only at e; rw [← e, hh] at h1; injection h1 with h1; injection h1 with _ h2 _; cases h2
    · have h2 := h.map; unfold MapAt at h2; dsimp only at e; rw [← e, hh] at h2; cases h2
/-- the error's cell is written -/
theorem BSt.setErr {w : World} {bb mb : Nat} {A : Option Addr} {c : Nat} {s : PB} (h : BSt w bb mb A c s) (e : Int) :
    BSt (w.setCell ⟨bb, 3, none⟩ (.int .i64 e)) bb mb A c { s with er := e } ∧ Step w (w.setCell ⟨bb, 3, none⟩ (.int .i64 e)) bb mb A A := by
  have hother : ∀ b, b ≠ bb → (w.setCell ⟨bb, 3, none⟩ (.int .i64 e)).heap[b]? = w.heap[b]? := fun b hb => Below.heap_setCell _ _ _ _ hb
  refine ⟨⟨?_, ?_, ?_, ⟨h.ok.lo, h.ok.hi, h.ok.size⟩⟩, ⟨rfl, rfl, rfl, by simp [World.setCell], fun b hb => hother b hb.2.1, fun b hb => ⟨by simpa [World.setCell] using hb.1, hb.2⟩⟩⟩
  · simp only [World.setCell, Array.getElem?_modify, h.row]
    rfl
  · refine h.own.kept (row := some bb) ⟨rfl, rfl, rfl, by simp [World.setCell], fun b hb hne => hother b (fun e => hne (by rw [e]))⟩ ?_
    cases hA : A with
    | none => left; rfl
    | some a =>
      right; intro he
      have := (h.row_ne a hA).1
      simp [Value.ownBlock] at he
      rcases h.own.2 with ⟨h1, _⟩ | ⟨g, cap, cur, h1, _⟩
      · rw [hA] at h1; cases h1
      · rw [hA] at h1; injection h1 with h1; injection h1 with h1; subst h1
        simp at he this; exact this he
  · show _ = _
    rw [hother mb h.ne_map.symm]; exact h.map

theorem Step.grown {w w' : World} {bb mb : Nat} {A A' : Option Addr} {n n' c c' : Nat} (h : w.grownBy w' (Value.slice A n c).ownBlock)
    (hat : (Value.slice A' n' c').ownBlock = (Value.slice A n c).ownBlock ∨ (Value.slice A' n' c').ownBlock = some w.heap.size) : Step w w' bb mb A A' := by
  have hne : ∀ b, Apart w bb mb A b → some b ≠ (Value.slice A n c).ownBlock := fun b hb e => by
    cases A with
    | none => cases e
    | some a => injection e with e; exact hb.2.2.2 a rfl e.symm
  refine ⟨h.os, h.tape, h.output, h.size, fun b hb => h.block b hb.1 (hne b hb), fun b hb => ⟨Nat.lt_of_lt_of_le hb.1 h.size, hb.2.1, hb.2.2.1, fun a ha e => ?_⟩⟩
  subst ha
  rcases hat with hat | hat
  · exact hne b hb (by rw [← hat, ← e]; rfl)
  · have : a.block = w.heap.size := by injection hat
    have := hb.1; omega
theorem Step.map {w w' : World} {bb mb : Nat} {A : Option Addr} (h : w.grownBy w' (some mb)) : Step w w' bb mb A A :=
  ⟨h.os, h.tape, h.output, h.size, fun b hb => h.block b hb.1 (fun e => hb.2.2.1 (by injection e)), fun _ hb => ⟨Nat.lt_of_lt_of_le hb.1 h.size, hb.2⟩⟩
theorem Step.cell (w : World) (bb mb j : Nat) (A : Option Addr) (v : Value) : Step w (w.setCell ⟨bb, j, none⟩ v) bb mb A A :=
  ⟨rfl, rfl, rfl, by simp [World.setCell], fun b hb => Below.heap_setCell _ _ _ _ hb.2.1, fun b hb => ⟨by simpa [World.setCell] using hb.1, hb.2⟩⟩
theorem info69 : (Try.prog.info? 69).map (fun i => (i.zero, i.size, i.bytes)) = some (some (.agg #[.int .i64 0, .int .i64 0]), 2, 16) := by kernel_rfl
theorem own_blk_lt {w : World} {base n c : Nat} {e : TypeId} {size : Nat} {A : Option Addr} {xs : List Value} (h : w.ownsRow base e size (.slice A n c) n xs) (a : Addr) (ha : A = some a) : a.block < w.heap.size := by
  subst ha
  rcases h.2 with ⟨he, _⟩ | ⟨g, cap, cur, he, _, hh, _⟩
  · cases he
  · injection he with he; injection he with he; subst he; exact (Array.getElem?_eq_some_iff.1 hh).1
theorem news_two (w : World) (x y : Value) (t : TypeId) : ∀ j u, [x, y][j]? = some u → (w.alloc (.cells #[x, y] t)).cell? ((⟨w.heap.size, 0, none⟩ : Addr).add j) = some u := by
  intro j u hj
  match j, hj with
  | 0, hj => simp at hj; subst hj; exact box_cell (Below.refl _ _) 0 _ rfl
  | 1, hj => simp at hj; subst hj; exact box_cell (Below.refl _ _) 1 _ rfl
/-- a gate is added: the row, the field, the map -/
theorem BSt.push {w4 w5 w6 w7 : World} {bb mb : Nat} {A A' : Option Addr} {c c' : Nat} {s : PB} {g : Int × Int}
    (hrow : w4.heap[bb]? = some (.cells #[.int .i64 s.n, .slice A s.G.length c, .map (some mb), .int .i64 s.er] 73 (0, 0)))
    (hown : w4.ownsRow 0 69 2 (.slice A' (s.G.length + 1) c') (s.G.length + 1) (gcells s.G ++ [.int .i64 g.1, .int .i64 g.2]))
    (h5 : w5 = w4.setCell ⟨bb, 1, none⟩ (.slice A' (s.G.length + 1) c')) (h6 : w5.grownBy w6 (some mb)) (h7 : w6.grownBy w7 (some mb)) (hne : bb ≠ mb) (hmap : MapAt w7 mb (fun j => .int .i64 (1 + s.n + j)) (s.G ++ [g]))
    (hmb : ∀ cs t fz, w4.heap[mb]? ≠ some (.cells cs t fz)) (hok : s.Ok) (hsz : 1 + s.n + s.G.length < 65536) : BSt w7 bb mb A' c' { s with G := s.G ++ [g] } := by
  have hlt : bb < w4.heap.size := (Array.getElem?_eq_some_iff.1 hrow).1
  have hlen : (s.G ++ [g]).length = s.G.length + 1 := by simp
  have hgc : gcells (s.G ++ [g]) = gcells s.G ++ [.int .i64 g.1, .int .i64 g.2] := by simp [gcells]
  have hA' : ∀ a, A' = some a → a.block ≠ bb ∧ a.block ≠ mb := fun a ha => by
    subst ha
    rcases hown.2 with ⟨he, _⟩ | ⟨g', cap, cur, he, _, hh, _⟩
    · cases he
    · injection he with he; injection he with he; subst he
      refine ⟨fun e => ?_, fun e => ?_⟩
      · dsimp only at e; rw [e, hrow] at hh; injection hh with hh; injection hh with _ h2 _; cases h2
      · dsimp only at e; rw [e] at hh; exact hmb _ _ _ hh
  have hkeep : ∀ b, b ≠ mb → b < w4.heap.size → w7.heap[b]? = w5.heap[b]? := fun b hb hbl => by
    have hs5 : w5.heap.size = w4.heap.size := by rw [h5]; simp [World.setCell]
    rw [h7.block b (by have := h6.size; omega) (fun e => hb (by injection e)), h6.block b (by omega) (fun e => hb (by injection e))]
  refine ⟨?_, ?_, hmap, ⟨hok.lo, hok.hi, by show 1 + s.n + ((s.G ++ [g]).length : Int) ≤ 65536; rw [hlen]; omega⟩⟩
  · show w7.heap[bb]? = some (.cells #[.int .i64 s.n, .slice A' (s.G ++ [g]).length c', .map (some mb), .int .i64 s.er] 73 (0, 0))
    rw [hkeep bb hne hlt, h5, hlen]
    simp only [World.setCell, Array.getElem?_modify, hrow]
    rfl
  · show w7.ownsRow 0 69 2 (.slice A' (s.G ++ [g]).length c') (s.G ++ [g]).length (gcells (s.G ++ [g]))
    rw [hlen, hgc]
    have ho5 : w5.ownsRow 0 69 2 (.slice A' (s.G.length + 1) c') (s.G.length + 1) (gcells s.G ++ [.int .i64 g.1, .int .i64 g.2]) := by
      refine hown.kept (row := some bb) ⟨by rw [h5]; rfl, by rw [h5]; rfl, by rw [h5]; rfl, by rw [h5]; simp [World.setCell], fun b hb hne' => by rw [h5]; exact Below.heap_setCell _ _ _ _ (fun e => hne' (by rw [e]))⟩ ?_
      cases hA : A' with
      | none => left; rfl
      | some a => right; intro e; injection e with e; exact (hA' a hA).1 e
    have hr : (Value.slice A' (s.G.length + 1) c').ownBlock = none ∨ (Value.slice A' (s.G.length + 1) c').ownBlock ≠ some mb := by
      cases hA : A' with
      | none => left; rfl
      | some a => right; intro e; injection e with e; exact (hA' a hA).2 e
    exact (ho5.kept h6 hr).kept h7 hr

def BPost (w : World) (bb mb : Nat) (A : Option Addr) (r : PB × Int) (e : Ending) (w' : World) : Prop :=
  e = .returned (.int .i64 r.2) ∧ ∃ A' c', BSt w' bb mb A' c' r.1 ∧ Step w w' bb mb A A'

theorem fail_any {w : World} {bb mb : Nat} {A : Option Addr} {c : Nat} {s : PB} (h : BSt w bb mb A c s) (k : Int) :
    Calls Try.prog 41 #[.pointer (some ⟨bb, 0, none⟩), .int .i64 k] w fun e w' => BPost w bb mb A (s.fail k, 0) e w' := by
  have h3 := h.c3; have hf := h.fz 3
  have H := hid h; clear h
  by_cases h0 : (s.er == 0) = true
  · go_enter Try.func41, Try.ntmps41
    go_wp2
    go_ret
    refine ⟨rfl, A, c, ?_, (H.out.setErr k).2⟩
    have e0 : s.er = 0 := by simpa using h0
    unfold PB.fail; rw [if_pos e0]; exact (H.out.setErr k).1
  · have h0' : (s.er == 0) = false := by simpa using h0
    clear h0
    go_enter Try.func41, Try.ntmps41
    go_wp2
    go_ret
    refine ⟨rfl, A, c, ?_, Step.refl _ _ _ _⟩
    have e0 : s.er ≠ 0 := by simpa using h0'
    unfold PB.fail; rw [if_neg e0]; exact H.out
theorem err_any {w : World} {bb mb : Nat} {A : Option Addr} {c : Nat} {s : PB} (h : BSt w bb mb A c s) :
    Calls Try.prog 19 #[.pointer (some ⟨bb, 0, none⟩)] w fun e w' => e = .returned (.int .i64 s.er) ∧ w = w' := by
  have h3 := h.c3
  clear h
  go_enter Try.func19, Try.ntmps19
  go_wp2
  go_ret
  exact ⟨rfl, rfl⟩
theorem len_any {w : World} {bb mb : Nat} {A : Option Addr} {c : Nat} {s : PB} (h : BSt w bb mb A c s) :
    Calls Try.prog 20 #[.pointer (some ⟨bb, 0, none⟩)] w fun e w' => e = .returned (.int .i64 (1 + s.n + s.G.length)) ∧ Below w.heap.size w w' := by
  have h0 := h.c0; have h1 := h.c1
  have hn : nodesI s.n s.G.length = 1 + s.n + s.G.length := by have := h.ok.lo; have := h.ok.hi; have := h.ok.size; unfold nodesI wrap64; omega
  have HN := hid hn
  clear h hn
  go_enter Try.func20, Try.ntmps20
  go_wp2_with (go_at_call 40; refine (nodes_any _ _ _ _ _).mono ?_; rintro e w1 ⟨rfl, hb1⟩; rw [HN.out])
  go_ret
  exact ⟨rfl, hb1⟩
theorem settle_any {w : World} {bb mb : Nat} {A : Option Addr} {c : Nat} {s : PB} (h : BSt w bb mb A c s) (x : Int) :
    Calls Try.prog 53 #[.pointer (some ⟨bb, 0, none⟩), .int .i64 x] w fun e w' => e = .returned (.int .i64 (s.settle x)) ∧ w = w' := by
  have h3 := h.c3
  clear h
  by_cases h0 : (s.er != 0) = true
  · go_enter Try.func53, Try.ntmps53
    go_wp2
    go_ret
    have e0 : s.er ≠ 0 := by simpa using h0
    exact ⟨by unfold PB.settle; rw [if_pos e0]; rfl, rfl⟩
  · have h0' : (s.er != 0) = false := by simpa using h0
    clear h0
    go_enter Try.func53, Try.ntmps53
    go_wp2
    go_ret
    have e0 : ¬ s.er ≠ 0 := by simpa using h0'
    exact ⟨by unfold PB.settle; rw [if_neg e0]; rfl, rfl⟩
theorem input_any {w : World} {bb mb : Nat} {A : Option Addr} {c : Nat} {s : PB} (h : BSt w bb mb A c s) (i : Int) :
    Calls Try.prog 16 #[.pointer (some ⟨bb, 0, none⟩), .int .i64 i] w fun e w' => BPost w bb mb A (s.inp i) e w' := by
  have h3 := h.c3; have h1 := h.c0; have hi := h.ok.hi
  have H := hid h; clear h
  by_cases h0 : (s.er != 0) = true
  · go_enter Try.func16, Try.ntmps16
    go_wp2
    go_ret
    have e0 : s.er ≠ 0 := by simpa using h0
    unfold PB.inp; rw [if_pos e0]; exact ⟨rfl, A, c, H.out, Step.refl _ _ _ _⟩
  · have h0' : (s.er != 0) = false := by simpa using h0
    have e0 : ¬ s.er ≠ 0 := by simpa using h0
    have E0 := hid e0; clear h0 e0
    have hfail : s.fail 1 = { s with er := 1 } := by unfold PB.fail; rw [if_pos (by simpa using E0.out)]
    have HF := hid hfail; clear hfail
    by_cases q1 : i < 0
    · go_enter Try.func16, Try.ntmps16
      go_wp2_with (go_at_call 41; refine (fail_any H.out 1).mono ?_; rintro e w1 ⟨rfl, A1, c1, hs, st⟩)
      go_ret
      unfold PB.inp; rw [if_neg E0.out, if_pos (Or.inl q1)]; rw [HF.out] at hs; exact ⟨rfl, A1, c1, hs, st⟩
    by_cases q2 : s.n ≤ i
    · go_enter Try.func16, Try.ntmps16
      go_wp2_with (go_at_call 41; refine (fail_any H.out 1).mono ?_; rintro e w1 ⟨rfl, A1, c1, hs, st⟩)
      go_ret
      unfold PB.inp; rw [if_neg E0.out, if_pos (Or.inr q2)]; rw [HF.out] at hs; exact ⟨rfl, A1, c1, hs, st⟩
    · go_enter Try.func16, Try.ntmps16
      go_wp2
      go_ret
      unfold PB.inp; rw [if_neg E0.out, if_neg (by omega)]; exact ⟨rfl, A, c, H.out, Step.refl _ _ _ _⟩
theorem new_no (n : Int) (w : World) (h : n < 0 ∨ 1024 < n) :
    Calls Try.prog 15 #[.int .i64 n] w fun e w' => e = .returned (.tuple #[.pointer none, .int .i64 1]) ∧ w = w' := by
  rcases h with h | h
  · go_enter Try.func15, Try.ntmps15
    go_wp2
    go_ret2
    exact ⟨rfl, rfl⟩
  · have h' : ¬ n < 0 := by omega
    go_enter Try.func15, Try.ntmps15
    go_wp2
    go_ret2
    exact ⟨rfl, rfl⟩
theorem new_yes (n : Int) (w : World) (h : 0 ≤ n) (h' : n ≤ 1024) :
    Calls Try.prog 15 #[.int .i64 n] w fun e w' => ∃ bb mb, e = .returned (.tuple #[.pointer (some ⟨bb, 0, none⟩), .int .i64 0]) ∧ w.heap.size ≤ bb ∧ w.heap.size ≤ mb ∧ BSt w' bb mb none 0 ⟨n, [], 0⟩ ∧ Below w.heap.size w w' := by
  have hmm := @run_makeMap Try.prog
  go_enter Try.func15, Try.ntmps15
  go_wp2
  go_ret2
  refine ⟨w.heap.size + 1, w.heap.size, rfl, by omega, by omega, ?_, bthen (below_alloc _ _) (below_alloc _ _)⟩
  refine ⟨?_, World.ownsRow_nil _ _ _ _, (MapAt.made _ _).alloc _, ⟨h, h', by simp; omega⟩⟩
  show ((w.heap.push _).push _)[w.heap.size + 1]? = _
  rw [show w.heap.size + 1 = (w.heap.push (.map #[] 0)).size from by simp, Array.getElem?_push_size]
  rfl
end Go.Proofs.Ytelbjendeldlcaa
