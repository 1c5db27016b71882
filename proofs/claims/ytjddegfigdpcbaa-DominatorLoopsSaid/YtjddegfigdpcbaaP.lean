/- A map from numbers to lists, each of which owns its block. -/
import Derived.Test.YtjddegfigdpcbaaO
namespace Go.Proofs.Ytjddegfigdpcbaa
open Go.RowKit

def entsI (ks : List Nat) (vs : List (Option Addr × Nat)) (bs : List (List Int)) : List MapEntry := (List.range ks.length).map fun i => ⟨.int .i64 (ks.getD i 0 : Nat), sval vs bs i, i⟩
def posI : List Nat → Nat → Nat → Option Nat
  | [], _, _ => none
  | k :: ks, h, i => if h = k then some i else posI ks h (i + 1)
theorem posI_some : ∀ (ks : List Nat) (h i j : Nat), posI ks h i = some j → i ≤ j ∧ j - i < ks.length ∧ ks.getD (j - i) 0 = h := by
  intro ks
  induction ks with
  | nil => intro h i j e; simp [posI] at e
  | cons k ks ih =>
    intro h i j e
    unfold posI at e
    split at e
    · injection e with e; subst e; rename_i hk; subst hk; simp
    · obtain ⟨h1, h2, h3⟩ := ih h (i + 1) j e
      refine ⟨by omega, by simp; omega, ?_⟩
      rw [show j - i = (j - (i + 1)) + 1 from by omega, List.getD_cons_succ]; exact h3
theorem posI_snoc : ∀ (ks : List Nat) (h k i : Nat), posI (ks ++ [k]) h i = (posI ks h i).orElse fun _ => if h = k then some (i + ks.length) else none := by
  intro ks
  induction ks with
  | nil => intro h k i; simp [posI]
  | cons a ks ih =>
    intro h k i
    simp only [List.cons_append, posI]
    split
    · rfl
    · rw [ih, List.length_cons, show i + 1 + ks.length = i + (ks.length + 1) from by omega]
/-- what the map holds under a number -/
def getS (ks : List Nat) (bs : List (List Int)) (h : Nat) : List Int := ((posI ks h 0).map fun i => bs.getD i []).getD []
structure MpI (w : World) (B mb : Nat) (ks : List Nat) (vs : List (Option Addr × Nat)) (bs : List (List Int)) : Prop where
  map : w.heap[mb]? = some (.map (entsI ks vs bs).toArray ks.length)
  own : OwnL w B vs bs
  len : bs.length = ks.length
  inj : ∀ i j, i < ks.length → j < ks.length → ks.getD i 0 = ks.getD j 0 → i = j
theorem run_findNow (h : Nat) (f : Nat → Value) : ∀ (ks : List Nat) (i : Nat),
    Instr.findNow (.int .i64) (.int .i64 (h : Int)) ((List.range ks.length).map fun j => (⟨.int .i64 (ks.getD j 0 : Nat), f (i + j), i + j⟩ : MapEntry)) i = some ((posI ks h i).map fun j => (j, f j)) := by
  intro ks
  induction ks with
  | nil => intro i; rfl
  | cons k ks ih =>
    intro i
    rw [List.length_cons, List.range_succ_eq_map, List.map_cons, List.map_map]
    simp only [Instr.findNow, Instr.sameNow, List.getD_cons_zero, if_true]
    by_cases hk : h = k
    · subst hk; simp [posI]
    · have : ((h : Int) == (k : Int)) = false := by simp; omega
      rw [this]
      simp only [posI, if_neg hk]
      rw [← ih (i + 1)]
      congr 1
      refine List.map_congr_left fun j _ => ?_
      simp only [Function.comp, List.getD_cons_succ, show i + (j + 1) = i + 1 + j from by omega]
theorem run_findKeyI (h : Nat) (ks : List Nat) (vs : List (Option Addr × Nat)) (bs : List (List Int)) (w : World) :
    (Instr.findKey 3 (.int .i64 (h : Int)) (entsI ks vs bs)).run Try.prog w = .ok ((posI ks h 0).map fun j => (j, sval vs bs j)) w := by
  unfold Instr.findKey
  simp only [Sem.run_bind, run_underlying Try.underlying3, Result.andThen_ok]
  have := run_findNow h (sval vs bs) ks 0
  simp only [Nat.zero_add] at this
  unfold entsI
  rw [this]
  rfl
theorem checkI (e : Bool) (x : Int) (w : World) : (Instr.checkKey e 10000 3 (.int .i64 x)).run Try.prog w = .ok () w := by
  cases e <;> kernel_rfl
theorem zero29 (w : World) : (zeroValue 29).run Try.prog w = .ok (.slice none 0 0) w := by kernel_rfl
theorem run_getMap {w : World} {mb : Nat} {es : Array MapEntry} {c : Nat} (h : w.heap[mb]? = some (.map es c)) : (getObj mb).run Try.prog w = .ok (.map es c) w := by
  unfold getObj Sem.run
  rw [h]; rfl
theorem run_setMap {w : World} {mb : Nat} {es : Array MapEntry} {c : Nat} (h : w.heap[mb]? = some (.map es c)) (o : Obj) : (setObj mb o).run Try.prog w = .ok () { w with heap := w.heap.setIfInBounds mb o } := by
  unfold setObj Sem.run
  rw [h]; rfl
section
variable {w : World} {B mb : Nat} {ks : List Nat} {vs : List (Option Addr × Nat)} {bs : List (List Int)}
theorem MpI.lt (h : MpI w B mb ks vs bs) : mb < w.heap.size := (Array.getElem?_eq_some_iff.1 h.map).1
theorem MpI.below (h : MpI w B mb ks vs bs) {w' : World} (hb : Below w.heap.size w w') : MpI w' B mb ks vs bs := ⟨(hb.block mb h.lt).trans h.map, h.own.below hb, h.len, h.inj⟩
theorem MpI.look (h : MpI w B mb ks vs bs) (k : Nat) {w' : World} (hm : w'.heap[mb]? = w.heap[mb]?) :
    (Instr.lookup 66 (.map (some mb)) (.int .i64 (k : Int)) false).run Try.prog w' = .ok (((posI ks k 0).map (sval vs bs)).getD (.slice none 0 0)) w' := by
  unfold Instr.lookup
  simp only [Sem.run_bind, run_underlying Try.underlying66, Result.andThen_ok, run_getMap (hm.trans h.map), Sem.run_pure, checkI]
  rw [run_findKeyI]
  simp only [Result.andThen_ok]
  cases hf : posI ks k 0 with
  | none => simp [zero29]
  | some j => simp
theorem entsI_length (ks : List Nat) (vs : List (Option Addr × Nat)) (bs : List (List Int)) : (entsI ks vs bs).length = ks.length := by simp [entsI]
/-- a list under an old number -/
theorem MpI.upd_old (h : MpI w B mb ks vs bs) (k i : Nat) (hp : posI ks k 0 = some i) {w4 : World} {A4 : Option Addr} {c4 : Nat} {x : Int} (hm : w4.heap[mb]? = w.heap[mb]?)
    (ho : OwnL w4 B (vs.set i (A4, c4)) (bs.set i (bs.getD i [] ++ [x]))) :
    ∃ w5, (Instr.mapUpdate 66 (.map (some mb)) (.int .i64 (k : Int)) (.slice A4 ((bs.getD i []).length + 1) c4)).run Try.prog w4 = .ok () w5 ∧ MpI w5 B mb ks (vs.set i (A4, c4)) (bs.set i (bs.getD i [] ++ [x])) ∧ w4.grownBy w5 (some mb) := by
  obtain ⟨_, hi, hk⟩ := posI_some ks k 0 i hp
  simp only [Nat.sub_zero] at hi hk
  have hmap4 := hm.trans h.map
  have hlt : mb < w4.heap.size := (Array.getElem?_eq_some_iff.1 hmap4).1
  have hent : (entsI ks vs bs).toArray[i]? = some ⟨.int .i64 (k : Int), sval vs bs i, i⟩ := by
    rw [List.getElem?_toArray]; unfold entsI; rw [List.getElem?_map, List.getElem?_range hi]; simp only [Option.map_some]; rw [hk]
  have hne : ∀ j, j < (bs.set i (bs.getD i [] ++ [x])).length → (sval (vs.set i (A4, c4)) (bs.set i (bs.getD i [] ++ [x])) j).ownBlock ≠ some mb := fun j hj e => by
    rcases (ho.own j hj).2 with ⟨h1, _⟩ | ⟨g, cap, cur, h1, _, hh, _⟩
    · rw [h1] at e; cases e
    · rw [h1] at e; injection e with e; subst e; rw [hmap4] at hh; cases hh
  refine ⟨{ w4 with heap := w4.heap.setIfInBounds mb (.map ((entsI ks vs bs).toArray.modify i fun e => { e with key := .int .i64 (k : Int), val := .slice A4 ((bs.getD i []).length + 1) c4 }) ks.length) }, ?_, ⟨?_, ?_, by rw [List.length_set]; exact h.len, h.inj⟩, ?_⟩
  · unfold Instr.mapUpdate
    simp only [Sem.run_bind, run_underlying Try.underlying66, Result.andThen_ok, run_getMap hmap4, checkI]
    rw [run_findKeyI, hp]
    have hst : (Instr.keyThatStays (.int .i64 (k : Int)) (.int .i64 (k : Int))).run Try.prog w4 = .ok (.int .i64 (k : Int)) w4 := by
      unfold Instr.keyThatStays
      simp [Instr.sameBits]
    simp only [Option.map_some, Result.andThen_ok, hent, Option.getD_some, Sem.run_bind, hst]
    exact run_setMap hmap4 _
  · show (w4.heap.setIfInBounds mb _)[mb]? = _
    rw [Array.getElem?_setIfInBounds_self_of_lt hlt]
    congr 2
    apply Array.ext_getElem?
    intro j
    rw [Array.getElem?_modify]
    simp only [entsI, List.getElem?_toArray, List.getElem?_map]
    by_cases hj : j < ks.length
    · simp only [List.getElem?_range hj, Option.map_some]
      by_cases hij : i = j
      · subst hij
        simp only [if_true, Option.map_some, hk]
        rw [sval_set vs bs i (by rw [h.own.len, h.len]; exact hi) (by rw [h.len]; exact hi)]
        simp
      · rw [if_neg hij, sval_other vs bs i j hij]
    · simp [hj]
  · exact ⟨ho.len, fun j hj => (ho.own j hj).kept (row := some mb) ⟨rfl, rfl, rfl, by simp, fun b hb hne => by show (w4.heap.setIfInBounds mb _)[b]? = _; rw [Array.getElem?_setIfInBounds_ne]; intro e; exact hne (by rw [e])⟩ (.inr (hne j hj)), ho.apart⟩
  · refine ⟨rfl, rfl, rfl, by simp, fun b hb hne => ?_⟩
    show (w4.heap.setIfInBounds mb _)[b]? = _
    rw [Array.getElem?_setIfInBounds_ne]
    intro e; exact hne (by rw [e])
theorem getD_append_old {α : Type} (l : List α) (a d : α) (i : Nat) (h : i < l.length) : (l ++ [a]).getD i d = l.getD i d := by
  rw [List.getD_eq_getElem?_getD, List.getElem?_append_left h, ← List.getD_eq_getElem?_getD]
theorem getD_append_new {α : Type} (l : List α) (a d : α) : (l ++ [a]).getD l.length d = a := by
  rw [List.getD_eq_getElem?_getD, List.getElem?_append_right (Nat.le_refl _)]; simp
theorem posI_none : ∀ (ks : List Nat) (h i : Nat), posI ks h i = none → ∀ j, j < ks.length → ks.getD j 0 ≠ h := by
  intro ks
  induction ks with
  | nil => intro h i _ j hj; simp at hj
  | cons k ks ih =>
    intro h i e j hj
    unfold posI at e
    split at e
    · cases e
    · rename_i hk
      cases j with
      | zero => simpa using fun e => hk e.symm
      | succ j => simpa using ih h (i + 1) e j (by simpa using hj)
/-- a list under a new number -/
theorem MpI.upd_new (h : MpI w B mb ks vs bs) (k : Nat) (hp : posI ks k 0 = none) {w4 : World} {A4 : Option Addr} {c4 : Nat} {x : Int} (hg : w.grownBy w4 none)
    (ho : w4.ownsRow B 3 1 (.slice A4 1 c4) 1 (ints [x])) (hat : (Value.slice A4 1 c4).ownBlock = none ∨ (Value.slice A4 1 c4).ownBlock = some w.heap.size) :
    ∃ w5, (Instr.mapUpdate 66 (.map (some mb)) (.int .i64 (k : Int)) (.slice A4 1 c4)).run Try.prog w4 = .ok () w5 ∧ MpI w5 B mb (ks ++ [k]) (vs ++ [(A4, c4)]) (bs ++ [[x]]) ∧ w4.grownBy w5 (some mb) := by
  have hmap4 := (hg.block mb h.lt (by intro e; cases e)).trans h.map
  have hlt : mb < w4.heap.size := (Array.getElem?_eq_some_iff.1 hmap4).1
  have hvl := h.own.len
  have hsv : ∀ j, j < bs.length → sval (vs ++ [(A4, c4)]) (bs ++ [[x]]) j = sval vs bs j := fun j hj => by unfold sval; rw [getD_append_old _ _ _ _ hj, getD_append_old _ _ _ _ (by rw [hvl]; exact hj)]
  have hsn : sval (vs ++ [(A4, c4)]) (bs ++ [[x]]) bs.length = .slice A4 1 c4 := by
    unfold sval; rw [getD_append_new]
    have := getD_append_new vs (A4, c4) (none, 0)
    rw [hvl] at this; rw [this]; rfl
  have hown4 : OwnL w4 B (vs ++ [(A4, c4)]) (bs ++ [[x]]) := by
    have hold := fun j hj => (h.own.own j hj).kept hg (by cases (sval vs bs j).ownBlock <;> simp)
    refine ⟨by simp [hvl], fun j hj => ?_, fun i j hi hj hij => ?_⟩
    · by_cases hjl : j < bs.length
      · rw [hsv j hjl, getD_append_old _ _ _ _ hjl]; exact hold j hjl
      · obtain rfl : j = bs.length := by simp at hj; omega
        rw [hsn, getD_append_new]; exact ho
    · have hlts : ∀ m, m < bs.length → ∀ q, (sval vs bs m).ownBlock = some q → q < w.heap.size := fun m hm q hq => ((h.own.own m hm).lt q hq).2
      by_cases hil : i < bs.length
      · rw [hsv i hil]
        by_cases hjl : j < bs.length
        · rw [hsv j hjl]; exact h.own.apart i j hil hjl hij
        · obtain rfl : j = bs.length := by simp at hj; omega
          rw [hsn]
          cases hq : (sval vs bs i).ownBlock with
          | none => left; rfl
          | some q =>
            right
            have := hlts i hil q hq
            rcases hat with hat | hat
            · rw [hat]; intro e; cases e
            · rw [hat]; intro e; injection e with e; omega
      · obtain rfl : i = bs.length := by simp at hi; omega
        rw [hsn]
        have hjl : j < bs.length := by simp at hj; omega
        rw [hsv j hjl]
        rcases hat with hat | hat
        · exact .inl hat
        · right; rw [hat]; intro e; have := hlts j hjl _ e.symm; omega
  have hne : ∀ j, j < (bs ++ [[x]]).length → (sval (vs ++ [(A4, c4)]) (bs ++ [[x]]) j).ownBlock ≠ some mb := fun j hj e => by
    rcases (hown4.own j hj).2 with ⟨h1, _⟩ | ⟨g, cap, cur, h1, _, hh, _⟩
    · rw [h1] at e; cases e
    · rw [h1] at e; injection e with e; subst e; rw [hmap4] at hh; cases hh
  refine ⟨{ w4 with heap := w4.heap.setIfInBounds mb (.map ((entsI ks vs bs).toArray.push ⟨.int .i64 (k : Int), .slice A4 1 c4, ks.length⟩) (ks.length + 1)) }, ?_, ⟨?_, ?_, by simp [h.len], ?_⟩, ?_⟩
  · unfold Instr.mapUpdate
    simp only [Sem.run_bind, run_underlying Try.underlying66, Result.andThen_ok, run_getMap hmap4, checkI]
    rw [run_findKeyI, hp]
    simp only [Option.map_none, Result.andThen_ok]
    exact run_setMap hmap4 _
  · show (w4.heap.setIfInBounds mb _)[mb]? = _
    rw [Array.getElem?_setIfInBounds_self_of_lt hlt, List.length_append, List.length_singleton]
    congr 2
    rw [List.push_toArray]
    congr 1
    unfold entsI
    rw [List.length_append, List.length_singleton, List.range_succ, List.map_append, List.map_singleton]
    congr 1
    · refine List.map_congr_left fun j hj => ?_
      have hj := List.mem_range.1 hj
      rw [hsv j (by rw [h.len]; exact hj), getD_append_old _ _ _ _ hj]
    · rw [getD_append_new, ← h.len, hsn]
  · exact ⟨hown4.len, fun j hj => (hown4.own j hj).kept (row := some mb) ⟨rfl, rfl, rfl, by simp, fun b hb hne => by show (w4.heap.setIfInBounds mb _)[b]? = _; rw [Array.getElem?_setIfInBounds_ne]; intro e; exact hne (by rw [e])⟩ (.inr (hne j hj)), hown4.apart⟩
  · have hnp := posI_none ks k 0 hp
    intro i j hi hj e
    simp only [List.length_append, List.length_singleton] at hi hj
    by_cases hil : i < ks.length
    · rw [getD_append_old _ _ _ _ hil] at e
      by_cases hjl : j < ks.length
      · rw [getD_append_old _ _ _ _ hjl] at e; exact h.inj i j hil hjl e
      · obtain rfl : j = ks.length := by omega
        rw [getD_append_new] at e; exact absurd e (hnp i hil)
    · obtain rfl : i = ks.length := by omega
      rw [getD_append_new] at e
      by_cases hjl : j < ks.length
      · rw [getD_append_old _ _ _ _ hjl] at e; exact absurd e.symm (hnp j hjl)
      · omega
  · refine ⟨rfl, rfl, rfl, by simp, fun b hb hne => ?_⟩
    show (w4.heap.setIfInBounds mb _)[b]? = _
    rw [Array.getElem?_setIfInBounds_ne]
    intro e; exact hne (by rw [e])
theorem getS_old (ks : List Nat) (bs : List (List Int)) (k i : Nat) (x : Int) (hp : posI ks k 0 = some i) (hl : bs.length = ks.length) (hinj : ∀ i j, i < ks.length → j < ks.length → ks.getD i 0 = ks.getD j 0 → i = j) (h : Nat) :
    getS ks (bs.set i (bs.getD i [] ++ [x])) h = if h = k then getS ks bs k ++ [x] else getS ks bs h := by
  obtain ⟨_, hi, hk⟩ := posI_some ks k 0 i hp
  simp only [Nat.sub_zero] at hi hk
  unfold getS
  by_cases hh : h = k
  · subst hh
    rw [if_pos rfl, hp]
    simp only [Option.map_some, Option.getD_some]
    rw [getD_set_same _ _ (by rw [hl]; exact hi)]
  · rw [if_neg hh]
    cases hq : posI ks h 0 with
    | none => rfl
    | some j =>
      obtain ⟨_, hj, hkj⟩ := posI_some ks h 0 j hq
      simp only [Nat.sub_zero] at hj hkj
      simp only [Option.map_some, Option.getD_some]
      rw [getD_set_other]
      intro e; subst e; exact hh (hkj.symm.trans hk)
theorem getS_new (ks : List Nat) (bs : List (List Int)) (k : Nat) (x : Int) (hp : posI ks k 0 = none) (hl : bs.length = ks.length) (h : Nat) :
    getS (ks ++ [k]) (bs ++ [[x]]) h = if h = k then getS ks bs k ++ [x] else getS ks bs h := by
  unfold getS
  rw [posI_snoc]
  by_cases hh : h = k
  · subst hh
    rw [if_pos rfl, hp]
    simp only [Option.orElse_none, if_true, Nat.zero_add, Option.map_some, Option.getD_some, Option.map_none, Option.getD_none, List.nil_append]
    rw [← hl, getD_append_new]
  · rw [if_neg hh]
    cases hq : posI ks h 0 with
    | none => simp [hh]
    | some j =>
      obtain ⟨_, hj, _⟩ := posI_some ks h 0 j hq
      simp only [Nat.sub_zero] at hj
      simp only [Option.orElse_some, Option.map_some, Option.getD_some]
      rw [getD_append_old _ _ _ _ (by rw [hl]; exact hj)]
      simp [hh]
end
end Go.Proofs.Ytjddegfigdpcbaa
