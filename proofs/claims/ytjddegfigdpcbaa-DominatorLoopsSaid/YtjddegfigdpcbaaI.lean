/- graph.relation: for each point which points it dominates. -/
import Derived.Test.YtjddegfigdpcbaaH
namespace Go.Proofs.Ytjddegfigdpcbaa
open Go.RowKit

theorem info59 : (Try.prog.info? 59).map (fun i => (i.zero, i.size, i.bytes)) = some (some (.slice none 0 0), 1, 24) := by kernel_rfl
theorem run_rows (n : Nat) (h : n ≤ 70000) (w : World) : (Instr.makeSlice 61 (.int .i64 n) (.int .i64 n)).run Try.prog w = .ok (.slice (some ⟨w.heap.size, 0, none⟩) n n) (w.alloc (.cells (Array.replicate n (Value.slice none 0 0)) 59)) := by
  obtain ⟨i0, hi, hz0, hz1, hz2⟩ := info_parts info59
  have := run_makeSlice (P := Try.prog) w 61 59 i0 (.slice none 0 0) Try.underlying61 hi hz0 .i64 .i64 n n (by omega) (Int.le_refl _) (by rw [hz1]; simp; omega) (by rw [hz2]; omega) (by omega)
  rw [this, hz1]
  simp only [Int.toNat_natCast]
  rw [made_nils]
/-- the relation: a is reached and dominates b -/
def relF (G : List (List Int)) (root a b : Nat) : Bool := (reachB G (-1) [(root : Int)]).getD a false && domB G root a b
def relL (G : List (List Int)) (root a : Nat) : List Bool := (List.range G.length).map (relF G root a)
/-- rows of bools, one block each, the first k of them -/
structure MRow (w : World) (ob n : Nat) (rbs : List Nat) (R : Nat → List Bool) (k : Nat) : Prop where
  row : BlkAt w ob 59 ((List.range n).map fun a => if a < k then Value.slice (some ⟨rbs.getD a 0, 0, none⟩) n n else Value.slice none 0 0)
  marks : ∀ a, a < k → MarksAt w (rbs.getD a 0) (R a)
  len : rbs.length = k
theorem MRow.below {w w' : World} {ob n : Nat} {rbs : List Nat} {R : Nat → List Bool} {k : Nat} (h : MRow w ob n rbs R k) (hb : Below w.heap.size w w') : MRow w' ob n rbs R k :=
  ⟨h.row.below hb, fun a ha => BlkAt.below (h.marks a ha) hb, h.len⟩
theorem MRow.cell {w : World} {ob n : Nat} {rbs : List Nat} {R : Nat → List Bool} {k : Nat} (h : MRow w ob n rbs R k) (a : Nat) (ha : a < k) (hn : a < n) : w.cell? ⟨ob, a, none⟩ = some (.slice (some ⟨rbs.getD a 0, 0, none⟩) n n) :=
  h.row.cell a _ (by simp [hn, ha])
/-- the answer: rows of bools -/
def GivesRel (w : World) (n : Nat) (R : Nat → List Bool) (e : Ending) (w' : World) : Prop := ∃ ob rbs, e = .returned (.slice (some ⟨ob, 0, none⟩) n n) ∧ MRow w' ob n rbs R n ∧ w.heap.size ≤ ob ∧ Below w.heap.size w w'
def preF (f : Nat → Bool) (n c : Nat) : List Bool := (List.range n).map fun b => if b < c then f b else false
theorem preF_length (f : Nat → Bool) (n c : Nat) : (preF f n c).length = n := by simp [preF]
theorem preF_zero (f : Nat → Bool) (n : Nat) : preF f n 0 = List.replicate n false := List.eq_replicate_iff.2 ⟨by simp [preF], fun b hb => by obtain ⟨k, _, rfl⟩ := List.mem_map.1 hb; simp⟩
theorem preF_full (f : Nat → Bool) (n : Nat) : preF f n n = (List.range n).map f := List.map_congr_left fun b hb => by simp [List.mem_range.1 hb]
theorem preF_set (f : Nat → Bool) (n c : Nat) (h : c < n) : (preF f n c).set c (f c) = preF f n (c + 1) := by
  refine List.ext_getElem? fun i => ?_
  rw [List.getElem?_set]
  simp only [preF, List.getElem?_map, List.length_map, List.length_range]
  by_cases hi : c = i
  · subst hi; simp [h]
  · rw [if_neg hi]
    by_cases hin : i < n
    · simp only [List.getElem?_range hin, Option.map_some]
      by_cases h2 : i < c
      · simp [h2, show i < c + 1 by omega]
      · simp [h2, show ¬ i < c + 1 by omega]
    · simp [hin]
theorem relF_no {G : List (List Int)} {root a : Nat} (h : (reachB G (-1) [(root : Int)]).getD a false = false) : relL G root a = List.replicate G.length false :=
  List.eq_replicate_iff.2 ⟨by simp [relL], fun b hb => by obtain ⟨k, _, rfl⟩ := List.mem_map.1 hb; unfold relF; rw [h]; rfl⟩
theorem MRow.next {w w' : World} {ob n : Nat} {rbs : List Nat} {R : Nat → List Bool} {k rk : Nat} (h : MRow w ob n rbs R k) (hk : k < n)
    (hrow : BlkAt w' ob 59 (((List.range n).map fun a => if a < k then Value.slice (some ⟨rbs.getD a 0, 0, none⟩) n n else Value.slice none 0 0).set k (.slice (some ⟨rk, 0, none⟩) n n)))
    (hold : ∀ a, a < k → MarksAt w' (rbs.getD a 0) (R a)) (hnew : MarksAt w' rk (R k)) : MRow w' ob n (rbs ++ [rk]) R (k + 1) := by
  have hl := h.len
  have hg : ∀ a, a < k → (rbs ++ [rk]).getD a 0 = rbs.getD a 0 := fun a ha => by rw [List.getD_eq_getElem?_getD, List.getElem?_append_left (by omega), ← List.getD_eq_getElem?_getD]
  have hgk : (rbs ++ [rk]).getD k 0 = rk := by rw [List.getD_eq_getElem?_getD, List.getElem?_append_right (by omega)]; simp [hl]
  refine ⟨?_, fun a ha => ?_, by simp [hl]⟩
  · refine Eq.trans hrow ?_
    congr 2
    refine congrArg List.toArray (List.ext_getElem? fun i => ?_)
    rw [List.getElem?_set, List.getElem?_map]
    by_cases hki : k = i
    · subst hki
      simp only [List.length_map, List.length_range, hk, if_true, List.getElem?_map, List.getElem?_range hk, Option.map_some, Nat.lt_succ_self, hgk]
    · rw [if_neg hki, List.getElem?_map]
      by_cases hi : i < n
      · simp only [List.getElem?_range hi, Option.map_some]
        by_cases h2 : i < k
        · rw [if_pos h2, if_pos (by omega), hg i h2]
        · rw [if_neg h2, if_neg (by omega)]
      · simp [hi]
  · by_cases hak : a = k
    · subst hak; rw [hgk]; exact hnew
    · rw [hg a (by omega)]; exact hold a (by omega)

theorem BlkAt.farB {w w' : World} {b : Nat} {t : TypeId} {cs : List Value} (h : BlkAt w b t cs) (hb : w'.heap[b]? = w.heap[b]?) : BlkAt w' b t cs := hb.trans h
theorem MarksAt.drewL {w : World} {b : Nat} {ms : List Bool} (h : MarksAt w b ms) : MarksAt w.drew b ms := h
theorem below_drewK (K : Nat) (w : World) : Below K w w.drew := ⟨rfl, rfl, rfl, Nat.le_refl _, fun _ _ => rfl⟩
set_option maxHeartbeats 2000000 in
theorem relation_any (n root nf cb : Nat) (G : List (List Int)) (w : World) (hA : GrA w nf cb G) (hn : n = G.length) (hr : root < n) :
    Calls Try.prog 50 #[gval n root nf cb] w (GivesRel w n (relL G root)) := by
  have hsz := hA.size
  rw [← hn] at hsz
  have hmk := run_marks n (by omega)
  have hmr := run_rows n (by omega)
  unfold gval
  have hlr : ∀ x ∈ [(root : Int)], 0 ≤ x ∧ x < (n : Int) := by simp; omega
  have hl1 : ∀ wo, (reachB G wo [(root : Int)]).length = n := fun wo => by rw [reachB_length, hn]
  have HA := hid hA; have HN := hid hn; have HLR := hid hlr; have HL := hid hl1; clear hA hn hlr hl1
  have b1 := bthen (below_alloc w (.cells #[.int .i64 n, .int .i64 root, .func (.func nf) #[] #[.pointer (some ⟨cb, 0, none⟩)]] 54)) (below_alloc _ (.cells #[.int .i64 root] 3))
  have HB1 := hid b1; clear b1
  go_enter Try.func50, Try.ntmps50
  go_wp2_with fail
  have hrow := Row.one (w.alloc (.cells #[.int .i64 n, .int .i64 root, .func (.func nf) #[] #[.pointer (some ⟨cb, 0, none⟩)]] 54)) (.int .i64 root) 3
  rw [show (w.alloc (.cells #[.int .i64 n, .int .i64 root, .func (.func nf) #[] #[.pointer (some ⟨cb, 0, none⟩)]] 54)).heap.size = w.heap.size + 1 from by simp] at hrow
  refine (HA.out.reach HB1.out n root (-1) _ 1 [(root : Int)] HN.out hrow HLR.out (by simp)).mono ?_
  rintro e w1 ⟨ab, he, hm, hrb, hb1⟩
  rw [HL.out] at he
  subst he
  have g0 := below_cell hb1 (show ((w.alloc (.cells #[.int .i64 n, .int .i64 root, .func (.func nf) #[] #[.pointer (some ⟨cb, 0, none⟩)]] 54)).alloc (.cells #[.int .i64 root] 3)).cell? ⟨w.heap.size, 0, none⟩ = some (.int .i64 n) from by go_simp)
  have g1 := below_cell hb1 (show ((w.alloc (.cells #[.int .i64 n, .int .i64 root, .func (.func nf) #[] #[.pointer (some ⟨cb, 0, none⟩)]] 54)).alloc (.cells #[.int .i64 root] 3)).cell? ⟨w.heap.size, 1, none⟩ = some (.int .i64 root) from by go_simp)
  have g2 := below_cell hb1 (show ((w.alloc (.cells #[.int .i64 n, .int .i64 root, .func (.func nf) #[] #[.pointer (some ⟨cb, 0, none⟩)]] 54)).alloc (.cells #[.int .i64 root] 3)).cell? ⟨w.heap.size, 2, none⟩ = some (.func (.func nf) #[] #[.pointer (some ⟨cb, 0, none⟩)]) from by go_simp)
  have hz1 : w.heap.size < w1.heap.size := lt_of_cell g0
  have HM := hid hm
  have HB2 := hid (bthen HB1.out hb1)
  clear hrow hb1 hm hrb
  go_wp2_with fail
  obtain ⟨ob, hob⟩ : ∃ ob, ob = w1.heap.size := ⟨_, rfl⟩
  have hst : MRow (w1.alloc (.cells (Array.replicate n (Value.slice none 0 0)) 59)) ob n [] (relL G root) 0 := by
    refine ⟨?_, fun a ha => by omega, rfl⟩
    unfold BlkAt
    rw [hob, heap_alloc_new w1]
    congr 2
    simp only [Nat.not_lt_zero, if_false]
    rw [← List.toArray_replicate]
    exact congrArg List.toArray (List.eq_replicate_iff.2 ⟨by simp, fun b hb => by obtain ⟨k, _, rfl⟩ := List.mem_map.1 hb; rfl⟩).symm
  have HST := hid hst
  have hbo := below_alloc w1 (.cells (Array.replicate n (Value.slice none 0 0)) 59)
  have HBO := hid hbo
  have hozw : w1.heap.size ≤ ob := Nat.le_of_eq hob.symm
  have hoz : w.heap.size < ob := by omega
  rw [← hob]
  clear hst hbo hob
  go_loopw [18] (fun i wr => ∃ k : Nat, ∃ rbs, k ≤ n ∧ i = .int .i64 k ∧ MRow wr ob n rbs (relL G root) k ∧ Below w1.heap.size w1 wr)
    (fun i _ => n - (intOf i).toNat)
  case atStart => exact ⟨0, [], by omega, rfl, HST.out, HBO.out⟩
  case round =>
    obtain ⟨k, rbs, hk, rfl, hm, hbr⟩ := hrel
    have HMR := hid hm; have HBR := hid hbr
    have e0 := below_cell hbr g0
    have e1 := below_cell hbr g1
    have e2 := below_cell hbr g2
    have hwz := hbr.size
    have hwk : w.heap.size < wr.heap.size := by omega
    by_cases hlt : k < n
    · have ac0 := below_cell hbr (HM.out.cell k (by rw [HL.out]; exact hlt))
      obtain ⟨x1, hx1⟩ : ∃ x, x = (reachB G (-1) [(root : Int)]).getD k false := ⟨_, rfl⟩
      rw [← hx1] at ac0
      have HX1 := hid hx1
      have hoc := hm.row.cell k (.slice none 0 0) (by simp [hlt])
      have hof := hm.row.fz k
      have hol := hm.row.lt
      have habl : ab < wr.heap.size := lt_of_cell ac0
      have habo : ab ≠ ob := by have := HM.out.lt; omega
      have j1 : (0 : Int) ≤ (k : Int) := by omega
      have j2 : (k : Int) < (n : Int) := by omega
      obtain ⟨rk, hrk⟩ : ∃ rk, rk = wr.heap.size := ⟨_, rfl⟩
      have hw2row : BlkAt ((wr.setCell ⟨ob, k, none⟩ (.slice (some ⟨wr.heap.size, 0, none⟩) n n)).alloc (.cells (bools (List.replicate n false)).toArray 4)) ob 59 (((List.range n).map fun a => if a < k then Value.slice (some ⟨rbs.getD a 0, 0, none⟩) n n else Value.slice none 0 0).set k (.slice (some ⟨rk, 0, none⟩) n n)) := by
        rw [hrk]; exact BlkAt.below (hm.row.set k _) (below_alloc _ _)
      have hw2old : ∀ a, a < k → MarksAt ((wr.setCell ⟨ob, k, none⟩ (.slice (some ⟨wr.heap.size, 0, none⟩) n n)).alloc (.cells (bools (List.replicate n false)).toArray 4)) (rbs.getD a 0) (relL G root a) := fun a ha =>
        BlkAt.below (BlkAt.far (hm.marks a ha) (BlkAt.ne (hm.marks a ha) hm.row (by decide)) _ _) (below_alloc _ _)
      have hw2new : MarksAt ((wr.setCell ⟨ob, k, none⟩ (.slice (some ⟨wr.heap.size, 0, none⟩) n n)).alloc (.cells (bools (List.replicate n false)).toArray 4)) rk (List.replicate n false) := by
        have := BlkAt.made (wr.setCell ⟨ob, k, none⟩ (.slice (some ⟨wr.heap.size, 0, none⟩) n n)) 4 (bools (List.replicate n false)); unfold MarksAt; rw [hrk]; simpa using this
      have hw2b : Below w1.heap.size w1 ((wr.setCell ⟨ob, k, none⟩ (.slice (some ⟨wr.heap.size, 0, none⟩) n n)).alloc (.cells (bools (List.replicate n false)).toArray 4)) := bthen (hbr.setCell (p := ⟨ob, k, none⟩) hozw _) (below_alloc _ _)
      have HROW := hid hw2row; have HOLD := hid hw2old; have HNEW := hid hw2new; have HB2W := hid hw2b
      clear hw2row hw2old hw2new hw2b hm hbr hx1
      cases x1 with
      | false =>
        go_wp2_with fail
        have hnx := HMR.out.next hlt HROW.out HOLD.out (by rw [relF_no HX1.out.symm, ← HN.out]; exact HNEW.out)
        exact ⟨⟨k + 1, _, by omega, by go_num, hnx, HB2W.out⟩, by simp [intOf]; omega⟩
      | true =>
        go_wp2_with fail
        obtain ⟨w2, hw2⟩ : ∃ w2, w2 = (wr.setCell ⟨ob, k, none⟩ (.slice (some ⟨wr.heap.size, 0, none⟩) n n)).alloc (.cells (bools (List.replicate n false)).toArray 4) := ⟨_, rfl⟩
        rw [← hw2] at HROW HOLD HNEW HB2W
        rw [← hw2]
        have hzz : w2.heap.size = wr.heap.size + 1 := by rw [hw2]; simp
        have hrkl : rk < w2.heap.size := by omega
        have hrkw : w1.heap.size ≤ rk := by omega
        have hrko : ob < rk := by omega
        have hrka : ab < rk := by omega
        rw [← hzz]
        try rw [← hrk]
        have HRKE := hid hrk
        clear hrk
        have e0 := below_cell HB2W.out g0
        have e1 := below_cell HB2W.out g1
        have e2 := below_cell HB2W.out g2
        clear hw2 hzz
        refine (HA.out.reach (bthen (bthen HB2.out HB2W.out) (below_alloc w2 (.cells #[.int .i64 root] 3))) n root (k : Int) _ 1 [(root : Int)] HN.out (Row.one w2 _ _) HLR.out (by simp)).mono ?_
        rintro e w3 ⟨sb, he, hm3, hsb, hb3⟩
        rw [HL.out] at he
        subst he
        have hb23 := bthen (below_alloc w2 (.cells #[.int .i64 root] 3)) hb3
        have HB3 := hid hb23
        have f0 := below_cell hb23 e0
        have hrow3 := HROW.out.below hb23
        have hnew3 := BlkAt.below HNEW.out hb23
        have HROW3 := hid hrow3; have HNEW3 := hid hnew3; have HM3 := hid hm3
        have hsbr : rk < sb := by have := hsb; simp at this; omega
        have hz3 := hb23.size
        have hbo3 := HROW.out.lt
        clear hb3 hb23 hrow3 hnew3 hm3 hsb e0 e1 e2 ac0 hoc hof
        go_wp2_with fail
        go_loopw [40] (fun i wi => ∃ c : Nat, c ≤ n ∧ i = .int .i64 c ∧ MarksAt wi rk (preF (relF G root k) n c) ∧ Below rk w3 wi ∧ (∀ b, b ≠ rk → b < w3.heap.size → wi.heap[b]? = w3.heap[b]?)) (fun i _ => n - (intOf i).toNat)
        case atStart => exact ⟨0, Nat.zero_le _, rfl, by rw [preF_zero]; exact HNEW3.out, Below.refl _ _, fun _ _ _ => rfl⟩
        case round =>
          obtain ⟨c, hc, rfl, hmk2, hbk, hfar⟩ := hrel
          have HMK := hid hmk2; have HBK := hid hbk; have HFAR := hid hfar
          have f0' : World.cell? _ ⟨w.heap.size, 0, none⟩ = some (.int .i64 n) := (World.cell?_of_block (hfar w.heap.size (by omega) (lt_of_cell f0))).trans f0
          rename World => wi
          by_cases hct : c < n
          · have oc : wi.cell? ⟨ob, k, none⟩ = some (.slice (some ⟨rk, 0, none⟩) n n) := (World.cell?_of_block (hfar ob (by omega) HROW3.out.lt)).trans (HROW3.out.cell k _ (by simp [hlt]))
            have ac : wi.cell? ⟨ab, c, none⟩ = _ := (World.cell?_of_block (hfar ab (by omega) (by omega))).trans (below_cell HB3.out (below_cell HB2W.out (HM.out.cell c (by rw [HL.out]; exact hct))))
            have rc : wi.cell? ⟨sb, c, none⟩ = _ := (World.cell?_of_block (hfar sb (by omega) HM3.out.lt)).trans (HM3.out.cell c (by rw [HL.out]; exact hct))
            have mc := hmk2.cell c (by rw [preF_length]; exact hct)
            have mf := BlkAt.fz hmk2 c
            obtain ⟨x1, hx1⟩ : ∃ x, x = (reachB G (-1) [(root : Int)]).getD c false := ⟨_, rfl⟩
            obtain ⟨x2, hx2⟩ : ∃ x, x = (reachB G (k : Int) [(root : Int)]).getD c false := ⟨_, rfl⟩
            obtain ⟨x3, hx3⟩ : ∃ x, x = (preF (relF G root k) n c).getD c false := ⟨_, rfl⟩
            rw [← hx1] at ac; rw [← hx2] at rc; rw [← hx3] at mc
            have hval : relF G root k c = (x1 && !x2) := by unfold relF domB; rw [← HX1.out, hx1, hx2, Bool.true_and]
            have HVAL := hid hval
            have i1 : (0 : Int) ≤ (c : Int) := by omega
            have i2 : (c : Int) < (n : Int) := by omega
            have hset := hmk2.set c (relF G root k c)
            rw [preF_set _ _ _ hct, hval] at hset
            have HSET := hid hset
            clear hmk2 hbk hfar hx1 hx2 hx3 hval hset
            cases x1 with
            | false =>
              go_wp2_with fail
              refine wp_region_J (fun j => match j with | 17 => some (fun _ => True) | _ => none) (by kernel_rfl) ?_
              refine anyJ_take (some 43) (i := 0) (T := fun _ => True) (v := ?_) rfl rfl (by kernel_rfl) (by kernel_rfl) (by kernel_rfl) (fun _ _ _ h => h) (js := []) (by kernel_rfl) Leads.true rfl (Or.inl ⟨by rfl, ?_⟩) trivial ?_
              rotate_left
              · (intro wL hSw; (try dsimp only at hSw); go_simp; try with_reducible rfl)
              try simp only [Act.put, List.setIfInBounds_toArray, List.set_cons_zero, List.set_cons_succ]
              refine anyJ_take (some 44) (i := 1) (T := fun _ => True) (v := ?_) rfl rfl (by kernel_rfl) (by kernel_rfl) (by kernel_rfl) (fun _ _ _ h => h) (js := []) (by kernel_rfl) Leads.true rfl (Or.inl ⟨by rfl, ?_⟩) trivial ?_
              rotate_left
              · (intro wL hSw; (try dsimp only at hSw); go_simp; try with_reducible rfl)
              try simp only [Act.put, List.setIfInBounds_toArray, List.set_cons_zero, List.set_cons_succ]
              refine anyJ_take (some 45) (i := 2) (T := fun _ => True) (v := ?_) rfl rfl (by kernel_rfl) (by kernel_rfl) (by kernel_rfl) (fun _ _ _ h => h) (js := []) (by kernel_rfl) Leads.true rfl (Or.inl ⟨by rfl, ?_⟩) trivial ?_
              rotate_left
              · (intro wL hSw; (try dsimp only at hSw); go_simp; try with_reducible rfl)
              try simp only [Act.put, List.setIfInBounds_toArray, List.set_cons_zero, List.set_cons_succ]
              refine anyJ_take (some 46) (i := 3) (T := fun W => W.cell? ⟨ob, k, none⟩ = some (.slice (some ⟨rk, 0, none⟩) n n)) (v := ?_) rfl rfl (by kernel_rfl) (by kernel_rfl) (by kernel_rfl) (fun _ _ _ h => h) (js := []) (by kernel_rfl) Leads.nil rfl (Or.inl ⟨by rfl, ?_⟩) (oc) ?_
              rotate_left
              · (intro wL hSw; (try dsimp only at hSw); go_simp; try with_reducible rfl)
              try simp only [Act.put, List.setIfInBounds_toArray, List.set_cons_zero, List.set_cons_succ]
              refine anyJ_take (some 47) (i := 4) (T := fun _ => True) (v := ?_) rfl rfl (by kernel_rfl) (by kernel_rfl) (by kernel_rfl) (fun _ _ _ h => h) (js := []) (by kernel_rfl) Leads.true rfl (Or.inl ⟨by rfl, ?_⟩) trivial ?_
              rotate_left
              · (intro wL hSw; (try dsimp only at hSw); go_simp; try with_reducible rfl)
              try simp only [Act.put, List.setIfInBounds_toArray, List.set_cons_zero, List.set_cons_succ]
              refine anyJ_take (some 48) (i := 5) (T := fun _ => True) (v := ?_) rfl rfl (by kernel_rfl) (by kernel_rfl) (by kernel_rfl) (fun _ _ _ h => h) (js := []) (by kernel_rfl) Leads.true rfl (Or.inl ⟨by rfl, ?_⟩) trivial ?_
              rotate_left
              · (intro wL hSw; (try dsimp only at hSw); go_simp; try with_reducible rfl)
              try simp only [Act.put, List.setIfInBounds_toArray, List.set_cons_zero, List.set_cons_succ]
              refine anyJ_take (some 49) (i := 6) (T := fun _ => True) (v := ?_) rfl rfl (by kernel_rfl) (by kernel_rfl) (by kernel_rfl) (fun _ _ _ h => h) (js := []) (by kernel_rfl) Leads.true rfl (Or.inl ⟨by rfl, ?_⟩) trivial ?_
              rotate_left
              · (intro wL hSw; (try dsimp only at hSw); go_simp; try with_reducible rfl)
              try simp only [Act.put, List.setIfInBounds_toArray, List.set_cons_zero, List.set_cons_succ]
              refine anyJ_take (some 50) (i := 7) (T := fun _ => True) (v := ?_) rfl rfl (by kernel_rfl) (by kernel_rfl) (by kernel_rfl) (fun _ _ _ h => h) (js := []) (by kernel_rfl) Leads.true rfl (Or.inl ⟨by rfl, ?_⟩) trivial ?_
              rotate_left
              · (intro wL hSw; (try dsimp only at hSw); go_simp; try with_reducible rfl)
              try simp only [Act.put, List.setIfInBounds_toArray, List.set_cons_zero, List.set_cons_succ]
              refine anyJ_take (some 51) (i := 8) (T := fun W => W.cell? ⟨ab, c, none⟩ = some (.bool false)) (v := ?_) rfl rfl (by kernel_rfl) (by kernel_rfl) (by kernel_rfl) (fun _ _ _ h => h) (js := []) (by kernel_rfl) Leads.nil rfl (Or.inl ⟨by rfl, ?_⟩) (ac) ?_
              rotate_left
              · (intro wL hSw; (try dsimp only at hSw); go_simp; try with_reducible rfl)
              try simp only [Act.put, List.setIfInBounds_toArray, List.set_cons_zero, List.set_cons_succ]
              refine anyJ_take (some 52) (i := 9) (T := fun _ => True) (v := ?_) rfl rfl (by kernel_rfl) (by kernel_rfl) (by kernel_rfl) (fun _ _ _ h => h) (js := []) (by kernel_rfl) Leads.true rfl (Or.inl ⟨by rfl, ?_⟩) trivial ?_
              rotate_left
              · (intro wL hSw; (try dsimp only at hSw); go_simp; try with_reducible rfl)
              try simp only [Act.put, List.setIfInBounds_toArray, List.set_cons_zero, List.set_cons_succ]
              refine anyJ_take (some 53) (i := 10) (T := fun _ => True) (v := undef) rfl rfl (by kernel_rfl) (by kernel_rfl) (by kernel_rfl) (fun _ _ _ h => h) (js := []) (by kernel_rfl) Leads.true rfl (Or.inr ⟨by rfl, rfl⟩) trivial ?_
              try simp only [Act.put, List.setIfInBounds_toArray, List.set_cons_zero, List.set_cons_succ]
              refine anyJ_take (some 54) (i := 11) (T := fun _ => True) (v := undef) rfl rfl (by kernel_rfl) (by kernel_rfl) (by kernel_rfl) (fun _ _ _ h => h) (js := []) (by kernel_rfl) Leads.true rfl (Or.inr ⟨by rfl, rfl⟩) trivial ?_
              try simp only [Act.put, List.setIfInBounds_toArray, List.set_cons_zero, List.set_cons_succ]
              refine anyJ_take (some 55) (i := 12) (T := fun _ => True) (v := undef) rfl rfl (by kernel_rfl) (by kernel_rfl) (by kernel_rfl) (fun _ _ _ h => h) (js := []) (by kernel_rfl) Leads.true rfl (Or.inr ⟨by rfl, rfl⟩) trivial ?_
              try simp only [Act.put, List.setIfInBounds_toArray, List.set_cons_zero, List.set_cons_succ]
              refine anyJ_take (some 56) (i := 13) (T := fun _ => True) (v := undef) rfl rfl (by kernel_rfl) (by kernel_rfl) (by kernel_rfl) (fun _ _ _ h => h) (js := []) (by kernel_rfl) Leads.true rfl (Or.inr ⟨by rfl, rfl⟩) trivial ?_
              try simp only [Act.put, List.setIfInBounds_toArray, List.set_cons_zero, List.set_cons_succ]
              refine anyJ_take (some 57) (i := 14) (T := fun _ => True) (v := undef) rfl rfl (by kernel_rfl) (by kernel_rfl) (by kernel_rfl) (fun _ _ _ h => h) (js := []) (by kernel_rfl) Leads.true rfl (Or.inr ⟨by rfl, rfl⟩) trivial ?_
              try simp only [Act.put, List.setIfInBounds_toArray, List.set_cons_zero, List.set_cons_succ]
              refine anyJ_take (some 58) (i := 15) (T := fun _ => True) (v := ?_) rfl rfl (by kernel_rfl) (by kernel_rfl) (by kernel_rfl) (fun _ _ _ h => h) (js := []) (by kernel_rfl) Leads.true rfl (Or.inl ⟨by rfl, ?_⟩) trivial ?_
              rotate_left
              · (intro wL hSw; (try dsimp only at hSw); go_simp; try with_reducible rfl)
              try simp only [Act.put, List.setIfInBounds_toArray, List.set_cons_zero, List.set_cons_succ]
              refine anyJ_take (some 59) (i := 16) (T := fun _ => True) (v := ?_) rfl rfl (by kernel_rfl) (by kernel_rfl) (by kernel_rfl) (fun _ _ _ h => h) (js := []) (by kernel_rfl) Leads.true rfl (Or.inl ⟨by rfl, ?_⟩) trivial ?_
              rotate_left
              · (intro wL hSw; (try dsimp only at hSw); go_simp; try with_reducible rfl)
              try simp only [Act.put, List.setIfInBounds_toArray, List.set_cons_zero, List.set_cons_succ]
              refine anyJ_one (i := 17) (oi := { dst := none, op := Go.Op.store 4 (Go.Operand.tmp 59) (Go.Operand.tmp 58), type := 0, pos := "dominators.go:82", after := #[{ on := 16, ground := Go.Ground.data }, { on := 15, ground := Go.Ground.data }, { on := 9, ground := Go.Ground.chain }, { on := 0, ground := Go.Ground.phase }, { on := 1, ground := Go.Ground.phase }, { on := 2, ground := Go.Ground.phase }, { on := 3, ground := Go.Ground.phase }, { on := 4, ground := Go.Ground.phase }, { on := 5, ground := Go.Ground.phase }, { on := 6, ground := Go.Ground.phase }, { on := 7, ground := Go.Ground.phase }, { on := 8, ground := Go.Ground.phase }, { on := 9, ground := Go.Ground.phase }, { on := 10, ground := Go.Ground.phase }, { on := 11, ground := Go.Ground.phase }, { on := 12, ground := Go.Ground.phase }, { on := 13, ground := Go.Ground.phase }, { on := 14, ground := Go.Ground.phase }, { on := 15, ground := Go.Ground.phase }], guard := none }) rfl (by kernel_rfl) (by rfl) (fun K hK => ?_)
              go_simp
              refine hK.out _ _ trivial ?_
              clear hK K
              try simp only [Act.put, List.setIfInBounds_toArray, List.set_cons_zero, List.set_cons_succ]
              refine anyJ_done (by kernel_rfl) ?_
              go_wp2_with fail
              exact ⟨⟨c + 1, by omega, by go_num, HSET.out.drewL, (HBK.out.trans (below_drewK _ _)).setCell (p := ⟨rk, c, none⟩) (Nat.le_refl _) _, fun b hb1 hb2 => (Below.heap_setCell _ _ _ _ hb1).trans (HFAR.out b hb1 hb2)⟩, by simp [intOf]; omega⟩
            | true =>
              go_wp2_with fail
              refine wp_region_J (fun j => match j with | 17 => some (fun _ => True) | _ => none) (by kernel_rfl) ?_
              refine anyJ_take (some 43) (i := 0) (T := fun _ => True) (v := ?_) rfl rfl (by kernel_rfl) (by kernel_rfl) (by kernel_rfl) (fun _ _ _ h => h) (js := []) (by kernel_rfl) Leads.true rfl (Or.inl ⟨by rfl, ?_⟩) trivial ?_
              rotate_left
              · (intro wL hSw; (try dsimp only at hSw); go_simp; try with_reducible rfl)
              try simp only [Act.put, List.setIfInBounds_toArray, List.set_cons_zero, List.set_cons_succ]
              refine anyJ_take (some 44) (i := 1) (T := fun _ => True) (v := ?_) rfl rfl (by kernel_rfl) (by kernel_rfl) (by kernel_rfl) (fun _ _ _ h => h) (js := []) (by kernel_rfl) Leads.true rfl (Or.inl ⟨by rfl, ?_⟩) trivial ?_
              rotate_left
              · (intro wL hSw; (try dsimp only at hSw); go_simp; try with_reducible rfl)
              try simp only [Act.put, List.setIfInBounds_toArray, List.set_cons_zero, List.set_cons_succ]
              refine anyJ_take (some 45) (i := 2) (T := fun _ => True) (v := ?_) rfl rfl (by kernel_rfl) (by kernel_rfl) (by kernel_rfl) (fun _ _ _ h => h) (js := []) (by kernel_rfl) Leads.true rfl (Or.inl ⟨by rfl, ?_⟩) trivial ?_
              rotate_left
              · (intro wL hSw; (try dsimp only at hSw); go_simp; try with_reducible rfl)
              try simp only [Act.put, List.setIfInBounds_toArray, List.set_cons_zero, List.set_cons_succ]
              refine anyJ_take (some 46) (i := 3) (T := fun W => W.cell? ⟨ob, k, none⟩ = some (.slice (some ⟨rk, 0, none⟩) n n)) (v := ?_) rfl rfl (by kernel_rfl) (by kernel_rfl) (by kernel_rfl) (fun _ _ _ h => h) (js := []) (by kernel_rfl) Leads.nil rfl (Or.inl ⟨by rfl, ?_⟩) (oc) ?_
              rotate_left
              · (intro wL hSw; (try dsimp only at hSw); go_simp; try with_reducible rfl)
              try simp only [Act.put, List.setIfInBounds_toArray, List.set_cons_zero, List.set_cons_succ]
              refine anyJ_take (some 47) (i := 4) (T := fun _ => True) (v := ?_) rfl rfl (by kernel_rfl) (by kernel_rfl) (by kernel_rfl) (fun _ _ _ h => h) (js := []) (by kernel_rfl) Leads.true rfl (Or.inl ⟨by rfl, ?_⟩) trivial ?_
              rotate_left
              · (intro wL hSw; (try dsimp only at hSw); go_simp; try with_reducible rfl)
              try simp only [Act.put, List.setIfInBounds_toArray, List.set_cons_zero, List.set_cons_succ]
              refine anyJ_take (some 48) (i := 5) (T := fun _ => True) (v := ?_) rfl rfl (by kernel_rfl) (by kernel_rfl) (by kernel_rfl) (fun _ _ _ h => h) (js := []) (by kernel_rfl) Leads.true rfl (Or.inl ⟨by rfl, ?_⟩) trivial ?_
              rotate_left
              · (intro wL hSw; (try dsimp only at hSw); go_simp; try with_reducible rfl)
              try simp only [Act.put, List.setIfInBounds_toArray, List.set_cons_zero, List.set_cons_succ]
              refine anyJ_take (some 49) (i := 6) (T := fun _ => True) (v := ?_) rfl rfl (by kernel_rfl) (by kernel_rfl) (by kernel_rfl) (fun _ _ _ h => h) (js := []) (by kernel_rfl) Leads.true rfl (Or.inl ⟨by rfl, ?_⟩) trivial ?_
              rotate_left
              · (intro wL hSw; (try dsimp only at hSw); go_simp; try with_reducible rfl)
              try simp only [Act.put, List.setIfInBounds_toArray, List.set_cons_zero, List.set_cons_succ]
              refine anyJ_take (some 50) (i := 7) (T := fun _ => True) (v := ?_) rfl rfl (by kernel_rfl) (by kernel_rfl) (by kernel_rfl) (fun _ _ _ h => h) (js := []) (by kernel_rfl) Leads.true rfl (Or.inl ⟨by rfl, ?_⟩) trivial ?_
              rotate_left
              · (intro wL hSw; (try dsimp only at hSw); go_simp; try with_reducible rfl)
              try simp only [Act.put, List.setIfInBounds_toArray, List.set_cons_zero, List.set_cons_succ]
              refine anyJ_take (some 51) (i := 8) (T := fun W => W.cell? ⟨ab, c, none⟩ = some (.bool true)) (v := ?_) rfl rfl (by kernel_rfl) (by kernel_rfl) (by kernel_rfl) (fun _ _ _ h => h) (js := []) (by kernel_rfl) Leads.nil rfl (Or.inl ⟨by rfl, ?_⟩) (ac) ?_
              rotate_left
              · (intro wL hSw; (try dsimp only at hSw); go_simp; try with_reducible rfl)
              try simp only [Act.put, List.setIfInBounds_toArray, List.set_cons_zero, List.set_cons_succ]
              refine anyJ_take (some 52) (i := 9) (T := fun _ => True) (v := ?_) rfl rfl (by kernel_rfl) (by kernel_rfl) (by kernel_rfl) (fun _ _ _ h => h) (js := []) (by kernel_rfl) Leads.true rfl (Or.inl ⟨by rfl, ?_⟩) trivial ?_
              rotate_left
              · (intro wL hSw; (try dsimp only at hSw); go_simp; try with_reducible rfl)
              try simp only [Act.put, List.setIfInBounds_toArray, List.set_cons_zero, List.set_cons_succ]
              refine anyJ_take (some 53) (i := 10) (T := fun _ => True) (v := ?_) rfl rfl (by kernel_rfl) (by kernel_rfl) (by kernel_rfl) (fun _ _ _ h => h) (js := []) (by kernel_rfl) Leads.true rfl (Or.inl ⟨by rfl, ?_⟩) trivial ?_
              rotate_left
              · (intro wL hSw; (try dsimp only at hSw); go_simp; try with_reducible rfl)
              try simp only [Act.put, List.setIfInBounds_toArray, List.set_cons_zero, List.set_cons_succ]
              refine anyJ_take (some 54) (i := 11) (T := fun _ => True) (v := ?_) rfl rfl (by kernel_rfl) (by kernel_rfl) (by kernel_rfl) (fun _ _ _ h => h) (js := []) (by kernel_rfl) Leads.true rfl (Or.inl ⟨by rfl, ?_⟩) trivial ?_
              rotate_left
              · (intro wL hSw; (try dsimp only at hSw); go_simp; try with_reducible rfl)
              try simp only [Act.put, List.setIfInBounds_toArray, List.set_cons_zero, List.set_cons_succ]
              refine anyJ_take (some 55) (i := 12) (T := fun _ => True) (v := ?_) rfl rfl (by kernel_rfl) (by kernel_rfl) (by kernel_rfl) (fun _ _ _ h => h) (js := []) (by kernel_rfl) Leads.true rfl (Or.inl ⟨by rfl, ?_⟩) trivial ?_
              rotate_left
              · (intro wL hSw; (try dsimp only at hSw); go_simp; try with_reducible rfl)
              try simp only [Act.put, List.setIfInBounds_toArray, List.set_cons_zero, List.set_cons_succ]
              refine anyJ_take (some 56) (i := 13) (T := fun W => W.cell? ⟨sb, c, none⟩ = some (.bool x2)) (v := ?_) rfl rfl (by kernel_rfl) (by kernel_rfl) (by kernel_rfl) (fun _ _ _ h => h) (js := []) (by kernel_rfl) Leads.nil rfl (Or.inl ⟨by rfl, ?_⟩) (rc) ?_
              rotate_left
              · (intro wL hSw; (try dsimp only at hSw); go_simp; try with_reducible rfl)
              try simp only [Act.put, List.setIfInBounds_toArray, List.set_cons_zero, List.set_cons_succ]
              refine anyJ_take (some 57) (i := 14) (T := fun _ => True) (v := ?_) rfl rfl (by kernel_rfl) (by kernel_rfl) (by kernel_rfl) (fun _ _ _ h => h) (js := []) (by kernel_rfl) Leads.true rfl (Or.inl ⟨by rfl, ?_⟩) trivial ?_
              rotate_left
              · (intro wL hSw; (try dsimp only at hSw); go_simp; try with_reducible rfl)
              try simp only [Act.put, List.setIfInBounds_toArray, List.set_cons_zero, List.set_cons_succ]
              refine anyJ_take (some 58) (i := 15) (T := fun _ => True) (v := ?_) rfl rfl (by kernel_rfl) (by kernel_rfl) (by kernel_rfl) (fun _ _ _ h => h) (js := []) (by kernel_rfl) Leads.true rfl (Or.inl ⟨by rfl, ?_⟩) trivial ?_
              rotate_left
              · (intro wL hSw; (try dsimp only at hSw); go_simp; try with_reducible rfl)
              try simp only [Act.put, List.setIfInBounds_toArray, List.set_cons_zero, List.set_cons_succ]
              refine anyJ_take (some 59) (i := 16) (T := fun _ => True) (v := ?_) rfl rfl (by kernel_rfl) (by kernel_rfl) (by kernel_rfl) (fun _ _ _ h => h) (js := []) (by kernel_rfl) Leads.true rfl (Or.inl ⟨by rfl, ?_⟩) trivial ?_
              rotate_left
              · (intro wL hSw; (try dsimp only at hSw); go_simp; try with_reducible rfl)
              try simp only [Act.put, List.setIfInBounds_toArray, List.set_cons_zero, List.set_cons_succ]
              refine anyJ_one (i := 17) (oi := { dst := none, op := Go.Op.store 4 (Go.Operand.tmp 59) (Go.Operand.tmp 58), type := 0, pos := "dominators.go:82", after := #[{ on := 16, ground := Go.Ground.data }, { on := 15, ground := Go.Ground.data }, { on := 9, ground := Go.Ground.chain }, { on := 0, ground := Go.Ground.phase }, { on := 1, ground := Go.Ground.phase }, { on := 2, ground := Go.Ground.phase }, { on := 3, ground := Go.Ground.phase }, { on := 4, ground := Go.Ground.phase }, { on := 5, ground := Go.Ground.phase }, { on := 6, ground := Go.Ground.phase }, { on := 7, ground := Go.Ground.phase }, { on := 8, ground := Go.Ground.phase }, { on := 9, ground := Go.Ground.phase }, { on := 10, ground := Go.Ground.phase }, { on := 11, ground := Go.Ground.phase }, { on := 12, ground := Go.Ground.phase }, { on := 13, ground := Go.Ground.phase }, { on := 14, ground := Go.Ground.phase }, { on := 15, ground := Go.Ground.phase }], guard := none }) rfl (by kernel_rfl) (by rfl) (fun K hK => ?_)
              go_simp
              refine hK.out _ _ trivial ?_
              clear hK K
              try simp only [Act.put, List.setIfInBounds_toArray, List.set_cons_zero, List.set_cons_succ]
              refine anyJ_done (by kernel_rfl) ?_
              go_wp2_with fail
              exact ⟨⟨c + 1, by omega, by go_num, HSET.out.drewL, (HBK.out.trans (below_drewK _ _)).setCell (p := ⟨rk, c, none⟩) (Nat.le_refl _) _, fun b hb1 hb2 => (Below.heap_setCell _ _ _ _ hb1).trans (HFAR.out b hb1 hb2)⟩, by simp [intOf]; omega⟩
          · obtain rfl : c = n := by omega
            rw [preF_full] at hmk2
            have hb1' : Below w1.heap.size w1 wi := ((bthen HB2W.out HB3.out).trans (hbk.mono (Nat.le_trans (Nat.le_refl _) (by omega))))
            have hrowi := HROW3.out.farB (hfar ob (by omega) HROW3.out.lt)
            have holdi : ∀ a, a < k → MarksAt wi (rbs.getD a 0) (relL G root a) := fun a ha => by
              have h0 := BlkAt.below (HOLD.out a ha) HB3.out
              have hlt0 := BlkAt.lt (HMR.out.marks a ha)
              exact BlkAt.farB h0 (hfar _ (by have := HRKE.out; omega) (BlkAt.lt h0))
            have hnx := HMR.out.next hlt hrowi holdi (by unfold relL; rw [← HN.out]; exact hmk2)
            have HNX := hid hnx; have HB1' := hid hb1'
            clear hmk2 hbk hfar hb1' hrowi holdi hnx
            go_wp2_with fail
            exact ⟨⟨k + 1, _, by omega, by go_num, HNX.out, HB1'.out⟩, by simp [intOf]; omega⟩
    · obtain rfl : k = n := by omega
      clear hm hbr
      go_wp2_with fail
      go_ret
      exact ⟨ob, rbs, rfl, HMR.out, by omega, bthen HB2.out HBR.out⟩
end Go.Proofs.Ytjddegfigdpcbaa
