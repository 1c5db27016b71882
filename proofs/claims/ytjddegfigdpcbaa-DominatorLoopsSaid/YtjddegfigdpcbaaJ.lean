/- graph.immediate: the immediate dominators. -/
import Derived.Test.YtjddegfigdpcbaaI
namespace Go.Proofs.Ytjddegfigdpcbaa
open Go.RowKit

theorem made_ints (n : Nat) : madeCells (Value.int .i64 0).cells (n * 1) = (ints (List.replicate n 0)).toArray := by
  apply Array.ext
  · simp [madeCells, ints]
  · intro i h1 h2
    simp [madeCells, ints, Value.cells, Nat.mod_one]
theorem run_ints (n : Nat) (h : n ≤ 70000) (w : World) : (Instr.makeSlice 29 (.int .i64 n) (.int .i64 n)).run Try.prog w = .ok (.slice (some ⟨w.heap.size, 0, none⟩) n n) (w.alloc (.cells (ints (List.replicate n 0)).toArray 3)) := by
  obtain ⟨i0, hi, hz0, hz1, hz2⟩ := info_parts info3
  have := run_makeSlice (P := Try.prog) w 29 3 i0 (.int .i64 0) Try.underlying29 hi hz0 .i64 .i64 n n (by omega) (Int.le_refl _) (by rw [hz1]; simp; omega) (by rw [hz2]; omega) (by omega)
  rw [this, hz1]
  simp only [Int.toNat_natCast]
  rw [made_ints]
/-- how many points before a are related to x -/
def depC (R : Nat → Nat → Bool) (a x : Nat) : Nat := ((List.range a).filter fun a' => R a' x).length
theorem depC_snoc (R : Nat → Nat → Bool) (a x : Nat) : depC R (a + 1) x = depC R a x + if R a x = true then 1 else 0 := by
  unfold depC; rw [List.range_succ, List.filter_append, List.length_append, List.filter_cons, List.filter_nil]
  split <;> rfl
theorem depC_le (R : Nat → Nat → Bool) (a x : Nat) : depC R a x ≤ a := by unfold depC; exact Nat.le_trans (List.length_filter_le _ _) (by simp)
def depL (R : Nat → Nat → Bool) (n a b : Nat) : List Int := (List.range n).map fun x => ((depC R a x + if x < b ∧ R a x = true then 1 else 0 : Nat) : Int)
theorem depL_length (R : Nat → Nat → Bool) (n a b : Nat) : (depL R n a b).length = n := by simp [depL]
theorem depL_get (R : Nat → Nat → Bool) (n a b x : Nat) (h : x < n) : (depL R n a b).getD x 0 = ((depC R a x + if x < b ∧ R a x = true then 1 else 0 : Nat) : Int) := by simp [depL, List.getD_eq_getElem?_getD, h]
theorem depL_zero (R : Nat → Nat → Bool) (n : Nat) : depL R n 0 0 = List.replicate n 0 := List.eq_replicate_iff.2 ⟨by simp [depL], fun b hb => by obtain ⟨k, _, rfl⟩ := List.mem_map.1 hb; simp [depC]⟩
theorem depL_full (R : Nat → Nat → Bool) (n a : Nat) : depL R n a n = depL R n (a + 1) 0 := List.map_congr_left fun x hx => by
  have := List.mem_range.1 hx
  rw [depC_snoc]; simp [this]
theorem depL_next (R : Nat → Nat → Bool) (n a b : Nat) : depL R n a (b + 1) = if R a b = true then (depL R n a b).set b ((depC R a b : Int) + 1) else depL R n a b := by
  split
  · rename_i hr
    refine List.ext_getElem? fun i => ?_
    rw [List.getElem?_set]
    simp only [depL, List.getElem?_map, List.length_map, List.length_range]
    by_cases hi : b = i
    · subst hi
      by_cases hb : b < n
      · simp [hb, hr]
      · simp [hb]
    · rw [if_neg hi]
      by_cases hin : i < n
      · simp only [List.getElem?_range hin, Option.map_some]
        by_cases h2 : i < b
        · simp [h2, show i < b + 1 by omega]
        · simp [h2, show ¬ i < b + 1 by omega]
      · simp [hin]
  · rename_i hr
    refine List.map_congr_left fun x _ => ?_
    by_cases hx : x = b
    · subst hx; simp [hr]
    · by_cases h2 : x < b
      · simp [h2, show x < b + 1 by omega]
      · simp [h2, show ¬ x < b + 1 by omega]
/-- the immediate point among the first a -/
def imC (R : Nat → Nat → Bool) (n b : Nat) : Nat → Int
  | 0 => -1
  | a + 1 => if (a ≠ b ∧ R a b = true) ∧ (depC R n a : Int) = (depC R n b : Int) - 1 then a else imC R n b a
def immL (R : Nat → Nat → Bool) (n : Nat) : List Int := (List.range n).map fun b => imC R n b n
def curL (R : Nat → Nat → Bool) (n b : Nat) (x : Int) : List Int := (List.range n).map fun c => if c < b then imC R n c n else if c = b then x else 0
theorem curL_length (R : Nat → Nat → Bool) (n b : Nat) (x : Int) : (curL R n b x).length = n := by simp [curL]
theorem curL_zero (R : Nat → Nat → Bool) (n : Nat) : curL R n 0 0 = List.replicate n 0 := List.eq_replicate_iff.2 ⟨by simp [curL], fun b hb => by obtain ⟨k, _, rfl⟩ := List.mem_map.1 hb; simp⟩
theorem curL_set (R : Nat → Nat → Bool) (n b : Nat) (x y : Int) (hb : b < n) : (curL R n b x).set b y = curL R n b y := by
  refine List.ext_getElem? fun i => ?_
  rw [List.getElem?_set]
  simp only [curL, List.getElem?_map, List.length_map, List.length_range]
  by_cases hi : b = i
  · subst hi; simp [hb]
  · rw [if_neg hi]
    by_cases hin : i < n
    · simp [hin, show ¬ i = b from fun e => hi e.symm]
    · simp [hin]
theorem curL_next (R : Nat → Nat → Bool) (n b : Nat) : curL R n b (imC R n b n) = curL R n (b + 1) 0 := List.map_congr_left fun c _ => by
  by_cases h1 : c < b
  · rw [if_pos h1, if_pos (by omega)]
  · by_cases h2 : c = b
    · subst h2; simp
    · rw [if_neg h1, if_neg h2, if_neg (by omega)]; simp
theorem curL_full (R : Nat → Nat → Bool) (n : Nat) : curL R n n 0 = immL R n := List.map_congr_left fun c hc => by rw [if_pos (List.mem_range.1 hc)]
/-- the answer is a made row of numbers -/
def GivesInts (w : World) (xs : List Int) (e : Ending) (w' : World) : Prop := ∃ A c, e = .returned (.slice A xs.length c) ∧ Row w' A (ints xs) ∧ Below w.heap.size w w'

theorem relL_get (G : List (List Int)) (root a b : Nat) (h : b < G.length) : (relL G root a).getD b false = relF G root a b := map_range_getD _ _ _ h

theorem below_drewNK (K : Nat) (w : World) (q : Nat) : Below K w (w.drewN q) := ⟨rfl, rfl, rfl, Nat.le_refl _, fun _ _ => rfl⟩
set_option maxHeartbeats 2000000 in
theorem immediate_any (n root nf cb : Nat) (G : List (List Int)) (w : World) (hA : GrA w nf cb G) (hn : n = G.length) (hr : root < n) :
    Calls Try.prog 43 #[gval n root nf cb] w (GivesInts w (immL (relF G root) n)) := by
  have hsz := hA.size
  rw [← hn] at hsz
  have hmk := run_ints n (by omega)
  obtain ⟨R, hR⟩ : ∃ R, R = relF G root := ⟨_, rfl⟩
  have hget : ∀ a b, b < n → (relL G root a).getD b false = R a b := fun a b hb => by rw [hR]; exact relL_get G root a b (by omega)
  have hlen : ∀ a, (relL G root a).length = n := fun a => by simp [relL, hn]
  rw [← hR]
  unfold gval
  have HA := hid hA; have HN := hid hn; have HG := hid hget; have HL := hid hlen; clear hA hn hget hlen hR
  have b1 := below_alloc w (.cells #[.int .i64 n, .int .i64 root, .func (.func nf) #[] #[.pointer (some ⟨cb, 0, none⟩)]] 54)
  have HB1 := hid b1; clear b1
  go_enter Try.func43, Try.ntmps43
  go_wp2_with (go_at_call 50; refine (relation_any n root nf cb G _ (HA.out.below HB1.out) HN.out hr).mono ?_; rintro e w1 ⟨ob, rbs, rfl, hm, hob, hb1⟩; have g0 := box_cell hb1 0 _ rfl; have HM := hid hm; have HB2 := hid (bthen HB1.out hb1); have hz1 := lt_of_cell g0; dsimp only at hz1; clear hm hb1 hob)
  obtain ⟨db, hdb⟩ : ∃ db, db = w1.heap.size := ⟨_, rfl⟩
  have hd0 : IntsAt (w1.alloc (.cells (ints (List.replicate n 0)).toArray 3)) db (depL R n 0 0) := by rw [depL_zero, hdb]; exact BlkAt.made w1 3 _
  have hb0 := below_alloc w1 (.cells (ints (List.replicate n 0)).toArray 3)
  have HD0 := hid hd0; have HB0 := hid hb0
  have hdz : w1.heap.size ≤ db := Nat.le_of_eq hdb.symm
  rw [← hdb]
  clear hd0 hb0 hdb
  go_loopw [17] (fun i wr => ∃ a : Nat, a ≤ n ∧ i = .int .i64 a ∧ IntsAt wr db (depL R n a 0) ∧ Below w1.heap.size w1 wr) (fun i _ => n - (intOf i).toNat)
  case atStart => exact ⟨0, Nat.zero_le _, rfl, HD0.out, HB0.out⟩
  case round =>
    obtain ⟨a, ha, rfl, hd, hbr⟩ := hrel
    have HD := hid hd; have HBR := hid hbr
    have e0 := below_cell hbr g0
    by_cases hlt : a < n
    · have oc := below_cell hbr (HM.out.cell a hlt hlt)
      have j1 : (0 : Int) ≤ (a : Int) := by omega
      have j2 : (a : Int) < (n : Int) := by omega
      obtain ⟨ra, hra⟩ : ∃ ra, ra = rbs.getD a 0 := ⟨_, rfl⟩
      rw [← hra] at oc
      have hma := HM.out.marks a hlt
      rw [← hra] at hma
      have HMA := hid hma; have HOC := hid (HM.out.cell a hlt hlt)
      rw [← hra] at HOC
      clear hd hbr hra hma oc
      go_wp2_with fail
      go_loopw [22] (fun i wi => ∃ b : Nat, b ≤ n ∧ i = .int .i64 b ∧ IntsAt wi db (depL R n a b) ∧ Below w1.heap.size w1 wi) (fun i _ => n - (intOf i).toNat)
      case atStart => exact ⟨0, Nat.zero_le _, rfl, HD.out, HBR.out⟩
      case round =>
        obtain ⟨b, hb, rfl, hd, hbi⟩ := hrel
        have HDI := hid hd; have HBI := hid hbi
        have e1 := below_cell hbi g0
        by_cases hbt : b < n
        · have oc := below_cell hbi HOC.out
          have mc := below_cell hbi (HMA.out.cell b (by rw [HL.out]; exact hbt))
          rw [HG.out a b hbt] at mc
          have dc := hd.cell b (by rw [depL_length]; exact hbt)
          have df := BlkAt.fz hd b
          rw [depL_get _ _ _ _ _ hbt] at dc
          simp only [Nat.lt_irrefl, false_and, if_false, Nat.add_zero] at dc
          obtain ⟨x, hx⟩ : ∃ x, x = R a b := ⟨_, rfl⟩
          rw [← hx] at mc
          have HX := hid hx
          have hdl := depC_le R a b
          obtain ⟨d, hd1⟩ : ∃ d, d = depC R a b := ⟨_, rfl⟩
          rw [← hd1] at dc hdl
          have HD1 := hid hd1
          have i1 : (0 : Int) ≤ (b : Int) := by omega
          have i2 : (b : Int) < (n : Int) := by omega
          have hset := hd.set b ((d : Int) + 1)
          have hnx := depL_next R n a b
          rw [← hx] at hnx
          have HSET := hid hset; have HNX := hid hnx
          clear hd hbi hx hd1 hset hnx
          cases x with
          | false =>
            go_wp2_with fail
            exact ⟨⟨b + 1, by omega, by go_num, by rw [HNX.out]; simpa using HDI.out, HBI.out⟩, by simp [intOf]; omega⟩
          | true =>
            go_wp2_with fail
            exact ⟨⟨b + 1, by omega, by go_num, by rw [HNX.out, if_pos rfl, ← HD1.out]; exact HSET.out, HBI.out.setCell (p := ⟨db, b, none⟩) hdz _⟩, by simp [intOf]; omega⟩
        · obtain rfl : b = n := by omega
          rw [depL_full] at hd
          have HF := hid hd
          clear hd hbi
          go_wp2_with fail
          exact ⟨⟨a + 1, by omega, by go_num, HF.out, HBI.out⟩, by simp [intOf]; omega⟩
    · obtain rfl : a = n := by omega
      rename World => w2
      have hd2 := HD.out
      have zdb := BlkAt.lt hd2
      clear hd hbr hlt
      go_wp2_with fail
      obtain ⟨ib, hib⟩ : ∃ ib, ib = w2.heap.size := ⟨_, rfl⟩
      have hi0 : IntsAt (w2.alloc (.cells (ints (List.replicate a 0)).toArray 3)) ib (curL R a 0 0) := by rw [curL_zero, hib]; exact BlkAt.made w2 3 _
      have hb0 := below_alloc w2 (.cells (ints (List.replicate a 0)).toArray 3)
      have HI0 := hid hi0; have HB0' := hid hb0
      have hiz : w2.heap.size ≤ ib := Nat.le_of_eq hib.symm
      have HD2 := hid hd2
      rw [← hib]
      clear hi0 hb0 hib hd2 HD0 HB0 e0
      go_loopw [45] (fun i wr => ∃ b : Nat, b ≤ a ∧ i = .int .i64 b ∧ IntsAt wr ib (curL R a b 0) ∧ Below w2.heap.size w2 wr) (fun i _ => a - (intOf i).toNat)
      case atStart => exact ⟨0, Nat.zero_le _, rfl, HI0.out, HB0'.out⟩
      case round =>
        obtain ⟨b, hb, rfl, hc, hbr⟩ := hrel
        have HC := hid hc; have HBR2 := hid hbr
        have e0 := below_cell (bthen HBR.out hbr) g0
        by_cases hlt : b < a
        · have cc := hc.cell b (by rw [curL_length]; exact hlt)
          have cf := BlkAt.fz hc b
          obtain ⟨c0, hc0⟩ : ∃ c0, c0 = (curL R a b 0).getD b 0 := ⟨_, rfl⟩
          rw [← hc0] at cc
          have j1 : (0 : Int) ≤ (b : Int) := by omega
          have j2 : (b : Int) < (a : Int) := by omega
          have hset := hc.set b (-1)
          rw [curL_set _ _ _ _ _ hlt] at hset
          have HSET := hid hset
          have hbx : Below w2.heap.size w2 (World.setCell _ ⟨ib, b, none⟩ (.int .i64 (-1))) := hbr.setCell (p := ⟨ib, b, none⟩) hiz _
          have HBX := hid hbx
          clear hc hbr hc0 hset hbx
          go_wp2_with fail
          go_loopw [53] (fun i wi => ∃ c : Nat, c ≤ a ∧ i = .int .i64 c ∧ IntsAt wi ib (curL R a b (imC R a b c)) ∧ Below w2.heap.size w2 wi) (fun i _ => a - (intOf i).toNat)
          case atStart => exact ⟨0, Nat.zero_le _, rfl, HSET.out, HBX.out⟩
          case round =>
            obtain ⟨c, hcc, rfl, hc, hbi⟩ := hrel
            have HCI := hid hc; have HBI := hid hbi
            have e1 := below_cell (bthen HBR.out hbi) g0
            by_cases hct : c < a
            · have oc := below_cell (bthen HBR.out hbi) (HM.out.cell c hct hct)
              have mc := below_cell (bthen HBR.out hbi) ((HM.out.marks c hct).cell b (by rw [HL.out]; exact hlt))
              rw [HG.out c b hlt] at mc
              have dc := below_cell hbi (HD2.out.cell c (by rw [depL_length]; exact hct))
              have db' := below_cell hbi (HD2.out.cell b (by rw [depL_length]; exact hlt))
              rw [depL_get _ _ _ _ _ hct] at dc
              rw [depL_get _ _ _ _ _ hlt] at db'
              simp only [Nat.not_lt_zero, false_and, if_false, Nat.add_zero] at dc db'
              obtain ⟨ra, hra⟩ : ∃ ra, ra = rbs.getD c 0 := ⟨_, rfl⟩
              rw [← hra] at oc mc
              obtain ⟨x, hx⟩ : ∃ x, x = R c b := ⟨_, rfl⟩
              rw [← hx] at mc
              have hl1 := depC_le R a c
              have hl2 := depC_le R a b
              obtain ⟨d1, hd1⟩ : ∃ d, d = depC R a c := ⟨_, rfl⟩
              obtain ⟨d2, hd2⟩ : ∃ d, d = depC R a b := ⟨_, rfl⟩
              rw [← hd1] at dc hl1
              rw [← hd2] at db' hl2
              have cc := hc.cell b (by rw [curL_length]; exact hlt)
              have cf := BlkAt.fz hc b
              obtain ⟨c0, hc0⟩ : ∃ c0, c0 = (curL R a b (imC R a b c)).getD b 0 := ⟨_, rfl⟩
              rw [← hc0] at cc
              have hset := hc.set b (c : Int)
              rw [curL_set _ _ _ _ _ hlt] at hset
              have HSET2 := hid hset
              have him : imC R a b (c + 1) = if (c ≠ b ∧ x = true) ∧ (d1 : Int) = (d2 : Int) - 1 then (c : Int) else imC R a b c := by rw [hx, hd1, hd2]; rfl
              have HIM := hid him
              have i1 : (0 : Int) ≤ (c : Int) := by omega
              have i2 : (c : Int) < (a : Int) := by omega
              clear hc hbi hra hx hd1 hd2 hc0 hset him
              by_cases q1 : c = b
              · have q1' : ((c : Int) != (b : Int)) = false := by simp [q1]
                have HQ := hid q1; clear q1
                go_wp2_with fail
                go_big_quiet (fail)
                go_wp2_with fail
                exact ⟨⟨c + 1, by omega, by go_num, by rw [HIM.out, if_neg (fun h => h.1.1 HQ.out)]; exact HCI.out, HBI.out.trans (below_drewNK _ _ _)⟩, by simp [intOf]; omega⟩
              have q1' : ((c : Int) != (b : Int)) = true := by simp; omega
              cases x with
              | false =>
                go_wp2_with fail
                go_big_quiet (fail)
                go_wp2_with fail
                exact ⟨⟨c + 1, by omega, by go_num, by rw [HIM.out, if_neg (fun h => by cases h.1.2)]; exact HCI.out, HBI.out.trans (below_drewNK _ _ _)⟩, by simp [intOf]; omega⟩
              | true =>
                by_cases q2 : (d1 : Int) = (d2 : Int) - 1
                · have q2' : ((d1 : Int) == (d2 : Int) - 1) = true := by simp [q2]
                  have HQ2 := hid q2; have HQ1 := hid q1; clear q2 q1
                  go_wp2_with fail
                  go_big_quiet (fail)
                  go_wp2_with fail
                  exact ⟨⟨c + 1, by omega, by go_num, by rw [HIM.out, if_pos ⟨⟨HQ1.out, by trivial⟩, HQ2.out⟩]; exact HSET2.out, (HBI.out.setCell (p := ⟨ib, b, none⟩) hiz _).trans (below_drewNK _ _ _)⟩, by simp [intOf]; omega⟩
                · have q2' : ((d1 : Int) == (d2 : Int) - 1) = false := by simp [q2]
                  have HQ2 := hid q2; have HQ1 := hid q1; clear q2 q1
                  go_wp2_with fail
                  go_big_quiet (fail)
                  go_wp2_with fail
                  exact ⟨⟨c + 1, by omega, by go_num, by rw [HIM.out, if_neg (fun h => HQ2.out h.2)]; exact HCI.out, HBI.out.trans (below_drewNK _ _ _)⟩, by simp [intOf]; omega⟩
            · obtain rfl : c = a := by omega
              rw [curL_next] at hc
              have HF := hid hc
              clear hc hbi
              go_wp2_with fail
              exact ⟨⟨b + 1, by omega, by go_num, HF.out, HBI.out⟩, by simp [intOf]; omega⟩
        · obtain rfl : b = a := by omega
          rw [curL_full] at hc
          have HF := hid hc
          clear hc hbr
          go_wp2_with fail
          go_ret
          exact ⟨some ⟨ib, 0, none⟩, b, by simp [immL], Row.of_blk HF.out, bthen HB2.out (bthen HBR.out HBR2.out)⟩
end Go.Proofs.Ytjddegfigdpcbaa
