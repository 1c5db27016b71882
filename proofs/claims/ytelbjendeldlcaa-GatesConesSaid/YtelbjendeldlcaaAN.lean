/- assessorref24.Support: the inputs that some literals need. -/
import Derived.Test.YtelbjendeldlcaaAM
import Derived.Test.YtelbjendeldlcaaD
import Derived.Test.YtelbjendeldlcaaAH
namespace Go.Proofs.Ytelbjendeldlcaa
open Go.RowKit

def supL (ms : List Bool) (k : Nat) : List Int := ((List.range k).filter fun i => ms.getD (i + 1) false).map Int.ofNat
theorem supL_snoc (ms : List Bool) (k : Nat) : supL ms (k + 1) = if ms.getD (k + 1) false = true then supL ms k ++ [Int.ofNat k] else supL ms k := by
  unfold supL; rw [List.range_succ, List.filter_append, List.map_append, List.filter_cons, List.filter_nil]
  by_cases h : ms.getD (k + 1) false = true
  · rw [if_pos h, if_pos h]; rfl
  · rw [if_neg h, if_neg h]; simp
theorem supL_length (ms : List Bool) (k : Nat) : (supL ms k).length ≤ k := by
  unfold supL; rw [List.length_map]; exact Nat.le_trans (List.length_filter_le _ _) (by simp)
def GivesInts (w : World) (xs : List Int) (e : Ending) (w' : World) : Prop := ∃ A c, e = .returned (.slice A xs.length c) ∧ Row w' A (ints xs) ∧ Below w.heap.size w w'
theorem info3 : (Try.prog.info? 3).map (fun i => (i.zero, i.size, i.bytes)) = some (some (.int .i64 0), 1, 8) := by kernel_rfl
theorem ints_one (L : List Int) : ∀ u ∈ ints L, u.oneCell' = true := by
  intro u hu
  simp only [ints, List.mem_map] at hu
  obtain ⟨b, _, rfl⟩ := hu
  rfl
theorem ints_length (L : List Int) : (ints L).length = L.length := by simp [ints]

set_option maxHeartbeats 1000000 in
theorem rsupport_no (n : Int) (ga : Option Addr) (gc : Nat) (G : List (Int × Int)) (la : Option Addr) (lc : Nat) (L : List Int) (w : World)
    (hG : Row w ga (gcells G)) (hlen : G.length ≤ 1000000000000) (hll : L.length ≤ 1000000000000) (hL : Row w la (ints L)) (hno : ¬ (Vld n G ∧ LitOk (litN n G.length) L)) :
    Calls Try.prog 33 #[.agg #[.int .i64 n, .slice ga G.length gc], .slice la L.length lc] w (GivesInts w []) := by
  have HK := hid hno; clear hno
  go_enter Try.func33, Try.ntmps33
  go_wp2_with (go_at_call 39; refine (all_any _ _ _ _ _ _ _ _ (hG.below (b2 w _ _)) hlen hll (hL.below (b2 w _ _))).mono ?_; rintro e w1 ⟨ht, hb1⟩; obtain rfl := ht.eq_no HK.out; have HB := hid (bthen (b2 w _ _) hb1); clear ht hb1)
  go_ret
  exact ⟨_, _, rfl, Row.nil, HB.out⟩

set_option maxHeartbeats 1000000 in
theorem rsupport_yes (m : Nat) (ga : Option Addr) (gc : Nat) (G : List (Int × Int)) (la : Option Addr) (lc : Nat) (L : List Int) (w : World)
    (hG : Row w ga (gcells G)) (hll : L.length ≤ 1000000000000) (hL : Row w la (ints L)) (hV : Vld m G) (hK : LitOk (litN m G.length) L) :
    Calls Try.prog 33 #[.agg #[.int .i64 m, .slice ga G.length gc], .slice la L.length lc] w (GivesInts w (supL (needF m G L) m)) := by
  have hlo := hV.lo; have hhi := hV.hi; have hsz := hV.size
  have hnl := needF_length m G L
  obtain ⟨i0, hi, hz0, hz1, hz2⟩ := info_parts info3
  obtain ⟨ms, hms⟩ : ∃ ms, ms = needF m G L := ⟨_, rfl⟩
  rw [← hms] at hnl
  have HK := hid (And.intro hV hK); have HMS := hid hms; have HNL := hid hnl; clear hV hK hms hnl
  go_enter Try.func33, Try.ntmps33
  go_wp2_with (first
    | (go_at_call 39; refine (all_any _ _ _ _ _ _ _ _ (hG.below (b2 w _ _)) (by omega) hll (hL.below (b2 w _ _))).mono ?_; rintro e w1 ⟨ht, hb1⟩; obtain rfl := ht.eq_yes HK.out; have c0 := below_cell hb1 (show World.cell? (World.alloc (World.alloc w _) _) ⟨w.heap.size, 0, none⟩ = some (.int .i64 m) from by go_simp); have c1 := below_cell hb1 (show World.cell? (World.alloc (World.alloc w _) _) ⟨w.heap.size, 1, none⟩ = some (.slice ga G.length gc) from by go_simp); have HOW := hid (own_below (World.ownsRow_lit (base := w.heap.size) (e := 3) (size := 1) (w.alloc (.cells #[.int .i64 m, .slice ga G.length gc] 24)) #[] 0 (by simp) (by unfold maxLen; omega) rfl) hb1); have HB := hid (bthen (b2 w _ _) hb1); have zw := lt_of_cell c0; dsimp only at zw; have zw2 : w.heap.size + 1 < w1.heap.size := by { have := hb1.size; simp at this; omega }; clear ht hb1)
    | (go_at_call 51; refine (rneeded_any m ga gc G la lc L _ (hG.below HB.out) (hL.below HB.out) hll HK.out.1 HK.out.2).mono ?_; rw [← HMS.out]; rintro e w2 ⟨mb, rfl, hm2, hmb, hb2⟩; have c0 := below_cell hb2 c0; have HOW := hid (own_below HOW.out hb2); have HM2 := hid hm2; have HB2 := hid (bthen HB.out hb2); have HMB := hid hmb; clear hm2 hb2 hmb))
  have how := HOW.out
  rw [show (w.alloc (.cells #[.int .i64 m, .slice ga G.length gc] 24)).heap.size = w.heap.size + 1 from by simp] at how
  have HOW2 := hid how; clear how
  go_loopw [5, 7] (fun o i wr => ∃ k : Nat, ∃ Ao co, k ≤ m ∧ i = .int .i64 k ∧ o = .slice Ao (supL ms k).length co ∧ Below w.heap.size w wr ∧ wr.ownsRow w.heap.size 3 1 (.slice Ao (supL ms k).length co) (supL ms k).length (ints (supL ms k)) ∧
      MarksAt wr mb ms ∧ wr.cell? ⟨w.heap.size, 0, none⟩ = some (.int .i64 m) ∧ (Value.slice Ao (supL ms k).length co).ownBlock ≠ some mb ∧ (Value.slice Ao (supL ms k).length co).ownBlock ≠ some w.heap.size)
    (fun _ i _ => m - (intOf i).toNat)
  case atStart =>
    refine ⟨0, some ⟨w.heap.size + 1, 0, none⟩, 0, by omega, rfl, rfl, HB2.out, HOW2.out, HM2.out, c0, ?_, ?_⟩
    · have := HMB.out; simp [Value.ownBlock]; omega
    · simp [Value.ownBlock]
  case round =>
    obtain ⟨k, Ao, co, hk, rfl, rfl, hbr, hown, hm, hc, hn1, hn2⟩ := hrel
    have HBR := hid hbr; have HOWN := hid hown; have HM := hid hm; have HN1 := hid hn1; have HN2 := hid hn2
    have hll := supL_length ms k
    obtain ⟨ol, hol⟩ : ∃ ol, ol = (supL ms k).length := ⟨_, rfl⟩
    have HOL := hid hol
    by_cases hlt : k < m
    · have hcj := hm.cell (k + 1) (by rw [HNL.out]; omega)
      have hsn := supL_snoc ms k
      obtain ⟨b, hb⟩ : ∃ b, b = ms.getD (k + 1) false := ⟨_, rfl⟩
      rw [← hb] at hcj hsn
      have HSN := hid hsn
      have j1 : (k : Int) < (m : Int) := by omega
      have j2 : (k : Int) + 1 < ((ms.length : Nat) : Int) := by rw [HNL.out]; push_cast; omega
      rw [← hol]
      clear hbr hown hm hn1 hn2 hb hsn hol
      cases b with
      | false =>
        go_wp2_with fail
        have hs : supL ms (k + 1) = supL ms k := by rw [HSN.out]; simp
        refine ⟨⟨k + 1, Ao, co, by omega, by go_num, ?_⟩, by simp [intOf]; omega⟩
        rw [hs]
        exact ⟨by rw [HOL.out], HBR.out, HOWN.out, HM.out, hc, HN1.out, HN2.out⟩
      | true =>
        have hs : supL ms (k + 1) = supL ms k ++ [Int.ofNat k] := by rw [HSN.out]; simp
        have HS := hid hs; clear hs
        have hown5 : wr.ownsRow w.heap.size 3 1 (.slice Ao ol co) ol (ints (supL ms k)) := by rw [HOL.out]; exact HOWN.out
        have HOW5 := hid hown5; clear hown5
        have hol2 : ol ≤ 1024 := by have := HOL.out; omega
        go_wp2_with (at_builtin; refine wpList_append_row rfl (.tmp 28) (.tmp 30) 26 rfl w.heap.size 3 i0 (.int .i64 0) 1 8 Try.underlying26 hi hz0 hz1 hz2 rfl (by decide) (.slice Ao ol co) ol (ints (supL ms k)) rfl (World.ownsRow.alloc HOW5.out _) (some ⟨wr.heap.size, 0, none⟩) 1 1 [.int .i64 k] rfl rfl (fun e => by cases e) (Row.one _ _ _) (ints_one [_]) (by unfold maxLen; omega) (by omega) (by have := HBR.out.size; simp; omega) ?_; intro A4 c4 w4 hown4 hgr4 hat4; have HOWN4 := hid hown4; have HGR4 := hid hgr4; have HAT4 := hid hat4; clear hown4 hgr4 hat4)
        have hbk : ∀ b, b < wr.heap.size → (Value.slice Ao ol co).ownBlock ≠ some b → w4.heap[b]? = wr.heap[b]? := fun b hb hne => (HGR4.out.block b (by simp; omega) (fun e => hne e.symm)).trans (heap_alloc_old wr _ b hb)
        have hb4 : Below w.heap.size w w4 := (bthen HBR.out (below_alloc wr _)).grown HGR4.out (by have := HBR.out.size; simp; omega) (fun j hj => by rw [HOL.out] at hj; exact (HOWN.out.lt j hj).1)
        have hl : (supL ms (k + 1)).length = ol + 1 := by rw [HS.out, List.length_append, ← HOL.out]; rfl
        have hn1' : (Value.slice Ao ol co).ownBlock ≠ some mb := by rw [HOL.out]; exact HN1.out
        have hn2' : (Value.slice Ao ol co).ownBlock ≠ some w.heap.size := by rw [HOL.out]; exact HN2.out
        have hmlt := HM.out.lt
        have hclt := lt_of_cell hc
        dsimp only at hclt
        refine ⟨⟨k + 1, A4, c4, by omega, by go_num, ?_⟩, by simp [intOf]; omega⟩
        rw [hl]
        refine ⟨rfl, hb4, by rw [HS.out]; simpa [ints] using HOWN4.out, (hbk mb hmlt hn1').trans HM.out, (cell_of_keep (hbk _ hclt hn2') 0).trans hc, ?_, ?_⟩
        · rcases HAT4.out with h | h
          · rw [h]; exact hn1'
          · rw [h]; intro e; injection e with e; simp at e; omega
        · rcases HAT4.out with h | h
          · rw [h]; exact hn2'
          · rw [h]; intro e; injection e with e; simp at e; omega
    · obtain rfl : k = m := by omega
      clear hbr hown hm hn1 hn2
      go_wp2_with fail
      go_ret
      rw [← HMS.out]
      exact ⟨Ao, co, rfl, Row.of_own HOWN.out, HBR.out⟩
end Go.Proofs.Ytelbjendeldlcaa
