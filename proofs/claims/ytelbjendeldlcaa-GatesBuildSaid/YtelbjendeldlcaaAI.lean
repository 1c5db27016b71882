/- The walk of assessorlaw24.GatesBuild: true, at every input. -/
import Derived.Test.YtelbjendeldlcaaAH
import Derived.Test.YtelbjendeldlcaaD
namespace Go.Proofs.Ytelbjendeldlcaa
open Go.RowKit

theorem put3_keep (W : World) (b : Nat) (x y z : Value) (k : Nat) (h : k ≠ b) : (put3 W b x y z).heap[k]? = W.heap[k]? := by
  unfold put3; rw [setCell_heap_ne _ _ _ _ _ h, setCell_heap_ne _ _ _ _ _ h, setCell_heap_ne _ _ _ _ _ h]
theorem below_step {N : Nat} {w W W' : World} {bb mb : Nat} {A A' : Option Addr} (hb : Below N w W) (hap : ∀ b, b < N → Apart W bb mb A b) (st : Step W W' bb mb A A') : Below N w W' :=
  ⟨st.os.trans hb.os, st.tape.trans hb.tape, st.output.trans hb.output, Nat.le_trans hb.size st.size, fun b hlt => (st.keep b (hap b hlt)).trans (hb.block b hlt)⟩
set_option maxHeartbeats 1000000 in
theorem build_early (n : Int) (oa : Option Addr) (ol oc : Nat) (x : Int) (w : World) (h : n < 0 ∨ 1024 < n ∨ 40 < ol) :
    Calls Try.prog 6 #[.int .i64 n, .slice oa ol oc, .int .i64 x] w fun e w' => e = .returned (.bool true) ∧ Below w.heap.size w w' := by
  by_cases h1 : n < 0 ∨ 1024 < n
  · have H1 := hid h1; clear h h1
    go_enter Try.func6, Try.ntmps6
    go_wp2_with (first | (go_at_call 9; refine (awake_any _).mono ?_; rintro e w1 ⟨rfl, hb1⟩; have HB1 := hid hb1; clear hb1) | (go_at_call 15; refine (new_no n _ H1.out).mono ?_; rintro e w2 ⟨rfl, hw2⟩; rw [← hw2]; clear hw2 w2) | (go_at_call 24; refine (rnew_no n _ H1.out).mono ?_; rintro e w3 ⟨rfl, hb3⟩; have HB3 := hid hb3; clear hb3))
    go_ret
    exact ⟨rfl, bthen HB1.out (bthen HB3.out (below_alloc _ _))⟩
  have hlo : 0 ≤ n := by omega
  have hhi : n ≤ 1024 := by omega
  have g2 : (40 : Int) < (ol : Int) := by omega
  clear h h1
  go_enter Try.func6, Try.ntmps6
  go_wp2_with (first | (go_at_call 9; refine (awake_any _).mono ?_; rintro e w1 ⟨rfl, hb1⟩; have HB1 := hid hb1; clear hb1) | (go_at_call 15; refine (new_yes n _ hlo hhi).mono ?_; rintro e w2 ⟨bb, mb, rfl, hbb, hmb, hs2, hb2⟩; have HB2 := hid hb2; have HBB := hid (And.intro hbb hmb); have HS2 := hid hs2; clear hs2 hb2 hbb hmb) | (go_at_call 24; refine (rnew_yes (Z := fun _ => False) n _ hlo hhi).mono ?_; rintro e w3 ⟨v3, rfl, hv3, hb3⟩; obtain ⟨B3, d3, rfl, hr3, hn3⟩ := hv3; obtain ⟨rfl, rfl⟩ := hn3.1 rfl; have HB3 := hid hb3; clear hr3 hn3 hb3))
  go_ret
  exact ⟨rfl, bthen HB1.out (bthen HB2.out (bthen HB3.out (below_alloc _ _)))⟩

set_option maxHeartbeats 4000000 in
theorem build_main (n : Int) (oa : Option Addr) (oc : Nat) (O : List GOp) (x : Int) (w : World)
    (hO : Row w oa (ocells O)) (hlo : 0 ≤ n) (hhi : n ≤ 1024) (hol : O.length ≤ 40) :
    Calls Try.prog 6 #[.int .i64 n, .slice oa O.length oc, .int .i64 x] w fun e w' => e = .returned (.bool true) ∧ Below w.heap.size w w' := by
  have g2 : decide ((40 : Int) < (O.length : Int)) = false := by simp; omega
  go_enter Try.func6, Try.ntmps6
  go_wp2_with (first | (go_at_call 9; refine (awake_any _).mono ?_; rintro e w1 ⟨rfl, hb1⟩; have HB1 := hid hb1; clear hb1) | (go_at_call 15; refine (new_yes n _ hlo hhi).mono ?_; rintro e w2 ⟨bb, mb, rfl, hbb, hmb, hs2, hb2⟩; have HB2 := hid hb2; have HBB := hid (And.intro hbb hmb); have HS2 := hid hs2; clear hs2 hb2 hbb hmb) | (go_at_call 24; refine (rnew_yes (Z := fun _ => False) n _ hlo hhi).mono ?_; rintro e w3 ⟨v3, rfl, hv3, hb3⟩; obtain ⟨B3, d3, rfl, hr3, hn3⟩ := hv3; obtain ⟨rfl, rfl⟩ := hn3.1 rfl; have HB3 := hid hb3; clear hr3 hn3 hb3))
  have hap : Apart (w3.alloc (.cells #[.int .i64 n, .slice none 0 0, .int .i64 0] 52)) bb mb none w3.heap.size := (HS2.out.below HB3.out).apart _
  have hbi : BI (w3.alloc (.cells #[.int .i64 n, .slice none 0 0, .int .i64 0] 52)) bb mb none 0 ⟨n, [], 0⟩ ⟨n, [], 0⟩ w3.heap.size none 0 :=
    ⟨(HS2.out.below HB3.out).below (below_alloc _ _), hap, ⟨_, _, heap_alloc_new _ _⟩, box_cell (Below.refl _ _) 0 _ rfl, box_cell (Below.refl _ _) 1 _ rfl, box_cell (Below.refl _ _) 2 _ rfl,
      fun j => (by unfold World.frozen?; simp only []; rw [show (w3.alloc (.cells #[.int .i64 n, .slice none 0 0, .int .i64 0] 52)).heap[w3.heap.size]? = some (.cells #[.int .i64 n, .slice none 0 0, .int .i64 0] 52 (0, 0)) from heap_alloc_new w3 _]; simp), RRow.nil, ⟨fun _ => ⟨rfl, rfl⟩, Nat.zero_le _⟩⟩
  have hb9 : w1.heap.size ≤ w3.heap.size := Nat.le_trans HB2.out.size HB3.out.size
  have hbw : Below w1.heap.size w1 (w3.alloc (.cells #[.int .i64 n, .slice none 0 0, .int .i64 0] 52)) := bthen HB2.out (bthen HB3.out (below_alloc _ _))
  have HBI := hid hbi; have HB9 := hid hb9; have HBW := hid hbw; clear hap hbi hb9 hbw
  obtain ⟨b9, hb9e⟩ : ∃ b9, b9 = w3.heap.size := ⟨_, rfl⟩
  rw [← hb9e] at HBI HB9
  rw [← hb9e]
  clear hb9e
  go_loopw [52] (fun i wr => ∃ k : Nat, ∃ A c s B d, k ≤ O.length ∧ i = .int .i64 k ∧ BI wr bb mb A c s s b9 B d ∧ Below w1.heap.size w1 wr ∧ ∀ b, b < w1.heap.size → Apart wr bb mb A b)
    (fun i _ => O.length - (intOf i).toNat)
  case atStart => exact ⟨0, none, 0, _, none, 0, by omega, rfl, HBI.out, HBW.out, fun b hb => ⟨Nat.lt_of_lt_of_le hb HBW.out.size, by have := HBB.out.1; have := HB2.out.size; omega, by have := HBB.out.2; omega, fun a ha => by cases ha⟩⟩
  case round =>
    obtain ⟨k, A, c, s, B, d, hk, rfl, hbi, hbr, hap⟩ := hrel
    have HAP := hid hap; clear hap
    have HM := hid hbi; have HBR := hid hbr
    have c0 := hbi.c0; have c1 := hbi.c1; have c2 := hbi.c2
    have y0 := lt_of_cell c0; dsimp only at y0
    clear hbi hbr
    by_cases hlt : k < O.length
    · obtain ⟨sb, so, rfl, m0, m1, m2, m3⟩ := hO.op k hlt
      obtain ⟨o, ho⟩ : ∃ o, o = O.getD k gop0 := ⟨_, rfl⟩
      rw [← ho] at m0 m1 m2 m3
      clear ho
      obtain ⟨kk, aa, b2, cc2⟩ := o
      have hbw := bthen HB1.out HBR.out
      have m0 := below_cell hbw m0; have m1 := below_cell hbw m1; have m2 := below_cell hbw m2; have m3 := below_cell hbw m3
      clear hbw
      obtain ⟨t, z, hr⟩ : ∃ r z, s.step kk aa b2 cc2 = (r, z) := ⟨_, _, rfl⟩
      have ado : Calls Try.prog 25 #[.agg #[.int .i64 s.n, .slice B s.G.length d, .int .i64 s.er], .agg #[.int .i64 kk, .int .i64 aa, .int .i64 b2, .int .i64 cc2]] (wr.alloc (.cells #[.int .i64 kk, .int .i64 aa, .int .i64 b2, .int .i64 cc2] 48)) fun e w4 =>
          ∃ B4 d4, e = .returned (.tuple #[.agg #[.int .i64 t.n, .slice B4 t.G.length d4, .int .i64 t.er], .int .i64 z]) ∧
            BI w4 bb mb A c s s b9 B d ∧ w4.cell? ⟨wr.heap.size, 0, none⟩ = some (.int .i64 kk) ∧ w4.cell? ⟨wr.heap.size, 1, none⟩ = some (.int .i64 aa) ∧ w4.cell? ⟨wr.heap.size, 2, none⟩ = some (.int .i64 b2) ∧ w4.cell? ⟨wr.heap.size, 3, none⟩ = some (.int .i64 cc2) ∧
            RRow (Apart w4 bb mb A) w4 B4 (gcells t.G) ∧ ((t.G = [] → B4 = none ∧ d4 = 0) ∧ t.G.length ≤ d4) ∧ Below wr.heap.size wr w4 := by
        have hm := HM.out.below (below_alloc wr (.cells #[.int .i64 kk, .int .i64 aa, .int .i64 b2, .int .i64 cc2] 48))
        have hrow : RRow (fun b => Apart wr bb mb A b ∨ wr.heap.size ≤ b) (wr.alloc (.cells #[.int .i64 kk, .int .i64 aa, .int .i64 b2, .int .i64 cc2] 48)) B (gcells s.G) :=
          (HM.out.row.below (below_alloc wr _)).mono (fun b' _ hz => Or.inl hz)
        refine (rdo_any (Z := fun b => Apart wr bb mb A b ∨ wr.heap.size ≤ b) (fun b' hb' => Or.inr (by simp at hb'; omega)) ⟨B, d, rfl, hrow, HM.out.nil⟩ HM.out.bst.ok kk aa b2 cc2).mono ?_
        rw [hr]
        rintro e w4 ⟨v4, rfl, ⟨B4, d4, rfl, hr4, hn4⟩, hb4⟩
        have hlt4 : wr.heap.size ≤ w4.heap.size := Nat.le_trans (below_alloc wr _).size hb4.size
        refine ⟨B4, d4, rfl, hm.below hb4, box_cell hb4 0 _ rfl, box_cell hb4 1 _ rfl, box_cell hb4 2 _ rfl, box_cell hb4 3 _ rfl, hr4.mono (fun b' hb' hz => ?_), hn4, bthen (below_alloc wr _) hb4⟩
        rcases hz with hz | hz
        · exact ⟨hb', hz.2⟩
        · exact ⟨hb', by have := HM.out.bst.lt; omega, by have := HM.out.bst.map.lt; omega, fun a ha => by have := own_blk_lt HM.out.bst.own a ha; omega⟩
      have HR := hid hr; have ADO := hid ado; clear hr ado
      go_wp2_with (go_at_call 25; refine ADO.out.mono ?_; rintro e w4 ⟨B4, d4, rfl, hm4⟩; have HM4 := hid hm4; have q0 := hm4.2.1; have q1 := hm4.2.2.1; have q2 := hm4.2.2.2.1; have q3 := hm4.2.2.2.2.1; have r0 := hm4.1.c0; have r1 := hm4.1.c1; have r2 := hm4.1.c2; have f0 := hm4.1.fz 0; have f1 := hm4.1.fz 1; have f2 := hm4.1.fz 2; have z9 := lt_of_cell r0; have z10 := lt_of_cell q0; dsimp only at z9 z10; clear hm4)
      have hne : wr.heap.size ≠ b9 := by omega
      have hk5 := put3_keep w4 b9 (.int .i64 t.n) (.slice B4 t.G.length d4) (.int .i64 t.er) wr.heap.size hne
      have hbi5 := (HM4.out.1.store HM4.out.2.2.2.2.2.1 HM4.out.2.2.2.2.2.2.1).below (below_alloc _ (.cells #[.int .i64 t.n, .slice B4 t.G.length d4, .int .i64 t.er] 52))
      have hb5 : Below w1.heap.size w1 ((put3 w4 b9 (.int .i64 t.n) (.slice B4 t.G.length d4) (.int .i64 t.er)).alloc (.cells #[.int .i64 t.n, .slice B4 t.G.length d4, .int .i64 t.er] 52)) :=
        bthen (put3_below (bthen HBR.out HM4.out.2.2.2.2.2.2.2) HB9.out) (below_alloc _ _)
      have hap5 : ∀ b, b < w1.heap.size → Apart ((put3 w4 b9 (.int .i64 t.n) (.slice B4 t.G.length d4) (.int .i64 t.er)).alloc (.cells #[.int .i64 t.n, .slice B4 t.G.length d4, .int .i64 t.er] 52)) bb mb A b := fun b hb =>
        ⟨Nat.lt_of_lt_of_le hb hb5.size, (HAP.out b hb).2⟩
      have q0 := below_cell (below_alloc _ (.cells #[.int .i64 t.n, .slice B4 t.G.length d4, .int .i64 t.er] 52)) ((cell_of_keep hk5 0).trans q0)
      have q1 := below_cell (below_alloc _ (.cells #[.int .i64 t.n, .slice B4 t.G.length d4, .int .i64 t.er] 52)) ((cell_of_keep hk5 1).trans q1)
      have q2 := below_cell (below_alloc _ (.cells #[.int .i64 t.n, .slice B4 t.G.length d4, .int .i64 t.er] 52)) ((cell_of_keep hk5 2).trans q2)
      have q3 := below_cell (below_alloc _ (.cells #[.int .i64 t.n, .slice B4 t.G.length d4, .int .i64 t.er] 52)) ((cell_of_keep hk5 3).trans q3)
      obtain ⟨w5, hw5⟩ : ∃ w5, w5 = (put3 w4 b9 (.int .i64 t.n) (.slice B4 t.G.length d4) (.int .i64 t.er)).alloc (.cells #[.int .i64 t.n, .slice B4 t.G.length d4, .int .i64 t.er] 52) := ⟨_, rfl⟩
      rw [← hw5] at hbi5 hb5 hap5 q0 q1 q2 q3
      unfold put3 at hw5
      rw [← hw5]
      clear hw5 hk5 hne
      have HM := hid hbi5; have HB5 := hid hb5; have HAP5 := hid hap5
      have r0 := hbi5.c0; have r1 := hbi5.c1; have r2 := hbi5.c2
      clear hbi5 hb5 hap5
      refine wp_region_J (fun j => match j with | 2 => some (fun W => W.cell? ⟨b9, 0, none⟩ = some (.int .i64 t.n) ∧ W.cell? ⟨b9, 1, none⟩ = some (.slice B4 t.G.length d4) ∧ W.cell? ⟨b9, 2, none⟩ = some (.int .i64 t.er)) | 7 => some (fun W => W.cell? ⟨b9, 0, none⟩ = some (.int .i64 t.n) ∧ W.cell? ⟨b9, 1, none⟩ = some (.slice B4 t.G.length d4) ∧ W.cell? ⟨b9, 2, none⟩ = some (.int .i64 t.er)) | 14 => some (fun W => W.cell? ⟨b9, 0, none⟩ = some (.int .i64 t.n) ∧ W.cell? ⟨b9, 1, none⟩ = some (.slice B4 t.G.length d4) ∧ W.cell? ⟨b9, 2, none⟩ = some (.int .i64 t.er)) | 17 => some (fun W => W.cell? ⟨b9, 0, none⟩ = some (.int .i64 t.n) ∧ W.cell? ⟨b9, 1, none⟩ = some (.slice B4 t.G.length d4) ∧ W.cell? ⟨b9, 2, none⟩ = some (.int .i64 t.er)) | 22 => some (fun W => W.cell? ⟨b9, 0, none⟩ = some (.int .i64 t.n) ∧ W.cell? ⟨b9, 1, none⟩ = some (.slice B4 t.G.length d4) ∧ W.cell? ⟨b9, 2, none⟩ = some (.int .i64 t.er)) | 25 => some (fun W => W.cell? ⟨b9, 0, none⟩ = some (.int .i64 t.n) ∧ W.cell? ⟨b9, 1, none⟩ = some (.slice B4 t.G.length d4) ∧ W.cell? ⟨b9, 2, none⟩ = some (.int .i64 t.er)) | _ => none) (by kernel_rfl) ?_
      refine anyJ_take (some 63) (i := 0) (T := fun _ => True) (v := ?_) rfl rfl (by kernel_rfl) (by kernel_rfl) (by kernel_rfl) (fun _ _ _ h => h) (js := []) (by kernel_rfl) Leads.true rfl (Or.inl ⟨by rfl, ?_⟩) trivial ?_
      rotate_left
      · (intro wL hSw; (try dsimp only at hSw); go_simp; try with_reducible rfl)
      try simp only [Act.put, List.setIfInBounds_toArray, List.set_cons_zero, List.set_cons_succ]
      refine anyJ_take (some 64) (i := 1) (T := fun W => W.cell? ⟨wr.heap.size, 0, none⟩ = some (.int .i64 kk) ∧ W.cell? ⟨wr.heap.size, 1, none⟩ = some (.int .i64 aa) ∧ W.cell? ⟨wr.heap.size, 2, none⟩ = some (.int .i64 b2) ∧ W.cell? ⟨wr.heap.size, 3, none⟩ = some (.int .i64 cc2)) (v := ?_) rfl rfl (by kernel_rfl) (by kernel_rfl) (by kernel_rfl) (fun _ _ _ h => h) (js := []) (by kernel_rfl) Leads.nil rfl (Or.inl ⟨by rfl, ?_⟩) (⟨q0, q1, q2, q3⟩) ?_
      rotate_left
      · (intro wL hSw; (try dsimp only at hSw); go_simp; try with_reducible rfl)
      try simp only [Act.put, List.setIfInBounds_toArray, List.set_cons_zero, List.set_cons_succ]
      refine anyJ_take (some 66) (i := 3) (T := fun _ => True) (v := ?_) rfl rfl (by kernel_rfl) (by kernel_rfl) (by kernel_rfl) (fun _ _ _ h => h) (js := [2]) (by kernel_rfl) Leads.true rfl (Or.inl ⟨by rfl, ?_⟩) trivial ?_
      rotate_left
      · (intro wL hSw; (try dsimp only at hSw); go_simp; try with_reducible rfl)
      try simp only [Act.put, List.setIfInBounds_toArray, List.set_cons_zero, List.set_cons_succ]
      refine anyJ_one (i := 2) (oi := { dst := some 65, op := Go.Op.call { callee := Go.Callee.value (Go.Operand.func 23), args := #[Go.Operand.tmp 63, Go.Operand.tmp 64], argTypes := #[36, 48] }, type := 3, pos := "law.go:54", after := #[{ on := 0, ground := Go.Ground.data }, { on := 1, ground := Go.Ground.data }], guard := none }) rfl (by kernel_rfl) (by rfl) (fun K hK => ?_)
      go_simp
      refine (do_any (HM.out.bst.below (below_drew' w5)) kk aa b2 cc2).mono ?_
      rw [HR.out]
      rintro e w6 ⟨rfl, A6, c6, hs6, st6⟩
      have HM := hid (BI.step HM.out hs6 ((Step.of_below (below_drew' w5)).trans st6))
      have HB6 := hid ((Step.of_below (A := A) (below_drew' w5)).trans st6); clear hs6 st6
      have r0 := HM.out.c0; have r1 := HM.out.c1; have r2 := HM.out.c2
      have HBL := hid (Below.refl w6.heap.size w6)
      have hok : t.Ok := HM.out.bst.ok
      have hsz := hok.size; have hlo' := hok.lo; have hhi' := hok.hi
      have HNOD := hid (show nodesI t.n t.G.length = 1 + t.n + t.G.length from by unfold nodesI wrap64; omega); clear hok
      refine hK.out _ _ (by dsimp only [Obl]; exact ⟨r0, r1, r2⟩) ?_
      clear hK K
      try simp only [Act.put, List.setIfInBounds_toArray, List.set_cons_zero, List.set_cons_succ]
      refine anyJ_take (some 67) (i := 4) (T := fun _ => True) (v := ?_) rfl rfl (by kernel_rfl) (by kernel_rfl) (by kernel_rfl) (fun _ _ _ h => h) (js := [2]) (by kernel_rfl) Leads.true rfl (Or.inl ⟨by rfl, ?_⟩) trivial ?_
      rotate_left
      · (intro wL hSw; (try dsimp only at hSw); go_simp; try with_reducible rfl)
      try simp only [Act.put, List.setIfInBounds_toArray, List.set_cons_zero, List.set_cons_succ]
      refine anyJ_take (some 68) (i := 5) (T := fun _ => True) (v := ?_) rfl rfl (by kernel_rfl) (by kernel_rfl) (by kernel_rfl) (fun _ _ _ h => h) (js := [2]) (by kernel_rfl) Leads.true rfl (Or.inl ⟨by rfl, ?_⟩) trivial ?_
      rotate_left
      · (intro wL hSw; (try dsimp only at hSw); go_simp; try with_reducible rfl)
      try simp only [Act.put, List.setIfInBounds_toArray, List.set_cons_zero, List.set_cons_succ]
      refine anyJ_take (some 69) (i := 6) (T := fun _ => True) (v := ?_) rfl rfl (by kernel_rfl) (by kernel_rfl) (by kernel_rfl) (fun _ _ _ h => h) (js := [2]) (by kernel_rfl) Leads.true rfl (Or.inl ⟨by rfl, ?_⟩) trivial ?_
      rotate_left
      · (intro wL hSw; (try dsimp only at hSw); go_simp; try with_reducible rfl)
      try simp only [Act.put, List.setIfInBounds_toArray, List.set_cons_zero, List.set_cons_succ]
      refine anyJ_take (some 71) (i := 8) (T := fun _ => True) (v := ?_) rfl rfl (by kernel_rfl) (by kernel_rfl) (by kernel_rfl) (fun _ _ _ h => h) (js := [2, 7]) (by kernel_rfl) Leads.true rfl (Or.inl ⟨by rfl, ?_⟩) trivial ?_
      rotate_left
      · (intro wL hSw; (try dsimp only at hSw); go_simp; try with_reducible rfl)
      try simp only [Act.put, List.setIfInBounds_toArray, List.set_cons_zero, List.set_cons_succ]
      refine anyJ_take (some 72) (i := 9) (T := fun W => W.cell? ⟨b9, 2, none⟩ = some (.int .i64 t.er)) (v := ?_) rfl rfl (by kernel_rfl) (by kernel_rfl) (by kernel_rfl) (fun _ _ _ h => h) (js := [2, 7]) (by kernel_rfl) (Leads.cons _ rfl (fun w h => h.2.2) (Leads.cons _ rfl (fun w h => h.2.2) Leads.nil)) rfl (Or.inl ⟨by rfl, ?_⟩) (r2) ?_
      rotate_left
      · (intro wL hSw; (try dsimp only at hSw); go_simp; try with_reducible rfl)
      try simp only [Act.put, List.setIfInBounds_toArray, List.set_cons_zero, List.set_cons_succ]
      refine anyJ_one (i := 7) (oi := { dst := some 70, op := Go.Op.call { callee := Go.Callee.value (Go.Operand.func 19), args := #[Go.Operand.tmp 69], argTypes := #[36] }, type := 28, pos := "law.go:54", after := #[{ on := 6, ground := Go.Ground.data }, { on := 5, ground := Go.Ground.chain }, { on := 5, ground := Go.Ground.guard }], guard := some (5, false) }) rfl (by kernel_rfl) (by rfl) (fun K hK => ?_)
      go_simp
      refine (err_any HM.out.bst).mono ?_
      rintro e w7 ⟨rfl, hw7⟩; rw [← hw7]; clear hw7 w7
      refine hK.out _ _ (by dsimp only [Obl]; exact ⟨r0, r1, r2⟩) ?_
      clear hK K
      try simp only [Act.put, List.setIfInBounds_toArray, List.set_cons_zero, List.set_cons_succ]
      refine anyJ_take (some 73) (i := 10) (T := fun _ => True) (v := ?_) rfl rfl (by kernel_rfl) (by kernel_rfl) (by kernel_rfl) (fun _ _ _ h => h) (js := [2, 7]) (by kernel_rfl) Leads.true rfl (Or.inl ⟨by rfl, ?_⟩) trivial ?_
      rotate_left
      · (intro wL hSw; (try dsimp only at hSw); go_simp; try with_reducible rfl)
      try simp only [Act.put, List.setIfInBounds_toArray, List.set_cons_zero, List.set_cons_succ]
      refine anyJ_take (some 74) (i := 11) (T := fun _ => True) (v := ?_) rfl rfl (by kernel_rfl) (by kernel_rfl) (by kernel_rfl) (fun _ _ _ h => h) (js := [2, 7]) (by kernel_rfl) Leads.true rfl (Or.inl ⟨by rfl, ?_⟩) trivial ?_
      rotate_left
      · (intro wL hSw; (try dsimp only at hSw); go_simp; try with_reducible rfl)
      try simp only [Act.put, List.setIfInBounds_toArray, List.set_cons_zero, List.set_cons_succ]
      refine anyJ_take (some 75) (i := 12) (T := fun _ => True) (v := ?_) rfl rfl (by kernel_rfl) (by kernel_rfl) (by kernel_rfl) (fun _ _ _ h => h) (js := [2, 7]) (by kernel_rfl) Leads.true rfl (Or.inl ⟨by rfl, ?_⟩) trivial ?_
      rotate_left
      · (intro wL hSw; (try dsimp only at hSw); go_simp; try with_reducible rfl)
      try simp only [Act.put, List.setIfInBounds_toArray, List.set_cons_zero, List.set_cons_succ]
      refine anyJ_take (some 76) (i := 13) (T := fun _ => True) (v := ?_) rfl rfl (by kernel_rfl) (by kernel_rfl) (by kernel_rfl) (fun _ _ _ h => h) (js := [2, 7]) (by kernel_rfl) Leads.true rfl (Or.inl ⟨by rfl, ?_⟩) trivial ?_
      rotate_left
      · (intro wL hSw; (try dsimp only at hSw); go_simp; try with_reducible rfl)
      try simp only [Act.put, List.setIfInBounds_toArray, List.set_cons_zero, List.set_cons_succ]
      refine anyJ_take (some 78) (i := 15) (T := fun _ => True) (v := ?_) rfl rfl (by kernel_rfl) (by kernel_rfl) (by kernel_rfl) (fun _ _ _ h => h) (js := [2, 7, 14]) (by kernel_rfl) Leads.true rfl (Or.inl ⟨by rfl, ?_⟩) trivial ?_
      rotate_left
      · (intro wL hSw; (try dsimp only at hSw); go_simp; try with_reducible rfl)
      try simp only [Act.put, List.setIfInBounds_toArray, List.set_cons_zero, List.set_cons_succ]
      refine anyJ_take (some 79) (i := 16) (T := fun W => W.cell? ⟨b9, 0, none⟩ = some (.int .i64 t.n) ∧ W.cell? ⟨b9, 1, none⟩ = some (.slice B4 t.G.length d4)) (v := ?_) rfl rfl (by kernel_rfl) (by kernel_rfl) (by kernel_rfl) (fun _ _ _ h => h) (js := [2, 7, 14]) (by kernel_rfl) (Leads.cons _ rfl (fun w h => ⟨h.1, h.2.1⟩) (Leads.cons _ rfl (fun w h => ⟨h.1, h.2.1⟩) (Leads.cons _ rfl (fun w h => ⟨h.1, h.2.1⟩) Leads.nil))) rfl (Or.inl ⟨by rfl, ?_⟩) (⟨r0, r1⟩) ?_
      rotate_left
      · (intro wL hSw; (try dsimp only at hSw); go_simp; try with_reducible rfl)
      try simp only [Act.put, List.setIfInBounds_toArray, List.set_cons_zero, List.set_cons_succ]
      refine anyJ_one (i := 14) (oi := { dst := some 77, op := Go.Op.call { callee := Go.Callee.value (Go.Operand.func 20), args := #[Go.Operand.tmp 76], argTypes := #[36] }, type := 3, pos := "law.go:54", after := #[{ on := 13, ground := Go.Ground.data }, { on := 12, ground := Go.Ground.chain }, { on := 12, ground := Go.Ground.guard }], guard := some (12, false) }) rfl (by kernel_rfl) (by rfl) (fun K hK => ?_)
      go_simp
      refine (len_any HM.out.bst).mono ?_
      rintro e w7 ⟨rfl, hb7⟩
      have HM := hid (HM.out.below hb7); have HBL := hid (bthen HBL.out hb7); clear hb7
      have r0 := HM.out.c0; have r1 := HM.out.c1; have r2 := HM.out.c2
      refine hK.out _ _ (by dsimp only [Obl]; exact ⟨r0, r1, r2⟩) ?_
      clear hK K
      try simp only [Act.put, List.setIfInBounds_toArray, List.set_cons_zero, List.set_cons_succ]
      refine anyJ_one (i := 17) (oi := { dst := some 80, op := Go.Op.call { callee := Go.Callee.value (Go.Operand.func 26), args := #[Go.Operand.tmp 79], argTypes := #[24] }, type := 3, pos := "law.go:54", after := #[{ on := 16, ground := Go.Ground.data }, { on := 14, ground := Go.Ground.chain }, { on := 12, ground := Go.Ground.guard }], guard := some (12, false) }) rfl (by kernel_rfl) (by rfl) (fun K hK => ?_)
      go_simp
      refine (rnodes_any _ _ _ _ _).mono ?_
      rw [HNOD.out]
      rintro e w7 ⟨rfl, hb7⟩
      have HM := hid (HM.out.below hb7); have HBL := hid (bthen HBL.out hb7); clear hb7
      have r0 := HM.out.c0; have r1 := HM.out.c1; have r2 := HM.out.c2
      refine hK.out _ _ (by dsimp only [Obl]; exact ⟨r0, r1, r2⟩) ?_
      clear hK K
      try simp only [Act.put, List.setIfInBounds_toArray, List.set_cons_zero, List.set_cons_succ]
      refine anyJ_take (some 81) (i := 18) (T := fun _ => True) (v := ?_) rfl rfl (by kernel_rfl) (by kernel_rfl) (by kernel_rfl) (fun _ _ _ h => h) (js := [2, 7, 14, 17]) (by kernel_rfl) Leads.true rfl (Or.inl ⟨by rfl, ?_⟩) trivial ?_
      rotate_left
      · (intro wL hSw; (try dsimp only at hSw); go_simp; try with_reducible rfl)
      try simp only [Act.put, List.setIfInBounds_toArray, List.set_cons_zero, List.set_cons_succ]
      refine anyJ_take (some 82) (i := 19) (T := fun _ => True) (v := ?_) rfl rfl (by kernel_rfl) (by kernel_rfl) (by kernel_rfl) (fun _ _ _ h => h) (js := [2, 7, 14, 17]) (by kernel_rfl) Leads.true rfl (Or.inl ⟨by rfl, ?_⟩) trivial ?_
      rotate_left
      · (intro wL hSw; (try dsimp only at hSw); go_simp; try with_reducible rfl)
      try simp only [Act.put, List.setIfInBounds_toArray, List.set_cons_zero, List.set_cons_succ]
      refine anyJ_take (some 83) (i := 20) (T := fun _ => True) (v := ?_) rfl rfl (by kernel_rfl) (by kernel_rfl) (by kernel_rfl) (fun _ _ _ h => h) (js := [2, 7, 14, 17]) (by kernel_rfl) Leads.true rfl (Or.inl ⟨by rfl, ?_⟩) trivial ?_
      rotate_left
      · (intro wL hSw; (try dsimp only at hSw); go_simp; try with_reducible rfl)
      try simp only [Act.put, List.setIfInBounds_toArray, List.set_cons_zero, List.set_cons_succ]
      refine anyJ_take (some 84) (i := 21) (T := fun _ => True) (v := ?_) rfl rfl (by kernel_rfl) (by kernel_rfl) (by kernel_rfl) (fun _ _ _ h => h) (js := [2, 7, 14, 17]) (by kernel_rfl) Leads.true rfl (Or.inl ⟨by rfl, ?_⟩) trivial ?_
      rotate_left
      · (intro wL hSw; (try dsimp only at hSw); go_simp; try with_reducible rfl)
      try simp only [Act.put, List.setIfInBounds_toArray, List.set_cons_zero, List.set_cons_succ]
      refine anyJ_take (some 86) (i := 23) (T := fun _ => True) (v := ?_) rfl rfl (by kernel_rfl) (by kernel_rfl) (by kernel_rfl) (fun _ _ _ h => h) (js := [2, 7, 14, 17, 22]) (by kernel_rfl) Leads.true rfl (Or.inl ⟨by rfl, ?_⟩) trivial ?_
      rotate_left
      · (intro wL hSw; (try dsimp only at hSw); go_simp; try with_reducible rfl)
      try simp only [Act.put, List.setIfInBounds_toArray, List.set_cons_zero, List.set_cons_succ]
      refine anyJ_take (some 87) (i := 24) (T := fun W => W.cell? ⟨b9, 0, none⟩ = some (.int .i64 t.n) ∧ W.cell? ⟨b9, 1, none⟩ = some (.slice B4 t.G.length d4)) (v := ?_) rfl rfl (by kernel_rfl) (by kernel_rfl) (by kernel_rfl) (fun _ _ _ h => h) (js := [2, 7, 14, 17, 22]) (by kernel_rfl) (Leads.cons _ rfl (fun w h => ⟨h.1, h.2.1⟩) (Leads.cons _ rfl (fun w h => ⟨h.1, h.2.1⟩) (Leads.cons _ rfl (fun w h => ⟨h.1, h.2.1⟩) (Leads.cons _ rfl (fun w h => ⟨h.1, h.2.1⟩) (Leads.cons _ rfl (fun w h => ⟨h.1, h.2.1⟩) Leads.nil))))) rfl (Or.inl ⟨by rfl, ?_⟩) (⟨r0, r1⟩) ?_
      rotate_left
      · (intro wL hSw; (try dsimp only at hSw); go_simp; try with_reducible rfl)
      try simp only [Act.put, List.setIfInBounds_toArray, List.set_cons_zero, List.set_cons_succ]
      refine anyJ_one (i := 22) (oi := { dst := some 85, op := Go.Op.call { callee := Go.Callee.value (Go.Operand.func 21), args := #[Go.Operand.tmp 84], argTypes := #[36] }, type := 24, pos := "law.go:54", after := #[{ on := 21, ground := Go.Ground.data }, { on := 20, ground := Go.Ground.chain }, { on := 20, ground := Go.Ground.guard }], guard := some (20, false) }) rfl (by kernel_rfl) (by rfl) (fun K hK => ?_)
      go_simp
      refine (circuit_any HM.out.bst).mono ?_
      rintro e w7 ⟨B7, d7, rfl, hr7, hb7⟩
      have HM := hid (HM.out.below hb7); have HBL := hid (bthen HBL.out hb7); have HR7 := hid hr7; clear hb7 hr7
      have r0 := HM.out.c0; have r1 := HM.out.c1; have r2 := HM.out.c2
      refine hK.out _ _ (by dsimp only [Obl]; exact ⟨r0, r1, r2⟩) ?_
      clear hK K
      try simp only [Act.put, List.setIfInBounds_toArray, List.set_cons_zero, List.set_cons_succ]
      refine anyJ_one (i := 25) (oi := { dst := some 88, op := Go.Op.call { callee := Go.Callee.value (Go.Operand.func 27), args := #[Go.Operand.tmp 85, Go.Operand.tmp 87], argTypes := #[24, 24] }, type := 4, pos := "law.go:54", after := #[{ on := 22, ground := Go.Ground.data }, { on := 24, ground := Go.Ground.data }, { on := 22, ground := Go.Ground.chain }, { on := 20, ground := Go.Ground.guard }], guard := some (20, false) }) rfl (by kernel_rfl) (by rfl) (fun K hK => ?_)
      go_simp
      refine (same_any t.n t.n B7 B4 d7 d4 t.G t.G _ (by omega) (by omega) HR7.out HM.out.row.row).mono ?_
      rintro e w7 ⟨ht, hb7⟩; obtain rfl := ht.eq_yes ⟨rfl, rfl⟩; clear ht
      have HM := hid (HM.out.below hb7); have HBL := hid (bthen HBL.out hb7); clear hb7
      have r0 := HM.out.c0; have r1 := HM.out.c1; have r2 := HM.out.c2
      refine hK.out _ _ (by dsimp only [Obl]; exact ⟨r0, r1, r2⟩) ?_
      clear hK K
      try simp only [Act.put, List.setIfInBounds_toArray, List.set_cons_zero, List.set_cons_succ]
      refine anyJ_take (some 89) (i := 26) (T := fun _ => True) (v := ?_) rfl rfl (by kernel_rfl) (by kernel_rfl) (by kernel_rfl) (fun _ _ _ h => h) (js := [2, 7, 14, 17, 22, 25]) (by kernel_rfl) Leads.true rfl (Or.inl ⟨by rfl, ?_⟩) trivial ?_
      rotate_left
      · (intro wL hSw; (try dsimp only at hSw); go_simp; try with_reducible rfl)
      try simp only [Act.put, List.setIfInBounds_toArray, List.set_cons_zero, List.set_cons_succ]
      refine anyJ_take (some 90) (i := 27) (T := fun _ => True) (v := ?_) rfl rfl (by kernel_rfl) (by kernel_rfl) (by kernel_rfl) (fun _ _ _ h => h) (js := [2, 7, 14, 17, 22, 25]) (by kernel_rfl) Leads.true rfl (Or.inl ⟨by rfl, ?_⟩) trivial ?_
      rotate_left
      · (intro wL hSw; (try dsimp only at hSw); go_simp; try with_reducible rfl)
      try simp only [Act.put, List.setIfInBounds_toArray, List.set_cons_zero, List.set_cons_succ]
      refine anyJ_done (by kernel_rfl) ?_
      go_wp2_with fail
      have hb6 := below_step HB5.out HAP5.out HB6.out
      refine ⟨⟨k + 1, A6, c6, t, B4, d4, by omega, by go_num, HM.out, bthen hb6 HBL.out, fun b hb => ((HB6.out.apart b (HAP5.out b hb))).below HBL.out⟩, by simp [intOf]; omega⟩
    · obtain rfl : k = O.length := by omega
      by_cases x1 : 1099511627776 < x
      · go_wp2_with fail
        go_ret
        exact ⟨rfl, bthen HB1.out HBR.out⟩
      have x1' : decide (1099511627776 < x) = false := by simp; omega
      by_cases x2 : x < -1099511627776
      · clear x1
        go_wp2_with fail
        go_ret
        exact ⟨rfl, bthen HB1.out HBR.out⟩
      have x2' : decide (x < -1099511627776) = false := by simp; omega
      have x3 : -1099511627776 ≤ x := by omega
      have x4 : x ≤ 1099511627776 := by omega
      clear x1 x2
      go_wp2_with (first
        | (go_at_call 18; refine (not_any x _ (by omega) (by omega)).mono ?_; rintro e w9 ⟨rfl, hw9⟩; rw [hw9]; clear hw9 w9)
        | (go_at_call 28; refine (rnot_any x _ (by omega) (by omega)).mono ?_; rintro e w9 ⟨rfl, hw9⟩; rw [hw9]; clear hw9 w9))
      go_ret
      exact ⟨rfl, bthen HB1.out HBR.out⟩
end Go.Proofs.Ytelbjendeldlcaa
