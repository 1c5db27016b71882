/- gates.needed: the marks of the nodes that some literals need. -/
import Derived.Test.YtelbjendeldlcaaAK
namespace Go.Proofs.Ytelbjendeldlcaa
open Go.RowKit

def GivesMarks (w : World) (ms : List Bool) (e : Ending) (w' : World) : Prop := ∃ mb, e = .returned (.slice (some ⟨mb, 0, none⟩) ms.length ms.length) ∧ MarksAt w' mb ms ∧ w.heap.size ≤ mb ∧ Below w.heap.size w w'
theorem downF_length (n : Nat) (G : List (Int × Int)) : ∀ k ms, (downF n G k ms).length = ms.length := by
  intro k
  induction k with
  | zero => intro ms; rfl
  | succ k ih => intro ms; unfold downF; rw [ih]; split <;> simp [mark_length]
theorem needF_length (n : Nat) (G : List (Int × Int)) (L : List Int) : (needF n G L).length = 1 + n + G.length := by
  unfold needF; rw [downF_length, markAll_length]; simp

theorem idx0 (x y : Int) (w : World) : (Instr.index 69 (.agg #[.int .i64 x, .int .i64 y]) (.int .i64 0)).run Try.prog w = .ok (.int .i64 x) w := by kernel_rfl
theorem idx1 (x y : Int) (w : World) : (Instr.index 69 (.agg #[.int .i64 x, .int .i64 y]) (.int .i64 1)).run Try.prog w = .ok (.int .i64 y) w := by kernel_rfl
set_option maxHeartbeats 1000000 in
theorem needed_any (m : Nat) (ga : Option Addr) (gc : Nat) (G : List (Int × Int)) (la : Option Addr) (lc : Nat) (L : List Int) (w : World)
    (hG : Row w ga (gcells G)) (hL : Row w la (ints L)) (hll : L.length ≤ 1000000000000) (hV : Vld m G) (hK : LitOk (litN m G.length) L) :
    Calls Try.prog 50 #[.agg #[.int .i64 m, .slice ga G.length gc], .slice la L.length lc] w (GivesMarks w (needF m G L)) := by
  have hlo := hV.lo; have hhi := hV.hi; have hsz := hV.size
  obtain ⟨N, hN⟩ : ∃ N, N = 1 + m + G.length := ⟨_, rfl⟩
  have hNle : N ≤ 65536 := by omega
  have hN1 : 1 + (m : Int) + (G.length : Int) ≤ N := by omega
  have hN2 : (N : Int) ≤ 1 + (m : Int) + (G.length : Int) := by omega
  have hnod : nodesI m G.length = (N : Int) := by rw [hN]; unfold nodesI wrap64; omega
  have hmk := run_marks N (by omega)
  rw [litN_plain hlo hsz] at hK
  have HV := hid hV; have HK := hid hK; have HNOD := hid hnod; have HN := hid hN; clear hV hK hnod hN
  go_enter Try.func50, Try.ntmps50
  go_wp2_with (go_at_call 40; refine (nodes_any _ _ _ _ _).mono ?_; rw [HNOD.out]; rintro e w1 ⟨rfl, hb1⟩; have c0 := box_cell hb1 0 _ rfl; have c1 := box_cell hb1 1 _ rfl; have HBW := hid (bthen (below_alloc w _) hb1); have z1 := lt_of_cell c0; dsimp only at z1; clear hb1)
  obtain ⟨mb, hmb⟩ : ∃ mb, mb = w1.heap.size := ⟨_, rfl⟩
  have hm0 := MarksAt.made w1 N
  have hb0 := below_alloc w1 (.cells (bools (List.replicate N false)).toArray 4)
  obtain ⟨w2, hw2⟩ : ∃ w2, w2 = w1.alloc (.cells (bools (List.replicate N false)).toArray 4) := ⟨_, rfl⟩
  rw [← hw2] at hm0 hb0
  rw [← hw2]
  rw [← hmb] at hm0
  have hmw : w.heap.size ≤ mb := by rw [hmb]; exact HBW.out.size
  have hmw1 : w1.heap.size ≤ mb := Nat.le_of_eq hmb.symm
  have hwm : w.heap.size < mb := by rw [hmb]; exact z1
  rw [← hmb]
  have HM0 := hid hm0; have HB0 := hid hb0
  clear hw2 hm0 hb0 hmb hmk
  go_loopw [16] (fun i wr => ∃ k : Nat, k ≤ L.length ∧ i = .int .i64 k ∧ MarksAt wr mb (markAll (List.replicate N false) (L.take k)) ∧ Below w1.heap.size w1 wr)
    (fun i _ => L.length - (intOf i).toNat)
  case atStart => exact ⟨0, by omega, rfl, HM0.out, HB0.out⟩
  case round =>
    obtain ⟨k, hk, rfl, hm, hbr⟩ := hrel
    have HM := hid hm; have HBR := hid hbr
    by_cases hlt : k < L.length
    · obtain ⟨sb, so, rfl, hx⟩ := hL.int k hlt
      obtain ⟨x, hx0⟩ : ∃ x, x = L.getD k 0 := ⟨_, rfl⟩
      rw [← hx0] at hx
      have hxr := HK.out (L.getD k 0) (by rw [List.getD_eq_getElem?_getD, List.getElem?_eq_getElem hlt]; exact List.getElem_mem hlt)
      rw [← hx0] at hxr
      have HX := hid hx0; clear hx0
      obtain ⟨hx1, hx2⟩ := hxr
      obtain ⟨p, rfl⟩ := Int.eq_ofNat_of_zero_le hx1
      have hx' := below_cell (bthen HBW.out hbr) hx
      have hp : p / 2 < N := by omega
      have hcl := hm.cell (p / 2) (by rw [markAll_length, List.length_replicate]; exact hp)
      have hfz := hm.fz (p / 2)
      have i1 : (p : Int) / 2 < (N : Int) := by omega
      have i2 : 0 ≤ (p : Int) / 2 := by omega
      have i3 : IntKind.i64.wrap ((p : Int) / 2) = (p : Int) / 2 := IntWalk.i64_in _ (by omega)
      have i4 : ((p : Int) / 2).toNat = p / 2 := by omega
      clear hm hbr hx
      go_wp2_with fail
      refine ⟨⟨k + 1, by omega, by go_num, ?_, HBR.out.setCell (p := ⟨mb, p / 2, none⟩) hmw1 (.bool true)⟩, by simp [intOf]; omega⟩
      rw [take_snoc L 0 k hlt, markAll_snoc, ← HX.out]
      unfold mark
      rw [i4]
      exact HM.out.set (p / 2) true
    · obtain rfl : k = L.length := by omega
      rename World => w3
      rw [List.take_length] at hm
      have HM3 := hid hm; have HB3 := hid hbr
      have c0' := below_cell hbr c0
      have c1' := below_cell hbr c1
      clear hm hbr HM HBR hlt hk
      go_wp2_with fail
      go_loopw [8] (fun i wr => ∃ k : Nat, ∃ ms, k ≤ G.length ∧ i = .int .i64 ((k : Int) - 1) ∧ MarksAt wr mb ms ∧ ms.length = N ∧ downF m G k ms = needF m G L ∧ Below w1.heap.size w1 wr)
        (fun i _ => (intOf i + 1).toNat)
      case atStart =>
        refine ⟨G.length, _, by omega, by go_num, HM3.out, by rw [markAll_length]; simp, ?_, HB3.out⟩
        unfold needF; rw [HN.out]
      case round =>
        obtain ⟨k, ms, hk, rfl, hm, hml, hd, hbr⟩ := hrel
        have d0 := below_cell hbr c0
        have d1 := below_cell hbr c1
        have HM := hid hm; have HBR := hid hbr; have HML := hid hml; have HD := hid hd; clear hd
        cases k with
        | zero =>
          clear hm hml hbr
          go_wp2_with fail
          have hmn : ms = needF m G L := HD.out
          go_ret
          exact ⟨mb, by rw [← hmn, HML.out]; rfl, by rw [← hmn]; exact HM.out, hmw, bthen HBW.out HBR.out⟩
        | succ j =>
          have hj : j < G.length := by omega
          have hcj := hm.cell (1 + m + j) (by rw [hml, HN.out]; omega)
          obtain ⟨b, hb⟩ : ∃ b, b = ms.getD (1 + m + j) false := ⟨_, rfl⟩
          rw [← hb] at hcj
          have hdn : downF m G j (if b = true then mark (mark ms (G.getD j (0, 0)).1) (G.getD j (0, 0)).2 else ms) = needF m G L := by rw [hb]; exact HD.out
          have HDN := hid hdn
          have j1 : ((j + 1 : Nat) : Int) - 1 = (j : Int) := by push_cast; omega
          have j2 : IntKind.i64.wrap (1 + (m : Int) + (j : Int)) = 1 + (m : Int) + (j : Int) := IntWalk.i64_in _ (by omega)
          have j3 : (1 + (m : Int) + (j : Int)) < (N : Int) := by omega
          have j4 : (1 + (m : Int) + (j : Int)).toNat = 1 + m + j := by omega
          have j5 : 0 ≤ 1 + (m : Int) + (j : Int) := by omega
          rw [j1]
          clear hb hdn hml j1
          cases b with
          | false =>
            clear hm hbr
            go_wp2_with fail
            refine ⟨⟨j, ms, by omega, by go_num, HM.out, HML.out, HDN.out, HBR.out⟩, by simp [intOf]⟩
          | true =>
            obtain ⟨sb, so, rfl, gx, gy⟩ := hG.gate j hj
            have hgk := HV.out.gates j hj
            unfold GOk at hgk
            obtain ⟨x, hx⟩ : ∃ x, x = (G.getD j (0, 0)).1 := ⟨_, rfl⟩
            obtain ⟨y, hy⟩ : ∃ y, y = (G.getD j (0, 0)).2 := ⟨_, rfl⟩
            have hdn2 : downF m G j (mark (mark ms x) y) = needF m G L := by rw [hx, hy]; exact HDN.out
            rw [← hx] at gx hgk; rw [← hy] at gy hgk
            obtain ⟨x1, xy, y1, _⟩ := hgk
            have HDN2 := hid hdn2
            have gx := below_cell (bthen HBW.out hbr) gx
            have gy := below_cell (bthen HBW.out hbr) gy
            clear hx hy hdn2 hm hbr
            go_wp2_with fail
            go_loopw [46] (fun i wr => ∃ q : Nat, q ≤ 2 ∧ i = .int .i64 q ∧ MarksAt wr mb (match q with | 0 => ms | 1 => mark ms x | _ => mark (mark ms x) y) ∧ Below w1.heap.size w1 wr)
              (fun i _ => 2 - (intOf i).toNat)
            case atStart => exact ⟨0, by omega, rfl, HM.out, HBR.out⟩
            case round =>
              obtain ⟨q, hq, rfl, hm, hbq⟩ := hrel
              have HMQ := hid hm; have HBQ := hid hbq; clear hbq
              have hl0 : ms.length = N := HML.out
              have hl1 : (mark ms x).length = N := by rw [mark_length]; exact hl0
              have hq3 : q = 0 ∨ q = 1 ∨ q = 2 := by omega
              rcases hq3 with rfl | rfl | rfl
              all_goals simp only [] at hm HMQ
              · obtain ⟨p, rfl⟩ := Int.eq_ofNat_of_zero_le (show 0 ≤ x by omega)
                have hidx := fun W => idx0 p y W
                have hp : p / 2 < N := by omega
                have hcl := hm.cell (p / 2) (by rw [hl0]; exact hp)
                have hfz := hm.fz (p / 2)
                have i1 : (p : Int) / 2 < (N : Int) := by omega
                have i2 : 0 ≤ (p : Int) / 2 := by omega
                have i3 : IntKind.i64.wrap ((p : Int) / 2) = (p : Int) / 2 := IntWalk.i64_in _ (by omega)
                have i4 : ((p : Int) / 2).toNat = p / 2 := by omega
                clear hm
                go_wp2_with fail
                refine ⟨⟨1, by omega, by go_num, ?_, HBQ.out.setCell (p := ⟨mb, p / 2, none⟩) hmw1 (.bool true)⟩, by simp [intOf]⟩
                have hset := HMQ.out.set (p / 2) true
                rw [← i4] at hset
                exact hset
              · obtain ⟨p, rfl⟩ := Int.eq_ofNat_of_zero_le (show 0 ≤ y by omega)
                have hidx := fun W => idx1 x p W
                have hp : p / 2 < N := by omega
                have hcl := hm.cell (p / 2) (by rw [hl1]; exact hp)
                have hfz := hm.fz (p / 2)
                have i1 : (p : Int) / 2 < (N : Int) := by omega
                have i2 : 0 ≤ (p : Int) / 2 := by omega
                have i3 : IntKind.i64.wrap ((p : Int) / 2) = (p : Int) / 2 := IntWalk.i64_in _ (by omega)
                have i4 : ((p : Int) / 2).toNat = p / 2 := by omega
                clear hm
                go_wp2_with fail
                refine ⟨⟨2, by omega, by go_num, ?_, HBQ.out.setCell (p := ⟨mb, p / 2, none⟩) hmw1 (.bool true)⟩, by simp [intOf]⟩
                have hset := HMQ.out.set (p / 2) true
                rw [← i4] at hset
                exact hset
              · clear hm
                go_wp2_with fail
                refine ⟨⟨j, _, by omega, by go_num, HMQ.out, by rw [mark_length, mark_length]; exact hl0, HDN2.out, HBQ.out⟩, by simp [intOf]⟩
end Go.Proofs.Ytelbjendeldlcaa
