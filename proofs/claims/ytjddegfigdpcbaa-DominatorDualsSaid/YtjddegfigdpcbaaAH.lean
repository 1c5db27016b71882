/- ref Reverse. -/
import Derived.Test.YtjddegfigdpcbaaAG
namespace Go.Proofs.Ytjddegfigdpcbaa
open Go.RowKit

theorem info40 : (Try.prog.info? 40).map (fun i => (i.zero, i.size, i.bytes)) = some (some (.agg #[.int .i64 0, .int .i64 0, .slice none 0 0]), 3, 40) := by kernel_rfl
def ptCells (n : Nat) : Array Value := madeCells (Value.agg #[.int .i64 0, .int .i64 0, .slice none 0 0]).cells (n * 3)
theorem run_points (n : Nat) (h : n ≤ 70000) (w : World) : (Instr.makeSlice 22 (.int .i64 n) (.int .i64 n)).run Try.prog w = .ok (.slice (some ⟨w.heap.size, 0, none⟩) n n) (w.alloc (.cells (ptCells n) 40)) := by
  obtain ⟨i0, hi, hz0, hz1, hz2⟩ := info_parts info40
  have := run_makeSlice (P := Try.prog) w 22 40 i0 (.agg #[.int .i64 0, .int .i64 0, .slice none 0 0]) Try.underlying22 hi hz0 .i64 .i64 n n (by omega) (Int.le_refl _) (by rw [hz1]; simp; omega) (by rw [hz2]; omega) (by omega)
  rw [this, hz1]
  simp only [Int.toNat_natCast]
  rfl
theorem madeCells_get (z : Array Value) (m j : Nat) (h : j < m) : (madeCells z m).toList[j]? = some (z[j % z.size]!) := by
  unfold madeCells
  simp [h]
theorem ptCells_get (n i : Nat) (hi : i < n) : (ptCells n).toList[i * 3]? = some (.int .i64 0) ∧ (ptCells n).toList[i * 3 + 1]? = some (.int .i64 0) ∧ (ptCells n).toList[i * 3 + 2]? = some (.slice none 0 0) := by
  have e : (Value.agg #[.int .i64 0, .int .i64 0, .slice none 0 0]).cells = #[.int .i64 0, .int .i64 0, .slice none 0 0] := rfl
  have z : (#[.int .i64 0, .int .i64 0, .slice none 0 0] : Array Value).size = 3 := rfl
  unfold ptCells
  rw [e]
  refine ⟨?_, ?_, ?_⟩
  · rw [madeCells_get _ _ _ (by omega), z, show i * 3 % 3 = 0 by omega]; rfl
  · rw [madeCells_get _ _ _ (by omega), z, show (i * 3 + 1) % 3 = 1 by omega]; rfl
  · rw [madeCells_get _ _ _ (by omega), z, show (i * 3 + 2) % 3 = 2 by omega]; rfl
theorem PtSt.init (w : World) (B pb n : Nat) (h : BlkAt w pb 40 (ptCells n).toList) : PtSt w B pb (List.replicate n (none, 0)) (List.replicate n []) := by
  have e : ∀ k, sval (List.replicate n (none, 0)) (List.replicate n []) k = .slice none 0 0 := fun k => by
    unfold sval
    rw [List.getD_eq_getElem?_getD, List.getElem?_replicate, List.getD_eq_getElem?_getD, List.getElem?_replicate]
    split <;> rfl
  refine ⟨⟨_, h, ?_, fun i hi => ?_⟩, OwnL.init w B n⟩
  · rw [List.length_replicate, Array.length_toList]; unfold ptCells; rw [size_madeCells]; omega
  · rw [List.length_replicate] at hi
    rw [e]; exact ptCells_get n i hi
theorem PtSt.resb {w : World} {B pb : Nat} {vs : List (Option Addr × Nat)} {bs : List (List Int)} {b j : Nat} {v : Value} (h : PtSt w B pb vs bs) (h2 : b < pb) (h3 : b < B) : PtSt (w.setCell ⟨b, j, none⟩ v) B pb vs bs := by
  obtain ⟨cs, h1, h4, h5⟩ := h.row
  exact ⟨⟨cs, h1.far (by omega) _ _, h4, h5⟩, h.own.len, fun k hk => own_setLow (h.own.own k hk) h3, h.own.apart⟩
theorem otherI_nat (p : Nat) : otherI (p : Int) = ((oth p : Nat) : Int) := by
  unfold otherI oth
  by_cases h : p < 2
  · rw [if_pos h, if_pos (by omega)]; omega
  · rw [if_neg h, if_neg (by omega)]
set_option maxHeartbeats 4000000 in
set_option maxRecDepth 100000 in
theorem Reverse_any (pa : Option Addr) (pc : Nat) (F : List (List Int)) (w : World) (hF : FRow w pa F) (hV : VldF F) (hS : SmallF F 14) :
    Calls Try.prog 28 #[.agg #[.slice pa F.length pc]] w fun e w' => ∃ pb g, e = .returned (.agg #[.slice (some ⟨pb, 0, none⟩) F.length F.length]) ∧ FRow w' (some ⟨pb, 0, none⟩) g ∧ IsSwap F g ∧ Below w.heap.size w w' := by
  have hlo := hV.lo
  have hfl : F.length ≤ 14 := by have := hS.2; omega
  have hmk := run_points F.length (by omega)
  obtain ⟨i0, hi, hz0, hz1, hz2⟩ := info_parts info3
  have HV := hid hV; have HS := hid hS
  obtain ⟨n, hn⟩ : ∃ n, n = F.length := ⟨_, rfl⟩
  have HN := hid hn
  rw [← hn] at hmk hlo hfl ⊢
  clear hV hS hn
  go_enter Try.func28, Try.ntmps28
  go_wp2_with fail
  have h5 := fun o1 o2 o3 o4 => (bthen (bthen (bthen (below_alloc w o1) (below_alloc _ o2)) (below_alloc _ o3)) (below_alloc _ o4))
  have hb4 := h5 (.cells #[.slice pa n pc] 24) (.cells #[.slice none 0 0] 24) (.cells (ptCells n) 40) (.cells #[.slice (some ⟨w.heap.size + 1 + 1, 0, none⟩) n n] 24)
  clear h5
  obtain ⟨w4, hw4⟩ : ∃ w4, w4 = (((w.alloc (.cells #[.slice pa n pc] 24)).alloc (.cells #[.slice none 0 0] 24)).alloc (.cells (ptCells n) 40)).alloc (.cells #[.slice (some ⟨w.heap.size + 1 + 1, 0, none⟩) n n] 24) := ⟨_, rfl⟩
  have g0 : w4.cell? ⟨w.heap.size, 0, none⟩ = some (.slice pa n pc) := by rw [hw4]; go_simp
  have r0 : w4.cell? ⟨w.heap.size + 1, 0, none⟩ = some (.slice none 0 0) := by rw [hw4]; go_simp
  have q0 : w4.frozen? ⟨w.heap.size + 1, 0, none⟩ = false := by rw [hw4]; go_simp
  have hz4 : w4.heap.size = w.heap.size + 4 := by rw [hw4]; simp
  have hst : PtSt w4 (w.heap.size + 4) (w.heap.size + 1 + 1) (List.replicate n (none, 0)) (List.replicate n []) := by
    have e3 := heap_alloc_new ((w.alloc (.cells #[.slice pa n pc] 24)).alloc (.cells #[.slice none 0 0] 24)) (.cells (ptCells n) 40)
    rw [show ((w.alloc (.cells #[.slice pa n pc] 24)).alloc (.cells #[.slice none 0 0] 24)).heap.size = w.heap.size + 1 + 1 from by simp] at e3
    refine PtSt.init _ _ _ n ?_
    rw [hw4]; unfold BlkAt; rw [Array.toArray_toList]; exact (heap_alloc_old _ _ (by simp)).trans e3
  have hot : BlkAt w4 (w.heap.size + 1 + 1 + 1) 24 [.slice (some ⟨w.heap.size + 1 + 1, 0, none⟩) n n] := by
    have e4 := heap_alloc_new (((w.alloc (.cells #[.slice pa n pc] 24)).alloc (.cells #[.slice none 0 0] 24)).alloc (.cells (ptCells n) 40)) (.cells #[.slice (some ⟨w.heap.size + 1 + 1, 0, none⟩) n n] 24)
    rw [show (((w.alloc (.cells #[.slice pa n pc] 24)).alloc (.cells #[.slice none 0 0] 24)).alloc (.cells (ptCells n) 40)).heap.size = w.heap.size + 1 + 1 + 1 from by simp] at e4
    rw [hw4]; exact e4
  rw [← hw4] at hb4
  rw [← hw4]
  obtain ⟨ob, hhb⟩ : ∃ ob, ob = w.heap.size + 1 + 1 + 1 := ⟨_, rfl⟩
  rw [← hhb] at hot
  rw [← hhb]
  obtain ⟨pb, hbb⟩ : ∃ pb, pb = w.heap.size + 1 + 1 := ⟨_, rfl⟩
  rw [← hbb] at hst hot
  try rw [← hbb]
  obtain ⟨B, hB⟩ : ∃ B, B = w.heap.size + 4 := ⟨_, rfl⟩
  rw [← hB] at hst
  have k1 : w.heap.size + 1 + 1 ≤ pb := by omega
  have k2 : w.heap.size + 1 + 1 ≤ B := by omega
  have k3 : B ≤ w4.heap.size := by omega
  have k4 : w.heap.size + 1 < pb := by omega
  have k5 : w.heap.size + 1 < ob := by omega
  have k6 : ob < B := by omega
  have k7 : pb ≠ ob := by omega
  have HST := hid hst; have HOT := hid hot; have HB4 := hid hb4; have HI := hid (SwI.init F)
  rw [← HN.out] at HI
  clear hst hot hb4 hhb hbb hB hz4 hw4
  go_loopw [4] (fun i wr => ∃ k : Nat, ∃ bs vs, k ≤ n ∧ i = .int .i64 k ∧ PtSt wr B pb vs bs ∧ BlkAt wr ob 24 [.slice (some ⟨pb, 0, none⟩) n n] ∧ SwI F k 0 bs ∧ Below (w.heap.size + 1 + 1) w4 wr)
    (fun i _ => n - (intOf i).toNat)
  case atStart => exact ⟨0, _, _, by omega, rfl, HST.out, HOT.out, HI.out, Below.refl _ _⟩
  case round =>
    obtain ⟨k, bs, vs, hk, rfl, hv, ho, hr, hbr⟩ := hrel
    have HVS := hid hv; have HO := hid ho; have HR := hid hr; have HBR := hid hbr
    have e0 := (hbr.cell (p := ⟨w.heap.size, 0, none⟩) (by show w.heap.size < _; omega)).trans g0
    by_cases hlt : k < n
    · obtain ⟨sb, so, a, b, C, c, rfl, h0, h1, h2, h3⟩ := hF k (by rw [← HN.out]; exact hlt)
      have hlk := HS.out.1 k (by rw [← HN.out]; exact hlt)
      have hed := HV.out.edges k (by rw [← HN.out]; exact hlt)
      rw [← HN.out] at hed
      have hbw : Below w.heap.size w wr := HB4.out.trans (hbr.mono (by omega))
      have h2 := below_cell hbw h2
      obtain ⟨N, hN⟩ : ∃ N, N = F.getD k [] := ⟨_, rfl⟩
      have HNN := hid hN
      rw [← hN] at h2 h3 hed hlk
      have HED := hid hed; have H3 := hid h3
      clear hv ho hr hbr h3 hbw hed hN h0 h1
      go_wp2_with fail
      obtain ⟨wo, hwo⟩ : ∃ x, x = wr := ⟨_, rfl⟩
      subst hwo
      go_loopw [5] (fun i wi => ∃ j : Nat, ∃ bs vs, j ≤ N.length ∧ i = .int .i64 j ∧ PtSt wi B pb vs bs ∧ BlkAt wi ob 24 [.slice (some ⟨pb, 0, none⟩) n n] ∧ SwI F k j bs ∧ Below (w.heap.size + 1 + 1) w4 wi) (fun i _ => N.length - (intOf i).toNat)
      case atStart => exact ⟨0, bs, vs, Nat.zero_le _, rfl, HVS.out, HO.out, HR.out, HBR.out⟩
      case round =>
        clear HVS HO HR HBR e0 h2
        obtain ⟨j, bs, vs, hj, rfl, hv, ho, hr, hbr⟩ := hrel
        have HVI := hid hv; have HOI := hid ho; have HRI := hid hr; have HBI := hid hbr
        have e0 := (hbr.cell (p := ⟨w.heap.size, 0, none⟩) (by show w.heap.size < _; omega)).trans g0
        have hbw : Below w.heap.size w wr := HB4.out.trans (hbr.mono (by omega))
        obtain ⟨sb', so', a', b', C', c', he', h0', h1', h2', h3'⟩ := hF k (by rw [← HN.out]; exact hlt)
        obtain ⟨rfl, rfl⟩ : sb = sb' ∧ so = so' := by cases he'; exact ⟨rfl, rfl⟩
        have h2 := below_cell hbw h2'
        have h3 := h3'.below hbw
        rw [← HNN.out] at h2 h3
        clear he' h0' h1' h2' h3' H3
        by_cases hjt : j < N.length
        · obtain ⟨tb, tq, rfl, hx⟩ := h3.int j hjt
          have hxe := HED.out j hjt
          obtain ⟨x, hx0⟩ : ∃ x, x = N.getD j 0 := ⟨_, rfl⟩
          rw [← hx0] at hx hxe
          obtain ⟨p, rfl⟩ := Int.eq_ofNat_of_zero_le (Int.le_of_lt hxe.1)
          have hpn : p < n := by omega
          have hbs : bs.length = n := by rw [hr.len, HN.out]
          have hc1 := ho.cell 0 _ rfl
          obtain ⟨q, hq⟩ : ∃ q, q = oth p := ⟨_, rfl⟩
          have hqn : q < n := by rw [hq]; exact oth_lt hlo hpn
          have bc1 : wr.cell? ⟨pb, q * 3 + 2, none⟩ = some (.slice (vs.getD q (none, 0)).1 (bs.getD q []).length (vs.getD q (none, 0)).2) := hv.cell q (by omega)
          have hown : ((wr.drew).alloc (.cells #[.int .i64 ((oth k : Nat) : Int)] 3)).ownsRow B 3 1 (.slice (vs.getD q (none, 0)).1 (bs.getD q []).length (vs.getD q (none, 0)).2) (bs.getD q []).length (ints (bs.getD q [])) := own_below (hv.own.own q (by omega)) (bthen (below_drew' _) (below_alloc _ _))
          have hne1 : some ob ≠ (Value.slice (vs.getD q (none, 0)).1 (bs.getD q []).length (vs.getD q (none, 0)).2).ownBlock := BlkAt.ne_own ho (hv.own.own q (by omega)) (by decide)
          have hne2 : some pb ≠ (Value.slice (vs.getD q (none, 0)).1 (bs.getD q []).length (vs.getD q (none, 0)).2).ownBlock := hv.ne q (by omega)
          have hshort := hr.short q (by rw [← HN.out]; exact hqn)
          have hpush := hr.push (p := p) (by rw [← HN.out]; exact hlo) (by rw [← HN.out]; exact hlt) (by rw [← HNN.out]; exact hjt) (by rw [← HNN.out, ← hx0]) (by rw [← HN.out]; exact hpn)
          rw [← hq] at hpush
          have HP := hid hpush
          obtain ⟨Ak, hAk⟩ : ∃ Ak, Ak = (vs.getD q (none, 0)).1 := ⟨_, rfl⟩
          obtain ⟨ck, hck⟩ : ∃ ck, ck = (vs.getD q (none, 0)).2 := ⟨_, rfl⟩
          obtain ⟨lk, hlk2⟩ : ∃ lk, lk = (bs.getD q []).length := ⟨_, rfl⟩
          rw [← hAk, ← hck, ← hlk2] at bc1 hown hne1 hne2
          rw [← hlk2] at hshort
          have HOW := hid hown; have HNE := hid (And.intro hne1 hne2)
          have HVR := hid (hv.below (bthen (below_drew' _) (below_alloc wr.drew (.cells #[.int .i64 ((oth k : Nat) : Int)] 3))))
          have HOR := hid (ho.below (bthen (below_drew' _) (below_alloc wr.drew (.cells #[.int .i64 ((oth k : Nat) : Int)] 3))))
          have HAK := hid hAk; have HCK := hid hck; have HLK := hid hlk2; have HX0 := hid hx0; have HQ := hid hq
          have zb := ho.lt
          have zr := hv.lt
          have zB : B ≤ wr.heap.size := by have := hbr.size; omega
          have j3 : (0 : Int) ≤ (q : Int) := by omega
          have j4 : (q : Int) < (n : Int) := by omega
          have lkb : lk ≤ 1000000 := by omega
          clear hv ho hr hbr hown hne1 hne2 hAk hck hlk2 hx0 hpush hxe hshort hbs hbw h3 hq
          go_wp2_with (go_at_call 29; refine (other_any p _ (by omega)).mono ?_; rintro e wq ⟨rfl, rfl⟩; rw [otherI_nat, ← HQ.out])
          refine wp_region_J (fun j => match j with | 10 => some (fun W => W.cell? ⟨ob, 0, none⟩ = some (.slice (some ⟨pb, 0, none⟩) n n) ∧ W.cell? ⟨pb, q * 3 + 2, none⟩ = some (.slice Ak lk ck)) | 11 => some (fun W => W.cell? ⟨ob, 0, none⟩ = some (.slice (some ⟨pb, 0, none⟩) n n) ∧ W.cell? ⟨pb, q * 3 + 2, none⟩ = some (.slice Ak lk ck)) | 12 => some (fun W => W.cell? ⟨ob, 0, none⟩ = some (.slice (some ⟨pb, 0, none⟩) n n)) | 15 => some (fun _ => True) | _ => none) (by kernel_rfl) ?_
          refine anyJ_take (some 42) (i := 0) (T := fun _ => True) (v := ?_) rfl rfl (by kernel_rfl) (by kernel_rfl) (by kernel_rfl) (fun _ _ _ h => h) (js := [10, 11, 12]) (by kernel_rfl) Leads.true rfl (Or.inl ⟨by rfl, ?_⟩) trivial ?_
          rotate_left
          · (intro wL hSw; (try dsimp only at hSw); go_simp; try with_reducible rfl)
          try simp only [Act.put, List.setIfInBounds_toArray, List.set_cons_zero, List.set_cons_succ]
          refine anyJ_take (some 43) (i := 1) (T := fun W => W.cell? ⟨ob, 0, none⟩ = some (.slice (some ⟨pb, 0, none⟩) n n)) (v := ?_) rfl rfl (by kernel_rfl) (by kernel_rfl) (by kernel_rfl) (fun _ _ _ h => h) (js := [10, 11, 12]) (by kernel_rfl) (Leads.cons _ rfl (fun w h => h.1) (Leads.cons _ rfl (fun w h => h.1) (Leads.cons _ rfl (fun w h => h) Leads.nil))) rfl (Or.inl ⟨by rfl, ?_⟩) (hc1) ?_
          rotate_left
          · (intro wL hSw; (try dsimp only at hSw); go_simp; try with_reducible rfl)
          try simp only [Act.put, List.setIfInBounds_toArray, List.set_cons_zero, List.set_cons_succ]
          refine anyJ_take (some 44) (i := 2) (T := fun _ => True) (v := ?_) rfl rfl (by kernel_rfl) (by kernel_rfl) (by kernel_rfl) (fun _ _ _ h => h) (js := [10, 11, 12]) (by kernel_rfl) Leads.true rfl (Or.inl ⟨by rfl, ?_⟩) trivial ?_
          rotate_left
          · (intro wL hSw; (try dsimp only at hSw); go_simp; try with_reducible rfl)
          try simp only [Act.put, List.setIfInBounds_toArray, List.set_cons_zero, List.set_cons_succ]
          refine anyJ_take (some 45) (i := 3) (T := fun _ => True) (v := ?_) rfl rfl (by kernel_rfl) (by kernel_rfl) (by kernel_rfl) (fun _ _ _ h => h) (js := [10, 11]) (by kernel_rfl) Leads.true rfl (Or.inl ⟨by rfl, ?_⟩) trivial ?_
          rotate_left
          · (intro wL hSw; (try dsimp only at hSw); go_simp; try with_reducible rfl)
          try simp only [Act.put, List.setIfInBounds_toArray, List.set_cons_zero, List.set_cons_succ]
          refine anyJ_take (some 46) (i := 4) (T := fun W => W.cell? ⟨ob, 0, none⟩ = some (.slice (some ⟨pb, 0, none⟩) n n)) (v := ?_) rfl rfl (by kernel_rfl) (by kernel_rfl) (by kernel_rfl) (fun _ _ _ h => h) (js := [10, 11]) (by kernel_rfl) (Leads.cons _ rfl (fun w h => h.1) (Leads.cons _ rfl (fun w h => h.1) Leads.nil)) rfl (Or.inl ⟨by rfl, ?_⟩) (hc1) ?_
          rotate_left
          · (intro wL hSw; (try dsimp only at hSw); go_simp; try with_reducible rfl)
          try simp only [Act.put, List.setIfInBounds_toArray, List.set_cons_zero, List.set_cons_succ]
          refine anyJ_take (some 47) (i := 5) (T := fun _ => True) (v := ?_) rfl rfl (by kernel_rfl) (by kernel_rfl) (by kernel_rfl) (fun _ _ _ h => h) (js := [10, 11]) (by kernel_rfl) Leads.true rfl (Or.inl ⟨by rfl, ?_⟩) trivial ?_
          rotate_left
          · (intro wL hSw; (try dsimp only at hSw); go_simp; try with_reducible rfl)
          try simp only [Act.put, List.setIfInBounds_toArray, List.set_cons_zero, List.set_cons_succ]
          refine anyJ_take (some 48) (i := 6) (T := fun _ => True) (v := ?_) rfl rfl (by kernel_rfl) (by kernel_rfl) (by kernel_rfl) (fun _ _ _ h => h) (js := [10, 11]) (by kernel_rfl) Leads.true rfl (Or.inl ⟨by rfl, ?_⟩) trivial ?_
          rotate_left
          · (intro wL hSw; (try dsimp only at hSw); go_simp; try with_reducible rfl)
          try simp only [Act.put, List.setIfInBounds_toArray, List.set_cons_zero, List.set_cons_succ]
          refine anyJ_take (some 49) (i := 7) (T := fun _ => True) (v := ?_) rfl rfl (by kernel_rfl) (by kernel_rfl) (by kernel_rfl) (fun _ _ _ h => h) (js := [10, 11]) (by kernel_rfl) Leads.true rfl (Or.inl ⟨by rfl, ?_⟩) trivial ?_
          rotate_left
          · (intro wL hSw; (try dsimp only at hSw); go_simp; try with_reducible rfl)
          try simp only [Act.put, List.setIfInBounds_toArray, List.set_cons_zero, List.set_cons_succ]
          refine anyJ_take (some 50) (i := 8) (T := fun W => W.cell? ⟨pb, q * 3 + 2, none⟩ = some (.slice Ak lk ck)) (v := ?_) rfl rfl (by kernel_rfl) (by kernel_rfl) (by kernel_rfl) (fun _ _ _ h => h) (js := [10, 11]) (by kernel_rfl) (Leads.cons _ rfl (fun w h => h.2) (Leads.cons _ rfl (fun w h => h.2) Leads.nil)) rfl (Or.inl ⟨by rfl, ?_⟩) (bc1) ?_
          rotate_left
          · (intro wL hSw; (try dsimp only at hSw); go_simp; try with_reducible rfl)
          try simp only [Act.put, List.setIfInBounds_toArray, List.set_cons_zero, List.set_cons_succ]
          refine anyJ_take (some 51) (i := 9) (T := fun _ => True) (v := ?_) rfl rfl (by kernel_rfl) (by kernel_rfl) (by kernel_rfl) (fun _ _ _ h => h) (js := []) (by kernel_rfl) Leads.true rfl (Or.inl ⟨by rfl, ?_⟩) trivial ?_
          rotate_left
          · (intro wL hSw; (try dsimp only at hSw); go_simp; try with_reducible rfl)
          try simp only [Act.put, List.setIfInBounds_toArray, List.set_cons_zero, List.set_cons_succ]
          refine anyJ_one (i := 10) (oi := { dst := some 52, op := Go.Op.call { callee := Go.Callee.value (Go.Operand.func 29), args := #[Go.Operand.tmp 51], argTypes := #[3] }, type := 3, pos := "ref.go:156", after := #[{ on := 9, ground := Go.Ground.data }], guard := none }) rfl (by kernel_rfl) (by rfl) (fun K hK => ?_)
          go_simp
          refine (other_any k _ (by omega)).mono ?_
          rintro e wq ⟨rfl, rfl⟩
          rw [otherI_nat]
          refine hK.out _ _ (by dsimp only [Obl]; exact ⟨hc1, bc1⟩) ?_
          clear hK K
          try simp only [Act.put, List.setIfInBounds_toArray, List.set_cons_zero, List.set_cons_succ]
          refine anyJ_one (i := 11) (oi := { dst := some 53, op := Go.Op.buildSlice 29 1 #[(0, Go.Operand.tmp 52)], type := 29, pos := "ref.go:156", after := #[{ on := 10, ground := Go.Ground.data }], guard := none }) rfl (by kernel_rfl) (by rfl) (fun K hK => ?_)
          go_simp
          refine hK.out _ _ (by dsimp only [Obl]; exact ⟨by go_simp, by go_simp⟩) ?_
          clear hK K
          try simp only [Act.put, List.setIfInBounds_toArray, List.set_cons_zero, List.set_cons_succ]
          refine anyJ_one (i := 12) (oi := { dst := some 54, op := Go.Op.call { callee := Go.Callee.builtin Go.Builtin.append, args := #[Go.Operand.tmp 50, Go.Operand.tmp 53], argTypes := #[29, 29] }, type := 29, pos := "ref.go:156", after := #[{ on := 8, ground := Go.Ground.data }, { on := 11, ground := Go.Ground.data }, { on := 10, ground := Go.Ground.chain }], guard := none }) rfl (by kernel_rfl) (by rfl) (fun K hK => ?_)
          refine wp_append_row (.tmp 50) (.tmp 53) 29 rfl B 3 i0 (.int .i64 0) 1 8 Try.underlying29 hi hz0 hz1 hz2 rfl (by decide) (.slice Ak lk ck) lk (ints (bs.getD q [])) rfl HOW.out (some ⟨wr.heap.size, 0, none⟩) 1 1 [.int .i64 ((oth k : Nat) : Int)] rfl rfl (fun e => by cases e) (Row.one _ _ _) (ints_one [_]) (by unfold maxLen; omega) (by omega) (by simp; omega) ?_
          intro A7 c7 w7 hown4 hgr4 hat4
          have hc4 := hgr4.cell (show ((wr.drew).alloc (.cells #[.int .i64 ((oth k : Nat) : Int)] 3)).cell? ⟨ob, 0, none⟩ = some (.slice (some ⟨pb, 0, none⟩) n n) from by go_simp) HNE.out.1
          have bc4 := hgr4.cell (show ((wr.drew).alloc (.cells #[.int .i64 ((oth k : Nat) : Int)] 3)).cell? ⟨pb, q * 3 + 2, none⟩ = some (.slice Ak lk ck) from by go_simp) HNE.out.2
          have bf4 : w7.frozen? ⟨pb, q * 3 + 2, none⟩ = false := by
            obtain ⟨cs, h1, _⟩ := HVR.out.row
            exact (h1.grown hgr4 HNE.out.2).fz _
          refine hK.out _ _ (by dsimp only [Obl]; exact hc4) ?_
          clear hK K
          have HOWN4 := hid hown4; have HGR4 := hid hgr4; have HAT4 := hid hat4; clear hown4 hgr4 hat4
          try simp only [Act.put, List.setIfInBounds_toArray, List.set_cons_zero, List.set_cons_succ]
          refine anyJ_take (some 55) (i := 13) (T := fun _ => True) (v := ?_) rfl rfl (by kernel_rfl) (by kernel_rfl) (by kernel_rfl) (fun _ _ _ h => h) (js := [10, 11, 12]) (by kernel_rfl) Leads.true rfl (Or.inl ⟨by rfl, ?_⟩) trivial ?_
          rotate_left
          · (intro wL hSw; (try dsimp only at hSw); go_simp; try with_reducible rfl)
          try simp only [Act.put, List.setIfInBounds_toArray, List.set_cons_zero, List.set_cons_succ]
          refine anyJ_take (some 56) (i := 14) (T := fun _ => True) (v := ?_) rfl rfl (by kernel_rfl) (by kernel_rfl) (by kernel_rfl) (fun _ _ _ h => h) (js := [10, 11, 12]) (by kernel_rfl) Leads.true rfl (Or.inl ⟨by rfl, ?_⟩) trivial ?_
          rotate_left
          · (intro wL hSw; (try dsimp only at hSw); go_simp; try with_reducible rfl)
          try simp only [Act.put, List.setIfInBounds_toArray, List.set_cons_zero, List.set_cons_succ]
          refine anyJ_one (i := 15) (oi := { dst := none, op := Go.Op.store 29 (Go.Operand.tmp 56) (Go.Operand.tmp 54), type := 0, pos := "ref.go:156", after := #[{ on := 14, ground := Go.Ground.data }, { on := 12, ground := Go.Ground.data }, { on := 12, ground := Go.Ground.chain }, { on := 0, ground := Go.Ground.phase }, { on := 1, ground := Go.Ground.phase }, { on := 2, ground := Go.Ground.phase }, { on := 3, ground := Go.Ground.phase }, { on := 4, ground := Go.Ground.phase }, { on := 5, ground := Go.Ground.phase }, { on := 6, ground := Go.Ground.phase }, { on := 7, ground := Go.Ground.phase }, { on := 8, ground := Go.Ground.phase }, { on := 9, ground := Go.Ground.phase }, { on := 10, ground := Go.Ground.phase }, { on := 11, ground := Go.Ground.phase }, { on := 12, ground := Go.Ground.phase }], guard := none }) rfl (by kernel_rfl) (by rfl) (fun K hK => ?_)
          go_simp
          refine hK.out _ _ trivial ?_
          clear hK K
          try simp only [Act.put, List.setIfInBounds_toArray, List.set_cons_zero, List.set_cons_succ]
          refine anyJ_done (by kernel_rfl) ?_
          go_wp2_with fail
          have e : Value.slice Ak lk ck = sval vs bs q := by unfold sval; rw [HAK.out, HCK.out, HLK.out]
          have hb7 : Below (w.heap.size + 1 + 1) w4 (w7.setCell ⟨pb, q * 3 + 2, none⟩ (.slice A7 (lk + 1) c7)) :=
            (((HBI.out.trans ((bthen (below_drew' _) (below_alloc wr.drew (.cells #[.int .i64 ((oth k : Nat) : Int)] 3))).mono (by omega))).grown HGR4.out (by simp; omega) (fun j hj => Nat.le_trans k2 (HOW.out.lt j hj).1))).setCell (p := ⟨pb, q * 3 + 2, none⟩) k1 _
          have ho7 : BlkAt (w7.setCell ⟨pb, q * 3 + 2, none⟩ (.slice A7 (lk + 1) c7)) ob 24 [.slice (some ⟨pb, 0, none⟩) n n] := (HOR.out.grown HGR4.out HNE.out.1).far (Ne.symm k7) _ _
          refine ⟨⟨j + 1, bs.set q (bs.getD q [] ++ [((oth k : Nat) : Int)]), vs.set q (A7, c7), by omega, by go_num, ?_, ho7, HP.out, hb7⟩, by simp [intOf]; omega⟩
          have h1 := HOWN4.out
          have h2 := HGR4.out
          have h3 := HAT4.out
          rw [e] at h2 h3
          rw [HLK.out] at h1 h3
          rw [HLK.out]
          refine HVR.out.push q (by have := HRI.out.len; rw [this, ← HN.out]; exact hqn) h1 h2 ?_
          simpa using h3
        · obtain rfl : j = N.length := by omega
          have hnx := HRI.out
          rw [HNN.out] at hnx
          have HNX := hid (hnx.next (by rw [← HNN.out]; exact hlk))
          clear hv ho hr hbr hnx h3
          go_wp2_with fail
          exact ⟨⟨k + 1, bs, vs, by omega, by go_num, HVI.out, HOI.out, HNX.out, HBI.out⟩, by simp [intOf]; omega⟩
    · obtain rfl : k = n := by omega
      have hlen : bs.length = k := by rw [hr.len, HN.out]
      have s0 := (hbr.cell (p := ⟨w.heap.size + 1, 0, none⟩) (by show w.heap.size + 1 < _; omega)).trans r0
      have t0 := (hbr.frozen (p := ⟨w.heap.size + 1, 0, none⟩) (by show w.heap.size + 1 < _; omega)).trans q0
      have hc1 := ho.cell 0 _ rfl
      clear hv ho hr hbr
      go_wp2_with fail
      have hsw : IsSwap F bs := by have := HR.out; rw [HN.out] at this; exact this.done (by rw [← HN.out]; exact hfl)
      refine bodyPost_ret (v := .agg #[.slice (some ⟨pb, 0, none⟩) k k]) (by simp [results, Try.results28, go_sem, *]) rfl ?_
      exact ⟨pb, bs, rfl, (HVS.out.resb k4 (by omega)).frow, hsw, (HB4.out.trans (HBR.out.mono (by omega))).setCell (p := ⟨w.heap.size + 1, 0, none⟩) (by simp) _⟩
end Go.Proofs.Ytjddegfigdpcbaa
