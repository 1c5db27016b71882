/- backward: the graph with all edges reversed. -/
import Derived.Test.YtjddegfigdpcbaaF
namespace Go.Proofs.Ytjddegfigdpcbaa
open Go.RowKit

theorem info29 : (Try.prog.info? 29).map (fun i => (i.zero, i.size, i.bytes)) = some (some (.slice none 0 0), 1, 24) := by kernel_rfl
theorem made_nils (n : Nat) : madeCells (Value.slice none 0 0).cells (n * 1) = Array.replicate n (Value.slice none 0 0) := by
  apply Array.ext
  · simp [madeCells]
  · intro i h1 h2
    simp [madeCells, Value.cells, Nat.mod_one]
theorem run_lists (n : Nat) (h : n ≤ 70000) (w : World) : (Instr.makeSlice 33 (.int .i64 n) (.int .i64 n)).run Try.prog w = .ok (.slice (some ⟨w.heap.size, 0, none⟩) n n) (w.alloc (.cells (Array.replicate n (Value.slice none 0 0)) 29)) := by
  obtain ⟨i0, hi, hz0, hz1, hz2⟩ := info_parts info29
  have := run_makeSlice (P := Try.prog) w 33 29 i0 (.slice none 0 0) Try.underlying33 hi hz0 .i64 .i64 n n (by omega) (Int.le_refl _) (by rw [hz1]; simp; omega) (by rw [hz2]; omega) (by omega)
  rw [this, hz1]
  simp only [Int.toNat_natCast]
  rw [made_nils]

/-- which edges have been gone through -/
structure RvI (F : List (List Int)) (k j : Nat) (bs : List (List Int)) : Prop where
  len : bs.length = F.length
  mem : ∀ c, c < F.length → ∀ x, x ∈ bs.getD c [] ↔ ∃ i : Nat, x = i ∧ i < F.length ∧ ((i < k ∧ (c : Int) ∈ F.getD i []) ∨ (i = k ∧ (c : Int) ∈ (F.getD k []).take j))
  short : ∀ c, c < F.length → (bs.getD c []).length ≤ 900 * k + j
theorem RvI.init (F : List (List Int)) : RvI F 0 0 (List.replicate F.length []) := by
  have hr : ∀ c, (List.replicate F.length ([] : List Int)).getD c [] = [] := fun c => by rw [List.getD_eq_getElem?_getD, List.getElem?_replicate]; split <;> rfl
  exact ⟨by simp, fun c _ x => by rw [hr]; simp, fun c _ => by rw [hr]; simp⟩
theorem RvI.push {F : List (List Int)} {k j : Nat} {bs : List (List Int)} (h : RvI F k j bs) (hk : k < F.length) (hj : j < (F.getD k []).length) {p : Nat} (hp : (F.getD k []).getD j 0 = (p : Int)) (hpn : p < F.length) :
    RvI F k (j + 1) (bs.set p (bs.getD p [] ++ [(k : Int)])) := by
  refine ⟨by rw [List.length_set]; exact h.len, fun c hc x => ?_, fun c hc => ?_⟩
  · rw [take_snoc _ 0 j hj, hp]
    by_cases hpc : p = c
    · subst hpc
      rw [getD_set_same _ _ (by rw [h.len]; exact hc), List.mem_append, h.mem p hc]
      constructor
      · rintro (⟨i, rfl, hi, h1 | h1⟩ | h1)
        · exact ⟨i, rfl, hi, .inl h1⟩
        · exact ⟨i, rfl, hi, .inr ⟨h1.1, List.mem_append_left _ h1.2⟩⟩
        · exact ⟨k, List.mem_singleton.1 h1, hk, .inr ⟨rfl, List.mem_append_right _ (List.mem_singleton.2 rfl)⟩⟩
      · rintro ⟨i, rfl, hi, h1 | ⟨rfl, h1⟩⟩
        · exact .inl ⟨i, rfl, hi, .inl h1⟩
        · exact .inr (List.mem_singleton.2 rfl)
    · rw [getD_set_other _ _ _ hpc, h.mem c hc]
      have hne : (c : Int) ∉ [(p : Int)] := by simp; omega
      constructor
      · rintro ⟨i, rfl, hi, h1 | h1⟩
        · exact ⟨i, rfl, hi, .inl h1⟩
        · exact ⟨i, rfl, hi, .inr ⟨h1.1, List.mem_append_left _ h1.2⟩⟩
      · rintro ⟨i, rfl, hi, h1 | ⟨h0, h1⟩⟩
        · exact ⟨i, rfl, hi, .inl h1⟩
        · rcases List.mem_append.1 h1 with h1 | h1
          · exact ⟨i, rfl, hi, .inr ⟨h0, h1⟩⟩
          · exact absurd h1 hne
  · by_cases hpc : p = c
    · subst hpc
      rw [getD_set_same _ _ (by rw [h.len]; exact hc), List.length_append]
      have := h.short p hc; rw [List.length_singleton]; omega
    · rw [getD_set_other _ _ _ hpc]
      have := h.short c hc; omega
theorem RvI.next {F : List (List Int)} {k : Nat} {bs : List (List Int)} (h : RvI F k (F.getD k []).length bs) (hl : (F.getD k []).length ≤ 900) : RvI F (k + 1) 0 bs := by
  refine ⟨h.len, fun c hc x => ?_, fun c hc => by have := h.short c hc; omega⟩
  rw [h.mem c hc, List.take_length]
  constructor
  · rintro ⟨i, rfl, hi, h1 | ⟨rfl, h1⟩⟩
    · exact ⟨i, rfl, hi, .inl ⟨by omega, h1.2⟩⟩
    · exact ⟨i, rfl, hi, .inl ⟨by omega, h1⟩⟩
  · rintro ⟨i, rfl, hi, h1 | ⟨_, h1⟩⟩
    · by_cases hik : i = k
      · subst hik; exact ⟨i, rfl, hi, .inr ⟨rfl, h1.2⟩⟩
      · exact ⟨i, rfl, hi, .inl ⟨by omega, h1.2⟩⟩
    · simp at h1
/-- the reversed graph -/
structure IsRev (F B : List (List Int)) : Prop where
  len : B.length = F.length
  mem : ∀ c, c < F.length → ∀ x, x ∈ B.getD c [] ↔ ∃ i : Nat, x = i ∧ i < F.length ∧ (c : Int) ∈ F.getD i []
  short : ∀ c, c < B.length → (B.getD c []).length ≤ 1000000
theorem RvI.done {F : List (List Int)} {bs : List (List Int)} (h : RvI F F.length 0 bs) (hl : F.length ≤ 1024) : IsRev F bs := by
  refine ⟨h.len, fun c hc x => ?_, fun c hc => by have := h.short c (by rw [← h.len]; exact hc); omega⟩
  rw [h.mem c hc]
  constructor
  · rintro ⟨i, rfl, hi, h1 | ⟨h0, h1⟩⟩
    · exact ⟨i, rfl, hi, h1.2⟩
    · omega
  · rintro ⟨i, rfl, hi, h1⟩
    exact ⟨i, rfl, hi, .inl ⟨hi, h1⟩⟩
theorem IsRev.ok {F B : List (List Int)} (h : IsRev F B) : GrOk B := fun c hc x hx => by
  obtain ⟨i, rfl, hi, _⟩ := (h.mem c (by rw [← h.len]; exact hc) x).1 hx
  rw [h.len]; omega
theorem VSt.init (w : World) (B hb bb n : Nat) (h1 : BlkAt w hb 33 [.slice (some ⟨bb, 0, none⟩) n n]) (h2 : BlkAt w bb 29 (List.replicate n (Value.slice none 0 0))) : VSt w B hb bb (List.replicate n (none, 0)) (List.replicate n []) := by
  have e : ∀ k, sval (List.replicate n (none, 0)) (List.replicate n []) k = .slice none 0 0 := fun k => by
    unfold sval
    rw [List.getD_eq_getElem?_getD, List.getElem?_replicate, List.getD_eq_getElem?_getD, List.getElem?_replicate]
    split <;> rfl
  have er : ∀ k, (List.replicate n ([] : List Int)).getD k [] = [] := fun k => by rw [List.getD_eq_getElem?_getD, List.getElem?_replicate]; split <;> rfl
  refine ⟨by simp, by rw [List.length_replicate]; exact h1, ?_, fun k _ => by rw [e, er]; exact World.ownsRow_nil _ _ _ _, fun k _ _ _ _ => by rw [e]; exact .inl rfl⟩
  rw [List.length_replicate]
  have : (List.range n).map (sval (List.replicate n (none, 0)) (List.replicate n [])) = List.replicate n (Value.slice none 0 0) :=
    List.eq_replicate_iff.2 ⟨by simp, fun b hb => by obtain ⟨k, _, rfl⟩ := List.mem_map.1 hb; exact e k⟩
  rw [this]; exact h2

theorem VSt.resb {w : World} {B hb bb : Nat} {vs : List (Option Addr × Nat)} {bs : List (List Int)} {b j : Nat} {v : Value} (h : VSt w B hb bb vs bs) (h1 : b < hb) (h2 : b < bb) (h3 : b < B) : VSt (w.setCell ⟨b, j, none⟩ v) B hb bb vs bs :=
  ⟨h.len, h.box.far (by omega) _ _, h.row.far (by omega) _ _, fun k hk => own_setLow (h.own k hk) h3, h.apart⟩
set_option maxHeartbeats 2000000 in
theorem backward_at (pa : Option Addr) (pc : Nat) (F : List (List Int)) (w : World) (hF : FRow w pa F) (hV : VldF F) (hsm : ∀ i, i < F.length → (F.getD i []).length ≤ 900) :
    Calls Try.prog 45 #[.agg #[.slice pa F.length pc]] w fun e w' => ∃ cb B bb vs bs, e = .returned (gval bs.length 1 58 cb) ∧ VSt w' B cb bb vs bs ∧ Below w.heap.size w w' ∧ IsRev F bs := by
  have hhi := hV.hi
  have hmk := run_lists F.length (by omega)
  obtain ⟨i0, hi, hz0, hz1, hz2⟩ := info_parts info3
  have HV := hid hV
  obtain ⟨n, hn⟩ : ∃ n, n = F.length := ⟨_, rfl⟩
  have HN := hid hn
  rw [← hn] at hmk hhi ⊢
  clear hV hn
  go_enter Try.func45, Try.ntmps45
  go_wp2_with fail
  have h5 := fun o1 o2 o3 o4 => (bthen (bthen (bthen (below_alloc w o1) (below_alloc _ o2)) (below_alloc _ o3)) (below_alloc _ o4))
  have hb4 := h5 (.cells #[.slice pa n pc] 24) (.cells #[.int .i64 0, .int .i64 0, .nilFunc] 54) (.cells (Array.replicate n (Value.slice none 0 0)) 29) (.cells #[.slice (some ⟨w.heap.size + 1 + 1, 0, none⟩) n n] 33)
  clear h5
  obtain ⟨w4, hw4⟩ : ∃ w4, w4 = (((w.alloc (.cells #[.slice pa n pc] 24)).alloc (.cells #[.int .i64 0, .int .i64 0, .nilFunc] 54)).alloc (.cells (Array.replicate n (Value.slice none 0 0)) 29)).alloc (.cells #[.slice (some ⟨w.heap.size + 1 + 1, 0, none⟩) n n] 33) := ⟨_, rfl⟩
  have g0 : w4.cell? ⟨w.heap.size, 0, none⟩ = some (.slice pa n pc) := by rw [hw4]; go_simp
  have r0 : w4.cell? ⟨w.heap.size + 1, 0, none⟩ = some (.int .i64 0) := by rw [hw4]; go_simp
  have r1 : w4.cell? ⟨w.heap.size + 1, 1, none⟩ = some (.int .i64 0) := by rw [hw4]; go_simp
  have r2 : w4.cell? ⟨w.heap.size + 1, 2, none⟩ = some .nilFunc := by rw [hw4]; go_simp
  have q0 : w4.frozen? ⟨w.heap.size + 1, 0, none⟩ = false := by rw [hw4]; go_simp
  have q1 : w4.frozen? ⟨w.heap.size + 1, 1, none⟩ = false := by rw [hw4]; go_simp
  have q2 : w4.frozen? ⟨w.heap.size + 1, 2, none⟩ = false := by rw [hw4]; go_simp
  have hz4 : w4.heap.size = w.heap.size + 4 := by rw [hw4]; simp
  have hst : VSt w4 (w.heap.size + 4) (w.heap.size + 1 + 1 + 1) (w.heap.size + 1 + 1) (List.replicate n (none, 0)) (List.replicate n []) := by
    have e3 := heap_alloc_new ((w.alloc (.cells #[.slice pa n pc] 24)).alloc (.cells #[.int .i64 0, .int .i64 0, .nilFunc] 54)) (.cells (Array.replicate n (Value.slice none 0 0)) 29)
    have e4 := heap_alloc_new (((w.alloc (.cells #[.slice pa n pc] 24)).alloc (.cells #[.int .i64 0, .int .i64 0, .nilFunc] 54)).alloc (.cells (Array.replicate n (Value.slice none 0 0)) 29)) (.cells #[.slice (some ⟨w.heap.size + 1 + 1, 0, none⟩) n n] 33)
    rw [show ((w.alloc (.cells #[.slice pa n pc] 24)).alloc (.cells #[.int .i64 0, .int .i64 0, .nilFunc] 54)).heap.size = w.heap.size + 1 + 1 from by simp] at e3
    rw [show (((w.alloc (.cells #[.slice pa n pc] 24)).alloc (.cells #[.int .i64 0, .int .i64 0, .nilFunc] 54)).alloc (.cells (Array.replicate n (Value.slice none 0 0)) 29)).heap.size = w.heap.size + 1 + 1 + 1 from by simp] at e4
    refine VSt.init _ _ _ _ n ?_ ?_
    · rw [hw4]; exact e4
    · rw [hw4]; unfold BlkAt; rw [List.toArray_replicate]; exact (heap_alloc_old _ _ (by simp)).trans e3
  rw [← hw4] at hb4
  rw [← hw4]
  obtain ⟨hb, hhb⟩ : ∃ hb, hb = w.heap.size + 1 + 1 + 1 := ⟨_, rfl⟩
  rw [← hhb] at hst
  rw [← hhb]
  obtain ⟨bb, hbb⟩ : ∃ bb, bb = w.heap.size + 1 + 1 := ⟨_, rfl⟩
  rw [← hbb] at hst
  rw [← hbb]
  obtain ⟨B, hB⟩ : ∃ B, B = w.heap.size + 4 := ⟨_, rfl⟩
  rw [← hB] at hst
  have k1 : w.heap.size + 1 + 1 ≤ bb := by omega
  have k2 : w.heap.size + 1 + 1 ≤ B := by omega
  have k3 : B ≤ w4.heap.size := by omega
  have k4 : w.heap.size + 1 < bb := by omega
  have k5 : w.heap.size + 1 < hb := by omega
  have k6 : hb < B := by omega
  have HST := hid hst; have HB4 := hid hb4; have HI := hid (RvI.init F)
  rw [← HN.out] at HI
  clear hst hb4 hhb hbb hB hz4 hw4
  go_loopw [15] (fun i wr => ∃ k : Nat, ∃ bs vs, k ≤ n ∧ i = .int .i64 k ∧ VSt wr B hb bb vs bs ∧ RvI F k 0 bs ∧ Below (w.heap.size + 1 + 1) w4 wr)
    (fun i _ => n - (intOf i).toNat)
  case atStart => exact ⟨0, _, _, by omega, rfl, HST.out, HI.out, Below.refl _ _⟩
  case round =>
    obtain ⟨k, bs, vs, hk, rfl, hv, hr, hbr⟩ := hrel
    have HVS := hid hv; have HR := hid hr; have HBR := hid hbr
    by_cases hlt : k < n
    · obtain ⟨sb, so, a, b, C, c, rfl, h0, h1, h2, h3⟩ := hF k (by rw [← HN.out]; exact hlt)
      have hlk := hsm k (by rw [← HN.out]; exact hlt)
      have hed := HV.out.edges k (by rw [← HN.out]; exact hlt)
      rw [← HN.out] at hed
      have hbw : Below w.heap.size w wr := HB4.out.trans (hbr.mono (by omega))
      have HBW := hid hbw
      have h0 := below_cell hbw h0
      have h1 := below_cell hbw h1
      have h2 := below_cell hbw h2
      obtain ⟨N, hN⟩ : ∃ N, N = F.getD k [] := ⟨_, rfl⟩
      rw [← hN] at h2 h3 hlk hed
      have HNN := hid hN
      have j1 : (0 : Int) ≤ (k : Int) := by omega
      have j2 : (k : Int) < (n : Int) := by omega
      have HED := hid hed; have H3 := hid h3
      clear hv hr hbr h3 hbw hed hN
      go_wp2_with fail
      have hbx : Below (w.heap.size + 1 + 1) w4 (wr.alloc (.cells #[.int .i64 a, .int .i64 b, .slice C N.length c] 40)) := HBR.out.alloc (by have := HBR.out.size; omega) _
      have HBX := hid hbx
      have HVX := hid (HVS.out.below (below_alloc wr (.cells #[.int .i64 a, .int .i64 b, .slice C N.length c] 40)))
      clear hbx
      go_loopw [23] (fun i wi => ∃ j : Nat, ∃ bs vs, j ≤ N.length ∧ i = .int .i64 j ∧ VSt wi B hb bb vs bs ∧ RvI F k j bs ∧ Below (w.heap.size + 1 + 1) w4 wi) (fun i _ => N.length - (intOf i).toNat)
      case atStart => exact ⟨0, bs, vs, Nat.zero_le _, rfl, HVX.out, HR.out, HBX.out⟩
      case round =>
        have HVS0 := HVS
        clear HVX HBX HVS HR HBR
        obtain ⟨j, bs, vs, hj, rfl, hv, hr, hbr⟩ := hrel
        have HVI := hid hv; have HRI := hid hr; have HBI := hid hbr
        rename World => wr
        by_cases hjt : j < N.length
        · obtain ⟨tb, to, rfl, hx⟩ := H3.out.int j hjt
          have hxe := HED.out j hjt
          obtain ⟨x, hx0⟩ : ∃ x, x = N.getD j 0 := ⟨_, rfl⟩
          rw [← hx0] at hx hxe
          obtain ⟨p, rfl⟩ := Int.eq_ofNat_of_zero_le (Int.le_of_lt hxe.1)
          have hpn : p < n := by omega
          have hx' := below_cell (HB4.out.trans (hbr.mono (by omega))) hx
          have hbs : bs.length = n := by rw [hr.len, HN.out]
          have hc1 := hv.box.cell 0 _ rfl
          rw [hbs] at hc1
          have bc1 : wr.cell? ⟨bb, p, none⟩ = some (.slice (vs.getD p (none, 0)).1 (bs.getD p []).length (vs.getD p (none, 0)).2) := hv.cell p (by omega)
          have hown : ((wr.drew).alloc (.cells #[.int .i64 (k : Int)] 3)).ownsRow B 3 1 (.slice (vs.getD p (none, 0)).1 (bs.getD p []).length (vs.getD p (none, 0)).2) (bs.getD p []).length (ints (bs.getD p [])) := own_below (hv.own p (by omega)) (bthen (below_drew' _) (below_alloc _ _))
          have hne1 : some hb ≠ (Value.slice (vs.getD p (none, 0)).1 (bs.getD p []).length (vs.getD p (none, 0)).2).ownBlock := BlkAt.ne_own hv.box (hv.own p (by omega)) (by decide)
          have hne2 : some bb ≠ (Value.slice (vs.getD p (none, 0)).1 (bs.getD p []).length (vs.getD p (none, 0)).2).ownBlock := BlkAt.ne_own hv.row (hv.own p (by omega)) (by decide)
          have hshort := hr.short p (by rw [← HN.out]; exact hpn)
          have hpush := hr.push (p := p) (by rw [← HN.out]; exact hlt) (by rw [← HNN.out]; exact hjt) (by rw [← HNN.out, ← hx0]) (by rw [← HN.out]; exact hpn)
          have HP := hid hpush
          obtain ⟨Ak, hAk⟩ : ∃ Ak, Ak = (vs.getD p (none, 0)).1 := ⟨_, rfl⟩
          obtain ⟨ck, hck⟩ : ∃ ck, ck = (vs.getD p (none, 0)).2 := ⟨_, rfl⟩
          obtain ⟨lk, hlk2⟩ : ∃ lk, lk = (bs.getD p []).length := ⟨_, rfl⟩
          rw [← hAk, ← hck, ← hlk2] at bc1 hown hne1 hne2
          rw [← hlk2] at hshort
          have HOW := hid hown; have HNE := hid (And.intro hne1 hne2)
          have HVR := hid (hv.below (bthen (below_drew' _) (below_alloc wr.drew (.cells #[.int .i64 (k : Int)] 3))))
          have HAK := hid hAk; have HCK := hid hck; have HLK := hid hlk2; have HX0 := hid hx0
          have zb := hv.box.lt
          have zr := hv.row.lt
          have zB : B ≤ wr.heap.size := by have := hbr.size; omega
          have j3 : (0 : Int) ≤ (p : Int) := by omega
          have j4 : (p : Int) < (n : Int) := by omega
          have lkb : lk ≤ 1000000 := by omega
          clear hv hr hbr hown hne1 hne2 hAk hck hlk2 hx0 hx hpush hxe hshort hbs
          go_wp2_with fail
          refine wp_region_J (fun j => match j with | 7 => some (fun W => W.cell? ⟨hb, 0, none⟩ = some (.slice (some ⟨bb, 0, none⟩) n n) ∧ W.cell? ⟨bb, p, none⟩ = some (.slice Ak lk ck)) | 8 => some (fun W => W.cell? ⟨hb, 0, none⟩ = some (.slice (some ⟨bb, 0, none⟩) n n)) | 10 => some (fun _ => True) | _ => none) (by kernel_rfl) ?_
          refine anyJ_take (some 27) (i := 0) (T := fun W => W.cell? ⟨hb, 0, none⟩ = some (.slice (some ⟨bb, 0, none⟩) n n)) (v := ?_) rfl rfl (by kernel_rfl) (by kernel_rfl) (by kernel_rfl) (fun _ _ _ h => h) (js := [7, 8]) (by kernel_rfl) (Leads.cons _ rfl (fun w h => h.1) (Leads.cons _ rfl (fun w h => h) Leads.nil)) rfl (Or.inl ⟨by rfl, ?_⟩) (hc1) ?_
          rotate_left
          · (intro wL hSw; (try dsimp only at hSw); go_simp; try with_reducible rfl)
          try simp only [Act.put, List.setIfInBounds_toArray, List.set_cons_zero, List.set_cons_succ]
          refine anyJ_take (some 28) (i := 1) (T := fun _ => True) (v := ?_) rfl rfl (by kernel_rfl) (by kernel_rfl) (by kernel_rfl) (fun _ _ _ h => h) (js := [7, 8]) (by kernel_rfl) Leads.true rfl (Or.inl ⟨by rfl, ?_⟩) trivial ?_
          rotate_left
          · (intro wL hSw; (try dsimp only at hSw); go_simp; try with_reducible rfl)
          try simp only [Act.put, List.setIfInBounds_toArray, List.set_cons_zero, List.set_cons_succ]
          refine anyJ_take (some 29) (i := 2) (T := fun W => W.cell? ⟨hb, 0, none⟩ = some (.slice (some ⟨bb, 0, none⟩) n n)) (v := ?_) rfl rfl (by kernel_rfl) (by kernel_rfl) (by kernel_rfl) (fun _ _ _ h => h) (js := [7]) (by kernel_rfl) (Leads.cons _ rfl (fun w h => h.1) Leads.nil) rfl (Or.inl ⟨by rfl, ?_⟩) (hc1) ?_
          rotate_left
          · (intro wL hSw; (try dsimp only at hSw); go_simp; try with_reducible rfl)
          try simp only [Act.put, List.setIfInBounds_toArray, List.set_cons_zero, List.set_cons_succ]
          refine anyJ_take (some 30) (i := 3) (T := fun _ => True) (v := ?_) rfl rfl (by kernel_rfl) (by kernel_rfl) (by kernel_rfl) (fun _ _ _ h => h) (js := [7]) (by kernel_rfl) Leads.true rfl (Or.inl ⟨by rfl, ?_⟩) trivial ?_
          rotate_left
          · (intro wL hSw; (try dsimp only at hSw); go_simp; try with_reducible rfl)
          try simp only [Act.put, List.setIfInBounds_toArray, List.set_cons_zero, List.set_cons_succ]
          refine anyJ_take (some 31) (i := 4) (T := fun _ => True) (v := ?_) rfl rfl (by kernel_rfl) (by kernel_rfl) (by kernel_rfl) (fun _ _ _ h => h) (js := [7]) (by kernel_rfl) Leads.true rfl (Or.inl ⟨by rfl, ?_⟩) trivial ?_
          rotate_left
          · (intro wL hSw; (try dsimp only at hSw); go_simp; try with_reducible rfl)
          try simp only [Act.put, List.setIfInBounds_toArray, List.set_cons_zero, List.set_cons_succ]
          refine anyJ_take (some 32) (i := 5) (T := fun W => W.cell? ⟨bb, p, none⟩ = some (.slice Ak lk ck)) (v := ?_) rfl rfl (by kernel_rfl) (by kernel_rfl) (by kernel_rfl) (fun _ _ _ h => h) (js := [7]) (by kernel_rfl) (Leads.cons _ rfl (fun w h => h.2) Leads.nil) rfl (Or.inl ⟨by rfl, ?_⟩) (bc1) ?_
          rotate_left
          · (intro wL hSw; (try dsimp only at hSw); go_simp; try with_reducible rfl)
          try simp only [Act.put, List.setIfInBounds_toArray, List.set_cons_zero, List.set_cons_succ]
          refine anyJ_take (some 33) (i := 6) (T := fun _ => True) (v := ?_) rfl rfl (by kernel_rfl) (by kernel_rfl) (by kernel_rfl) (fun _ _ _ h => h) (js := []) (by kernel_rfl) Leads.true rfl (Or.inl ⟨by rfl, ?_⟩) trivial ?_
          rotate_left
          · (intro wL hSw; (try dsimp only at hSw); go_simp; try with_reducible rfl)
          try simp only [Act.put, List.setIfInBounds_toArray, List.set_cons_zero, List.set_cons_succ]
          refine anyJ_one (i := 7) (oi := { dst := some 34, op := Go.Op.buildSlice 29 1 #[(0, Go.Operand.tmp 33)], type := 29, pos := "dominators.go:42", after := #[{ on := 6, ground := Go.Ground.data }], guard := none }) rfl (by kernel_rfl) (by rfl) (fun K hK => ?_)
          go_simp
          refine hK.out _ _ (by dsimp only [Obl]; exact ⟨by go_simp, by go_simp⟩) ?_
          clear hK K
          try simp only [Act.put, List.setIfInBounds_toArray, List.set_cons_zero, List.set_cons_succ]
          refine anyJ_one (i := 8) (oi := { dst := some 35, op := Go.Op.call { callee := Go.Callee.builtin Go.Builtin.append, args := #[Go.Operand.tmp 32, Go.Operand.tmp 34], argTypes := #[29, 29] }, type := 29, pos := "dominators.go:42", after := #[{ on := 5, ground := Go.Ground.data }, { on := 7, ground := Go.Ground.data }], guard := none }) rfl (by kernel_rfl) (by rfl) (fun K hK => ?_)
          refine wp_append_row (.tmp 32) (.tmp 34) 29 rfl B 3 i0 (.int .i64 0) 1 8 Try.underlying29 hi hz0 hz1 hz2 rfl (by decide) (.slice Ak lk ck) lk (ints (bs.getD p [])) rfl HOW.out (some ⟨wr.heap.size, 0, none⟩) 1 1 [.int .i64 k] rfl rfl (fun e => by cases e) (Row.one _ _ _) (ints_one [_]) (by unfold maxLen; omega) (by omega) (by simp; omega) ?_
          intro A7 c7 w7 hown4 hgr4 hat4
          have hc4 := hgr4.cell (show ((wr.drew).alloc (.cells #[.int .i64 (k : Int)] 3)).cell? ⟨hb, 0, none⟩ = some (.slice (some ⟨bb, 0, none⟩) n n) from by go_simp) HNE.out.1
          have bc4 := hgr4.cell (show ((wr.drew).alloc (.cells #[.int .i64 (k : Int)] 3)).cell? ⟨bb, p, none⟩ = some (.slice Ak lk ck) from by go_simp) HNE.out.2
          have bf4 : w7.frozen? ⟨bb, p, none⟩ = false := (HVR.out.row.grown hgr4 HNE.out.2).fz p
          refine hK.out _ _ (by dsimp only [Obl]; exact hc4) ?_
          clear hK K
          have HOWN4 := hid hown4; have HGR4 := hid hgr4; have HAT4 := hid hat4; clear hown4 hgr4 hat4
          try simp only [Act.put, List.setIfInBounds_toArray, List.set_cons_zero, List.set_cons_succ]
          refine anyJ_take (some 36) (i := 9) (T := fun _ => True) (v := ?_) rfl rfl (by kernel_rfl) (by kernel_rfl) (by kernel_rfl) (fun _ _ _ h => h) (js := [7, 8]) (by kernel_rfl) Leads.true rfl (Or.inl ⟨by rfl, ?_⟩) trivial ?_
          rotate_left
          · (intro wL hSw; (try dsimp only at hSw); go_simp; try with_reducible rfl)
          try simp only [Act.put, List.setIfInBounds_toArray, List.set_cons_zero, List.set_cons_succ]
          refine anyJ_one (i := 10) (oi := { dst := none, op := Go.Op.store 29 (Go.Operand.tmp 36) (Go.Operand.tmp 35), type := 0, pos := "dominators.go:42", after := #[{ on := 9, ground := Go.Ground.data }, { on := 8, ground := Go.Ground.data }, { on := 8, ground := Go.Ground.chain }, { on := 0, ground := Go.Ground.phase }, { on := 1, ground := Go.Ground.phase }, { on := 2, ground := Go.Ground.phase }, { on := 3, ground := Go.Ground.phase }, { on := 4, ground := Go.Ground.phase }, { on := 5, ground := Go.Ground.phase }, { on := 6, ground := Go.Ground.phase }, { on := 7, ground := Go.Ground.phase }, { on := 8, ground := Go.Ground.phase }], guard := none }) rfl (by kernel_rfl) (by rfl) (fun K hK => ?_)
          go_simp
          refine hK.out _ _ trivial ?_
          clear hK K
          try simp only [Act.put, List.setIfInBounds_toArray, List.set_cons_zero, List.set_cons_succ]
          refine anyJ_done (by kernel_rfl) ?_
          go_wp2_with fail
          have e : Value.slice Ak lk ck = sval vs bs p := by unfold sval; rw [HAK.out, HCK.out, HLK.out]
          have hb7 : Below (w.heap.size + 1 + 1) w4 (w7.setCell ⟨bb, p, none⟩ (.slice A7 (lk + 1) c7)) :=
            (((HBI.out.trans ((bthen (below_drew' _) (below_alloc wr.drew (.cells #[.int .i64 (k : Int)] 3))).mono (by omega))).grown HGR4.out (by simp; omega) (fun j hj => Nat.le_trans k2 (HOW.out.lt j hj).1))).setCell (p := ⟨bb, p, none⟩) k1 _
          refine ⟨⟨j + 1, bs.set p (bs.getD p [] ++ [(k : Int)]), vs.set p (A7, c7), by omega, by go_num, ?_, HP.out, hb7⟩, by simp [intOf]; omega⟩
          have h1 := HOWN4.out
          have h2 := HGR4.out
          have h3 := HAT4.out
          rw [e] at h2 h3
          rw [HLK.out] at h1 h3
          rw [HLK.out]
          refine HVR.out.push p (by have := HVR.out.row; have := HRI.out.len; rw [this, ← HN.out]; exact hpn) h1 h2 ?_
          simpa using h3
        · obtain rfl : j = N.length := by omega
          have hnx := HRI.out
          rw [HNN.out] at hnx
          have HNX := hid (hnx.next (by rw [← HNN.out]; exact hlk))
          clear hv hr hbr hnx
          go_wp2_with fail
          exact ⟨⟨k + 1, bs, vs, by omega, by go_num, HVI.out, HNX.out, HBI.out⟩, by simp [intOf]; omega⟩
    · obtain rfl : k = n := by omega
      have hlen : bs.length = k := by rw [hr.len, HN.out]
      have e0 := (hbr.cell (p := ⟨w.heap.size, 0, none⟩) (by show w.heap.size < _; omega)).trans g0
      have s0 := (hbr.cell (p := ⟨w.heap.size + 1, 0, none⟩) (by show w.heap.size + 1 < _; omega)).trans r0
      have s1 := (hbr.cell (p := ⟨w.heap.size + 1, 1, none⟩) (by show w.heap.size + 1 < _; omega)).trans r1
      have s2 := (hbr.cell (p := ⟨w.heap.size + 1, 2, none⟩) (by show w.heap.size + 1 < _; omega)).trans r2
      have t0 := (hbr.frozen (p := ⟨w.heap.size + 1, 0, none⟩) (by show w.heap.size + 1 < _; omega)).trans q0
      have t1 := (hbr.frozen (p := ⟨w.heap.size + 1, 1, none⟩) (by show w.heap.size + 1 < _; omega)).trans q1
      have t2 := (hbr.frozen (p := ⟨w.heap.size + 1, 2, none⟩) (by show w.heap.size + 1 < _; omega)).trans q2
      clear hv hr hbr
      go_wp2_with fail
      have hrev : IsRev F bs := by have := HR.out; rw [HN.out] at this; exact this.done (by rw [← HN.out]; exact hhi)
      refine bodyPost_ret (v := gval bs.length 1 58 hb) (by simp [results, Try.results45, go_sem, gval, *]) rfl ?_
      have hbf : Below w.heap.size w (((wr.setCell ⟨w.heap.size + 1, 0, none⟩ (.int .i64 k)).setCell ⟨w.heap.size + 1, 1, none⟩ (.int .i64 1)).setCell ⟨w.heap.size + 1, 2, none⟩ (.func (.func 58) #[] #[.pointer (some ⟨hb, 0, none⟩)])) :=
        (((HB4.out.trans (HBR.out.mono (by omega))).setCell (p := ⟨w.heap.size + 1, 0, none⟩) (by simp) _).setCell (p := ⟨w.heap.size + 1, 1, none⟩) (by simp) _).setCell (p := ⟨w.heap.size + 1, 2, none⟩) (by simp) _
      have hv1 := ((HVS.out.resb (b := w.heap.size + 1) (j := 0) (v := .int .i64 k) k5 k4 (by omega)).resb (b := w.heap.size + 1) (j := 1) (v := .int .i64 1) k5 k4 (by omega)).resb (b := w.heap.size + 1) (j := 2) (v := .func (.func 58) #[] #[.pointer (some ⟨hb, 0, none⟩)]) k5 k4 (by omega)
      exact ⟨hb, B, bb, vs, bs, rfl, hv1, hbf, hrev⟩
theorem VSt.next {{w : World}} {{B hb bb : Nat}} {{vs : List (Option Addr × Nat)}} {{bs : List (List Int)}} (h : VSt w B hb bb vs bs) (hl : bs.length ≤ 1000000) : NextOk w 58 hb bs := bwd_next h.lrow (h.box.cell 0 _ rfl) hl
theorem backward_any (pa : Option Addr) (pc : Nat) (F : List (List Int)) (w : World) (hF : FRow w pa F) (hV : VldF F) (hsm : ∀ i, i < F.length → (F.getD i []).length ≤ 900) :
    Calls Try.prog 45 #[.agg #[.slice pa F.length pc]] w fun e w' => ∃ B, GivesGraph w 1 58 B e w' ∧ IsRev F B :=
  (backward_at pa pc F w hF hV hsm).mono fun _ _ ⟨cb, _, _, _, bs, he, hv, hb, hr⟩ => ⟨bs, ⟨cb, he, hv.next (by rw [hr.len]; have := hV.hi; omega), hb⟩, hr⟩
theorem VSt.farT {{w : World}} {{B hb bb : Nat}} {{vs : List (Option Addr × Nat)}} {{bs : List (List Int)}} (h : VSt w B hb bb vs bs) {{b : Nat}} {{cs : List Value}} (hg : BlkAt w b 54 cs) (j : Nat) (v : Value) : VSt (w.setCell ⟨b, j, none⟩ v) B hb bb vs bs :=
  ⟨h.len, h.box.far (h.box.ne hg (by decide)) _ _, h.row.far (h.row.ne hg (by decide)) _ _, fun k hk => own_setCell (h.own k hk) (BlkAt.ne_own hg (h.own k hk) (by decide)), h.apart⟩
end Go.Proofs.Ytjddegfigdpcbaa
