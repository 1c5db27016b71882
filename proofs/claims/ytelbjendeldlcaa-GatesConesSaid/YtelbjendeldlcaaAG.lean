/- The reference builder's step. -/
import Derived.Test.YtelbjendeldlcaaAF
namespace Go.Proofs.Ytelbjendeldlcaa
open Go.RowKit
variable {Z : Nat → Prop}

structure F8 (w W : World) (p q r : Value) : Prop where
  t0 : W.cell? ⟨w.heap.size + 1 + 1, 0, none⟩ = some p
  t1 : W.cell? ⟨w.heap.size + 1 + 1, 1, none⟩ = some q
  t2 : W.cell? ⟨w.heap.size + 1 + 1, 2, none⟩ = some r
  ft : ∀ j, W.frozen? ⟨w.heap.size + 1 + 1, j, none⟩ = false
  bb : BB W (w.heap.size + 1 + 1)
  hb : Below w.heap.size w W
  size : w.heap.size + 1 + 1 < W.heap.size
theorem F8.start (w : World) (o1 o2 : Obj) (p q r : Value) : F8 w (((w.alloc o1).alloc o2).alloc (.cells #[p, q, r] 52)) p q r := by
  have e : w.heap.size + 1 + 1 = ((w.alloc o1).alloc o2).heap.size := by simp
  have hf : ∀ (W : World) (cs : Array Value) (t : TypeId) (j : Nat), (W.alloc (.cells cs t)).frozen? ⟨W.heap.size, j, none⟩ = false := fun W cs t j => by
    unfold World.frozen?; simp only []; rw [show (W.alloc (.cells cs t)).heap[W.heap.size]? = some (.cells cs t (0, 0)) from heap_alloc_new W _]; simp
  refine ⟨?_, ?_, ?_, fun j => ?_, ?_, bthen (b2 _ _ _) (below_alloc _ _), by simp⟩
  · rw [e]; exact box_cell (Below.refl _ _) 0 _ rfl
  · rw [e]; exact box_cell (Below.refl _ _) 1 _ rfl
  · rw [e]; exact box_cell (Below.refl _ _) 2 _ rfl
  · rw [e]; exact hf _ _ _ _
  · rw [e]; exact ⟨_, _, heap_alloc_new _ _⟩
theorem F8.below {w W W' : World} {p q r : Value} (h : F8 w W p q r) (hb : Below W.heap.size W W') : F8 w W' p q r :=
  ⟨below_cell hb h.t0, below_cell hb h.t1, below_cell hb h.t2, fun j => ((bcell hb).2 _ _ h.size).trans (h.ft j), h.bb.below hb, bthen h.hb hb, Nat.lt_of_lt_of_le h.size hb.size⟩

set_option maxHeartbeats 2000000 in
theorem rdo_any {w : World} {s : PB} {v : Value} (hZ : ∀ b, w.heap.size ≤ b → Z b) (hv : RB Z w s v) (hok : s.Ok) (k a b c : Int) : Calls Try.prog 25 #[v, .agg #[.int .i64 k, .int .i64 a, .int .i64 b, .int .i64 c]] w fun e w' => RPost Z w (s.step k a b c) e w' := by
  have hrb : ∀ o1 o2 o3, RB Z (((w.alloc o1).alloc o2).alloc o3) s v := fun o1 o2 o3 => RB.below (bthen (b2 _ _ _) (below_alloc _ _)) hv
  obtain ⟨B, d, rfl, hr, hn⟩ := hv
  have HRB := hid hrb; have HOK := hid hok; have HZZ := hid (fun o1 o2 o3 b (hb : (((w.alloc o1).alloc o2).alloc o3).heap.size ≤ b) => hZ b (Nat.le_trans (by simp; omega) hb)); clear hrb hr hn hZ
  by_cases h0 : k = 0
  · have hst : s.step k a b c = s.inp a := by unfold PB.step; rw [if_pos h0]
    have HST := hid hst; clear hst ; subst h0
    obtain ⟨t, z, hr1⟩ : ∃ t z, s.inp a = (t, z) := ⟨_, _, rfl⟩
    have HR1 := hid hr1; clear hr1
    go_enter Try.func25, Try.ntmps25
    go_wp2_with (go_at_call 45; refine (rinput_any (HRB.out _ _ _) HOK.out a).mono ?_; rw [HR1.out]; rintro e w4 ⟨v4, rfl, hv4, hb4⟩; obtain ⟨B4, d4, rfl, hr4, hn4⟩ := hv4; have HF4 := hid ((F8.start w _ _ _ _ _).below hb4); have HR4 := hid hr4; have HN4 := hid hn4; clear hr4 hn4 hb4; have t0 := HF4.out.t0; have t1 := HF4.out.t1; have t2 := HF4.out.t2; have ft0 := HF4.out.ft 0; have ft1 := HF4.out.ft 1; have ft2 := HF4.out.ft 2; have zz := HF4.out.size)
    refine bodyPost_ret (v := .tuple #[.agg #[.int .i64 t.n, .slice B4 t.G.length d4, .int .i64 t.er], .int .i64 (z)]) (by simp [results, Try.results25, go_sem, *]) rfl ?_
    rw [HST.out, HR1.out]
    exact ⟨_, rfl, ⟨B4, d4, rfl, put3_row (x := .int .i64 t.n) (y := .slice B4 t.G.length d4) (z := .int .i64 t.er) HR4.out HF4.out.bb, HN4.out⟩, put3_below (x := .int .i64 t.n) (y := .slice B4 t.G.length d4) (z := .int .i64 t.er) HF4.out.hb (Nat.le_trans (Nat.le_succ _) (Nat.le_succ _))⟩
  by_cases h1 : k = 1
  · have hst : s.step k a b c = s.and a b := by unfold PB.step; rw [if_neg h0, if_pos h1]
    have HST := hid hst; clear hst h0; subst h1
    obtain ⟨t, z, hr1⟩ : ∃ t z, s.and a b = (t, z) := ⟨_, _, rfl⟩
    have HR1 := hid hr1; clear hr1
    go_enter Try.func25, Try.ntmps25
    go_wp2_with (go_at_call 46; refine (rand_any (HZZ.out _ _ _) (HRB.out _ _ _) HOK.out a b).mono ?_; rw [HR1.out]; rintro e w4 ⟨v4, rfl, hv4, hb4⟩; obtain ⟨B4, d4, rfl, hr4, hn4⟩ := hv4; have HF4 := hid ((F8.start w _ _ _ _ _).below hb4); have HR4 := hid hr4; have HN4 := hid hn4; clear hr4 hn4 hb4; have t0 := HF4.out.t0; have t1 := HF4.out.t1; have t2 := HF4.out.t2; have ft0 := HF4.out.ft 0; have ft1 := HF4.out.ft 1; have ft2 := HF4.out.ft 2; have zz := HF4.out.size)
    refine bodyPost_ret (v := .tuple #[.agg #[.int .i64 t.n, .slice B4 t.G.length d4, .int .i64 t.er], .int .i64 (z)]) (by simp [results, Try.results25, go_sem, *]) rfl ?_
    rw [HST.out, HR1.out]
    exact ⟨_, rfl, ⟨B4, d4, rfl, put3_row (x := .int .i64 t.n) (y := .slice B4 t.G.length d4) (z := .int .i64 t.er) HR4.out HF4.out.bb, HN4.out⟩, put3_below (x := .int .i64 t.n) (y := .slice B4 t.G.length d4) (z := .int .i64 t.er) HF4.out.hb (Nat.le_trans (Nat.le_succ _) (Nat.le_succ _))⟩
  by_cases h2 : k = 2
  · have hst : s.step k a b c = s.or a b := by unfold PB.step; rw [if_neg h0, if_neg h1, if_pos h2]
    have HST := hid hst; clear hst h0 h1; subst h2
    obtain ⟨t, z, hr1⟩ : ∃ t z, s.or a b = (t, z) := ⟨_, _, rfl⟩
    have HR1 := hid hr1; clear hr1
    go_enter Try.func25, Try.ntmps25
    go_wp2_with (go_at_call 47; refine (ror_any (HZZ.out _ _ _) (HRB.out _ _ _) HOK.out a b).mono ?_; rw [HR1.out]; rintro e w4 ⟨v4, rfl, hv4, hb4⟩; obtain ⟨B4, d4, rfl, hr4, hn4⟩ := hv4; have HF4 := hid ((F8.start w _ _ _ _ _).below hb4); have HR4 := hid hr4; have HN4 := hid hn4; clear hr4 hn4 hb4; have t0 := HF4.out.t0; have t1 := HF4.out.t1; have t2 := HF4.out.t2; have ft0 := HF4.out.ft 0; have ft1 := HF4.out.ft 1; have ft2 := HF4.out.ft 2; have zz := HF4.out.size)
    refine bodyPost_ret (v := .tuple #[.agg #[.int .i64 t.n, .slice B4 t.G.length d4, .int .i64 t.er], .int .i64 (z)]) (by simp [results, Try.results25, go_sem, *]) rfl ?_
    rw [HST.out, HR1.out]
    exact ⟨_, rfl, ⟨B4, d4, rfl, put3_row (x := .int .i64 t.n) (y := .slice B4 t.G.length d4) (z := .int .i64 t.er) HR4.out HF4.out.bb, HN4.out⟩, put3_below (x := .int .i64 t.n) (y := .slice B4 t.G.length d4) (z := .int .i64 t.er) HF4.out.hb (Nat.le_trans (Nat.le_succ _) (Nat.le_succ _))⟩
  by_cases h3 : k = 3
  · have hst : s.step k a b c = s.xor a b := by unfold PB.step; rw [if_neg h0, if_neg h1, if_neg h2, if_pos h3]
    have HST := hid hst; clear hst h0 h1 h2; subst h3
    obtain ⟨t, z, hr1⟩ : ∃ t z, s.xor a b = (t, z) := ⟨_, _, rfl⟩
    have HR1 := hid hr1; clear hr1
    go_enter Try.func25, Try.ntmps25
    go_wp2_with (go_at_call 48; refine (rxor_any (HZZ.out _ _ _) (HRB.out _ _ _) HOK.out a b).mono ?_; rw [HR1.out]; rintro e w4 ⟨v4, rfl, hv4, hb4⟩; obtain ⟨B4, d4, rfl, hr4, hn4⟩ := hv4; have HF4 := hid ((F8.start w _ _ _ _ _).below hb4); have HR4 := hid hr4; have HN4 := hid hn4; clear hr4 hn4 hb4; have t0 := HF4.out.t0; have t1 := HF4.out.t1; have t2 := HF4.out.t2; have ft0 := HF4.out.ft 0; have ft1 := HF4.out.ft 1; have ft2 := HF4.out.ft 2; have zz := HF4.out.size)
    refine bodyPost_ret (v := .tuple #[.agg #[.int .i64 t.n, .slice B4 t.G.length d4, .int .i64 t.er], .int .i64 (z)]) (by simp [results, Try.results25, go_sem, *]) rfl ?_
    rw [HST.out, HR1.out]
    exact ⟨_, rfl, ⟨B4, d4, rfl, put3_row (x := .int .i64 t.n) (y := .slice B4 t.G.length d4) (z := .int .i64 t.er) HR4.out HF4.out.bb, HN4.out⟩, put3_below (x := .int .i64 t.n) (y := .slice B4 t.G.length d4) (z := .int .i64 t.er) HF4.out.hb (Nat.le_trans (Nat.le_succ _) (Nat.le_succ _))⟩
  · have hst : s.step k a b c = s.mux a b c := by unfold PB.step; rw [if_neg h0, if_neg h1, if_neg h2, if_neg h3]
    have HST := hid hst
    have k0 : (k == 0) = false := by simp [h0]
    have k1 : (k == 1) = false := by simp [h1]
    have k2 : (k == 2) = false := by simp [h2]
    have k3 : (k == 3) = false := by simp [h3]
    clear hst h0 h1 h2 h3
    obtain ⟨t, z, hr1⟩ : ∃ t z, s.mux a b c = (t, z) := ⟨_, _, rfl⟩
    have HR1 := hid hr1; clear hr1
    go_enter Try.func25, Try.ntmps25
    go_wp2_with (go_at_call 49; refine (rmux_any (HZZ.out _ _ _) (HRB.out _ _ _) HOK.out a b c).mono ?_; rw [HR1.out]; rintro e w4 ⟨v4, rfl, hv4, hb4⟩; obtain ⟨B4, d4, rfl, hr4, hn4⟩ := hv4; have HF4 := hid ((F8.start w _ _ _ _ _).below hb4); have HR4 := hid hr4; have HN4 := hid hn4; clear hr4 hn4 hb4; have t0 := HF4.out.t0; have t1 := HF4.out.t1; have t2 := HF4.out.t2; have ft0 := HF4.out.ft 0; have ft1 := HF4.out.ft 1; have ft2 := HF4.out.ft 2; have zz := HF4.out.size)
    refine bodyPost_ret (v := .tuple #[.agg #[.int .i64 t.n, .slice B4 t.G.length d4, .int .i64 t.er], .int .i64 (z)]) (by simp [results, Try.results25, go_sem, *]) rfl ?_
    rw [HST.out, HR1.out]
    exact ⟨_, rfl, ⟨B4, d4, rfl, put3_row (x := .int .i64 t.n) (y := .slice B4 t.G.length d4) (z := .int .i64 t.er) HR4.out HF4.out.bb, HN4.out⟩, put3_below (x := .int .i64 t.n) (y := .slice B4 t.G.length d4) (z := .int .i64 t.er) HF4.out.hb (Nat.le_trans (Nat.le_succ _) (Nat.le_succ _))⟩
end Go.Proofs.Ytelbjendeldlcaa
