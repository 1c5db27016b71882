/- The reference builder's Xor and Mux. -/
import Derived.Test.YtelbjendeldlcaaAE
namespace Go.Proofs.Ytelbjendeldlcaa
open Go.RowKit
variable {Z : Nat → Prop}

theorem F7.put {w W : World} {a b c p q r a' b' c' : Value} (h : F7 w W a b c p q r) : F7 w (put3 W w.heap.size a' b' c') a' b' c' p q r := by
  have hb : Below w.heap.size w (put3 W w.heap.size a' b' c') := put3_below h.f.hb (Nat.le_refl _)
  have hs : (put3 W w.heap.size a' b' c').heap.size = W.heap.size := by simp [put3, World.setCell]
  have r0 := h.f.r0; have r1 := h.f.r1; have r2 := h.f.r2; have t0 := h.f.t0; have t1 := h.f.t1; have t2 := h.f.t2
  have fr := h.f.fr; have ft := h.f.ft
  refine ⟨⟨?_, ?_, ?_, ?_, ?_, ?_, fun j => ?_, fun j => ?_, hb, by rw [hs]; exact h.f.size⟩, put3_bb h.b0 h.b0, put3_bb h.b0 h.b1⟩
  all_goals simp [put3, go_sem, *]
theorem or_settle (s : PB) (x y : Int) : (s.or x y).1.settle (s.or x y).2 = (s.or x y).2 := by
  unfold PB.or
  split
  · rename_i h; unfold PB.settle; rw [if_pos h]
  split
  · unfold PB.settle; rw [if_pos (by show (1 : Int) ≠ 0; decide)]
  · unfold PB.settle
    split <;> simp
theorem PB.and_ok {s : PB} (h : s.Ok) (x y : Int) : (s.and x y).1.Ok := by
  have lo := h.lo; have hi := h.hi; have hs := h.size
  unfold PB.and
  split
  · exact h
  split
  · exact ⟨lo, hi, hs⟩
  unfold PB.pair
  split
  · exact h
  split
  · exact h
  split
  · exact h
  split
  · exact ⟨lo, hi, hs⟩
  · exact ⟨lo, hi, by simp; omega⟩
theorem both_eq {s t u q : PB} {a b c d z1 z2 z3 : Int} (h1 : s.and a b = (t, z1)) (h2 : t.and c d = (u, z2)) (h3 : u.or z1 z2 = (q, z3)) : s.both a b c d = (q, z3) := by
  unfold PB.both
  have := or_settle u z1 z2
  rw [h3] at this
  simp only [h1, h2, h3, this]

set_option maxHeartbeats 2000000 in
theorem rxor_any {w : World} {s : PB} {v : Value} (hZ : ∀ b, w.heap.size ≤ b → Z b) (hv : RB Z w s v) (hok : s.Ok) (x y : Int) : Calls Try.prog 48 #[v, .int .i64 x, .int .i64 y] w fun e w' => RPost Z w (s.xor x y) e w' := by
  have hLN := PB.litN_eq hok
  have HLN := hid hLN
  have HOK := hid hok
  have HZZ := hid hZ; clear hZ
  have hsz := hok.size; have hlo := hok.lo; have hhi := hok.hi
  obtain ⟨B, d, rfl, hr, hn⟩ := hv
  have HR := hid hr; have HN := hid hn; clear hr hn hLN
  have HF0 := hid (fun p q r => F7.start w (.int .i64 s.n) (.slice B s.G.length d) (.int .i64 s.er) p q r)
  by_cases h0 : (s.er != 0) = true
  · have hs : s.xor x y = (s, 0) := by unfold PB.xor; rw [if_pos (by simpa using h0)]
    have HS := hid hs; clear hs
    go_enter Try.func48, Try.ntmps48
    go_wp2
    refine bodyPost_ret (v := .tuple #[.agg #[.int .i64 s.n, .slice B s.G.length d, .int .i64 s.er], .int .i64 (0)]) (by simp [results, Try.results48, go_sem, *]) rfl ?_
    rw [HS.out]
    exact ⟨_, rfl, ⟨B, d, rfl, HR.out.below (b2 _ _ _), HN.out⟩, b2 _ _ _⟩
  have h0' : (s.er != 0) = false := by simpa using h0
  have hz : s.er = 0 := by simpa using h0
  have HZ := hid hz; clear hz h0
  by_cases hl : s.lit x ∧ s.lit y
  · obtain ⟨t, z1, ha1⟩ : ∃ t z, s.and x (notI y) = (t, z) := ⟨_, _, rfl⟩
    have hot := PB.and_ok hok x (notI y)
    rw [ha1] at hot
    obtain ⟨u, z2, ha2⟩ : ∃ t' z, t.and (notI x) y = (t', z) := ⟨_, _, rfl⟩
    have hou := PB.and_ok hot (notI x) y
    rw [ha2] at hou
    obtain ⟨q, z3, ha3⟩ : ∃ t' z, u.or z1 z2 = (t', z) := ⟨_, _, rfl⟩
    have hx : s.xor x y = (q, z3) := by unfold PB.xor; rw [if_neg (by simpa using HZ.out), if_neg (fun h => h hl)]; exact both_eq ha1 ha2 ha3
    have HX := hid (show 0 ≤ x ∧ x < litN s.n s.G.length from by rw [HLN.out]; exact hl.1)
    have xb := PB.lit_bd hok hl.1
    obtain ⟨xb0, xb1⟩ := xb
    have HY := hid (show 0 ≤ y ∧ y < litN s.n s.G.length from by rw [HLN.out]; exact hl.2)
    have yb := PB.lit_bd hok hl.2
    obtain ⟨yb0, yb1⟩ := yb
    have HA1 := hid ha1; have HA2 := hid ha2; have HA3 := hid ha3; have HX0 := hid hx; have HOT := hid (show t.Ok from hot); have HOU := hid (show u.Ok from hou)
    clear ha1 ha2 ha3 hx hot hou hl
    go_enter Try.func48, Try.ntmps48
    go_wp2_with (first | (go_at_call 54; with_reducible refine (isLiteral_any s.n B s.G.length d x _).mono ?_; rintro e w1 ⟨ht, hb1⟩; obtain rfl := ht.eq_yes HX.out; clear ht; have HF := hid ((HF0.out _ _ _).below hb1); have r0 := HF.out.f.r0; have r1 := HF.out.f.r1; have r2 := HF.out.f.r2; have t0 := HF.out.f.t0; have t1 := HF.out.f.t1; have t2 := HF.out.f.t2; have fr0 := HF.out.f.fr 0; have fr1 := HF.out.f.fr 1; have fr2 := HF.out.f.fr 2; have ft0 := HF.out.f.ft 0; have ft1 := HF.out.f.ft 1; have ft2 := HF.out.f.ft 2; have zz := HF.out.f.size; have xx : w.heap.size < w1.heap.size := Nat.lt_of_succ_lt zz; clear hb1) | (go_at_call 54; with_reducible refine (isLiteral_any s.n B s.G.length d y _).mono ?_; rintro e w1 ⟨ht, hb1⟩; obtain rfl := ht.eq_yes HY.out; clear ht; have HF := hid (HF.out.below hb1); have r0 := HF.out.f.r0; have r1 := HF.out.f.r1; have r2 := HF.out.f.r2; have t0 := HF.out.f.t0; have t1 := HF.out.f.t1; have t2 := HF.out.f.t2; have fr0 := HF.out.f.fr 0; have fr1 := HF.out.f.fr 1; have fr2 := HF.out.f.fr 2; have ft0 := HF.out.f.ft 0; have ft1 := HF.out.f.ft 1; have ft2 := HF.out.f.ft 2; have zz := HF.out.f.size; have xx : w.heap.size < w1.heap.size := Nat.lt_of_succ_lt zz; clear hb1))
    refine wp_region_J (fun j => match j with | 3 => some (fun W => W.cell? ⟨w.heap.size, 0, none⟩ = some (.int .i64 s.n) ∧ W.cell? ⟨w.heap.size, 1, none⟩ = some (.slice B s.G.length d) ∧ W.cell? ⟨w.heap.size, 2, none⟩ = some (.int .i64 s.er)) | 4 => some (fun _ => True) | 8 => some (fun _ => True) | _ => none) (by kernel_rfl) ?_
    refine anyJ_take (some 29) (i := 0) (T := fun W => W.cell? ⟨w.heap.size, 0, none⟩ = some (.int .i64 s.n) ∧ W.cell? ⟨w.heap.size, 1, none⟩ = some (.slice B s.G.length d) ∧ W.cell? ⟨w.heap.size, 2, none⟩ = some (.int .i64 s.er)) (v := ?_) rfl rfl (by kernel_rfl) (by kernel_rfl) (by kernel_rfl) (fun _ _ _ h => h) (js := [3]) (by kernel_rfl) (Leads.cons _ rfl (fun w h => h) Leads.nil) rfl (Or.inl ⟨by rfl, ?_⟩) (⟨by go_simp, by go_simp, by go_simp⟩) ?_
    rotate_left
    · (intro wL hSw; (try dsimp only at hSw); go_simp; try with_reducible rfl)
    try simp only [Act.put, List.setIfInBounds_toArray, List.set_cons_zero, List.set_cons_succ]
    refine anyJ_take (some 30) (i := 1) (T := fun _ => True) (v := ?_) rfl rfl (by kernel_rfl) (by kernel_rfl) (by kernel_rfl) (fun _ _ _ h => h) (js := [3]) (by kernel_rfl) Leads.true rfl (Or.inl ⟨by rfl, ?_⟩) trivial ?_
    rotate_left
    · (intro wL hSw; (try dsimp only at hSw); go_simp; try with_reducible rfl)
    try simp only [Act.put, List.setIfInBounds_toArray, List.set_cons_zero, List.set_cons_succ]
    refine anyJ_take (some 31) (i := 2) (T := fun _ => True) (v := ?_) rfl rfl (by kernel_rfl) (by kernel_rfl) (by kernel_rfl) (fun _ _ _ h => h) (js := []) (by kernel_rfl) Leads.true rfl (Or.inl ⟨by rfl, ?_⟩) trivial ?_
    rotate_left
    · (intro wL hSw; (try dsimp only at hSw); go_simp; try with_reducible rfl)
    try simp only [Act.put, List.setIfInBounds_toArray, List.set_cons_zero, List.set_cons_succ]
    refine anyJ_one (i := 3) (oi := { dst := some 32, op := Go.Op.call { callee := Go.Callee.value (Go.Operand.func 28), args := #[Go.Operand.tmp 31], argTypes := #[3] }, type := 3, pos := "ref.go:104", after := #[{ on := 2, ground := Go.Ground.data }], guard := none }) rfl (by kernel_rfl) (by rfl) (fun K hK => ?_)
    go_simp
    refine (rnot_any y _ (by omega) (by omega)).mono ?_
    rintro e w9 ⟨rfl, hw9⟩; rw [hw9]; clear hw9 w9
    refine hK.out _ _ (by dsimp only [Obl]; exact ⟨by go_simp, by go_simp, by go_simp⟩) ?_
    clear hK K
    try simp only [Act.put, List.setIfInBounds_toArray, List.set_cons_zero, List.set_cons_succ]
    refine anyJ_one (i := 4) (oi := { dst := some 33, op := Go.Op.call { callee := Go.Callee.value (Go.Operand.func 46), args := #[Go.Operand.tmp 29, Go.Operand.tmp 30, Go.Operand.tmp 32], argTypes := #[52, 3, 3] }, type := 55, pos := "ref.go:104", after := #[{ on := 0, ground := Go.Ground.data }, { on := 1, ground := Go.Ground.data }, { on := 3, ground := Go.Ground.data }, { on := 3, ground := Go.Ground.chain }], guard := none }) rfl (by kernel_rfl) (by rfl) (fun K hK => ?_)
    go_simp
    have hrb : RB Z w1.drew s (.agg #[.int .i64 s.n, .slice B s.G.length d, .int .i64 s.er]) := ⟨B, d, rfl, HR.out.below (bthen HF.out.f.hb (below_drew' w1)), HN.out⟩
    refine (rand_any (show ∀ b, w1.drew.heap.size ≤ b → Z b from fun b hb => HZZ.out b (Nat.le_trans HF.out.f.hb.size hb)) hrb HOK.out x (notI y)).mono ?_
    rw [HA1.out]
    rintro e w4 ⟨v4, rfl, hv4, hb4⟩
    obtain ⟨B4, d4, rfl, hr4, hn4⟩ := hv4
    have HF4 := hid (HF.out.below (bthen (below_drew' w1) hb4))
    have HR4 := hid hr4; have HN4 := hid hn4; clear hr4 hn4 hb4 hrb
    have r0 := HF4.out.f.r0; have r1 := HF4.out.f.r1; have r2 := HF4.out.f.r2; have t0 := HF4.out.f.t0; have t1 := HF4.out.f.t1; have t2 := HF4.out.f.t2; have fr0 := HF4.out.f.fr 0; have fr1 := HF4.out.f.fr 1; have fr2 := HF4.out.f.fr 2; have ft0 := HF4.out.f.ft 0; have ft1 := HF4.out.f.ft 1; have ft2 := HF4.out.f.ft 2; have zz := HF4.out.f.size; have xx : w.heap.size < w4.heap.size := Nat.lt_of_succ_lt zz
    refine hK.out _ _ trivial ?_
    clear hK K
    try simp only [Act.put, List.setIfInBounds_toArray, List.set_cons_zero, List.set_cons_succ]
    refine anyJ_take (some 28) (i := 5) (T := fun _ => True) (v := ?_) rfl rfl (by kernel_rfl) (by kernel_rfl) (by kernel_rfl) (fun _ _ _ h => h) (js := [3, 4]) (by kernel_rfl) Leads.true rfl (Or.inl ⟨by rfl, ?_⟩) trivial ?_
    rotate_left
    · (intro wL hSw; (try dsimp only at hSw); go_simp; try with_reducible rfl)
    try simp only [Act.put, List.setIfInBounds_toArray, List.set_cons_zero, List.set_cons_succ]
    refine anyJ_take (some 34) (i := 6) (T := fun _ => True) (v := ?_) rfl rfl (by kernel_rfl) (by kernel_rfl) (by kernel_rfl) (fun _ _ _ h => h) (js := [3, 4]) (by kernel_rfl) Leads.true rfl (Or.inl ⟨by rfl, ?_⟩) trivial ?_
    rotate_left
    · (intro wL hSw; (try dsimp only at hSw); go_simp; try with_reducible rfl)
    try simp only [Act.put, List.setIfInBounds_toArray, List.set_cons_zero, List.set_cons_succ]
    refine anyJ_take (some 35) (i := 7) (T := fun _ => True) (v := ?_) rfl rfl (by kernel_rfl) (by kernel_rfl) (by kernel_rfl) (fun _ _ _ h => h) (js := [3, 4, 8]) (by kernel_rfl) Leads.true rfl (Or.inl ⟨by rfl, ?_⟩) trivial ?_
    rotate_left
    · (intro wL hSw; (try dsimp only at hSw); go_simp; try with_reducible rfl)
    try simp only [Act.put, List.setIfInBounds_toArray, List.set_cons_zero, List.set_cons_succ]
    refine anyJ_one (i := 8) (oi := { dst := none, op := Go.Op.store 52 (Go.Operand.tmp 3) (Go.Operand.tmp 34), type := 0, pos := "ref.go:104", after := #[{ on := 6, ground := Go.Ground.data }, { on := 4, ground := Go.Ground.chain }, { on := 0, ground := Go.Ground.phase }, { on := 1, ground := Go.Ground.phase }, { on := 2, ground := Go.Ground.phase }, { on := 3, ground := Go.Ground.phase }, { on := 4, ground := Go.Ground.phase }, { on := 5, ground := Go.Ground.phase }, { on := 6, ground := Go.Ground.phase }, { on := 7, ground := Go.Ground.textOnly Go.Departure.lateStores }], guard := none }) rfl (by kernel_rfl) (by rfl) (fun K hK => ?_)
    go_simp
    refine hK.out _ _ trivial ?_
    clear hK K
    try simp only [Act.put, List.setIfInBounds_toArray, List.set_cons_zero, List.set_cons_succ]
    refine anyJ_take (some 8) (i := 9) (T := fun _ => True) (v := ?_) rfl rfl (by kernel_rfl) (by kernel_rfl) (by kernel_rfl) (fun _ _ _ h => h) (js := [3, 4, 8]) (by kernel_rfl) Leads.true rfl (Or.inl ⟨by rfl, ?_⟩) trivial ?_
    rotate_left
    · (intro wL hSw; (try dsimp only at hSw); go_simp; try with_reducible rfl)
    try simp only [Act.put, List.setIfInBounds_toArray, List.set_cons_zero, List.set_cons_succ]
    refine anyJ_done (by kernel_rfl) ?_
    go_wp2_with fail
    have HF5 := hid (F7.put (a' := .int .i64 t.n) (b' := .slice B4 t.G.length d4) (c' := .int .i64 t.er) HF4.out)
    have HR5 := hid (put3_row (x := .int .i64 t.n) (y := .slice B4 t.G.length d4) (z := .int .i64 t.er) HR4.out HF4.out.b0)
    obtain ⟨w5, hw5⟩ : ∃ w5, w5 = put3 w4 w.heap.size (.int .i64 t.n) (.slice B4 t.G.length d4) (.int .i64 t.er) := ⟨_, rfl⟩
    rw [← hw5] at HF5 HR5
    unfold put3 at hw5
    rw [← hw5]
    clear hw5
    have r0 := HF5.out.f.r0; have r1 := HF5.out.f.r1; have r2 := HF5.out.f.r2; have t0 := HF5.out.f.t0; have t1 := HF5.out.f.t1; have t2 := HF5.out.f.t2; have fr0 := HF5.out.f.fr 0; have fr1 := HF5.out.f.fr 1; have fr2 := HF5.out.f.fr 2; have ft0 := HF5.out.f.ft 0; have ft1 := HF5.out.f.ft 1; have ft2 := HF5.out.f.ft 2; have zz := HF5.out.f.size; have xx : w.heap.size < w5.heap.size := Nat.lt_of_succ_lt zz
    go_wp2_with fail
    refine wp_region_J (fun j => match j with | 2 => some (fun W => W.cell? ⟨w.heap.size, 0, none⟩ = some (.int .i64 t.n) ∧ W.cell? ⟨w.heap.size, 1, none⟩ = some (.slice B4 t.G.length d4) ∧ W.cell? ⟨w.heap.size, 2, none⟩ = some (.int .i64 t.er)) | 4 => some (fun _ => True) | 8 => some (fun _ => True) | _ => none) (by kernel_rfl) ?_
    refine anyJ_take (some 37) (i := 0) (T := fun W => W.cell? ⟨w.heap.size, 0, none⟩ = some (.int .i64 t.n) ∧ W.cell? ⟨w.heap.size, 1, none⟩ = some (.slice B4 t.G.length d4) ∧ W.cell? ⟨w.heap.size, 2, none⟩ = some (.int .i64 t.er)) (v := ?_) rfl rfl (by kernel_rfl) (by kernel_rfl) (by kernel_rfl) (fun _ _ _ h => h) (js := [2]) (by kernel_rfl) (Leads.cons _ rfl (fun w h => h) Leads.nil) rfl (Or.inl ⟨by rfl, ?_⟩) (⟨by go_simp, by go_simp, by go_simp⟩) ?_
    rotate_left
    · (intro wL hSw; (try dsimp only at hSw); go_simp; try with_reducible rfl)
    try simp only [Act.put, List.setIfInBounds_toArray, List.set_cons_zero, List.set_cons_succ]
    refine anyJ_take (some 38) (i := 1) (T := fun _ => True) (v := ?_) rfl rfl (by kernel_rfl) (by kernel_rfl) (by kernel_rfl) (fun _ _ _ h => h) (js := []) (by kernel_rfl) Leads.true rfl (Or.inl ⟨by rfl, ?_⟩) trivial ?_
    rotate_left
    · (intro wL hSw; (try dsimp only at hSw); go_simp; try with_reducible rfl)
    try simp only [Act.put, List.setIfInBounds_toArray, List.set_cons_zero, List.set_cons_succ]
    refine anyJ_take (some 40) (i := 3) (T := fun _ => True) (v := ?_) rfl rfl (by kernel_rfl) (by kernel_rfl) (by kernel_rfl) (fun _ _ _ h => h) (js := [2]) (by kernel_rfl) Leads.true rfl (Or.inl ⟨by rfl, ?_⟩) trivial ?_
    rotate_left
    · (intro wL hSw; (try dsimp only at hSw); go_simp; try with_reducible rfl)
    try simp only [Act.put, List.setIfInBounds_toArray, List.set_cons_zero, List.set_cons_succ]
    refine anyJ_one (i := 2) (oi := { dst := some 39, op := Go.Op.call { callee := Go.Callee.value (Go.Operand.func 28), args := #[Go.Operand.tmp 38], argTypes := #[3] }, type := 3, pos := "ref.go:105", after := #[{ on := 1, ground := Go.Ground.data }], guard := none }) rfl (by kernel_rfl) (by rfl) (fun K hK => ?_)
    go_simp
    refine (rnot_any x _ (by omega) (by omega)).mono ?_
    rintro e w9 ⟨rfl, hw9⟩; rw [hw9]; clear hw9 w9
    refine hK.out _ _ (by dsimp only [Obl]; exact ⟨by go_simp, by go_simp, by go_simp⟩) ?_
    clear hK K
    try simp only [Act.put, List.setIfInBounds_toArray, List.set_cons_zero, List.set_cons_succ]
    refine anyJ_one (i := 4) (oi := { dst := some 41, op := Go.Op.call { callee := Go.Callee.value (Go.Operand.func 46), args := #[Go.Operand.tmp 37, Go.Operand.tmp 39, Go.Operand.tmp 40], argTypes := #[52, 3, 3] }, type := 55, pos := "ref.go:105", after := #[{ on := 0, ground := Go.Ground.data }, { on := 2, ground := Go.Ground.data }, { on := 3, ground := Go.Ground.data }, { on := 2, ground := Go.Ground.chain }], guard := none }) rfl (by kernel_rfl) (by rfl) (fun K hK => ?_)
    go_simp
    have hrb : RB Z w5.drew t (.agg #[.int .i64 t.n, .slice B4 t.G.length d4, .int .i64 t.er]) := ⟨B4, d4, rfl, rrow_drew HR5.out, HN4.out⟩
    refine (rand_any (show ∀ b, w5.drew.heap.size ≤ b → Z b from fun b hb => HZZ.out b (Nat.le_trans HF5.out.f.hb.size hb)) hrb HOT.out (notI x) y).mono ?_
    rw [HA2.out]
    rintro e w6 ⟨v6, rfl, hv6, hb6⟩
    obtain ⟨B6, d6, rfl, hr6, hn6⟩ := hv6
    have HF6 := hid (HF5.out.below (bthen (below_drew' w5) hb6))
    have HR6 := hid hr6; have HN6 := hid hn6; clear hr6 hn6 hb6 hrb
    have r0 := HF6.out.f.r0; have r1 := HF6.out.f.r1; have r2 := HF6.out.f.r2; have t0 := HF6.out.f.t0; have t1 := HF6.out.f.t1; have t2 := HF6.out.f.t2; have fr0 := HF6.out.f.fr 0; have fr1 := HF6.out.f.fr 1; have fr2 := HF6.out.f.fr 2; have ft0 := HF6.out.f.ft 0; have ft1 := HF6.out.f.ft 1; have ft2 := HF6.out.f.ft 2; have zz := HF6.out.f.size; have xx : w.heap.size < w6.heap.size := Nat.lt_of_succ_lt zz
    refine hK.out _ _ trivial ?_
    clear hK K
    try simp only [Act.put, List.setIfInBounds_toArray, List.set_cons_zero, List.set_cons_succ]
    refine anyJ_take (some 36) (i := 5) (T := fun _ => True) (v := ?_) rfl rfl (by kernel_rfl) (by kernel_rfl) (by kernel_rfl) (fun _ _ _ h => h) (js := [2, 4]) (by kernel_rfl) Leads.true rfl (Or.inl ⟨by rfl, ?_⟩) trivial ?_
    rotate_left
    · (intro wL hSw; (try dsimp only at hSw); go_simp; try with_reducible rfl)
    try simp only [Act.put, List.setIfInBounds_toArray, List.set_cons_zero, List.set_cons_succ]
    refine anyJ_take (some 42) (i := 6) (T := fun _ => True) (v := ?_) rfl rfl (by kernel_rfl) (by kernel_rfl) (by kernel_rfl) (fun _ _ _ h => h) (js := [2, 4]) (by kernel_rfl) Leads.true rfl (Or.inl ⟨by rfl, ?_⟩) trivial ?_
    rotate_left
    · (intro wL hSw; (try dsimp only at hSw); go_simp; try with_reducible rfl)
    try simp only [Act.put, List.setIfInBounds_toArray, List.set_cons_zero, List.set_cons_succ]
    refine anyJ_take (some 43) (i := 7) (T := fun _ => True) (v := ?_) rfl rfl (by kernel_rfl) (by kernel_rfl) (by kernel_rfl) (fun _ _ _ h => h) (js := [2, 4, 8]) (by kernel_rfl) Leads.true rfl (Or.inl ⟨by rfl, ?_⟩) trivial ?_
    rotate_left
    · (intro wL hSw; (try dsimp only at hSw); go_simp; try with_reducible rfl)
    try simp only [Act.put, List.setIfInBounds_toArray, List.set_cons_zero, List.set_cons_succ]
    refine anyJ_one (i := 8) (oi := { dst := none, op := Go.Op.store 52 (Go.Operand.tmp 3) (Go.Operand.tmp 42), type := 0, pos := "ref.go:105", after := #[{ on := 6, ground := Go.Ground.data }, { on := 4, ground := Go.Ground.chain }, { on := 0, ground := Go.Ground.phase }, { on := 1, ground := Go.Ground.phase }, { on := 2, ground := Go.Ground.phase }, { on := 3, ground := Go.Ground.phase }, { on := 4, ground := Go.Ground.phase }, { on := 5, ground := Go.Ground.phase }, { on := 6, ground := Go.Ground.phase }, { on := 7, ground := Go.Ground.textOnly Go.Departure.lateStores }], guard := none }) rfl (by kernel_rfl) (by rfl) (fun K hK => ?_)
    go_simp
    refine hK.out _ _ trivial ?_
    clear hK K
    try simp only [Act.put, List.setIfInBounds_toArray, List.set_cons_zero, List.set_cons_succ]
    refine anyJ_take (some 9) (i := 9) (T := fun _ => True) (v := ?_) rfl rfl (by kernel_rfl) (by kernel_rfl) (by kernel_rfl) (fun _ _ _ h => h) (js := [2, 4, 8]) (by kernel_rfl) Leads.true rfl (Or.inl ⟨by rfl, ?_⟩) trivial ?_
    rotate_left
    · (intro wL hSw; (try dsimp only at hSw); go_simp; try with_reducible rfl)
    try simp only [Act.put, List.setIfInBounds_toArray, List.set_cons_zero, List.set_cons_succ]
    refine anyJ_done (by kernel_rfl) ?_
    go_wp2_with fail
    have HF7 := hid (F7.put (a' := .int .i64 u.n) (b' := .slice B6 u.G.length d6) (c' := .int .i64 u.er) HF6.out)
    have HR7 := hid (put3_row (x := .int .i64 u.n) (y := .slice B6 u.G.length d6) (z := .int .i64 u.er) HR6.out HF6.out.b0)
    obtain ⟨w7, hw7⟩ : ∃ w7, w7 = put3 w6 w.heap.size (.int .i64 u.n) (.slice B6 u.G.length d6) (.int .i64 u.er) := ⟨_, rfl⟩
    rw [← hw7] at HF7 HR7
    unfold put3 at hw7
    rw [← hw7]
    clear hw7
    have r0 := HF7.out.f.r0; have r1 := HF7.out.f.r1; have r2 := HF7.out.f.r2; have t0 := HF7.out.f.t0; have t1 := HF7.out.f.t1; have t2 := HF7.out.f.t2; have fr0 := HF7.out.f.fr 0; have fr1 := HF7.out.f.fr 1; have fr2 := HF7.out.f.fr 2; have ft0 := HF7.out.f.ft 0; have ft1 := HF7.out.f.ft 1; have ft2 := HF7.out.f.ft 2; have zz := HF7.out.f.size; have xx : w.heap.size < w7.heap.size := Nat.lt_of_succ_lt zz
    go_wp2_with (go_at_call 47; refine (ror_any (show ∀ b, w7.heap.size ≤ b → Z b from fun b hb => HZZ.out b (Nat.le_trans HF7.out.f.hb.size hb)) (show RB Z w7 u (.agg #[.int .i64 u.n, .slice B6 u.G.length d6, .int .i64 u.er]) from ⟨B6, d6, rfl, HR7.out, HN6.out⟩) HOU.out z1 z2).mono ?_; rw [HA3.out]; rintro e w8 ⟨v8, rfl, hv8, hb8⟩; obtain ⟨B8, d8, rfl, hr8, hn8⟩ := hv8; have HF8 := hid (HF7.out.below hb8); have HR8 := hid hr8; have HN8 := hid hn8; clear hr8 hn8 hb8; have r0 := HF8.out.f.r0; have r1 := HF8.out.f.r1; have r2 := HF8.out.f.r2; have t0 := HF8.out.f.t0; have t1 := HF8.out.f.t1; have t2 := HF8.out.f.t2; have fr0 := HF8.out.f.fr 0; have fr1 := HF8.out.f.fr 1; have fr2 := HF8.out.f.fr 2; have ft0 := HF8.out.f.ft 0; have ft1 := HF8.out.f.ft 1; have ft2 := HF8.out.f.ft 2; have zz := HF8.out.f.size; have xx : w.heap.size < w8.heap.size := Nat.lt_of_succ_lt zz)
    refine bodyPost_ret (v := .tuple #[.agg #[.int .i64 q.n, .slice B8 q.G.length d8, .int .i64 q.er], .int .i64 (z3)]) (by simp [results, Try.results48, go_sem, *]) rfl ?_
    rw [HX0.out]
    have hbf := put3_below (x := .int .i64 q.n) (y := .slice B8 q.G.length d8) (z := .int .i64 q.er) HF8.out.f.hb (Nat.le_succ w.heap.size)
    have hrow := put3_row (x := .int .i64 q.n) (y := .slice B8 q.G.length d8) (z := .int .i64 q.er) HR8.out HF8.out.b1
    exact ⟨_, rfl, ⟨B8, d8, rfl, hrow, HN8.out⟩, hbf⟩
  · skip
    have hs : s.xor x y = ({ s with er := 1 }, 0) := by unfold PB.xor; rw [if_neg (by simpa using HZ.out), if_pos hl]
    have HS := hid hs; clear hs
    by_cases h0 : s.lit x
    rotate_left
    · have HX := hid (show ¬ (0 ≤ x ∧ x < litN s.n s.G.length) from fun h => h0 (by rw [HLN.out] at h; exact h))
      clear hl h0
      go_enter Try.func48, Try.ntmps48
      go_wp2_with (first | (go_at_call 54; with_reducible refine (isLiteral_any s.n B s.G.length d x _).mono ?_; rintro e w1 ⟨ht, hb1⟩; obtain rfl := ht.eq_no HX.out; clear ht; have HF := hid ((HF0.out _ _ _).below hb1); have r0 := HF.out.f.r0; have r1 := HF.out.f.r1; have r2 := HF.out.f.r2; have t0 := HF.out.f.t0; have t1 := HF.out.f.t1; have t2 := HF.out.f.t2; have fr0 := HF.out.f.fr 0; have fr1 := HF.out.f.fr 1; have fr2 := HF.out.f.fr 2; have ft0 := HF.out.f.ft 0; have ft1 := HF.out.f.ft 1; have ft2 := HF.out.f.ft 2; have zz := HF.out.f.size; have xx : w.heap.size < w1.heap.size := Nat.lt_of_succ_lt zz; clear hb1))
      refine bodyPost_ret (v := .tuple #[.agg #[.int .i64 s.n, .slice B s.G.length d, .int .i64 1], .int .i64 (0)]) (by simp [results, Try.results48, go_sem, *]) rfl ?_
      rw [HS.out]
      have hbf := put3_below (x := .int .i64 s.n) (y := .slice B s.G.length d) (z := .int .i64 1) (HF.out.f.hb.setCell (p := ⟨w.heap.size, 2, none⟩) (by simp) (.int .i64 1)) (Nat.le_succ w.heap.size)
      exact ⟨_, rfl, ⟨B, d, rfl, HR.out.below hbf, HN.out⟩, hbf⟩
    have HX := hid (show 0 ≤ x ∧ x < litN s.n s.G.length from by rw [HLN.out]; exact h0)
    have HY := hid (show ¬ (0 ≤ y ∧ y < litN s.n s.G.length) from fun h => hl ⟨h0, by rw [HLN.out] at h; exact h⟩)
    clear hl h0
    go_enter Try.func48, Try.ntmps48
    go_wp2_with (first | (go_at_call 54; with_reducible refine (isLiteral_any s.n B s.G.length d x _).mono ?_; rintro e w1 ⟨ht, hb1⟩; obtain rfl := ht.eq_yes HX.out; clear ht; have HF := hid ((HF0.out _ _ _).below hb1); have r0 := HF.out.f.r0; have r1 := HF.out.f.r1; have r2 := HF.out.f.r2; have t0 := HF.out.f.t0; have t1 := HF.out.f.t1; have t2 := HF.out.f.t2; have fr0 := HF.out.f.fr 0; have fr1 := HF.out.f.fr 1; have fr2 := HF.out.f.fr 2; have ft0 := HF.out.f.ft 0; have ft1 := HF.out.f.ft 1; have ft2 := HF.out.f.ft 2; have zz := HF.out.f.size; have xx : w.heap.size < w1.heap.size := Nat.lt_of_succ_lt zz; clear hb1) | (go_at_call 54; with_reducible refine (isLiteral_any s.n B s.G.length d y _).mono ?_; rintro e w1 ⟨ht, hb1⟩; obtain rfl := ht.eq_no HY.out; clear ht; have HF := hid (HF.out.below hb1); have r0 := HF.out.f.r0; have r1 := HF.out.f.r1; have r2 := HF.out.f.r2; have t0 := HF.out.f.t0; have t1 := HF.out.f.t1; have t2 := HF.out.f.t2; have fr0 := HF.out.f.fr 0; have fr1 := HF.out.f.fr 1; have fr2 := HF.out.f.fr 2; have ft0 := HF.out.f.ft 0; have ft1 := HF.out.f.ft 1; have ft2 := HF.out.f.ft 2; have zz := HF.out.f.size; have xx : w.heap.size < w1.heap.size := Nat.lt_of_succ_lt zz; clear hb1))
    refine bodyPost_ret (v := .tuple #[.agg #[.int .i64 s.n, .slice B s.G.length d, .int .i64 1], .int .i64 (0)]) (by simp [results, Try.results48, go_sem, *]) rfl ?_
    rw [HS.out]
    have hbf := put3_below (x := .int .i64 s.n) (y := .slice B s.G.length d) (z := .int .i64 1) (HF.out.f.hb.setCell (p := ⟨w.heap.size, 2, none⟩) (by simp) (.int .i64 1)) (Nat.le_succ w.heap.size)
    exact ⟨_, rfl, ⟨B, d, rfl, HR.out.below hbf, HN.out⟩, hbf⟩

set_option maxHeartbeats 2000000 in
theorem rmux_any {w : World} {s : PB} {v : Value} (hZ : ∀ b, w.heap.size ≤ b → Z b) (hv : RB Z w s v) (hok : s.Ok) (c x y : Int) : Calls Try.prog 49 #[v, .int .i64 c, .int .i64 x, .int .i64 y] w fun e w' => RPost Z w (s.mux c x y) e w' := by
  have hLN := PB.litN_eq hok
  have HLN := hid hLN
  have HOK := hid hok
  have HZZ := hid hZ; clear hZ
  have hsz := hok.size; have hlo := hok.lo; have hhi := hok.hi
  obtain ⟨B, d, rfl, hr, hn⟩ := hv
  have HR := hid hr; have HN := hid hn; clear hr hn hLN
  have HF0 := hid (fun p q r => F7.start w (.int .i64 s.n) (.slice B s.G.length d) (.int .i64 s.er) p q r)
  by_cases h0 : (s.er != 0) = true
  · have hs : s.mux c x y = (s, 0) := by unfold PB.mux; rw [if_pos (by simpa using h0)]
    have HS := hid hs; clear hs
    go_enter Try.func49, Try.ntmps49
    go_wp2
    refine bodyPost_ret (v := .tuple #[.agg #[.int .i64 s.n, .slice B s.G.length d, .int .i64 s.er], .int .i64 (0)]) (by simp [results, Try.results49, go_sem, *]) rfl ?_
    rw [HS.out]
    exact ⟨_, rfl, ⟨B, d, rfl, HR.out.below (b2 _ _ _), HN.out⟩, b2 _ _ _⟩
  have h0' : (s.er != 0) = false := by simpa using h0
  have hz : s.er = 0 := by simpa using h0
  have HZ := hid hz; clear hz h0
  by_cases hl : s.lit c ∧ s.lit x ∧ s.lit y
  · obtain ⟨t, z1, ha1⟩ : ∃ t z, s.and c x = (t, z) := ⟨_, _, rfl⟩
    have hot := PB.and_ok hok c x
    rw [ha1] at hot
    obtain ⟨u, z2, ha2⟩ : ∃ t' z, t.and (notI c) y = (t', z) := ⟨_, _, rfl⟩
    have hou := PB.and_ok hot (notI c) y
    rw [ha2] at hou
    obtain ⟨q, z3, ha3⟩ : ∃ t' z, u.or z1 z2 = (t', z) := ⟨_, _, rfl⟩
    have hx : s.mux c x y = (q, z3) := by unfold PB.mux; rw [if_neg (by simpa using HZ.out), if_neg (fun h => h hl)]; exact both_eq ha1 ha2 ha3
    have HC := hid (show 0 ≤ c ∧ c < litN s.n s.G.length from by rw [HLN.out]; exact hl.1)
    have cb := PB.lit_bd hok hl.1
    obtain ⟨cb0, cb1⟩ := cb
    have HX := hid (show 0 ≤ x ∧ x < litN s.n s.G.length from by rw [HLN.out]; exact hl.2.1)
    have xb := PB.lit_bd hok hl.2.1
    obtain ⟨xb0, xb1⟩ := xb
    have HY := hid (show 0 ≤ y ∧ y < litN s.n s.G.length from by rw [HLN.out]; exact hl.2.2)
    have yb := PB.lit_bd hok hl.2.2
    obtain ⟨yb0, yb1⟩ := yb
    have HA1 := hid ha1; have HA2 := hid ha2; have HA3 := hid ha3; have HX0 := hid hx; have HOT := hid (show t.Ok from hot); have HOU := hid (show u.Ok from hou)
    clear ha1 ha2 ha3 hx hot hou hl
    go_enter Try.func49, Try.ntmps49
    go_wp2_with (first | (go_at_call 54; with_reducible refine (isLiteral_any s.n B s.G.length d c _).mono ?_; rintro e w1 ⟨ht, hb1⟩; obtain rfl := ht.eq_yes HC.out; clear ht; have HF := hid ((HF0.out _ _ _).below hb1); have r0 := HF.out.f.r0; have r1 := HF.out.f.r1; have r2 := HF.out.f.r2; have t0 := HF.out.f.t0; have t1 := HF.out.f.t1; have t2 := HF.out.f.t2; have fr0 := HF.out.f.fr 0; have fr1 := HF.out.f.fr 1; have fr2 := HF.out.f.fr 2; have ft0 := HF.out.f.ft 0; have ft1 := HF.out.f.ft 1; have ft2 := HF.out.f.ft 2; have zz := HF.out.f.size; have xx : w.heap.size < w1.heap.size := Nat.lt_of_succ_lt zz; clear hb1) | (go_at_call 54; with_reducible refine (isLiteral_any s.n B s.G.length d x _).mono ?_; rintro e w1 ⟨ht, hb1⟩; obtain rfl := ht.eq_yes HX.out; clear ht; have HF := hid (HF.out.below hb1); have r0 := HF.out.f.r0; have r1 := HF.out.f.r1; have r2 := HF.out.f.r2; have t0 := HF.out.f.t0; have t1 := HF.out.f.t1; have t2 := HF.out.f.t2; have fr0 := HF.out.f.fr 0; have fr1 := HF.out.f.fr 1; have fr2 := HF.out.f.fr 2; have ft0 := HF.out.f.ft 0; have ft1 := HF.out.f.ft 1; have ft2 := HF.out.f.ft 2; have zz := HF.out.f.size; have xx : w.heap.size < w1.heap.size := Nat.lt_of_succ_lt zz; clear hb1) | (go_at_call 54; with_reducible refine (isLiteral_any s.n B s.G.length d y _).mono ?_; rintro e w1 ⟨ht, hb1⟩; obtain rfl := ht.eq_yes HY.out; clear ht; have HF := hid (HF.out.below hb1); have r0 := HF.out.f.r0; have r1 := HF.out.f.r1; have r2 := HF.out.f.r2; have t0 := HF.out.f.t0; have t1 := HF.out.f.t1; have t2 := HF.out.f.t2; have fr0 := HF.out.f.fr 0; have fr1 := HF.out.f.fr 1; have fr2 := HF.out.f.fr 2; have ft0 := HF.out.f.ft 0; have ft1 := HF.out.f.ft 1; have ft2 := HF.out.f.ft 2; have zz := HF.out.f.size; have xx : w.heap.size < w1.heap.size := Nat.lt_of_succ_lt zz; clear hb1) | (go_at_call 46; refine (rand_any (show ∀ b, w1.heap.size ≤ b → Z b from fun b hb => HZZ.out b (Nat.le_trans HF.out.f.hb.size hb)) (show RB Z w1 s (.agg #[.int .i64 s.n, .slice B s.G.length d, .int .i64 s.er]) from ⟨B, d, rfl, HR.out.below HF.out.f.hb, HN.out⟩) HOK.out c x).mono ?_; rw [HA1.out]; rintro e w4 ⟨v4, rfl, hv4, hb4⟩; obtain ⟨B4, d4, rfl, hr4, hn4⟩ := hv4; have HF4 := hid (HF.out.below hb4); have HR4 := hid hr4; have HN4 := hid hn4; clear hr4 hn4 hb4; have r0 := HF4.out.f.r0; have r1 := HF4.out.f.r1; have r2 := HF4.out.f.r2; have t0 := HF4.out.f.t0; have t1 := HF4.out.f.t1; have t2 := HF4.out.f.t2; have fr0 := HF4.out.f.fr 0; have fr1 := HF4.out.f.fr 1; have fr2 := HF4.out.f.fr 2; have ft0 := HF4.out.f.ft 0; have ft1 := HF4.out.f.ft 1; have ft2 := HF4.out.f.ft 2; have zz := HF4.out.f.size; have xx : w.heap.size < w4.heap.size := Nat.lt_of_succ_lt zz))
    have HF5 := hid (F7.put (a' := .int .i64 t.n) (b' := .slice B4 t.G.length d4) (c' := .int .i64 t.er) HF4.out)
    have HR5 := hid (put3_row (x := .int .i64 t.n) (y := .slice B4 t.G.length d4) (z := .int .i64 t.er) HR4.out HF4.out.b0)
    obtain ⟨w5, hw5⟩ : ∃ w5, w5 = put3 w4 w.heap.size (.int .i64 t.n) (.slice B4 t.G.length d4) (.int .i64 t.er) := ⟨_, rfl⟩
    rw [← hw5] at HF5 HR5
    unfold put3 at hw5
    rw [← hw5]
    clear hw5
    have r0 := HF5.out.f.r0; have r1 := HF5.out.f.r1; have r2 := HF5.out.f.r2; have t0 := HF5.out.f.t0; have t1 := HF5.out.f.t1; have t2 := HF5.out.f.t2; have fr0 := HF5.out.f.fr 0; have fr1 := HF5.out.f.fr 1; have fr2 := HF5.out.f.fr 2; have ft0 := HF5.out.f.ft 0; have ft1 := HF5.out.f.ft 1; have ft2 := HF5.out.f.ft 2; have zz := HF5.out.f.size; have xx : w.heap.size < w5.heap.size := Nat.lt_of_succ_lt zz
    go_wp2_with fail
    refine wp_region_J (fun j => match j with | 2 => some (fun W => W.cell? ⟨w.heap.size, 0, none⟩ = some (.int .i64 t.n) ∧ W.cell? ⟨w.heap.size, 1, none⟩ = some (.slice B4 t.G.length d4) ∧ W.cell? ⟨w.heap.size, 2, none⟩ = some (.int .i64 t.er)) | 4 => some (fun _ => True) | 8 => some (fun _ => True) | _ => none) (by kernel_rfl) ?_
    refine anyJ_take (some 45) (i := 0) (T := fun W => W.cell? ⟨w.heap.size, 0, none⟩ = some (.int .i64 t.n) ∧ W.cell? ⟨w.heap.size, 1, none⟩ = some (.slice B4 t.G.length d4) ∧ W.cell? ⟨w.heap.size, 2, none⟩ = some (.int .i64 t.er)) (v := ?_) rfl rfl (by kernel_rfl) (by kernel_rfl) (by kernel_rfl) (fun _ _ _ h => h) (js := [2]) (by kernel_rfl) (Leads.cons _ rfl (fun w h => h) Leads.nil) rfl (Or.inl ⟨by rfl, ?_⟩) (⟨by go_simp, by go_simp, by go_simp⟩) ?_
    rotate_left
    · (intro wL hSw; (try dsimp only at hSw); go_simp; try with_reducible rfl)
    try simp only [Act.put, List.setIfInBounds_toArray, List.set_cons_zero, List.set_cons_succ]
    refine anyJ_take (some 46) (i := 1) (T := fun _ => True) (v := ?_) rfl rfl (by kernel_rfl) (by kernel_rfl) (by kernel_rfl) (fun _ _ _ h => h) (js := []) (by kernel_rfl) Leads.true rfl (Or.inl ⟨by rfl, ?_⟩) trivial ?_
    rotate_left
    · (intro wL hSw; (try dsimp only at hSw); go_simp; try with_reducible rfl)
    try simp only [Act.put, List.setIfInBounds_toArray, List.set_cons_zero, List.set_cons_succ]
    refine anyJ_take (some 48) (i := 3) (T := fun _ => True) (v := ?_) rfl rfl (by kernel_rfl) (by kernel_rfl) (by kernel_rfl) (fun _ _ _ h => h) (js := [2]) (by kernel_rfl) Leads.true rfl (Or.inl ⟨by rfl, ?_⟩) trivial ?_
    rotate_left
    · (intro wL hSw; (try dsimp only at hSw); go_simp; try with_reducible rfl)
    try simp only [Act.put, List.setIfInBounds_toArray, List.set_cons_zero, List.set_cons_succ]
    refine anyJ_one (i := 2) (oi := { dst := some 47, op := Go.Op.call { callee := Go.Callee.value (Go.Operand.func 28), args := #[Go.Operand.tmp 46], argTypes := #[3] }, type := 3, pos := "ref.go:119", after := #[{ on := 1, ground := Go.Ground.data }], guard := none }) rfl (by kernel_rfl) (by rfl) (fun K hK => ?_)
    go_simp
    refine (rnot_any c _ (by omega) (by omega)).mono ?_
    rintro e w9 ⟨rfl, hw9⟩; rw [hw9]; clear hw9 w9
    refine hK.out _ _ (by dsimp only [Obl]; exact ⟨by go_simp, by go_simp, by go_simp⟩) ?_
    clear hK K
    try simp only [Act.put, List.setIfInBounds_toArray, List.set_cons_zero, List.set_cons_succ]
    refine anyJ_one (i := 4) (oi := { dst := some 49, op := Go.Op.call { callee := Go.Callee.value (Go.Operand.func 46), args := #[Go.Operand.tmp 45, Go.Operand.tmp 47, Go.Operand.tmp 48], argTypes := #[52, 3, 3] }, type := 55, pos := "ref.go:119", after := #[{ on := 0, ground := Go.Ground.data }, { on := 2, ground := Go.Ground.data }, { on := 3, ground := Go.Ground.data }, { on := 2, ground := Go.Ground.chain }], guard := none }) rfl (by kernel_rfl) (by rfl) (fun K hK => ?_)
    go_simp
    have hrb : RB Z w5.drew t (.agg #[.int .i64 t.n, .slice B4 t.G.length d4, .int .i64 t.er]) := ⟨B4, d4, rfl, rrow_drew HR5.out, HN4.out⟩
    refine (rand_any (show ∀ b, w5.drew.heap.size ≤ b → Z b from fun b hb => HZZ.out b (Nat.le_trans HF5.out.f.hb.size hb)) hrb HOT.out (notI c) y).mono ?_
    rw [HA2.out]
    rintro e w6 ⟨v6, rfl, hv6, hb6⟩
    obtain ⟨B6, d6, rfl, hr6, hn6⟩ := hv6
    have HF6 := hid (HF5.out.below (bthen (below_drew' w5) hb6))
    have HR6 := hid hr6; have HN6 := hid hn6; clear hr6 hn6 hb6 hrb
    have r0 := HF6.out.f.r0; have r1 := HF6.out.f.r1; have r2 := HF6.out.f.r2; have t0 := HF6.out.f.t0; have t1 := HF6.out.f.t1; have t2 := HF6.out.f.t2; have fr0 := HF6.out.f.fr 0; have fr1 := HF6.out.f.fr 1; have fr2 := HF6.out.f.fr 2; have ft0 := HF6.out.f.ft 0; have ft1 := HF6.out.f.ft 1; have ft2 := HF6.out.f.ft 2; have zz := HF6.out.f.size; have xx : w.heap.size < w6.heap.size := Nat.lt_of_succ_lt zz
    refine hK.out _ _ trivial ?_
    clear hK K
    try simp only [Act.put, List.setIfInBounds_toArray, List.set_cons_zero, List.set_cons_succ]
    refine anyJ_take (some 44) (i := 5) (T := fun _ => True) (v := ?_) rfl rfl (by kernel_rfl) (by kernel_rfl) (by kernel_rfl) (fun _ _ _ h => h) (js := [2, 4]) (by kernel_rfl) Leads.true rfl (Or.inl ⟨by rfl, ?_⟩) trivial ?_
    rotate_left
    · (intro wL hSw; (try dsimp only at hSw); go_simp; try with_reducible rfl)
    try simp only [Act.put, List.setIfInBounds_toArray, List.set_cons_zero, List.set_cons_succ]
    refine anyJ_take (some 50) (i := 6) (T := fun _ => True) (v := ?_) rfl rfl (by kernel_rfl) (by kernel_rfl) (by kernel_rfl) (fun _ _ _ h => h) (js := [2, 4]) (by kernel_rfl) Leads.true rfl (Or.inl ⟨by rfl, ?_⟩) trivial ?_
    rotate_left
    · (intro wL hSw; (try dsimp only at hSw); go_simp; try with_reducible rfl)
    try simp only [Act.put, List.setIfInBounds_toArray, List.set_cons_zero, List.set_cons_succ]
    refine anyJ_take (some 51) (i := 7) (T := fun _ => True) (v := ?_) rfl rfl (by kernel_rfl) (by kernel_rfl) (by kernel_rfl) (fun _ _ _ h => h) (js := [2, 4, 8]) (by kernel_rfl) Leads.true rfl (Or.inl ⟨by rfl, ?_⟩) trivial ?_
    rotate_left
    · (intro wL hSw; (try dsimp only at hSw); go_simp; try with_reducible rfl)
    try simp only [Act.put, List.setIfInBounds_toArray, List.set_cons_zero, List.set_cons_succ]
    refine anyJ_one (i := 8) (oi := { dst := none, op := Go.Op.store 52 (Go.Operand.tmp 4) (Go.Operand.tmp 50), type := 0, pos := "ref.go:119", after := #[{ on := 6, ground := Go.Ground.data }, { on := 4, ground := Go.Ground.chain }, { on := 0, ground := Go.Ground.phase }, { on := 1, ground := Go.Ground.phase }, { on := 2, ground := Go.Ground.phase }, { on := 3, ground := Go.Ground.phase }, { on := 4, ground := Go.Ground.phase }, { on := 5, ground := Go.Ground.phase }, { on := 6, ground := Go.Ground.phase }, { on := 7, ground := Go.Ground.textOnly Go.Departure.lateStores }], guard := none }) rfl (by kernel_rfl) (by rfl) (fun K hK => ?_)
    go_simp
    refine hK.out _ _ trivial ?_
    clear hK K
    try simp only [Act.put, List.setIfInBounds_toArray, List.set_cons_zero, List.set_cons_succ]
    refine anyJ_take (some 11) (i := 9) (T := fun _ => True) (v := ?_) rfl rfl (by kernel_rfl) (by kernel_rfl) (by kernel_rfl) (fun _ _ _ h => h) (js := [2, 4, 8]) (by kernel_rfl) Leads.true rfl (Or.inl ⟨by rfl, ?_⟩) trivial ?_
    rotate_left
    · (intro wL hSw; (try dsimp only at hSw); go_simp; try with_reducible rfl)
    try simp only [Act.put, List.setIfInBounds_toArray, List.set_cons_zero, List.set_cons_succ]
    refine anyJ_done (by kernel_rfl) ?_
    go_wp2_with fail
    have HF7 := hid (F7.put (a' := .int .i64 u.n) (b' := .slice B6 u.G.length d6) (c' := .int .i64 u.er) HF6.out)
    have HR7 := hid (put3_row (x := .int .i64 u.n) (y := .slice B6 u.G.length d6) (z := .int .i64 u.er) HR6.out HF6.out.b0)
    obtain ⟨w7, hw7⟩ : ∃ w7, w7 = put3 w6 w.heap.size (.int .i64 u.n) (.slice B6 u.G.length d6) (.int .i64 u.er) := ⟨_, rfl⟩
    rw [← hw7] at HF7 HR7
    unfold put3 at hw7
    rw [← hw7]
    clear hw7
    have r0 := HF7.out.f.r0; have r1 := HF7.out.f.r1; have r2 := HF7.out.f.r2; have t0 := HF7.out.f.t0; have t1 := HF7.out.f.t1; have t2 := HF7.out.f.t2; have fr0 := HF7.out.f.fr 0; have fr1 := HF7.out.f.fr 1; have fr2 := HF7.out.f.fr 2; have ft0 := HF7.out.f.ft 0; have ft1 := HF7.out.f.ft 1; have ft2 := HF7.out.f.ft 2; have zz := HF7.out.f.size; have xx : w.heap.size < w7.heap.size := Nat.lt_of_succ_lt zz
    go_wp2_with (go_at_call 47; refine (ror_any (show ∀ b, w7.heap.size ≤ b → Z b from fun b hb => HZZ.out b (Nat.le_trans HF7.out.f.hb.size hb)) (show RB Z w7 u (.agg #[.int .i64 u.n, .slice B6 u.G.length d6, .int .i64 u.er]) from ⟨B6, d6, rfl, HR7.out, HN6.out⟩) HOU.out z1 z2).mono ?_; rw [HA3.out]; rintro e w8 ⟨v8, rfl, hv8, hb8⟩; obtain ⟨B8, d8, rfl, hr8, hn8⟩ := hv8; have HF8 := hid (HF7.out.below hb8); have HR8 := hid hr8; have HN8 := hid hn8; clear hr8 hn8 hb8; have r0 := HF8.out.f.r0; have r1 := HF8.out.f.r1; have r2 := HF8.out.f.r2; have t0 := HF8.out.f.t0; have t1 := HF8.out.f.t1; have t2 := HF8.out.f.t2; have fr0 := HF8.out.f.fr 0; have fr1 := HF8.out.f.fr 1; have fr2 := HF8.out.f.fr 2; have ft0 := HF8.out.f.ft 0; have ft1 := HF8.out.f.ft 1; have ft2 := HF8.out.f.ft 2; have zz := HF8.out.f.size; have xx : w.heap.size < w8.heap.size := Nat.lt_of_succ_lt zz)
    refine bodyPost_ret (v := .tuple #[.agg #[.int .i64 q.n, .slice B8 q.G.length d8, .int .i64 q.er], .int .i64 (z3)]) (by simp [results, Try.results49, go_sem, *]) rfl ?_
    rw [HX0.out]
    have hbf := put3_below (x := .int .i64 q.n) (y := .slice B8 q.G.length d8) (z := .int .i64 q.er) HF8.out.f.hb (Nat.le_succ w.heap.size)
    have hrow := put3_row (x := .int .i64 q.n) (y := .slice B8 q.G.length d8) (z := .int .i64 q.er) HR8.out HF8.out.b1
    exact ⟨_, rfl, ⟨B8, d8, rfl, hrow, HN8.out⟩, hbf⟩
  · skip
    have hs : s.mux c x y = ({ s with er := 1 }, 0) := by unfold PB.mux; rw [if_neg (by simpa using HZ.out), if_pos hl]
    have HS := hid hs; clear hs
    by_cases h0 : s.lit c
    rotate_left
    · have HC := hid (show ¬ (0 ≤ c ∧ c < litN s.n s.G.length) from fun h => h0 (by rw [HLN.out] at h; exact h))
      clear hl h0
      go_enter Try.func49, Try.ntmps49
      go_wp2_with (first | (go_at_call 54; with_reducible refine (isLiteral_any s.n B s.G.length d c _).mono ?_; rintro e w1 ⟨ht, hb1⟩; obtain rfl := ht.eq_no HC.out; clear ht; have HF := hid ((HF0.out _ _ _).below hb1); have r0 := HF.out.f.r0; have r1 := HF.out.f.r1; have r2 := HF.out.f.r2; have t0 := HF.out.f.t0; have t1 := HF.out.f.t1; have t2 := HF.out.f.t2; have fr0 := HF.out.f.fr 0; have fr1 := HF.out.f.fr 1; have fr2 := HF.out.f.fr 2; have ft0 := HF.out.f.ft 0; have ft1 := HF.out.f.ft 1; have ft2 := HF.out.f.ft 2; have zz := HF.out.f.size; have xx : w.heap.size < w1.heap.size := Nat.lt_of_succ_lt zz; clear hb1))
      refine bodyPost_ret (v := .tuple #[.agg #[.int .i64 s.n, .slice B s.G.length d, .int .i64 1], .int .i64 (0)]) (by simp [results, Try.results49, go_sem, *]) rfl ?_
      rw [HS.out]
      have hbf := put3_below (x := .int .i64 s.n) (y := .slice B s.G.length d) (z := .int .i64 1) (HF.out.f.hb.setCell (p := ⟨w.heap.size, 2, none⟩) (by simp) (.int .i64 1)) (Nat.le_succ w.heap.size)
      exact ⟨_, rfl, ⟨B, d, rfl, HR.out.below hbf, HN.out⟩, hbf⟩
    by_cases h1 : s.lit x
    rotate_left
    · have HC := hid (show 0 ≤ c ∧ c < litN s.n s.G.length from by rw [HLN.out]; exact h0)
      have HX := hid (show ¬ (0 ≤ x ∧ x < litN s.n s.G.length) from fun h => h1 (by rw [HLN.out] at h; exact h))
      clear hl h0 h1
      go_enter Try.func49, Try.ntmps49
      go_wp2_with (first | (go_at_call 54; with_reducible refine (isLiteral_any s.n B s.G.length d c _).mono ?_; rintro e w1 ⟨ht, hb1⟩; obtain rfl := ht.eq_yes HC.out; clear ht; have HF := hid ((HF0.out _ _ _).below hb1); have r0 := HF.out.f.r0; have r1 := HF.out.f.r1; have r2 := HF.out.f.r2; have t0 := HF.out.f.t0; have t1 := HF.out.f.t1; have t2 := HF.out.f.t2; have fr0 := HF.out.f.fr 0; have fr1 := HF.out.f.fr 1; have fr2 := HF.out.f.fr 2; have ft0 := HF.out.f.ft 0; have ft1 := HF.out.f.ft 1; have ft2 := HF.out.f.ft 2; have zz := HF.out.f.size; have xx : w.heap.size < w1.heap.size := Nat.lt_of_succ_lt zz; clear hb1) | (go_at_call 54; with_reducible refine (isLiteral_any s.n B s.G.length d x _).mono ?_; rintro e w1 ⟨ht, hb1⟩; obtain rfl := ht.eq_no HX.out; clear ht; have HF := hid (HF.out.below hb1); have r0 := HF.out.f.r0; have r1 := HF.out.f.r1; have r2 := HF.out.f.r2; have t0 := HF.out.f.t0; have t1 := HF.out.f.t1; have t2 := HF.out.f.t2; have fr0 := HF.out.f.fr 0; have fr1 := HF.out.f.fr 1; have fr2 := HF.out.f.fr 2; have ft0 := HF.out.f.ft 0; have ft1 := HF.out.f.ft 1; have ft2 := HF.out.f.ft 2; have zz := HF.out.f.size; have xx : w.heap.size < w1.heap.size := Nat.lt_of_succ_lt zz; clear hb1))
      refine bodyPost_ret (v := .tuple #[.agg #[.int .i64 s.n, .slice B s.G.length d, .int .i64 1], .int .i64 (0)]) (by simp [results, Try.results49, go_sem, *]) rfl ?_
      rw [HS.out]
      have hbf := put3_below (x := .int .i64 s.n) (y := .slice B s.G.length d) (z := .int .i64 1) (HF.out.f.hb.setCell (p := ⟨w.heap.size, 2, none⟩) (by simp) (.int .i64 1)) (Nat.le_succ w.heap.size)
      exact ⟨_, rfl, ⟨B, d, rfl, HR.out.below hbf, HN.out⟩, hbf⟩
    have HC := hid (show 0 ≤ c ∧ c < litN s.n s.G.length from by rw [HLN.out]; exact h0)
    have HX := hid (show 0 ≤ x ∧ x < litN s.n s.G.length from by rw [HLN.out]; exact h1)
    have HY := hid (show ¬ (0 ≤ y ∧ y < litN s.n s.G.length) from fun h => hl ⟨h0, h1, by rw [HLN.out] at h; exact h⟩)
    clear hl h0 h1
    go_enter Try.func49, Try.ntmps49
    go_wp2_with (first | (go_at_call 54; with_reducible refine (isLiteral_any s.n B s.G.length d c _).mono ?_; rintro e w1 ⟨ht, hb1⟩; obtain rfl := ht.eq_yes HC.out; clear ht; have HF := hid ((HF0.out _ _ _).below hb1); have r0 := HF.out.f.r0; have r1 := HF.out.f.r1; have r2 := HF.out.f.r2; have t0 := HF.out.f.t0; have t1 := HF.out.f.t1; have t2 := HF.out.f.t2; have fr0 := HF.out.f.fr 0; have fr1 := HF.out.f.fr 1; have fr2 := HF.out.f.fr 2; have ft0 := HF.out.f.ft 0; have ft1 := HF.out.f.ft 1; have ft2 := HF.out.f.ft 2; have zz := HF.out.f.size; have xx : w.heap.size < w1.heap.size := Nat.lt_of_succ_lt zz; clear hb1) | (go_at_call 54; with_reducible refine (isLiteral_any s.n B s.G.length d x _).mono ?_; rintro e w1 ⟨ht, hb1⟩; obtain rfl := ht.eq_yes HX.out; clear ht; have HF := hid (HF.out.below hb1); have r0 := HF.out.f.r0; have r1 := HF.out.f.r1; have r2 := HF.out.f.r2; have t0 := HF.out.f.t0; have t1 := HF.out.f.t1; have t2 := HF.out.f.t2; have fr0 := HF.out.f.fr 0; have fr1 := HF.out.f.fr 1; have fr2 := HF.out.f.fr 2; have ft0 := HF.out.f.ft 0; have ft1 := HF.out.f.ft 1; have ft2 := HF.out.f.ft 2; have zz := HF.out.f.size; have xx : w.heap.size < w1.heap.size := Nat.lt_of_succ_lt zz; clear hb1) | (go_at_call 54; with_reducible refine (isLiteral_any s.n B s.G.length d y _).mono ?_; rintro e w1 ⟨ht, hb1⟩; obtain rfl := ht.eq_no HY.out; clear ht; have HF := hid (HF.out.below hb1); have r0 := HF.out.f.r0; have r1 := HF.out.f.r1; have r2 := HF.out.f.r2; have t0 := HF.out.f.t0; have t1 := HF.out.f.t1; have t2 := HF.out.f.t2; have fr0 := HF.out.f.fr 0; have fr1 := HF.out.f.fr 1; have fr2 := HF.out.f.fr 2; have ft0 := HF.out.f.ft 0; have ft1 := HF.out.f.ft 1; have ft2 := HF.out.f.ft 2; have zz := HF.out.f.size; have xx : w.heap.size < w1.heap.size := Nat.lt_of_succ_lt zz; clear hb1))
    refine bodyPost_ret (v := .tuple #[.agg #[.int .i64 s.n, .slice B s.G.length d, .int .i64 1], .int .i64 (0)]) (by simp [results, Try.results49, go_sem, *]) rfl ?_
    rw [HS.out]
    have hbf := put3_below (x := .int .i64 s.n) (y := .slice B s.G.length d) (z := .int .i64 1) (HF.out.f.hb.setCell (p := ⟨w.heap.size, 2, none⟩) (by simp) (.int .i64 1)) (Nat.le_succ w.heap.size)
    exact ⟨_, rfl, ⟨B, d, rfl, HR.out.below hbf, HN.out⟩, hbf⟩

end Go.Proofs.Ytelbjendeldlcaa
