/- The reference builder's Or. -/
import Derived.Test.YtelbjendeldlcaaAD
namespace Go.Proofs.Ytelbjendeldlcaa
open Go.RowKit
variable {Z : Nat → Prop}

structure F7 (w W : World) (a b c p q r : Value) : Prop where
  f : F6 w W a b c p q r
  b0 : BB W w.heap.size
  b1 : BB W (w.heap.size + 1)
theorem F7.below {w W W' : World} {a b c p q r : Value} (h : F7 w W a b c p q r) (hb : Below W.heap.size W W') : F7 w W' a b c p q r := ⟨h.f.below hb, h.b0.below hb, h.b1.below hb⟩
theorem F7.start (w : World) (a b c p q r : Value) : F7 w ((w.alloc (.cells #[a, b, c] 52)).alloc (.cells #[p, q, r] 52)) a b c p q r := by
  have hb : BB (w.alloc (.cells #[a, b, c] 52)) w.heap.size := ⟨_, _, heap_alloc_new w _⟩
  refine ⟨F6.start _ _ _ _ _ _ _ _ _, hb.below (below_alloc _ _), ?_⟩
  have e : w.heap.size + 1 = (w.alloc (.cells #[a, b, c] 52)).heap.size := by simp
  rw [e]; exact ⟨_, _, heap_alloc_new _ _⟩
/-- three stores into a box of builders -/
def put3 (W : World) (b : Nat) (x y z : Value) : World := ((W.setCell ⟨b, 0, none⟩ x).setCell ⟨b, 1, none⟩ y).setCell ⟨b, 2, none⟩ z
theorem put3_row {W : World} {A : Option Addr} {cs : List Value} {b : Nat} {x y z : Value} (h : RRow Z W A cs) (hb : BB W b) : RRow Z (put3 W b x y z) A cs :=
  ((h.set 0 x hb).set 1 y (hb.set 0 x hb)).set 2 z ((hb.set 0 x hb).set 1 y (hb.set 0 x hb))
theorem put3_bb {W : World} {b b' : Nat} {x y z : Value} (hb : BB W b) (h : BB W b') : BB (put3 W b x y z) b' :=
  BB.set 2 z (BB.set 1 y (BB.set 0 x hb hb) (BB.set 0 x hb hb)) (BB.set 1 y (BB.set 0 x hb hb) (BB.set 0 x hb h))
theorem put3_below {B : Nat} {w W : World} {b : Nat} {x y z : Value} (h : Below B w W) (hb : B ≤ b) : Below B w (put3 W b x y z) :=
  ((h.setCell (p := ⟨b, 0, none⟩) hb x).setCell (p := ⟨b, 1, none⟩) hb y).setCell (p := ⟨b, 2, none⟩) hb z
theorem rrow_drew {W : World} {A : Option Addr} {cs : List Value} (h : RRow Z W A cs) : RRow Z W.drew A cs := h.below (below_drew' W)
theorem rand_any {w : World} {s : PB} {v : Value} (hZ : ∀ b, w.heap.size ≤ b → Z b) (hv : RB Z w s v) (hok : s.Ok) (x y : Int) : Calls Try.prog 46 #[v, .int .i64 x, .int .i64 y] w fun e w' => RPost Z w (s.and x y) e w' := by
  by_cases h : s.er ≠ 0 ∨ ¬ (s.lit x ∧ s.lit y) ∨ x = 0 ∨ y = 0 ∨ x = notI y ∨ x = 1 ∨ x = y ∨ y = 1
  · exact rand_early hv hok x y h
  · have h' := h
    simp only [not_or, Decidable.not_not] at h'
    obtain ⟨a, b, c, d, e, f, g, i⟩ := h'
    exact rand_late hZ hv hok x y a b (by rintro (h1 | h1 | h1) <;> contradiction) (by rintro (h1 | h1) <;> contradiction) i

set_option maxHeartbeats 2000000 in
theorem ror_any {w : World} {s : PB} {v : Value} (hZ : ∀ b, w.heap.size ≤ b → Z b) (hv : RB Z w s v) (hok : s.Ok) (x y : Int) : Calls Try.prog 47 #[v, .int .i64 x, .int .i64 y] w fun e w' => RPost Z w (s.or x y) e w' := by
  have hLN := PB.litN_eq hok
  have HLN := hid hLN
  have HOK := hid hok
  have HZZ := hid hZ; clear hZ
  have hsz := hok.size; have hlo := hok.lo; have hhi := hok.hi
  obtain ⟨B, d, rfl, hr, hn⟩ := hv
  have HR := hid hr; have HN := hid hn; clear hr hn hLN
  have HF0 := hid (fun p q r => F7.start w (.int .i64 s.n) (.slice B s.G.length d) (.int .i64 s.er) p q r)
  by_cases h0 : (s.er != 0) = true
  · have hs : s.or x y = (s, 0) := by unfold PB.or; rw [if_pos (by simpa using h0)]
    have HS := hid hs; clear hs
    go_enter Try.func47, Try.ntmps47
    go_wp2
    refine bodyPost_ret (v := .tuple #[.agg #[.int .i64 s.n, .slice B s.G.length d, .int .i64 s.er], .int .i64 (0)]) (by simp [results, Try.results47, go_sem, *]) rfl ?_
    rw [HS.out]
    exact ⟨_, rfl, ⟨B, d, rfl, HR.out.below (b2 _ _ _), HN.out⟩, b2 _ _ _⟩
  have h0' : (s.er != 0) = false := by simpa using h0
  have hz : s.er = 0 := by simpa using h0
  have HZ := hid hz; clear hz h0
  by_cases hl : s.lit x ∧ s.lit y
  · have HX := hid (show 0 ≤ x ∧ x < litN s.n s.G.length from by rw [HLN.out]; exact hl.1)
    have HY := hid (show 0 ≤ y ∧ y < litN s.n s.G.length from by rw [HLN.out]; exact hl.2)
    have xb := PB.lit_bd hok hl.1; have yb := PB.lit_bd hok hl.2
    obtain ⟨xb0, xb1⟩ := xb
    obtain ⟨yb0, yb1⟩ := yb
    obtain ⟨t, z, hand⟩ : ∃ t z, s.and (notI x) (notI y) = (t, z) := ⟨_, _, rfl⟩
    have zb := PB.and_bd hok (notI x) (notI y)
    rw [hand] at zb
    obtain ⟨zb0, zb1⟩ := zb
    simp only [] at zb0 zb1
    have hor : s.or x y = (t, t.settle (notI z)) := by unfold PB.or; rw [if_neg (by simpa using HZ.out), if_neg (fun h => h hl), hand]
    have HAND := hid hand; have HOR := hid hor; clear hand hor hl
    by_cases hte : t.er = 0
    · have g5 : (t.er != 0) = false := by simp [hte]
      have hset : t.settle (notI z) = notI z := by unfold PB.settle; rw [if_neg (by simpa using hte)]
      have HSET := hid hset; clear hset hte
      go_enter Try.func47, Try.ntmps47
      go_wp2_with (first | (go_at_call 54; with_reducible refine (isLiteral_any s.n B s.G.length d x _).mono ?_; rintro e w1 ⟨ht, hb1⟩; obtain rfl := ht.eq_yes HX.out; clear ht; have HF := hid ((HF0.out _ _ _).below hb1); have r0 := HF.out.f.r0; have r1 := HF.out.f.r1; have r2 := HF.out.f.r2; have t0 := HF.out.f.t0; have t1 := HF.out.f.t1; have t2 := HF.out.f.t2; have fr0 := HF.out.f.fr 0; have fr1 := HF.out.f.fr 1; have fr2 := HF.out.f.fr 2; have ft0 := HF.out.f.ft 0; have ft1 := HF.out.f.ft 1; have ft2 := HF.out.f.ft 2; have zz := HF.out.f.size; have xx : w.heap.size < w1.heap.size := Nat.lt_of_succ_lt zz; clear hb1) | (go_at_call 54; with_reducible refine (isLiteral_any s.n B s.G.length d y _).mono ?_; rintro e w1 ⟨ht, hb1⟩; obtain rfl := ht.eq_yes HY.out; clear ht; have HF := hid (HF.out.below hb1); have r0 := HF.out.f.r0; have r1 := HF.out.f.r1; have r2 := HF.out.f.r2; have t0 := HF.out.f.t0; have t1 := HF.out.f.t1; have t2 := HF.out.f.t2; have fr0 := HF.out.f.fr 0; have fr1 := HF.out.f.fr 1; have fr2 := HF.out.f.fr 2; have ft0 := HF.out.f.ft 0; have ft1 := HF.out.f.ft 1; have ft2 := HF.out.f.ft 2; have zz := HF.out.f.size; have xx : w.heap.size < w1.heap.size := Nat.lt_of_succ_lt zz; clear hb1))
      refine wp_region_J (fun j => match j with | 2 => some (fun W => W.cell? ⟨w.heap.size, 0, none⟩ = some (.int .i64 s.n) ∧ W.cell? ⟨w.heap.size, 1, none⟩ = some (.slice B s.G.length d) ∧ W.cell? ⟨w.heap.size, 2, none⟩ = some (.int .i64 s.er)) | 4 => some (fun W => W.cell? ⟨w.heap.size, 0, none⟩ = some (.int .i64 s.n) ∧ W.cell? ⟨w.heap.size, 1, none⟩ = some (.slice B s.G.length d) ∧ W.cell? ⟨w.heap.size, 2, none⟩ = some (.int .i64 s.er)) | 5 => some (fun _ => True) | 9 => some (fun _ => True) | _ => none) (by kernel_rfl) ?_
      refine anyJ_take (some 28) (i := 0) (T := fun W => W.cell? ⟨w.heap.size, 0, none⟩ = some (.int .i64 s.n) ∧ W.cell? ⟨w.heap.size, 1, none⟩ = some (.slice B s.G.length d) ∧ W.cell? ⟨w.heap.size, 2, none⟩ = some (.int .i64 s.er)) (v := ?_) rfl rfl (by kernel_rfl) (by kernel_rfl) (by kernel_rfl) (fun _ _ _ h => h) (js := [2, 4]) (by kernel_rfl) (Leads.cons _ rfl (fun w h => h) (Leads.cons _ rfl (fun w h => h) Leads.nil)) rfl (Or.inl ⟨by rfl, ?_⟩) (⟨by go_simp, by go_simp, by go_simp⟩) ?_
      rotate_left
      · (intro wL hSw; (try dsimp only at hSw); go_simp; try with_reducible rfl)
      try simp only [Act.put, List.setIfInBounds_toArray, List.set_cons_zero, List.set_cons_succ]
      refine anyJ_take (some 29) (i := 1) (T := fun _ => True) (v := ?_) rfl rfl (by kernel_rfl) (by kernel_rfl) (by kernel_rfl) (fun _ _ _ h => h) (js := []) (by kernel_rfl) Leads.true rfl (Or.inl ⟨by rfl, ?_⟩) trivial ?_
      rotate_left
      · (intro wL hSw; (try dsimp only at hSw); go_simp; try with_reducible rfl)
      try simp only [Act.put, List.setIfInBounds_toArray, List.set_cons_zero, List.set_cons_succ]
      refine anyJ_take (some 31) (i := 3) (T := fun _ => True) (v := ?_) rfl rfl (by kernel_rfl) (by kernel_rfl) (by kernel_rfl) (fun _ _ _ h => h) (js := [2]) (by kernel_rfl) Leads.true rfl (Or.inl ⟨by rfl, ?_⟩) trivial ?_
      rotate_left
      · (intro wL hSw; (try dsimp only at hSw); go_simp; try with_reducible rfl)
      try simp only [Act.put, List.setIfInBounds_toArray, List.set_cons_zero, List.set_cons_succ]
      refine anyJ_one (i := 2) (oi := { dst := some 30, op := Go.Op.call { callee := Go.Callee.value (Go.Operand.func 28), args := #[Go.Operand.tmp 29], argTypes := #[3] }, type := 3, pos := "ref.go:88", after := #[{ on := 1, ground := Go.Ground.data }], guard := none }) rfl (by kernel_rfl) (by rfl) (fun K hK => ?_)
      go_simp
      refine (rnot_any x _ (by omega) (by omega)).mono ?_
      rintro e w9 ⟨rfl, hw9⟩; rw [hw9]; clear hw9 w9
      refine hK.out _ _ (by dsimp only [Obl]; exact ⟨by go_simp, by go_simp, by go_simp⟩) ?_
      clear hK K
      try simp only [Act.put, List.setIfInBounds_toArray, List.set_cons_zero, List.set_cons_succ]
      refine anyJ_one (i := 4) (oi := { dst := some 32, op := Go.Op.call { callee := Go.Callee.value (Go.Operand.func 28), args := #[Go.Operand.tmp 31], argTypes := #[3] }, type := 3, pos := "ref.go:88", after := #[{ on := 3, ground := Go.Ground.data }, { on := 2, ground := Go.Ground.chain }], guard := none }) rfl (by kernel_rfl) (by rfl) (fun K hK => ?_)
      go_simp
      refine (rnot_any y _ (by omega) (by omega)).mono ?_
      rintro e w9 ⟨rfl, hw9⟩; rw [hw9]; clear hw9 w9
      refine hK.out _ _ (by dsimp only [Obl]; exact ⟨by go_simp, by go_simp, by go_simp⟩) ?_
      clear hK K
      try simp only [Act.put, List.setIfInBounds_toArray, List.set_cons_zero, List.set_cons_succ]
      refine anyJ_one (i := 5) (oi := { dst := some 33, op := Go.Op.call { callee := Go.Callee.value (Go.Operand.func 46), args := #[Go.Operand.tmp 28, Go.Operand.tmp 30, Go.Operand.tmp 32], argTypes := #[52, 3, 3] }, type := 55, pos := "ref.go:88", after := #[{ on := 0, ground := Go.Ground.data }, { on := 2, ground := Go.Ground.data }, { on := 4, ground := Go.Ground.data }, { on := 4, ground := Go.Ground.chain }], guard := none }) rfl (by kernel_rfl) (by rfl) (fun K hK => ?_)
      go_simp
      have hrb : RB Z w1.drew s (.agg #[.int .i64 s.n, .slice B s.G.length d, .int .i64 s.er]) := ⟨B, d, rfl, HR.out.below (bthen HF.out.f.hb (below_drew' w1)), HN.out⟩
      refine (rand_any (show ∀ b, w1.drew.heap.size ≤ b → Z b from fun b hb => HZZ.out b (Nat.le_trans HF.out.f.hb.size hb)) hrb HOK.out (notI x) (notI y)).mono ?_
      rw [HAND.out]
      rintro e w4 ⟨v4, rfl, hv4, hb4⟩
      obtain ⟨B4, d4, rfl, hr4, hn4⟩ := hv4
      have HF4 := hid (HF.out.below (bthen (below_drew' w1) hb4))
      have HR4 := hid hr4; have HN4 := hid hn4; clear hr4 hn4 hb4 hrb
      have r0 := HF4.out.f.r0; have r1 := HF4.out.f.r1; have r2 := HF4.out.f.r2; have t0 := HF4.out.f.t0; have t1 := HF4.out.f.t1; have t2 := HF4.out.f.t2; have fr0 := HF4.out.f.fr 0; have fr1 := HF4.out.f.fr 1; have fr2 := HF4.out.f.fr 2; have ft0 := HF4.out.f.ft 0; have ft1 := HF4.out.f.ft 1; have ft2 := HF4.out.f.ft 2; have zz := HF4.out.f.size; have xx : w.heap.size < w4.heap.size := Nat.lt_of_succ_lt zz
      refine hK.out _ _ trivial ?_
      clear hK K
      try simp only [Act.put, List.setIfInBounds_toArray, List.set_cons_zero, List.set_cons_succ]
      refine anyJ_take (some 27) (i := 6) (T := fun _ => True) (v := ?_) rfl rfl (by kernel_rfl) (by kernel_rfl) (by kernel_rfl) (fun _ _ _ h => h) (js := [2, 4, 5]) (by kernel_rfl) Leads.true rfl (Or.inl ⟨by rfl, ?_⟩) trivial ?_
      rotate_left
      · (intro wL hSw; (try dsimp only at hSw); go_simp; try with_reducible rfl)
      try simp only [Act.put, List.setIfInBounds_toArray, List.set_cons_zero, List.set_cons_succ]
      refine anyJ_take (some 34) (i := 7) (T := fun _ => True) (v := ?_) rfl rfl (by kernel_rfl) (by kernel_rfl) (by kernel_rfl) (fun _ _ _ h => h) (js := [2, 4, 5]) (by kernel_rfl) Leads.true rfl (Or.inl ⟨by rfl, ?_⟩) trivial ?_
      rotate_left
      · (intro wL hSw; (try dsimp only at hSw); go_simp; try with_reducible rfl)
      try simp only [Act.put, List.setIfInBounds_toArray, List.set_cons_zero, List.set_cons_succ]
      refine anyJ_take (some 35) (i := 8) (T := fun _ => True) (v := ?_) rfl rfl (by kernel_rfl) (by kernel_rfl) (by kernel_rfl) (fun _ _ _ h => h) (js := [2, 4, 5, 9]) (by kernel_rfl) Leads.true rfl (Or.inl ⟨by rfl, ?_⟩) trivial ?_
      rotate_left
      · (intro wL hSw; (try dsimp only at hSw); go_simp; try with_reducible rfl)
      try simp only [Act.put, List.setIfInBounds_toArray, List.set_cons_zero, List.set_cons_succ]
      refine anyJ_one (i := 9) (oi := { dst := none, op := Go.Op.store 52 (Go.Operand.tmp 3) (Go.Operand.tmp 34), type := 0, pos := "ref.go:88", after := #[{ on := 7, ground := Go.Ground.data }, { on := 5, ground := Go.Ground.chain }, { on := 0, ground := Go.Ground.phase }, { on := 1, ground := Go.Ground.phase }, { on := 2, ground := Go.Ground.phase }, { on := 3, ground := Go.Ground.phase }, { on := 4, ground := Go.Ground.phase }, { on := 5, ground := Go.Ground.phase }, { on := 6, ground := Go.Ground.phase }, { on := 7, ground := Go.Ground.phase }, { on := 8, ground := Go.Ground.textOnly Go.Departure.lateStores }], guard := none }) rfl (by kernel_rfl) (by rfl) (fun K hK => ?_)
      go_simp
      refine hK.out _ _ trivial ?_
      clear hK K
      try simp only [Act.put, List.setIfInBounds_toArray, List.set_cons_zero, List.set_cons_succ]
      refine anyJ_take (some 8) (i := 10) (T := fun _ => True) (v := ?_) rfl rfl (by kernel_rfl) (by kernel_rfl) (by kernel_rfl) (fun _ _ _ h => h) (js := [2, 4, 5, 9]) (by kernel_rfl) Leads.true rfl (Or.inl ⟨by rfl, ?_⟩) trivial ?_
      rotate_left
      · (intro wL hSw; (try dsimp only at hSw); go_simp; try with_reducible rfl)
      try simp only [Act.put, List.setIfInBounds_toArray, List.set_cons_zero, List.set_cons_succ]
      refine anyJ_done (by kernel_rfl) ?_
      go_wp2_with fail
      refine wp_region_J (fun j => match j with | 2 => some (fun W => W.cell? ⟨w.heap.size, 0, none⟩ = some (.int .i64 t.n) ∧ W.cell? ⟨w.heap.size, 1, none⟩ = some (.slice B4 t.G.length d4) ∧ W.cell? ⟨w.heap.size, 2, none⟩ = some (.int .i64 t.er)) | 3 => some (fun W => W.cell? ⟨w.heap.size, 0, none⟩ = some (.int .i64 t.n) ∧ W.cell? ⟨w.heap.size, 1, none⟩ = some (.slice B4 t.G.length d4) ∧ W.cell? ⟨w.heap.size, 2, none⟩ = some (.int .i64 t.er)) | _ => none) (by kernel_rfl) ?_
      refine anyJ_take (some 40) (i := 0) (T := fun W => W.cell? ⟨w.heap.size, 0, none⟩ = some (.int .i64 t.n) ∧ W.cell? ⟨w.heap.size, 1, none⟩ = some (.slice B4 t.G.length d4) ∧ W.cell? ⟨w.heap.size, 2, none⟩ = some (.int .i64 t.er)) (v := ?_) rfl rfl (by kernel_rfl) (by kernel_rfl) (by kernel_rfl) (fun _ _ _ h => h) (js := [2]) (by kernel_rfl) (Leads.cons _ rfl (fun w h => h) Leads.nil) rfl (Or.inl ⟨by rfl, ?_⟩) (⟨by go_simp, by go_simp, by go_simp⟩) ?_
      rotate_left
      · (intro wL hSw; (try dsimp only at hSw); go_simp; try with_reducible rfl)
      try simp only [Act.put, List.setIfInBounds_toArray, List.set_cons_zero, List.set_cons_succ]
      refine anyJ_take (some 41) (i := 1) (T := fun _ => True) (v := ?_) rfl rfl (by kernel_rfl) (by kernel_rfl) (by kernel_rfl) (fun _ _ _ h => h) (js := []) (by kernel_rfl) Leads.true rfl (Or.inl ⟨by rfl, ?_⟩) trivial ?_
      rotate_left
      · (intro wL hSw; (try dsimp only at hSw); go_simp; try with_reducible rfl)
      try simp only [Act.put, List.setIfInBounds_toArray, List.set_cons_zero, List.set_cons_succ]
      refine anyJ_one (i := 2) (oi := { dst := some 42, op := Go.Op.call { callee := Go.Callee.value (Go.Operand.func 28), args := #[Go.Operand.tmp 41], argTypes := #[3] }, type := 3, pos := "ref.go:92", after := #[{ on := 1, ground := Go.Ground.data }], guard := none }) rfl (by kernel_rfl) (by rfl) (fun K hK => ?_)
      go_simp
      refine (rnot_any z _ (by omega) (by omega)).mono ?_
      rintro e w9 ⟨rfl, hw9⟩; rw [hw9]; clear hw9 w9
      refine hK.out _ _ (by dsimp only [Obl]; exact ⟨by go_simp, by go_simp, by go_simp⟩) ?_
      clear hK K
      try simp only [Act.put, List.setIfInBounds_toArray, List.set_cons_zero, List.set_cons_succ]
      refine anyJ_one (i := 3) (oi := { dst := none, op := Go.Op.store 52 (Go.Operand.tmp 6) (Go.Operand.tmp 40), type := 0, pos := "ref.go:92", after := #[{ on := 0, ground := Go.Ground.data }, { on := 2, ground := Go.Ground.chain }, { on := 0, ground := Go.Ground.phase }, { on := 1, ground := Go.Ground.textOnly Go.Departure.lateStores }, { on := 2, ground := Go.Ground.textOnly Go.Departure.lateStoresUnsure }], guard := none }) rfl (by kernel_rfl) (by rfl) (fun K hK => ?_)
      go_simp
      refine hK.out _ _ (by dsimp only [Obl]; exact ⟨by go_simp, by go_simp, by go_simp⟩) ?_
      clear hK K
      try simp only [Act.put, List.setIfInBounds_toArray, List.set_cons_zero, List.set_cons_succ]
      refine anyJ_take (some 7) (i := 4) (T := fun _ => True) (v := ?_) rfl rfl (by kernel_rfl) (by kernel_rfl) (by kernel_rfl) (fun _ _ _ h => h) (js := [2, 3]) (by kernel_rfl) Leads.true rfl (Or.inl ⟨by rfl, ?_⟩) trivial ?_
      rotate_left
      · (intro wL hSw; (try dsimp only at hSw); go_simp; try with_reducible rfl)
      try simp only [Act.put, List.setIfInBounds_toArray, List.set_cons_zero, List.set_cons_succ]
      refine anyJ_done (by kernel_rfl) ?_
      go_wp2_with fail
      refine bodyPost_ret (v := .tuple #[.agg #[.int .i64 t.n, .slice B4 t.G.length d4, .int .i64 t.er], .int .i64 (notI z)]) (by simp [results, Try.results47, go_sem, *]) rfl ?_
      rw [HOR.out, HSET.out]
      have hbf := bthen (put3_below (x := .int .i64 t.n) (y := .slice B4 t.G.length d4) (z := .int .i64 t.er) (put3_below (x := .int .i64 t.n) (y := .slice B4 t.G.length d4) (z := .int .i64 t.er) HF4.out.f.hb (Nat.le_refl w.heap.size)) (Nat.le_succ w.heap.size)) (below_drew' _)
      have hb0 := put3_bb (x := .int .i64 t.n) (y := .slice B4 t.G.length d4) (z := .int .i64 t.er) HF4.out.b0 HF4.out.b1
      have hrow := rrow_drew (put3_row (x := .int .i64 t.n) (y := .slice B4 t.G.length d4) (z := .int .i64 t.er) (put3_row (x := .int .i64 t.n) (y := .slice B4 t.G.length d4) (z := .int .i64 t.er) HR4.out HF4.out.b0) hb0)
      exact ⟨_, rfl, ⟨B4, d4, rfl, hrow, HN4.out⟩, hbf⟩
    · have g5 : (t.er != 0) = true := by simp [hte]
      have hset : t.settle (notI z) = 0 := by unfold PB.settle; rw [if_pos (by simpa using hte)]
      have HSET := hid hset; clear hset hte
      go_enter Try.func47, Try.ntmps47
      go_wp2_with (first | (go_at_call 54; with_reducible refine (isLiteral_any s.n B s.G.length d x _).mono ?_; rintro e w1 ⟨ht, hb1⟩; obtain rfl := ht.eq_yes HX.out; clear ht; have HF := hid ((HF0.out _ _ _).below hb1); have r0 := HF.out.f.r0; have r1 := HF.out.f.r1; have r2 := HF.out.f.r2; have t0 := HF.out.f.t0; have t1 := HF.out.f.t1; have t2 := HF.out.f.t2; have fr0 := HF.out.f.fr 0; have fr1 := HF.out.f.fr 1; have fr2 := HF.out.f.fr 2; have ft0 := HF.out.f.ft 0; have ft1 := HF.out.f.ft 1; have ft2 := HF.out.f.ft 2; have zz := HF.out.f.size; have xx : w.heap.size < w1.heap.size := Nat.lt_of_succ_lt zz; clear hb1) | (go_at_call 54; with_reducible refine (isLiteral_any s.n B s.G.length d y _).mono ?_; rintro e w1 ⟨ht, hb1⟩; obtain rfl := ht.eq_yes HY.out; clear ht; have HF := hid (HF.out.below hb1); have r0 := HF.out.f.r0; have r1 := HF.out.f.r1; have r2 := HF.out.f.r2; have t0 := HF.out.f.t0; have t1 := HF.out.f.t1; have t2 := HF.out.f.t2; have fr0 := HF.out.f.fr 0; have fr1 := HF.out.f.fr 1; have fr2 := HF.out.f.fr 2; have ft0 := HF.out.f.ft 0; have ft1 := HF.out.f.ft 1; have ft2 := HF.out.f.ft 2; have zz := HF.out.f.size; have xx : w.heap.size < w1.heap.size := Nat.lt_of_succ_lt zz; clear hb1))
      refine wp_region_J (fun j => match j with | 2 => some (fun W => W.cell? ⟨w.heap.size, 0, none⟩ = some (.int .i64 s.n) ∧ W.cell? ⟨w.heap.size, 1, none⟩ = some (.slice B s.G.length d) ∧ W.cell? ⟨w.heap.size, 2, none⟩ = some (.int .i64 s.er)) | 4 => some (fun W => W.cell? ⟨w.heap.size, 0, none⟩ = some (.int .i64 s.n) ∧ W.cell? ⟨w.heap.size, 1, none⟩ = some (.slice B s.G.length d) ∧ W.cell? ⟨w.heap.size, 2, none⟩ = some (.int .i64 s.er)) | 5 => some (fun _ => True) | 9 => some (fun _ => True) | _ => none) (by kernel_rfl) ?_
      refine anyJ_take (some 28) (i := 0) (T := fun W => W.cell? ⟨w.heap.size, 0, none⟩ = some (.int .i64 s.n) ∧ W.cell? ⟨w.heap.size, 1, none⟩ = some (.slice B s.G.length d) ∧ W.cell? ⟨w.heap.size, 2, none⟩ = some (.int .i64 s.er)) (v := ?_) rfl rfl (by kernel_rfl) (by kernel_rfl) (by kernel_rfl) (fun _ _ _ h => h) (js := [2, 4]) (by kernel_rfl) (Leads.cons _ rfl (fun w h => h) (Leads.cons _ rfl (fun w h => h) Leads.nil)) rfl (Or.inl ⟨by rfl, ?_⟩) (⟨by go_simp, by go_simp, by go_simp⟩) ?_
      rotate_left
      · (intro wL hSw; (try dsimp only at hSw); go_simp; try with_reducible rfl)
      try simp only [Act.put, List.setIfInBounds_toArray, List.set_cons_zero, List.set_cons_succ]
      refine anyJ_take (some 29) (i := 1) (T := fun _ => True) (v := ?_) rfl rfl (by kernel_rfl) (by kernel_rfl) (by kernel_rfl) (fun _ _ _ h => h) (js := []) (by kernel_rfl) Leads.true rfl (Or.inl ⟨by rfl, ?_⟩) trivial ?_
      rotate_left
      · (intro wL hSw; (try dsimp only at hSw); go_simp; try with_reducible rfl)
      try simp only [Act.put, List.setIfInBounds_toArray, List.set_cons_zero, List.set_cons_succ]
      refine anyJ_take (some 31) (i := 3) (T := fun _ => True) (v := ?_) rfl rfl (by kernel_rfl) (by kernel_rfl) (by kernel_rfl) (fun _ _ _ h => h) (js := [2]) (by kernel_rfl) Leads.true rfl (Or.inl ⟨by rfl, ?_⟩) trivial ?_
      rotate_left
      · (intro wL hSw; (try dsimp only at hSw); go_simp; try with_reducible rfl)
      try simp only [Act.put, List.setIfInBounds_toArray, List.set_cons_zero, List.set_cons_succ]
      refine anyJ_one (i := 2) (oi := { dst := some 30, op := Go.Op.call { callee := Go.Callee.value (Go.Operand.func 28), args := #[Go.Operand.tmp 29], argTypes := #[3] }, type := 3, pos := "ref.go:88", after := #[{ on := 1, ground := Go.Ground.data }], guard := none }) rfl (by kernel_rfl) (by rfl) (fun K hK => ?_)
      go_simp
      refine (rnot_any x _ (by omega) (by omega)).mono ?_
      rintro e w9 ⟨rfl, hw9⟩; rw [hw9]; clear hw9 w9
      refine hK.out _ _ (by dsimp only [Obl]; exact ⟨by go_simp, by go_simp, by go_simp⟩) ?_
      clear hK K
      try simp only [Act.put, List.setIfInBounds_toArray, List.set_cons_zero, List.set_cons_succ]
      refine anyJ_one (i := 4) (oi := { dst := some 32, op := Go.Op.call { callee := Go.Callee.value (Go.Operand.func 28), args := #[Go.Operand.tmp 31], argTypes := #[3] }, type := 3, pos := "ref.go:88", after := #[{ on := 3, ground := Go.Ground.data }, { on := 2, ground := Go.Ground.chain }], guard := none }) rfl (by kernel_rfl) (by rfl) (fun K hK => ?_)
      go_simp
      refine (rnot_any y _ (by omega) (by omega)).mono ?_
      rintro e w9 ⟨rfl, hw9⟩; rw [hw9]; clear hw9 w9
      refine hK.out _ _ (by dsimp only [Obl]; exact ⟨by go_simp, by go_simp, by go_simp⟩) ?_
      clear hK K
      try simp only [Act.put, List.setIfInBounds_toArray, List.set_cons_zero, List.set_cons_succ]
      refine anyJ_one (i := 5) (oi := { dst := some 33, op := Go.Op.call { callee := Go.Callee.value (Go.Operand.func 46), args := #[Go.Operand.tmp 28, Go.Operand.tmp 30, Go.Operand.tmp 32], argTypes := #[52, 3, 3] }, type := 55, pos := "ref.go:88", after := #[{ on := 0, ground := Go.Ground.data }, { on := 2, ground := Go.Ground.data }, { on := 4, ground := Go.Ground.data }, { on := 4, ground := Go.Ground.chain }], guard := none }) rfl (by kernel_rfl) (by rfl) (fun K hK => ?_)
      go_simp
      have hrb : RB Z w1.drew s (.agg #[.int .i64 s.n, .slice B s.G.length d, .int .i64 s.er]) := ⟨B, d, rfl, HR.out.below (bthen HF.out.f.hb (below_drew' w1)), HN.out⟩
      refine (rand_any (show ∀ b, w1.drew.heap.size ≤ b → Z b from fun b hb => HZZ.out b (Nat.le_trans HF.out.f.hb.size hb)) hrb HOK.out (notI x) (notI y)).mono ?_
      rw [HAND.out]
      rintro e w4 ⟨v4, rfl, hv4, hb4⟩
      obtain ⟨B4, d4, rfl, hr4, hn4⟩ := hv4
      have HF4 := hid (HF.out.below (bthen (below_drew' w1) hb4))
      have HR4 := hid hr4; have HN4 := hid hn4; clear hr4 hn4 hb4 hrb
      have r0 := HF4.out.f.r0; have r1 := HF4.out.f.r1; have r2 := HF4.out.f.r2; have t0 := HF4.out.f.t0; have t1 := HF4.out.f.t1; have t2 := HF4.out.f.t2; have fr0 := HF4.out.f.fr 0; have fr1 := HF4.out.f.fr 1; have fr2 := HF4.out.f.fr 2; have ft0 := HF4.out.f.ft 0; have ft1 := HF4.out.f.ft 1; have ft2 := HF4.out.f.ft 2; have zz := HF4.out.f.size; have xx : w.heap.size < w4.heap.size := Nat.lt_of_succ_lt zz
      refine hK.out _ _ trivial ?_
      clear hK K
      try simp only [Act.put, List.setIfInBounds_toArray, List.set_cons_zero, List.set_cons_succ]
      refine anyJ_take (some 27) (i := 6) (T := fun _ => True) (v := ?_) rfl rfl (by kernel_rfl) (by kernel_rfl) (by kernel_rfl) (fun _ _ _ h => h) (js := [2, 4, 5]) (by kernel_rfl) Leads.true rfl (Or.inl ⟨by rfl, ?_⟩) trivial ?_
      rotate_left
      · (intro wL hSw; (try dsimp only at hSw); go_simp; try with_reducible rfl)
      try simp only [Act.put, List.setIfInBounds_toArray, List.set_cons_zero, List.set_cons_succ]
      refine anyJ_take (some 34) (i := 7) (T := fun _ => True) (v := ?_) rfl rfl (by kernel_rfl) (by kernel_rfl) (by kernel_rfl) (fun _ _ _ h => h) (js := [2, 4, 5]) (by kernel_rfl) Leads.true rfl (Or.inl ⟨by rfl, ?_⟩) trivial ?_
      rotate_left
      · (intro wL hSw; (try dsimp only at hSw); go_simp; try with_reducible rfl)
      try simp only [Act.put, List.setIfInBounds_toArray, List.set_cons_zero, List.set_cons_succ]
      refine anyJ_take (some 35) (i := 8) (T := fun _ => True) (v := ?_) rfl rfl (by kernel_rfl) (by kernel_rfl) (by kernel_rfl) (fun _ _ _ h => h) (js := [2, 4, 5, 9]) (by kernel_rfl) Leads.true rfl (Or.inl ⟨by rfl, ?_⟩) trivial ?_
      rotate_left
      · (intro wL hSw; (try dsimp only at hSw); go_simp; try with_reducible rfl)
      try simp only [Act.put, List.setIfInBounds_toArray, List.set_cons_zero, List.set_cons_succ]
      refine anyJ_one (i := 9) (oi := { dst := none, op := Go.Op.store 52 (Go.Operand.tmp 3) (Go.Operand.tmp 34), type := 0, pos := "ref.go:88", after := #[{ on := 7, ground := Go.Ground.data }, { on := 5, ground := Go.Ground.chain }, { on := 0, ground := Go.Ground.phase }, { on := 1, ground := Go.Ground.phase }, { on := 2, ground := Go.Ground.phase }, { on := 3, ground := Go.Ground.phase }, { on := 4, ground := Go.Ground.phase }, { on := 5, ground := Go.Ground.phase }, { on := 6, ground := Go.Ground.phase }, { on := 7, ground := Go.Ground.phase }, { on := 8, ground := Go.Ground.textOnly Go.Departure.lateStores }], guard := none }) rfl (by kernel_rfl) (by rfl) (fun K hK => ?_)
      go_simp
      refine hK.out _ _ trivial ?_
      clear hK K
      try simp only [Act.put, List.setIfInBounds_toArray, List.set_cons_zero, List.set_cons_succ]
      refine anyJ_take (some 8) (i := 10) (T := fun _ => True) (v := ?_) rfl rfl (by kernel_rfl) (by kernel_rfl) (by kernel_rfl) (fun _ _ _ h => h) (js := [2, 4, 5, 9]) (by kernel_rfl) Leads.true rfl (Or.inl ⟨by rfl, ?_⟩) trivial ?_
      rotate_left
      · (intro wL hSw; (try dsimp only at hSw); go_simp; try with_reducible rfl)
      try simp only [Act.put, List.setIfInBounds_toArray, List.set_cons_zero, List.set_cons_succ]
      refine anyJ_done (by kernel_rfl) ?_
      go_wp2_with fail
      refine bodyPost_ret (v := .tuple #[.agg #[.int .i64 t.n, .slice B4 t.G.length d4, .int .i64 t.er], .int .i64 (0)]) (by simp [results, Try.results47, go_sem, *]) rfl ?_
      rw [HOR.out, HSET.out]
      have hbf := put3_below (x := .int .i64 t.n) (y := .slice B4 t.G.length d4) (z := .int .i64 t.er) (put3_below (x := .int .i64 t.n) (y := .slice B4 t.G.length d4) (z := .int .i64 t.er) HF4.out.f.hb (Nat.le_refl w.heap.size)) (Nat.le_succ w.heap.size)
      have hb0 := put3_bb (x := .int .i64 t.n) (y := .slice B4 t.G.length d4) (z := .int .i64 t.er) HF4.out.b0 HF4.out.b1
      have hrow := put3_row (x := .int .i64 t.n) (y := .slice B4 t.G.length d4) (z := .int .i64 t.er) (put3_row (x := .int .i64 t.n) (y := .slice B4 t.G.length d4) (z := .int .i64 t.er) HR4.out HF4.out.b0) hb0
      exact ⟨_, rfl, ⟨B4, d4, rfl, hrow, HN4.out⟩, hbf⟩
  · skip
    have hs : s.or x y = ({ s with er := 1 }, 0) := by unfold PB.or; rw [if_neg (by simpa using HZ.out), if_pos hl]
    have HS := hid hs; clear hs
    by_cases h0 : s.lit x
    rotate_left
    · have HX := hid (show ¬ (0 ≤ x ∧ x < litN s.n s.G.length) from fun h => h0 (by rw [HLN.out] at h; exact h))
      clear hl h0
      go_enter Try.func47, Try.ntmps47
      go_wp2_with (first | (go_at_call 54; with_reducible refine (isLiteral_any s.n B s.G.length d x _).mono ?_; rintro e w1 ⟨ht, hb1⟩; obtain rfl := ht.eq_no HX.out; clear ht; have HF := hid ((HF0.out _ _ _).below hb1); have r0 := HF.out.f.r0; have r1 := HF.out.f.r1; have r2 := HF.out.f.r2; have t0 := HF.out.f.t0; have t1 := HF.out.f.t1; have t2 := HF.out.f.t2; have fr0 := HF.out.f.fr 0; have fr1 := HF.out.f.fr 1; have fr2 := HF.out.f.fr 2; have ft0 := HF.out.f.ft 0; have ft1 := HF.out.f.ft 1; have ft2 := HF.out.f.ft 2; have zz := HF.out.f.size; have xx : w.heap.size < w1.heap.size := Nat.lt_of_succ_lt zz; clear hb1))
      refine bodyPost_ret (v := .tuple #[.agg #[.int .i64 s.n, .slice B s.G.length d, .int .i64 1], .int .i64 (0)]) (by simp [results, Try.results47, go_sem, *]) rfl ?_
      rw [HS.out]
      have hbf := put3_below (x := .int .i64 s.n) (y := .slice B s.G.length d) (z := .int .i64 1) (HF.out.f.hb.setCell (p := ⟨w.heap.size, 2, none⟩) (by simp) (.int .i64 1)) (Nat.le_succ w.heap.size)
      exact ⟨_, rfl, ⟨B, d, rfl, HR.out.below hbf, HN.out⟩, hbf⟩
    have HX := hid (show 0 ≤ x ∧ x < litN s.n s.G.length from by rw [HLN.out]; exact h0)
    have HY := hid (show ¬ (0 ≤ y ∧ y < litN s.n s.G.length) from fun h => hl ⟨h0, by rw [HLN.out] at h; exact h⟩)
    clear hl h0
    go_enter Try.func47, Try.ntmps47
    go_wp2_with (first | (go_at_call 54; with_reducible refine (isLiteral_any s.n B s.G.length d x _).mono ?_; rintro e w1 ⟨ht, hb1⟩; obtain rfl := ht.eq_yes HX.out; clear ht; have HF := hid ((HF0.out _ _ _).below hb1); have r0 := HF.out.f.r0; have r1 := HF.out.f.r1; have r2 := HF.out.f.r2; have t0 := HF.out.f.t0; have t1 := HF.out.f.t1; have t2 := HF.out.f.t2; have fr0 := HF.out.f.fr 0; have fr1 := HF.out.f.fr 1; have fr2 := HF.out.f.fr 2; have ft0 := HF.out.f.ft 0; have ft1 := HF.out.f.ft 1; have ft2 := HF.out.f.ft 2; have zz := HF.out.f.size; have xx : w.heap.size < w1.heap.size := Nat.lt_of_succ_lt zz; clear hb1) | (go_at_call 54; with_reducible refine (isLiteral_any s.n B s.G.length d y _).mono ?_; rintro e w1 ⟨ht, hb1⟩; obtain rfl := ht.eq_no HY.out; clear ht; have HF := hid (HF.out.below hb1); have r0 := HF.out.f.r0; have r1 := HF.out.f.r1; have r2 := HF.out.f.r2; have t0 := HF.out.f.t0; have t1 := HF.out.f.t1; have t2 := HF.out.f.t2; have fr0 := HF.out.f.fr 0; have fr1 := HF.out.f.fr 1; have fr2 := HF.out.f.fr 2; have ft0 := HF.out.f.ft 0; have ft1 := HF.out.f.ft 1; have ft2 := HF.out.f.ft 2; have zz := HF.out.f.size; have xx : w.heap.size < w1.heap.size := Nat.lt_of_succ_lt zz; clear hb1))
    refine bodyPost_ret (v := .tuple #[.agg #[.int .i64 s.n, .slice B s.G.length d, .int .i64 1], .int .i64 (0)]) (by simp [results, Try.results47, go_sem, *]) rfl ?_
    rw [HS.out]
    have hbf := put3_below (x := .int .i64 s.n) (y := .slice B s.G.length d) (z := .int .i64 1) (HF.out.f.hb.setCell (p := ⟨w.heap.size, 2, none⟩) (by simp) (.int .i64 1)) (Nat.le_succ w.heap.size)
    exact ⟨_, rfl, ⟨B, d, rfl, HR.out.below hbf, HN.out⟩, hbf⟩

end Go.Proofs.Ytelbjendeldlcaa
