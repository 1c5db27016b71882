/- The reference builder's And. -/
import Derived.Test.YtelbjendeldlcaaAB
namespace Go.Proofs.Ytelbjendeldlcaa
open Go.RowKit
variable {Z : Nat → Prop}

/-- two boxes of three cells, made at a call's start, in a later world -/
structure F6 (w W : World) (a b c p q r : Value) : Prop where
  r0 : W.cell? ⟨w.heap.size, 0, none⟩ = some a
  r1 : W.cell? ⟨w.heap.size, 1, none⟩ = some b
  r2 : W.cell? ⟨w.heap.size, 2, none⟩ = some c
  t0 : W.cell? ⟨w.heap.size + 1, 0, none⟩ = some p
  t1 : W.cell? ⟨w.heap.size + 1, 1, none⟩ = some q
  t2 : W.cell? ⟨w.heap.size + 1, 2, none⟩ = some r
  fr : ∀ j, W.frozen? ⟨w.heap.size, j, none⟩ = false
  ft : ∀ j, W.frozen? ⟨w.heap.size + 1, j, none⟩ = false
  hb : Below w.heap.size w W
  size : w.heap.size + 1 < W.heap.size
theorem F6.start (w : World) (a b c p q r : Value) (t t2 : TypeId) : F6 w ((w.alloc (.cells #[a, b, c] t)).alloc (.cells #[p, q, r] t2)) a b c p q r := by
  have e : w.heap.size + 1 = (w.alloc (.cells #[a, b, c] t)).heap.size := by simp
  have hb := below_alloc (w.alloc (.cells #[a, b, c] t)) (.cells #[p, q, r] t2)
  have hf : ∀ (W : World) (cs : Array Value) (t : TypeId) (j : Nat), (W.alloc (.cells cs t)).frozen? ⟨W.heap.size, j, none⟩ = false := fun W cs t j => by
    unfold World.frozen?; simp only []; rw [show (W.alloc (.cells cs t)).heap[W.heap.size]? = some (.cells cs t (0, 0)) from heap_alloc_new W _]; simp
  refine ⟨box_cell hb 0 _ rfl, box_cell hb 1 _ rfl, box_cell hb 2 _ rfl, ?_, ?_, ?_, fun j => ?_, fun j => ?_, b2 _ _ _, by simp⟩
  · rw [e]; exact box_cell (Below.refl _ _) 0 _ rfl
  · rw [e]; exact box_cell (Below.refl _ _) 1 _ rfl
  · rw [e]; exact box_cell (Below.refl _ _) 2 _ rfl
  · rw [(bcell hb).2 _ _ (by simp)]; exact hf _ _ _ _
  · rw [e]; exact hf _ _ _ _
theorem F6.below {w W W' : World} {a b c p q r : Value} (h : F6 w W a b c p q r) (hb : Below W.heap.size W W') : F6 w W' a b c p q r :=
  ⟨below_cell hb h.r0, below_cell hb h.r1, below_cell hb h.r2, below_cell hb h.t0, below_cell hb h.t1, below_cell hb h.t2, fun j => ((bcell hb).2 _ _ (by have := h.size; omega)).trans (h.fr j), fun j => ((bcell hb).2 _ _ h.size).trans (h.ft j), bthen h.hb hb, Nat.lt_of_lt_of_le h.size hb.size⟩
theorem F6.set {w W : World} {a b c p q r : Value} (h : F6 w W a b c p q r) (j : Nat) (u : Value) : Below w.heap.size w (W.setCell ⟨w.heap.size + 1, j, none⟩ u) := h.hb.setCell (by simp) u

theorem and_pair {s : PB} {x y : Int} (h0 : s.er = 0) (hl : s.lit x ∧ s.lit y) : s.and x y = s.pair (min x y) (max x y) := by
  unfold PB.and; rw [if_neg (by simpa using h0), if_neg (fun h => h hl)]
theorem and_zero {s : PB} {x y : Int} (h0 : s.er = 0) (hl : s.lit x ∧ s.lit y) (h : x = 0 ∨ y = 0 ∨ x = notI y) : s.and x y = (s, 0) := by
  have hx := hl.1.1; have hy := hl.2.1
  rw [and_pair h0 hl]; unfold PB.pair; rw [if_pos]
  rcases h with h | h | h
  · left; omega
  · left; omega
  · right
    rcases Int.le_total x y with hle | hle
    · rw [Int.min_eq_left hle, Int.max_eq_right hle]; exact h
    · rw [Int.min_eq_right hle, Int.max_eq_left hle, h, notI_notI]
theorem and_not_zero {s : PB} {x y : Int} (hl : s.lit x ∧ s.lit y) (h : ¬ (x = 0 ∨ y = 0 ∨ x = notI y)) : ¬ (min x y = 0 ∨ min x y = notI (max x y)) := by
  have hx := hl.1.1; have hy := hl.2.1
  rcases Int.le_total x y with hle | hle
  · rw [Int.min_eq_left hle, Int.max_eq_right hle]; intro h'; rcases h' with h' | h'
    · exact h (Or.inl h')
    · exact h (Or.inr (Or.inr h'))
  · rw [Int.min_eq_right hle, Int.max_eq_left hle]; intro h'; rcases h' with h' | h'
    · exact h (Or.inr (Or.inl h'))
    · exact h (Or.inr (Or.inr (by rw [h', notI_notI])))
theorem and_left {s : PB} {x y : Int} (h0 : s.er = 0) (hl : s.lit x ∧ s.lit y) (hz : ¬ (x = 0 ∨ y = 0 ∨ x = notI y)) (h : x = 1 ∨ x = y) : s.and x y = (s, y) := by
  have hx := hl.1.1; have hy := hl.2.1
  rw [and_pair h0 hl]; unfold PB.pair; rw [if_neg (and_not_zero hl hz), if_pos (by omega)]
  rw [show max x y = y from by omega]
theorem and_right {s : PB} {x y : Int} (h0 : s.er = 0) (hl : s.lit x ∧ s.lit y) (hz : ¬ (x = 0 ∨ y = 0 ∨ x = notI y)) (h : y = 1) : s.and x y = (s, x) := by
  have hx := hl.1.1; have hy := hl.2.1
  rw [and_pair h0 hl]; unfold PB.pair; rw [if_neg (and_not_zero hl hz), if_pos (by omega)]
  rw [show max x y = x from by omega]
theorem and_rest {s : PB} {x y : Int} (h0 : s.er = 0) (hl : s.lit x ∧ s.lit y) (hz : ¬ (x = 0 ∨ y = 0 ∨ x = notI y)) (h1 : ¬ (x = 1 ∨ x = y)) (h2 : ¬ y = 1) :
    s.and x y = match findG 0 s.G (min x y, max x y) with
      | some j => (s, 2 * (1 + s.n + j))
      | none => if 65536 ≤ 1 + s.n + s.G.length then ({ s with er := 8 }, 0) else ({ s with G := s.G ++ [(min x y, max x y)] }, 2 * (1 + s.n + s.G.length)) := by
  rw [and_pair h0 hl]; unfold PB.pair; rw [if_neg (and_not_zero hl hz), if_neg (by omega)]
  generalize findG 0 s.G (min x y, max x y) = o
  cases o <;> rfl

set_option maxHeartbeats 1000000 in
theorem rand_early {w : World} {s : PB} {v : Value} (hv : RB Z w s v) (hok : s.Ok) (x y : Int) (h : s.er ≠ 0 ∨ ¬ (s.lit x ∧ s.lit y) ∨ x = 0 ∨ y = 0 ∨ x = notI y ∨ x = 1 ∨ x = y ∨ y = 1) : Calls Try.prog 46 #[v, .int .i64 x, .int .i64 y] w fun e w' => RPost Z w (s.and x y) e w' := by
  have hLN := PB.litN_eq hok
  obtain ⟨B, d, rfl, hr, hn⟩ := hv
  have HR := hid hr; have HN := hid hn; have HLN := hid hLN; clear hr hn hLN
  have HF0 := hid (fun p q r => F6.start w (.int .i64 s.n) (.slice B s.G.length d) (.int .i64 s.er) p q r 52 52)
  by_cases h0 : (s.er != 0) = true
  · have hs : s.and x y = (s, 0) := by unfold PB.and; rw [if_pos (by simpa using h0)]
    have HS := hid hs; clear hs h
    go_enter Try.func46, Try.ntmps46
    go_wp2
    refine bodyPost_ret (v := .tuple #[.agg #[.int .i64 s.n, .slice B s.G.length d, .int .i64 s.er], .int .i64 0]) (by simp [results, Try.results46, go_sem, *]) rfl ?_
    rw [HS.out]
    exact ⟨_, rfl, ⟨B, d, rfl, HR.out.below (b2 _ _ _), HN.out⟩, b2 _ _ _⟩
  have h0' : (s.er != 0) = false := by simpa using h0
  have hz : s.er = 0 := by simpa using h0
  have HZ := hid hz; clear hz h0
  by_cases hl : s.lit x ∧ s.lit y
  · have HX := hid (show 0 ≤ x ∧ x < litN s.n s.G.length from by rw [HLN.out]; exact hl.1)
    have HY := hid (show 0 ≤ y ∧ y < litN s.n s.G.length from by rw [HLN.out]; exact hl.2)
    have xb := PB.lit_bd hok hl.1; have yb := PB.lit_bd hok hl.2
    obtain ⟨xb0, xb1⟩ := xb
    obtain ⟨yb0, yb1⟩ := yb
    have yn : 0 ≤ notI y := (PB.lit_not hl.2).1
    have yn2 : notI y ≤ 131073 := by unfold notI; split <;> omega
    by_cases c0 : x = 0
    · have HS := hid (show s.and x y = (s, 0) from and_zero HZ.out hl (Or.inl c0))
      have q0 : (x == 0) = true := by simp; exact c0
      clear hl h; (try clear hnz); (try clear c0); (try clear c1); (try clear c2); (try clear c3); (try clear c4); (try clear c5)
      go_enter Try.func46, Try.ntmps46
      go_wp2_with (first | (go_at_call 54; with_reducible refine (isLiteral_any s.n B s.G.length d x _).mono ?_; rintro e w1 ⟨ht, hb1⟩; obtain rfl := ht.eq_yes HX.out; clear ht; have HF := hid ((HF0.out _ _ _).below hb1); have r0 := HF.out.r0; have r1 := HF.out.r1; have r2 := HF.out.r2; have t0 := HF.out.t0; have t1 := HF.out.t1; have t2 := HF.out.t2; have fr := HF.out.fr 2; have ft0 := HF.out.ft 0; have ft1 := HF.out.ft 1; have ft2 := HF.out.ft 2; have zz := HF.out.size; clear hb1) | (go_at_call 54; with_reducible refine (isLiteral_any s.n B s.G.length d y _).mono ?_; rintro e w1 ⟨ht, hb1⟩; obtain rfl := ht.eq_yes HY.out; clear ht; have HF := hid (HF.out.below hb1); have r0 := HF.out.r0; have r1 := HF.out.r1; have r2 := HF.out.r2; have t0 := HF.out.t0; have t1 := HF.out.t1; have t2 := HF.out.t2; have fr := HF.out.fr 2; have ft0 := HF.out.ft 0; have ft1 := HF.out.ft 1; have ft2 := HF.out.ft 2; have zz := HF.out.size; clear hb1) | (go_at_call 28; refine (rnot_any y _ (by omega) (by omega)).mono ?_; rintro e w9 ⟨rfl, hw9⟩; rw [hw9]; clear hw9 w9))
      refine bodyPost_ret (v := .tuple #[.agg #[.int .i64 s.n, .slice B s.G.length d, .int .i64 s.er], .int .i64 0]) (by simp [results, Try.results46, go_sem, *]) rfl ?_
      rw [HS.out]
      have hbf := (((HF.out.hb.setCell (p := ⟨w.heap.size + 1, 0, none⟩) (by simp) (.int .i64 s.n)).setCell (p := ⟨w.heap.size + 1, 1, none⟩) (by simp) (.slice B s.G.length d)).setCell (p := ⟨w.heap.size + 1, 2, none⟩) (by simp) (.int .i64 s.er))
      exact ⟨_, rfl, ⟨B, d, rfl, HR.out.below hbf, HN.out⟩, hbf⟩
    by_cases c1 : y = 0
    · have HS := hid (show s.and x y = (s, 0) from and_zero HZ.out hl (Or.inr (Or.inl c1)))
      have q0 : (x == 0) = false := by simp; exact c0
      have q1 : (y == 0) = true := by simp; exact c1
      clear hl h; (try clear hnz); (try clear c0); (try clear c1); (try clear c2); (try clear c3); (try clear c4); (try clear c5)
      go_enter Try.func46, Try.ntmps46
      go_wp2_with (first | (go_at_call 54; with_reducible refine (isLiteral_any s.n B s.G.length d x _).mono ?_; rintro e w1 ⟨ht, hb1⟩; obtain rfl := ht.eq_yes HX.out; clear ht; have HF := hid ((HF0.out _ _ _).below hb1); have r0 := HF.out.r0; have r1 := HF.out.r1; have r2 := HF.out.r2; have t0 := HF.out.t0; have t1 := HF.out.t1; have t2 := HF.out.t2; have fr := HF.out.fr 2; have ft0 := HF.out.ft 0; have ft1 := HF.out.ft 1; have ft2 := HF.out.ft 2; have zz := HF.out.size; clear hb1) | (go_at_call 54; with_reducible refine (isLiteral_any s.n B s.G.length d y _).mono ?_; rintro e w1 ⟨ht, hb1⟩; obtain rfl := ht.eq_yes HY.out; clear ht; have HF := hid (HF.out.below hb1); have r0 := HF.out.r0; have r1 := HF.out.r1; have r2 := HF.out.r2; have t0 := HF.out.t0; have t1 := HF.out.t1; have t2 := HF.out.t2; have fr := HF.out.fr 2; have ft0 := HF.out.ft 0; have ft1 := HF.out.ft 1; have ft2 := HF.out.ft 2; have zz := HF.out.size; clear hb1) | (go_at_call 28; refine (rnot_any y _ (by omega) (by omega)).mono ?_; rintro e w9 ⟨rfl, hw9⟩; rw [hw9]; clear hw9 w9))
      refine bodyPost_ret (v := .tuple #[.agg #[.int .i64 s.n, .slice B s.G.length d, .int .i64 s.er], .int .i64 0]) (by simp [results, Try.results46, go_sem, *]) rfl ?_
      rw [HS.out]
      have hbf := (((HF.out.hb.setCell (p := ⟨w.heap.size + 1, 0, none⟩) (by simp) (.int .i64 s.n)).setCell (p := ⟨w.heap.size + 1, 1, none⟩) (by simp) (.slice B s.G.length d)).setCell (p := ⟨w.heap.size + 1, 2, none⟩) (by simp) (.int .i64 s.er))
      exact ⟨_, rfl, ⟨B, d, rfl, HR.out.below hbf, HN.out⟩, hbf⟩
    by_cases c2 : x = notI y
    · have HS := hid (show s.and x y = (s, 0) from and_zero HZ.out hl (Or.inr (Or.inr c2)))
      have q0 : (x == 0) = false := by simp; exact c0
      have q1 : (y == 0) = false := by simp; exact c1
      have q2 : (x == notI y) = true := by simp; exact c2
      clear hl h; (try clear hnz); (try clear c0); (try clear c1); (try clear c2); (try clear c3); (try clear c4); (try clear c5)
      go_enter Try.func46, Try.ntmps46
      go_wp2_with (first | (go_at_call 54; with_reducible refine (isLiteral_any s.n B s.G.length d x _).mono ?_; rintro e w1 ⟨ht, hb1⟩; obtain rfl := ht.eq_yes HX.out; clear ht; have HF := hid ((HF0.out _ _ _).below hb1); have r0 := HF.out.r0; have r1 := HF.out.r1; have r2 := HF.out.r2; have t0 := HF.out.t0; have t1 := HF.out.t1; have t2 := HF.out.t2; have fr := HF.out.fr 2; have ft0 := HF.out.ft 0; have ft1 := HF.out.ft 1; have ft2 := HF.out.ft 2; have zz := HF.out.size; clear hb1) | (go_at_call 54; with_reducible refine (isLiteral_any s.n B s.G.length d y _).mono ?_; rintro e w1 ⟨ht, hb1⟩; obtain rfl := ht.eq_yes HY.out; clear ht; have HF := hid (HF.out.below hb1); have r0 := HF.out.r0; have r1 := HF.out.r1; have r2 := HF.out.r2; have t0 := HF.out.t0; have t1 := HF.out.t1; have t2 := HF.out.t2; have fr := HF.out.fr 2; have ft0 := HF.out.ft 0; have ft1 := HF.out.ft 1; have ft2 := HF.out.ft 2; have zz := HF.out.size; clear hb1) | (go_at_call 28; refine (rnot_any y _ (by omega) (by omega)).mono ?_; rintro e w9 ⟨rfl, hw9⟩; rw [hw9]; clear hw9 w9))
      refine bodyPost_ret (v := .tuple #[.agg #[.int .i64 s.n, .slice B s.G.length d, .int .i64 s.er], .int .i64 0]) (by simp [results, Try.results46, go_sem, *]) rfl ?_
      rw [HS.out]
      have hbf := (((HF.out.hb.setCell (p := ⟨w.heap.size + 1, 0, none⟩) (by simp) (.int .i64 s.n)).setCell (p := ⟨w.heap.size + 1, 1, none⟩) (by simp) (.slice B s.G.length d)).setCell (p := ⟨w.heap.size + 1, 2, none⟩) (by simp) (.int .i64 s.er))
      exact ⟨_, rfl, ⟨B, d, rfl, HR.out.below hbf, HN.out⟩, hbf⟩
    have hnz : ¬ (x = 0 ∨ y = 0 ∨ x = notI y) := by rintro (h' | h' | h') <;> contradiction
    by_cases c3 : x = 1
    · have HS := hid (show s.and x y = (s, y) from and_left HZ.out hl hnz (Or.inl c3))
      have q0 : (x == 0) = false := by simp; exact c0
      have q1 : (y == 0) = false := by simp; exact c1
      have q2 : (x == notI y) = false := by simp; exact c2
      have q3 : (x == 1) = true := by simp; exact c3
      clear hl h; (try clear hnz); (try clear c0); (try clear c1); (try clear c2); (try clear c3); (try clear c4); (try clear c5)
      go_enter Try.func46, Try.ntmps46
      go_wp2_with (first | (go_at_call 54; with_reducible refine (isLiteral_any s.n B s.G.length d x _).mono ?_; rintro e w1 ⟨ht, hb1⟩; obtain rfl := ht.eq_yes HX.out; clear ht; have HF := hid ((HF0.out _ _ _).below hb1); have r0 := HF.out.r0; have r1 := HF.out.r1; have r2 := HF.out.r2; have t0 := HF.out.t0; have t1 := HF.out.t1; have t2 := HF.out.t2; have fr := HF.out.fr 2; have ft0 := HF.out.ft 0; have ft1 := HF.out.ft 1; have ft2 := HF.out.ft 2; have zz := HF.out.size; clear hb1) | (go_at_call 54; with_reducible refine (isLiteral_any s.n B s.G.length d y _).mono ?_; rintro e w1 ⟨ht, hb1⟩; obtain rfl := ht.eq_yes HY.out; clear ht; have HF := hid (HF.out.below hb1); have r0 := HF.out.r0; have r1 := HF.out.r1; have r2 := HF.out.r2; have t0 := HF.out.t0; have t1 := HF.out.t1; have t2 := HF.out.t2; have fr := HF.out.fr 2; have ft0 := HF.out.ft 0; have ft1 := HF.out.ft 1; have ft2 := HF.out.ft 2; have zz := HF.out.size; clear hb1) | (go_at_call 28; refine (rnot_any y _ (by omega) (by omega)).mono ?_; rintro e w9 ⟨rfl, hw9⟩; rw [hw9]; clear hw9 w9))
      refine bodyPost_ret (v := .tuple #[.agg #[.int .i64 s.n, .slice B s.G.length d, .int .i64 s.er], .int .i64 y]) (by simp [results, Try.results46, go_sem, *]) rfl ?_
      rw [HS.out]
      have hbf := (((HF.out.hb.setCell (p := ⟨w.heap.size + 1, 0, none⟩) (by simp) (.int .i64 s.n)).setCell (p := ⟨w.heap.size + 1, 1, none⟩) (by simp) (.slice B s.G.length d)).setCell (p := ⟨w.heap.size + 1, 2, none⟩) (by simp) (.int .i64 s.er))
      exact ⟨_, rfl, ⟨B, d, rfl, HR.out.below hbf, HN.out⟩, hbf⟩
    by_cases c4 : x = y
    · have HS := hid (show s.and x y = (s, y) from and_left HZ.out hl hnz (Or.inr c4))
      have q0 : (x == 0) = false := by simp; exact c0
      have q1 : (y == 0) = false := by simp; exact c1
      have q2 : (x == notI y) = false := by simp; exact c2
      have q3 : (x == 1) = false := by simp; exact c3
      have q4 : (x == y) = true := by simp; exact c4
      clear hl h; (try clear hnz); (try clear c0); (try clear c1); (try clear c2); (try clear c3); (try clear c4); (try clear c5)
      go_enter Try.func46, Try.ntmps46
      go_wp2_with (first | (go_at_call 54; with_reducible refine (isLiteral_any s.n B s.G.length d x _).mono ?_; rintro e w1 ⟨ht, hb1⟩; obtain rfl := ht.eq_yes HX.out; clear ht; have HF := hid ((HF0.out _ _ _).below hb1); have r0 := HF.out.r0; have r1 := HF.out.r1; have r2 := HF.out.r2; have t0 := HF.out.t0; have t1 := HF.out.t1; have t2 := HF.out.t2; have fr := HF.out.fr 2; have ft0 := HF.out.ft 0; have ft1 := HF.out.ft 1; have ft2 := HF.out.ft 2; have zz := HF.out.size; clear hb1) | (go_at_call 54; with_reducible refine (isLiteral_any s.n B s.G.length d y _).mono ?_; rintro e w1 ⟨ht, hb1⟩; obtain rfl := ht.eq_yes HY.out; clear ht; have HF := hid (HF.out.below hb1); have r0 := HF.out.r0; have r1 := HF.out.r1; have r2 := HF.out.r2; have t0 := HF.out.t0; have t1 := HF.out.t1; have t2 := HF.out.t2; have fr := HF.out.fr 2; have ft0 := HF.out.ft 0; have ft1 := HF.out.ft 1; have ft2 := HF.out.ft 2; have zz := HF.out.size; clear hb1) | (go_at_call 28; refine (rnot_any y _ (by omega) (by omega)).mono ?_; rintro e w9 ⟨rfl, hw9⟩; rw [hw9]; clear hw9 w9))
      refine bodyPost_ret (v := .tuple #[.agg #[.int .i64 s.n, .slice B s.G.length d, .int .i64 s.er], .int .i64 y]) (by simp [results, Try.results46, go_sem, *]) rfl ?_
      rw [HS.out]
      have hbf := (((HF.out.hb.setCell (p := ⟨w.heap.size + 1, 0, none⟩) (by simp) (.int .i64 s.n)).setCell (p := ⟨w.heap.size + 1, 1, none⟩) (by simp) (.slice B s.G.length d)).setCell (p := ⟨w.heap.size + 1, 2, none⟩) (by simp) (.int .i64 s.er))
      exact ⟨_, rfl, ⟨B, d, rfl, HR.out.below hbf, HN.out⟩, hbf⟩
    by_cases c5 : y = 1
    · have HS := hid (show s.and x y = (s, x) from and_right HZ.out hl hnz c5)
      have q0 : (x == 0) = false := by simp; exact c0
      have q1 : (y == 0) = false := by simp; exact c1
      have q2 : (x == notI y) = false := by simp; exact c2
      have q3 : (x == 1) = false := by simp; exact c3
      have q4 : (x == y) = false := by simp; exact c4
      have q5 : (y == 1) = true := by simp; exact c5
      clear hl h; (try clear hnz); (try clear c0); (try clear c1); (try clear c2); (try clear c3); (try clear c4); (try clear c5)
      go_enter Try.func46, Try.ntmps46
      go_wp2_with (first | (go_at_call 54; with_reducible refine (isLiteral_any s.n B s.G.length d x _).mono ?_; rintro e w1 ⟨ht, hb1⟩; obtain rfl := ht.eq_yes HX.out; clear ht; have HF := hid ((HF0.out _ _ _).below hb1); have r0 := HF.out.r0; have r1 := HF.out.r1; have r2 := HF.out.r2; have t0 := HF.out.t0; have t1 := HF.out.t1; have t2 := HF.out.t2; have fr := HF.out.fr 2; have ft0 := HF.out.ft 0; have ft1 := HF.out.ft 1; have ft2 := HF.out.ft 2; have zz := HF.out.size; clear hb1) | (go_at_call 54; with_reducible refine (isLiteral_any s.n B s.G.length d y _).mono ?_; rintro e w1 ⟨ht, hb1⟩; obtain rfl := ht.eq_yes HY.out; clear ht; have HF := hid (HF.out.below hb1); have r0 := HF.out.r0; have r1 := HF.out.r1; have r2 := HF.out.r2; have t0 := HF.out.t0; have t1 := HF.out.t1; have t2 := HF.out.t2; have fr := HF.out.fr 2; have ft0 := HF.out.ft 0; have ft1 := HF.out.ft 1; have ft2 := HF.out.ft 2; have zz := HF.out.size; clear hb1) | (go_at_call 28; refine (rnot_any y _ (by omega) (by omega)).mono ?_; rintro e w9 ⟨rfl, hw9⟩; rw [hw9]; clear hw9 w9))
      refine bodyPost_ret (v := .tuple #[.agg #[.int .i64 s.n, .slice B s.G.length d, .int .i64 s.er], .int .i64 x]) (by simp [results, Try.results46, go_sem, *]) rfl ?_
      rw [HS.out]
      have hbf := (((HF.out.hb.setCell (p := ⟨w.heap.size + 1, 0, none⟩) (by simp) (.int .i64 s.n)).setCell (p := ⟨w.heap.size + 1, 1, none⟩) (by simp) (.slice B s.G.length d)).setCell (p := ⟨w.heap.size + 1, 2, none⟩) (by simp) (.int .i64 s.er))
      exact ⟨_, rfl, ⟨B, d, rfl, HR.out.below hbf, HN.out⟩, hbf⟩
    · exact absurd h (by rintro (h' | h' | h' | h' | h' | h' | h' | h') <;> first | exact h' HZ.out | exact h' hl | contradiction)
  · have hs : s.and x y = ({ s with er := 1 }, 0) := by unfold PB.and; rw [if_neg (by simpa using HZ.out), if_pos hl]
    have HS := hid hs; clear hs h
    by_cases hx : s.lit x
    · have HX := hid (show 0 ≤ x ∧ x < litN s.n s.G.length from by rw [HLN.out]; exact hx)
      have HY := hid (show ¬ (0 ≤ y ∧ y < litN s.n s.G.length) from fun h => hl ⟨hx, by rw [HLN.out] at h; exact h⟩)
      clear hx hl
      go_enter Try.func46, Try.ntmps46
      go_wp2_with (first | (go_at_call 54; with_reducible refine (isLiteral_any s.n B s.G.length d x _).mono ?_; rintro e w1 ⟨ht, hb1⟩; obtain rfl := ht.eq_yes HX.out; clear ht; have HF := hid ((HF0.out _ _ _).below hb1); have r0 := HF.out.r0; have r1 := HF.out.r1; have r2 := HF.out.r2; have t0 := HF.out.t0; have t1 := HF.out.t1; have t2 := HF.out.t2; have fr := HF.out.fr 2; have ft0 := HF.out.ft 0; have ft1 := HF.out.ft 1; have ft2 := HF.out.ft 2; have zz := HF.out.size; clear hb1) | (go_at_call 54; with_reducible refine (isLiteral_any s.n B s.G.length d y _).mono ?_; rintro e w1 ⟨ht, hb1⟩; obtain rfl := ht.eq_no HY.out; clear ht; have HF := hid (HF.out.below hb1); have r0 := HF.out.r0; have r1 := HF.out.r1; have r2 := HF.out.r2; have t0 := HF.out.t0; have t1 := HF.out.t1; have t2 := HF.out.t2; have fr := HF.out.fr 2; have ft0 := HF.out.ft 0; have ft1 := HF.out.ft 1; have ft2 := HF.out.ft 2; have zz := HF.out.size; clear hb1))
      refine bodyPost_ret (v := .tuple #[.agg #[.int .i64 s.n, .slice B s.G.length d, .int .i64 1], .int .i64 0]) (by simp [results, Try.results46, go_sem, *]) rfl ?_
      rw [HS.out]
      have hbf := ((((HF.out.hb.setCell (p := ⟨w.heap.size, 2, none⟩) (by simp) (.int .i64 1)).setCell (p := ⟨w.heap.size + 1, 0, none⟩) (by simp) (.int .i64 s.n)).setCell (p := ⟨w.heap.size + 1, 1, none⟩) (by simp) (.slice B s.G.length d)).setCell (p := ⟨w.heap.size + 1, 2, none⟩) (by simp) (.int .i64 1))
      exact ⟨_, rfl, ⟨B, d, rfl, HR.out.below hbf, HN.out⟩, hbf⟩
    · have HX := hid (show ¬ (0 ≤ x ∧ x < litN s.n s.G.length) from fun h => hx (by rw [HLN.out] at h; exact h))
      clear hx hl
      go_enter Try.func46, Try.ntmps46
      go_wp2_with ((go_at_call 54; with_reducible refine (isLiteral_any s.n B s.G.length d x _).mono ?_; rintro e w1 ⟨ht, hb1⟩; obtain rfl := ht.eq_no HX.out; clear ht; have HF := hid ((HF0.out _ _ _).below hb1); have r0 := HF.out.r0; have r1 := HF.out.r1; have r2 := HF.out.r2; have t0 := HF.out.t0; have t1 := HF.out.t1; have t2 := HF.out.t2; have fr := HF.out.fr 2; have ft0 := HF.out.ft 0; have ft1 := HF.out.ft 1; have ft2 := HF.out.ft 2; have zz := HF.out.size; clear hb1))
      refine bodyPost_ret (v := .tuple #[.agg #[.int .i64 s.n, .slice B s.G.length d, .int .i64 1], .int .i64 0]) (by simp [results, Try.results46, go_sem, *]) rfl ?_
      rw [HS.out]
      have hbf := ((((HF.out.hb.setCell (p := ⟨w.heap.size, 2, none⟩) (by simp) (.int .i64 1)).setCell (p := ⟨w.heap.size + 1, 0, none⟩) (by simp) (.int .i64 s.n)).setCell (p := ⟨w.heap.size + 1, 1, none⟩) (by simp) (.slice B s.G.length d)).setCell (p := ⟨w.heap.size + 1, 2, none⟩) (by simp) (.int .i64 1))
      exact ⟨_, rfl, ⟨B, d, rfl, HR.out.below hbf, HN.out⟩, hbf⟩
end Go.Proofs.Ytelbjendeldlcaa
