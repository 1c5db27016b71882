/- The reference builder's And, where it looks for the gate. -/
import Derived.Test.YtelbjendeldlcaaAC
import Derived.Test.YtelbjendeldlcaaG
namespace Go.Proofs.Ytelbjendeldlcaa
open Go.RowKit
variable {Z : Nat → Prop}

theorem gcells_one' (G : List (Int × Int)) : ∀ u ∈ gcells G, u.oneCell' = true := by
  intro u hu
  simp only [gcells, List.mem_flatMap] at hu
  obtain ⟨g, _, hu⟩ := hu
  simp at hu
  rcases hu with rfl | rfl <;> rfl
theorem own_cap {w : World} {base n c : Nat} {e : TypeId} {size : Nat} {A : Option Addr} {xs : List Value} (h : w.ownsRow base e size (.slice A n c) n xs) : n ≤ c := by
  rcases h.2 with ⟨he, hn⟩ | ⟨g, cap, cur, he, _, _, hn, _⟩
  · omega
  · injection he with _ _ he; subst he; exact hn
theorem findG_at (key : Int × Int) : ∀ (G : List (Int × Int)) (k i : Nat), k < G.length → G.getD k (0, 0) = key → (∀ j, j < k → G.getD j (0, 0) ≠ key) → findG i G key = some (i + k) := by
  intro G
  induction G with
  | nil => intro k i hk; simp at hk
  | cons g G ih =>
    intro k i hk he hj
    unfold findG
    cases k with
    | zero => rw [if_pos (by simpa using he)]; simp
    | succ k =>
      have h0 : g ≠ key := by have := hj 0 (by omega); simpa using this
      rw [if_neg h0, ih k (i + 1) (by simpa using hk) (by simpa using he) (fun j hjk => by have := hj (j + 1) (by omega); simpa using this)]
      congr 1; omega

set_option maxHeartbeats 2000000 in
theorem rand_late {w : World} {s : PB} {v : Value} (hZ : ∀ b, w.heap.size ≤ b → Z b) (hv : RB Z w s v) (hok : s.Ok) (x y : Int) (h0 : s.er = 0) (hl : s.lit x ∧ s.lit y) (hz : ¬ (x = 0 ∨ y = 0 ∨ x = notI y)) (h1 : ¬ (x = 1 ∨ x = y)) (h2 : ¬ y = 1) :
    Calls Try.prog 46 #[v, .int .i64 x, .int .i64 y] w fun e w' => RPost Z w (s.and x y) e w' := by
  have hand := and_rest h0 hl hz h1 h2
  have hLN := PB.litN_eq hok
  have hsz := hok.size; have hlo := hok.lo; have hhi := hok.hi
  obtain ⟨B, d, rfl, hr, hn⟩ := hv
  have HR := hid hr; have HN := hid hn; have HZZ := hid hZ; clear hZ
  have HF0 := hid (fun p q r => F6.start w (.int .i64 s.n) (.slice B s.G.length d) (.int .i64 s.er) p q r 52 52)
  have HX := hid (show 0 ≤ x ∧ x < litN s.n s.G.length from by rw [hLN]; exact hl.1)
  have HY := hid (show 0 ≤ y ∧ y < litN s.n s.G.length from by rw [hLN]; exact hl.2)
  have xb := PB.lit_bd hok hl.1; have yb := PB.lit_bd hok hl.2
  obtain ⟨xb0, xb1⟩ := xb
  obtain ⟨yb0, yb1⟩ := yb
  have yn : 0 ≤ notI y := (PB.lit_not hl.2).1
  have yn2 : notI y ≤ 131073 := by unfold notI; split <;> omega
  have q0 : (x == 0) = false := by simp; exact fun h => hz (Or.inl h)
  have q1 : (y == 0) = false := by simp; exact fun h => hz (Or.inr (Or.inl h))
  have q2 : (x == notI y) = false := by simp; exact fun h => hz (Or.inr (Or.inr h))
  have q3 : (x == 1) = false := by simp; exact fun h => h1 (Or.inl h)
  have q4 : (x == y) = false := by simp; exact fun h => h1 (Or.inr h)
  have q5 : (y == 1) = false := by simp; exact h2
  have q6 : (s.er != 0) = false := by simp [h0]
  have hnod : nodesI s.n s.G.length = 1 + s.n + s.G.length := by unfold nodesI wrap64; omega
  obtain ⟨i0, hi, hz0, hz1, hz2⟩ := info_parts info69
  have v0 : IntKind.i64.wrap (1 + s.n) = 1 + s.n := IntWalk.i64_in _ (by omega)
  have v1 : IntKind.i64.wrap (1 + s.n + s.G.length) = 1 + s.n + s.G.length := IntWalk.i64_in _ (by omega)
  have v2 : IntKind.i64.wrap (2 * (1 + s.n + s.G.length)) = 2 * (1 + s.n + s.G.length) := IntWalk.i64_in _ (by omega)
  obtain ⟨p, hp⟩ : ∃ p, min x y = p := ⟨_, rfl⟩
  obtain ⟨q, hq⟩ : ∃ q, max x y = q := ⟨_, rfl⟩
  rw [hp, hq] at hand
  have q7 : (if y < x then y else x) = p := by rw [← hp]; split <;> omega
  have q8 : (if x < y then y else x) = q := by rw [← hq]; split <;> omega
  have HAND := hid hand; have HNOD := hid hnod
  clear hp hq hand hnod hr hn hLN hl hz h1 h2 h0 hok
  go_enter Try.func46, Try.ntmps46
  go_wp2_with (first | (go_at_call 54; with_reducible refine (isLiteral_any s.n B s.G.length d x _).mono ?_; rintro e w1 ⟨ht, hb1⟩; obtain rfl := ht.eq_yes HX.out; clear ht; have HF := hid ((HF0.out _ _ _).below hb1); have r0 := HF.out.r0; have r1 := HF.out.r1; have r2 := HF.out.r2; have t0 := HF.out.t0; have t1 := HF.out.t1; have t2 := HF.out.t2; have fr := HF.out.fr 2; have ft0 := HF.out.ft 0; have ft1 := HF.out.ft 1; have ft2 := HF.out.ft 2; have zz := HF.out.size; clear hb1) | (go_at_call 54; with_reducible refine (isLiteral_any s.n B s.G.length d y _).mono ?_; rintro e w1 ⟨ht, hb1⟩; obtain rfl := ht.eq_yes HY.out; clear ht; have HF := hid (HF.out.below hb1); have r0 := HF.out.r0; have r1 := HF.out.r1; have r2 := HF.out.r2; have t0 := HF.out.t0; have t1 := HF.out.t1; have t2 := HF.out.t2; have fr := HF.out.fr 2; have ft0 := HF.out.ft 0; have ft1 := HF.out.ft 1; have ft2 := HF.out.ft 2; have zz := HF.out.size; clear hb1) | (go_at_call 28; refine (rnot_any y _ (by omega) (by omega)).mono ?_; rintro e w9 ⟨rfl, hw9⟩; rw [hw9]; clear hw9 w9))
  have HW1 := hid (F6.below HF.out (below_alloc w1 (.cells #[.int .i64 p, .int .i64 q] 69)))
  obtain ⟨w2, hw2⟩ : ∃ w2, w2 = w1.alloc (.cells #[.int .i64 p, .int .i64 q] 69) := ⟨_, rfl⟩
  have g0 : w2.cell? ⟨w1.heap.size, 0, none⟩ = some (.int .i64 p) := by rw [hw2]; go_simp
  have g1 : w2.cell? ⟨w1.heap.size, 1, none⟩ = some (.int .i64 q) := by rw [hw2]; go_simp
  rw [← hw2] at HW1
  rw [← hw2]
  clear hw2
  have r0 := HW1.out.r0; have r1 := HW1.out.r1; have r2 := HW1.out.r2; have t0 := HW1.out.t0; have t1 := HW1.out.t1; have t2 := HW1.out.t2; have fr := HW1.out.fr 2; have ft0 := HW1.out.ft 0; have ft1 := HW1.out.ft 1; have ft2 := HW1.out.ft 2; have zz := HW1.out.size
  go_loopw [9] (fun i wr => ∃ k : Nat, k ≤ s.G.length ∧ i = .int .i64 k ∧ (∃ q', wr = w2.drewN q') ∧ ∀ j, j < k → s.G.getD j (0, 0) ≠ (p, q))
    (fun i _ => s.G.length - (intOf i).toNat)
  case atStart => exact ⟨0, by omega, rfl, ⟨0, rfl⟩, fun j hj => by omega⟩
  case round =>
    obtain ⟨k, hk, rfl, ⟨q', rfl⟩, hall⟩ := hrel
    have HA := hid hall; clear hall
    by_cases hlt : k < s.G.length
    · obtain ⟨sb, so, rfl, gx, gy⟩ := HR.out.gate k hlt
      obtain ⟨x', hx'⟩ : ∃ x', x' = (s.G.getD k (0, 0)).1 := ⟨_, rfl⟩
      obtain ⟨y', hy'⟩ : ∃ y', y' = (s.G.getD k (0, 0)).2 := ⟨_, rfl⟩
      rw [← hx'] at gx; rw [← hy'] at gy
      have hg : s.G.getD k (0, 0) = (x', y') := by rw [hx', hy']
      have HG := hid hg; clear hg hx' hy'
      have gx := below_cell HW1.out.hb gx
      have gy := below_cell HW1.out.hb gy
      have i1 : (0 : Int) ≤ k := by omega
      have i2 : (k : Int) < s.G.length := by omega
      have hgd := fun op P Q W => guard69 op P Q x' y' p q W
      have heq := fun W => eql69 x' y' p q W
      by_cases e5 : (x', y') = (p, q)
      · have hT : (x' == p && y' == q) = true := by obtain ⟨rfl, rfl⟩ := Prod.mk.inj e5; simp
        simp only [hT] at heq
        have HE5 := hid e5; clear e5 hT
        go_wp2_with fail
        go_big_quiet (fail)
        go_wp2_with fail
        refine wp_region_J (fun j => match j with | 8 => some (fun W => W.cell? ⟨w.heap.size, 0, none⟩ = some (.int .i64 s.n) ∧ W.cell? ⟨w.heap.size, 1, none⟩ = some (.slice (some ⟨sb, so, none⟩) s.G.length d) ∧ W.cell? ⟨w.heap.size, 2, none⟩ = some (.int .i64 s.er)) | _ => none) (by kernel_rfl) ?_
        refine anyJ_take (some 78) (i := 0) (T := fun W => W.cell? ⟨w.heap.size, 0, none⟩ = some (.int .i64 s.n) ∧ W.cell? ⟨w.heap.size, 1, none⟩ = some (.slice (some ⟨sb, so, none⟩) s.G.length d) ∧ W.cell? ⟨w.heap.size, 2, none⟩ = some (.int .i64 s.er)) (v := ?_) rfl rfl (by kernel_rfl) (by kernel_rfl) (by kernel_rfl) (fun _ _ _ h => h) (js := []) (by kernel_rfl) Leads.nil rfl (Or.inl ⟨by rfl, ?_⟩) (⟨by go_simp, by go_simp, by go_simp⟩) ?_
        rotate_left
        · (intro wL hSw; (try dsimp only at hSw); go_simp; try with_reducible rfl)
        try simp only [Act.put, List.setIfInBounds_toArray, List.set_cons_zero, List.set_cons_succ]
        refine anyJ_take (some 79) (i := 1) (T := fun _ => True) (v := ?_) rfl rfl (by kernel_rfl) (by kernel_rfl) (by kernel_rfl) (fun _ _ _ h => h) (js := [8]) (by kernel_rfl) Leads.true rfl (Or.inl ⟨by rfl, ?_⟩) trivial ?_
        rotate_left
        · (intro wL hSw; (try dsimp only at hSw); go_simp; try with_reducible rfl)
        try simp only [Act.put, List.setIfInBounds_toArray, List.set_cons_zero, List.set_cons_succ]
        refine anyJ_take (some 80) (i := 2) (T := fun _ => True) (v := ?_) rfl rfl (by kernel_rfl) (by kernel_rfl) (by kernel_rfl) (fun _ _ _ h => h) (js := [8]) (by kernel_rfl) Leads.true rfl (Or.inl ⟨by rfl, ?_⟩) trivial ?_
        rotate_left
        · (intro wL hSw; (try dsimp only at hSw); go_simp; try with_reducible rfl)
        try simp only [Act.put, List.setIfInBounds_toArray, List.set_cons_zero, List.set_cons_succ]
        refine anyJ_take (some 81) (i := 3) (T := fun W => W.cell? ⟨w.heap.size, 0, none⟩ = some (.int .i64 s.n)) (v := ?_) rfl rfl (by kernel_rfl) (by kernel_rfl) (by kernel_rfl) (fun _ _ _ h => h) (js := [8]) (by kernel_rfl) (Leads.cons _ rfl (fun w h => h.1) Leads.nil) rfl (Or.inl ⟨by rfl, ?_⟩) (by go_simp) ?_
        rotate_left
        · (intro wL hSw; (try dsimp only at hSw); go_simp; try with_reducible rfl)
        try simp only [Act.put, List.setIfInBounds_toArray, List.set_cons_zero, List.set_cons_succ]
        refine anyJ_take (some 82) (i := 4) (T := fun _ => True) (v := ?_) rfl rfl (by kernel_rfl) (by kernel_rfl) (by kernel_rfl) (fun _ _ _ h => h) (js := [8]) (by kernel_rfl) Leads.true rfl (Or.inl ⟨by rfl, ?_⟩) trivial ?_
        rotate_left
        · (intro wL hSw; (try dsimp only at hSw); go_simp; try with_reducible rfl)
        try simp only [Act.put, List.setIfInBounds_toArray, List.set_cons_zero, List.set_cons_succ]
        refine anyJ_take (some 83) (i := 5) (T := fun _ => True) (v := ?_) rfl rfl (by kernel_rfl) (by kernel_rfl) (by kernel_rfl) (fun _ _ _ h => h) (js := [8]) (by kernel_rfl) Leads.true rfl (Or.inl ⟨by rfl, ?_⟩) trivial ?_
        rotate_left
        · (intro wL hSw; (try dsimp only at hSw); go_simp; try with_reducible rfl)
        try simp only [Act.put, List.setIfInBounds_toArray, List.set_cons_zero, List.set_cons_succ]
        refine anyJ_take (some 84) (i := 6) (T := fun _ => True) (v := ?_) rfl rfl (by kernel_rfl) (by kernel_rfl) (by kernel_rfl) (fun _ _ _ h => h) (js := [8]) (by kernel_rfl) Leads.true rfl (Or.inl ⟨by rfl, ?_⟩) trivial ?_
        rotate_left
        · (intro wL hSw; (try dsimp only at hSw); go_simp; try with_reducible rfl)
        try simp only [Act.put, List.setIfInBounds_toArray, List.set_cons_zero, List.set_cons_succ]
        refine anyJ_take (some 85) (i := 7) (T := fun _ => True) (v := ?_) rfl rfl (by kernel_rfl) (by kernel_rfl) (by kernel_rfl) (fun _ _ _ h => h) (js := [8]) (by kernel_rfl) Leads.true rfl (Or.inl ⟨by rfl, ?_⟩) trivial ?_
        rotate_left
        · (intro wL hSw; (try dsimp only at hSw); go_simp; try with_reducible rfl)
        try simp only [Act.put, List.setIfInBounds_toArray, List.set_cons_zero, List.set_cons_succ]
        refine anyJ_one (i := 8) (oi := { dst := none, op := Go.Op.store 52 (Go.Operand.tmp 6) (Go.Operand.tmp 78), type := 0, pos := "ref.go:67", after := #[{ on := 0, ground := Go.Ground.data }, { on := 0, ground := Go.Ground.phase }, { on := 1, ground := Go.Ground.textOnly Go.Departure.lateStores }, { on := 2, ground := Go.Ground.textOnly Go.Departure.lateStores }, { on := 3, ground := Go.Ground.textOnly Go.Departure.lateStores }, { on := 4, ground := Go.Ground.textOnly Go.Departure.lateStores }, { on := 5, ground := Go.Ground.textOnly Go.Departure.lateStores }, { on := 6, ground := Go.Ground.textOnly Go.Departure.lateStores }, { on := 7, ground := Go.Ground.textOnly Go.Departure.lateStores }], guard := none }) rfl (by kernel_rfl) (by rfl) (fun K hK => ?_)
        go_simp
        refine hK.out _ _ (by dsimp only [Obl]; exact ⟨by go_simp, by go_simp, by go_simp⟩) ?_
        clear hK K
        try simp only [Act.put, List.setIfInBounds_toArray, List.set_cons_zero, List.set_cons_succ]
        refine anyJ_take (some 7) (i := 9) (T := fun _ => True) (v := ?_) rfl rfl (by kernel_rfl) (by kernel_rfl) (by kernel_rfl) (fun _ _ _ h => h) (js := [8]) (by kernel_rfl) Leads.true rfl (Or.inl ⟨by rfl, ?_⟩) trivial ?_
        rotate_left
        · (intro wL hSw; (try dsimp only at hSw); go_simp; try with_reducible rfl)
        try simp only [Act.put, List.setIfInBounds_toArray, List.set_cons_zero, List.set_cons_succ]
        refine anyJ_done (by kernel_rfl) ?_
        go_wp2_with fail
        have hs : s.and x y = (s, 2 * (1 + s.n + (k : Int))) := by
          rw [HAND.out, findG_at (p, q) s.G k 0 hlt (HG.out.trans HE5.out) HA.out]; simp
        have HS := hid hs; clear hs
        have v3 : IntKind.i64.wrap (1 + s.n + k) = 1 + s.n + k := IntWalk.i64_in _ (by omega)
        have v4 : IntKind.i64.wrap (2 * (1 + s.n + k)) = 2 * (1 + s.n + k) := IntWalk.i64_in _ (by omega)
        refine bodyPost_ret (v := .tuple #[.agg #[.int .i64 s.n, .slice (some ⟨sb, so, none⟩) s.G.length d, .int .i64 s.er], .int .i64 (2 * (1 + s.n + (k : Int)))]) (by simp [results, Try.results46, go_sem, *]) rfl ?_
        rw [HS.out]
        have hbf := fun m => (((bthen HW1.out.hb (below_drewN w2 m)).setCell (p := ⟨w.heap.size + 1, 0, none⟩) (by simp) (.int .i64 s.n)).setCell (p := ⟨w.heap.size + 1, 1, none⟩) (by simp) (.slice (some ⟨sb, so, none⟩) s.G.length d)).setCell (p := ⟨w.heap.size + 1, 2, none⟩) (by simp) (.int .i64 s.er)
        exact ⟨_, rfl, ⟨_, d, rfl, HR.out.below (hbf _), HN.out⟩, hbf _⟩
      · have hT : (x' == p && y' == q) = false := by
          rw [Bool.and_eq_false_iff]; simp only [beq_eq_false_iff_ne]
          by_cases hax : x' = p
          · right; intro hby; exact e5 (by rw [hax, hby])
          · left; exact hax
        simp only [hT] at heq
        have HE5 := hid e5; clear e5 hT
        go_wp2_with fail
        go_big_quiet (fail)
        go_wp2_with fail
        refine ⟨⟨k + 1, by omega, by go_num, ⟨_, rfl⟩, fun j hj => ?_⟩, by simp [intOf]; omega⟩
        by_cases hjk : j = k
        · subst hjk; rw [HG.out]; exact HE5.out
        · exact HA.out j (by omega)
    · obtain rfl : k = s.G.length := by omega
      have hnf : findG 0 s.G (p, q) = none := by
        rw [findG_none]; intro hm
        obtain ⟨j, hj, he⟩ := List.mem_iff_getElem.1 hm
        exact HA.out j hj (by rw [List.getD_eq_getElem?_getD, List.getElem?_eq_getElem hj, he]; rfl)
      have HNF := hid hnf; clear hnf hk hlt
      by_cases hbig : 65536 ≤ 1 + s.n + (s.G.length : Int)
      · have hs : s.and x y = ({ s with er := 8 }, 0) := by rw [HAND.out, HNF.out]; simp only []; rw [if_pos hbig]
        have HS := hid hs; clear hs
        go_wp2_with (go_at_call 26; refine (rnodes_any _ _ _ _ _).mono ?_; rw [HNOD.out]; rintro e w5 ⟨rfl, hb5⟩; have hb25 := bthen (below_drewN w2 q') hb5; have HF5 := hid (F6.below HW1.out hb25); have g0 := below_cell hb25 g0; have g1 := below_cell hb25 g1; have r0 := HF5.out.r0; have r1 := HF5.out.r1; have r2 := HF5.out.r2; have t0 := HF5.out.t0; have t1 := HF5.out.t1; have t2 := HF5.out.t2; have fr1 := HF5.out.fr 1; have fr := HF5.out.fr 2; have ft0 := HF5.out.ft 0; have ft1 := HF5.out.ft 1; have ft2 := HF5.out.ft 2; have zz := HF5.out.size; have xx : w.heap.size < w5.heap.size := Nat.lt_of_succ_lt HF5.out.size; have yy := lt_of_cell g0; dsimp only at yy; clear hb5 hb25)
        refine bodyPost_ret (v := .tuple #[.agg #[.int .i64 s.n, .slice B s.G.length d, .int .i64 8], .int .i64 0]) (by simp [results, Try.results46, go_sem, *]) rfl ?_
        rw [HS.out]
        have hbf := ((((HF5.out.hb.setCell (p := ⟨w.heap.size, 2, none⟩) (by simp) (.int .i64 8)).setCell (p := ⟨w.heap.size + 1, 0, none⟩) (by simp) (.int .i64 s.n)).setCell (p := ⟨w.heap.size + 1, 1, none⟩) (by simp) (.slice B s.G.length d)).setCell (p := ⟨w.heap.size + 1, 2, none⟩) (by simp) (.int .i64 8))
        exact ⟨_, rfl, ⟨B, d, rfl, HR.out.below hbf, HN.out⟩, hbf⟩
      · have hbig' : decide (65536 ≤ 1 + s.n + (s.G.length : Int)) = false := by simp; omega
        by_cases hnil : s.G = []
        · obtain ⟨rfl, rfl⟩ := HN.out.1 hnil
          have hl0 : s.G.length = 0 := by rw [hnil]; rfl
          have HL0 := hid hl0
          have HNOD0 := hid (show nodesI s.n 0 = 1 + s.n from by have := HNOD.out; rw [hl0] at this; simpa using this)
          have hb0 : decide (65536 ≤ 1 + s.n) = false := by simp; omega
          have v5 : IntKind.i64.wrap (2 * (1 + s.n)) = 2 * (1 + s.n) := IntWalk.i64_in _ (by omega)
          clear hnil
          go_wp2_with (go_at_call 26; refine (rnodes_any _ _ _ _ _).mono ?_; rw [HNOD0.out]; rintro e w5 ⟨rfl, hb5⟩; have hb25 := bthen (below_drewN w2 q') hb5; have HF5 := hid (F6.below HW1.out hb25); have g0 := below_cell hb25 g0; have g1 := below_cell hb25 g1; have r0 := HF5.out.r0; have r1 := HF5.out.r1; have r2 := HF5.out.r2; have t0 := HF5.out.t0; have t1 := HF5.out.t1; have t2 := HF5.out.t2; have fr1 := HF5.out.fr 1; have fr := HF5.out.fr 2; have ft0 := HF5.out.ft 0; have ft1 := HF5.out.ft 1; have ft2 := HF5.out.ft 2; have zz := HF5.out.size; have xx : w.heap.size < w5.heap.size := Nat.lt_of_succ_lt HF5.out.size; have yy := lt_of_cell g0; dsimp only at yy; clear hb5 hb25)
          rw [hl0] at r1
          refine wp_region_J (fun j => match j with | 7 => some (fun W => W.cell? ⟨w.heap.size, 1, none⟩ = some (.slice none 0 0) ∧ W.cell? ⟨w1.heap.size, 0, none⟩ = some (.int .i64 p) ∧ W.cell? ⟨w1.heap.size, 1, none⟩ = some (.int .i64 q)) | 8 => some (fun _ => True) | 11 => some (fun _ => True) | _ => none) (by kernel_rfl) ?_
          refine anyJ_take (some 96) (i := 0) (T := fun _ => True) (v := ?_) rfl rfl (by kernel_rfl) (by kernel_rfl) (by kernel_rfl) (fun _ _ _ h => h) (js := [7]) (by kernel_rfl) Leads.true rfl (Or.inl ⟨by rfl, ?_⟩) trivial ?_
          rotate_left
          · (intro wL hSw; (try dsimp only at hSw); go_simp; try with_reducible rfl)
          try simp only [Act.put, List.setIfInBounds_toArray, List.set_cons_zero, List.set_cons_succ]
          refine anyJ_take (some 97) (i := 1) (T := fun _ => True) (v := ?_) rfl rfl (by kernel_rfl) (by kernel_rfl) (by kernel_rfl) (fun _ _ _ h => h) (js := [7]) (by kernel_rfl) Leads.true rfl (Or.inl ⟨by rfl, ?_⟩) trivial ?_
          rotate_left
          · (intro wL hSw; (try dsimp only at hSw); go_simp; try with_reducible rfl)
          try simp only [Act.put, List.setIfInBounds_toArray, List.set_cons_zero, List.set_cons_succ]
          refine anyJ_take (some 98) (i := 2) (T := fun W => W.cell? ⟨w.heap.size, 1, none⟩ = some (.slice none 0 0)) (v := ?_) rfl rfl (by kernel_rfl) (by kernel_rfl) (by kernel_rfl) (fun _ _ _ h => h) (js := [7]) (by kernel_rfl) (Leads.cons _ rfl (fun w h => h.1) Leads.nil) rfl (Or.inl ⟨by rfl, ?_⟩) (by go_simp) ?_
          rotate_left
          · (intro wL hSw; (try dsimp only at hSw); go_simp; try with_reducible rfl)
          try simp only [Act.put, List.setIfInBounds_toArray, List.set_cons_zero, List.set_cons_succ]
          refine anyJ_take (some 99) (i := 3) (T := fun _ => True) (v := ?_) rfl rfl (by kernel_rfl) (by kernel_rfl) (by kernel_rfl) (fun _ _ _ h => h) (js := [7]) (by kernel_rfl) Leads.true rfl (Or.inl ⟨by rfl, ?_⟩) trivial ?_
          rotate_left
          · (intro wL hSw; (try dsimp only at hSw); go_simp; try with_reducible rfl)
          try simp only [Act.put, List.setIfInBounds_toArray, List.set_cons_zero, List.set_cons_succ]
          refine anyJ_take (some 100) (i := 4) (T := fun _ => True) (v := ?_) rfl rfl (by kernel_rfl) (by kernel_rfl) (by kernel_rfl) (fun _ _ _ h => h) (js := [7]) (by kernel_rfl) Leads.true rfl (Or.inl ⟨by rfl, ?_⟩) trivial ?_
          rotate_left
          · (intro wL hSw; (try dsimp only at hSw); go_simp; try with_reducible rfl)
          try simp only [Act.put, List.setIfInBounds_toArray, List.set_cons_zero, List.set_cons_succ]
          refine anyJ_take (some 101) (i := 5) (T := fun _ => True) (v := ?_) rfl rfl (by kernel_rfl) (by kernel_rfl) (by kernel_rfl) (fun _ _ _ h => h) (js := [7]) (by kernel_rfl) Leads.true rfl (Or.inl ⟨by rfl, ?_⟩) trivial ?_
          rotate_left
          · (intro wL hSw; (try dsimp only at hSw); go_simp; try with_reducible rfl)
          try simp only [Act.put, List.setIfInBounds_toArray, List.set_cons_zero, List.set_cons_succ]
          refine anyJ_take (some 102) (i := 6) (T := fun W => W.cell? ⟨w1.heap.size, 0, none⟩ = some (.int .i64 p) ∧ W.cell? ⟨w1.heap.size, 1, none⟩ = some (.int .i64 q)) (v := ?_) rfl rfl (by kernel_rfl) (by kernel_rfl) (by kernel_rfl) (fun _ _ _ h => h) (js := []) (by kernel_rfl) Leads.nil rfl (Or.inl ⟨by rfl, ?_⟩) (⟨by go_simp, by go_simp⟩) ?_
          rotate_left
          · (intro wL hSw; (try dsimp only at hSw); go_simp; try with_reducible rfl)
          try simp only [Act.put, List.setIfInBounds_toArray, List.set_cons_zero, List.set_cons_succ]
          refine anyJ_one (i := 7) (oi := { dst := some 103, op := Go.Op.buildSlice 22 1 #[(0, Go.Operand.tmp 102)], type := 22, pos := "ref.go:75", after := #[{ on := 6, ground := Go.Ground.data }], guard := none }) rfl (by kernel_rfl) (by rfl) (fun K hK => ?_)
          go_simp
          refine hK.out _ _ (by dsimp only [Obl]; exact ⟨by go_simp, by go_simp, by go_simp⟩) ?_
          clear hK K
          try simp only [Act.put, List.setIfInBounds_toArray, List.set_cons_zero, List.set_cons_succ]
          refine anyJ_one (i := 8) (oi := { dst := some 104, op := Go.Op.call { callee := Go.Callee.builtin Go.Builtin.append, args := #[Go.Operand.tmp 101, Go.Operand.tmp 103], argTypes := #[22, 22] }, type := 22, pos := "ref.go:75", after := #[{ on := 5, ground := Go.Ground.data }, { on := 7, ground := Go.Ground.data }], guard := none }) rfl (by kernel_rfl) (by rfl) (fun K hK => ?_)
          have HF8 := hid (F6.below HF5.out (bthen (below_drew' w5) (below_alloc _ (.cells #[.int .i64 p, .int .i64 q] 69))))
          have HR8 := hid (HR.out.below HF8.out.hb)
          refine wp_append_full (.tmp 101) (.tmp 103) 22 rfl 69 i0 (.agg #[.int .i64 0, .int .i64 0]) 2 16 Try.underlying22 hi hz0 hz1 hz2 rfl (by decide) none 0 (gcells s.G) rfl (by rw [gcells_length]; first | omega | (rw [HL0.out])) HR8.out.row (fun _ => rfl) ⟨w5.heap.size, 0, none⟩ 1 1 [.int .i64 p, .int .i64 q] rfl (by decide) rfl (news_two _ _ _ _) (gcells_one' [(p, q)]) (by unfold maxLen; omega) (by omega) ?_
          intro A' c' w6 hown6 hb6
          refine hK.out _ _ trivial ?_
          clear hK K
          have HF6 := hid (HF8.out.below hb6); have HOWN6 := hid hown6; clear hown6 hb6
          have r0 := HF6.out.r0; have r1 := HF6.out.r1; have r2 := HF6.out.r2; have t0 := HF6.out.t0; have t1 := HF6.out.t1; have t2 := HF6.out.t2; have fr1 := HF6.out.fr 1; have ft0 := HF6.out.ft 0; have ft1 := HF6.out.ft 1; have ft2 := HF6.out.ft 2; have zz := HF6.out.size
          try simp only [Act.put, List.setIfInBounds_toArray, List.set_cons_zero, List.set_cons_succ]
          refine anyJ_take (some 105) (i := 9) (T := fun _ => True) (v := ?_) rfl rfl (by kernel_rfl) (by kernel_rfl) (by kernel_rfl) (fun _ _ _ h => h) (js := [7, 8]) (by kernel_rfl) Leads.true rfl (Or.inl ⟨by rfl, ?_⟩) trivial ?_
          rotate_left
          · (intro wL hSw; (try dsimp only at hSw); go_simp; try with_reducible rfl)
          try simp only [Act.put, List.setIfInBounds_toArray, List.set_cons_zero, List.set_cons_succ]
          refine anyJ_take (some 106) (i := 10) (T := fun _ => True) (v := ?_) rfl rfl (by kernel_rfl) (by kernel_rfl) (by kernel_rfl) (fun _ _ _ h => h) (js := [7, 8]) (by kernel_rfl) Leads.true rfl (Or.inl ⟨by rfl, ?_⟩) trivial ?_
          rotate_left
          · (intro wL hSw; (try dsimp only at hSw); go_simp; try with_reducible rfl)
          try simp only [Act.put, List.setIfInBounds_toArray, List.set_cons_zero, List.set_cons_succ]
          refine anyJ_one (i := 11) (oi := { dst := none, op := Go.Op.store 22 (Go.Operand.tmp 106) (Go.Operand.tmp 104), type := 0, pos := "ref.go:75", after := #[{ on := 10, ground := Go.Ground.data }, { on := 8, ground := Go.Ground.data }, { on := 8, ground := Go.Ground.chain }, { on := 0, ground := Go.Ground.phase }, { on := 1, ground := Go.Ground.phase }, { on := 2, ground := Go.Ground.phase }, { on := 3, ground := Go.Ground.phase }, { on := 4, ground := Go.Ground.phase }, { on := 5, ground := Go.Ground.phase }, { on := 6, ground := Go.Ground.phase }, { on := 7, ground := Go.Ground.phase }, { on := 8, ground := Go.Ground.phase }], guard := none }) rfl (by kernel_rfl) (by rfl) (fun K hK => ?_)
          go_simp
          refine hK.out _ _ trivial ?_
          clear hK K
          try simp only [Act.put, List.setIfInBounds_toArray, List.set_cons_zero, List.set_cons_succ]
          refine anyJ_done (by kernel_rfl) ?_
          go_wp2_with fail
          refine wp_region_J (fun j => match j with | 8 => some (fun W => W.cell? ⟨w.heap.size, 0, none⟩ = some (.int .i64 s.n) ∧ W.cell? ⟨w.heap.size, 1, none⟩ = some (.slice A' (0 + 1) c') ∧ W.cell? ⟨w.heap.size, 2, none⟩ = some (.int .i64 s.er)) | _ => none) (by kernel_rfl) ?_
          refine anyJ_take (some 107) (i := 0) (T := fun W => W.cell? ⟨w.heap.size, 0, none⟩ = some (.int .i64 s.n) ∧ W.cell? ⟨w.heap.size, 1, none⟩ = some (.slice A' (0 + 1) c') ∧ W.cell? ⟨w.heap.size, 2, none⟩ = some (.int .i64 s.er)) (v := ?_) rfl rfl (by kernel_rfl) (by kernel_rfl) (by kernel_rfl) (fun _ _ _ h => h) (js := []) (by kernel_rfl) Leads.nil rfl (Or.inl ⟨by rfl, ?_⟩) (⟨by go_simp, by go_simp, by go_simp⟩) ?_
          rotate_left
          · (intro wL hSw; (try dsimp only at hSw); go_simp; try with_reducible rfl)
          try simp only [Act.put, List.setIfInBounds_toArray, List.set_cons_zero, List.set_cons_succ]
          refine anyJ_take (some 108) (i := 1) (T := fun _ => True) (v := ?_) rfl rfl (by kernel_rfl) (by kernel_rfl) (by kernel_rfl) (fun _ _ _ h => h) (js := [8]) (by kernel_rfl) Leads.true rfl (Or.inl ⟨by rfl, ?_⟩) trivial ?_
          rotate_left
          · (intro wL hSw; (try dsimp only at hSw); go_simp; try with_reducible rfl)
          try simp only [Act.put, List.setIfInBounds_toArray, List.set_cons_zero, List.set_cons_succ]
          refine anyJ_take (some 109) (i := 2) (T := fun _ => True) (v := ?_) rfl rfl (by kernel_rfl) (by kernel_rfl) (by kernel_rfl) (fun _ _ _ h => h) (js := [8]) (by kernel_rfl) Leads.true rfl (Or.inl ⟨by rfl, ?_⟩) trivial ?_
          rotate_left
          · (intro wL hSw; (try dsimp only at hSw); go_simp; try with_reducible rfl)
          try simp only [Act.put, List.setIfInBounds_toArray, List.set_cons_zero, List.set_cons_succ]
          refine anyJ_take (some 110) (i := 3) (T := fun W => W.cell? ⟨w.heap.size, 0, none⟩ = some (.int .i64 s.n)) (v := ?_) rfl rfl (by kernel_rfl) (by kernel_rfl) (by kernel_rfl) (fun _ _ _ h => h) (js := [8]) (by kernel_rfl) (Leads.cons _ rfl (fun w h => h.1) Leads.nil) rfl (Or.inl ⟨by rfl, ?_⟩) (by go_simp) ?_
          rotate_left
          · (intro wL hSw; (try dsimp only at hSw); go_simp; try with_reducible rfl)
          try simp only [Act.put, List.setIfInBounds_toArray, List.set_cons_zero, List.set_cons_succ]
          refine anyJ_take (some 111) (i := 4) (T := fun _ => True) (v := ?_) rfl rfl (by kernel_rfl) (by kernel_rfl) (by kernel_rfl) (fun _ _ _ h => h) (js := [8]) (by kernel_rfl) Leads.true rfl (Or.inl ⟨by rfl, ?_⟩) trivial ?_
          rotate_left
          · (intro wL hSw; (try dsimp only at hSw); go_simp; try with_reducible rfl)
          try simp only [Act.put, List.setIfInBounds_toArray, List.set_cons_zero, List.set_cons_succ]
          refine anyJ_take (some 112) (i := 5) (T := fun _ => True) (v := ?_) rfl rfl (by kernel_rfl) (by kernel_rfl) (by kernel_rfl) (fun _ _ _ h => h) (js := [8]) (by kernel_rfl) Leads.true rfl (Or.inl ⟨by rfl, ?_⟩) trivial ?_
          rotate_left
          · (intro wL hSw; (try dsimp only at hSw); go_simp; try with_reducible rfl)
          try simp only [Act.put, List.setIfInBounds_toArray, List.set_cons_zero, List.set_cons_succ]
          refine anyJ_take (some 113) (i := 6) (T := fun _ => True) (v := ?_) rfl rfl (by kernel_rfl) (by kernel_rfl) (by kernel_rfl) (fun _ _ _ h => h) (js := [8]) (by kernel_rfl) Leads.true rfl (Or.inl ⟨by rfl, ?_⟩) trivial ?_
          rotate_left
          · (intro wL hSw; (try dsimp only at hSw); go_simp; try with_reducible rfl)
          try simp only [Act.put, List.setIfInBounds_toArray, List.set_cons_zero, List.set_cons_succ]
          refine anyJ_take (some 114) (i := 7) (T := fun _ => True) (v := ?_) rfl rfl (by kernel_rfl) (by kernel_rfl) (by kernel_rfl) (fun _ _ _ h => h) (js := [8]) (by kernel_rfl) Leads.true rfl (Or.inl ⟨by rfl, ?_⟩) trivial ?_
          rotate_left
          · (intro wL hSw; (try dsimp only at hSw); go_simp; try with_reducible rfl)
          try simp only [Act.put, List.setIfInBounds_toArray, List.set_cons_zero, List.set_cons_succ]
          refine anyJ_one (i := 8) (oi := { dst := none, op := Go.Op.store 52 (Go.Operand.tmp 6) (Go.Operand.tmp 107), type := 0, pos := "ref.go:76", after := #[{ on := 0, ground := Go.Ground.data }, { on := 0, ground := Go.Ground.phase }, { on := 1, ground := Go.Ground.textOnly Go.Departure.lateStores }, { on := 2, ground := Go.Ground.textOnly Go.Departure.lateStores }, { on := 3, ground := Go.Ground.textOnly Go.Departure.lateStores }, { on := 4, ground := Go.Ground.textOnly Go.Departure.lateStores }, { on := 5, ground := Go.Ground.textOnly Go.Departure.lateStores }, { on := 6, ground := Go.Ground.textOnly Go.Departure.lateStores }, { on := 7, ground := Go.Ground.textOnly Go.Departure.lateStores }], guard := none }) rfl (by kernel_rfl) (by rfl) (fun K hK => ?_)
          go_simp
          refine hK.out _ _ (by dsimp only [Obl]; exact ⟨by go_simp, by go_simp, by go_simp⟩) ?_
          clear hK K
          try simp only [Act.put, List.setIfInBounds_toArray, List.set_cons_zero, List.set_cons_succ]
          refine anyJ_take (some 7) (i := 9) (T := fun _ => True) (v := ?_) rfl rfl (by kernel_rfl) (by kernel_rfl) (by kernel_rfl) (fun _ _ _ h => h) (js := [8]) (by kernel_rfl) Leads.true rfl (Or.inl ⟨by rfl, ?_⟩) trivial ?_
          rotate_left
          · (intro wL hSw; (try dsimp only at hSw); go_simp; try with_reducible rfl)
          try simp only [Act.put, List.setIfInBounds_toArray, List.set_cons_zero, List.set_cons_succ]
          refine anyJ_done (by kernel_rfl) ?_
          go_wp2_with fail
          have hs : s.and x y = ({ s with G := s.G ++ [(p, q)] }, 2 * (1 + s.n + (s.G.length : Int))) := by
            rw [HAND.out, HNF.out]; simp only []; rw [if_neg (by omega)]
          have HS := hid hs; clear hs
          refine bodyPost_ret (v := .tuple #[.agg #[.int .i64 s.n, .slice A' (0 + 1) c', .int .i64 s.er], .int .i64 (2 * (1 + s.n + (s.G.length : Int)))]) (by simp [results, Try.results46, go_sem, *]) rfl ?_
          rw [HS.out]
          have hne : ∀ b, b ≤ w.heap.size + 1 → some b ≠ (Value.slice A' (0 + 1) c').ownBlock := fun b hb e => by have := (HOWN6.out.lt b e.symm).1; have := HF5.out.size; simp at *; omega
          have o1 := own_setCell (j := 1) (u := .slice A' (0 + 1) c') HOWN6.out (hne w.heap.size (by omega))
          have o2 := own_setCell (j := 0) (u := .int .i64 s.n) (show ((w6.setCell ⟨w.heap.size, 1, none⟩ (.slice A' (0 + 1) c')).drew).ownsRow _ 69 2 _ _ _ from o1) (hne (w.heap.size + 1) (Nat.le_refl _))
          have o3 := own_setCell (j := 1) (u := .slice A' (0 + 1) c') o2 (hne (w.heap.size + 1) (Nat.le_refl _))
          have o4 := own_setCell (j := 2) (u := .int .i64 s.er) o3 (hne (w.heap.size + 1) (Nat.le_refl _))
          have hbf := ((((bthen (HF6.out.hb.setCell (p := ⟨w.heap.size, 1, none⟩) (by simp) (.slice A' (0 + 1) c')) (below_drew' _)).setCell (p := ⟨w.heap.size + 1, 0, none⟩) (by simp) (.int .i64 s.n)).setCell (p := ⟨w.heap.size + 1, 1, none⟩) (by simp) (.slice A' (0 + 1) c')).setCell (p := ⟨w.heap.size + 1, 2, none⟩) (by simp) (.int .i64 s.er))
          have hro := RRow.of_own (fun b hb => HZZ.out b (by have := HF5.out.hb.size; simp at hb; omega)) o4
          have hcap := own_cap HOWN6.out
          exact ⟨_, rfl, ⟨A', c', by simp [*], by rw [show gcells (s.G ++ [(p, q)]) = gcells s.G ++ [.int .i64 p, .int .i64 q] from by simp [gcells]]; exact hro, ⟨fun e => by simp at e, by simpa using (by omega : s.G.length + 1 ≤ c')⟩⟩, hbf⟩
        · have hpos : 0 < s.G.length := List.length_pos_iff.2 hnil
          have HNIL := hid (show s.G.length = 0 → B = none from fun h => by omega)
          obtain ⟨sb, so, rfl, _⟩ := HR.out.gate 0 hpos
          have hcapd := HN.out.2
          clear hnil
          go_wp2_with (go_at_call 26; refine (rnodes_any _ _ _ _ _).mono ?_; rw [HNOD.out]; rintro e w5 ⟨rfl, hb5⟩; have hb25 := bthen (below_drewN w2 q') hb5; have HF5 := hid (F6.below HW1.out hb25); have g0 := below_cell hb25 g0; have g1 := below_cell hb25 g1; have r0 := HF5.out.r0; have r1 := HF5.out.r1; have r2 := HF5.out.r2; have t0 := HF5.out.t0; have t1 := HF5.out.t1; have t2 := HF5.out.t2; have fr1 := HF5.out.fr 1; have fr := HF5.out.fr 2; have ft0 := HF5.out.ft 0; have ft1 := HF5.out.ft 1; have ft2 := HF5.out.ft 2; have zz := HF5.out.size; have xx : w.heap.size < w5.heap.size := Nat.lt_of_succ_lt HF5.out.size; have yy := lt_of_cell g0; dsimp only at yy; clear hb5 hb25)
          refine wp_region_J (fun j => match j with | 7 => some (fun W => W.cell? ⟨w.heap.size, 1, none⟩ = some (.slice (some ⟨sb, so, none⟩) s.G.length d) ∧ W.cell? ⟨w1.heap.size, 0, none⟩ = some (.int .i64 p) ∧ W.cell? ⟨w1.heap.size, 1, none⟩ = some (.int .i64 q)) | 8 => some (fun _ => True) | 11 => some (fun _ => True) | _ => none) (by kernel_rfl) ?_
          refine anyJ_take (some 96) (i := 0) (T := fun _ => True) (v := ?_) rfl rfl (by kernel_rfl) (by kernel_rfl) (by kernel_rfl) (fun _ _ _ h => h) (js := [7]) (by kernel_rfl) Leads.true rfl (Or.inl ⟨by rfl, ?_⟩) trivial ?_
          rotate_left
          · (intro wL hSw; (try dsimp only at hSw); go_simp; try with_reducible rfl)
          try simp only [Act.put, List.setIfInBounds_toArray, List.set_cons_zero, List.set_cons_succ]
          refine anyJ_take (some 97) (i := 1) (T := fun _ => True) (v := ?_) rfl rfl (by kernel_rfl) (by kernel_rfl) (by kernel_rfl) (fun _ _ _ h => h) (js := [7]) (by kernel_rfl) Leads.true rfl (Or.inl ⟨by rfl, ?_⟩) trivial ?_
          rotate_left
          · (intro wL hSw; (try dsimp only at hSw); go_simp; try with_reducible rfl)
          try simp only [Act.put, List.setIfInBounds_toArray, List.set_cons_zero, List.set_cons_succ]
          refine anyJ_take (some 98) (i := 2) (T := fun W => W.cell? ⟨w.heap.size, 1, none⟩ = some (.slice (some ⟨sb, so, none⟩) s.G.length d)) (v := ?_) rfl rfl (by kernel_rfl) (by kernel_rfl) (by kernel_rfl) (fun _ _ _ h => h) (js := [7]) (by kernel_rfl) (Leads.cons _ rfl (fun w h => h.1) Leads.nil) rfl (Or.inl ⟨by rfl, ?_⟩) (by go_simp) ?_
          rotate_left
          · (intro wL hSw; (try dsimp only at hSw); go_simp; try with_reducible rfl)
          try simp only [Act.put, List.setIfInBounds_toArray, List.set_cons_zero, List.set_cons_succ]
          refine anyJ_take (some 99) (i := 3) (T := fun _ => True) (v := ?_) rfl rfl (by kernel_rfl) (by kernel_rfl) (by kernel_rfl) (fun _ _ _ h => h) (js := [7]) (by kernel_rfl) Leads.true rfl (Or.inl ⟨by rfl, ?_⟩) trivial ?_
          rotate_left
          · (intro wL hSw; (try dsimp only at hSw); go_simp; try with_reducible rfl)
          try simp only [Act.put, List.setIfInBounds_toArray, List.set_cons_zero, List.set_cons_succ]
          refine anyJ_take (some 100) (i := 4) (T := fun _ => True) (v := ?_) rfl rfl (by kernel_rfl) (by kernel_rfl) (by kernel_rfl) (fun _ _ _ h => h) (js := [7]) (by kernel_rfl) Leads.true rfl (Or.inl ⟨by rfl, ?_⟩) trivial ?_
          rotate_left
          · (intro wL hSw; (try dsimp only at hSw); go_simp; try with_reducible rfl)
          try simp only [Act.put, List.setIfInBounds_toArray, List.set_cons_zero, List.set_cons_succ]
          refine anyJ_take (some 101) (i := 5) (T := fun _ => True) (v := ?_) rfl rfl (by kernel_rfl) (by kernel_rfl) (by kernel_rfl) (fun _ _ _ h => h) (js := [7]) (by kernel_rfl) Leads.true rfl (Or.inl ⟨by rfl, ?_⟩) trivial ?_
          rotate_left
          · (intro wL hSw; (try dsimp only at hSw); go_simp; try with_reducible rfl)
          try simp only [Act.put, List.setIfInBounds_toArray, List.set_cons_zero, List.set_cons_succ]
          refine anyJ_take (some 102) (i := 6) (T := fun W => W.cell? ⟨w1.heap.size, 0, none⟩ = some (.int .i64 p) ∧ W.cell? ⟨w1.heap.size, 1, none⟩ = some (.int .i64 q)) (v := ?_) rfl rfl (by kernel_rfl) (by kernel_rfl) (by kernel_rfl) (fun _ _ _ h => h) (js := []) (by kernel_rfl) Leads.nil rfl (Or.inl ⟨by rfl, ?_⟩) (⟨by go_simp, by go_simp⟩) ?_
          rotate_left
          · (intro wL hSw; (try dsimp only at hSw); go_simp; try with_reducible rfl)
          try simp only [Act.put, List.setIfInBounds_toArray, List.set_cons_zero, List.set_cons_succ]
          refine anyJ_one (i := 7) (oi := { dst := some 103, op := Go.Op.buildSlice 22 1 #[(0, Go.Operand.tmp 102)], type := 22, pos := "ref.go:75", after := #[{ on := 6, ground := Go.Ground.data }], guard := none }) rfl (by kernel_rfl) (by rfl) (fun K hK => ?_)
          go_simp
          refine hK.out _ _ (by dsimp only [Obl]; exact ⟨by go_simp, by go_simp, by go_simp⟩) ?_
          clear hK K
          try simp only [Act.put, List.setIfInBounds_toArray, List.set_cons_zero, List.set_cons_succ]
          refine anyJ_one (i := 8) (oi := { dst := some 104, op := Go.Op.call { callee := Go.Callee.builtin Go.Builtin.append, args := #[Go.Operand.tmp 101, Go.Operand.tmp 103], argTypes := #[22, 22] }, type := 22, pos := "ref.go:75", after := #[{ on := 5, ground := Go.Ground.data }, { on := 7, ground := Go.Ground.data }], guard := none }) rfl (by kernel_rfl) (by rfl) (fun K hK => ?_)
          have HF8 := hid (F6.below HF5.out (bthen (below_drew' w5) (below_alloc _ (.cells #[.int .i64 p, .int .i64 q] 69))))
          have HR8 := hid (HR.out.below HF8.out.hb)
          refine wp_append_full (.tmp 101) (.tmp 103) 22 rfl 69 i0 (.agg #[.int .i64 0, .int .i64 0]) 2 16 Try.underlying22 hi hz0 hz1 hz2 rfl (by decide) (some ⟨sb, so, none⟩) s.G.length (gcells s.G) rfl (by rw [gcells_length]; first | omega | (rw [HL0.out])) HR8.out.row HNIL.out ⟨w5.heap.size, 0, none⟩ 1 1 [.int .i64 p, .int .i64 q] rfl (by decide) rfl (news_two _ _ _ _) (gcells_one' [(p, q)]) (by unfold maxLen; omega) (by omega) ?_
          intro A' c' w6 hown6 hb6
          refine hK.out _ _ trivial ?_
          clear hK K
          have HF6 := hid (HF8.out.below hb6); have HOWN6 := hid hown6; clear hown6 hb6
          have r0 := HF6.out.r0; have r1 := HF6.out.r1; have r2 := HF6.out.r2; have t0 := HF6.out.t0; have t1 := HF6.out.t1; have t2 := HF6.out.t2; have fr1 := HF6.out.fr 1; have ft0 := HF6.out.ft 0; have ft1 := HF6.out.ft 1; have ft2 := HF6.out.ft 2; have zz := HF6.out.size
          try simp only [Act.put, List.setIfInBounds_toArray, List.set_cons_zero, List.set_cons_succ]
          refine anyJ_take (some 105) (i := 9) (T := fun _ => True) (v := ?_) rfl rfl (by kernel_rfl) (by kernel_rfl) (by kernel_rfl) (fun _ _ _ h => h) (js := [7, 8]) (by kernel_rfl) Leads.true rfl (Or.inl ⟨by rfl, ?_⟩) trivial ?_
          rotate_left
          · (intro wL hSw; (try dsimp only at hSw); go_simp; try with_reducible rfl)
          try simp only [Act.put, List.setIfInBounds_toArray, List.set_cons_zero, List.set_cons_succ]
          refine anyJ_take (some 106) (i := 10) (T := fun _ => True) (v := ?_) rfl rfl (by kernel_rfl) (by kernel_rfl) (by kernel_rfl) (fun _ _ _ h => h) (js := [7, 8]) (by kernel_rfl) Leads.true rfl (Or.inl ⟨by rfl, ?_⟩) trivial ?_
          rotate_left
          · (intro wL hSw; (try dsimp only at hSw); go_simp; try with_reducible rfl)
          try simp only [Act.put, List.setIfInBounds_toArray, List.set_cons_zero, List.set_cons_succ]
          refine anyJ_one (i := 11) (oi := { dst := none, op := Go.Op.store 22 (Go.Operand.tmp 106) (Go.Operand.tmp 104), type := 0, pos := "ref.go:75", after := #[{ on := 10, ground := Go.Ground.data }, { on := 8, ground := Go.Ground.data }, { on := 8, ground := Go.Ground.chain }, { on := 0, ground := Go.Ground.phase }, { on := 1, ground := Go.Ground.phase }, { on := 2, ground := Go.Ground.phase }, { on := 3, ground := Go.Ground.phase }, { on := 4, ground := Go.Ground.phase }, { on := 5, ground := Go.Ground.phase }, { on := 6, ground := Go.Ground.phase }, { on := 7, ground := Go.Ground.phase }, { on := 8, ground := Go.Ground.phase }], guard := none }) rfl (by kernel_rfl) (by rfl) (fun K hK => ?_)
          go_simp
          refine hK.out _ _ trivial ?_
          clear hK K
          try simp only [Act.put, List.setIfInBounds_toArray, List.set_cons_zero, List.set_cons_succ]
          refine anyJ_done (by kernel_rfl) ?_
          go_wp2_with fail
          refine wp_region_J (fun j => match j with | 8 => some (fun W => W.cell? ⟨w.heap.size, 0, none⟩ = some (.int .i64 s.n) ∧ W.cell? ⟨w.heap.size, 1, none⟩ = some (.slice A' (s.G.length + 1) c') ∧ W.cell? ⟨w.heap.size, 2, none⟩ = some (.int .i64 s.er)) | _ => none) (by kernel_rfl) ?_
          refine anyJ_take (some 107) (i := 0) (T := fun W => W.cell? ⟨w.heap.size, 0, none⟩ = some (.int .i64 s.n) ∧ W.cell? ⟨w.heap.size, 1, none⟩ = some (.slice A' (s.G.length + 1) c') ∧ W.cell? ⟨w.heap.size, 2, none⟩ = some (.int .i64 s.er)) (v := ?_) rfl rfl (by kernel_rfl) (by kernel_rfl) (by kernel_rfl) (fun _ _ _ h => h) (js := []) (by kernel_rfl) Leads.nil rfl (Or.inl ⟨by rfl, ?_⟩) (⟨by go_simp, by go_simp, by go_simp⟩) ?_
          rotate_left
          · (intro wL hSw; (try dsimp only at hSw); go_simp; try with_reducible rfl)
          try simp only [Act.put, List.setIfInBounds_toArray, List.set_cons_zero, List.set_cons_succ]
          refine anyJ_take (some 108) (i := 1) (T := fun _ => True) (v := ?_) rfl rfl (by kernel_rfl) (by kernel_rfl) (by kernel_rfl) (fun _ _ _ h => h) (js := [8]) (by kernel_rfl) Leads.true rfl (Or.inl ⟨by rfl, ?_⟩) trivial ?_
          rotate_left
          · (intro wL hSw; (try dsimp only at hSw); go_simp; try with_reducible rfl)
          try simp only [Act.put, List.setIfInBounds_toArray, List.set_cons_zero, List.set_cons_succ]
          refine anyJ_take (some 109) (i := 2) (T := fun _ => True) (v := ?_) rfl rfl (by kernel_rfl) (by kernel_rfl) (by kernel_rfl) (fun _ _ _ h => h) (js := [8]) (by kernel_rfl) Leads.true rfl (Or.inl ⟨by rfl, ?_⟩) trivial ?_
          rotate_left
          · (intro wL hSw; (try dsimp only at hSw); go_simp; try with_reducible rfl)
          try simp only [Act.put, List.setIfInBounds_toArray, List.set_cons_zero, List.set_cons_succ]
          refine anyJ_take (some 110) (i := 3) (T := fun W => W.cell? ⟨w.heap.size, 0, none⟩ = some (.int .i64 s.n)) (v := ?_) rfl rfl (by kernel_rfl) (by kernel_rfl) (by kernel_rfl) (fun _ _ _ h => h) (js := [8]) (by kernel_rfl) (Leads.cons _ rfl (fun w h => h.1) Leads.nil) rfl (Or.inl ⟨by rfl, ?_⟩) (by go_simp) ?_
          rotate_left
          · (intro wL hSw; (try dsimp only at hSw); go_simp; try with_reducible rfl)
          try simp only [Act.put, List.setIfInBounds_toArray, List.set_cons_zero, List.set_cons_succ]
          refine anyJ_take (some 111) (i := 4) (T := fun _ => True) (v := ?_) rfl rfl (by kernel_rfl) (by kernel_rfl) (by kernel_rfl) (fun _ _ _ h => h) (js := [8]) (by kernel_rfl) Leads.true rfl (Or.inl ⟨by rfl, ?_⟩) trivial ?_
          rotate_left
          · (intro wL hSw; (try dsimp only at hSw); go_simp; try with_reducible rfl)
          try simp only [Act.put, List.setIfInBounds_toArray, List.set_cons_zero, List.set_cons_succ]
          refine anyJ_take (some 112) (i := 5) (T := fun _ => True) (v := ?_) rfl rfl (by kernel_rfl) (by kernel_rfl) (by kernel_rfl) (fun _ _ _ h => h) (js := [8]) (by kernel_rfl) Leads.true rfl (Or.inl ⟨by rfl, ?_⟩) trivial ?_
          rotate_left
          · (intro wL hSw; (try dsimp only at hSw); go_simp; try with_reducible rfl)
          try simp only [Act.put, List.setIfInBounds_toArray, List.set_cons_zero, List.set_cons_succ]
          refine anyJ_take (some 113) (i := 6) (T := fun _ => True) (v := ?_) rfl rfl (by kernel_rfl) (by kernel_rfl) (by kernel_rfl) (fun _ _ _ h => h) (js := [8]) (by kernel_rfl) Leads.true rfl (Or.inl ⟨by rfl, ?_⟩) trivial ?_
          rotate_left
          · (intro wL hSw; (try dsimp only at hSw); go_simp; try with_reducible rfl)
          try simp only [Act.put, List.setIfInBounds_toArray, List.set_cons_zero, List.set_cons_succ]
          refine anyJ_take (some 114) (i := 7) (T := fun _ => True) (v := ?_) rfl rfl (by kernel_rfl) (by kernel_rfl) (by kernel_rfl) (fun _ _ _ h => h) (js := [8]) (by kernel_rfl) Leads.true rfl (Or.inl ⟨by rfl, ?_⟩) trivial ?_
          rotate_left
          · (intro wL hSw; (try dsimp only at hSw); go_simp; try with_reducible rfl)
          try simp only [Act.put, List.setIfInBounds_toArray, List.set_cons_zero, List.set_cons_succ]
          refine anyJ_one (i := 8) (oi := { dst := none, op := Go.Op.store 52 (Go.Operand.tmp 6) (Go.Operand.tmp 107), type := 0, pos := "ref.go:76", after := #[{ on := 0, ground := Go.Ground.data }, { on := 0, ground := Go.Ground.phase }, { on := 1, ground := Go.Ground.textOnly Go.Departure.lateStores }, { on := 2, ground := Go.Ground.textOnly Go.Departure.lateStores }, { on := 3, ground := Go.Ground.textOnly Go.Departure.lateStores }, { on := 4, ground := Go.Ground.textOnly Go.Departure.lateStores }, { on := 5, ground := Go.Ground.textOnly Go.Departure.lateStores }, { on := 6, ground := Go.Ground.textOnly Go.Departure.lateStores }, { on := 7, ground := Go.Ground.textOnly Go.Departure.lateStores }], guard := none }) rfl (by kernel_rfl) (by rfl) (fun K hK => ?_)
          go_simp
          refine hK.out _ _ (by dsimp only [Obl]; exact ⟨by go_simp, by go_simp, by go_simp⟩) ?_
          clear hK K
          try simp only [Act.put, List.setIfInBounds_toArray, List.set_cons_zero, List.set_cons_succ]
          refine anyJ_take (some 7) (i := 9) (T := fun _ => True) (v := ?_) rfl rfl (by kernel_rfl) (by kernel_rfl) (by kernel_rfl) (fun _ _ _ h => h) (js := [8]) (by kernel_rfl) Leads.true rfl (Or.inl ⟨by rfl, ?_⟩) trivial ?_
          rotate_left
          · (intro wL hSw; (try dsimp only at hSw); go_simp; try with_reducible rfl)
          try simp only [Act.put, List.setIfInBounds_toArray, List.set_cons_zero, List.set_cons_succ]
          refine anyJ_done (by kernel_rfl) ?_
          go_wp2_with fail
          have hs : s.and x y = ({ s with G := s.G ++ [(p, q)] }, 2 * (1 + s.n + (s.G.length : Int))) := by
            rw [HAND.out, HNF.out]; simp only []; rw [if_neg (by omega)]
          have HS := hid hs; clear hs
          refine bodyPost_ret (v := .tuple #[.agg #[.int .i64 s.n, .slice A' (s.G.length + 1) c', .int .i64 s.er], .int .i64 (2 * (1 + s.n + (s.G.length : Int)))]) (by simp [results, Try.results46, go_sem, *]) rfl ?_
          rw [HS.out]
          have hne : ∀ b, b ≤ w.heap.size + 1 → some b ≠ (Value.slice A' (s.G.length + 1) c').ownBlock := fun b hb e => by have := (HOWN6.out.lt b e.symm).1; have := HF5.out.size; simp at *; omega
          have o1 := own_setCell (j := 1) (u := .slice A' (s.G.length + 1) c') HOWN6.out (hne w.heap.size (by omega))
          have o2 := own_setCell (j := 0) (u := .int .i64 s.n) (show ((w6.setCell ⟨w.heap.size, 1, none⟩ (.slice A' (s.G.length + 1) c')).drew).ownsRow _ 69 2 _ _ _ from o1) (hne (w.heap.size + 1) (Nat.le_refl _))
          have o3 := own_setCell (j := 1) (u := .slice A' (s.G.length + 1) c') o2 (hne (w.heap.size + 1) (Nat.le_refl _))
          have o4 := own_setCell (j := 2) (u := .int .i64 s.er) o3 (hne (w.heap.size + 1) (Nat.le_refl _))
          have hbf := ((((bthen (HF6.out.hb.setCell (p := ⟨w.heap.size, 1, none⟩) (by simp) (.slice A' (s.G.length + 1) c')) (below_drew' _)).setCell (p := ⟨w.heap.size + 1, 0, none⟩) (by simp) (.int .i64 s.n)).setCell (p := ⟨w.heap.size + 1, 1, none⟩) (by simp) (.slice A' (s.G.length + 1) c')).setCell (p := ⟨w.heap.size + 1, 2, none⟩) (by simp) (.int .i64 s.er))
          have hro := RRow.of_own (fun b hb => HZZ.out b (by have := HF5.out.hb.size; simp at hb; omega)) o4
          have hcap := own_cap HOWN6.out
          exact ⟨_, rfl, ⟨A', c', by simp [*], by rw [show gcells (s.G ++ [(p, q)]) = gcells s.G ++ [.int .i64 p, .int .i64 q] from by simp [gcells]]; exact hro, ⟨fun e => by simp at e, by simpa using (by omega : s.G.length + 1 ≤ c')⟩⟩, hbf⟩

end Go.Proofs.Ytelbjendeldlcaa
