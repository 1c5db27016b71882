/- (*Builder).And. -/
import Derived.Test.YtelbjendeldlcaaE
namespace Go.Proofs.Ytelbjendeldlcaa
open Go.RowKit

theorem Row.two (w : World) (x y : Value) (t : TypeId) : Row (w.alloc (.cells #[x, y] t)) (some ⟨w.heap.size, 0, none⟩) [x, y] := by
  intro j hj
  refine ⟨w.heap.size, 0, rfl, ?_⟩
  match j, hj with
  | 0, _ => exact box_cell (Below.refl _ _) 0 _ rfl
  | 1, _ => exact box_cell (Below.refl _ _) 1 _ rfl
theorem PB.litN_eq {s : PB} (h : s.Ok) : litN s.n s.G.length = s.N := by
  have := h.lo; have := h.hi; have := h.size
  unfold litN nodesI wrap64 PB.N; omega
theorem litOk_two {s : PB} (h : s.Ok) (x y : Int) : LitOk (litN s.n s.G.length) [x, y] ↔ s.lit x ∧ s.lit y := by
  rw [PB.litN_eq h]
  unfold LitOk PB.lit
  simp

set_option maxHeartbeats 1000000 in
theorem and_any {w : World} {bb mb : Nat} {A : Option Addr} {c : Nat} {s : PB} (h : BSt w bb mb A c s) (x y : Int) :
    Calls Try.prog 17 #[.pointer (some ⟨bb, 0, none⟩), .int .i64 x, .int .i64 y] w fun e w' => BPost w bb mb A (s.and x y) e w' := by
  have h3 := h.c3
  have H := hid h
  by_cases h0 : (s.er != 0) = true
  · clear h
    go_enter Try.func17, Try.ntmps17
    go_wp2
    go_ret
    have e0 : s.er ≠ 0 := by simpa using h0
    unfold PB.and; rw [if_pos e0]; exact ⟨rfl, A, c, H.out, Step.refl _ _ _ _⟩
  have h0' : (s.er != 0) = false := by simpa using h0
  have e0 : ¬ s.er ≠ 0 := by simpa using h0
  have E0 := hid e0; clear h0 e0
  have hfail : s.fail 1 = { s with er := 1 } := by unfold PB.fail; rw [if_pos (by simpa using E0.out)]
  have hfail8 : s.fail 8 = { s with er := 8 } := by unfold PB.fail; rw [if_pos (by simpa using E0.out)]
  have HF := hid hfail; have HF8 := hid hfail8; clear hfail hfail8
  have hc0 := h.c0; have hc1 := h.c1; have hc2 := h.c2
  have hlo := h.ok.lo; have hhi := h.ok.hi; have hsz := h.ok.size
  have hbl := h.lt
  clear h
  have hL : LitOk (litN s.n s.G.length) [x, y] ↔ s.lit x ∧ s.lit y := litOk_two H.out.ok x y
  have HL := hid hL; clear hL
  by_cases q0 : s.lit x ∧ s.lit y
  · have hx0 := q0.1.1; have hx1 := q0.1.2; have hy0 := q0.2.1; have hy1 := q0.2.2
    have HQ := hid q0; clear q0
    obtain ⟨p, hp⟩ : ∃ p, (if y < x then y else x) = p := ⟨_, rfl⟩
    obtain ⟨q, hq⟩ : ∃ q, (if x < y then y else x) = q := ⟨_, rfl⟩
    have hN : s.N = 2 * (1 + s.n + s.G.length) := rfl
    have hp0 : 0 ≤ p := by rw [← hp]; split <;> omega
    have hp1 : p < 2 * (1 + s.n + s.G.length) := by rw [← hp]; split <;> omega
    have hpq : p ≤ q := by rw [← hp, ← hq]; split <;> split <;> omega
    have hq1 : q < 2 * (1 + s.n + s.G.length) := by rw [← hq]; split <;> omega
    have hand : s.and x y = s.pair p q := by
      unfold PB.and; rw [if_neg E0.out, if_neg (fun hh => hh HQ.out)]
      rw [show min x y = p from by rw [← hp]; split <;> omega, show max x y = q from by rw [← hq]; split <;> omega]
    have HN := hid hN
    clear hx0 hx1 hy0 hy1 hN
    have HAND := hid hand; clear hand
    by_cases q1 : (p == 0) = true
    · go_enter Try.func17, Try.ntmps17
      go_wp2_with (go_at_call 42; refine (literal_any _ s.n A s.G.length c _ _ [x, y] _ (by simp) (by go_simp) (by go_simp) (Row.two _ _ _ _)).mono ?_; rintro e w1 ⟨ht, hb1⟩; obtain rfl := ht.eq_yes (HL.out.2 HQ.out); have hbw := bthen (below_alloc w _) hb1; have hs1 := H.out.below hbw; have k0 := hs1.c0; have k1 := hs1.c1; have k2 := hs1.c2; have k3 := hs1.c3; have kl := hs1.lt; have HS1 := hid hs1; clear ht hs1)
      go_ret
      rw [HAND.out]; unfold PB.pair; rw [if_pos (Or.inl (by simpa using q1))]
      exact ⟨rfl, A, c, HS1.out, Step.of_below hbw⟩
    have q1' : (p == 0) = false := by simpa using q1
    clear q1
    by_cases q2 : (p == notI q) = true
    · go_enter Try.func17, Try.ntmps17
      go_wp2_with (first | (go_at_call 42; refine (literal_any _ s.n A s.G.length c _ _ [x, y] _ (by simp) (by go_simp) (by go_simp) (Row.two _ _ _ _)).mono ?_; rintro e w1 ⟨ht, hb1⟩; obtain rfl := ht.eq_yes (HL.out.2 HQ.out); have hbw := bthen (below_alloc w _) hb1; have hs1 := H.out.below hbw; have k0 := hs1.c0; have k1 := hs1.c1; have k2 := hs1.c2; have k3 := hs1.c3; have kl := hs1.lt; have HS1 := hid hs1; clear ht hs1) | (go_at_call 18; refine (not_any _ _ (by omega) (by omega)).mono ?_; rintro e w2 ⟨rfl, hw2⟩; rw [hw2]; clear hw2 w2))
      go_ret
      rw [HAND.out]; unfold PB.pair; rw [if_pos (Or.inr (by simpa using q2))]
      exact ⟨rfl, A, c, HS1.out, Step.of_below hbw⟩
    have q2' : (p == notI q) = false := by simpa using q2
    clear q2
    have hp1a : ¬ (p = 0 ∨ p = notI q) := by simp at q1' q2'; omega
    have HP1 := hid hp1a; clear hp1a
    by_cases q3 : (p == 1) = true
    · go_enter Try.func17, Try.ntmps17
      go_wp2_with (first | (go_at_call 42; refine (literal_any _ s.n A s.G.length c _ _ [x, y] _ (by simp) (by go_simp) (by go_simp) (Row.two _ _ _ _)).mono ?_; rintro e w1 ⟨ht, hb1⟩; obtain rfl := ht.eq_yes (HL.out.2 HQ.out); have hbw := bthen (below_alloc w _) hb1; have hs1 := H.out.below hbw; have k0 := hs1.c0; have k1 := hs1.c1; have k2 := hs1.c2; have k3 := hs1.c3; have kl := hs1.lt; have HS1 := hid hs1; clear ht hs1) | (go_at_call 18; refine (not_any _ _ (by omega) (by omega)).mono ?_; rintro e w2 ⟨rfl, hw2⟩; rw [hw2]; clear hw2 w2))
      go_ret
      rw [HAND.out]; unfold PB.pair; rw [if_neg HP1.out, if_pos (Or.inl (by simpa using q3))]
      exact ⟨rfl, A, c, HS1.out, Step.of_below hbw⟩
    have q3' : (p == 1) = false := by simpa using q3
    clear q3
    by_cases q4 : (p == q) = true
    · go_enter Try.func17, Try.ntmps17
      go_wp2_with (first | (go_at_call 42; refine (literal_any _ s.n A s.G.length c _ _ [x, y] _ (by simp) (by go_simp) (by go_simp) (Row.two _ _ _ _)).mono ?_; rintro e w1 ⟨ht, hb1⟩; obtain rfl := ht.eq_yes (HL.out.2 HQ.out); have hbw := bthen (below_alloc w _) hb1; have hs1 := H.out.below hbw; have k0 := hs1.c0; have k1 := hs1.c1; have k2 := hs1.c2; have k3 := hs1.c3; have kl := hs1.lt; have HS1 := hid hs1; clear ht hs1) | (go_at_call 18; refine (not_any _ _ (by omega) (by omega)).mono ?_; rintro e w2 ⟨rfl, hw2⟩; rw [hw2]; clear hw2 w2))
      go_ret
      rw [HAND.out]; unfold PB.pair; rw [if_neg HP1.out, if_pos (Or.inr (by simpa using q4))]
      exact ⟨rfl, A, c, HS1.out, Step.of_below hbw⟩
    have q4' : (p == q) = false := by simpa using q4
    clear q4
    have hp2a : ¬ (p = 1 ∨ p = q) := by simp at q3' q4'; omega
    have hpair : s.pair p q = match findG 0 s.G (p, q) with
      | some j => (s, 2 * (1 + s.n + j))
      | none => if 65536 ≤ 1 + s.n + s.G.length then ({ s with er := 8 }, 0) else ({ s with G := s.G ++ [(p, q)] }, 2 * (1 + s.n + s.G.length)) := by
      unfold PB.pair; rw [if_neg HP1.out, if_neg hp2a]; rfl
    have HPAIR := hid hpair; clear hp2a hpair HP1
    cases hf : findG 0 s.G (p, q) with
    | some j =>
      have hj := findG_some 0 j hf
      have hjl : j < s.G.length := by
        have := hj.2; rw [Nat.sub_zero] at this
        exact (List.getElem?_eq_some_iff.1 this).1
      have HF2 := hid hf; clear hf hj
      go_enter Try.func17, Try.ntmps17
      go_wp2_with (first | (go_at_call 42; refine (literal_any _ s.n A s.G.length c _ _ [x, y] _ (by simp) (by go_simp) (by go_simp) (Row.two _ _ _ _)).mono ?_; rintro e w1 ⟨ht, hb1⟩; obtain rfl := ht.eq_yes (HL.out.2 HQ.out); have hbw := bthen (below_alloc w _) hb1; have hs1 := H.out.below hbw; have k0 := hs1.c0; have k1 := hs1.c1; have k2 := hs1.c2; have k3 := hs1.c3; have kl := hs1.lt; have HS1 := hid hs1; clear ht hs1) | (go_at_call 18; refine (not_any _ _ (by omega) (by omega)).mono ?_; rintro e w2 ⟨rfl, hw2⟩; rw [hw2]; clear hw2 w2))
      have hlk := fun n => lookup_at (((HS1.out.map.alloc (.cells #[.int .i64 p, .int .i64 q] 69))).drewN n) 71 3 Try.underlying71 _ zero3 (p, q) true
      simp only [gkey, if_true, HF2.out, Option.map_some, Option.getD_some, Option.isSome_some] at hlk
      go_big_quiet (fail)
      go_wp2_with fail
      go_ret
      rw [HAND.out, HPAIR.out, HF2.out]
      exact ⟨rfl, A, c, HS1.out.below (bthen (below_alloc _ _) (below_drewN _ _)), Step.of_below (bthen hbw (bthen (below_alloc _ _) (below_drewN _ _)))⟩
    | none =>
      have HF2 := hid hf; clear hf
      have hnn : nodesI s.n s.G.length = 1 + s.n + s.G.length := by unfold nodesI wrap64; omega
      have HNN := hid hnn; clear hnn
      go_enter Try.func17, Try.ntmps17
      go_wp2_with (first | (go_at_call 42; refine (literal_any _ s.n A s.G.length c _ _ [x, y] _ (by simp) (by go_simp) (by go_simp) (Row.two _ _ _ _)).mono ?_; rintro e w1 ⟨ht, hb1⟩; obtain rfl := ht.eq_yes (HL.out.2 HQ.out); have hbw := bthen (below_alloc w _) hb1; have hs1 := H.out.below hbw; have k0 := hs1.c0; have k1 := hs1.c1; have k2 := hs1.c2; have k3 := hs1.c3; have kl := hs1.lt; have HS1 := hid hs1; clear ht hs1) | (go_at_call 18; refine (not_any _ _ (by omega) (by omega)).mono ?_; rintro e w2 ⟨rfl, hw2⟩; rw [hw2]; clear hw2 w2))
      have hlk := fun n => lookup_at (((HS1.out.map.alloc (.cells #[.int .i64 p, .int .i64 q] 69))).drewN n) 71 3 Try.underlying71 _ zero3 (p, q) true
      simp only [gkey, if_true, HF2.out, Option.map_none, Option.getD_none, Option.isSome_none] at hlk
      go_big_quiet (fail)
      clear hlk
      by_cases q5 : 65536 ≤ 1 + s.n + s.G.length
      · go_wp2_with (first
          | (go_at_call 40; refine (nodes_any _ _ _ _ _).mono ?_; rintro e w3 ⟨rfl, hb3⟩; rw [HNN.out]; have hbw3 := bthen (bthen (below_alloc w1 _) (below_drewN _ nq)) hb3; have hs3 := HS1.out.below hbw3; have HS3 := hid hs3; clear hs3)
          | (go_at_call 41; refine (fail_any HS3.out 8).mono ?_; rintro e w4 ⟨rfl, A4, c4, hs4, st4⟩))
        go_ret
        rw [HAND.out, HPAIR.out, HF2.out]
        simp only [if_pos q5]
        rw [HF8.out] at hs4
        exact ⟨rfl, A4, c4, hs4, (Step.of_below (bthen hbw hbw3)).trans st4⟩
      · go_wp2_with (go_at_call 40; refine (nodes_any _ _ _ _ _).mono ?_; rintro e w3 ⟨rfl, hb3⟩; rw [HNN.out]; have hbw3 := bthen (bthen (below_alloc w1 _) (below_drewN _ nq)) hb3; have hs3 := HS1.out.below hbw3; have m0 := hs3.c0; have m1 := hs3.c1; have m2 := hs3.c2; have m3 := hs3.c3; have ml := hs3.lt; have HS3 := hid hs3; clear hs3)
        -- REGION 17
        have kc0 : w3.cell? ⟨w1.heap.size, 0, none⟩ = some (.int .i64 p) := by rw [hb3.cell (p := ⟨w1.heap.size, 0, none⟩) (by simp)]; go_simp
        have kc1 : w3.cell? ⟨w1.heap.size, 1, none⟩ = some (.int .i64 q) := by rw [hb3.cell (p := ⟨w1.heap.size, 1, none⟩) (by simp)]; go_simp
        have kl1 : w1.heap.size < w3.heap.size := lt_of_cell kc0
        have hnb : some bb ≠ (Value.slice A s.G.length c).ownBlock ∧ some mb ≠ (Value.slice A s.G.length c).ownBlock ∧ some w1.heap.size ≠ (Value.slice A s.G.length c).ownBlock ∧ w1.heap.size ≠ bb := by
          cases hA : A with
          | none => exact ⟨(fun e => by cases e), (fun e => by cases e), (fun e => by cases e), by omega⟩
          | some a =>
            have h1 := HS3.out.row_ne a hA
            have h2 := own_blk_lt HS1.out.own a hA
            exact ⟨fun e => h1.1 (by injection e with e; exact e.symm), fun e => h1.2 (by injection e with e; exact e.symm), fun e => (by injection e with e; omega), by omega⟩
        have HNB := hid hnb; clear hnb
        obtain ⟨i0, hi, hz0, hz1, hz2⟩ := info_parts info69
        go_wp2_with fail
        refine wp_region_J (fun j => match j with | 12 => some (fun W => W.cell? ⟨bb, 1, none⟩ = some (.slice A s.G.length c) ∧ W.cell? ⟨bb, 2, none⟩ = some (.map (some mb)) ∧ W.cell? ⟨w1.heap.size, 0, none⟩ = some (.int .i64 p) ∧ W.cell? ⟨w1.heap.size, 1, none⟩ = some (.int .i64 q)) | 13 => some (fun W => W.cell? ⟨bb, 2, none⟩ = some (.map (some mb)) ∧ W.cell? ⟨w1.heap.size, 0, none⟩ = some (.int .i64 p) ∧ W.cell? ⟨w1.heap.size, 1, none⟩ = some (.int .i64 q)) | 18 => some (fun W => W.cell? ⟨w1.heap.size, 0, none⟩ = some (.int .i64 p) ∧ W.cell? ⟨w1.heap.size, 1, none⟩ = some (.int .i64 q)) | 19 => some (fun _ => True) | 21 => some (fun _ => True) | _ => none) (by kernel_rfl) ?_
        refine anyJ_take (some 72) (i := 0) (T := fun _ => True) (v := ?_) rfl rfl (by kernel_rfl) (by kernel_rfl) (by kernel_rfl) (fun _ _ _ h => h) (js := [12, 13]) (by kernel_rfl) Leads.true rfl (Or.inl ⟨by rfl, ?_⟩) trivial ?_
        rotate_left
        · (intro wL hSw; (try dsimp only at hSw); go_simp; try with_reducible rfl)
        try simp only [Act.put, List.setIfInBounds_toArray, List.set_cons_zero, List.set_cons_succ]
        refine anyJ_take (some 73) (i := 1) (T := fun _ => True) (v := ?_) rfl rfl (by kernel_rfl) (by kernel_rfl) (by kernel_rfl) (fun _ _ _ h => h) (js := [12, 13]) (by kernel_rfl) Leads.true rfl (Or.inl ⟨by rfl, ?_⟩) trivial ?_
        rotate_left
        · (intro wL hSw; (try dsimp only at hSw); go_simp; try with_reducible rfl)
        try simp only [Act.put, List.setIfInBounds_toArray, List.set_cons_zero, List.set_cons_succ]
        refine anyJ_take (some 74) (i := 2) (T := fun _ => True) (v := ?_) rfl rfl (by kernel_rfl) (by kernel_rfl) (by kernel_rfl) (fun _ _ _ h => h) (js := [12, 13]) (by kernel_rfl) Leads.true rfl (Or.inl ⟨by rfl, ?_⟩) trivial ?_
        rotate_left
        · (intro wL hSw; (try dsimp only at hSw); go_simp; try with_reducible rfl)
        try simp only [Act.put, List.setIfInBounds_toArray, List.set_cons_zero, List.set_cons_succ]
        refine anyJ_take (some 75) (i := 3) (T := fun _ => True) (v := ?_) rfl rfl (by kernel_rfl) (by kernel_rfl) (by kernel_rfl) (fun _ _ _ h => h) (js := [12, 13]) (by kernel_rfl) Leads.true rfl (Or.inl ⟨by rfl, ?_⟩) trivial ?_
        rotate_left
        · (intro wL hSw; (try dsimp only at hSw); go_simp; try with_reducible rfl)
        try simp only [Act.put, List.setIfInBounds_toArray, List.set_cons_zero, List.set_cons_succ]
        refine anyJ_take (some 76) (i := 4) (T := fun W => W.cell? ⟨bb, 2, none⟩ = some (.map (some mb))) (v := ?_) rfl rfl (by kernel_rfl) (by kernel_rfl) (by kernel_rfl) (fun _ _ _ h => h) (js := [12, 13]) (by kernel_rfl) (Leads.cons _ rfl (fun w h => h.2.1) (Leads.cons _ rfl (fun w h => h.1) Leads.nil)) rfl (Or.inl ⟨by rfl, ?_⟩) (m2) ?_
        rotate_left
        · (intro wL hSw; (try dsimp only at hSw); go_simp; try with_reducible rfl)
        try simp only [Act.put, List.setIfInBounds_toArray, List.set_cons_zero, List.set_cons_succ]
        refine anyJ_take (some 77) (i := 5) (T := fun W => W.cell? ⟨w1.heap.size, 0, none⟩ = some (.int .i64 p) ∧ W.cell? ⟨w1.heap.size, 1, none⟩ = some (.int .i64 q)) (v := ?_) rfl rfl (by kernel_rfl) (by kernel_rfl) (by kernel_rfl) (fun _ _ _ h => h) (js := [12, 13, 18]) (by kernel_rfl) (Leads.cons _ rfl (fun w h => h.2.2) (Leads.cons _ rfl (fun w h => h.2) (Leads.cons _ rfl (fun w h => h) Leads.nil))) rfl (Or.inl ⟨by rfl, ?_⟩) (⟨kc0, kc1⟩) ?_
        rotate_left
        · (intro wL hSw; (try dsimp only at hSw); go_simp; try with_reducible rfl)
        try simp only [Act.put, List.setIfInBounds_toArray, List.set_cons_zero, List.set_cons_succ]
        refine anyJ_take (some 78) (i := 6) (T := fun _ => True) (v := ?_) rfl rfl (by kernel_rfl) (by kernel_rfl) (by kernel_rfl) (fun _ _ _ h => h) (js := [12]) (by kernel_rfl) Leads.true rfl (Or.inl ⟨by rfl, ?_⟩) trivial ?_
        rotate_left
        · (intro wL hSw; (try dsimp only at hSw); go_simp; try with_reducible rfl)
        try simp only [Act.put, List.setIfInBounds_toArray, List.set_cons_zero, List.set_cons_succ]
        refine anyJ_take (some 79) (i := 7) (T := fun _ => True) (v := ?_) rfl rfl (by kernel_rfl) (by kernel_rfl) (by kernel_rfl) (fun _ _ _ h => h) (js := [12]) (by kernel_rfl) Leads.true rfl (Or.inl ⟨by rfl, ?_⟩) trivial ?_
        rotate_left
        · (intro wL hSw; (try dsimp only at hSw); go_simp; try with_reducible rfl)
        try simp only [Act.put, List.setIfInBounds_toArray, List.set_cons_zero, List.set_cons_succ]
        refine anyJ_take (some 80) (i := 8) (T := fun _ => True) (v := ?_) rfl rfl (by kernel_rfl) (by kernel_rfl) (by kernel_rfl) (fun _ _ _ h => h) (js := [12]) (by kernel_rfl) Leads.true rfl (Or.inl ⟨by rfl, ?_⟩) trivial ?_
        rotate_left
        · (intro wL hSw; (try dsimp only at hSw); go_simp; try with_reducible rfl)
        try simp only [Act.put, List.setIfInBounds_toArray, List.set_cons_zero, List.set_cons_succ]
        refine anyJ_take (some 81) (i := 9) (T := fun _ => True) (v := ?_) rfl rfl (by kernel_rfl) (by kernel_rfl) (by kernel_rfl) (fun _ _ _ h => h) (js := [12]) (by kernel_rfl) Leads.true rfl (Or.inl ⟨by rfl, ?_⟩) trivial ?_
        rotate_left
        · (intro wL hSw; (try dsimp only at hSw); go_simp; try with_reducible rfl)
        try simp only [Act.put, List.setIfInBounds_toArray, List.set_cons_zero, List.set_cons_succ]
        refine anyJ_take (some 82) (i := 10) (T := fun W => W.cell? ⟨bb, 1, none⟩ = some (.slice A s.G.length c)) (v := ?_) rfl rfl (by kernel_rfl) (by kernel_rfl) (by kernel_rfl) (fun _ _ _ h => h) (js := [12]) (by kernel_rfl) (Leads.cons _ rfl (fun w h => h.1) Leads.nil) rfl (Or.inl ⟨by rfl, ?_⟩) (m1) ?_
        rotate_left
        · (intro wL hSw; (try dsimp only at hSw); go_simp; try with_reducible rfl)
        try simp only [Act.put, List.setIfInBounds_toArray, List.set_cons_zero, List.set_cons_succ]
        refine anyJ_take (some 83) (i := 11) (T := fun W => W.cell? ⟨w1.heap.size, 0, none⟩ = some (.int .i64 p) ∧ W.cell? ⟨w1.heap.size, 1, none⟩ = some (.int .i64 q)) (v := ?_) rfl rfl (by kernel_rfl) (by kernel_rfl) (by kernel_rfl) (fun _ _ _ h => h) (js := []) (by kernel_rfl) Leads.nil rfl (Or.inl ⟨by rfl, ?_⟩) (⟨kc0, kc1⟩) ?_
        rotate_left
        · (intro wL hSw; (try dsimp only at hSw); go_simp; try with_reducible rfl)
        try simp only [Act.put, List.setIfInBounds_toArray, List.set_cons_zero, List.set_cons_succ]
        refine anyJ_take (some 86) (i := 14) (T := fun _ => True) (v := ?_) rfl rfl (by kernel_rfl) (by kernel_rfl) (by kernel_rfl) (fun _ _ _ h => h) (js := [12, 13, 18, 19]) (by kernel_rfl) Leads.true rfl (Or.inl ⟨by rfl, ?_⟩) trivial ?_
        rotate_left
        · (intro wL hSw; (try dsimp only at hSw); go_simp; try with_reducible rfl)
        try simp only [Act.put, List.setIfInBounds_toArray, List.set_cons_zero, List.set_cons_succ]
        refine anyJ_one (i := 12) (oi := { dst := some 84, op := Go.Op.buildSlice 22 1 #[(0, Go.Operand.tmp 83)], type := 22, pos := "gates.go:78", after := #[{ on := 11, ground := Go.Ground.data }], guard := none }) rfl (by kernel_rfl) rfl (fun K hK => ?_)
        go_simp
        refine hK.out _ _ (by dsimp only [Obl]; exact ⟨by go_simp, by go_simp, by go_simp, by go_simp⟩) ?_
        clear hK K
        try simp only [Act.put, List.setIfInBounds_toArray, List.set_cons_zero, List.set_cons_succ]
        refine anyJ_one (i := 13) (oi := { dst := some 85, op := Go.Op.call { callee := Go.Callee.builtin Go.Builtin.append, args := #[Go.Operand.tmp 82, Go.Operand.tmp 84], argTypes := #[22, 22] }, type := 22, pos := "gates.go:78", after := #[{ on := 10, ground := Go.Ground.data }, { on := 12, ground := Go.Ground.data }], guard := none }) rfl (by kernel_rfl) rfl (fun K hK => ?_)
        refine wp_append_at (.tmp 82) (.tmp 84) 22 rfl 0 69 i0 (.agg #[.int .i64 0, .int .i64 0]) 2 16 Try.underlying22 hi hz0 hz1 hz2 rfl (by decide) (.slice A s.G.length c) s.G.length (gcells s.G) rfl (own_below HS3.out.own (bthen (below_alloc w3 (.cells #[.int .i64 p, .int .i64 q] 69)) (below_drew' _))) ⟨w3.heap.size, 0, none⟩ 1 1 [.int .i64 p, .int .i64 q] rfl rfl (news_two w3 (.int .i64 p) (.int .i64 q) 69) (by simp [Value.oneCell']) (by unfold maxLen; omega) (by omega) (Nat.zero_le _) ?_
        intro v' w4 hown4 hgr4 hat4
        obtain ⟨A4, c4, rfl⟩ := own_shape hown4
        have hnb := HNB.out
        have row4 : w4.heap[bb]? = some (.cells #[.int .i64 s.n, .slice A s.G.length c, .map (some mb), .int .i64 s.er] 73 (0, 0)) := by
          rw [hgr4.block bb (by simp; omega) hnb.1]; exact (heap_alloc_old w3 _ bb ml).trans HS3.out.row
        have map4 : MapAt w4 mb (fun j => .int .i64 (1 + s.n + j)) s.G := by
          show w4.heap[mb]? = _
          rw [hgr4.block mb (by have := HS3.out.map.lt; simp; omega) hnb.2.1]; exact (heap_alloc_old w3 _ mb HS3.out.map.lt).trans HS3.out.map
        have e0 : w4.cell? ⟨w1.heap.size, 0, none⟩ = some (.int .i64 p) := hgr4.cell (by go_simp) hnb.2.2.1
        have e1 : w4.cell? ⟨w1.heap.size, 1, none⟩ = some (.int .i64 q) := hgr4.cell (by go_simp) hnb.2.2.1
        have e2 := cell_of_row' row4 2 _ rfl
        refine hK.out _ _ (by dsimp only [Obl]; exact ⟨e2, e0, e1⟩) ?_
        clear hK K
        have f1 := cell_of_row' row4 1 _ rfl
        have fz1 : w4.frozen? ⟨bb, 1, none⟩ = false := by simp [World.frozen?, row4]
        have HOWN4 := hid hown4; have HGR4 := hid hgr4; have HAT4 := hid hat4; have HROW4 := hid row4; have HMAP4 := hid map4; clear hown4 hgr4 hat4 row4 map4 hnb
        try simp only [Act.put, List.setIfInBounds_toArray, List.set_cons_zero, List.set_cons_succ]
        refine anyJ_take (some 87) (i := 15) (T := fun _ => True) (v := ?_) rfl rfl (by kernel_rfl) (by kernel_rfl) (by kernel_rfl) (fun _ _ _ h => h) (js := [12, 13]) (by kernel_rfl) Leads.true rfl (Or.inl ⟨by rfl, ?_⟩) trivial ?_
        rotate_left
        · (intro wL hSw; (try dsimp only at hSw); go_simp; try with_reducible rfl)
        try simp only [Act.put, List.setIfInBounds_toArray, List.set_cons_zero, List.set_cons_succ]
        refine anyJ_take (some 88) (i := 16) (T := fun _ => True) (v := ?_) rfl rfl (by kernel_rfl) (by kernel_rfl) (by kernel_rfl) (fun _ _ _ h => h) (js := [12, 13]) (by kernel_rfl) Leads.true rfl (Or.inl ⟨by rfl, ?_⟩) trivial ?_
        rotate_left
        · (intro wL hSw; (try dsimp only at hSw); go_simp; try with_reducible rfl)
        try simp only [Act.put, List.setIfInBounds_toArray, List.set_cons_zero, List.set_cons_succ]
        refine anyJ_take (some 89) (i := 17) (T := fun _ => True) (v := ?_) rfl rfl (by kernel_rfl) (by kernel_rfl) (by kernel_rfl) (fun _ _ _ h => h) (js := [12, 13]) (by kernel_rfl) Leads.true rfl (Or.inl ⟨by rfl, ?_⟩) trivial ?_
        rotate_left
        · (intro wL hSw; (try dsimp only at hSw); go_simp; try with_reducible rfl)
        try simp only [Act.put, List.setIfInBounds_toArray, List.set_cons_zero, List.set_cons_succ]
        refine anyJ_one (i := 18) (oi := { dst := none, op := Go.Op.store 22 (Go.Operand.tmp 89) (Go.Operand.tmp 85), type := 0, pos := "gates.go:78", after := #[{ on := 17, ground := Go.Ground.data }, { on := 13, ground := Go.Ground.data }, { on := 13, ground := Go.Ground.chain }, { on := 0, ground := Go.Ground.phase }, { on := 1, ground := Go.Ground.textOnly Go.Departure.lateStores }, { on := 2, ground := Go.Ground.textOnly Go.Departure.lateStoresUnsure }, { on := 3, ground := Go.Ground.textOnly Go.Departure.lateStoresUnsure }, { on := 4, ground := Go.Ground.phase }, { on := 5, ground := Go.Ground.textOnly Go.Departure.lateStoresUnsure }, { on := 6, ground := Go.Ground.phase }, { on := 7, ground := Go.Ground.phase }, { on := 8, ground := Go.Ground.phase }, { on := 9, ground := Go.Ground.phase }, { on := 10, ground := Go.Ground.phase }, { on := 11, ground := Go.Ground.phase }, { on := 12, ground := Go.Ground.phase }, { on := 13, ground := Go.Ground.phase }, { on := 14, ground := Go.Ground.textOnly Go.Departure.lateStores }], guard := none }) rfl (by kernel_rfl) rfl (fun K hK => ?_)
        go_simp
        have hkb := HNB.out.2.2.2
        refine hK.out _ _ (by dsimp only [Obl]; exact ⟨(World.cell?_of_block (Below.heap_setCell _ _ _ _ hkb)).trans e0, (World.cell?_of_block (Below.heap_setCell _ _ _ _ hkb)).trans e1⟩) ?_
        clear hK K
        have hm5 : MapAt (w4.setCell ⟨bb, 1, none⟩ (.slice A4 (s.G.length + 1) c4)) mb (fun j => .int .i64 (1 + s.n + j)) s.G := (Below.heap_setCell _ _ _ _ HS3.out.ne_map.symm).trans HMAP4.out
        obtain ⟨w6, hrun6, hmap6, hg6⟩ := mapEntry_at hm5 (p, q) ((findG_none 0).1 HF2.out)
        simp only [gkey] at hrun6
        have HM6 := hid hmap6; have HG6 := hid hg6; clear hmap6 hg6 hm5
        try simp only [Act.put, List.setIfInBounds_toArray, List.set_cons_zero, List.set_cons_succ]
        refine anyJ_one (i := 19) (oi := { dst := some 90, op := Go.Op.mapEntry 71 (Go.Operand.tmp 76) (Go.Operand.tmp 77), type := 0, pos := "gates.go:78", after := #[{ on := 4, ground := Go.Ground.data }, { on := 5, ground := Go.Ground.data }, { on := 18, ground := Go.Ground.chain }, { on := 0, ground := Go.Ground.phase }, { on := 1, ground := Go.Ground.textOnly Go.Departure.tupleMapEntryFirst }, { on := 2, ground := Go.Ground.textOnly Go.Departure.lateStoresUnsure }, { on := 3, ground := Go.Ground.textOnly Go.Departure.lateStoresUnsure }, { on := 4, ground := Go.Ground.phase }, { on := 5, ground := Go.Ground.textOnly Go.Departure.lateStoresUnsure }, { on := 6, ground := Go.Ground.phase }, { on := 7, ground := Go.Ground.phase }, { on := 8, ground := Go.Ground.phase }, { on := 9, ground := Go.Ground.phase }, { on := 10, ground := Go.Ground.phase }, { on := 11, ground := Go.Ground.phase }, { on := 12, ground := Go.Ground.phase }, { on := 13, ground := Go.Ground.phase }, { on := 14, ground := Go.Ground.textOnly Go.Departure.tupleMapEntryFirst }, { on := 15, ground := Go.Ground.phase }, { on := 16, ground := Go.Ground.phase }, { on := 17, ground := Go.Ground.phase }, { on := 18, ground := Go.Ground.phase }], guard := none }) rfl (by kernel_rfl) rfl (fun K hK => ?_)
        go_simp
        refine hK.out _ _ trivial ?_
        clear hK K hrun6
        obtain ⟨w7, hrun7, hmap7, hg7⟩ := entryStore_at HM6.out (.int .i64 (1 + s.n + (s.G.length : Int))) rfl
        have HM7 := hid hmap7; have HG7 := hid hg7; clear hmap7 hg7
        try simp only [Act.put, List.setIfInBounds_toArray, List.set_cons_zero, List.set_cons_succ]
        refine anyJ_take (some 91) (i := 20) (T := fun _ => True) (v := ?_) rfl rfl (by kernel_rfl) (by kernel_rfl) (by kernel_rfl) (fun _ _ _ h => h) (js := [12, 13, 18, 19]) (by kernel_rfl) Leads.true rfl (Or.inl ⟨by rfl, ?_⟩) trivial ?_
        rotate_left
        · (intro wL hSw; (try dsimp only at hSw); go_simp; try with_reducible rfl)
        try simp only [Act.put, List.setIfInBounds_toArray, List.set_cons_zero, List.set_cons_succ]
        refine anyJ_one (i := 21) (oi := { dst := none, op := Go.Op.entryStore 71 (Go.Operand.tmp 76) (Go.Operand.tmp 91) (Go.Operand.tmp 86), type := 0, pos := "gates.go:78", after := #[{ on := 4, ground := Go.Ground.data }, { on := 20, ground := Go.Ground.data }, { on := 14, ground := Go.Ground.data }, { on := 19, ground := Go.Ground.chain }, { on := 0, ground := Go.Ground.phase }, { on := 1, ground := Go.Ground.phase }, { on := 2, ground := Go.Ground.phase }, { on := 3, ground := Go.Ground.phase }, { on := 4, ground := Go.Ground.phase }, { on := 5, ground := Go.Ground.phase }, { on := 6, ground := Go.Ground.phase }, { on := 7, ground := Go.Ground.phase }, { on := 8, ground := Go.Ground.phase }, { on := 9, ground := Go.Ground.phase }, { on := 10, ground := Go.Ground.phase }, { on := 11, ground := Go.Ground.phase }, { on := 12, ground := Go.Ground.phase }, { on := 13, ground := Go.Ground.phase }, { on := 14, ground := Go.Ground.phase }, { on := 15, ground := Go.Ground.phase }, { on := 16, ground := Go.Ground.phase }, { on := 17, ground := Go.Ground.phase }, { on := 18, ground := Go.Ground.phase }, { on := 19, ground := Go.Ground.phase }], guard := none }) rfl (by kernel_rfl) rfl (fun K hK => ?_)
        go_simp
        refine hK.out _ _ trivial ?_
        clear hK K hrun7
        try simp only [Act.put, List.setIfInBounds_toArray, List.set_cons_zero, List.set_cons_succ]
        refine anyJ_done (by kernel_rfl) ?_
        go_wp2_with fail
        go_ret
        rw [HAND.out, HPAIR.out, HF2.out]
        simp only [if_neg (show ¬ 65536 ≤ 1 + s.n + (s.G.length : Int) from by omega)]
        have hmb : ∀ cs t fz, w4.heap[mb]? ≠ some (.cells cs t fz) := fun cs t fz e => by have := HMAP4.out; unfold MapAt at this; rw [this] at e; cases e
        refine ⟨rfl, A4, c4, BSt.push HROW4.out HOWN4.out rfl HG6.out HG7.out HS3.out.ne_map HM7.out hmb HS3.out.ok (by omega), ?_⟩
        exact (((((Step.of_below (bthen hbw (bthen hbw3 (bthen (below_alloc w3 _) (below_drew' _))))).trans (Step.grown HGR4.out HAT4.out)).trans (Step.cell _ _ _ _ _ _)).trans (Step.map HG6.out)).trans (Step.map HG7.out))
  · have HQ := hid q0; clear q0
    go_enter Try.func17, Try.ntmps17
    go_wp2_with (first
      | (go_at_call 42; refine (literal_any _ s.n A s.G.length c _ _ [x, y] _ (by simp) (by go_simp) (by go_simp) (Row.two _ _ _ _)).mono ?_; rintro e w1 ⟨ht, hb1⟩; obtain rfl := ht.eq_no (fun hh => HQ.out (HL.out.1 hh)); have hbw := bthen (below_alloc w _) hb1; clear ht)
      | (go_at_call 41; refine (fail_any (H.out.below hbw) 1).mono ?_; rintro e w2 ⟨rfl, A1, c1, hs, st⟩))
    go_ret
    unfold PB.and; rw [if_neg E0.out, if_pos HQ.out]; rw [HF.out] at hs; exact ⟨rfl, A1, c1, hs, (Step.of_below hbw).trans st⟩
end Go.Proofs.Ytelbjendeldlcaa
