/- (*Builder).valid, Or, Xor, Mux, Circuit. -/
import Derived.Test.YtelbjendeldlcaaF
namespace Go.Proofs.Ytelbjendeldlcaa
open Go.RowKit

section
variable {w : World} {bb mb : Nat} {A : Option Addr} {c : Nat} {s : PB}
theorem valid_bad (h : BSt w bb mb A c s) (h0 : s.er ≠ 0) (v : Value) :
    Calls Try.prog 52 #[.pointer (some ⟨bb, 0, none⟩), v] w fun e w' => e = .returned (.bool false) ∧ w = w' := by
  have h3 := h.c3
  have h0' : (s.er == 0) = false := by simpa using h0
  clear h h0
  go_enter Try.func52, Try.ntmps52
  go_wp2_with fail
  go_ret
  exact ⟨rfl, rfl⟩
theorem valid_yes (h : BSt w bb mb A c s) (h0 : s.er = 0) {la : Option Addr} {lc : Nat} {L : List Int} (hlen : L.length ≤ 1000000000000) (hL : Row w la (ints L)) (hk : LitOk (litN s.n s.G.length) L) :
    Calls Try.prog 52 #[.pointer (some ⟨bb, 0, none⟩), .slice la L.length lc] w fun e w' => e = .returned (.bool true) ∧ Below w.heap.size w w' := by
  have h3 := h.c3; have hc0 := h.c0; have hc1 := h.c1
  have h0' : (s.er == 0) = true := by simpa using h0
  have H := hid h; clear h h0
  go_enter Try.func52, Try.ntmps52
  go_wp2_with (go_at_call 42; refine (literal_any _ s.n A s.G.length c _ _ L _ hlen hc0 hc1 hL).mono ?_; rintro e w1 ⟨ht, hb1⟩; obtain rfl := ht.eq_yes hk; have k3 := (H.out.below hb1).c3; clear ht)
  go_ret
  exact ⟨rfl, hb1⟩
theorem valid_no (h : BSt w bb mb A c s) (h0 : s.er = 0) {la : Option Addr} {lc : Nat} {L : List Int} (hlen : L.length ≤ 1000000000000) (hL : Row w la (ints L)) (hk : ¬ LitOk (litN s.n s.G.length) L) :
    Calls Try.prog 52 #[.pointer (some ⟨bb, 0, none⟩), .slice la L.length lc] w fun e w' => e = .returned (.bool false) ∧ ∃ A' c', BSt w' bb mb A' c' { s with er := 1 } ∧ Step w w' bb mb A A' := by
  have h3 := h.c3; have hc0 := h.c0; have hc1 := h.c1
  have h0' : (s.er == 0) = true := by simpa using h0
  have hfail : s.fail 1 = { s with er := 1 } := by unfold PB.fail; rw [if_pos h0]
  have HF := hid hfail; clear hfail
  have H := hid h; clear h h0
  go_enter Try.func52, Try.ntmps52
  go_wp2_with (first
    | (go_at_call 42; refine (literal_any _ s.n A s.G.length c _ _ L _ hlen hc0 hc1 hL).mono ?_; rintro e w1 ⟨ht, hb1⟩; obtain rfl := ht.eq_no hk; have HS1 := hid (H.out.below hb1); clear ht)
    | (go_at_call 41; refine (fail_any HS1.out 1).mono ?_; rintro e w2 ⟨rfl, A1, c1, hs, st⟩; rw [HF.out] at hs; have k3 := hs.c3; have HS := hid hs; clear hs))
  go_ret
  exact ⟨rfl, A1, c1, HS.out, (Step.of_below hb1).trans st⟩
end

theorem gcells_one (G : List (Int × Int)) : ∀ u ∈ gcells G, u.oneCell' = true := by
  intro u hu
  simp only [gcells, List.mem_flatMap] at hu
  obtain ⟨g, _, hg⟩ := hu
  simp at hg
  rcases hg with rfl | rfl <;> rfl
theorem notI_lit {s : PB} {x : Int} (h : s.lit x) : s.lit (notI x) := by
  unfold PB.lit PB.N notI at *
  split <;> omega
theorem PB.lit_bd {s : PB} (hs : s.Ok) {x : Int} (h : s.lit x) : 0 ≤ x ∧ x ≤ 131072 := by
  have := hs.lo; have := hs.hi; have := hs.size
  unfold PB.lit PB.N at h; omega

theorem PB.and_bd {s : PB} (hs : s.Ok) (x y : Int) : 0 ≤ (s.and x y).2 ∧ (s.and x y).2 ≤ 131072 := by
  have h1 := hs.lo; have h2 := hs.hi; have h3 := hs.size
  unfold PB.and
  split
  · simp
  split
  · simp
  · rename_i _ hl
    have hl' : s.lit x ∧ s.lit y := by simpa using hl
    have hx := PB.lit_bd hs hl'.1; have hy := PB.lit_bd hs hl'.2
    unfold PB.pair
    split
    · simp
    split
    · show 0 ≤ max x y ∧ max x y ≤ 131072; omega
    · cases hf : findG 0 s.G (min x y, max x y) with
      | some j =>
        have := (findG_some 0 j hf).2
        rw [Nat.sub_zero] at this
        have := (List.getElem?_eq_some_iff.1 this).1
        simp only []
        omega
      | none =>
        simp only []
        split
        · simp
        · simp only []; omega
set_option maxHeartbeats 400000 in
theorem or_any {w : World} {bb mb : Nat} {A : Option Addr} {c : Nat} {s : PB} (h : BSt w bb mb A c s) (x y : Int) :
    Calls Try.prog 43 #[.pointer (some ⟨bb, 0, none⟩), .int .i64 x, .int .i64 y] w fun e w' => BPost w bb mb A (s.or x y) e w' := by
  have H := hid h
  by_cases h0 : s.er ≠ 0
  · have H0 := hid h0; clear h h0
    go_enter Try.func43, Try.ntmps43
    go_wp2_with (go_at_call 52; refine (valid_bad (H.out.below (below_alloc w _)) H0.out _).mono ?_; rintro e w1 ⟨rfl, hw1⟩; rw [← hw1]; clear hw1 w1)
    go_ret
    unfold PB.or; rw [if_pos H0.out]
    exact ⟨rfl, A, c, H.out.below (below_alloc w _), Step.of_below (below_alloc w _)⟩
  have h0' : s.er = 0 := by simpa using h0
  have H0 := hid h0; have H0' := hid h0'; clear h0 h0'
  have hL : LitOk (litN s.n s.G.length) [x, y] ↔ s.lit x ∧ s.lit y := litOk_two h.ok x y
  have HL := hid hL; clear hL
  by_cases q0 : s.lit x ∧ s.lit y
  · have hx := PB.lit_bd h.ok q0.1; have hy := PB.lit_bd h.ok q0.2
    have HQ := hid q0; clear q0 h
    go_enter Try.func43, Try.ntmps43
    go_wp2_with (go_at_call 52; refine (valid_yes (H.out.below (below_alloc w _)) H0'.out (L := [x, y]) (by simp) (Row.two _ _ _ _) (HL.out.2 HQ.out)).mono ?_; rintro e w1 ⟨rfl, hb1⟩; have hbw := bthen (below_alloc w _) hb1; have HS1 := hid (H.out.below hbw))
    refine (not_any x _ (by omega) (by omega)).mono ?_
    rintro e w2 ⟨rfl, hw2⟩; rw [hw2]; clear hw2 w2
    go_wp2_with fail
    refine (not_any y _ (by omega) (by omega)).mono ?_
    rintro e w2 ⟨rfl, hw2⟩; rw [hw2]; clear hw2 w2
    go_wp2_with fail
    obtain ⟨r, hr⟩ : ∃ r, r = s.and (notI x) (notI y) := ⟨_, rfl⟩
    refine (and_any HS1.out (notI x) (notI y)).mono ?_
    rw [← hr]
    have hz := PB.and_bd HS1.out.ok (notI x) (notI y)
    rw [← hr] at hz
    rintro e w3 ⟨rfl, A3, c3, hs3, st3⟩
    have HR := hid hr; have HS3 := hid hs3; clear hr hs3
    go_wp2_with fail
    refine (not_any r.2 _ (by omega) (by omega)).mono ?_
    rintro e w4 ⟨rfl, hw4⟩; rw [hw4]; clear hw4 w4
    go_wp2_with (go_at_call 53; refine (settle_any HS3.out _).mono ?_; rintro e w5 ⟨rfl, hw5⟩; rw [← hw5]; clear hw5 w5)
    go_ret
    unfold PB.or; rw [if_neg H0.out, if_neg (fun hh => hh HQ.out), ← HR.out]
    exact ⟨rfl, A3, c3, HS3.out, (Step.of_below hbw).trans st3⟩
  · have HQ := hid q0; clear q0 h
    go_enter Try.func43, Try.ntmps43
    go_wp2_with (go_at_call 52; refine (valid_no (H.out.below (below_alloc w _)) H0'.out (L := [x, y]) (by simp) (Row.two _ _ _ _) (fun hh => HQ.out (HL.out.1 hh))).mono ?_; rintro e w1 ⟨rfl, A1, c1, hs, st⟩)
    go_ret
    unfold PB.or; rw [if_neg H0.out, if_pos HQ.out]
    exact ⟨rfl, A1, c1, hs, (Step.of_below (below_alloc w _)).trans st⟩

theorem Row.three (w : World) (x y z : Value) (t : TypeId) : Row (w.alloc (.cells #[x, y, z] t)) (some ⟨w.heap.size, 0, none⟩) [x, y, z] := by
  intro j hj
  refine ⟨w.heap.size, 0, rfl, ?_⟩
  match j, hj with
  | 0, _ => exact box_cell (Below.refl _ _) 0 _ rfl
  | 1, _ => exact box_cell (Below.refl _ _) 1 _ rfl
  | 2, _ => exact box_cell (Below.refl _ _) 2 _ rfl
theorem litOk_three {s : PB} (h : s.Ok) (x y z : Int) : LitOk (litN s.n s.G.length) [x, y, z] ↔ s.lit x ∧ s.lit y ∧ s.lit z := by
  rw [PB.litN_eq h]
  unfold LitOk PB.lit
  simp

set_option maxHeartbeats 400000 in
theorem xor_any {w : World} {bb mb : Nat} {A : Option Addr} {c : Nat} {s : PB} (h : BSt w bb mb A c s) (x y : Int) :
    Calls Try.prog 36 #[.pointer (some ⟨bb, 0, none⟩), .int .i64 x, .int .i64 y] w fun e w' => BPost w bb mb A (s.xor x y) e w' := by
  have H := hid h
  by_cases h0 : s.er ≠ 0
  · have H0 := hid h0; clear h h0
    go_enter Try.func36, Try.ntmps36
    go_wp2_with (go_at_call 52; refine (valid_bad (H.out.below (below_alloc w _)) H0.out _).mono ?_; rintro e w1 ⟨rfl, hw1⟩; rw [← hw1]; clear hw1 w1)
    go_ret
    unfold PB.xor; rw [if_pos H0.out]
    exact ⟨rfl, A, c, H.out.below (below_alloc w _), Step.of_below (below_alloc w _)⟩
  have h0' : s.er = 0 := by simpa using h0
  have H0 := hid h0; have H0' := hid h0'; clear h0 h0'
  have hL : LitOk (litN s.n s.G.length) [x, y] ↔ s.lit x ∧ s.lit y := litOk_two h.ok x y
  have HL := hid hL; clear hL
  by_cases q0 : s.lit x ∧ s.lit y
  · have hx := PB.lit_bd h.ok q0.1; have hy := PB.lit_bd h.ok q0.2
    have HQ := hid q0; clear q0 h
    have hxor : s.xor x y = s.both x (notI y) (notI x) y := by unfold PB.xor; rw [if_neg H0.out, if_neg (fun hh => hh HQ.out)]
    have HX := hid hxor; clear hxor
    go_enter Try.func36, Try.ntmps36
    go_wp2_with (go_at_call 52; refine (valid_yes (H.out.below (below_alloc w _)) H0'.out (L := [x, y]) (by simp) (Row.two _ _ _ _) (HL.out.2 HQ.out)).mono ?_; rintro e w1 ⟨rfl, hb1⟩; have hbw := bthen (below_alloc w _) hb1; have HS1 := hid (H.out.below hbw))
    refine (not_any y _ (by omega) (by omega)).mono ?_
    rintro e w2 ⟨rfl, hw2⟩; rw [hw2]; clear hw2 w2
    go_wp2_with fail
    obtain ⟨r1, hr1⟩ : ∃ r, r = s.and x (notI y) := ⟨_, rfl⟩
    refine (and_any HS1.out x (notI y)).mono ?_
    rw [← hr1]
    rintro e w3 ⟨rfl, A3, c3, hs3, st3⟩
    have HR1 := hid hr1; have HS3 := hid hs3; clear hr1 hs3
    go_wp2_with fail
    refine (not_any x _ (by omega) (by omega)).mono ?_
    rintro e w4 ⟨rfl, hw4⟩; rw [hw4]; clear hw4 w4
    go_wp2_with fail
    obtain ⟨r2, hr2⟩ : ∃ r, r = r1.1.and (notI x) y := ⟨_, rfl⟩
    refine (and_any HS3.out (notI x) y).mono ?_
    rw [← hr2]
    rintro e w5 ⟨rfl, A5, c5, hs5, st5⟩
    have HR2 := hid hr2; have HS5 := hid hs5; clear hr2 hs5
    go_wp2_with fail
    obtain ⟨r3, hr3⟩ : ∃ r, r = r2.1.or r1.2 r2.2 := ⟨_, rfl⟩
    refine (or_any HS5.out r1.2 r2.2).mono ?_
    rw [← hr3]
    rintro e w6 ⟨rfl, A6, c6, hs6, st6⟩
    have HR3 := hid hr3; have HS6 := hid hs6; clear hr3 hs6
    go_wp2_with (go_at_call 53; refine (settle_any HS6.out _).mono ?_; rintro e w7 ⟨rfl, hw7⟩; rw [← hw7]; clear hw7 w7)
    go_ret
    rw [HX.out]; unfold PB.both; simp only []; rw [← HR1.out, ← HR2.out, ← HR3.out]
    exact ⟨rfl, A6, c6, HS6.out, (((Step.of_below hbw).trans st3).trans st5).trans st6⟩
  · have HQ := hid q0; clear q0 h
    go_enter Try.func36, Try.ntmps36
    go_wp2_with (go_at_call 52; refine (valid_no (H.out.below (below_alloc w _)) H0'.out (L := [x, y]) (by simp) (Row.two _ _ _ _) (fun hh => HQ.out (HL.out.1 hh))).mono ?_; rintro e w1 ⟨rfl, A1, c1, hs, st⟩)
    go_ret
    unfold PB.xor; rw [if_neg H0.out, if_pos HQ.out]
    exact ⟨rfl, A1, c1, hs, (Step.of_below (below_alloc w _)).trans st⟩

set_option maxHeartbeats 400000 in
theorem mux_any {w : World} {bb mb : Nat} {A : Option Addr} {c : Nat} {s : PB} (h : BSt w bb mb A c s) (z x y : Int) :
    Calls Try.prog 44 #[.pointer (some ⟨bb, 0, none⟩), .int .i64 z, .int .i64 x, .int .i64 y] w fun e w' => BPost w bb mb A (s.mux z x y) e w' := by
  have H := hid h
  by_cases h0 : s.er ≠ 0
  · have H0 := hid h0; clear h h0
    go_enter Try.func44, Try.ntmps44
    go_wp2_with (go_at_call 52; refine (valid_bad (H.out.below (below_alloc w _)) H0.out _).mono ?_; rintro e w1 ⟨rfl, hw1⟩; rw [← hw1]; clear hw1 w1)
    go_ret
    unfold PB.mux; rw [if_pos H0.out]
    exact ⟨rfl, A, c, H.out.below (below_alloc w _), Step.of_below (below_alloc w _)⟩
  have h0' : s.er = 0 := by simpa using h0
  have H0 := hid h0; have H0' := hid h0'; clear h0 h0'
  have hL : LitOk (litN s.n s.G.length) [z, x, y] ↔ s.lit z ∧ s.lit x ∧ s.lit y := litOk_three h.ok z x y
  have HL := hid hL; clear hL
  by_cases q0 : s.lit z ∧ s.lit x ∧ s.lit y
  · have hzb := PB.lit_bd h.ok q0.1; have hx := PB.lit_bd h.ok q0.2.1; have hy := PB.lit_bd h.ok q0.2.2
    have HQ := hid q0; clear q0 h
    have hxor : s.mux z x y = s.both z x (notI z) y := by unfold PB.mux; rw [if_neg H0.out, if_neg (fun hh => hh HQ.out)]
    have HX := hid hxor; clear hxor
    go_enter Try.func44, Try.ntmps44
    go_wp2_with (go_at_call 52; refine (valid_yes (H.out.below (below_alloc w _)) H0'.out (L := [z, x, y]) (by simp) (Row.three _ _ _ _ _) (HL.out.2 HQ.out)).mono ?_; rintro e w1 ⟨rfl, hb1⟩; have hbw := bthen (below_alloc w _) hb1; have HS1 := hid (H.out.below hbw))
    obtain ⟨r1, hr1⟩ : ∃ r, r = s.and z x := ⟨_, rfl⟩
    refine (and_any HS1.out z x).mono ?_
    rw [← hr1]
    rintro e w3 ⟨rfl, A3, c3, hs3, st3⟩
    have HR1 := hid hr1; have HS3 := hid hs3; clear hr1 hs3
    go_wp2_with fail
    refine (not_any z _ (by omega) (by omega)).mono ?_
    rintro e w4 ⟨rfl, hw4⟩; rw [hw4]; clear hw4 w4
    go_wp2_with fail
    obtain ⟨r2, hr2⟩ : ∃ r, r = r1.1.and (notI z) y := ⟨_, rfl⟩
    refine (and_any HS3.out (notI z) y).mono ?_
    rw [← hr2]
    rintro e w5 ⟨rfl, A5, c5, hs5, st5⟩
    have HR2 := hid hr2; have HS5 := hid hs5; clear hr2 hs5
    go_wp2_with fail
    obtain ⟨r3, hr3⟩ : ∃ r, r = r2.1.or r1.2 r2.2 := ⟨_, rfl⟩
    refine (or_any HS5.out r1.2 r2.2).mono ?_
    rw [← hr3]
    rintro e w6 ⟨rfl, A6, c6, hs6, st6⟩
    have HR3 := hid hr3; have HS6 := hid hs6; clear hr3 hs6
    go_wp2_with (go_at_call 53; refine (settle_any HS6.out _).mono ?_; rintro e w7 ⟨rfl, hw7⟩; rw [← hw7]; clear hw7 w7)
    go_ret
    rw [HX.out]; unfold PB.both; simp only []; rw [← HR1.out, ← HR2.out, ← HR3.out]
    exact ⟨rfl, A6, c6, HS6.out, (((Step.of_below hbw).trans st3).trans st5).trans st6⟩
  · have HQ := hid q0; clear q0 h
    go_enter Try.func44, Try.ntmps44
    go_wp2_with (go_at_call 52; refine (valid_no (H.out.below (below_alloc w _)) H0'.out (L := [z, x, y]) (by simp) (Row.three _ _ _ _ _) (fun hh => HQ.out (HL.out.1 hh))).mono ?_; rintro e w1 ⟨rfl, A1, c1, hs, st⟩)
    go_ret
    unfold PB.mux; rw [if_neg H0.out, if_pos HQ.out]
    exact ⟨rfl, A1, c1, hs, (Step.of_below (below_alloc w _)).trans st⟩

/-- the call answers a circuit -/
def GivesGates (w : World) (n : Int) (G : List (Int × Int)) (e : Ending) (w' : World) : Prop := ∃ B d, e = .returned (.agg #[.int .i64 n, .slice B G.length d]) ∧ Row w' B (gcells G) ∧ Below w.heap.size w w'
set_option maxHeartbeats 400000 in
theorem circuit_any {w : World} {bb mb : Nat} {A : Option Addr} {c : Nat} {s : PB} (h : BSt w bb mb A c s) :
    Calls Try.prog 21 #[.pointer (some ⟨bb, 0, none⟩)] w (GivesGates w s.n s.G) := by
  have h0 := h.c0; have h1 := h.c1; have hbl := h.lt; have hlo := h.ok.lo; have hhi := h.ok.hi; have hsz := h.ok.size
  obtain ⟨i0, hi, hz0, hz1, hz2⟩ := info_parts info69
  have HI := hid hi; have HZ0 := hid hz0; have HZ1 := hid hz1; have HZ2 := hid hz2
  cases hA : A with
  | none =>
    subst hA
    have hc : c = 0 ∧ s.G = [] := by
      rcases h.own.2 with ⟨he, hn⟩ | ⟨g, cap, cur, he, _⟩
      · injection he with _ _ he; exact ⟨he, List.eq_nil_of_length_eq_zero hn⟩
      · cases he
    obtain ⟨rfl, hG⟩ := hc
    have hGl : s.G.length = 0 := by rw [hG]; rfl
    rw [hGl] at h1
    have HG := hid hG; have HGL := hid hGl; clear h hG hGl
    go_enter Try.func21, Try.ntmps21
    go_wp2_with fail
    refine wp_region_J (fun j => match j with | 10 => some (fun W => W.cell? ⟨bb, 0, none⟩ = some (.int .i64 s.n)) | 12 => some (fun _ => True) | _ => none) (by kernel_rfl) ?_
    refine anyJ_take (some 3) (i := 0) (T := fun _ => True) (v := ?_) rfl rfl (by kernel_rfl) (by kernel_rfl) (by kernel_rfl) (fun _ _ _ h => h) (js := [10]) (by kernel_rfl) Leads.true rfl (Or.inl ⟨by rfl, ?_⟩) trivial ?_
    rotate_left
    · (intro wL hSw; (try dsimp only at hSw); go_simp; try with_reducible rfl)
    try simp only [Act.put, List.setIfInBounds_toArray, List.set_cons_zero, List.set_cons_succ]
    refine anyJ_take (some 4) (i := 1) (T := fun _ => True) (v := ?_) rfl rfl (by kernel_rfl) (by kernel_rfl) (by kernel_rfl) (fun _ _ _ h => h) (js := [10]) (by kernel_rfl) Leads.true rfl (Or.inl ⟨by rfl, ?_⟩) trivial ?_
    rotate_left
    · (intro wL hSw; (try dsimp only at hSw); go_simp; try with_reducible rfl)
    try simp only [Act.put, List.setIfInBounds_toArray, List.set_cons_zero, List.set_cons_succ]
    refine anyJ_take (some 5) (i := 2) (T := fun _ => True) (v := ?_) rfl rfl (by kernel_rfl) (by kernel_rfl) (by kernel_rfl) (fun _ _ _ h => h) (js := [10]) (by kernel_rfl) Leads.true rfl (Or.inl ⟨by rfl, ?_⟩) trivial ?_
    rotate_left
    · (intro wL hSw; (try dsimp only at hSw); go_simp; try with_reducible rfl)
    try simp only [Act.put, List.setIfInBounds_toArray, List.set_cons_zero, List.set_cons_succ]
    refine anyJ_take (some 6) (i := 3) (T := fun _ => True) (v := ?_) rfl rfl (by kernel_rfl) (by kernel_rfl) (by kernel_rfl) (fun _ _ _ h => h) (js := [10]) (by kernel_rfl) Leads.true rfl (Or.inl ⟨by rfl, ?_⟩) trivial ?_
    rotate_left
    · (intro wL hSw; (try dsimp only at hSw); go_simp; try with_reducible rfl)
    try simp only [Act.put, List.setIfInBounds_toArray, List.set_cons_zero, List.set_cons_succ]
    refine anyJ_take (some 7) (i := 4) (T := fun W => W.cell? ⟨bb, 0, none⟩ = some (.int .i64 s.n)) (v := ?_) rfl rfl (by kernel_rfl) (by kernel_rfl) (by kernel_rfl) (fun _ _ _ h => h) (js := [10]) (by kernel_rfl) (Leads.cons _ rfl (fun w h => h) Leads.nil) rfl (Or.inl ⟨by rfl, ?_⟩) ((by go_simp)) ?_
    rotate_left
    · (intro wL hSw; (try dsimp only at hSw); go_simp; try with_reducible rfl)
    try simp only [Act.put, List.setIfInBounds_toArray, List.set_cons_zero, List.set_cons_succ]
    refine anyJ_take (some 8) (i := 5) (T := fun _ => True) (v := ?_) rfl rfl (by kernel_rfl) (by kernel_rfl) (by kernel_rfl) (fun _ _ _ h => h) (js := []) (by kernel_rfl) Leads.true rfl (Or.inl ⟨by rfl, ?_⟩) trivial ?_
    rotate_left
    · (intro wL hSw; (try dsimp only at hSw); go_simp; try with_reducible rfl)
    try simp only [Act.put, List.setIfInBounds_toArray, List.set_cons_zero, List.set_cons_succ]
    refine anyJ_take (some 9) (i := 6) (T := fun _ => True) (v := ?_) rfl rfl (by kernel_rfl) (by kernel_rfl) (by kernel_rfl) (fun _ _ _ h => h) (js := []) (by kernel_rfl) Leads.true rfl (Or.inl ⟨by rfl, ?_⟩) trivial ?_
    rotate_left
    · (intro wL hSw; (try dsimp only at hSw); go_simp; try with_reducible rfl)
    try simp only [Act.put, List.setIfInBounds_toArray, List.set_cons_zero, List.set_cons_succ]
    refine anyJ_take (some 10) (i := 7) (T := fun _ => True) (v := ?_) rfl rfl (by kernel_rfl) (by kernel_rfl) (by kernel_rfl) (fun _ _ _ h => h) (js := []) (by kernel_rfl) Leads.true rfl (Or.inl ⟨by rfl, ?_⟩) trivial ?_
    rotate_left
    · (intro wL hSw; (try dsimp only at hSw); go_simp; try with_reducible rfl)
    try simp only [Act.put, List.setIfInBounds_toArray, List.set_cons_zero, List.set_cons_succ]
    refine anyJ_take (some 11) (i := 8) (T := fun _ => True) (v := ?_) rfl rfl (by kernel_rfl) (by kernel_rfl) (by kernel_rfl) (fun _ _ _ h => h) (js := []) (by kernel_rfl) Leads.true rfl (Or.inl ⟨by rfl, ?_⟩) trivial ?_
    rotate_left
    · (intro wL hSw; (try dsimp only at hSw); go_simp; try with_reducible rfl)
    try simp only [Act.put, List.setIfInBounds_toArray, List.set_cons_zero, List.set_cons_succ]
    refine anyJ_take (some 12) (i := 9) (T := fun W => W.cell? ⟨bb, 1, none⟩ = some (.slice none 0 0)) (v := ?_) rfl rfl (by kernel_rfl) (by kernel_rfl) (by kernel_rfl) (fun _ _ _ h => h) (js := []) (by kernel_rfl) Leads.nil rfl (Or.inl ⟨by rfl, ?_⟩) ((by go_simp)) ?_
    rotate_left
    · (intro wL hSw; (try dsimp only at hSw); go_simp; try with_reducible rfl)
    try simp only [Act.put, List.setIfInBounds_toArray, List.set_cons_zero, List.set_cons_succ]
    refine anyJ_one (i := 10) (oi := { dst := some 13, op := Go.Op.call { callee := Go.Callee.builtin Go.Builtin.append, args := #[Go.Operand.const (Go.Value.slice none 0 0), Go.Operand.tmp 12], argTypes := #[22, 22] }, type := 22, pos := "gates.go:134", after := #[{ on := 9, ground := Go.Ground.data }], guard := none }) rfl (by kernel_rfl) rfl (fun K hK => ?_)
    refine wp_append_none (.const (.slice none 0 0)) (.tmp 12) 22 rfl 0 69 i0 2 Try.underlying22 hi (.slice none 0 0) 0 [] rfl (World.ownsRow_nil _ _ _ _) rfl ?_
    refine hK.out _ _ (show World.cell? _ _ = _ from (by go_simp)) ?_
    clear hK K
    try simp only [Act.put, List.setIfInBounds_toArray, List.set_cons_zero, List.set_cons_succ]
    refine anyJ_take (some 14) (i := 11) (T := fun _ => True) (v := ?_) rfl rfl (by kernel_rfl) (by kernel_rfl) (by kernel_rfl) (fun _ _ _ h => h) (js := [10]) (by kernel_rfl) Leads.true rfl (Or.inl ⟨by rfl, ?_⟩) trivial ?_
    rotate_left
    · (intro wL hSw; (try dsimp only at hSw); go_simp; try with_reducible rfl)
    try simp only [Act.put, List.setIfInBounds_toArray, List.set_cons_zero, List.set_cons_succ]
    refine anyJ_one (i := 12) (oi := { dst := none, op := Go.Op.store 24 (Go.Operand.tmp 2) (Go.Operand.tmp 14), type := 0, pos := "gates.go:134", after := #[{ on := 11, ground := Go.Ground.data }, { on := 10, ground := Go.Ground.chain }, { on := 0, ground := Go.Ground.phase }, { on := 1, ground := Go.Ground.phase }, { on := 2, ground := Go.Ground.phase }, { on := 3, ground := Go.Ground.phase }, { on := 4, ground := Go.Ground.phase }, { on := 5, ground := Go.Ground.phase }, { on := 6, ground := Go.Ground.phase }, { on := 7, ground := Go.Ground.phase }, { on := 8, ground := Go.Ground.phase }, { on := 9, ground := Go.Ground.phase }, { on := 10, ground := Go.Ground.phase }, { on := 11, ground := Go.Ground.phase }], guard := none }) rfl (by kernel_rfl) rfl (fun K hK => ?_)
    go_simp
    refine hK.out _ _ trivial ?_
    clear hK K
    try simp only [Act.put, List.setIfInBounds_toArray, List.set_cons_zero, List.set_cons_succ]
    refine anyJ_done (by kernel_rfl) ?_
    go_wp2_with fail
    refine bodyPost_ret (v := .agg #[.int .i64 s.n, .slice none 0 0]) (by simp [results, Try.results21, go_sem]) rfl ⟨none, 0, by rw [HGL.out], by rw [HG.out]; exact Row.nil, bthen (below_alloc _ _) (below_drew' _)⟩
  | some a =>
    subst hA
    have hnews : ∀ W, Below w.heap.size w W → ∀ j u, (gcells s.G)[j]? = some u → W.cell? (a.add j) = some u := fun W hW j u hj => by
      rcases h.own.2 with ⟨he, _⟩ | ⟨g, cap, cur, he, _⟩
      · cases he
      · injection he with he; injection he with he; subst he
        exact below_cell hW (h.own.cells (g := g) rfl j u hj)
    have hnews' : ∀ j u, (gcells s.G)[j]? = some u → (w.alloc (.cells #[.int .i64 0, .slice none 0 0] 24)).drew.cell? (a.add j) = some u := hnews _ (bthen (below_alloc _ _) (below_drew' _))
    have HNEWS := hid hnews'
    have H := hid h; clear h hnews hnews'
    go_enter Try.func21, Try.ntmps21
    go_wp2_with fail
    refine wp_region_J (fun j => match j with | 10 => some (fun W => W.cell? ⟨bb, 0, none⟩ = some (.int .i64 s.n)) | 12 => some (fun _ => True) | _ => none) (by kernel_rfl) ?_
    refine anyJ_take (some 3) (i := 0) (T := fun _ => True) (v := ?_) rfl rfl (by kernel_rfl) (by kernel_rfl) (by kernel_rfl) (fun _ _ _ h => h) (js := [10]) (by kernel_rfl) Leads.true rfl (Or.inl ⟨by rfl, ?_⟩) trivial ?_
    rotate_left
    · (intro wL hSw; (try dsimp only at hSw); go_simp; try with_reducible rfl)
    try simp only [Act.put, List.setIfInBounds_toArray, List.set_cons_zero, List.set_cons_succ]
    refine anyJ_take (some 4) (i := 1) (T := fun _ => True) (v := ?_) rfl rfl (by kernel_rfl) (by kernel_rfl) (by kernel_rfl) (fun _ _ _ h => h) (js := [10]) (by kernel_rfl) Leads.true rfl (Or.inl ⟨by rfl, ?_⟩) trivial ?_
    rotate_left
    · (intro wL hSw; (try dsimp only at hSw); go_simp; try with_reducible rfl)
    try simp only [Act.put, List.setIfInBounds_toArray, List.set_cons_zero, List.set_cons_succ]
    refine anyJ_take (some 5) (i := 2) (T := fun _ => True) (v := ?_) rfl rfl (by kernel_rfl) (by kernel_rfl) (by kernel_rfl) (fun _ _ _ h => h) (js := [10]) (by kernel_rfl) Leads.true rfl (Or.inl ⟨by rfl, ?_⟩) trivial ?_
    rotate_left
    · (intro wL hSw; (try dsimp only at hSw); go_simp; try with_reducible rfl)
    try simp only [Act.put, List.setIfInBounds_toArray, List.set_cons_zero, List.set_cons_succ]
    refine anyJ_take (some 6) (i := 3) (T := fun _ => True) (v := ?_) rfl rfl (by kernel_rfl) (by kernel_rfl) (by kernel_rfl) (fun _ _ _ h => h) (js := [10]) (by kernel_rfl) Leads.true rfl (Or.inl ⟨by rfl, ?_⟩) trivial ?_
    rotate_left
    · (intro wL hSw; (try dsimp only at hSw); go_simp; try with_reducible rfl)
    try simp only [Act.put, List.setIfInBounds_toArray, List.set_cons_zero, List.set_cons_succ]
    refine anyJ_take (some 7) (i := 4) (T := fun W => W.cell? ⟨bb, 0, none⟩ = some (.int .i64 s.n)) (v := ?_) rfl rfl (by kernel_rfl) (by kernel_rfl) (by kernel_rfl) (fun _ _ _ h => h) (js := [10]) (by kernel_rfl) (Leads.cons _ rfl (fun w h => h) Leads.nil) rfl (Or.inl ⟨by rfl, ?_⟩) ((by go_simp)) ?_
    rotate_left
    · (intro wL hSw; (try dsimp only at hSw); go_simp; try with_reducible rfl)
    try simp only [Act.put, List.setIfInBounds_toArray, List.set_cons_zero, List.set_cons_succ]
    refine anyJ_take (some 8) (i := 5) (T := fun _ => True) (v := ?_) rfl rfl (by kernel_rfl) (by kernel_rfl) (by kernel_rfl) (fun _ _ _ h => h) (js := []) (by kernel_rfl) Leads.true rfl (Or.inl ⟨by rfl, ?_⟩) trivial ?_
    rotate_left
    · (intro wL hSw; (try dsimp only at hSw); go_simp; try with_reducible rfl)
    try simp only [Act.put, List.setIfInBounds_toArray, List.set_cons_zero, List.set_cons_succ]
    refine anyJ_take (some 9) (i := 6) (T := fun _ => True) (v := ?_) rfl rfl (by kernel_rfl) (by kernel_rfl) (by kernel_rfl) (fun _ _ _ h => h) (js := []) (by kernel_rfl) Leads.true rfl (Or.inl ⟨by rfl, ?_⟩) trivial ?_
    rotate_left
    · (intro wL hSw; (try dsimp only at hSw); go_simp; try with_reducible rfl)
    try simp only [Act.put, List.setIfInBounds_toArray, List.set_cons_zero, List.set_cons_succ]
    refine anyJ_take (some 10) (i := 7) (T := fun _ => True) (v := ?_) rfl rfl (by kernel_rfl) (by kernel_rfl) (by kernel_rfl) (fun _ _ _ h => h) (js := []) (by kernel_rfl) Leads.true rfl (Or.inl ⟨by rfl, ?_⟩) trivial ?_
    rotate_left
    · (intro wL hSw; (try dsimp only at hSw); go_simp; try with_reducible rfl)
    try simp only [Act.put, List.setIfInBounds_toArray, List.set_cons_zero, List.set_cons_succ]
    refine anyJ_take (some 11) (i := 8) (T := fun _ => True) (v := ?_) rfl rfl (by kernel_rfl) (by kernel_rfl) (by kernel_rfl) (fun _ _ _ h => h) (js := []) (by kernel_rfl) Leads.true rfl (Or.inl ⟨by rfl, ?_⟩) trivial ?_
    rotate_left
    · (intro wL hSw; (try dsimp only at hSw); go_simp; try with_reducible rfl)
    try simp only [Act.put, List.setIfInBounds_toArray, List.set_cons_zero, List.set_cons_succ]
    refine anyJ_take (some 12) (i := 9) (T := fun W => W.cell? ⟨bb, 1, none⟩ = some (.slice (some a) s.G.length c)) (v := ?_) rfl rfl (by kernel_rfl) (by kernel_rfl) (by kernel_rfl) (fun _ _ _ h => h) (js := []) (by kernel_rfl) Leads.nil rfl (Or.inl ⟨by rfl, ?_⟩) ((by go_simp)) ?_
    rotate_left
    · (intro wL hSw; (try dsimp only at hSw); go_simp; try with_reducible rfl)
    try simp only [Act.put, List.setIfInBounds_toArray, List.set_cons_zero, List.set_cons_succ]
    refine anyJ_one (i := 10) (oi := { dst := some 13, op := Go.Op.call { callee := Go.Callee.builtin Go.Builtin.append, args := #[Go.Operand.const (Go.Value.slice none 0 0), Go.Operand.tmp 12], argTypes := #[22, 22] }, type := 22, pos := "gates.go:134", after := #[{ on := 9, ground := Go.Ground.data }], guard := none }) rfl (by kernel_rfl) rfl (fun K hK => ?_)
    refine wp_append_at (.const (.slice none 0 0)) (.tmp 12) 22 rfl 0 69 i0 (.agg #[.int .i64 0, .int .i64 0]) 2 16 Try.underlying22 hi hz0 hz1 hz2 rfl (by decide) (.slice none 0 0) 0 [] rfl (World.ownsRow_nil _ _ _ _) a s.G.length c (gcells s.G) rfl (by rw [gcells_length, Nat.mul_comm]) HNEWS.out (gcells_one _) (by unfold maxLen; omega) (by omega) (Nat.zero_le _) ?_
    intro v' w4 hown4 hgr4 hat4
    simp only [Nat.zero_add, List.nil_append] at hown4
    obtain ⟨B, d, rfl⟩ := own_shape hown4
    have e0 : w4.cell? ⟨bb, 0, none⟩ = some (.int .i64 s.n) := hgr4.cell (by go_simp) (fun e => by cases e)
    have e1 : w4.cell? ⟨w.heap.size, 0, none⟩ = some (.int .i64 0) := hgr4.cell (by go_simp) (fun e => by cases e)
    have e2 : w4.cell? ⟨w.heap.size, 1, none⟩ = some (.slice none 0 0) := hgr4.cell (by go_simp) (fun e => by cases e)
    have fz : w4.heap[w.heap.size]? = some (.cells #[.int .i64 0, .slice none 0 0] 24 (0, 0)) := (hgr4.block _ (by simp) (fun e => by cases e)).trans (by show (w.heap.push _)[w.heap.size]? = _; rw [Array.getElem?_push_size])
    have f0 : w4.frozen? ⟨w.heap.size, 0, none⟩ = false := by simp [World.frozen?, fz]
    have f1 : w4.frozen? ⟨w.heap.size, 1, none⟩ = false := by simp [World.frozen?, fz]
    refine hK.out _ _ (show World.cell? _ _ = _ from e0) ?_
    clear hK K
    have HOWN4 := hid hown4; have HGR4 := hid hgr4; have FZ := hid fz; clear hown4 hgr4 hat4 fz
    try simp only [Act.put, List.setIfInBounds_toArray, List.set_cons_zero, List.set_cons_succ]
    refine anyJ_take (some 14) (i := 11) (T := fun _ => True) (v := ?_) rfl rfl (by kernel_rfl) (by kernel_rfl) (by kernel_rfl) (fun _ _ _ h => h) (js := [10]) (by kernel_rfl) Leads.true rfl (Or.inl ⟨by rfl, ?_⟩) trivial ?_
    rotate_left
    · (intro wL hSw; (try dsimp only at hSw); go_simp; try with_reducible rfl)
    try simp only [Act.put, List.setIfInBounds_toArray, List.set_cons_zero, List.set_cons_succ]
    refine anyJ_one (i := 12) (oi := { dst := none, op := Go.Op.store 24 (Go.Operand.tmp 2) (Go.Operand.tmp 14), type := 0, pos := "gates.go:134", after := #[{ on := 11, ground := Go.Ground.data }, { on := 10, ground := Go.Ground.chain }, { on := 0, ground := Go.Ground.phase }, { on := 1, ground := Go.Ground.phase }, { on := 2, ground := Go.Ground.phase }, { on := 3, ground := Go.Ground.phase }, { on := 4, ground := Go.Ground.phase }, { on := 5, ground := Go.Ground.phase }, { on := 6, ground := Go.Ground.phase }, { on := 7, ground := Go.Ground.phase }, { on := 8, ground := Go.Ground.phase }, { on := 9, ground := Go.Ground.phase }, { on := 10, ground := Go.Ground.phase }, { on := 11, ground := Go.Ground.phase }], guard := none }) rfl (by kernel_rfl) rfl (fun K hK => ?_)
    go_simp
    refine hK.out _ _ trivial ?_
    clear hK K
    try simp only [Act.put, List.setIfInBounds_toArray, List.set_cons_zero, List.set_cons_succ]
    refine anyJ_done (by kernel_rfl) ?_
    have r5 := setCell_row (setCell_row FZ.out 0 (.int .i64 s.n)) 1 (.slice B s.G.length d)
    have q0 := cell_of_row' r5 0 _ rfl
    have q1 := cell_of_row' r5 1 _ rfl
    clear r5
    go_wp2_with fail
    refine bodyPost_ret (v := .agg #[.int .i64 s.n, .slice B s.G.length d]) (by simp [results, Try.results21, go_sem, q0, q1]) rfl ⟨B, d, rfl, ?_, ?_⟩
    · intro j hj
      obtain ⟨sb, so, e1, e2⟩ := Row.of_own HOWN4.out j hj
      refine ⟨sb, so, e1, ?_⟩
      have hne : sb ≠ w.heap.size := fun e => by
        subst e1
        rcases HOWN4.out.2 with ⟨he, _⟩ | ⟨g, cap, cur, he, _, hh, _⟩
        · cases he
        · injection he with he; injection he with he; injection he with he1 he2
          rw [← he1, e, FZ.out] at hh
          injection hh with hh; injection hh with _ h2 _; cases h2
      exact ((World.cell?_of_block (Below.heap_setCell _ _ _ _ hne)).trans (World.cell?_of_block (Below.heap_setCell _ _ _ _ hne))).trans e2
    · have hb0 : Below w.heap.size w w4 := (bthen (below_alloc w _) (below_drew' _)).grown HGR4.out (by simp) (fun k hk => by cases hk)
      exact (hb0.setCell (Nat.le_refl _) _).setCell (Nat.le_refl _) _
end Go.Proofs.Ytelbjendeldlcaa
