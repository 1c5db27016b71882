/- DominatorLoops answers true. -/
import Derived.Test.YtjddegfigdpcbaaAY
import Derived.Test.YtjddegfigdpcbaaV
namespace Go.Proofs.Ytjddegfigdpcbaa
open Go.RowKit

theorem enter34 (args : Array Value) (W : World) : (callFunc 34 args).run Try.prog W = .ok (.enter 34 args) W := by kernel_rfl
theorem LpRow.shape {w : World} {A : Option Addr} {Ls : List (Nat × List Int)} (h : LpRow w A Ls) (h0 : 0 < Ls.length) : ∃ fb fo, A = some ⟨fb, fo, none⟩ := by
  obtain ⟨sb, so, _, _, e, _⟩ := h 0 h0
  exact ⟨sb, so, e⟩
theorem LpRow.at {w : World} {fb fo : Nat} {Ls : List (Nat × List Int)} (h : LpRow w (some ⟨fb, fo, none⟩) Ls) (i : Nat) (hi : i < Ls.length) : ∃ C c, w.cell? ⟨fb, fo + i * 2, none⟩ = some (.int .i64 ((Ls.getD i (0, [])).1 : Nat)) ∧ w.cell? ⟨fb, fo + i * 2 + 1, none⟩ = some (.slice C (Ls.getD i (0, [])).2.length c) ∧ Row w C (ints (Ls.getD i (0, [])).2) := by
  obtain ⟨sb, so, C, c, e, h1, h2, h3⟩ := h i hi
  cases e
  exact ⟨C, c, h1, h2, h3⟩
set_option maxHeartbeats 1000000 in
theorem eqLoop_any (h : Nat) (A B : Option Addr) (c d : Nat) (L : List Int) (w : World) (hl : L.length ≤ 1000000) (hA : Row w A (ints L)) (hB : Row w B (ints L)) :
    Calls Try.prog 34 #[.agg #[.int .i64 h, .slice A L.length c], .agg #[.int .i64 h, .slice B L.length d]] w fun e w' => e = .returned (.bool true) ∧ Below w.heap.size w w' := by
  have hb := Ytjddegfigdpcbaa.b2 w (.cells #[.int .i64 h, .slice A L.length c] 47) (.cells #[.int .i64 h, .slice B L.length d] 47)
  have HA := hid (hA.below hb); have HB := hid (hB.below hb); have HBW := hid hb
  clear hA hB hb
  go_enter Try.func34, Try.ntmps34
  go_wp2_with (go_at_call 35; refine (equalI_any A B c d L L _ (by omega) (by omega) HA.out HB.out).mono ?_; rintro e w1 ⟨ht, hb1⟩; obtain rfl := ht.eq_yes rfl; replace HBW := hid (bthen HBW.out hb1); clear ht hb1)
  go_ret
  exact ⟨rfl, HBW.out⟩
set_option maxHeartbeats 4000000 in
theorem eqLoops_any (A B : Option Addr) (c d : Nat) (Ls : List (Nat × List Int)) (w : World) (hl : Ls.length ≤ 1000000) (hs : ∀ i, i < Ls.length → (Ls.getD i (0, [])).2.length ≤ 1000000) (hA : LpRow w A Ls) (hB : LpRow w B Ls) :
    Calls Try.prog 33 #[.slice A Ls.length c, .slice B Ls.length d, .func (.func 34) #[] #[]] w fun e w' => e = .returned (.bool true) ∧ Below w.heap.size w w' := by
  have HA := hid hA; have HB := hid hB; have HS := hid hs
  clear hA hB hs
  have hen := enter34
  go_enter Try.func33, Try.ntmps33
  go_wp2_with fail
  go_loopw [17] (fun i wr => ∃ k : Nat, k ≤ Ls.length ∧ i = .int .i64 k ∧ Below w.heap.size w wr) (fun i _ => Ls.length - (intOf i).toNat)
  case atStart => exact ⟨0, Nat.zero_le _, rfl, Below.refl _ _⟩
  case round =>
    obtain ⟨k, hk, rfl, hbr⟩ := hrel
    by_cases hlt : k < Ls.length
    · obtain ⟨fb, fo, rfl⟩ := HA.out.shape (by omega)
      obtain ⟨gb, go_, rfl⟩ := HB.out.shape (by omega)
      obtain ⟨C, cc, x0, x1, x2⟩ := (HA.out.below hbr).at k hlt
      obtain ⟨D, dd, y0, y1, y2⟩ := (HB.out.below hbr).at k hlt
      have hsl := HS.out k hlt
      obtain ⟨h, hh⟩ : ∃ h, h = (Ls.getD k (0, [])).1 := ⟨_, rfl⟩
      obtain ⟨L, hL⟩ : ∃ L, L = (Ls.getD k (0, [])).2 := ⟨_, rfl⟩
      rw [← hh] at x0 y0
      rw [← hL] at x1 x2 y1 y2 hsl
      have X2 := hid (x2.below (Ytjddegfigdpcbaa.b2 wr (.cells #[.int .i64 h, .slice C L.length cc] 47) (.cells #[.int .i64 h, .slice D L.length dd] 47)))
      have Y2 := hid (y2.below (Ytjddegfigdpcbaa.b2 wr (.cells #[.int .i64 h, .slice C L.length cc] 47) (.cells #[.int .i64 h, .slice D L.length dd] 47)))
      have HBR := hid (bthen hbr (Ytjddegfigdpcbaa.b2 wr (.cells #[.int .i64 h, .slice C L.length cc] 47) (.cells #[.int .i64 h, .slice D L.length dd] 47)))
      have y0' := below_cell (below_alloc wr (.cells #[.int .i64 h, .slice C L.length cc] 47)) y0
      have y1' := below_cell (below_alloc wr (.cells #[.int .i64 h, .slice C L.length cc] 47)) y1
      clear hbr hh hL x2 y2
      go_wp2_with (go_at_call 34; refine (eqLoop_any h C D cc dd L _ hsl X2.out Y2.out).mono ?_; rintro e w5 ⟨rfl, hb5⟩; replace HBR := hid (bthen HBR.out hb5); clear hb5)
      exact ⟨⟨k + 1, by omega, by go_num, HBR.out⟩, by simp [intOf]; omega⟩
    · have HBR := hid hbr; clear hbr
      go_wp2_with fail
      go_ret
      exact ⟨rfl, HBR.out⟩
set_option maxHeartbeats 400000 in
theorem rLoops_no (pa : Option Addr) (pc : Nat) (F : List (List Int)) (w : World) (hF : FRow w pa F) (hsm : ∀ i, i < F.length → (F.getD i []).length ≤ 900) (hV : ¬ VldF F) :
    Calls Try.prog 32 #[.agg #[.slice pa F.length pc]] w (GivesLoops w []) := by
  have HV := hid hV
  have hbw := Ytjddegfigdpcbaa.b2 w (.cells #[.slice pa F.length pc] 24) (.cells #[] 47)
  have HBW := hid hbw
  have HF := hid (hF.below hbw)
  clear hV hbw hF
  go_enter Try.func32, Try.ntmps32
  go_wp2_with (go_at_call 14; refine (rvalid_n pa pc F.length F _ rfl HF.out hsm).mono ?_; rintro e w3 ⟨ht, hb3⟩; obtain rfl := ht.eq_no HV.out; replace HBW := hid (bthen HBW.out hb3); clear ht hb3)
  go_ret
  exact ⟨_, _, rfl, LpRow.nil, HBW.out⟩
theorem both_loops (pa : Option Addr) (pc : Nat) (F : List (List Int)) (hsm : ∀ i, i < F.length → (F.getD i []).length ≤ 900) :
    ∃ D : List (Nat × List Int), D.length ≤ F.length ∧ (∀ i, i < D.length → (D.getD i (0, [])).2.length ≤ F.length) ∧ (∀ w, FRow w pa F → Calls Try.prog 31 #[.agg #[.slice pa F.length pc]] w (GivesLoops w D)) ∧ (∀ w, FRow w pa F → Calls Try.prog 32 #[.agg #[.slice pa F.length pc]] w (GivesLoops w D)) := by
  by_cases hV : VldF F
  · refine ⟨loopsL F, loopsP_le F F.length, fun i hi => ?_, fun w h => Loops_yes pa pc F w h hsm hV, fun w h => rLoops_yes pa pc F w h hV hsm⟩
    have hm : (loopsL F).getD i (0, []) ∈ loopsL F := by rw [List.getD_eq_getElem?_getD, List.getElem?_eq_getElem hi]; exact List.getElem_mem hi
    obtain ⟨h, _, e⟩ := List.mem_map.1 hm
    rw [← e]
    exact bodyP_le F h F.length
  · exact ⟨[], by simp, fun i hi => by simp at hi, fun w h => Loops_no pa pc F w h hsm hV, fun w h => rLoops_no pa pc F w h hsm hV⟩
set_option maxHeartbeats 4000000 in
set_option maxRecDepth 100000 in
theorem loopsLaw_any (pa : Option Addr) (pc : Nat) (F : List (List Int)) (w : World) (hF : FRow w pa F) (hl : F.length ≤ maxLen) :
    Calls Try.prog 9 #[.agg #[.slice pa F.length pc]] w fun e w' => e = .returned (.bool true) ∧ Below w.heap.size w w' := by
  have HF := hid hF; have hl' := hl
  unfold maxLen at hl'
  clear hF
  go_enter Try.func9, Try.ntmps9
  go_wp2_with fail
  refine (awake_any _).mono ?_
  rintro e w1 ⟨rfl, hb1⟩
  have c0 : w1.cell? ⟨w.heap.size, 0, none⟩ = some (.slice pa F.length pc) := box_cell hb1 0 _ rfl
  have HBW := hid (bthen (below_alloc w _) hb1)
  replace HF := hid (HF.out.below HBW.out)
  clear hb1
  by_cases hS : ¬ SmallF F 14
  · have HS := hid hS; clear hS
    go_wp2_with (go_at_call 12; refine (small_any _ _ _ _ _ HF.out hl).mono ?_; rintro e w2 ⟨ht, hb2⟩; obtain rfl := ht.eq_no HS.out; replace HBW := hid (bthen HBW.out hb2); clear ht hb2)
    go_ret
    exact ⟨rfl, HBW.out⟩
  have hS := Classical.not_not.1 hS
  have hFl := hS.2
  have HS := hid hS; clear hS
  go_wp2_with (go_at_call 12; refine (small_any _ _ _ _ _ HF.out hl).mono ?_; rintro e w3 ⟨ht, hb2⟩; obtain rfl := ht.eq_yes HS.out; replace c0 := below_cell hb2 c0; replace HF := hid (HF.out.below hb2); replace HBW := hid (bthen HBW.out hb2); clear ht hb2)
  replace c0 := below_cell (below_drew' w3) c0; replace HF := hid (HF.out.below (below_drew' w3)); replace HBW := hid (bthen HBW.out (below_drew' w3))
  obtain ⟨D, hDl, hDs, h1, h2⟩ := both_loops pa pc F HS.out.s900
  have H1 := hid h1; have H2 := hid h2
  have HL1 := hid (show D.length ≤ 1000000 by omega); have HL2 := hid (show ∀ i, i < D.length → (D.getD i (0, [])).2.length ≤ 1000000 from fun i hi => by have := hDs i hi; omega)
  clear h1 h2 hDl hDs
  refine wp_region_J (fun j => match j with | 1 => some (fun W => W.cell? ⟨w.heap.size, 0, none⟩ = some (.slice pa F.length pc)) | 3 => some (fun W => W.cell? ⟨w.heap.size, 0, none⟩ = some (.slice pa F.length pc)) | _ => none) (by kernel_rfl) ?_
  refine anyJ_take (some 10) (i := 0) (T := fun W => W.cell? ⟨w.heap.size, 0, none⟩ = some (.slice pa F.length pc)) (v := ?_) rfl rfl (by kernel_rfl) (by kernel_rfl) (by kernel_rfl) (fun _ _ _ h => h) (js := []) (by kernel_rfl) Leads.nil rfl (Or.inl ⟨by rfl, ?_⟩) (c0) ?_
  rotate_left
  · (intro wL hSw; (try dsimp only at hSw); go_simp; try with_reducible rfl)
  try simp only [Act.put, List.setIfInBounds_toArray, List.set_cons_zero, List.set_cons_succ]
  refine anyJ_take (some 12) (i := 2) (T := fun W => W.cell? ⟨w.heap.size, 0, none⟩ = some (.slice pa F.length pc)) (v := ?_) rfl rfl (by kernel_rfl) (by kernel_rfl) (by kernel_rfl) (fun _ _ _ h => h) (js := [1]) (by kernel_rfl) (Leads.cons _ rfl (fun w h => h) Leads.nil) rfl (Or.inl ⟨by rfl, ?_⟩) (c0) ?_
  rotate_left
  · (intro wL hSw; (try dsimp only at hSw); go_simp; try with_reducible rfl)
  try simp only [Act.put, List.setIfInBounds_toArray, List.set_cons_zero, List.set_cons_succ]
  refine anyJ_one (i := 1) (oi := { dst := some 11, op := Go.Op.call { callee := Go.Callee.value (Go.Operand.func 31), args := #[Go.Operand.tmp 10], argTypes := #[24] }, type := 43, pos := "law.go:50", after := #[{ on := 0, ground := Go.Ground.data }], guard := none }) rfl (by kernel_rfl) (by rfl) (fun K hK => ?_)
  go_simp
  refine (H1.out _ HF.out).mono ?_
  rintro e wq ⟨A1, e1, he, hrq, hbq⟩
  subst he
  replace c0 := below_cell hbq c0; replace HF := hid (HF.out.below hbq); replace HBW := hid (bthen HBW.out hbq)
  have R1 := hid hrq
  refine hK.out _ _ (by dsimp only [Obl]; exact c0) ?_
  clear hK K hrq hbq
  try simp only [Act.put, List.setIfInBounds_toArray, List.set_cons_zero, List.set_cons_succ]
  refine anyJ_one (i := 3) (oi := { dst := some 13, op := Go.Op.call { callee := Go.Callee.value (Go.Operand.func 32), args := #[Go.Operand.tmp 12], argTypes := #[24] }, type := 43, pos := "law.go:50", after := #[{ on := 2, ground := Go.Ground.data }, { on := 1, ground := Go.Ground.chain }], guard := none }) rfl (by kernel_rfl) (by rfl) (fun K hK => ?_)
  go_simp
  refine (H2.out _ HF.out).mono ?_
  rintro e wq ⟨A2, e2, he, hrq, hbq⟩
  subst he
  replace c0 := below_cell hbq c0; replace HF := hid (HF.out.below hbq); replace HBW := hid (bthen HBW.out hbq); replace R1 := hid (R1.out.below hbq)
  have R2 := hid hrq
  refine hK.out _ _ (by dsimp only [Obl]; exact c0) ?_
  clear hK K hrq hbq
  try simp only [Act.put, List.setIfInBounds_toArray, List.set_cons_zero, List.set_cons_succ]
  refine anyJ_take (some 3) (i := 4) (T := fun _ => True) (v := ?_) rfl rfl (by kernel_rfl) (by kernel_rfl) (by kernel_rfl) (fun _ _ _ h => h) (js := [1, 3]) (by kernel_rfl) Leads.true rfl (Or.inl ⟨by rfl, ?_⟩) trivial ?_
  rotate_left
  · (intro wL hSw; (try dsimp only at hSw); go_simp; try with_reducible rfl)
  try simp only [Act.put, List.setIfInBounds_toArray, List.set_cons_zero, List.set_cons_succ]
  refine anyJ_take (some 4) (i := 5) (T := fun _ => True) (v := ?_) rfl rfl (by kernel_rfl) (by kernel_rfl) (by kernel_rfl) (fun _ _ _ h => h) (js := [1, 3]) (by kernel_rfl) Leads.true rfl (Or.inl ⟨by rfl, ?_⟩) trivial ?_
  rotate_left
  · (intro wL hSw; (try dsimp only at hSw); go_simp; try with_reducible rfl)
  try simp only [Act.put, List.setIfInBounds_toArray, List.set_cons_zero, List.set_cons_succ]
  refine anyJ_done (by kernel_rfl) ?_
  clear c0
  go_wp2_with (go_at_call 33; refine (eqLoops_any A1 A2 e1 e2 D _ HL1.out HL2.out R1.out R2.out).mono ?_; rintro e w9 ⟨rfl, hb9⟩; replace HBW := hid (bthen HBW.out hb9); clear hb9)
  go_ret
  exact ⟨rfl, HBW.out⟩
end Go.Proofs.Ytjddegfigdpcbaa
