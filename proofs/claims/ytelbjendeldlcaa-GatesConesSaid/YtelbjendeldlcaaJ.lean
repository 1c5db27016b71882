/- assessorref24.Eval. Lengths below 10^12. -/
import Derived.Test.YtelbjendeldlcaaH
import Derived.Deep.QuietTactic
import Derived.BigQuiet
namespace Go.Proofs.Ytelbjendeldlcaa
open Go.RowKit

set_option maxHeartbeats 400000 in
theorem reval_no (n : Int) (ga : Option Addr) (gc : Nat) (G : List (Int × Int)) (iv : Value) (ia : Option Addr) (il ic : Nat) (la : Option Addr) (lc : Nat) (L : List Int) (w : World)
    (hG : Row w ga (gcells G)) (hlen : G.length ≤ 1000000000000) (hll : L.length ≤ 1000000000000) (hL : Row w la (ints L)) (hiv : iv = .slice ia il ic) (hno : ¬ EvalOk n G il L) :
    Calls Try.prog 11 #[.agg #[.int .i64 n, .slice ga G.length gc], iv, .slice la L.length lc] w (GivesBools w [] 1) := by
  subst hiv
  by_cases hK : Vld n G ∧ LitOk (litN n G.length) L
  · have hil : ((il : Int) != n) = true := by rw [bne_iff_ne]; intro e; exact hno ⟨hK.1, hK.2, e⟩
    have HK := hid hK; clear hK hno
    go_enter Try.func11, Try.ntmps11
    go_wp2_with (go_at_call 39; refine (all_any _ _ _ _ _ _ _ _ (hG.alloc _) hlen hll (hL.alloc _)).mono ?_; rintro e w1 ⟨ht, hb1⟩; obtain rfl := ht.eq_yes HK.out; have c0 := box_cell hb1 0 _ rfl; clear ht)
    go_ret2
    exact ⟨none, 0, rfl, Row.nil, bthen (below_alloc w _) hb1⟩
  · have HK := hid hK; clear hK hno
    go_enter Try.func11, Try.ntmps11
    go_wp2_with (go_at_call 39; refine (all_any _ _ _ _ _ _ _ _ (hG.alloc _) hlen hll (hL.alloc _)).mono ?_; rintro e w1 ⟨ht, hb1⟩; obtain rfl := ht.eq_no HK.out; have c0 := box_cell hb1 0 _ rfl; clear ht)
    go_ret2
    exact ⟨none, 0, rfl, Row.nil, bthen (below_alloc w _) hb1⟩

set_option maxHeartbeats 1000000 in
theorem reval_yes (n : Int) (ga : Option Addr) (gc : Nat) (G : List (Int × Int)) (ia : Option Addr) (ic : Nat) (input : List Bool) (la : Option Addr) (lc : Nat) (L : List Int) (w : World)
    (hG : Row w ga (gcells G)) (hll : L.length ≤ 1000000000000) (hL : Row w la (ints L)) (hI : Row w ia (bools input)) (hyes : EvalOk n G input.length L) :
    Calls Try.prog 11 #[.agg #[.int .i64 n, .slice ga G.length gc], .slice ia input.length ic, .slice la L.length lc] w (GivesBools w (evalF input G L) 0) := by
  obtain ⟨hV, hK, hn⟩ := hyes
  have hlo := hV.lo; have hhi := hV.hi; have hsz := hV.size
  have hil : ((input.length : Int) != n) = false := by simp [hn]
  have hlen : G.length ≤ 1000000000000 := by omega
  have hinl : input.length ≤ 1024 := by omega
  have hnn1 : (input.length : Int) ≤ n := Int.le_of_eq hn
  have hnn2 : n ≤ (input.length : Int) := Int.le_of_eq hn.symm
  have HK := hid (And.intro hV hK); clear hV hK hn
  obtain ⟨i0, hi, hz0, hz1, hz2⟩ := info_parts info4
  go_enter Try.func11, Try.ntmps11
  go_wp2_with (go_at_call 39; refine (all_any _ _ _ _ _ _ _ _ (hG.alloc _) hlen hll (hL.alloc _)).mono ?_; rintro e w1 ⟨ht, hb1⟩; obtain rfl := ht.eq_yes HK.out; have c0 := box_cell hb1 0 _ rfl; have c1 := box_cell hb1 1 _ rfl; have hbw := bthen (below_alloc w _) hb1; have hz1' := lt_of_cell c0; dsimp only at hz1'; clear ht)
  go_loopw [8, 9] (fun v i wr => ∃ k : Nat, ∃ A c, k ≤ input.length ∧ i = .int .i64 k ∧ v = .slice A (1 + k) c ∧ Below w1.heap.size w1 wr ∧ wr.ownsRow w1.heap.size 4 1 (.slice A (1 + k) c) (1 + k) (bools (false :: input.take k)))
    (fun _ i _ => input.length - (intOf i).toNat)
  case atStart => exact ⟨0, _, _, by omega, rfl, rfl, below_alloc _ _, World.ownsRow_lit w1 #[.bool false] 1 (Nat.le_refl _) (by unfold maxLen; omega) rfl⟩
  case round =>
    obtain ⟨k, A, c, hk, rfl, rfl, hbr, hown⟩ := hrel
    have HOWN := hid hown; clear hown
    by_cases hlt : k < input.length
    · obtain ⟨sb, so, rfl, hx⟩ := hI.bool k hlt
      obtain ⟨x, hx0⟩ : ∃ x, x = input.getD k false := ⟨_, rfl⟩
      rw [← hx0] at hx
      have HX := hid hx0; clear hx0
      have hx' := below_cell (bthen hbw hbr) hx
      clear hx
      go_wp2_with (at_builtin; refine wpList_append_row rfl (.tmp 33) (.tmp 38) 25 rfl w1.heap.size 4 i0 (.bool false) 1 1 Try.underlying25 hi hz0 hz1 hz2 rfl (by decide) (.slice A (1 + k) c) (1 + k) _ rfl (World.ownsRow.alloc HOWN.out _) (some ⟨wr.heap.size, 0, none⟩) 1 1 [.bool x] rfl rfl (fun e => by cases e) (Row.one _ _ _) (bools_one [_]) (by unfold maxLen; omega) (by omega) (by have := hbr.size; simp; omega) ?_; intro A4 c4 w4 hown4 hgr4 hat4; have HOWN4 := hid hown4; have HGR4 := hid hgr4; clear hown4 hgr4 hat4)
      have hb4 : Below w1.heap.size w1 w4 := (bthen hbr (below_alloc wr _)).grown HGR4.out (by have := hbr.size; simp; omega) (fun j hj => (HOWN.out.lt j hj).1)
      refine ⟨⟨k + 1, A4, c4, by omega, by go_num, by rw [Nat.add_assoc], hb4, ?_⟩, by simp [intOf]; omega⟩
      have hv : bools (false :: input.take (k + 1)) = bools (false :: input.take k) ++ [Value.bool x] := by
        rw [take_snoc input false k hlt, ← HX.out]; simp [bools]
      rw [hv]; exact HOWN4.out
    · obtain rfl : k = input.length := by omega
      rename World => w2
      have HBR2 := hid hbr
      have HB2 := hid (bthen hbw hbr)
      have hown2 := HOWN.out
      rw [List.take_length] at hown2
      have HOWN2 := hid hown2; clear hbr HOWN hown2 hk hlt
      have c1' := below_cell HBR2.out c1
      go_wp2_with fail
      go_loopw [8, 10] (fun v i wr => ∃ k : Nat, ∃ A c, k ≤ G.length ∧ i = .int .i64 k ∧ v = .slice A (1 + input.length + k) c ∧ Below w1.heap.size w1 wr ∧ wr.ownsRow w1.heap.size 4 1 (.slice A (1 + input.length + k) c) (1 + input.length + k) (bools (valsF input (G.take k))))
        (fun _ i _ => G.length - (intOf i).toNat)
      case atStart => exact ⟨0, _, _, by omega, rfl, rfl, HBR2.out, HOWN2.out⟩
      case round =>
        obtain ⟨k, A, c, hk, rfl, rfl, hbr, hown⟩ := hrel
        have HOWN := hid hown; clear hown
        have d1 := below_cell hbr c1
        by_cases hlt : k < G.length
        · obtain ⟨sb, so, rfl, hx, hy⟩ := hG.gate k hlt
          obtain ⟨x, hx0⟩ : ∃ x, x = (G.getD k (0, 0)).1 := ⟨_, rfl⟩
          obtain ⟨y, hy0⟩ : ∃ y, y = (G.getD k (0, 0)).2 := ⟨_, rfl⟩
          rw [← hx0] at hx; rw [← hy0] at hy
          have hg : G.getD k (0, 0) = (x, y) := by rw [hx0, hy0]
          have hok := HK.out.1.gates k hlt
          have hxy : 2 ≤ x ∧ x < y ∧ y < 2 * (1 + n + k) := by rw [hx0, hy0]; exact ⟨hok.1, hok.2.1, hok.2.2.1⟩
          obtain ⟨x2, xy, yn⟩ := hxy
          have HG := hid hg; clear hx0 hy0 hg hok
          have hx' := below_cell (bthen hbw hbr) hx
          have hy' := below_cell (bthen hbw hbr) hy
          clear hx hy
          have hvl : (valsF input (G.take k)).length = 1 + input.length + k := by rw [valsF_length]; simp; omega
          obtain ⟨p, rfl⟩ := Int.eq_ofNat_of_zero_le (show 0 ≤ x by omega)
          obtain ⟨q, rfl⟩ := Int.eq_ofNat_of_zero_le (show 0 ≤ y by omega)
          obtain ⟨vb, vo, hA, hp⟩ := (Row.of_own HOWN.out).bool (p / 2) (by rw [hvl]; omega)
          obtain ⟨vb', vo', hA', hq⟩ := (Row.of_own HOWN.out).bool (q / 2) (by rw [hvl]; omega)
          obtain rfl := hA
          injection hA' with hA'; injection hA' with hA1 hA2; subst hA1; subst hA2
          obtain ⟨s, hs0⟩ : ∃ s, s = (valsF input (G.take k)).getD (p / 2) false := ⟨_, rfl⟩
          obtain ⟨t, ht0⟩ : ∃ t, t = (valsF input (G.take k)).getD (q / 2) false := ⟨_, rfl⟩
          rw [← hs0] at hp; rw [← ht0] at hq
          have HS := hid hs0; have HT := hid ht0; clear hs0 ht0
          have b1 : ((p : Int) / 2) < ((1 + input.length + k : Nat) : Int) := by omega
          have b2 : ((q : Int) / 2) < ((1 + input.length + k : Nat) : Int) := by omega
          cases hX : (s == ((p : Int) % 2 == 1)) with
          | true =>
            have HX := hid hX
            go_wp2_with fail
            go_big_quiet (fail)
            go_wp2_with (at_builtin; refine wpList_append_row rfl (.tmp 59) (.tmp 80) 25 rfl w1.heap.size 4 i0 (.bool false) 1 1 Try.underlying25 hi hz0 hz1 hz2 rfl (by decide) (.slice (some ⟨vb, vo, none⟩) (1 + input.length + k) c) (1 + input.length + k) _ rfl (World.ownsRow.alloc (show (wr.drewN _).ownsRow w1.heap.size 4 1 _ _ _ from HOWN.out) _) (some ⟨wr.heap.size, 0, none⟩) 1 1 [.bool (false)] rfl rfl (fun e => by cases e) (Row.one _ _ _) (bools_one [_]) (by unfold maxLen; omega) (by omega) (by have := hbr.size; simp; omega) ?_; intro A4 c4 w4 hown4 hgr4 hat4; have HOWN4 := hid hown4; have HGR4 := hid hgr4; clear hown4 hgr4 hat4)
            have hb4 : Below w1.heap.size w1 w4 := (bthen (bthen hbr (below_drewN wr _)) (below_alloc _ _)).grown HGR4.out (by have := hbr.size; simp; omega) (fun j hj => (HOWN.out.lt j hj).1)
            refine ⟨⟨k + 1, A4, c4, by omega, by go_num, by rw [Nat.add_assoc], hb4, ?_⟩, by simp [intOf]; omega⟩
            have hv : bools (valsF input (G.take (k + 1))) = bools (valsF input (G.take k)) ++ [.bool (false)] := by
              rw [take_snoc G (0, 0) k hlt, HG.out, valsF_snoc]
              unfold gateVal litVal; simp only []
              rw [show ((p : Int) / 2).toNat = p / 2 from by omega, show ((q : Int) / 2).toNat = q / 2 from by omega, ← HS.out, ← HT.out]; simp only [bne, HX.out]; simp [bools]
            rw [hv]; exact HOWN4.out
          | false =>
            have HX := hid hX
            go_wp2_with fail
            go_big_quiet (fail)
            go_wp2_with (at_builtin; refine wpList_append_row rfl (.tmp 59) (.tmp 80) 25 rfl w1.heap.size 4 i0 (.bool false) 1 1 Try.underlying25 hi hz0 hz1 hz2 rfl (by decide) (.slice (some ⟨vb, vo, none⟩) (1 + input.length + k) c) (1 + input.length + k) _ rfl (World.ownsRow.alloc (show (wr.drewN _).ownsRow w1.heap.size 4 1 _ _ _ from HOWN.out) _) (some ⟨wr.heap.size, 0, none⟩) 1 1 [.bool (!(t == ((q : Int) % 2 == 1)))] rfl rfl (fun e => by cases e) (Row.one _ _ _) (bools_one [_]) (by unfold maxLen; omega) (by omega) (by have := hbr.size; simp; omega) ?_; intro A4 c4 w4 hown4 hgr4 hat4; have HOWN4 := hid hown4; have HGR4 := hid hgr4; clear hown4 hgr4 hat4)
            have hb4 : Below w1.heap.size w1 w4 := (bthen (bthen hbr (below_drewN wr _)) (below_alloc _ _)).grown HGR4.out (by have := hbr.size; simp; omega) (fun j hj => (HOWN.out.lt j hj).1)
            refine ⟨⟨k + 1, A4, c4, by omega, by go_num, by rw [Nat.add_assoc], hb4, ?_⟩, by simp [intOf]; omega⟩
            have hv : bools (valsF input (G.take (k + 1))) = bools (valsF input (G.take k)) ++ [.bool (!(t == ((q : Int) % 2 == 1)))] := by
              rw [take_snoc G (0, 0) k hlt, HG.out, valsF_snoc]
              unfold gateVal litVal; simp only []
              rw [show ((p : Int) / 2).toNat = p / 2 from by omega, show ((q : Int) / 2).toNat = q / 2 from by omega, ← HS.out, ← HT.out]; simp only [bne, HX.out]; simp [bools]
            rw [hv]; exact HOWN4.out
        · obtain rfl : k = G.length := by omega
          rename World => w3
          have HBR3 := hid hbr
          have hown3 := HOWN.out
          rw [List.take_length] at hown3
          have HOWN3 := hid hown3; clear hbr HOWN hown3 hk hlt
          have hlv : (valsF input G).length = 1 + input.length + G.length := valsF_length _ _
          go_wp2_with fail
          go_loopw [13, 14] (fun o i wr => ∃ k : Nat, ∃ Ao co, k ≤ L.length ∧ i = .int .i64 k ∧ o = .slice Ao k co ∧ Below w3.heap.size w3 wr ∧ wr.ownsRow w3.heap.size 4 1 (.slice Ao k co) k (bools ((L.take k).map (litVal (valsF input G)))))
            (fun _ i _ => L.length - (intOf i).toNat)
          case atStart =>
            exact ⟨0, _, _, by omega, rfl, rfl, below_alloc _ _, World.ownsRow_lit w3 #[] 0 (Nat.le_refl _) (by unfold maxLen; omega) rfl⟩
          case round =>
            obtain ⟨k, Ao, co, hk, rfl, rfl, hbq, hown⟩ := hrel
            have HOQ := hid hown; have HBQ := hid hbq; clear hown
            by_cases hlt : k < L.length
            · obtain ⟨sb, so, rfl, hx⟩ := hL.int k hlt
              obtain ⟨x, hx0⟩ : ∃ x, x = L.getD k 0 := ⟨_, rfl⟩
              rw [← hx0] at hx
              have hxr := HK.out.2 (L.getD k 0) (by rw [List.getD_eq_getElem?_getD, List.getElem?_eq_getElem hlt]; exact List.getElem_mem hlt)
              rw [← hx0, litN_plain hlo hsz] at hxr
              have HX := hid hx0; clear hx0
              obtain ⟨hx1, hx2⟩ := hxr
              obtain ⟨p, rfl⟩ := Int.eq_ofNat_of_zero_le hx1
              have hx' := below_cell (bthen (bthen hbw HBR3.out) hbq) hx
              obtain ⟨vb, vo, hA, hp⟩ := (Row.of_own HOWN3.out).bool (p / 2) (by rw [hlv]; omega)
              obtain rfl := hA
              have hp' := below_cell hbq hp
              obtain ⟨s, hs0⟩ : ∃ s, s = (valsF input G).getD (p / 2) false := ⟨_, rfl⟩
              rw [← hs0] at hp'
              have HS := hid hs0; clear hs0 hx hp
              have b1 : ((p : Int) / 2) < 1 + (input.length : Int) + (G.length : Int) := by omega
              have b5 : IntKind.i64.wrap ((p : Int) / 2) = (p : Int) / 2 := IntWalk.i64_in _ (by omega)
              have b7 : ((p : Int) / 2).toNat = p / 2 := by omega
              have b6 : IntKind.i64.wrap ((p : Int) % 2) = (p : Int) % 2 := IntWalk.i64_in _ (by omega)
              have b2 : 0 ≤ (p : Int) / 2 := by omega
              have b3 : 0 ≤ (k : Int) := by omega
              have b4 : (k : Int) < (L.length : Int) := by omega
              go_wp2_with fail
              refine wp_region_J (fun j => match j with | 16 => some (fun _ => True) | 17 => some (fun _ => True) | _ => none) (by kernel_rfl) ?_
              refine anyJ_take (some 89) (i := 0) (T := fun _ => True) (v := ?_) rfl rfl (by kernel_rfl) (by kernel_rfl) (by kernel_rfl) (fun _ _ _ h => h) (js := [16]) (by kernel_rfl) Leads.true rfl (Or.inl ⟨by rfl, ?_⟩) trivial ?_
              rotate_left
              · (intro wL hSw; (try dsimp only at hSw); go_simp; try with_reducible rfl)
              try simp only [Act.put, List.setIfInBounds_toArray, List.set_cons_zero, List.set_cons_succ]
              refine anyJ_take (some 90) (i := 1) (T := fun _ => True) (v := ?_) rfl rfl (by kernel_rfl) (by kernel_rfl) (by kernel_rfl) (fun _ _ _ h => h) (js := []) (by kernel_rfl) Leads.true rfl (Or.inl ⟨by rfl, ?_⟩) trivial ?_
              rotate_left
              · (intro wL hSw; (try dsimp only at hSw); go_simp; try with_reducible rfl)
              try simp only [Act.put, List.setIfInBounds_toArray, List.set_cons_zero, List.set_cons_succ]
              refine anyJ_take (some 91) (i := 2) (T := fun _ => True) (v := ?_) rfl rfl (by kernel_rfl) (by kernel_rfl) (by kernel_rfl) (fun _ _ _ h => h) (js := []) (by kernel_rfl) Leads.true rfl (Or.inl ⟨by rfl, ?_⟩) trivial ?_
              rotate_left
              · (intro wL hSw; (try dsimp only at hSw); go_simp; try with_reducible rfl)
              try simp only [Act.put, List.setIfInBounds_toArray, List.set_cons_zero, List.set_cons_succ]
              refine anyJ_take (some 92) (i := 3) (T := fun _ => True) (v := ?_) rfl rfl (by kernel_rfl) (by kernel_rfl) (by kernel_rfl) (fun _ _ _ h => h) (js := []) (by kernel_rfl) Leads.true rfl (Or.inl ⟨by rfl, ?_⟩) trivial ?_
              rotate_left
              · (intro wL hSw; (try dsimp only at hSw); go_simp; try with_reducible rfl)
              try simp only [Act.put, List.setIfInBounds_toArray, List.set_cons_zero, List.set_cons_succ]
              refine anyJ_take (some 93) (i := 4) (T := fun _ => True) (v := ?_) rfl rfl (by kernel_rfl) (by kernel_rfl) (by kernel_rfl) (fun _ _ _ h => h) (js := []) (by kernel_rfl) Leads.true rfl (Or.inl ⟨by rfl, ?_⟩) trivial ?_
              rotate_left
              · (intro wL hSw; (try dsimp only at hSw); go_simp; try with_reducible rfl)
              try simp only [Act.put, List.setIfInBounds_toArray, List.set_cons_zero, List.set_cons_succ]
              refine anyJ_take (some 94) (i := 5) (T := fun W => W.cell? ⟨sb, so + k, none⟩ = some (.int .i64 p)) (v := ?_) rfl rfl (by kernel_rfl) (by kernel_rfl) (by kernel_rfl) (fun _ _ _ h => h) (js := []) (by kernel_rfl) Leads.nil rfl (Or.inl ⟨by rfl, ?_⟩) (by go_simp) ?_
              rotate_left
              · (intro wL hSw; (try dsimp only at hSw); go_simp; try with_reducible rfl)
              try simp only [Act.put, List.setIfInBounds_toArray, List.set_cons_zero, List.set_cons_succ]
              refine anyJ_take (some 95) (i := 6) (T := fun _ => True) (v := ?_) rfl rfl (by kernel_rfl) (by kernel_rfl) (by kernel_rfl) (fun _ _ _ h => h) (js := []) (by kernel_rfl) Leads.true rfl (Or.inl ⟨by rfl, ?_⟩) trivial ?_
              rotate_left
              · (intro wL hSw; (try dsimp only at hSw); go_simp; try with_reducible rfl)
              try simp only [Act.put, List.setIfInBounds_toArray, List.set_cons_zero, List.set_cons_succ]
              refine anyJ_take (some 96) (i := 7) (T := fun _ => True) (v := ?_) rfl rfl (by kernel_rfl) (by kernel_rfl) (by kernel_rfl) (fun _ _ _ h => h) (js := []) (by kernel_rfl) Leads.true rfl (Or.inl ⟨by rfl, ?_⟩) trivial ?_
              rotate_left
              · (intro wL hSw; (try dsimp only at hSw); go_simp; try with_reducible rfl)
              try simp only [Act.put, List.setIfInBounds_toArray, List.set_cons_zero, List.set_cons_succ]
              refine anyJ_take (some 97) (i := 8) (T := fun W => W.cell? ⟨vb, vo + p / 2, none⟩ = some (.bool s)) (v := ?_) rfl rfl (by kernel_rfl) (by kernel_rfl) (by kernel_rfl) (fun _ _ _ h => h) (js := []) (by kernel_rfl) Leads.nil rfl (Or.inl ⟨by rfl, ?_⟩) (by go_simp) ?_
              rotate_left
              · (intro wL hSw; (try dsimp only at hSw); go_simp; try with_reducible rfl)
              try simp only [Act.put, List.setIfInBounds_toArray, List.set_cons_zero, List.set_cons_succ]
              refine anyJ_take (some 98) (i := 9) (T := fun _ => True) (v := ?_) rfl rfl (by kernel_rfl) (by kernel_rfl) (by kernel_rfl) (fun _ _ _ h => h) (js := []) (by kernel_rfl) Leads.true rfl (Or.inl ⟨by rfl, ?_⟩) trivial ?_
              rotate_left
              · (intro wL hSw; (try dsimp only at hSw); go_simp; try with_reducible rfl)
              try simp only [Act.put, List.setIfInBounds_toArray, List.set_cons_zero, List.set_cons_succ]
              refine anyJ_take (some 99) (i := 10) (T := fun _ => True) (v := ?_) rfl rfl (by kernel_rfl) (by kernel_rfl) (by kernel_rfl) (fun _ _ _ h => h) (js := []) (by kernel_rfl) Leads.true rfl (Or.inl ⟨by rfl, ?_⟩) trivial ?_
              rotate_left
              · (intro wL hSw; (try dsimp only at hSw); go_simp; try with_reducible rfl)
              try simp only [Act.put, List.setIfInBounds_toArray, List.set_cons_zero, List.set_cons_succ]
              refine anyJ_take (some 100) (i := 11) (T := fun _ => True) (v := ?_) rfl rfl (by kernel_rfl) (by kernel_rfl) (by kernel_rfl) (fun _ _ _ h => h) (js := []) (by kernel_rfl) Leads.true rfl (Or.inl ⟨by rfl, ?_⟩) trivial ?_
              rotate_left
              · (intro wL hSw; (try dsimp only at hSw); go_simp; try with_reducible rfl)
              try simp only [Act.put, List.setIfInBounds_toArray, List.set_cons_zero, List.set_cons_succ]
              refine anyJ_take (some 101) (i := 12) (T := fun W => W.cell? ⟨sb, so + k, none⟩ = some (.int .i64 p)) (v := ?_) rfl rfl (by kernel_rfl) (by kernel_rfl) (by kernel_rfl) (fun _ _ _ h => h) (js := []) (by kernel_rfl) Leads.nil rfl (Or.inl ⟨by rfl, ?_⟩) (by go_simp) ?_
              rotate_left
              · (intro wL hSw; (try dsimp only at hSw); go_simp; try with_reducible rfl)
              try simp only [Act.put, List.setIfInBounds_toArray, List.set_cons_zero, List.set_cons_succ]
              refine anyJ_take (some 102) (i := 13) (T := fun _ => True) (v := ?_) rfl rfl (by kernel_rfl) (by kernel_rfl) (by kernel_rfl) (fun _ _ _ h => h) (js := []) (by kernel_rfl) Leads.true rfl (Or.inl ⟨by rfl, ?_⟩) trivial ?_
              rotate_left
              · (intro wL hSw; (try dsimp only at hSw); go_simp; try with_reducible rfl)
              try simp only [Act.put, List.setIfInBounds_toArray, List.set_cons_zero, List.set_cons_succ]
              refine anyJ_take (some 103) (i := 14) (T := fun _ => True) (v := ?_) rfl rfl (by kernel_rfl) (by kernel_rfl) (by kernel_rfl) (fun _ _ _ h => h) (js := []) (by kernel_rfl) Leads.true rfl (Or.inl ⟨by rfl, ?_⟩) trivial ?_
              rotate_left
              · (intro wL hSw; (try dsimp only at hSw); go_simp; try with_reducible rfl)
              try simp only [Act.put, List.setIfInBounds_toArray, List.set_cons_zero, List.set_cons_succ]
              refine anyJ_take (some 104) (i := 15) (T := fun _ => True) (v := ?_) rfl rfl (by kernel_rfl) (by kernel_rfl) (by kernel_rfl) (fun _ _ _ h => h) (js := []) (by kernel_rfl) Leads.true rfl (Or.inl ⟨by rfl, ?_⟩) trivial ?_
              rotate_left
              · (intro wL hSw; (try dsimp only at hSw); go_simp; try with_reducible rfl)
              try simp only [Act.put, List.setIfInBounds_toArray, List.set_cons_zero, List.set_cons_succ]
              refine anyJ_one (i := 16) (oi := { dst := some 105, op := Go.Op.buildSlice 25 1 #[(0, Go.Operand.tmp 104)], type := 25, pos := "ref.go:167", after := #[{ on := 15, ground := Go.Ground.data }], guard := none }) rfl (by kernel_rfl) (by rfl) (fun K hK => ?_)
              go_simp
              refine hK.out _ _ trivial ?_
              clear hK K
              try simp only [Act.put, List.setIfInBounds_toArray, List.set_cons_zero, List.set_cons_succ]
              refine anyJ_one (i := 17) (oi := { dst := some 106, op := Go.Op.call { callee := Go.Callee.builtin Go.Builtin.append, args := #[Go.Operand.tmp 89, Go.Operand.tmp 105], argTypes := #[25, 25] }, type := 25, pos := "ref.go:167", after := #[{ on := 0, ground := Go.Ground.data }, { on := 16, ground := Go.Ground.data }], guard := none }) rfl (by kernel_rfl) (by rfl) (fun K hK => ?_)
              refine wp_append_row (.tmp 89) (.tmp 105) 25 rfl w3.heap.size 4 i0 (.bool false) 1 1 Try.underlying25 hi hz0 hz1 hz2 rfl (by decide) (.slice Ao k co) k _ rfl (show (World.alloc (wr.drew) _).ownsRow w3.heap.size 4 1 _ _ _ from World.ownsRow.alloc (show wr.drew.ownsRow w3.heap.size 4 1 _ _ _ from HOQ.out) _) (some ⟨wr.heap.size, 0, none⟩) 1 1 [.bool (s != ((p : Int) % 2 == 1))] rfl rfl (fun e => by cases e) (Row.one _ _ _) (bools_one [_]) (by unfold maxLen; omega) (by omega) (by have := hbq.size; simp; omega) ?_
              intro A4 c4 w4 hown4 hgr4 hat4
              refine hK.out _ _ trivial ?_
              clear hK K
              have HOWN4 := hid hown4; have HGR4 := hid hgr4; clear hown4 hgr4 hat4
              try simp only [Act.put, List.setIfInBounds_toArray, List.set_cons_zero, List.set_cons_succ]
              refine anyJ_take (some 13) (i := 18) (T := fun _ => True) (v := ?_) rfl rfl (by kernel_rfl) (by kernel_rfl) (by kernel_rfl) (fun _ _ _ h => h) (js := [16, 17]) (by kernel_rfl) Leads.true rfl (Or.inl ⟨by rfl, ?_⟩) trivial ?_
              rotate_left
              · (intro wL hSw; (try dsimp only at hSw); go_simp; try with_reducible rfl)
              try simp only [Act.put, List.setIfInBounds_toArray, List.set_cons_zero, List.set_cons_succ]
              refine anyJ_done (by kernel_rfl) ?_
              go_wp2_with fail
              have hb4 : Below w3.heap.size w3 w4 := (bthen (bthen hbq (below_drew' wr)) (below_alloc _ _)).grown HGR4.out (by have := hbq.size; simp; omega) (fun j hj => (HOQ.out.lt j hj).1)
              refine ⟨⟨k + 1, A4, c4, by omega, by go_num, rfl, hb4, ?_⟩, by simp [intOf]; omega⟩
              have hv : bools ((L.take (k + 1)).map (litVal (valsF input G))) = bools ((L.take k).map (litVal (valsF input G))) ++ [Value.bool (s != ((p : Int) % 2 == 1))] := by
                rw [take_snoc L 0 k hlt, ← HX.out, HS.out]; simp [bools, litVal, show ((p : Int) / 2).toNat = p / 2 from b7]
              rw [hv]; exact HOWN4.out
            · obtain rfl : k = L.length := by omega
              go_wp2_with fail
              have hro := Row.of_own HOQ.out
              rw [List.take_length] at hro
              go_ret2
              refine ⟨Ao, co, ?_, hro, bthen (bthen hbw HBR3.out) hbq⟩
              unfold evalF; rw [List.length_map]; rfl
end Go.Proofs.Ytelbjendeldlcaa
