/- gates.Eval. Lengths below 10^12. -/
import Derived.Test.YtelbjendeldlcaaG
namespace Go.Proofs.Ytelbjendeldlcaa
open Go.RowKit

def litVal (vs : List Bool) (x : Int) : Bool := vs.getD (x / 2).toNat false != (x % 2 == 1)
def gateVal (vs : List Bool) (g : Int × Int) : Bool := litVal vs g.1 && litVal vs g.2
/-- the values of all nodes -/
def valsF (input : List Bool) (G : List (Int × Int)) : List Bool := G.foldl (fun vs g => vs ++ [gateVal vs g]) (false :: input)
theorem valsF_snoc (input : List Bool) (G : List (Int × Int)) (g : Int × Int) : valsF input (G ++ [g]) = valsF input G ++ [gateVal (valsF input G) g] := by
  unfold valsF; rw [List.foldl_append]; rfl
theorem foldl_vals_length (G : List (Int × Int)) : ∀ acc : List Bool, (G.foldl (fun vs g => vs ++ [gateVal vs g]) acc).length = acc.length + G.length := by
  induction G with
  | nil => intro acc; rfl
  | cons g G ih => intro acc; rw [List.foldl_cons, ih]; simp; omega
theorem valsF_length (input : List Bool) (G : List (Int × Int)) : (valsF input G).length = 1 + input.length + G.length := by
  unfold valsF; rw [foldl_vals_length]; simp; omega
def evalF (input : List Bool) (G : List (Int × Int)) (L : List Int) : List Bool := L.map (litVal (valsF input G))

theorem value_any (x : Int) (vb : Nat) (A : Option Addr) (l c : Nat) (vs : List Bool) (b : Bool) (w : World) (hb : litVal vs x = b) (hl : l = vs.length)
    (h0 : w.cell? ⟨vb, 0, none⟩ = some (.slice A l c)) (hR : Row w A (bools vs)) (hx : 0 ≤ x) (hx2 : x / 2 < vs.length) (hlen : vs.length ≤ 1000000000000) :
    Calls Try.prog 38 #[.int .i64 x, .pointer (some ⟨vb, 0, none⟩)] w fun e w' => e = .returned (.bool b) ∧ w = w' := by
  obtain ⟨k, rfl⟩ := Int.eq_ofNat_of_zero_le hx
  have hk : k / 2 < vs.length := by omega
  obtain ⟨sb, so, rfl, hc⟩ := hR.bool (k / 2) hk
  subst hl
  have hv : litVal vs (k : Int) = (vs.getD (k / 2) false != ((k : Int) % 2 == 1)) := by
    unfold litVal
    rw [show ((k : Int) / 2).toNat = k / 2 from by omega]
  obtain ⟨v, hv0⟩ : ∃ v, v = vs.getD (k / 2) false := ⟨_, rfl⟩
  rw [← hv0] at hc hv
  rw [hv] at hb
  have HB := hid hb; clear hv hb hv0
  go_enter Try.func38, Try.ntmps38
  go_wp2_with fail
  go_ret
  exact ⟨by rw [← HB.out]; rfl, rfl⟩

/-- the call answers some bools and an error number -/
def GivesBools (w : World) (bs : List Bool) (er : Int) (e : Ending) (w' : World) : Prop := ∃ A c, e = .returned (.tuple #[.slice A bs.length c, .int .i64 er]) ∧ Row w' A (bools bs) ∧ Below w.heap.size w w'
def EvalOk (n : Int) (G : List (Int × Int)) (m : Nat) (L : List Int) : Prop := Vld n G ∧ LitOk (litN n G.length) L ∧ (m : Int) = n

set_option maxHeartbeats 400000 in
theorem eval_no (n : Int) (ga : Option Addr) (gc : Nat) (G : List (Int × Int)) (iv : Value) (ia : Option Addr) (il ic : Nat) (la : Option Addr) (lc : Nat) (L : List Int) (w : World)
    (hG : Row w ga (gcells G)) (hlen : G.length ≤ 1000000000000) (hll : L.length ≤ 1000000000000) (hL : Row w la (ints L)) (hiv : iv = .slice ia il ic) (hno : ¬ EvalOk n G il L) :
    Calls Try.prog 10 #[.agg #[.int .i64 n, .slice ga G.length gc], iv, .slice la L.length lc] w (GivesBools w [] 1) := by
  subst hiv
  by_cases hK : Vld n G ∧ LitOk (litN n G.length) L
  · have hil : ((il : Int) != n) = true := by rw [bne_iff_ne]; intro e; exact hno ⟨hK.1, hK.2, e⟩
    have HK := hid hK; clear hK hno
    go_enter Try.func10, Try.ntmps10
    go_wp2_with (go_at_call 37; refine (known_any _ _ _ _ _ _ _ _ (hG.alloc _) hlen hll (hL.alloc _)).mono ?_; rintro e w1 ⟨ht, hb1⟩; obtain rfl := ht.eq_yes HK.out; have c0 := box_cell hb1 0 _ rfl; clear ht)
    go_ret2
    exact ⟨none, 0, rfl, Row.nil, bthen (below_alloc w _) hb1⟩
  · have HK := hid hK; clear hK hno
    go_enter Try.func10, Try.ntmps10
    go_wp2_with (go_at_call 37; refine (known_any _ _ _ _ _ _ _ _ (hG.alloc _) hlen hll (hL.alloc _)).mono ?_; rintro e w1 ⟨ht, hb1⟩; obtain rfl := ht.eq_no HK.out; have c0 := box_cell hb1 0 _ rfl; clear ht)
    go_ret2
    exact ⟨none, 0, rfl, Row.nil, bthen (below_alloc w _) hb1⟩

theorem litN_plain {n : Int} {l : Nat} (h : 0 ≤ n) (h2 : 1 + n + l ≤ 65536) : litN n l = 2 * (1 + n + l) := by
  unfold litN nodesI wrap64; omega
theorem info4 : (Try.prog.info? 4).map (fun i => (i.zero, i.size, i.bytes)) = some (some (.bool false), 1, 1) := by kernel_rfl
theorem bools_one (L : List Bool) : ∀ u ∈ bools L, u.oneCell' = true := by
  intro u hu
  simp only [bools, List.mem_map] at hu
  obtain ⟨b, _, rfl⟩ := hu
  rfl
theorem bools_length (L : List Bool) : (bools L).length = L.length := by simp [bools]
set_option maxHeartbeats 1000000 in
theorem eval_yes (n : Int) (ga : Option Addr) (gc : Nat) (G : List (Int × Int)) (ia : Option Addr) (ic : Nat) (input : List Bool) (la : Option Addr) (lc : Nat) (L : List Int) (w : World)
    (hG : Row w ga (gcells G)) (hll : L.length ≤ 1000000000000) (hL : Row w la (ints L)) (hI : Row w ia (bools input)) (hic : ia = none → ic = 0) (hyes : EvalOk n G input.length L) :
    Calls Try.prog 10 #[.agg #[.int .i64 n, .slice ga G.length gc], .slice ia input.length ic, .slice la L.length lc] w (GivesBools w (evalF input G L) 0) := by
  obtain ⟨hV, hK, hn⟩ := hyes
  have hlo := hV.lo; have hhi := hV.hi; have hsz := hV.size
  have hil : ((input.length : Int) != n) = false := by simp [hn]
  have hlen : G.length ≤ 1000000000000 := by omega
  have hinl : input.length ≤ 1024 := by omega
  have HK := hid (And.intro hV hK); have HN := hid hn; clear hV hK hn
  obtain ⟨i0, hi, hz0, hz1, hz2⟩ := info_parts info4
  go_enter Try.func10, Try.ntmps10
  go_wp2_with (first
    | (go_at_call 37; refine (known_any _ _ _ _ _ _ _ _ (hG.alloc _) hlen hll (hL.alloc _)).mono ?_; rintro e w1 ⟨ht, hb1⟩; obtain rfl := ht.eq_yes HK.out; have c0 := box_cell hb1 0 _ rfl; have c1 := box_cell hb1 1 _ rfl; have hbw := bthen (below_alloc w _) hb1; have hz1' := lt_of_cell c0; dsimp only at hz1'; clear ht)
    | (at_builtin; refine wpList_append_row rfl (.tmp 26) (.tmp 27) 25 rfl w.heap.size 4 i0 (.bool false) 1 1 Try.underlying25 hi hz0 hz1 hz2 rfl (by decide) (.slice (some ⟨w1.heap.size, 0, none⟩) 1 1) 1 [.bool false] rfl (World.ownsRow_lit w1 #[.bool false] 1 (Nat.le_of_lt hz1') (by unfold maxLen; omega) rfl) ia input.length ic (bools input) rfl (by rw [bools_length, Nat.mul_one]) hic (hI.below (bthen hbw (below_alloc w1 (.cells #[.bool false] 4)))) (bools_one _) (by unfold maxLen; omega) (by omega) (by have := hbw.size; simp; omega) ?_; intro A2 c2 w2 hown2 hgr2 hat2; have d1 : w2.cell? ⟨w.heap.size, 1, none⟩ = some (.slice ga G.length gc) := hgr2.cell (by go_simp) (fun e => absurd (Option.some.inj e) (show w.heap.size ≠ w1.heap.size from Nat.ne_of_lt hz1')); have hz2' := lt_of_cell d1; dsimp only at hz2'; have hbw2 : Below w.heap.size w w2 := ((bthen hbw (below_alloc w1 (.cells #[.bool false] 4)))).grown hgr2 (by have := hbw.size; simp; omega) (fun k hk => by have hk' : w1.heap.size = k := Option.some.inj hk; omega); have HOWN2 := hid hown2; have HBW2 := hid hbw2; clear hown2 hgr2 hat2 hbw2))
  go_loopw [33] (fun i wr => ∃ k : Nat, k ≤ G.length ∧ i = .int .i64 k ∧ Below w.heap.size w wr ∧ ∃ A c, wr.heap[w2.heap.size]? = some (.cells #[.slice A (1 + input.length + k) c] 25 (0, 0)) ∧ wr.ownsRow w.heap.size 4 1 (.slice A (1 + input.length + k) c) (1 + input.length + k) (bools (valsF input (G.take k))))
    (fun i _ => G.length - (intOf i).toNat)
  case atStart =>
    exact ⟨0, by omega, rfl, bthen HBW2.out (below_alloc _ _), A2, c2, heap_alloc_new _ _, World.ownsRow.alloc HOWN2.out _⟩
  case round =>
    obtain ⟨k, hk, rfl, hbr, A, c, hvb, hown⟩ := hrel
    have hvl : w2.heap.size < wr.heap.size := (Array.getElem?_eq_some_iff.1 hvb).1
    have HVB := hid hvb; have HOWN := hid hown; have HBR := hid hbr
    have e1 := cell_of_row' hvb 0 _ rfl
    clear hvb hown
    by_cases hlt : k < G.length
    · obtain ⟨sb, so, rfl, hx, hy⟩ := hG.gate k hlt
      obtain ⟨x, hx0⟩ : ∃ x, x = (G.getD k (0, 0)).1 := ⟨_, rfl⟩
      obtain ⟨y, hy0⟩ : ∃ y, y = (G.getD k (0, 0)).2 := ⟨_, rfl⟩
      rw [← hx0] at hx; rw [← hy0] at hy
      have hg : G.getD k (0, 0) = (x, y) := by rw [hx0, hy0]
      have hok := HK.out.1.gates k hlt
      have hxy : 2 ≤ x ∧ x < y ∧ y < 2 * (1 + n + k) := by rw [hx0, hy0]; exact ⟨hok.1, hok.2.1, hok.2.2.1⟩
      obtain ⟨x2, xy, yn⟩ := hxy
      have HG := hid hg; clear hx0 hy0 hg hok
      have hx' := below_cell hbr hx
      have hy' := below_cell hbr hy
      clear hx hy
      have hnn1 : (input.length : Int) ≤ n := Int.le_of_eq HN.out
      have hnn2 : n ≤ (input.length : Int) := Int.le_of_eq HN.out.symm
      have hilen : (valsF input (G.take k)).length = 1 + input.length + k := by rw [valsF_length]; simp; omega
      have HLEN := hid hilen.symm; clear hilen
      have hnb : some w2.heap.size ≠ (Value.slice A (1 + input.length + k) c).ownBlock := own_ne_block HOWN.out HVB.out (by decide)
      have HNB := hid hnb
      have hrowv : Row ((wr.alloc (.cells #[.int .i64 x, .int .i64 y] 69)).drew) A (bools (valsF input (G.take k))) := (Row.of_own HOWN.out).below (bthen (below_alloc _ _) (below_drew' _))
      have HROWV := hid hrowv; clear hnb hrowv
      cases hx1 : litVal (valsF input (G.take k)) x with
      | true =>
        have HX1 := hid hx1; clear hx1
        go_wp2_with fail
        have hb8 : Below wr.heap.size wr (((wr.alloc (.cells #[.int .i64 x, .int .i64 y] 69)).alloc (.cells #[.bool (litVal (valsF input (G.take k)) y)] 4)).drew) := bthen (bthen (below_alloc _ _) (below_alloc _ _)) (below_drew' _)
        have hrow1 : Row (((wr.alloc (.cells #[.int .i64 x, .int .i64 y] 69)).alloc (.cells #[.bool (litVal (valsF input (G.take k)) y)] 4)).drew) (some ⟨wr.heap.size + 1, 0, none⟩) [.bool (litVal (valsF input (G.take k)) y)] := by
          rw [show wr.heap.size + 1 = (wr.alloc (.cells #[.int .i64 x, .int .i64 y] 69)).heap.size from by simp]
          exact (Row.one _ _ _).below (below_drew' _)
        have HB8 := hid hb8; have HROW1 := hid hrow1; clear hb8 hrow1
        refine wp_region_J (fun j => match j with | 4 => some (fun W => W.cell? ⟨w2.heap.size, 0, none⟩ = some (.slice A (1 + input.length + k) c) ∧ W.cell? ⟨wr.heap.size, 0, none⟩ = some (.int .i64 x) ∧ W.cell? ⟨wr.heap.size, 1, none⟩ = some (.int .i64 y)) | 9 => some (fun W => W.cell? ⟨w2.heap.size, 0, none⟩ = some (.slice A (1 + input.length + k) c) ∧ W.cell? ⟨wr.heap.size, 0, none⟩ = some (.int .i64 x) ∧ W.cell? ⟨wr.heap.size, 1, none⟩ = some (.int .i64 y)) | 11 => some (fun W => W.cell? ⟨w2.heap.size, 0, none⟩ = some (.slice A (1 + input.length + k) c) ∧ W.cell? ⟨wr.heap.size, 0, none⟩ = some (.int .i64 x) ∧ W.cell? ⟨wr.heap.size, 1, none⟩ = some (.int .i64 y)) | 12 => some (fun _ => True) | 13 => some (fun _ => True) | _ => none) (by kernel_rfl) ?_
        refine anyJ_take (some 37) (i := 0) (T := fun W => W.cell? ⟨w2.heap.size, 0, none⟩ = some (.slice A (1 + input.length + k) c)) (v := ?_) rfl rfl (by kernel_rfl) (by kernel_rfl) (by kernel_rfl) (fun _ _ _ h => h) (js := [4, 9, 11]) (by kernel_rfl) (Leads.cons _ rfl (fun w h => h.1) (Leads.cons _ rfl (fun w h => h.1) (Leads.cons _ rfl (fun w h => h.1) Leads.nil))) rfl (Or.inl ⟨by rfl, ?_⟩) (by go_simp) ?_
        rotate_left
        · (intro wL hSw; (try dsimp only at hSw); go_simp; try with_reducible rfl)
        try simp only [Act.put, List.setIfInBounds_toArray, List.set_cons_zero, List.set_cons_succ]
        refine anyJ_take (some 38) (i := 1) (T := fun _ => True) (v := ?_) rfl rfl (by kernel_rfl) (by kernel_rfl) (by kernel_rfl) (fun _ _ _ h => h) (js := []) (by kernel_rfl) Leads.true rfl (Or.inl ⟨by rfl, ?_⟩) trivial ?_
        rotate_left
        · (intro wL hSw; (try dsimp only at hSw); go_simp; try with_reducible rfl)
        try simp only [Act.put, List.setIfInBounds_toArray, List.set_cons_zero, List.set_cons_succ]
        refine anyJ_take (some 39) (i := 2) (T := fun _ => True) (v := ?_) rfl rfl (by kernel_rfl) (by kernel_rfl) (by kernel_rfl) (fun _ _ _ h => h) (js := []) (by kernel_rfl) Leads.true rfl (Or.inl ⟨by rfl, ?_⟩) trivial ?_
        rotate_left
        · (intro wL hSw; (try dsimp only at hSw); go_simp; try with_reducible rfl)
        try simp only [Act.put, List.setIfInBounds_toArray, List.set_cons_zero, List.set_cons_succ]
        refine anyJ_take (some 40) (i := 3) (T := fun W => W.cell? ⟨wr.heap.size, 0, none⟩ = some (.int .i64 x)) (v := ?_) rfl rfl (by kernel_rfl) (by kernel_rfl) (by kernel_rfl) (fun _ _ _ h => h) (js := []) (by kernel_rfl) Leads.nil rfl (Or.inl ⟨by rfl, ?_⟩) (by go_simp) ?_
        rotate_left
        · (intro wL hSw; (try dsimp only at hSw); go_simp; try with_reducible rfl)
        try simp only [Act.put, List.setIfInBounds_toArray, List.set_cons_zero, List.set_cons_succ]
        refine anyJ_one (i := 4) (oi := { dst := some 41, op := Go.Op.call { callee := Go.Callee.value (Go.Operand.tmp 38), args := #[Go.Operand.tmp 40], argTypes := #[3] }, type := 4, pos := "gates.go:170", after := #[{ on := 1, ground := Go.Ground.data }, { on := 3, ground := Go.Ground.data }], guard := none }) rfl (by kernel_rfl) (by rfl) (fun K hK => ?_)
        go_simp
        refine (value_any x w2.heap.size A _ c _ true _ HX1.out HLEN.out (by go_simp) HROWV.out (by omega) (by rw [← HLEN.out]; omega) (by rw [← HLEN.out]; omega)).mono ?_
        rintro e wv ⟨rfl, hwv⟩; rw [← hwv]; clear hwv wv
        refine hK.out _ _ (by dsimp only [Obl]; exact ⟨by go_simp, by go_simp, by go_simp⟩) ?_
        clear hK K
        try simp only [Act.put, List.setIfInBounds_toArray, List.set_cons_zero, List.set_cons_succ]
        refine anyJ_take (some 42) (i := 5) (T := fun _ => True) (v := ?_) rfl rfl (by kernel_rfl) (by kernel_rfl) (by kernel_rfl) (fun _ _ _ h => h) (js := [4]) (by kernel_rfl) Leads.true rfl (Or.inl ⟨by rfl, ?_⟩) trivial ?_
        rotate_left
        · (intro wL hSw; (try dsimp only at hSw); go_simp; try with_reducible rfl)
        try simp only [Act.put, List.setIfInBounds_toArray, List.set_cons_zero, List.set_cons_succ]
        refine anyJ_take (some 43) (i := 6) (T := fun _ => True) (v := ?_) rfl rfl (by kernel_rfl) (by kernel_rfl) (by kernel_rfl) (fun _ _ _ h => h) (js := [4]) (by kernel_rfl) Leads.true rfl (Or.inl ⟨by rfl, ?_⟩) trivial ?_
        rotate_left
        · (intro wL hSw; (try dsimp only at hSw); go_simp; try with_reducible rfl)
        try simp only [Act.put, List.setIfInBounds_toArray, List.set_cons_zero, List.set_cons_succ]
        refine anyJ_take (some 44) (i := 7) (T := fun _ => True) (v := ?_) rfl rfl (by kernel_rfl) (by kernel_rfl) (by kernel_rfl) (fun _ _ _ h => h) (js := [4]) (by kernel_rfl) Leads.true rfl (Or.inl ⟨by rfl, ?_⟩) trivial ?_
        rotate_left
        · (intro wL hSw; (try dsimp only at hSw); go_simp; try with_reducible rfl)
        try simp only [Act.put, List.setIfInBounds_toArray, List.set_cons_zero, List.set_cons_succ]
        refine anyJ_take (some 45) (i := 8) (T := fun W => W.cell? ⟨wr.heap.size, 1, none⟩ = some (.int .i64 y)) (v := ?_) rfl rfl (by kernel_rfl) (by kernel_rfl) (by kernel_rfl) (fun _ _ _ h => h) (js := [4]) (by kernel_rfl) (Leads.cons _ rfl (fun w h => h.2.2) Leads.nil) rfl (Or.inl ⟨by rfl, ?_⟩) (by go_simp) ?_
        rotate_left
        · (intro wL hSw; (try dsimp only at hSw); go_simp; try with_reducible rfl)
        try simp only [Act.put, List.setIfInBounds_toArray, List.set_cons_zero, List.set_cons_succ]
        refine anyJ_one (i := 9) (oi := { dst := some 46, op := Go.Op.call { callee := Go.Callee.value (Go.Operand.tmp 43), args := #[Go.Operand.tmp 45], argTypes := #[3] }, type := 4, pos := "gates.go:170", after := #[{ on := 6, ground := Go.Ground.data }, { on := 8, ground := Go.Ground.data }, { on := 5, ground := Go.Ground.chain }, { on := 5, ground := Go.Ground.guard }], guard := some (5, true) }) rfl (by kernel_rfl) (by rfl) (fun K hK => ?_)
        go_simp
        refine (value_any y w2.heap.size A _ c _ (litVal (valsF input (G.take k)) y) _ rfl HLEN.out (by go_simp) HROWV.out (by omega) (by rw [← HLEN.out]; omega) (by rw [← HLEN.out]; omega)).mono ?_
        rintro e wv ⟨rfl, hwv⟩; rw [← hwv]; clear hwv wv
        refine hK.out _ _ (by dsimp only [Obl]; exact ⟨by go_simp, by go_simp, by go_simp⟩) ?_
        clear hK K
        try simp only [Act.put, List.setIfInBounds_toArray, List.set_cons_zero, List.set_cons_succ]
        refine anyJ_take (some 47) (i := 10) (T := fun _ => True) (v := ?_) rfl rfl (by kernel_rfl) (by kernel_rfl) (by kernel_rfl) (fun _ _ _ h => h) (js := [4, 9]) (by kernel_rfl) Leads.true rfl (Or.inl ⟨by rfl, ?_⟩) trivial ?_
        rotate_left
        · (intro wL hSw; (try dsimp only at hSw); go_simp; try with_reducible rfl)
        try simp only [Act.put, List.setIfInBounds_toArray, List.set_cons_zero, List.set_cons_succ]
        refine anyJ_one (i := 11) (oi := { dst := some 48, op := Go.Op.buildSlice 25 1 #[(0, Go.Operand.tmp 47)], type := 25, pos := "gates.go:170", after := #[{ on := 10, ground := Go.Ground.data }], guard := none }) rfl (by kernel_rfl) (by rfl) (fun K hK => ?_)
        go_simp
        refine hK.out _ _ (by dsimp only [Obl]; exact ⟨by go_simp, by go_simp, by go_simp⟩) ?_
        clear hK K
        try simp only [Act.put, List.setIfInBounds_toArray, List.set_cons_zero, List.set_cons_succ]
        refine anyJ_one (i := 12) (oi := { dst := some 49, op := Go.Op.call { callee := Go.Callee.builtin Go.Builtin.append, args := #[Go.Operand.tmp 37, Go.Operand.tmp 48], argTypes := #[25, 25] }, type := 25, pos := "gates.go:170", after := #[{ on := 0, ground := Go.Ground.data }, { on := 11, ground := Go.Ground.data }, { on := 9, ground := Go.Ground.chain }], guard := none }) rfl (by kernel_rfl) (by rfl) (fun K hK => ?_)
        refine wp_append_row (.tmp 37) (.tmp 48) 25 rfl w.heap.size 4 i0 (.bool false) 1 1 Try.underlying25 hi hz0 hz1 hz2 rfl (by decide) (.slice A (1 + input.length + k) c) (1 + input.length + k) (bools (valsF input (G.take k))) rfl (own_below HOWN.out HB8.out) (some ⟨wr.heap.size + 1, 0, none⟩) 1 1 [.bool (litVal (valsF input (G.take k)) y)] rfl rfl (fun e => by cases e) HROW1.out (by simp [Value.oneCell']) (by unfold maxLen; omega) (by omega) (by have := HB8.out.size; have := hbr.size; omega) ?_
        intro A4 c4 w4 hown4 hgr4 hat4
        have row4 : w4.heap[w2.heap.size]? = some (.cells #[.slice A (1 + input.length + k) c] 25 (0, 0)) := (hgr4.block _ (by simp; omega) HNB.out).trans ((HB8.out.block _ (by omega)).trans HVB.out)
        have f1 := cell_of_row' row4 0 _ rfl
        have fz1 : w4.frozen? ⟨w2.heap.size, 0, none⟩ = false := by simp [World.frozen?, row4]
        refine hK.out _ _ trivial ?_
        clear hK K
        have HOWN4 := hid hown4; have HGR4 := hid hgr4; have HROW4 := hid row4; clear hown4 hgr4 hat4 row4
        try simp only [Act.put, List.setIfInBounds_toArray, List.set_cons_zero, List.set_cons_succ]
        refine anyJ_one (i := 13) (oi := { dst := none, op := Go.Op.store 25 (Go.Operand.tmp 8) (Go.Operand.tmp 49), type := 0, pos := "gates.go:170", after := #[{ on := 12, ground := Go.Ground.data }, { on := 12, ground := Go.Ground.chain }, { on := 0, ground := Go.Ground.phase }, { on := 1, ground := Go.Ground.phase }, { on := 2, ground := Go.Ground.phase }, { on := 3, ground := Go.Ground.phase }, { on := 4, ground := Go.Ground.phase }, { on := 5, ground := Go.Ground.phase }, { on := 6, ground := Go.Ground.phase }, { on := 7, ground := Go.Ground.phase }, { on := 8, ground := Go.Ground.phase }, { on := 9, ground := Go.Ground.phase }, { on := 10, ground := Go.Ground.phase }, { on := 11, ground := Go.Ground.phase }, { on := 12, ground := Go.Ground.phase }], guard := none }) rfl (by kernel_rfl) (by rfl) (fun K hK => ?_)
        go_simp
        refine hK.out _ _ trivial ?_
        clear hK K
        try simp only [Act.put, List.setIfInBounds_toArray, List.set_cons_zero, List.set_cons_succ]
        refine anyJ_done (by kernel_rfl) ?_
        go_wp2_with fail
        have hbw4 : Below w.heap.size w w4 := (bthen hbr HB8.out).grown HGR4.out (Nat.le_trans hbr.size HB8.out.size) (fun j hj => (HOWN.out.lt j hj).1)
        go_roundw
        case measure => simp [intOf]; omega
        case rel =>
        refine ⟨k + 1, by omega, by go_num, hbw4.setCell (p := ⟨w2.heap.size, 0, none⟩) (by have := HBW2.out.size; exact this) _, A4, c4, setCell_row HROW4.out 0 _, ?_⟩
        have ho := own_setCell (j := 0) (u := .slice A4 (1 + input.length + k + 1) c4) HOWN4.out (own_ne_block HOWN4.out HROW4.out (by decide))
        have hv : bools (valsF input (G.take (k + 1))) = bools (valsF input (G.take k)) ++ [.bool (litVal (valsF input (G.take k)) y)] := by
          rw [take_snoc G (0, 0) k hlt, HG.out, valsF_snoc]
          unfold gateVal; simp only []; rw [HX1.out]; simp [bools]
        rw [hv]; exact ho

      | false =>
        have HX1 := hid hx1; clear hx1
        go_wp2_with fail
        have hb8 : Below wr.heap.size wr (((wr.alloc (.cells #[.int .i64 x, .int .i64 y] 69)).alloc (.cells #[.bool false] 4)).drew) := bthen (bthen (below_alloc _ _) (below_alloc _ _)) (below_drew' _)
        have hrow1 : Row (((wr.alloc (.cells #[.int .i64 x, .int .i64 y] 69)).alloc (.cells #[.bool false] 4)).drew) (some ⟨wr.heap.size + 1, 0, none⟩) [.bool false] := by
          rw [show wr.heap.size + 1 = (wr.alloc (.cells #[.int .i64 x, .int .i64 y] 69)).heap.size from by simp]
          exact (Row.one _ _ _).below (below_drew' _)
        have HB8 := hid hb8; have HROW1 := hid hrow1; clear hb8 hrow1
        refine wp_region_J (fun j => match j with | 4 => some (fun W => W.cell? ⟨w2.heap.size, 0, none⟩ = some (.slice A (1 + input.length + k) c) ∧ W.cell? ⟨wr.heap.size, 0, none⟩ = some (.int .i64 x) ∧ W.cell? ⟨wr.heap.size, 1, none⟩ = some (.int .i64 y)) | 11 => some (fun W => W.cell? ⟨w2.heap.size, 0, none⟩ = some (.slice A (1 + input.length + k) c) ∧ W.cell? ⟨wr.heap.size, 0, none⟩ = some (.int .i64 x) ∧ W.cell? ⟨wr.heap.size, 1, none⟩ = some (.int .i64 y)) | 12 => some (fun _ => True) | 13 => some (fun _ => True) | _ => none) (by kernel_rfl) ?_
        refine anyJ_take (some 37) (i := 0) (T := fun W => W.cell? ⟨w2.heap.size, 0, none⟩ = some (.slice A (1 + input.length + k) c)) (v := ?_) rfl rfl (by kernel_rfl) (by kernel_rfl) (by kernel_rfl) (fun _ _ _ h => h) (js := [4, 11]) (by kernel_rfl) (Leads.cons _ rfl (fun w h => h.1) (Leads.cons _ rfl (fun w h => h.1) Leads.nil)) rfl (Or.inl ⟨by rfl, ?_⟩) (by go_simp) ?_
        rotate_left
        · (intro wL hSw; (try dsimp only at hSw); go_simp; try with_reducible rfl)
        try simp only [Act.put, List.setIfInBounds_toArray, List.set_cons_zero, List.set_cons_succ]
        refine anyJ_take (some 38) (i := 1) (T := fun _ => True) (v := ?_) rfl rfl (by kernel_rfl) (by kernel_rfl) (by kernel_rfl) (fun _ _ _ h => h) (js := []) (by kernel_rfl) Leads.true rfl (Or.inl ⟨by rfl, ?_⟩) trivial ?_
        rotate_left
        · (intro wL hSw; (try dsimp only at hSw); go_simp; try with_reducible rfl)
        try simp only [Act.put, List.setIfInBounds_toArray, List.set_cons_zero, List.set_cons_succ]
        refine anyJ_take (some 39) (i := 2) (T := fun _ => True) (v := ?_) rfl rfl (by kernel_rfl) (by kernel_rfl) (by kernel_rfl) (fun _ _ _ h => h) (js := []) (by kernel_rfl) Leads.true rfl (Or.inl ⟨by rfl, ?_⟩) trivial ?_
        rotate_left
        · (intro wL hSw; (try dsimp only at hSw); go_simp; try with_reducible rfl)
        try simp only [Act.put, List.setIfInBounds_toArray, List.set_cons_zero, List.set_cons_succ]
        refine anyJ_take (some 40) (i := 3) (T := fun W => W.cell? ⟨wr.heap.size, 0, none⟩ = some (.int .i64 x)) (v := ?_) rfl rfl (by kernel_rfl) (by kernel_rfl) (by kernel_rfl) (fun _ _ _ h => h) (js := []) (by kernel_rfl) Leads.nil rfl (Or.inl ⟨by rfl, ?_⟩) (by go_simp) ?_
        rotate_left
        · (intro wL hSw; (try dsimp only at hSw); go_simp; try with_reducible rfl)
        try simp only [Act.put, List.setIfInBounds_toArray, List.set_cons_zero, List.set_cons_succ]
        refine anyJ_one (i := 4) (oi := { dst := some 41, op := Go.Op.call { callee := Go.Callee.value (Go.Operand.tmp 38), args := #[Go.Operand.tmp 40], argTypes := #[3] }, type := 4, pos := "gates.go:170", after := #[{ on := 1, ground := Go.Ground.data }, { on := 3, ground := Go.Ground.data }], guard := none }) rfl (by kernel_rfl) (by rfl) (fun K hK => ?_)
        go_simp
        refine (value_any x w2.heap.size A _ c _ false _ HX1.out HLEN.out (by go_simp) HROWV.out (by omega) (by rw [← HLEN.out]; omega) (by rw [← HLEN.out]; omega)).mono ?_
        rintro e wv ⟨rfl, hwv⟩; rw [← hwv]; clear hwv wv
        refine hK.out _ _ (by dsimp only [Obl]; exact ⟨by go_simp, by go_simp, by go_simp⟩) ?_
        clear hK K
        try simp only [Act.put, List.setIfInBounds_toArray, List.set_cons_zero, List.set_cons_succ]
        refine anyJ_take (some 42) (i := 5) (T := fun _ => True) (v := ?_) rfl rfl (by kernel_rfl) (by kernel_rfl) (by kernel_rfl) (fun _ _ _ h => h) (js := [4]) (by kernel_rfl) Leads.true rfl (Or.inl ⟨by rfl, ?_⟩) trivial ?_
        rotate_left
        · (intro wL hSw; (try dsimp only at hSw); go_simp; try with_reducible rfl)
        try simp only [Act.put, List.setIfInBounds_toArray, List.set_cons_zero, List.set_cons_succ]
        refine anyJ_take (some 43) (i := 6) (T := fun _ => True) (v := undef) rfl rfl (by kernel_rfl) (by kernel_rfl) (by kernel_rfl) (fun _ _ _ h => h) (js := [4]) (by kernel_rfl) Leads.true rfl (Or.inr ⟨by rfl, rfl⟩) trivial ?_
        try simp only [Act.put, List.setIfInBounds_toArray, List.set_cons_zero, List.set_cons_succ]
        refine anyJ_take (some 44) (i := 7) (T := fun _ => True) (v := undef) rfl rfl (by kernel_rfl) (by kernel_rfl) (by kernel_rfl) (fun _ _ _ h => h) (js := [4]) (by kernel_rfl) Leads.true rfl (Or.inr ⟨by rfl, rfl⟩) trivial ?_
        try simp only [Act.put, List.setIfInBounds_toArray, List.set_cons_zero, List.set_cons_succ]
        refine anyJ_take (some 45) (i := 8) (T := fun _ => True) (v := undef) rfl rfl (by kernel_rfl) (by kernel_rfl) (by kernel_rfl) (fun _ _ _ h => h) (js := [4]) (by kernel_rfl) Leads.true rfl (Or.inr ⟨by rfl, rfl⟩) trivial ?_
        try simp only [Act.put, List.setIfInBounds_toArray, List.set_cons_zero, List.set_cons_succ]
        refine anyJ_take (some 46) (i := 9) (T := fun _ => True) (v := undef) rfl rfl (by kernel_rfl) (by kernel_rfl) (by kernel_rfl) (fun _ _ _ h => h) (js := [4]) (by kernel_rfl) Leads.true rfl (Or.inr ⟨by rfl, rfl⟩) trivial ?_
        try simp only [Act.put, List.setIfInBounds_toArray, List.set_cons_zero, List.set_cons_succ]
        refine anyJ_take (some 47) (i := 10) (T := fun _ => True) (v := ?_) rfl rfl (by kernel_rfl) (by kernel_rfl) (by kernel_rfl) (fun _ _ _ h => h) (js := [4]) (by kernel_rfl) Leads.true rfl (Or.inl ⟨by rfl, ?_⟩) trivial ?_
        rotate_left
        · (intro wL hSw; (try dsimp only at hSw); go_simp; try with_reducible rfl)
        try simp only [Act.put, List.setIfInBounds_toArray, List.set_cons_zero, List.set_cons_succ]
        refine anyJ_one (i := 11) (oi := { dst := some 48, op := Go.Op.buildSlice 25 1 #[(0, Go.Operand.tmp 47)], type := 25, pos := "gates.go:170", after := #[{ on := 10, ground := Go.Ground.data }], guard := none }) rfl (by kernel_rfl) (by rfl) (fun K hK => ?_)
        go_simp
        refine hK.out _ _ (by dsimp only [Obl]; exact ⟨by go_simp, by go_simp, by go_simp⟩) ?_
        clear hK K
        try simp only [Act.put, List.setIfInBounds_toArray, List.set_cons_zero, List.set_cons_succ]
        refine anyJ_one (i := 12) (oi := { dst := some 49, op := Go.Op.call { callee := Go.Callee.builtin Go.Builtin.append, args := #[Go.Operand.tmp 37, Go.Operand.tmp 48], argTypes := #[25, 25] }, type := 25, pos := "gates.go:170", after := #[{ on := 0, ground := Go.Ground.data }, { on := 11, ground := Go.Ground.data }, { on := 9, ground := Go.Ground.chain }], guard := none }) rfl (by kernel_rfl) (by rfl) (fun K hK => ?_)
        refine wp_append_row (.tmp 37) (.tmp 48) 25 rfl w.heap.size 4 i0 (.bool false) 1 1 Try.underlying25 hi hz0 hz1 hz2 rfl (by decide) (.slice A (1 + input.length + k) c) (1 + input.length + k) (bools (valsF input (G.take k))) rfl (own_below HOWN.out HB8.out) (some ⟨wr.heap.size + 1, 0, none⟩) 1 1 [.bool false] rfl rfl (fun e => by cases e) HROW1.out (by simp [Value.oneCell']) (by unfold maxLen; omega) (by omega) (by have := HB8.out.size; have := hbr.size; omega) ?_
        intro A4 c4 w4 hown4 hgr4 hat4
        have row4 : w4.heap[w2.heap.size]? = some (.cells #[.slice A (1 + input.length + k) c] 25 (0, 0)) := (hgr4.block _ (by simp; omega) HNB.out).trans ((HB8.out.block _ (by omega)).trans HVB.out)
        have f1 := cell_of_row' row4 0 _ rfl
        have fz1 : w4.frozen? ⟨w2.heap.size, 0, none⟩ = false := by simp [World.frozen?, row4]
        refine hK.out _ _ trivial ?_
        clear hK K
        have HOWN4 := hid hown4; have HGR4 := hid hgr4; have HROW4 := hid row4; clear hown4 hgr4 hat4 row4
        try simp only [Act.put, List.setIfInBounds_toArray, List.set_cons_zero, List.set_cons_succ]
        refine anyJ_one (i := 13) (oi := { dst := none, op := Go.Op.store 25 (Go.Operand.tmp 8) (Go.Operand.tmp 49), type := 0, pos := "gates.go:170", after := #[{ on := 12, ground := Go.Ground.data }, { on := 12, ground := Go.Ground.chain }, { on := 0, ground := Go.Ground.phase }, { on := 1, ground := Go.Ground.phase }, { on := 2, ground := Go.Ground.phase }, { on := 3, ground := Go.Ground.phase }, { on := 4, ground := Go.Ground.phase }, { on := 5, ground := Go.Ground.phase }, { on := 6, ground := Go.Ground.phase }, { on := 7, ground := Go.Ground.phase }, { on := 8, ground := Go.Ground.phase }, { on := 9, ground := Go.Ground.phase }, { on := 10, ground := Go.Ground.phase }, { on := 11, ground := Go.Ground.phase }, { on := 12, ground := Go.Ground.phase }], guard := none }) rfl (by kernel_rfl) (by rfl) (fun K hK => ?_)
        go_simp
        refine hK.out _ _ trivial ?_
        clear hK K
        try simp only [Act.put, List.setIfInBounds_toArray, List.set_cons_zero, List.set_cons_succ]
        refine anyJ_done (by kernel_rfl) ?_
        go_wp2_with fail
        have hbw4 : Below w.heap.size w w4 := (bthen hbr HB8.out).grown HGR4.out (Nat.le_trans hbr.size HB8.out.size) (fun j hj => (HOWN.out.lt j hj).1)
        go_roundw
        case measure => simp [intOf]; omega
        case rel =>
        refine ⟨k + 1, by omega, by go_num, hbw4.setCell (p := ⟨w2.heap.size, 0, none⟩) (by have := HBW2.out.size; exact this) _, A4, c4, setCell_row HROW4.out 0 _, ?_⟩
        have ho := own_setCell (j := 0) (u := .slice A4 (1 + input.length + k + 1) c4) HOWN4.out (own_ne_block HOWN4.out HROW4.out (by decide))
        have hv : bools (valsF input (G.take (k + 1))) = bools (valsF input (G.take k)) ++ [.bool false] := by
          rw [take_snoc G (0, 0) k hlt, HG.out, valsF_snoc]
          unfold gateVal; simp only []; rw [HX1.out]; simp [bools]
        rw [hv]; exact ho
    · obtain rfl : k = G.length := by omega
      rename World => w5
      have hil2 : (valsF input (G.take G.length)).length = 1 + input.length + G.length := by rw [valsF_length]; simp
      have hrowv : Row w5 A (bools (valsF input G)) := by
        have := Row.of_own HOWN.out; rw [List.take_length] at this; exact this
      have HROWV := hid hrowv; clear hrowv hil2
      have HBR2 := hid hbr; clear hbr e1 hlt hk
      have hlv : (valsF input G).length = 1 + input.length + G.length := valsF_length _ _
      have hnn1 : (input.length : Int) ≤ n := Int.le_of_eq HN.out
      have hnn2 : n ≤ (input.length : Int) := Int.le_of_eq HN.out.symm
      go_wp2_with fail
      go_loopw [12, 53] (fun o i wr => ∃ k : Nat, ∃ Ao co, k ≤ L.length ∧ i = .int .i64 k ∧ o = .slice Ao k co ∧ Below w5.heap.size w5 wr ∧ wr.ownsRow w5.heap.size 4 1 (.slice Ao k co) k (bools ((L.take k).map (litVal (valsF input G)))))
        (fun _ i _ => L.length - (intOf i).toNat)
      case atStart => exact ⟨0, none, 0, by omega, rfl, rfl, Below.refl _ _, World.ownsRow_nil _ _ _ _⟩
      case round =>
        obtain ⟨k, Ao, co, hk, rfl, rfl, hbq, hown⟩ := hrel
        have HOQ := hid hown; have HBQ := hid hbq; clear hown
        by_cases hlt : k < L.length
        · obtain ⟨sb, so, rfl, hx⟩ := hL.int k hlt
          obtain ⟨x, hx0⟩ : ∃ x, x = L.getD k 0 := ⟨_, rfl⟩
          rw [← hx0] at hx
          have hxr := HK.out.2 (L.getD k 0) (by rw [List.getD_eq_getElem?_getD, List.getElem?_eq_getElem hlt]; exact List.getElem_mem hlt)
          rw [← hx0, litN_plain hlo hsz] at hxr
          have HX := hid hx0; clear hx0
          obtain ⟨hx1, hx2⟩ := hxr
          have hx' := below_cell (bthen HBR2.out hbq) hx
          have hvc := below_cell hbq (cell_of_row' HVB.out 0 _ rfl)
          have hrq := HROWV.out.below hbq
          have HRQ := hid hrq; clear hx hrq
          go_wp2_with (first
            | (go_at_call 38; refine (value_any x w2.heap.size A _ c _ _ _ rfl hlv.symm hvc HRQ.out (by omega) (by rw [hlv]; omega) (by rw [hlv]; omega)).mono ?_; rintro e wv ⟨rfl, hwv⟩; rw [← hwv]; clear hwv wv)
            | (at_builtin; refine wpList_append_row rfl (.tmp 57) (.tmp 61) 25 rfl w5.heap.size 4 i0 (.bool false) 1 1 Try.underlying25 hi hz0 hz1 hz2 rfl (by decide) (.slice Ao k co) k _ rfl (World.ownsRow.alloc HOQ.out _) (some ⟨wr.heap.size, 0, none⟩) 1 1 [.bool (litVal (valsF input G) x)] rfl rfl (fun e => by cases e) (Row.one _ _ _) (bools_one [_]) (by unfold maxLen; omega) (by omega) (by have := hbq.size; simp; omega) ?_; intro A4 c4 w4 hown4 hgr4 hat4; have HOWN4 := hid hown4; have HGR4 := hid hgr4; clear hown4 hgr4 hat4))
          have hb4 : Below w5.heap.size w5 w4 := (bthen hbq (below_alloc wr _)).grown HGR4.out (by have := hbq.size; simp; omega) (fun j hj => (HOQ.out.lt j hj).1)
          refine ⟨⟨k + 1, A4, c4, by omega, by go_num, rfl, hb4, ?_⟩, by simp [intOf]; omega⟩
          have hv : bools ((L.take (k + 1)).map (litVal (valsF input G))) = bools ((L.take k).map (litVal (valsF input G))) ++ [Value.bool (litVal (valsF input G) x)] := by
            rw [take_snoc L 0 k hlt, ← HX.out]; simp [bools]
          rw [hv]; exact HOWN4.out
        · obtain rfl : k = L.length := by omega
          go_wp2_with fail
          have hro := Row.of_own HOQ.out
          rw [List.take_length] at hro
          go_ret2
          refine ⟨Ao, co, ?_, hro, bthen HBR2.out hbq⟩
          unfold evalF; rw [List.length_map]; rfl
end Go.Proofs.Ytelbjendeldlcaa
