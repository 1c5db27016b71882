/- ref Pairs: the relation of all pairs. -/
import Derived.Test.YtjddegfigdpcbaaAN
import Derived.Test.YtjddegfigdpcbaaAM
import Derived.Test.YtjddegfigdpcbaaQ
namespace Go.Proofs.Ytjddegfigdpcbaa
open Go.RowKit

def relP (F : List (List Int)) : Bool → Nat → Nat → Bool
  | true => relF (revF F) 1
  | false => relF F 0
def rowsP (R : Nat → Nat → Bool) (n k : Nat) : List (List Value) := (List.range k).map fun a => bools ((List.range n).map (R a))
theorem rowsP_len (R : Nat → Nat → Bool) (n k : Nat) : (rowsP R n k).length = k := by simp [rowsP]
theorem rowsP_snoc (R : Nat → Nat → Bool) (n k : Nat) : rowsP R n (k + 1) = rowsP R n k ++ [bools ((List.range n).map (R k))] := by
  unfold rowsP; rw [List.range_succ, List.map_append]; rfl
theorem rowsP_get (R : Nat → Nat → Bool) (n k a : Nat) (h : a < k) : (rowsP R n k).getD a [] = bools ((List.range n).map (R a)) := by
  unfold rowsP; rw [List.getD_eq_getElem?_getD, List.getElem?_map, List.getElem?_range h]; rfl
theorem RowsSt.lower {w : World} {B B' c : Nat} {e1 e2 : TypeId} {A : Option Addr} {Ls : List (List Value)} {vs : List (Option Addr × Nat)} (h : RowsSt w B e1 e2 A c Ls vs) (hb : B' ≤ B) : RowsSt w B' e1 e2 A c Ls vs := ⟨h.len, own_lower h.row hb, fun k hk => own_lower (h.own k hk) hb⟩
def PRow (w : World) (A : Option Addr) (n : Nat) (R : Nat → Nat → Bool) : Prop :=
  ∀ a, a < n → ∃ sb so C c, A = some ⟨sb, so, none⟩ ∧ w.cell? ⟨sb, so + a, none⟩ = some (.slice C n c) ∧ ∀ b, b < n → ∃ tb tq, C = some ⟨tb, tq, none⟩ ∧ w.cell? ⟨tb, tq + b, none⟩ = some (.bool (R a b))
theorem PRow.below {w w' : World} {A : Option Addr} {n : Nat} {R : Nat → Nat → Bool} (h : PRow w A n R) (hb : Below w.heap.size w w') : PRow w' A n R := fun a ha => by
  obtain ⟨sb, so, C, c, e, h0, h1⟩ := h a ha
  refine ⟨sb, so, C, c, e, below_cell hb h0, fun b hbn => ?_⟩
  obtain ⟨tb, tq, e2, h2⟩ := h1 b hbn
  exact ⟨tb, tq, e2, below_cell hb h2⟩
theorem PRow.of_rrow {w : World} {A : Option Addr} {n : Nat} {R : Nat → Nat → Bool} (h : RRow w A (rowsP R n n)) : PRow w A n R := fun a ha => by
  obtain ⟨sb, so, C, c, e, h0, h1⟩ := h a (by rw [rowsP_len]; exact ha)
  rw [rowsP_get R n n a ha] at h0 h1
  refine ⟨sb, so, C, c, e, by rw [h0, bools_length]; simp, fun b hbn => ?_⟩
  obtain ⟨tb, tq, e2, h2⟩ := h1.bool b (by simpa using hbn)
  exact ⟨tb, tq, e2, by rw [h2, map_range_getD n (R a) b hbn]⟩
theorem PRow.at {w : World} {n sb so : Nat} {R : Nat → Nat → Bool} (h : PRow w (some ⟨sb, so, none⟩) n R) (a : Nat) (ha : a < n) : ∃ tb tq c, w.cell? ⟨sb, so + a, none⟩ = some (.slice (some ⟨tb, tq, none⟩) n c) ∧ ∀ b, b < n → w.cell? ⟨tb, tq + b, none⟩ = some (.bool (R a b)) := by
  obtain ⟨sb', so', C, c, e, h0, h1⟩ := h a ha
  cases e
  obtain ⟨tb, tq, e2, _⟩ := h1 a ha
  subst e2
  refine ⟨tb, tq, c, h0, fun b hb => ?_⟩
  obtain ⟨tb', tq', e3, h3⟩ := h1 b hb
  cases e3
  exact h3
theorem bools_snoc (f : Nat → Bool) (b : Nat) : bools ((List.range b).map f) ++ [.bool (f b)] = bools ((List.range (b + 1)).map f) := by
  unfold bools; rw [List.range_succ, List.map_append, List.map_append]; rfl
theorem rDom_n (pa : Option Addr) (pc n : Nat) (F : List (List Int)) (a b : Nat) (x : Bool) (w : World) (hn : n = F.length) (hF : FRow w pa F) (hsm : ∀ i, i < F.length → (F.getD i []).length ≤ 900) (hV : VldF F) (ha : a < n) (hb : b < n) (hx : x = relP F false a b) :
    Calls Try.prog 21 #[.agg #[.slice pa n pc], .int .i64 a, .int .i64 b] w fun e w' => e = .returned (.bool x) ∧ Below w.heap.size w w' := by
  subst hn; exact rDom_nat pa pc F a b x w hF hsm hV ha hb hx.symm
theorem rPost_n (pa : Option Addr) (pc n : Nat) (F : List (List Int)) (a b : Nat) (x : Bool) (w : World) (hn : n = F.length) (hF : FRow w pa F) (hsm : ∀ i, i < F.length → (F.getD i []).length ≤ 900) (hV : VldF F) (ha : a < n) (hb : b < n) (hx : x = relP F true a b) :
    Calls Try.prog 23 #[.agg #[.slice pa n pc], .int .i64 a, .int .i64 b] w fun e w' => e = .returned (.bool x) ∧ Below w.heap.size w w' := by
  subst hn; exact rPost_nat pa pc F a b x w hF hsm hV ha hb hx.symm
set_option maxHeartbeats 4000000 in
set_option maxRecDepth 100000 in
theorem rpairs_any (pa : Option Addr) (pc : Nat) (F : List (List Int)) (post : Bool) (w : World) (hF : FRow w pa F) (hV : VldF F) (hsm : ∀ i, i < F.length → (F.getD i []).length ≤ 900) :
    Calls Try.prog 52 #[.agg #[.slice pa F.length pc], .bool post] w fun e w' => ∃ A c vs, e = .returned (.slice A F.length c) ∧ RowsSt w' w.heap.size 4 59 A c (rowsP (relP F post) F.length F.length) vs ∧ Below w.heap.size w w' := by
  obtain ⟨i4, a1, a2, a3, a4⟩ := info_parts info4
  obtain ⟨i59, b1, b2, b3, b4⟩ := info_parts info59
  have HF := hid hF; have HV := hid hV; have HSM := hid hsm
  have hnn := hV.hi
  obtain ⟨n, hn⟩ : ∃ n, n = F.length := ⟨_, rfl⟩
  have HN := hid hn
  rw [← hn] at hnn ⊢
  obtain ⟨R, hR⟩ : ∃ R, R = relP F post := ⟨_, rfl⟩
  have HR := hid hR
  rw [← hR]
  clear hF hV hsm hn hR
  go_enter Try.func52, Try.ntmps52
  go_wp2_with fail
  have c0 : ((w.alloc (.cells #[.slice pa n pc] 24)).alloc (.cells #[] 59)).cell? ⟨w.heap.size, 0, none⟩ = some (.slice pa n pc) := by go_simp
  have hbw := Ytjddegfigdpcbaa.b2 w (.cells #[.slice pa n pc] 24) (.cells #[] 59)
  have hrs := RowsSt.lit (w.alloc (.cells #[.slice pa n pc] 24)) (w.heap.size + 1) 4 59 (by simp)
  rw [show (w.alloc (.cells #[.slice pa n pc] 24)).heap.size = w.heap.size + 1 from by simp] at hrs
  have hz : ((w.alloc (.cells #[.slice pa n pc] 24)).alloc (.cells #[] 59)).heap.size = w.heap.size + 2 := by simp
  obtain ⟨w2, hw2⟩ : ∃ x, x = (w.alloc (.cells #[.slice pa n pc] 24)).alloc (.cells #[] 59) := ⟨_, rfl⟩
  rw [← hw2] at c0 hbw hrs hz ⊢
  obtain ⟨B, hB⟩ : ∃ x, x = w.heap.size + 1 := ⟨_, rfl⟩
  rw [← hB] at hrs ⊢
  have k1 : w.heap.size < B := by omega
  have k2 : B ≤ w2.heap.size := by omega
  have HBW := hid hbw; have HRS := hid hrs
  clear hbw hrs hw2 hz hB
  go_loopw [6, 5] (fun i ov wr => ∃ a : Nat, ∃ A c vs, a ≤ n ∧ i = .int .i64 a ∧ Hid (ov = .slice A a c) ∧ RowsSt wr B 4 59 A c (rowsP R n a) vs ∧ Below B w2 wr) (fun i _ _ => n - (intOf i).toNat)
  case atStart => exact ⟨0, some ⟨B, 0, none⟩, 0, [], Nat.zero_le _, rfl, rfl, HRS.out, Below.refl _ _⟩
  case round =>
    clear HRS
    obtain ⟨a, A, c, vs, ha, rfl, hov, hrs, hbr⟩ := hrel
    obtain rfl := hov.out
    clear hov
    have d0 := (hbr.cell (p := ⟨w.heap.size, 0, none⟩) (by show w.heap.size < _; omega)).trans c0
    have HRS := hid hrs; have HBR := hid hbr
    have hbz := hbr.size
    by_cases hlt : a < n
    · clear hrs hbr
      go_wp2_with fail
      obtain ⟨wo, hwo⟩ : ∃ x, x = wr := ⟨_, rfl⟩
      subst hwo
      have hlit := World.ownsRow_lit (base := wo.heap.size) (e := 4) (size := 1) wo #[] 0 (Nat.le_refl _) (by unfold maxLen; omega) rfl
      have HLIT := hid hlit; clear hlit
      go_loopw [8, 7] (fun i ov wi => ∃ b : Nat, ∃ C d, b ≤ n ∧ i = .int .i64 b ∧ Hid (ov = .slice C b d) ∧ wi.ownsRow wo.heap.size 4 1 (.slice C b d) b (bools ((List.range b).map (R a))) ∧ Below wo.heap.size wo wi) (fun i _ _ => n - (intOf i).toNat)
      case atStart => exact ⟨0, some ⟨wo.heap.size, 0, none⟩, 0, Nat.zero_le _, rfl, rfl, HLIT.out, below_alloc _ _⟩
      case round =>
        clear HLIT
        obtain ⟨b, C, d, hb, rfl, hov, hown, hbi⟩ := hrel
        obtain rfl := hov.out
        clear hov
        have f0 := below_cell hbi d0
        have HFi := hid (HF.out.below (HBW.out.trans ((HBR.out.mono (by omega)).trans (hbi.mono (by omega)))))
        have HOW := hid hown; have HBI := hid hbi
        have hbz2 := hbi.size
        by_cases hbt : b < n
        · obtain ⟨x, hx⟩ : ∃ x, x = R a b := ⟨_, rfl⟩
          have HX := hid hx
          clear hown hbi hx d0
          cases post with
          | true =>
            go_wp2_with (first
              | (go_at_call 23; refine (rPost_n pa pc n F a b x _ HN.out HFi.out HSM.out HV.out hlt hbt (by rw [HX.out, HR.out])).mono ?_; rintro e w6 ⟨rfl, hb6⟩; replace f0 := below_cell hb6 f0; have HB6 := hid hb6; have hz6 := hb6.size; have HO6 := hid (own_below HOW.out (bthen hb6 (below_alloc _ (.cells #[.bool x] 4)))); clear hb6)
              | (at_builtin; refine wpList_append_row rfl (.tmp 26) (.tmp 31) 59 rfl wo.heap.size 4 i4 (.bool false) 1 1 Try.underlying59 a1 a2 a3 a4 rfl (by decide) (.slice C b d) b (bools ((List.range b).map (R a))) rfl HO6.out (some ⟨w6.heap.size, 0, none⟩) 1 1 [.bool x] rfl rfl (fun e => by cases e) (Row.one _ _ _) (bools_one [_]) (by unfold maxLen; omega) (by omega) (by simp; omega) ?_; intro A4 c4 w7 hown4 hgr4 hat4; have HOWN4 := hid hown4; have HGR4 := hid hgr4; clear hown4 hgr4 hat4))
            refine ⟨⟨b + 1, A4, c4, by omega, by go_num, rfl, ?_, ?_⟩, by simp [intOf]; omega⟩
            · rw [← bools_snoc, ← HX.out]; exact HOWN4.out
            · exact ((bthen HBI.out HB6.out).trans ((below_alloc w6 (.cells #[.bool x] 4)).mono (by omega))).grown HGR4.out (by simp; omega) (fun j hj => (HO6.out.lt j hj).1)
          | false =>
            go_wp2_with (first
              | (go_at_call 21; refine (rDom_n pa pc n F a b x _ HN.out HFi.out HSM.out HV.out hlt hbt (by rw [HX.out, HR.out])).mono ?_; rintro e w6 ⟨rfl, hb6⟩; replace f0 := below_cell hb6 f0; have HB6 := hid hb6; have hz6 := hb6.size; have HO6 := hid (own_below HOW.out (bthen hb6 (below_alloc _ (.cells #[.bool x] 4)))); clear hb6)
              | (at_builtin; refine wpList_append_row rfl (.tmp 33) (.tmp 38) 59 rfl wo.heap.size 4 i4 (.bool false) 1 1 Try.underlying59 a1 a2 a3 a4 rfl (by decide) (.slice C b d) b (bools ((List.range b).map (R a))) rfl HO6.out (some ⟨w6.heap.size, 0, none⟩) 1 1 [.bool x] rfl rfl (fun e => by cases e) (Row.one _ _ _) (bools_one [_]) (by unfold maxLen; omega) (by omega) (by simp; omega) ?_; intro A4 c4 w7 hown4 hgr4 hat4; have HOWN4 := hid hown4; have HGR4 := hid hgr4; clear hown4 hgr4 hat4))
            refine ⟨⟨b + 1, A4, c4, by omega, by go_num, rfl, ?_, ?_⟩, by simp [intOf]; omega⟩
            · rw [← bools_snoc, ← HX.out]; exact HOWN4.out
            · exact ((bthen HBI.out HB6.out).trans ((below_alloc w6 (.cells #[.bool x] 4)).mono (by omega))).grown HGR4.out (by simp; omega) (fun j hj => (HO6.out.lt j hj).1)
        · obtain rfl : b = n := by omega
          have hbi2 := bthen hbi (below_alloc wr (.cells #[.slice C b d] 59))
          have hr5 := HRS.out.below hbi2
          have ho5 := own_lower (own_below hown (below_alloc wr (.cells #[.slice C b d] 59))) (show B ≤ wo.heap.size by omega)
          have hrow5 := hr5.row
          rw [rowsP_len] at hrow5
          have HR5 := hid hr5; have HO5 := hid ho5; have HW5 := hid hrow5; have HB5 := hid (HBR.out.trans (hbi2.mono (by omega)))
          clear hown hbi hbi2 hr5 ho5 hrow5 d0
          go_wp2_with (at_builtin; refine wpList_append_row rfl (.tmp 40) (.tmp 42) 61 rfl B 59 i59 (.slice none 0 0) 1 24 Try.underlying61 b1 b2 b3 b4 rfl (by decide) (.slice A a c) a (rcells (rowsP R b a) vs) rfl HW5.out (some ⟨wr.heap.size, 0, none⟩) 1 1 [.slice C b d] rfl rfl (fun e => by cases e) (Row.one _ _ _) (fun u hu => by rw [List.mem_singleton.1 hu]; rfl) (by unfold maxLen; omega) (by omega) (by simp; omega) ?_; intro A4 c4 w7 hown4 hgr4 hat4; have HOWN4 := hid hown4; have HGR4 := hid hgr4; clear hown4 hgr4 hat4)
          refine ⟨⟨a + 1, A4, c4, vs ++ [(C, d)], by omega, by go_num, rfl, ?_, ?_⟩, by simp [intOf]; omega⟩
          · rw [rowsP_snoc]
            have e1 := rowsP_len R b a
            refine HR5.out.push (by decide) (n := b) (by rw [bools_length, List.length_map, List.length_range]) ?_ ?_ HO5.out
            · rw [e1]; exact HOWN4.out
            · rw [e1]; exact HGR4.out
          · exact HB5.out.grown HGR4.out (by simp; omega) (fun j hj => (HW5.out.lt j hj).1)
    · obtain rfl : a = n := by omega
      clear hrs hbr
      go_wp2_with fail
      go_ret
      exact ⟨A, c, vs, rfl, HRS.out.lower (Nat.le_of_lt k1), HBW.out.trans (HBR.out.mono (by omega))⟩
end Go.Proofs.Ytjddegfigdpcbaa
