/- Small functions of slices: Equal, Ints, ContainsFunc, Contains. -/
import Derived.Test.YtjddegfigdpcbaaJ
namespace Go.Proofs.Ytjddegfigdpcbaa
open Go.RowKit

set_option maxHeartbeats 400000 in
theorem equalI_any (A B : Option Addr) (c d : Nat) (L M : List Int) (w : World) (hl : L.length ≤ 1000000000000) (hm : M.length ≤ 1000000000000) (hL : Row w A (ints L)) (hM : Row w B (ints M)) :
    Calls Try.prog 35 #[.slice A L.length c, .slice B M.length d] w fun e w' => Tells (L = M) e ∧ Below w.heap.size w w' := by
  by_cases h1 : L.length = M.length
  · have h1' : ((L.length : Int) != (M.length : Int)) = false := by simp [h1]
    have H1 := hid h1; clear h1
    go_enter Try.func35, Try.ntmps35
    go_wp2_with fail
    go_loopw [13] (fun i wr => ∃ k : Nat, k ≤ L.length ∧ i = .int .i64 k ∧ (∃ q, wr = w.drewN q) ∧ ∀ j, j < k → L.getD j 0 = M.getD j 0)
      (fun i _ => L.length - (intOf i).toNat)
    case atStart => exact ⟨0, Nat.zero_le _, rfl, ⟨0, rfl⟩, fun j hj => absurd hj (by omega)⟩
    case round =>
      obtain ⟨k, hk, rfl, ⟨q, rfl⟩, hall⟩ := hrel
      have HA := hid hall; clear hall
      by_cases hlt : k < L.length
      · obtain ⟨sb, so, rfl, hc⟩ := hL.int k hlt
        obtain ⟨sb', so', rfl, hc'⟩ := hM.int k (by have := H1.out; omega)
        obtain ⟨x, hx⟩ : ∃ x, x = L.getD k 0 := ⟨_, rfl⟩
        obtain ⟨y, hy⟩ : ∃ y, y = M.getD k 0 := ⟨_, rfl⟩
        rw [← hx] at hc; rw [← hy] at hc'
        have HX := hid hx; have HY := hid hy; clear hx hy
        have i1 : (0 : Int) ≤ k := by omega
        have i2 : (k : Int) < L.length := by omega
        have i3 : (k : Int) < M.length := by have := H1.out; omega
        by_cases q : x = y
        · subst q
          go_wp2_with fail
          go_big_quiet (fail)
          go_wp2_with fail
          refine ⟨⟨k + 1, by omega, by go_num, ⟨_, rfl⟩, fun j hj => ?_⟩, by simp [intOf]; omega⟩
          by_cases hjk : j = k
          · subst hjk; rw [← HX.out, ← HY.out]
          · exact HA.out j (by omega)
        · have q' : (x != y) = true := by simpa using q
          have HQ := hid q; clear q
          go_wp2_with fail
          go_big_quiet (fail)
          go_wp2_with fail
          go_ret
          exact ⟨.no fun h => HQ.out (by rw [HX.out, HY.out, h]), bthen (below_drewN _ _) (below_drewN _ _)⟩
      · go_wp2_with fail
        go_ret
        exact ⟨.yes (getD_ext 0 H1.out fun j hj => HA.out j (by omega)), below_drewN _ _⟩
  · have h1' : ((L.length : Int) != (M.length : Int)) = true := by rw [bne_iff_ne]; omega
    have H1 := hid h1; clear h1
    go_enter Try.func35, Try.ntmps35
    go_wp2_with fail
    go_ret
    exact ⟨.no fun h => H1.out (by rw [h]), Below.refl _ _⟩

set_option maxHeartbeats 400000 in
theorem rints_any (A B : Option Addr) (c d : Nat) (L M : List Int) (w : World) (hl : L.length ≤ 1000000000000) (hm : M.length ≤ 1000000000000) (hL : Row w A (ints L)) (hM : Row w B (ints M)) :
    Calls Try.prog 15 #[.slice A L.length c, .slice B M.length d] w fun e w' => Tells (L = M) e ∧ Below w.heap.size w w' := by
  by_cases h1 : L.length = M.length
  · have h1' : ((L.length : Int) != (M.length : Int)) = false := by simp [h1]
    have H1 := hid h1; clear h1
    go_enter Try.func15, Try.ntmps15
    go_wp2_with fail
    go_loopw [5] (fun i wr => ∃ k : Nat, k ≤ L.length ∧ i = .int .i64 k ∧ (∃ q, wr = w.drewN q) ∧ ∀ j, j < k → L.getD j 0 = M.getD j 0)
      (fun i _ => L.length - (intOf i).toNat)
    case atStart => exact ⟨0, Nat.zero_le _, rfl, ⟨0, rfl⟩, fun j hj => absurd hj (by omega)⟩
    case round =>
      obtain ⟨k, hk, rfl, ⟨q, rfl⟩, hall⟩ := hrel
      have HA := hid hall; clear hall
      by_cases hlt : k < L.length
      · obtain ⟨sb, so, rfl, hc⟩ := hL.int k hlt
        obtain ⟨sb', so', rfl, hc'⟩ := hM.int k (by have := H1.out; omega)
        obtain ⟨x, hx⟩ : ∃ x, x = L.getD k 0 := ⟨_, rfl⟩
        obtain ⟨y, hy⟩ : ∃ y, y = M.getD k 0 := ⟨_, rfl⟩
        rw [← hx] at hc; rw [← hy] at hc'
        have HX := hid hx; have HY := hid hy; clear hx hy
        have i1 : (0 : Int) ≤ k := by omega
        have i2 : (k : Int) < L.length := by omega
        have i3 : (k : Int) < M.length := by have := H1.out; omega
        by_cases q : x = y
        · subst q
          go_wp2_with fail
          go_big_quiet (fail)
          go_wp2_with fail
          refine ⟨⟨k + 1, by omega, by go_num, ⟨_, rfl⟩, fun j hj => ?_⟩, by simp [intOf]; omega⟩
          by_cases hjk : j = k
          · subst hjk; rw [← HX.out, ← HY.out]
          · exact HA.out j (by omega)
        · have q' : (x != y) = true := by simpa using q
          have HQ := hid q; clear q
          go_wp2_with fail
          go_big_quiet (fail)
          go_wp2_with fail
          go_ret
          exact ⟨.no fun h => HQ.out (by rw [HX.out, HY.out, h]), bthen (below_drewN _ _) (below_drewN _ _)⟩
      · go_wp2_with fail
        go_ret
        exact ⟨.yes (getD_ext 0 H1.out fun j hj => HA.out j (by omega)), below_drewN _ _⟩
  · have h1' : ((L.length : Int) != (M.length : Int)) = true := by rw [bne_iff_ne]; omega
    have H1 := hid h1; clear h1
    go_enter Try.func15, Try.ntmps15
    go_wp2_with fail
    go_ret
    exact ⟨.no fun h => H1.out (by rw [h]), Below.refl _ _⟩



/-- a function value that answers a bool for each of these numbers -/
def PredOk (W : World) (pf : Nat) (caps : Array Value) (p : Int → Bool) (L : List Int) : Prop :=
  ∀ x ∈ L, ∀ w', Below W.heap.size W w' → Calls Try.prog pf (#[.int .i64 x] ++ caps) w' fun e w'' => e = .returned (.bool (p x)) ∧ Below w'.heap.size w' w''
def idxF (p : Int → Bool) : List Int → Nat → Int
  | [], _ => -1
  | x :: L, i => if p x = true then i else idxF p L (i + 1)
theorem idxF_any (p : Int → Bool) : ∀ (L : List Int) (i : Nat), decide (0 ≤ idxF p L i) = L.any p := by
  intro L
  induction L with
  | nil => intro i; rfl
  | cons x L ih =>
    intro i
    unfold idxF
    by_cases h : p x = true
    · rw [if_pos h]; simp [h]
    · rw [if_neg h, ih]; simp [h]
theorem idxF_drop (p : Int → Bool) (L : List Int) (k : Nat) (h : k < L.length) (i : Nat) : idxF p (L.drop k) i = if p (L.getD k 0) = true then (i : Int) else idxF p (L.drop (k + 1)) (i + 1) := by
  rw [List.drop_eq_getElem_cons h]
  simp only [idxF, List.getD_eq_getElem?_getD, List.getElem?_eq_getElem h, Option.getD_some]

set_option maxHeartbeats 400000 in
theorem indexFunc_any (pf : Nat) (caps : Array Value) (p : Int → Bool) (A : Option Addr) (c : Nat) (L : List Int) (w : World) (hen : ∀ args W, (callFunc pf args).run Try.prog W = .ok (.enter pf args) W)
    (hp : PredOk w pf caps p L) (hL : Row w A (ints L)) (hl : L.length ≤ 1000000) :
    Calls Try.prog 56 #[.slice A L.length c, .func (.func pf) #[] caps] w fun e w' => e = .returned (.int .i64 (idxF p L 0)) ∧ Below w.heap.size w w' := by
  have HP := hid hp; clear hp
  go_enter Try.func56, Try.ntmps56
  go_wp2_with fail
  go_loopw [8] (fun i wr => ∃ k : Nat, k ≤ L.length ∧ i = .int .i64 k ∧ idxF p L 0 = idxF p (L.drop k) k ∧ Below w.heap.size w wr) (fun i _ => L.length - (intOf i).toNat)
  case atStart => exact ⟨0, Nat.zero_le _, rfl, rfl, Below.refl _ _⟩
  case round =>
    obtain ⟨k, hk, rfl, hx, hb⟩ := hrel
    have HX := hid hx; have HB := hid hb
    by_cases hlt : k < L.length
    · obtain ⟨sb, so, rfl, hc⟩ := hL.int k hlt
      have hc' := below_cell hb hc
      have hmem : L.getD k 0 ∈ L := by rw [List.getD_eq_getElem?_getD, List.getElem?_eq_getElem hlt]; exact List.getElem_mem hlt
      have hcall := HP.out _ hmem _ hb
      have hdr := idxF_drop p L k hlt k
      obtain ⟨x, hx0⟩ : ∃ x, x = L.getD k 0 := ⟨_, rfl⟩
      rw [← hx0] at hc' hcall hdr
      have HC := hid hcall; have HD := hid hdr
      obtain ⟨b, hb0⟩ : ∃ b, b = p x := ⟨_, rfl⟩
      have HB0 := hid hb0
      clear hx hb hc hmem hcall hdr hx0 hb0
      go_wp2_with fail
      refine HC.out.mono ?_
      rintro e w2 ⟨rfl, hb2⟩
      rw [← HB0.out]
      have HB2 := hid (bthen HB.out hb2)
      clear hb2
      cases b with
      | true =>
        go_wp2_with fail
        go_ret
        exact ⟨by rw [HX.out, HD.out, if_pos HB0.out.symm]; rfl, HB2.out⟩
      | false =>
        go_wp2_with fail
        exact ⟨⟨k + 1, by omega, by go_num, by rw [HX.out, HD.out, if_neg (by rw [← HB0.out]; simp)], HB2.out⟩, by simp [intOf]; omega⟩
    · obtain rfl : k = L.length := by omega
      have hd : idxF p L 0 = -1 := by rw [hx, List.drop_length]; rfl
      have HD := hid hd
      clear hx hb hd
      go_wp2_with fail
      go_ret
      exact ⟨by rw [HD.out]; rfl, HB.out⟩
theorem containsFunc_any (pf : Nat) (caps : Array Value) (p : Int → Bool) (A : Option Addr) (c : Nat) (L : List Int) (w : World) (hen : ∀ args W, (callFunc pf args).run Try.prog W = .ok (.enter pf args) W)
    (hp : PredOk w pf caps p L) (hL : Row w A (ints L)) (hl : L.length ≤ 1000000) :
    Calls Try.prog 37 #[.slice A L.length c, .func (.func pf) #[] caps] w fun e w' => e = .returned (.bool (L.any p)) ∧ Below w.heap.size w w' := by
  have HP := hid hp; clear hp
  have hi := idxF_any p L 0
  have HI := hid hi; clear hi
  go_enter Try.func37, Try.ntmps37
  go_wp2_with (go_at_call 56; refine (indexFunc_any pf caps p A c L _ hen HP.out hL hl).mono ?_; rintro e w1 ⟨rfl, hb1⟩)
  go_ret
  exact ⟨by rw [← HI.out]; rfl, hb1⟩
end Go.Proofs.Ytjddegfigdpcbaa
