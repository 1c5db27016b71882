/- graph.reach: the marks of the points that can be reached. -/
import Derived.Test.YtjddegfigdpcbaaD
namespace Go.Proofs.Ytjddegfigdpcbaa
open Go.RowKit

theorem made_bools (n : Nat) : madeCells (Value.bool false).cells (n * 1) = (bools (List.replicate n false)).toArray := by
  apply Array.ext
  · simp [madeCells, bools]
  · intro i h1 h2
    simp [madeCells, bools, Value.cells, Nat.mod_one]
theorem run_marks (n : Nat) (h : n ≤ 70000) (w : World) : (Instr.makeSlice 59 (.int .i64 n) (.int .i64 n)).run Try.prog w = .ok (.slice (some ⟨w.heap.size, 0, none⟩) n n) (w.alloc (.cells (bools (List.replicate n false)).toArray 4)) := by
  obtain ⟨i0, hi, hz0, hz1, hz2⟩ := info_parts info4
  have := run_makeSlice (P := Try.prog) w 59 4 i0 (.bool false) Try.underlying59 hi hz0 .i64 .i64 n n (by omega) (Int.le_refl _) (by rw [hz1]; simp; omega) (by rw [hz2]; omega) (by omega)
  rw [this, hz1]
  simp only [Int.toNat_natCast]
  rw [made_bools]
/-- a graph as a value -/
def gval (n root : Nat) (nf cb : Nat) : Value := .agg #[.int .i64 n, .int .i64 root, .func (.func nf) #[] #[.pointer (some ⟨cb, 0, none⟩)]]
/-- the answer is a made row of bools -/
def GivesMarks (w : World) (ms : List Bool) (e : Ending) (w' : World) : Prop := ∃ rb, e = .returned (.slice (some ⟨rb, 0, none⟩) ms.length ms.length) ∧ MarksAt w' rb ms ∧ w.heap.size ≤ rb ∧ Below w.heap.size w w'
theorem own_pop {w : World} {B n c : Nat} {A : Option Addr} {xs : List Value} {y : Value} (h : w.ownsRow B 3 1 (.slice A (n + 1) c) (n + 1) (xs ++ [y])) (hn : xs.length = n) : w.ownsRow B 3 1 (.slice A n c) n xs := by
  refine ⟨by rw [hn, Nat.mul_one], ?_⟩
  rcases h.2 with ⟨_, h0⟩ | ⟨g, cap, cur, hv, hb, hg, hc, hm, hs, ht⟩
  · omega
  · right
    injection hv with h1 _ h3
    subst h1; subst h3
    refine ⟨g, c, cur, rfl, hb, hg, by omega, hm, hs, ?_⟩
    have := congrArg (List.take n) ht
    rw [List.take_take, List.take_append_of_le_length (by omega), List.take_of_length_le (show xs.length ≤ n by omega), Nat.mul_one, Nat.min_eq_left (by omega)] at this
    rw [Nat.mul_one]; exact this

theorem enter57 (args : Array Value) (W : World) : (callFunc 57 args).run Try.prog W = .ok (.enter 57 args) W := by kernel_rfl
theorem enter58 (args : Array Value) (W : World) : (callFunc 58 args).run Try.prog W = .ok (.enter 58 args) W := by kernel_rfl
theorem five_alloc (w : World) (o1 o2 o3 o4 o5 : Obj) :
    (((((w.alloc o1).alloc o2).alloc o3).alloc o4).alloc o5).heap[w.heap.size + 1]? = some o2 ∧ (((((w.alloc o1).alloc o2).alloc o3).alloc o4).alloc o5).heap[w.heap.size + 1 + 1]? = some o3 ∧
    (((((w.alloc o1).alloc o2).alloc o3).alloc o4).alloc o5).heap[w.heap.size + 1 + 1 + 1]? = some o4 ∧ (((((w.alloc o1).alloc o2).alloc o3).alloc o4).alloc o5).heap[w.heap.size + 1 + 1 + 1 + 1]? = some o5 := by
  have h2 := heap_alloc_new (w.alloc o1) o2
  have h3 := heap_alloc_new ((w.alloc o1).alloc o2) o3
  have h4 := heap_alloc_new (((w.alloc o1).alloc o2).alloc o3) o4
  have h5 := heap_alloc_new ((((w.alloc o1).alloc o2).alloc o3).alloc o4) o5
  rw [show (w.alloc o1).heap.size = w.heap.size + 1 from by simp] at h2
  rw [show ((w.alloc o1).alloc o2).heap.size = w.heap.size + 1 + 1 from by simp] at h3
  rw [show (((w.alloc o1).alloc o2).alloc o3).heap.size = w.heap.size + 1 + 1 + 1 from by simp] at h4
  rw [show ((((w.alloc o1).alloc o2).alloc o3).alloc o4).heap.size = w.heap.size + 1 + 1 + 1 + 1 from by simp] at h5
  refine ⟨?_, ?_, ?_, h5⟩
  · rw [heap_alloc_old _ _ (by simp), heap_alloc_old _ _ (by simp), heap_alloc_old _ _ (by simp)]; exact h2
  · rw [heap_alloc_old _ _ (by simp), heap_alloc_old _ _ (by simp)]; exact h3
  · rw [heap_alloc_old _ _ (by simp)]; exact h4
theorem RSt.popd {w : World} {B wob outb lb rb : Nat} {wo : Int} {Al : Option Addr} {cl : Nat} {ms : List Bool} {st : List Int} {x : Int} (h : RSt w B wob outb lb rb wo Al cl ms (st ++ [x])) :
    RSt (w.setCell ⟨lb, 0, none⟩ (.slice Al st.length cl)) B wob outb lb rb wo Al cl ms st := by
  have hl : (st ++ [x]).length = st.length + 1 := by simp
  have ho := h.own
  rw [hl, show ints (st ++ [x]) = ints st ++ [.int .i64 x] from by simp [ints]] at ho
  have ho2 := own_pop ho (by simp [ints])
  refine ⟨h.wo.far (h.wo.ne h.l (by decide)) _ _, h.out.far (h.out.ne h.l (by decide)) _ _, h.l.set 0 _, BlkAt.far h.marks (BlkAt.ne h.marks h.l (by decide)) _ _, own_setCell ho2 (BlkAt.ne_own h.l ho2 (by decide)), h.base⟩

set_option maxHeartbeats 2000000 in
theorem reach_any (n root nf cb : Nat) (G : List (List Int)) (wo : Int) (la : Option Addr) (lc : Nat) (L : List Int) (w : World) (hen : ∀ args W, (callFunc nf args).run Try.prog W = .ok (.enter nf args) W) (hn : n = G.length) (hn2 : n ≤ 1024) (hG : GrOk G) (hx : NextOk w nf cb G)
    (hL : Row w la (ints L)) (hl : ∀ x ∈ L, 0 ≤ x ∧ x < (n : Int)) (hll : L.length ≤ 1000000) (hgl : ∀ i, i < G.length → (G.getD i []).length ≤ 1000000) :
    Calls Try.prog 54 #[gval n root nf cb, .int .i64 wo, .slice la L.length lc] w (GivesMarks w (reachB G wo L)) := by
  have hmk := run_marks n (by omega)
  unfold gval
  have HN := hid hn; have HG := hid hG; have HX := hid hx; have HLB := hid hl; have HGL := hid hgl
  clear hn hG hx hl hgl
  go_enter Try.func54, Try.ntmps54
  go_wp2_with fail
  have hst : RSt (((((w.alloc (.cells #[.int .i64 n, .int .i64 root, .func (.func nf) #[] #[.pointer (some ⟨cb, 0, none⟩)]] 54)).alloc (.cells #[.int .i64 wo] 3)).alloc (.cells (bools (List.replicate n false)).toArray 4)).alloc (.cells #[.slice (some ⟨w.heap.size + 1 + 1, 0, none⟩) n n] 59)).alloc (.cells #[.slice none 0 0] 29))
      (w.heap.size + 5) (w.heap.size + 1) (w.heap.size + 1 + 1 + 1) (w.heap.size + 1 + 1 + 1 + 1) (w.heap.size + 1 + 1) wo none 0 (List.replicate n false) [] := by
    have h5 := five_alloc w (.cells #[.int .i64 n, .int .i64 root, .func (.func nf) #[] #[.pointer (some ⟨cb, 0, none⟩)]] 54) (.cells #[.int .i64 wo] 3) (.cells (bools (List.replicate n false)).toArray 4) (.cells #[.slice (some ⟨w.heap.size + 1 + 1, 0, none⟩) n n] 59) (.cells #[.slice none 0 0] 29)
    refine ⟨h5.1, ?_, h5.2.2.2, h5.2.1, World.ownsRow_nil _ _ _ _, by omega⟩
    unfold BlkAt; rw [h5.2.2.1, List.length_replicate]
  have hb5 : Below w.heap.size w (((((w.alloc (.cells #[.int .i64 n, .int .i64 root, .func (.func nf) #[] #[.pointer (some ⟨cb, 0, none⟩)]] 54)).alloc (.cells #[.int .i64 wo] 3)).alloc (.cells (bools (List.replicate n false)).toArray 4)).alloc (.cells #[.slice (some ⟨w.heap.size + 1 + 1, 0, none⟩) n n] 59)).alloc (.cells #[.slice none 0 0] 29)) :=
    bthen (bthen (bthen (bthen (below_alloc _ _) (below_alloc _ _)) (below_alloc _ _)) (below_alloc _ _)) (below_alloc _ _)
  have hg2 : (((((w.alloc (.cells #[.int .i64 n, .int .i64 root, .func (.func nf) #[] #[.pointer (some ⟨cb, 0, none⟩)]] 54)).alloc (.cells #[.int .i64 wo] 3)).alloc (.cells (bools (List.replicate n false)).toArray 4)).alloc (.cells #[.slice (some ⟨w.heap.size + 1 + 1, 0, none⟩) n n] 59)).alloc (.cells #[.slice none 0 0] 29)).cell? ⟨w.heap.size, 2, none⟩ = some (.func (.func nf) #[] #[.pointer (some ⟨cb, 0, none⟩)]) := by go_simp
  have hz5 : (((((w.alloc (.cells #[.int .i64 n, .int .i64 root, .func (.func nf) #[] #[.pointer (some ⟨cb, 0, none⟩)]] 54)).alloc (.cells #[.int .i64 wo] 3)).alloc (.cells (bools (List.replicate n false)).toArray 4)).alloc (.cells #[.slice (some ⟨w.heap.size + 1 + 1, 0, none⟩) n n] 59)).alloc (.cells #[.slice none 0 0] 29)).heap.size = w.heap.size + 5 := by simp
  obtain ⟨w5, hw5⟩ : ∃ w5, w5 = ((((w.alloc (.cells #[.int .i64 n, .int .i64 root, .func (.func nf) #[] #[.pointer (some ⟨cb, 0, none⟩)]] 54)).alloc (.cells #[.int .i64 wo] 3)).alloc (.cells (bools (List.replicate n false)).toArray 4)).alloc (.cells #[.slice (some ⟨w.heap.size + 1 + 1, 0, none⟩) n n] 59)).alloc (.cells #[.slice none 0 0] 29) := ⟨_, rfl⟩
  rw [← hw5] at hst hb5 hg2 hz5
  rw [← hw5]
  clear hw5
  obtain ⟨lb, hlb⟩ : ∃ lb, lb = w.heap.size + 1 + 1 + 1 + 1 := ⟨_, rfl⟩
  rw [← hlb] at hst ⊢
  obtain ⟨outb, houtb⟩ : ∃ outb, outb = w.heap.size + 1 + 1 + 1 := ⟨_, rfl⟩
  rw [← houtb] at hst ⊢
  obtain ⟨rb, hrb⟩ : ∃ rb, rb = w.heap.size + 1 + 1 := ⟨_, rfl⟩
  rw [← hrb] at hst ⊢
  obtain ⟨wob, hwob⟩ : ∃ wob, wob = w.heap.size + 1 := ⟨_, rfl⟩
  rw [← hwob] at hst ⊢
  obtain ⟨B, hB⟩ : ∃ B, B = w.heap.size + 5 := ⟨_, rfl⟩
  rw [← hB] at hst hz5
  have kk1 : w.heap.size + 1 ≤ lb := by omega
  have kk2 : w.heap.size + 1 ≤ rb := by omega
  have kk3 : w.heap.size + 1 ≤ B := by omega
  have kk4 : w.heap.size ≤ rb := by omega
  have kk5 : B ≤ w5.heap.size := by omega
  have kk6 : w.heap.size + 1 ≤ w5.heap.size := by omega
  have hd0 : DInv G wo L (List.replicate n false) [] [] (-1) := by rw [HN.out]; exact DInv.init
  have hm0 : mu (List.replicate n false) [] ≤ 2 * n := by unfold mu; simp
  have HST := hid hst; have HB5 := hid hb5; have HD0 := hid hd0; have HM0 := hid hm0
  clear hst hb5 hd0 hm0 hz5 hlb houtb hrb hwob hB hmk
  go_loopw [21] (fun i wr => ∃ k : Nat, ∃ ms st Al cl, k ≤ L.length ∧ i = .int .i64 k ∧ RSt wr B wob outb lb rb wo Al cl ms st ∧ DInv G wo L ms st (L.take k) (-1) ∧ mu ms st ≤ 2 * n ∧ Below (w.heap.size + 1) w5 wr)
    (fun i _ => L.length - (intOf i).toNat)
  case atStart => exact ⟨0, _, [], none, 0, by omega, rfl, HST.out, HD0.out, HM0.out, Below.refl _ _⟩
  case round =>
    obtain ⟨k, ms, st, Al, cl, hk, rfl, hs, hd, hm, hb⟩ := hrel
    have HS := hid hs; have HD := hid hd; have HM := hid hm; have HB := hid hb
    have hml : ms.length = n := by rw [hd.len, HN.out]
    have hsl : st.length ≤ 2 * n := by unfold mu at hm; omega
    have hwz := hb.size
    by_cases hlt : k < L.length
    · obtain ⟨sb, so, rfl, hx⟩ := hL.int k hlt
      have hx0 : L.getD k 0 ∈ L := by rw [List.getD_eq_getElem?_getD, List.getElem?_eq_getElem hlt]; exact List.getElem_mem hlt
      have hxb := HLB.out _ hx0
      obtain ⟨x, hxe⟩ : ∃ x, x = L.getD k 0 := ⟨_, rfl⟩
      rw [← hxe] at hx hxb hx0
      obtain ⟨p, rfl⟩ := Int.eq_ofNat_of_zero_le hxb.1
      have hx' := below_cell HB5.out hx
      have hx' := (hb.cell (Nat.lt_of_lt_of_le (lt_of_cell hx) (Nat.le_succ _))).trans hx'
      have HXE := hid hxe
      have hv := hd.visit (p : Int) hxb.1 (by rw [← HN.out]; exact hxb.2) (fun h => by rw [Int.toNat_natCast]; exact .start hx0 h)
      have hmv := mu_visit wo ms st (p : Int) (by rw [Int.toNat_natCast, hml]; omega)
      have HV := hid hv; have HMV := hid (Nat.le_trans hmv hm)
      clear hx hxe hs hd hm hb hv hmv
      go_wp2_with (go_at_call 60; refine (visit_any HS.out (w.heap.size + 1) kk1 kk2 kk3 p (by omega) (by omega) (by omega) (by omega)).mono ?_; rintro e w2 ⟨rfl, ⟨A2, c2, hs2⟩, hb2⟩; have HS2 := hid hs2; have HB2 := hid (HB.out.trans hb2); clear hs2 hb2)
      refine ⟨⟨k + 1, _, _, A2, c2, by omega, by go_num, HS2.out, ?_, HMV.out, HB2.out⟩, by simp [intOf]; omega⟩
      rw [take_snoc L 0 k hlt, ← HXE.out]; exact HV.out
    · obtain rfl : k = L.length := by omega
      rw [List.take_length] at hd
      have HD2 := hid hd
      clear hs hd hm hb
      go_wp2_with fail
      go_loopg [12] (2 * n) (fun gk _ wr => ∃ ms st Al cl, RSt wr B wob outb lb rb wo Al cl ms st ∧ DInv G wo L ms st L (-1) ∧ mu ms st ≤ gk ∧ gk ≤ 2 * n ∧ Below (w.heap.size + 1) w5 wr)
      case atStart => exact ⟨ms, st, Al, cl, HS.out, HD2.out, HM.out, Nat.le_refl _, HB.out⟩
      case round =>
        clear HS HD HM HB HD2 hml hsl hwz
        obtain ⟨ms, st, Al, cl, hs, hd, hm, hgk, hb⟩ := hrel
        have hml : ms.length = n := by rw [hd.len, HN.out]
        have hsl : st.length ≤ 2 * n := by unfold mu at hm; omega
        have hwz := hb.size
        have HB := hid hb
        have hl0 := hs.l.cell 0 _ rfl
        rcases List.eq_nil_or_concat st with rfl | ⟨st', x, hst⟩
        · have ho0 := hs.out.cell 0 _ rfl
          have HS := hid hs; have HD := hid hd
          clear hs hd hm hb
          go_wp2_with fail
          go_ret
          have hfin := HD.out.final HG.out
          rw [← hfin]
          exact ⟨rb, by rw [hml]; rfl, HS.out.marks, kk4, HB5.out.trans (HB.out.mono (Nat.le_succ _))⟩
        · rw [List.concat_eq_append] at hst
          subst hst
          obtain ⟨hd1, hx0, hx1, hxr⟩ := hd.pop
          have hs1 := hs.popd
          have hm1 := mu_pop ms st' x
          have hown := hs.own
          obtain ⟨g, cap, hv, hbg, _⟩ := hown.form (by simp)
          injection hv with hv1 hv2 hv3
          subst hv1
          have hcell := hown.cellAt st'.length (by simp)
          rw [show (ints (st' ++ [x]))[st'.length]? = some (.int .i64 x) from by simp [ints]] at hcell
          have hcap : st'.length + 1 ≤ cl := by
            rcases hown.2 with ⟨h0, _⟩ | ⟨_, _, _, h0, _, _, h1, _⟩
            · cases h0
            · injection h0 with _ _ h0; subst h0; simpa using h1
          have hl1 : (st' ++ [x]).length = st'.length + 1 := by simp
          rw [hl1] at hl0 hsl
          obtain ⟨p, rfl⟩ := Int.eq_ofNat_of_zero_le hx0
          obtain ⟨N, hN⟩ : ∃ N, N = G.getD p [] := ⟨_, rfl⟩
          have hpG : p < G.length := by omega
          have hNl := HGL.out p hpG
          have hNb := HG.out p hpG
          rw [← hN] at hNl hNb
          have hlf := hs.l.fz 0
          have hgr := (hb.cell (p := ⟨w.heap.size, 2, none⟩) (Nat.lt_succ_self _)).trans hg2
          have hlz : w.heap.size ≠ lb := by omega
          obtain ⟨sl, hsl'⟩ : ∃ sl, sl = st'.length := ⟨_, rfl⟩
          rw [← hsl'] at hl0 hsl hcell hcap
          have HSL := hid hsl'
          have q1 : ((sl + 1 : Nat) : Int) - 1 = (sl : Int) := by omega
          have HS1 := hid hs1; have HD1 := hid hd1; have HM1 := hid (show mu ms st' + 1 ≤ gk by omega); have HNN := hid hN; have HNB := hid hNb; have HXR := hid hxr; have HML := hid hml
          have HBW := hid (HB5.out.trans (hb.mono (Nat.le_succ _)))
          clear hs hd hm hb hv2 hv3 hown hs1 hd1 hm1 hN hNb hxr hsl' hml hl1
          go_wp2_with fail
          obtain ⟨A3, c3, hr3, hcall⟩ := HX.out p hpG
          rw [← HNN.out] at hr3 hcall
          have hbl : Below w.heap.size w (wr.setCell ⟨lb, 0, none⟩ (.slice (some ⟨g, 0, none⟩) sl cl)) := HBW.out.setCell (p := ⟨lb, 0, none⟩) (Nat.le_trans (Nat.le_succ _) kk1) _
          refine (hcall _ hbl).mono ?_
          rintro e w2 ⟨rfl, hw2⟩
          have hs2 := HS1.out
          have hb2 := HB.out.setCell (p := ⟨lb, 0, none⟩) kk1 (.slice (some ⟨g, 0, none⟩) sl cl)
          rw [← HSL.out, hw2] at hs2
          rw [hw2] at hb2
          have HS2 := hid hs2; have HB2 := hid hb2
          clear hw2 hs2 hb2 hcall hbl hcell hl0 hcap hlf hgr
          go_wp2_with fail
          go_loopw [48] (fun i wi => ∃ q : Nat, ∃ ms2 st2 A2 c2, q ≤ N.length ∧ i = .int .i64 q ∧ RSt wi B wob outb lb rb wo A2 c2 ms2 st2 ∧ DInv G wo L ms2 st2 (L ++ N.take q) (p : Int) ∧ mu ms2 st2 ≤ mu ms st' ∧ Below (w.heap.size + 1) w5 wi)
            (fun i _ => N.length - (intOf i).toNat)
          case atStart => exact ⟨0, ms, st', _, cl, by omega, rfl, HS2.out, by simpa using HD1.out, Nat.le_refl _, HB2.out⟩
          case round =>
            obtain ⟨q, ms2, st2, A2, c2, hq, rfl, hs3, hd3, hm3, hb3⟩ := hrel
            have HS3 := hid hs3; have HD3 := hid hd3; have HM3 := hid hm3; have HB3 := hid hb3
            have hml3 : ms2.length = n := by rw [hd3.len, HN.out]
            have hmu : mu ms st' ≤ 2 * n := by have := HM1.out; omega
            have hsl3 : st2.length ≤ 2 * n := by have := hm3; unfold mu at this hmu; omega
            have hwz3 := hb3.size
            by_cases hlt3 : q < N.length
            · obtain ⟨tb, to, rfl, hy⟩ := hr3.int q hlt3
              have hy0 : N.getD q 0 ∈ N := by rw [List.getD_eq_getElem?_getD, List.getElem?_eq_getElem hlt3]; exact List.getElem_mem hlt3
              have hyb := HNB.out _ hy0
              obtain ⟨y, hye⟩ : ∃ y, y = N.getD q 0 := ⟨_, rfl⟩
              rw [← hye] at hy hyb hy0
              obtain ⟨z, rfl⟩ := Int.eq_ofNat_of_zero_le hyb.1
              have hy' := below_cell (HB5.out.trans (hb3.mono (Nat.le_succ _))) hy
              have HYE := hid hye
              have hv := hd3.visit (z : Int) hyb.1 hyb.2 (fun h => by
                rw [Int.toNat_natCast]
                exact .step (i := p) HXR.out hpG (by rw [← HNN.out]; exact hy0) h)
              have hmv := mu_visit wo ms2 st2 (z : Int) (by rw [Int.toNat_natCast, hml3, HN.out]; omega)
              have HV := hid hv; have HMV := hid (Nat.le_trans hmv hm3)
              have hzn : z < n := by rw [HN.out]; omega
              clear hy hye hs3 hd3 hm3 hb3 hv hmv
              go_wp2_with (go_at_call 60; refine (visit_any HS3.out (w.heap.size + 1) kk1 kk2 kk3 z (by omega) (by omega) (by omega) (by omega)).mono ?_; rintro e w6 ⟨rfl, ⟨A6, c6, hs6⟩, hb6⟩; have HS6 := hid hs6; have HB6 := hid (HB3.out.trans hb6); clear hs6 hb6)
              refine ⟨⟨q + 1, _, _, A6, c6, by omega, by go_num, HS6.out, ?_, HMV.out, HB6.out⟩, by simp [intOf]; omega⟩
              rw [take_snoc N 0 q hlt3, ← HYE.out, ← List.append_assoc]; exact HV.out
            · obtain rfl : q = N.length := by omega
              rw [List.take_length] at hd3
              have hcl : DInv G wo L ms2 st2 L (-1) := DInv.close (D := (p : Int)) (by rw [Int.toNat_natCast, ← HNN.out]; exact hd3)
              have HCL := hid hcl
              have hgk2 : mu ms2 st2 < gk := by have := HM1.out; omega
              clear hs3 hd3 hm3 hb3 hcl
              go_wp2_with fail
              go_roundg (mu ms2 st2)
              case measure => exact hgk2
              case rel => exact ⟨ms2, st2, A2, c2, HS3.out, HCL.out, Nat.le_refl _, by omega, HB3.out⟩
end Go.Proofs.Ytjddegfigdpcbaa
