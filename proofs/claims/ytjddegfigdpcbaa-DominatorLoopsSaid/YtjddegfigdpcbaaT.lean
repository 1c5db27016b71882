/- The arguments of chapter 18 opened: a flow, a row of numbers of a byte. -/
import Derived.Test.YtjddegfigdpcbaaS
import Derived.Test.YtjddegfigdpcbaaM
namespace Go.Proofs.Ytjddegfigdpcbaa
open Go.ChangeShapes Go.WideShapes Go.ChangeAt Go.RowKit Go.Deep

theorem own0 : ownKnob Try.prog.godebug = none := by kernel_rfl
theorem laid0 : laidOutB Try.prog = true := by kernel_rfl
theorem cells3' : Try.prog.cellsOf 3 = 1 := by kernel_rfl
theorem cells5' : Try.prog.cellsOf 5 = 1 := by kernel_rfl
theorem cells22' : Try.prog.cellsOf 22 = 1 := by kernel_rfl
theorem cells24' : Try.prog.cellsOf 24 = 1 := by kernel_rfl
theorem cells29' : Try.prog.cellsOf 29 = 1 := by kernel_rfl
theorem cells40' : Try.prog.cellsOf 40 = 3 := by kernel_rfl
theorem add_add {a : Addr} (i j : Nat) : (a.add i).add j = a.add (i + j) := by
  unfold Addr.add
  split <;> split <;> split <;> simp_all <;> omega
section
variable {H : Type} {enc : TypeId × Value → H} {W : World} {base : Nat} {spare : Nat → Bool} {held : Bool}
/-- one point of a flow -/
def PtAt (W : World) (a : Addr) (l : List Int) : Prop := ∃ k n B c, W.cell? a = some (.int .i64 k) ∧ W.cell? (a.add 1) = some (.int .i64 n) ∧ W.cell? (a.add 2) = some (.slice B l.length c) ∧ Row W B (ints l)
theorem open_point {fuel : Nat} {cs : List Value} {x : DataW H × List MemPlace} (h : DataW.trod enc Try.prog W base spare held fuel 40 cs = some x) :
    ∃ k n B c, ∃ l : List Int, cs = [.int .i64 k, .int .i64 n, .slice B l.length c] ∧ Row W B (ints l) := by
  obtain ⟨xs, m, _, _, hl, hxl, hf⟩ := DataW.trod_struct Try.underlying40 h
  rw [cells40'] at hl
  match cs, hl, xs, hxl with
  | [v0, v1, v2], _, [y0, y1, y2], _ =>
    have h0 := hf 0 _ rfl
    have h1 := hf 1 _ rfl
    have h2 := hf 2 _ rfl
    simp [cells3', cells29'] at h0 h1 h2
    obtain ⟨a, e0, _⟩ := DataW.trod_int Try.underlying3 h0
    obtain ⟨b, e1, _⟩ := DataW.trod_int Try.underlying3 h1
    obtain ⟨A, c, L, e2, hr, _⟩ := open_slice_ints Try.underlying29 Try.underlying3 cells3' h2
    injection e0 with e0 _; injection e1 with e1 _
    exact ⟨a, b, A, c, L, by rw [e0, e1, e2], hr⟩
theorem open_flow {v : Value} {d : DataW H} {p : List MemPlace} (hv : Value.okWide Try.prog W .any base 24 v) (h : DataW.Trod enc Try.prog W 0 (fun _ => true) true 24 v d p) :
    ∃ pa pc, ∃ F : List (List Int), v = .agg #[.slice pa F.length pc] ∧ FRow W pa F ∧ F.length ≤ maxLen := by
  obtain ⟨cs, rfl, hcs⟩ := okWide_struct Try.underlying24 hv
  obtain ⟨fuel, hf⟩ := h
  obtain ⟨y0, m, _, _, h0⟩ := trod_struct1 Try.underlying24 hf
  rw [cells24'] at hcs
  match cs, hcs with
  | ⟨[v]⟩, _ =>
    simp [Value.cells, cells22'] at h0
    rcases open_slice Try.underlying22 h0 with ⟨h0, _⟩ | ⟨a, len, cap, m, n, D, Pl, h0, _, hl, hm, hmm, _, hx⟩
    · injection h0 with h0 _
      exact ⟨none, 0, [], by rw [h0]; rfl, FRow.nil, by simp⟩
    injection h0 with h0 _
    have hlm : len ≤ m := by rw [hmm]; split <;> omega
    obtain ⟨Z, hZ⟩ := choose_lt (α := List Int) (p := fun i l => PtAt W (a.add (i * 3)) l) (n := len) (fun i hi => by
      obtain ⟨cs', h1, h2⟩ := hx i (by omega)
      rw [cells40'] at h1
      obtain ⟨k, n, B, c, l, rfl, hr⟩ := open_point h2
      have hcell := (World.cells?_some h1).2.2
      have c0 := hcell 0 (by omega)
      have c1 := hcell 1 (by omega)
      have c2 := hcell 2 (by omega)
      rw [show (a.add (i * 3)).add 0 = a.add (i * 3) by rw [add_add]; rfl] at c0
      exact ⟨l, k, n, B, c, c0, c1, c2, hr⟩)
    refine ⟨some a, cap, (List.range len).map Z, by rw [h0]; simp, fun i hi => ?_, by simp; omega⟩
    have hi' : i < len := by simpa using hi
    obtain ⟨k, n, B, c, c0, c1, c2, hr⟩ := hZ i hi'
    have hzd : ((List.range len).map Z).getD i [] = Z i := by simp [List.getD_eq_getElem?_getD, List.getElem?_range hi']
    have hs : a.spot = none := by
      obtain ⟨_, _, _, _, d0, _⟩ := hZ 0 (by omega)
      have := spot_none d0
      unfold Addr.add at this; simpa using this
    rw [add_add] at c1 c2
    rw [add_at hs] at c0 c1 c2
    refine ⟨a.block, a.off, k, n, B, c, ?_, c0, ?_, ?_, ?_⟩
    · cases a; simp at hs; simp [hs]
    · rw [Nat.add_assoc]; exact c1
    · rw [Nat.add_assoc, hzd]; exact c2
    · rw [hzd]; exact hr
def bytes (L : List Int) : List Value := L.map (Value.int .u8)
theorem open_bytes_arg {v : Value} {d : DataW H} {p : List MemPlace} (hv : Value.okWide Try.prog W .any base 38 v) (h : DataW.Trod enc Try.prog W 0 (fun _ => true) true 38 v d p) :
    ∃ A c, ∃ L : List Int, v = .slice A L.length c ∧ Row W A (bytes L) ∧ L.length ≤ maxLen ∧ ∀ n ∈ L, 0 ≤ n ∧ n < 256 := by
  obtain ⟨A, l, c, rfl⟩ := okWide_slice Try.underlying38 hv
  obtain ⟨fuel, hf⟩ := h
  rcases open_slice1 Try.underlying38 cells5' hf with ⟨h0, _⟩ | ⟨a, len, cap, m, n, V, D, Pl, h0, _, hl, hm, hmm, _, hx⟩
  · injection h0 with h0 _
    exact ⟨none, 0, [], h0, Row.nil, by simp, by simp⟩
  injection h0 with h0 _
  have hlm : len ≤ m := by rw [hmm]; split <;> omega
  obtain ⟨Z, hZ⟩ := choose_lt (α := Int) (p := fun i z => V i = .int .u8 z ∧ 0 ≤ z ∧ z < 256) (n := len) (fun i hi => by
    obtain ⟨z, h1, _, hwf⟩ := DataW.trod_int Try.underlying5 (hx i (by omega)).2
    injection h1 with h1 _
    have h1' : IntKind.min .u8 = 0 := by decide
    have h2' : IntKind.max .u8 = 255 := by decide
    simp [Lit.wf, h1', h2'] at hwf
    exact ⟨z, h1, by omega, by omega⟩)
  refine ⟨some a, cap, (List.range len).map Z, by rw [h0]; simp, Row.of_cells fun j hj => ?_, (by simp; omega), ?_⟩
  · have hj' : j < len := by simpa [bytes] using hj
    rw [(hx j (by omega)).1, (hZ j hj').1]
    simp [bytes, List.getD_eq_getElem?_getD, hj']
  · intro z hz
    simp only [List.mem_map, List.mem_range] at hz
    obtain ⟨j, hj, rfl⟩ := hz
    exact (hZ j hj).2
/-- an argument reads as it did -/
theorem reads {t : TypeId} (hr : Try.prog.readableRec t = true) (ht : t < Try.prog.types.size) {W' : World} {v : Value} {d : DataW H} {p before : List MemPlace} (h : DataW.Trod enc Try.prog W 0 (fun _ => true) true t v d p)
    (hb : Below W.heap.size W W') (hlt : ∀ x ∈ before, x.block < W.heap.size) (hp : ∀ x ∈ p, x ∈ before) : DataW.Trod enc Try.prog W' 0 (fun b => decide (b < W.heap.size)) true t v d p :=
  Below.trod laid0 hr ht h hb (fun x hx => hlt x (hp x hx))
end
end Go.Proofs.Ytjddegfigdpcbaa
