/- A list of numbers that is taken from its front and appended to: its row lies in a block of the call's own, from an offset on. -/
import Derived.Test.YtjddegfigdpcbaaE
namespace Go.Proofs.Ytjddegfigdpcbaa
open Go.RowKit

/-- a slice of cells in an own block, from some offset on -/
def OwnQ (w : World) (base : Nat) (e : TypeId) (v : Value) (n : Nat) (xs : List Value) : Prop :=
  xs.length = n ∧ ∃ g off cap cur, v = .slice (some ⟨g, off, none⟩) n cap ∧ base ≤ g ∧ w.heap[g]? = some (.cells cur e (0, 0)) ∧ n ≤ cap ∧ off + cap ≤ cur.size ∧ ∀ j u, xs[j]? = some u → cur[off + j]? = some u
theorem OwnQ.below {w w' : World} {base n : Nat} {e : TypeId} {v : Value} {xs : List Value} (h : OwnQ w base e v n xs) (hb : Below w.heap.size w w') : OwnQ w' base e v n xs := by
  obtain ⟨hl, g, off, cap, cur, rfl, h1, h2, h3⟩ := h
  exact ⟨hl, g, off, cap, cur, rfl, h1, (hb.block _ (Array.getElem?_eq_some_iff.1 h2).1).trans h2, h3⟩
theorem OwnQ.shape {w : World} {base n : Nat} {e : TypeId} {v : Value} {xs : List Value} (h : OwnQ w base e v n xs) : ∃ g off c, v = .slice (some ⟨g, off, none⟩) n c := by
  obtain ⟨hl, g, off, cap, cur, rfl, _⟩ := h
  exact ⟨g, off, cap, rfl⟩
theorem OwnQ.row {w : World} {base n c : Nat} {e : TypeId} {A : Option Addr} {xs : List Value} (h : OwnQ w base e (.slice A n c) n xs) : Row w A xs := fun j hj => by
  obtain ⟨hl, g, off, cap, cur, hv, h1, h2, h3, h4, h5⟩ := h
  injection hv with hA _ _
  refine ⟨g, off, hA, ?_⟩
  have := h5 j _ (List.getElem?_eq_getElem hj)
  rw [List.getD_eq_getElem?_getD, List.getElem?_eq_getElem hj]
  exact cell_of_row' h2 _ _ this
theorem OwnQ.lt {w : World} {base n : Nat} {e : TypeId} {v : Value} {xs : List Value} (h : OwnQ w base e v n xs) : ∀ k, v.ownBlock = some k → base ≤ k ∧ k < w.heap.size := by
  obtain ⟨hl, g, off, cap, cur, rfl, h1, h2, h3⟩ := h
  intro k hk
  simp [Value.ownBlock] at hk
  subst hk
  exact ⟨h1, (Array.getElem?_eq_some_iff.1 h2).1⟩
theorem OwnQ.ne_blk {w : World} {base n : Nat} {e t : TypeId} {v : Value} {xs : List Value} {b : Nat} {cs : List Value} (h : OwnQ w base e v n xs) (hb : BlkAt w b t cs) (hne : t ≠ e) : some b ≠ v.ownBlock := by
  obtain ⟨hl, g, off, cap, cur, rfl, h1, h2, h3⟩ := h
  intro hk
  simp [Value.ownBlock] at hk
  subst hk
  unfold BlkAt at hb
  rw [h2] at hb
  injection hb with hb
  injection hb with _ hb _
  exact hne hb.symm
theorem OwnQ.setCell {w : World} {base n : Nat} {e : TypeId} {v : Value} {xs : List Value} {b j : Nat} {u : Value} (h : OwnQ w base e v n xs) (hne : some b ≠ v.ownBlock) : OwnQ (w.setCell ⟨b, j, none⟩ u) base e v n xs := by
  obtain ⟨hl, g, off, cap, cur, rfl, h1, h2, h3⟩ := h
  refine ⟨hl, g, off, cap, cur, rfl, h1, ?_, h3⟩
  rw [Below.heap_setCell _ _ _ _ (by simp [Value.ownBlock] at hne; exact fun e => hne e.symm)]
  exact h2
/-- taken from the front -/
theorem OwnQ.tail {w : World} {base n g off c : Nat} {e : TypeId} {x : Value} {xs : List Value} (h : OwnQ w base e (.slice (some ⟨g, off, none⟩) (n + 1) c) (n + 1) (x :: xs)) : OwnQ w base e (.slice (some ⟨g, off + 1, none⟩) n (c - 1)) n xs := by
  obtain ⟨hl, g', off', cap, cur, hv, h1, h2, h3, h4, h5⟩ := h
  cases hv
  refine ⟨by simpa using hl, g, off + 1, c - 1, cur, rfl, h1, h2, by omega, by omega, fun j u hj => ?_⟩
  rw [show off + 1 + j = off + (j + 1) by omega]
  exact h5 (j + 1) u (by simpa using hj)
theorem OwnQ.single (w : World) (base : Nat) (e : TypeId) (x : Value) (hb : base ≤ w.heap.size) : OwnQ (w.alloc (.cells #[x] e)) base e (.slice (some ⟨w.heap.size, 0, none⟩) 1 1) 1 [x] :=
  ⟨rfl, w.heap.size, 0, 1, #[x], rfl, hb, heap_alloc_new w _, Nat.le_refl _, by simp, fun j u hj => by
    match j, hj with
    | 0, hj => simpa using hj
    | j + 1, hj => simp at hj⟩
section
variable {P : Program} {Q : Exit → Act → World → Prop}
theorem run_append_q (w : World) (base : Nat) (t ty e : TypeId) (i : TypeInfo) (z : Value) (bytes : Nat) (ht : P.underlying t = some (.slice e)) (hi : P.info? e = some i) (hz : i.zero = some z)
    (hsize : i.size = 1) (hby : i.bytes = bytes) (hzs : z.cells.size = 1)
    (v : Value) (n : Nat) (xs : List Value) (hown : OwnQ w base e v n xs)
    (B : Addr) (c : Nat) (x : Value) (hnew : w.cell? B = some x) (h1 : x.oneCell' = true)
    (h63 : n + 1 ≤ maxLen) (hbytes : (n + 1) * bytes ≤ 140737488355328) (hbase : base ≤ w.heap.size) :
    ∃ v' w', (Builtin.append_ #[t, t] ty #[v, .slice (some B) 1 c]).run P w = .ok v' w' ∧ OwnQ w' base e v' (n + 1) (xs ++ [x]) ∧ w.grownBy w' v.ownBlock := by
  obtain ⟨hl, g, off, cap, cur, rfl, hb, h2, h3, h4, h5⟩ := hown
  have hlen : (xs ++ [x]).length = n + 1 := by simp [hl]
  have hnews : ∀ j u, [x][j]? = some u → w.cell? (B.add j) = some u := fun j u hj => by
    match j, hj with
    | 0, hj => simp at hj; subst hj; simpa [Addr.add] using hnew
    | j + 1, hj => simp at hj
  have hn1 : [x].length = 1 * i.size := by rw [hsize]; rfl
  have ha1 : ∀ u ∈ [x], u.oneCell' = true := fun u hu => by rw [List.mem_singleton.1 hu]; exact h1
  by_cases hroom : n + 1 ≤ cap
  · refine ⟨.slice (some ⟨g, off, none⟩) (n + 1) cap, w.setRow g (cur.toList.take (off + n) ++ [x] ++ cur.toList.drop (off + n + 1)).toArray, ?_, ⟨hlen, g, off, cap, _, rfl, hb, setRow_heap w g cur _ e _ h2, hroom, ?_, ?_⟩, ⟨rfl, rfl, rfl, by simp, fun k _ hk => setRow_other w g k _ (fun e => hk (by simp [Value.ownBlock, e]))⟩⟩
    · have hf := run_firstCells_some (P := P) w i.size 1 B 1 c [x] hn1 hnews
      have hst := run_storeCells_at P g (off + n) e [x] 0 cur w h2 (by simp; omega) ha1
      simp only [Nat.add_zero] at hst
      simp [Builtin.append_, run_underlying ht, sizeOf, typeInfo, hi, Builtin.lenOf, hroom, hsize, Addr.add_lit]
      rw [hsize] at hf
      simp only [hf, Result.andThen_ok, Sem.run_bind, Sem.run_pure]
      have e1 : ([x] : List Value).length = 1 := rfl
      rw [e1] at hst
      simp [hst]
    · simp; omega
    · intro j u hj
      have hcl : off + n < cur.toList.length := by rw [Array.length_toList]; omega
      simp only [List.getElem?_toArray]
      by_cases hjn : j < n
      · rw [List.getElem?_append_left (by rw [hl]; exact hjn)] at hj
        have := h5 j u hj
        rw [List.append_assoc, List.getElem?_append_left (by simp; omega), List.getElem?_take, if_pos (by omega)]
        simpa using this
      · have hje : j = n := by
          have := (List.getElem?_eq_some_iff.1 hj).1
          rw [hlen] at this; omega
        subst hje
        rw [List.getElem?_append_right (by omega), hl, Nat.sub_self] at hj
        rw [List.append_assoc, List.getElem?_append_right (by simp; omega)]
        have : off + j - (cur.toList.take (off + j)).length = 0 := by simp; omega
        rw [this]
        simpa using hj
  · have holds : ∀ j u, xs[j]? = some u → w.cell? ((⟨g, off, none⟩ : Addr).add j) = some u := fun j u hj => by
      rw [Addr.add_lit]
      exact cell_of_row' h2 _ _ (h5 j u hj)
    have hr := run_append_grow (P := P) w t ty e i z ht hi hz ⟨g, off, none⟩ n cap xs (by rw [hsize]; omega) holds B 1 c [x] hn1 hnews (by omega) (by simp only [maxLen] at h63; omega) (growslice_fits (by omega) (by rw [hby]; exact hbytes))
    have hge := grownCap_ge w (n + 1) cap e
    refine ⟨_, _, hr, ⟨hlen, w.heap.size, 0, _, _, rfl, hbase, heap_alloc_new w.drew _, hge, ?_, fun j u hj => ?_⟩, ⟨rfl, rfl, rfl, by simp, fun k hk _ => heap_alloc_old w.drew _ hk⟩⟩
    · simp only [Array.size_append, List.size_toArray, size_zeroCells, hzs, hl]
      simp; omega
    · have hjl := (List.getElem?_eq_some_iff.1 hj).1
      rw [Array.getElem?_append_left (by simp at hjl ⊢; omega)]
      rw [Nat.zero_add]
      simpa using hj
theorem wp_append_q {o : Oper} {a : Act} {w : World} {K : Act → World → Prop} (s x : Operand) (t : TypeId)
    (ho : o.op = .call { callee := .builtin .append, args := #[s, x], argTypes := #[t, t] })
    (base : Nat) (e : TypeId) (i : TypeInfo) (z : Value) (bytes : Nat) (ht : P.underlying t = some (.slice e)) (hi : P.info? e = some i) (hz : i.zero = some z)
    (hsize : i.size = 1) (hby : i.bytes = bytes) (hzs : z.cells.size = 1)
    (v : Value) (n : Nat) (xs : List Value) (hs : a.eval s = v) (hown : OwnQ w base e v n xs)
    (B : Addr) (c : Nat) (y : Value) (hx : a.eval x = .slice (some B) 1 c) (hnew : w.cell? B = some y) (h1 : y.oneCell' = true)
    (h63 : n + 1 ≤ maxLen) (hbytes : (n + 1) * bytes ≤ 140737488355328) (hbase : base ≤ w.heap.size)
    (h : ∀ g' off' c' w', OwnQ w' base e (.slice (some ⟨g', off', none⟩) (n + 1) c') (n + 1) (xs ++ [y]) → w.grownBy w' v.ownBlock → K (a.put o.dst (.slice (some ⟨g', off', none⟩) (n + 1) c')) w') :
    Oper.wp P o a w K Q := by
  obtain ⟨v', w', hr, h2, h3⟩ := run_append_q (P := P) w base t o.type e i z bytes ht hi hz hsize hby hzs v n xs hown B c y hnew h1 h63 hbytes hbase
  obtain ⟨g', off', c', rfl⟩ := h2.shape
  unfold Oper.wp execOp
  simp only [ho, resolve, invoke, builtin, Sem.run_bind, Sem.run_pure, Result.andThen_ok, List.map_toArray, List.map_cons, List.map_nil, hs, hx, hr]
  exact h g' off' c' w' h2 h3
theorem wpList_append_q {ops : Array Oper} {rest : List Oper} {o : Oper} {a : Act} {w : World} (hgd : o.guard = none) (s x : Operand) (t : TypeId)
    (ho : o.op = .call { callee := .builtin .append, args := #[s, x], argTypes := #[t, t] })
    (base : Nat) (e : TypeId) (i : TypeInfo) (z : Value) (bytes : Nat) (ht : P.underlying t = some (.slice e)) (hi : P.info? e = some i) (hz : i.zero = some z)
    (hsize : i.size = 1) (hby : i.bytes = bytes) (hzs : z.cells.size = 1)
    (v : Value) (n : Nat) (xs : List Value) (hs : a.eval s = v) (hown : OwnQ w base e v n xs)
    (B : Addr) (c : Nat) (y : Value) (hx : a.eval x = .slice (some B) 1 c) (hnew : w.cell? B = some y) (h1 : y.oneCell' = true)
    (h63 : n + 1 ≤ maxLen) (hbytes : (n + 1) * bytes ≤ 140737488355328) (hbase : base ≤ w.heap.size)
    (h : ∀ g' off' c' w', OwnQ w' base e (.slice (some ⟨g', off', none⟩) (n + 1) c') (n + 1) (xs ++ [y]) → w.grownBy w' v.ownBlock → wpList P ops Q rest (a.put o.dst (.slice (some ⟨g', off', none⟩) (n + 1) c')) w') :
    wpList P ops Q (o :: rest) a w :=
  wpList_plain hgd fun K hK => wp_append_q s x t ho base e i z bytes ht hi hz hsize hby hzs v n xs hs hown B c y hx hnew h1 h63 hbytes hbase fun g' off' c' w' h2 h3 => hK _ _ (h g' off' c' w' h2 h3)
end
end Go.Proofs.Ytjddegfigdpcbaa
