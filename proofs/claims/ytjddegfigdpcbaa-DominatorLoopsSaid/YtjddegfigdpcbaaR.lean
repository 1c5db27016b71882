/- Regions that draw their order, in which a load's cell is stored later: an operation may be taken first where whatever may come ahead of it leaves its value. No condition. -/
import Derived.Test.YtjddegfigdpcbaaA
import Derived.OrdersHeld
import Derived.StillTail
import Derived.Deep.RegionHeld3
namespace Go.Proofs.Ytjddegfigdpcbaa

section
variable {P : Program} {ops : Array Oper} {Q : Exit → Act → World → Prop} {md : Region.Mode} {S : Nat → Option (World → Prop)}

/-- What is asked behind operation j: none: that it leaves the world alone; some F: that the world behind it meets F. -/
def Obl (o : Option (World → Prop)) (w w' : World) : Prop := match o with | none => w' = w | some F => F w'

/-- Whatever order is picked from here on; behind operation j what S j asks. -/
def wpAnyJ (P : Program) (md : Region.Mode) (ops : Array Oper) (Q : Exit → Act → World → Prop) (S : Nat → Option (World → Prop)) : Nat → Array Bool → Act → World → Prop
  | 0, listed, a, w => Region.ready md ops listed = [] ∧ Q .normal a w
  | fuel + 1, listed, a, w =>
    (Region.ready md ops listed = [] → Q .normal a w) ∧
    ∀ i ∈ Region.ready md ops listed, wpOp P ops Q i (fun a' w' => Obl (S i) w w' ∧ wpAnyJ P md ops Q S fuel (listed.setIfInBounds i true) a' w') a w

theorem wpAny_of_J : ∀ (fuel : Nat) (listed : Array Bool) (a : Act) (w : World), wpAnyJ P md ops Q S fuel listed a w → wpAny P md ops Q fuel listed a w
  | 0, _, _, _, h => h
  | fuel + 1, _, _, _, h => ⟨h.1, fun i hi => wpOp_mono (fun a' w' h' => wpAny_of_J fuel _ a' w' h'.2) (h.2 i hi)⟩

/-- What has been listed is closed under what it waits for. -/
def ClosedL (md : Region.Mode) (ops : Array Oper) (listed : Array Bool) : Prop :=
  listed.size = ops.size ∧ ∀ j oj, ops[j]? = some oj → listed.getD j false = true → ∀ e ∈ oj.after, Region.binds md e = true → listed.getD e.on false = true
theorem ClosedL.set {listed : Array Bool} {i : Nat} (h : ClosedL md ops listed) (hi : i ∈ Region.ready md ops listed) : ClosedL md ops (listed.setIfInBounds i true) := by
  obtain ⟨_, oi, hoi, hall⟩ := mem_ready.1 hi
  refine ⟨by simp [h.1], fun j oj hj hl e he hb => ?_⟩
  by_cases hij : i = j
  · subst hij
    have : oj = oi := Option.some.inj (hj.symm.trans hoi)
    subst this
    exact getD_set_true (hall e he hb)
  · rw [getD_set_ne false hij] at hl
    exact getD_set_true (h.2 j oj hj hl e he hb)
/-- j waits for i, by way of others or not. -/
inductive Dep (md : Region.Mode) (ops : Array Oper) (i : Nat) : Nat → Prop
  | direct {j : Nat} : Region.waitsFor md ops j i = true → Dep md ops i j
  | step {j k : Nat} : Region.waitsFor md ops j k = true → Dep md ops i k → Dep md ops i j
theorem Dep.listed {i : Nat} {listed : Array Bool} (hc : ClosedL md ops listed) : ∀ {j : Nat}, Dep md ops i j → listed.getD j false = true → listed.getD i false = true := by
  intro j h
  induction h with
  | direct h =>
    intro hl
    obtain ⟨oj, hoj, e, he, hb, hon⟩ := Region.waitsFor_spec h
    rw [← hon]; exact hc.2 _ oj hoj hl e he hb
  | step h _ ih =>
    intro hl
    obtain ⟨oj, hoj, e, he, hb, hon⟩ := Region.waitsFor_spec h
    exact ih (by rw [← hon]; exact hc.2 _ oj hoj hl e he hb)
theorem Dep.ready {i j : Nat} {listed : Array Bool} (hc : ClosedL md ops listed) (h : Dep md ops i j) (hj : j ∈ Region.ready md ops listed) : listed.getD i false = true := by
  obtain ⟨_, oj, hoj, hall⟩ := mem_ready.1 hj
  cases h with
  | direct h =>
    obtain ⟨oj', hoj', e, he, hb, hon⟩ := Region.waitsFor_spec h
    rw [hoj] at hoj'; cases hoj'
    rw [← hon]; exact hall e he hb
  | step h k =>
    obtain ⟨oj', hoj', e, he, hb, hon⟩ := Region.waitsFor_spec h
    rw [hoj] at hoj'; cases hoj'
    exact k.listed hc (by rw [← hon]; exact hall e he hb)
def depsOf (md : Region.Mode) (ops : Array Oper) (i : Nat) : List Nat :=
  (List.range ops.size).foldl (fun acc j => if Region.waitsFor md ops j i || acc.any (fun k => Region.waitsFor md ops j k) then j :: acc else acc) []
theorem depsOf_sound {i j : Nat} (h : j ∈ depsOf md ops i) : Dep md ops i j := by
  have key : ∀ (l : List Nat) (acc : List Nat), (∀ k ∈ acc, Dep md ops i k) → ∀ k ∈ l.foldl (fun acc j => if Region.waitsFor md ops j i || acc.any (fun k => Region.waitsFor md ops j k) then j :: acc else acc) acc, Dep md ops i k := by
    intro l
    induction l with
    | nil => intro acc h; exact h
    | cons a l ih =>
      intro acc h
      rw [List.foldl_cons]
      refine ih _ ?_
      split
      · rename_i hc
        intro k hk
        rcases List.mem_cons.1 hk with rfl | hk
        · rcases Bool.or_eq_true_iff.1 hc with h1 | h1
          · exact .direct h1
          · obtain ⟨m, hm, h2⟩ := List.any_eq_true.1 h1
            exact .step h2 (h m hm)
        · exact h k hk
      · exact h
  exact key _ [] (fun k hk => by cases hk) j h

theorem wpAnyJ_first {i : Nat} {oi : Oper} {v : Value} {T : World → Prop} (hi : ops[i]? = some oi) (hsel : ∀ (j : Nat) (o : Oper) cs b, ops[j]? = some o → o.op ≠ .select cs b)
    (hQ : ∀ c a w, Q (.panic c) (a.put oi.dst v) w → Q (.panic c) a w) (hJ : ∀ j, j < ops.size → j ≠ i → ¬ Dep md ops i j → ∀ F, S j = some F → ∀ w, F w → T w) (hTi : S i = none) :
    ∀ (fuel : Nat) (listed : Array Bool) (a : Act) (w : World), ClosedL md ops listed →
      (∀ j oj, ops[j]? = some oj → j ≠ i → listed.getD j true = false → (∀ e ∈ oj.after, Region.binds md e = true → e.on ≠ i) → oi.apart ops oj = true) →
      i ∈ Region.ready md ops listed → YieldsIf P ops T oi v a → T w →
      wpAnyJ P md ops Q S fuel (listed.setIfInBounds i true) (a.put oi.dst v) w → wpAnyJ P md ops Q S (fuel + 1) listed a w := by
  intro fuel
  induction fuel with
  | zero =>
    intro listed a w _ _ hr hy hT H
    refine ⟨fun h => (by rw [h] at hr; cases hr), fun j hj => ?_⟩
    by_cases hji : j = i
    · subst hji; exact hy.wpOp hi hT ⟨by rw [hTi]; rfl, H⟩
    · have := ready_mono hj hji
      rw [H.1] at this
      cases this
  | succ fuel ih =>
    intro listed a w hcl hfree hr hy hT H
    refine ⟨fun h => (by rw [h] at hr; cases hr), fun j hj => ?_⟩
    by_cases hji : j = i
    · subst hji; exact hy.wpOp hi hT ⟨by rw [hTi]; rfl, H⟩
    · have h1 := H.2 j (ready_mono hj hji)
      obtain ⟨hjun, oj, hoj, hall⟩ := mem_ready.1 hj
      have hunl : listed.getD i false = false := getD_both (mem_ready.1 hr).1
      have hnot : ∀ e ∈ oj.after, Region.binds md e = true → e.on ≠ i := fun e he hb heq => by
        have h1 := hall e he hb
        rw [heq, hunl] at h1; cases h1
      have hwf : ¬ Dep md ops i j := fun hd => by have := hd.ready hcl hj; rw [hunl] at this; cases this
      have h2 := wpOp_putIf (S := T) hoj (hfree j oj hoj hji hjun hnot) (fun cs b => hsel i oi cs b hi) (fun cs b => hsel j oj cs b hoj) hQ hy h1
      have hfree' : ∀ k ok, ops[k]? = some ok → k ≠ i → (listed.setIfInBounds j true).getD k true = false →
          (∀ e ∈ ok.after, Region.binds md e = true → e.on ≠ i) → oi.apart ops ok = true := fun k ok hk hki hun hno => by
        refine hfree k ok hk hki ?_ hno
        by_cases hjk : j = k
        · subst hjk; exact hjun
        · rw [getD_set_ne true hjk] at hun; exact hun
      refine wpOp_mono (fun a' w' h3 => ⟨h3.2.1, ih (listed.setIfInBounds j true) a' w' (hcl.set hj) hfree' (ready_mono hr (Ne.symm hji)) h3.1 ?hT' ?_⟩) h2
      case hT' =>
        have ho := h3.2.1
        cases hS : S j with
        | none => rw [hS] at ho; rw [show w' = w from ho]; exact hT
        | some F => rw [hS] at ho; exact hJ j (Array.getElem?_eq_some_iff.1 hoj).1 hji hwf F hS w' ho
      rw [Array.setIfInBounds_comm _ _ hji]
      exact h3.2.2

/-- Which operations that may change the world may come ahead of number i. -/
def aheadOf (md : Region.Mode) (ops : Array Oper) (S : Nat → Option (World → Prop)) (i : Nat) : List Nat := (List.range ops.size).filter fun j => (S j).isSome && j != i && !(depsOf md ops i).contains j
def Leads (S : Nat → Option (World → Prop)) (T : World → Prop) (js : List Nat) : Prop := ∀ j ∈ js, ∀ F, S j = some F → ∀ w, F w → T w
theorem Leads.nil {T : World → Prop} : Leads S T [] := fun j hj => by cases hj
theorem Leads.cons {T : World → Prop} {j : Nat} {js : List Nat} (F : World → Prop) (hS : S j = some F) (h : ∀ w, F w → T w) (hr : Leads S T js) : Leads S T (j :: js) := fun k hk F' hF w hw => by
  rcases List.mem_cons.1 hk with rfl | hk
  · rw [hS] at hF; cases hF; exact h w hw
  · exact hr k hk F' hF w hw
theorem Leads.true {js : List Nat} : Leads S (fun _ => True) js := fun _ _ _ _ _ _ => trivial

/-- The walk's goal: what has been listed is closed; the rest in whatever order. -/
def anyJ (P : Program) (ops : Array Oper) (Q : Exit → Act → World → Prop) (S : Nat → Option (World → Prop)) (fuel : Nat) (listed : Array Bool) (a : Act) (w : World) : Prop :=
  ClosedL .any ops listed → wpAnyJ P .any ops Q S fuel listed a w

theorem anyJ_take {i : Nat} {oi : Oper} {v : Value} {T : World → Prop} (d : Option Tmp) {fuel : Nat} {listed : Array Bool} {a : Act} {w : World} (hi : ops[i]? = some oi) (hd : oi.dst = d)
    (hs : Region.noSelect ops = true) (hf : Region.free .any ops listed i = true) (hr : (Region.ready .any ops listed).contains i = true)
    (hQ : ∀ c a w, Q (.panic c) (a.put d v) w → Q (.panic c) a w) {js : List Nat} (hjs : aheadOf .any ops S i = js) (hJ : Leads S T js) (hTi : S i = none) (hy : YieldsIf P ops T oi v a) (hT : T w)
    (h : anyJ P ops Q S fuel (listed.setIfInBounds i true) (a.put d v) w) : anyJ P ops Q S (fuel + 1) listed a w := fun hcl => by
  subst hd
  have hri : i ∈ Region.ready .any ops listed := by simpa using hr
  refine wpAnyJ_first hi (Region.noSelect_spec hs) hQ (fun j hlt hji hwf F hSj w' hF => hJ j ?_ F hSj w' hF) hTi fuel listed a w hcl (Region.free_spec hi hf) hri hy hT (h (hcl.set hri))
  rw [← hjs]
  refine List.mem_filter.2 ⟨List.mem_range.2 hlt, ?_⟩
  have hSome : (S j).isSome = true := by rw [hSj]; rfl
  have : ¬ (depsOf .any ops i).contains j = true := fun hc => hwf (depsOf_sound (by simpa using hc))
  simp [hji, hSome]
  simpa using this

/-- The only operation that may come up now. -/
theorem anyJ_one {i : Nat} {oi : Oper} {fuel : Nat} {listed : Array Bool} {a : Act} {w : World} (hi : ops[i]? = some oi) (hr : Region.ready .any ops listed = [i]) (hg : Region.wanted oi (yielded ops a.tmps) = true)
    (h : ∀ K : Act → World → Prop, Shut (∀ a w', Obl (S i) w w' → anyJ P ops Q S fuel (listed.setIfInBounds i true) a w' → K a w') → Oper.wp P oi a w K Q) : anyJ P ops Q S (fuel + 1) listed a w := fun hcl => by
  have hmem : i ∈ Region.ready .any ops listed := by rw [hr]; exact List.mem_singleton.2 rfl
  refine ⟨fun h0 => (by rw [h0] at hr; cases hr), fun j hj => ?_⟩
  rw [hr] at hj
  obtain rfl := List.mem_singleton.1 hj
  unfold wpOp
  simp only [hi]
  rw [if_pos hg]
  exact .inl (h _ (fun a' w' hS hA => ⟨hS, hA (hcl.set hmem)⟩))
theorem anyJ_two {i j : Nat} {oi oj : Oper} {fuel : Nat} {listed : Array Bool} {a : Act} {w : World} (hi : ops[i]? = some oi) (hj : ops[j]? = some oj) (hr : Region.ready .any ops listed = [i, j])
    (hgi : Region.wanted oi (yielded ops a.tmps) = true) (hgj : Region.wanted oj (yielded ops a.tmps) = true)
    (h1 : ∀ K : Act → World → Prop, Shut (∀ a w', Obl (S i) w w' → anyJ P ops Q S fuel (listed.setIfInBounds i true) a w' → K a w') → Oper.wp P oi a w K Q)
    (h2 : ∀ K : Act → World → Prop, Shut (∀ a w', Obl (S j) w w' → anyJ P ops Q S fuel (listed.setIfInBounds j true) a w' → K a w') → Oper.wp P oj a w K Q) : anyJ P ops Q S (fuel + 1) listed a w := fun hcl => by
  have hmi : i ∈ Region.ready .any ops listed := by rw [hr]; simp
  have hmj : j ∈ Region.ready .any ops listed := by rw [hr]; simp
  refine ⟨fun h0 => (by rw [h0] at hr; cases hr), fun k hk => ?_⟩
  rw [hr] at hk
  rcases List.mem_cons.1 hk with rfl | hk
  · unfold wpOp
    simp only [hi]
    rw [if_pos hgi]
    exact .inl (h1 _ (fun a' w' hS hA => ⟨hS, hA (hcl.set hmi)⟩))
  · obtain rfl := List.mem_singleton.1 hk
    unfold wpOp
    simp only [hj]
    rw [if_pos hgj]
    exact .inl (h2 _ (fun a' w' hS hA => ⟨hS, hA (hcl.set hmj)⟩))
theorem anyJ_done {listed : Array Bool} {a : Act} {w : World} {fuel : Nat} (hr : Region.ready .any ops listed = []) (h : Q .normal a w) : anyJ P ops Q S fuel listed a w := fun _ => by
  cases fuel with
  | zero => exact ⟨hr, h⟩
  | succ n => exact ⟨fun _ => h, by rw [hr]; simp⟩
theorem wp_region_J {id : Nat} {a : Act} {w : World} (S : Nat → Option (World → Prop)) (hm : P.follows .mixedOrders = true)
    (h : anyJ P ops Q S ops.size (Array.replicate ops.size false) a w.drew) : (Code.region id ops true).wp P Q a w := by
  refine wp_region_any hm (wpAny_of_J (S := S) _ _ _ _ (h ⟨by simp, fun j oj _ hl => ?_⟩))
  rw [getD_replicate_false] at hl; cases hl
/-- append at one operation -/
theorem wp_append_at {o : Oper} {a : Act} {w : World} {K : Act → World → Prop} (s x : Operand) (t : TypeId)
    (ho : o.op = .call { callee := .builtin .append, args := #[s, x], argTypes := #[t, t] })
    (base : Nat) (e : TypeId) (i : TypeInfo) (z : Value) (size bytes : Nat) (ht : P.underlying t = some (.slice e)) (hi : P.info? e = some i) (hz : i.zero = some z)
    (hsize : i.size = size) (hby : i.bytes = bytes) (hzs : z.cells.size = size) (hsz : 0 < size)
    (v : Value) (n : Nat) (xs : List Value) (hs : a.eval s = v) (hown : w.ownsRow base e size v n xs)
    (ad : Addr) (m c : Nat) (news : List Value) (hx : a.eval x = .slice (some ad) m c) (hl : news.length = m * size) (hnews : ∀ j u, news[j]? = some u → w.cell? (ad.add j) = some u) (h1 : ∀ u ∈ news, u.oneCell' = true)
    (h63 : n + m ≤ maxLen) (hbytes : (n + m) * bytes ≤ 140737488355328) (hbase : base ≤ w.heap.size)
    (h : ∀ v' w', w'.ownsRow base e size v' (n + m) (xs ++ news) → w.grownBy w' v.ownBlock → (v'.ownBlock = v.ownBlock ∨ v'.ownBlock = some w.heap.size) → K (a.put o.dst v') w') :
    Oper.wp P o a w K Q := by
  obtain ⟨v', w', hr, h2, h3, h4, h5⟩ := run_append_own_at (P := P) w base t o.type e i z size bytes ht hi hz hsize hby hzs hsz v n xs hown ad m c news hl hnews h1 h63 hbytes hbase
  unfold Oper.wp execOp
  simp only [ho, resolve, invoke, builtin, Sem.run_bind, Sem.run_pure, Result.andThen_ok, List.map_toArray, List.map_cons, List.map_nil, hs, hx, hr]
  exact h v' w' h2 h3 h5
theorem wp_append_none {o : Oper} {a : Act} {w : World} {K : Act → World → Prop} (s x : Operand) (t : TypeId)
    (ho : o.op = .call { callee := .builtin .append, args := #[s, x], argTypes := #[t, t] })
    (base : Nat) (e : TypeId) (i : TypeInfo) (size : Nat) (ht : P.underlying t = some (.slice e)) (hi : P.info? e = some i) (v : Value) (n : Nat) (xs : List Value) (hs : a.eval s = v) (hown : w.ownsRow base e size v n xs)
    (hx : a.eval x = .slice none 0 0) (h : K (a.put o.dst v) w) : Oper.wp P o a w K Q := by
  have hr := run_append_owned_none (P := P) w base t o.type e i size ht hi v n xs hown
  unfold Oper.wp execOp
  simp only [ho, resolve, invoke, builtin, Sem.run_bind, Sem.run_pure, Result.andThen_ok, List.map_toArray, List.map_cons, List.map_nil, hs, hx, hr]
  exact h
end
end Go.Proofs.Ytjddegfigdpcbaa
