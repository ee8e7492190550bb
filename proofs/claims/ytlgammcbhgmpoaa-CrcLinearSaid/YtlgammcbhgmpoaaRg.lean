/- A region that leaves its order open, by what each operation leaves in its slot: whatever the order, each operation is met when all that it waits for have left what is said of them. -/
import Derived.Orders
import Derived.OrdersHeld
import Derived.WalkKit
namespace Go.Proofs.Ytlgammcbhgmpoaa
open Go
section
variable {P : Program} {ops : Array Oper} {Q : Exit → Act → World → Prop}

/-- What operation o, number j, leaves: a world that has grown, its slot's value, of which Pr is said. -/
def Stepped (F : (Tmp → Value) → Act) (R : World → World → Prop) (Pr : Nat → Value → World → Prop) (o : Oper) (j : Nat) (u : Tmp → Value) (w : World) (a' : Act) (w' : World) : Prop :=
  R w w' ∧ ∃ v, a' = (F u).put o.dst v ∧ Pr j v w'

/-- What is known when operation o is met. -/
def Met (ops : Array Oper) (Pr : Nat → Value → World → Prop) (o : Oper) (u : Tmp → Value) (w : World) : Prop :=
  ∀ e ∈ o.after, Region.binds .any e = true → ∀ o' d, ops[e.on]? = some o' → o'.dst = some d → Pr e.on (u d) w

def RgInv (ops : Array Oper) (F : (Tmp → Value) → Act) (R : World → World → Prop) (Pr : Nat → Value → World → Prop) (w0 : World) (listed : Array Bool) (a : Act) (w : World) : Prop :=
  ∃ u, a = F u ∧ R w0 w ∧ ∀ (j : Nat) (o : Oper) (d : Tmp), ops[j]? = some o → o.dst = some d → listed.getD j true = true → Pr j (u d) w

def unl (listed : Array Bool) : Nat := (listed.toList.filter (!·)).length

theorem unl_set (listed : Array Bool) (i : Nat) (h : listed.getD i true = false) : unl (listed.setIfInBounds i true) + 1 = unl listed := by
  obtain ⟨l⟩ := listed
  simp only [unl, List.setIfInBounds_toArray]
  have h' : l[i]? = some false := by
    rw [Array.getD_eq_getD_getElem?] at h
    simp only [List.getElem?_toArray] at h
    cases hx : l[i]? with
    | none => rw [hx] at h; simp at h
    | some b => rw [hx] at h; simp at h; rw [h]
  clear h
  induction l generalizing i with
  | nil => simp at h'
  | cons b l ih =>
    cases i with
    | zero => simp at h'; subst h'; simp
    | succ i =>
      simp at h'
      have := ih i h'
      cases b <;> simp_all

theorem ready_all (listed : Array Bool) (hsz : listed.size = ops.size) (hac : ∀ (j : Nat) (o : Oper), ops[j]? = some o → ∀ e ∈ o.after, e.on < j) (hr : Region.ready .any ops listed = []) :
    ∀ j, j < ops.size → listed.getD j true = true := by
  intro j
  induction j using Nat.strongRecOn with
  | ind j ih =>
    intro hj
    cases hb : listed.getD j true with
    | true => rfl
    | false =>
      exfalso
      have : j ∈ Region.ready .any ops listed := by
        refine mem_ready.2 ⟨hb, ops[j], by simp [hj], fun e he _ => ?_⟩
        have hlt := hac j ops[j] (by simp [hj]) e he
        have := ih e.on hlt (by omega)
        have hin : e.on < listed.size := by omega
        simp [hin] at this ⊢
        exact this
      rw [hr] at this
      cases this

theorem wpAny_props (F : (Tmp → Value) → Act) (R : World → World → Prop) (Pr : Nat → Value → World → Prop) (w0 : World)
    (hRt : ∀ a b c, R a b → R b c → R a c)
    (hmono : ∀ j v w w', Pr j v w → R w w' → Pr j v w')
    (hdis : ∀ (j k : Nat) (o o' : Oper) (d : Tmp), ops[j]? = some o → ops[k]? = some o' → o.dst = some d → o'.dst = some d → j = k)
    (hac : ∀ (j : Nat) (o : Oper), ops[j]? = some o → ∀ e ∈ o.after, e.on < j)
    (hput : ∀ (j : Nat) (o : Oper) (d : Tmp), ops[j]? = some o → o.dst = some d → ∀ u v, (F u).put (some d) v = F (fun x => if x = d then v else u x))
    (hstep : ∀ (j : Nat) (o : Oper), ops[j]? = some o → ∀ u w, R w0 w → Met ops Pr o u w → wpOp P ops Q j (Stepped F R Pr o j u w) (F u) w)
    (hend : ∀ u w, R w0 w → (∀ (j : Nat) (o : Oper) (d : Tmp), ops[j]? = some o → o.dst = some d → Pr j (u d) w) → Q .normal (F u) w) :
    ∀ (fuel : Nat) (listed : Array Bool) (a : Act) (w : World), listed.size = ops.size → unl listed ≤ fuel → RgInv ops F R Pr w0 listed a w → wpAny P .any ops Q fuel listed a w := by
  intro fuel
  induction fuel with
  | zero =>
    intro listed a w hsz hu ⟨u, ha, hR, hP⟩
    have hall : ∀ j, listed.getD j true = true := by
      intro j
      cases hb : listed.getD j true with
      | true => rfl
      | false => have := unl_set listed j hb; omega
    refine ⟨?_, ?_⟩
    · cases hr : Region.ready .any ops listed with
      | nil => rfl
      | cons x xs =>
        have : x ∈ Region.ready .any ops listed := by rw [hr]; simp
        have := (mem_ready.1 this).1
        rw [hall x] at this
        cases this
    · subst ha
      exact hend u w hR fun j o d ho hd => hP j o d ho hd (hall j)
  | succ fuel ih =>
    intro listed a w hsz hu ⟨u, ha, hR, hP⟩
    subst ha
    refine ⟨fun hr => ?_, fun j hj => ?_⟩
    · have hall := ready_all listed hsz hac hr
      refine hend u w hR fun j o d ho hd => hP j o d ho hd (hall j ?_)
      exact (Array.getElem?_eq_some_iff.1 ho).1
    · obtain ⟨hun, o, ho, hall⟩ := mem_ready.1 hj
      refine wpOp_mono (fun a' w' hs => ?_) (hstep j o ho u w hR fun e he hb o' d ho' hd => hP e.on o' d ho' hd (by
        have := hall e he hb
        have hlt := hac j o ho e he
        have hjs := (Array.getElem?_eq_some_iff.1 ho).1
        have hin : e.on < listed.size := by omega
        simp [hin] at this ⊢
        exact this))
      obtain ⟨hR', v, ha', hv⟩ := hs
      refine ih _ _ _ (by simpa using hsz) (by have := unl_set listed j hun; omega) ?_
      cases hd : o.dst with
      | none =>
        rw [hd] at ha'
        refine ⟨u, ha', hRt _ _ _ hR hR', fun k ok d hok hdk hl => ?_⟩
        by_cases hkj : j = k
        · subst hkj; rw [ho] at hok; cases hok; rw [hd] at hdk; cases hdk
        · exact hmono k _ _ _ (hP k ok d hok hdk (by rwa [getD_set_ne true hkj] at hl)) hR'
      | some d0 =>
        rw [hd] at ha'
        refine ⟨fun x => if x = d0 then v else u x, by rw [ha', hput j o d0 ho hd], hRt _ _ _ hR hR', fun k ok d hok hdk hl => ?_⟩
        by_cases hkj : j = k
        · subst hkj; rw [ho] at hok; cases hok; rw [hd] at hdk; cases hdk; simpa using hv
        · have hne : d ≠ d0 := by
            intro e; subst e
            exact hkj (hdis j k o ok d ho hok hd hdk)
          simp only [if_neg hne]
          exact hmono k _ _ _ (hP k ok d hok hdk (by rwa [getD_set_ne true hkj] at hl)) hR'

/-- the closed conditions on a region as one test -/
def rgOk (ops : Array Oper) : Bool :=
  (List.range ops.size).all fun j => match ops[j]? with
    | none => true
    | some o => o.after.all (fun e => decide (e.on < j)) &&
      match o.dst with
      | none => true
      | some d => (List.range j).all fun k => match ops[k]? with
        | none => true
        | some o' => o'.dst != some d
theorem rgOk_dis (h : rgOk ops = true) : ∀ (j k : Nat) (o o' : Oper) (d : Tmp), ops[j]? = some o → ops[k]? = some o' → o.dst = some d → o'.dst = some d → j = k := by
  have key : ∀ (j k : Nat) (o o' : Oper) (d : Tmp), ops[j]? = some o → ops[k]? = some o' → o.dst = some d → o'.dst = some d → ¬ k < j := by
    intro j k o o' d ho ho' hd hd' hlt
    have hj := (Array.getElem?_eq_some_iff.1 ho).1
    unfold rgOk at h
    rw [List.all_eq_true] at h
    have h1 := h j (List.mem_range.2 hj)
    simp only [ho, hd, Bool.and_eq_true, List.all_eq_true] at h1
    have h2 := h1.2 k (List.mem_range.2 hlt)
    simp [ho', hd'] at h2
  intro j k o o' d ho ho' hd hd'
  have a := key j k o o' d ho ho' hd hd'
  have b := key k j o' o d ho' ho hd' hd
  omega
theorem rgOk_ac (h : rgOk ops = true) : ∀ (j : Nat) (o : Oper), ops[j]? = some o → ∀ e ∈ o.after, e.on < j := by
  intro j o ho e he
  have hj := (Array.getElem?_eq_some_iff.1 ho).1
  unfold rgOk at h
  rw [List.all_eq_true] at h
  have h1 := h j (List.mem_range.2 hj)
  simp only [ho, Bool.and_eq_true] at h1
  have h2 := Array.all_eq_true_iff_forall_mem.1 h1.1 e he
  exact of_decide_eq_true h2

/-- THE RULE. -/
theorem wp_region_props {id : Nat} {a : Act} {w : World} (F : (Tmp → Value) → Act) (R : World → World → Prop) (Pr : Nat → Value → World → Prop) (u0 : Tmp → Value)
    (hm : P.follows .mixedOrders = true) (hok : rgOk ops = true) (ha : a = F u0)
    (hRr : ∀ a, R a a) (hRt : ∀ a b c, R a b → R b c → R a c)
    (hmono : ∀ j v w w', Pr j v w → R w w' → Pr j v w')
    (hput : ∀ (j : Nat) (o : Oper) (d : Tmp), ops[j]? = some o → o.dst = some d → ∀ u v, (F u).put (some d) v = F (fun x => if x = d then v else u x))
    (hstep : ∀ (j : Nat) (o : Oper), ops[j]? = some o → ∀ u w', R w.drew w' → Met ops Pr o u w' → wpOp P ops Q j (Stepped F R Pr o j u w') (F u) w')
    (hend : ∀ u w', R w.drew w' → (∀ (j : Nat) (o : Oper) (d : Tmp), ops[j]? = some o → o.dst = some d → Pr j (u d) w') → Q .normal (F u) w') :
    (Code.region id ops true).wp P Q a w := by
  refine wp_region_any hm ?_
  refine wpAny_props F R Pr w.drew hRt hmono (rgOk_dis hok) (rgOk_ac hok) hput hstep hend _ _ _ _ (by simp) ?_ ⟨u0, ha, hRr _, fun j o d ho _ hl => ?_⟩
  · simp only [unl, Array.toList_replicate]
    exact Nat.le_trans (List.length_filter_le _ _) (by simp)
  · have hj := (Array.getElem?_eq_some_iff.1 ho).1
    simp [hj] at hl

/-- the slots of ds filled by u -/
def fill (t : Array Value) (ds : List Tmp) (u : Tmp → Value) : Array Value := ds.foldl (fun t d => t.setIfInBounds d (u d)) t
theorem fill_size (ds : List Tmp) (u : Tmp → Value) : ∀ t : Array Value, (fill t ds u).size = t.size := by
  induction ds with
  | nil => intro t; rfl
  | cons d ds ih => intro t; show (fill (t.setIfInBounds d (u d)) ds u).size = _; rw [ih]; simp
theorem fill_at (ds : List Tmp) (u : Tmp → Value) : ∀ (t : Array Value) (i : Nat), (fill t ds u)[i]? = if i ∈ ds ∧ i < t.size then some (u i) else t[i]? := by
  induction ds with
  | nil => intro t i; simp [fill]
  | cons d ds ih =>
    intro t i
    show (fill (t.setIfInBounds d (u d)) ds u)[i]? = _
    rw [ih]
    simp only [Array.size_setIfInBounds, List.mem_cons]
    by_cases h : i ∈ ds ∧ i < t.size
    · rw [if_pos h, if_pos ⟨.inr h.1, h.2⟩]
    · rw [if_neg h, Array.getElem?_setIfInBounds]
      by_cases e : d = i
      · subst e
        by_cases hs : d < t.size
        · rw [if_pos rfl, if_pos hs, if_pos ⟨.inl rfl, hs⟩]
        · rw [if_pos rfl, if_neg hs, if_neg (fun q => hs q.2), Array.getElem?_eq_none (Nat.le_of_not_lt hs)]
      · rw [if_neg e]
        by_cases q : (i = d ∨ i ∈ ds) ∧ i < t.size
        · exact absurd ⟨q.1.resolve_left (fun x => e x.symm), q.2⟩ h
        · rw [if_neg q]
def fillA (a : Act) (ds : List Tmp) (u : Tmp → Value) : Act := { a with tmps := fill a.tmps ds u }
theorem fill_self (t : Array Value) (ds : List Tmp) : fill t ds (fun d => t.getD d undef) = t := by
  apply Array.ext_getElem?
  intro i
  rw [fill_at]
  by_cases h : i ∈ ds ∧ i < t.size
  · rw [if_pos h]; simp [Array.getD_eq_getD_getElem?, h.2]
  · rw [if_neg h]
theorem fill_put (a : Act) (ds : List Tmp) (d : Tmp) (hd : d ∈ ds) (u : Tmp → Value) (v : Value) : (fillA a ds u).put (some d) v = fillA a ds (fun x => if x = d then v else u x) := by
  simp only [fillA, Act.put]
  congr 1
  apply Array.ext_getElem?
  intro i
  rw [Array.getElem?_setIfInBounds, fill_size, fill_at, fill_at]
  by_cases e : d = i
  · subst e
    by_cases hs : d < a.tmps.size
    · rw [if_pos rfl, if_pos hs, if_pos ⟨hd, hs⟩]; simp
    · rw [if_pos rfl, if_neg hs, if_neg (fun q => hs q.2), Array.getElem?_eq_none (Nat.le_of_not_lt hs)]
  · rw [if_neg e]
    by_cases h : i ∈ ds ∧ i < a.tmps.size
    · rw [if_pos h, if_pos h, if_neg (fun q => e q.symm)]
    · rw [if_neg h, if_neg h]
def dsts (ops : Array Oper) : List Tmp := ops.toList.filterMap (·.dst)
theorem dsts_mem {ops : Array Oper} {j : Nat} {o : Oper} {d : Tmp} (h : ops[j]? = some o) (hd : o.dst = some d) : d ∈ dsts ops :=
  List.mem_filterMap.2 ⟨o, Array.mem_toList_iff.2 (Array.mem_of_getElem? h), hd⟩
/-- worlds grow: what was stands -/
def Grow (a b : World) : Prop := RowKit.Below a.heap.size a b
theorem Grow.refl (a : World) : Grow a a := RowKit.Below.refl _ _
theorem Grow.trans {a b c : World} (h : Grow a b) (k : Grow b c) : Grow a c := RowKit.Below.trans h (RowKit.Below.mono k (RowKit.Below.size h))
/-- One operation, met: its guard is as it should be. -/
theorem wpOp_at {i : Nat} {o : Oper} {K : Act → World → Prop} {a : Act} {w : World} (hi : ops[i]? = some o) (hw : Region.wanted o (yielded ops a.tmps) = true) (h : o.wp P a w K Q) : wpOp P ops Q i K a w := by
  unfold wpOp
  simp only [hi, hw, if_true]
  exact .inl h
/-- THE RULE, the slots that the region fills left open; ds: they, written out. -/
theorem wp_region_fill {id : Nat} {a : Act} {w : World} (ds : List Tmp) (Pr : Nat → Value → World → Prop)
    (hm : P.follows .mixedOrders = true) (hok : rgOk ops = true) (hds : dsts ops = ds)
    (hmono : ∀ j v w w', Pr j v w → Grow w w' → Pr j v w')
    (hstep : ∀ (j : Nat) (o : Oper), ops[j]? = some o → ∀ u w', Grow w.drew w' → Met ops Pr o u w' →
      Region.wanted o (yielded ops (fill a.tmps ds u)) = true ∧ o.wp P { a with tmps := fill a.tmps ds u } w' (Stepped (fillA a ds) Grow Pr o j u w') Q)
    (hend : ∀ u w', Grow w.drew w' → (∀ (j : Nat) (o : Oper) (d : Tmp), ops[j]? = some o → o.dst = some d → Pr j (u d) w') → Q .normal (fillA a ds u) w') :
    (Code.region id ops true).wp P Q a w := by
  subst hds
  refine wp_region_props (fillA a (dsts ops)) Grow Pr (fun d => a.tmps.getD d undef) hm hok ?_ Grow.refl (fun _ _ _ => Grow.trans) hmono ?_ (fun j o hj u w' hR hM => wpOp_at hj (hstep j o hj u w' hR hM).1 (hstep j o hj u w' hR hM).2) hend
  · simp only [fillA, fill_self]
  · intro j o d ho hd u v
    exact fill_put a _ d (dsts_mem ho hd) u v
end
end Go.Proofs.Ytlgammcbhgmpoaa
