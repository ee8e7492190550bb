/- How any two numbers stand is the reference's. -/
import Derived.Test.YtbgigckmehgcpaaDoorNumB
import Derived.Test.YtbgigckmehgcpaaDoorPrx11
namespace Go.Proofs.YtbgigckmehgcpaaDoor
open Go.RowKit Go.Proofs.YtbgigckmehgcpaaDoorW.PrintWords Pr
theorem bt_eq (s : List UInt8) (i : Nat) (h : i < s.length) (c : UInt8) : (bt (ofL s) (i : Int) = (c.toNat : Int)) ↔ s[i] = c := by
  rw [bt_ofL s i h]; exact head_byte _ _
theorem right_l0 (d : Bool) (D : List UInt8) (e : Int) (hD : D.length ≤ 1000000000000000000) (h0 : D ≠ []) (n : Nat) : ∀ i, i + n = D.length → (D.take i).all NumP.isD = true →
    Ev (fun k => rubricatorref14_Right.l0 k (i : Int) d (ofL D) e) (NumP.right (d, D, e)) := by
  have hpos : 0 < D.length := by cases D with | nil => exact absurd rfl h0 | cons _ _ => simp
  induction n with
  | zero =>
    intro i hi ha
    have : i = D.length := by omega
    subst this
    rw [List.take_of_length_le (Nat.le_refl _)] at ha
    refine Ev.step (f := fun _ => some (NumP.right (d, D, e))) (fun k => ?_) (Ev.now _)
    simp only [rubricatorref14_Right.l0]
    have hw : wrap64 ((D.length : Int) - 1) = ((D.length - 1 : Nat) : Int) := by unfold wrap64; omega
    rw [ofL_size, if_neg (by omega), hw]
    have hb0 := bt_eq D 0 hpos 48
    have hb1 := bt_eq D (D.length - 1) (by omega) 48
    change (bt (ofL D) 0 = 48) ↔ _ at hb0
    change (bt (ofL D) ((D.length - 1 : Nat) : Int) = 48) ↔ _ at hb1
    have q0 : D.head? = some D[0] := by cases D with | nil => exact absurd rfl h0 | cons _ _ => rfl
    have q1 : D.getLast? = some (D[D.length - 1]'(by omega)) := by rw [List.getLast?_eq_getElem?]; exact List.getElem?_eq_getElem _
    unfold NumP.right
    rw [if_neg h0]
    simp only [ha, q0, q1, Bool.true_and]
    by_cases e2 : (D.length : Int) ≤ 40
    · rw [if_pos e2, if_pos (by omega)]
      have e2' : decide (D.length ≤ 40) = true := by rw [decide_eq_true_eq]; omega
      by_cases e0 : D[0] = 48
      · rw [if_pos (hb0.2 e0)]; simp [e0]
      · rw [if_neg (fun z => e0 (hb0.1 z)), if_pos (by omega), if_pos (by omega)]
        by_cases e1 : D[D.length - 1]'(by omega) = 48
        · rw [if_pos (hb1.2 e1)]; simp [e1]
        · rw [if_neg (fun z => e1 (hb1.1 z))]
          have f0 : (some D[0] != some 48) = true := by simp [e0]
          have f1 : (some (D[D.length - 1]'(by omega)) != some 48) = true := by simp [e1]
          rw [e2', f0, f1]
          by_cases e3 : e > -1000
          · rw [if_pos e3]
            have : decide (-999 ≤ e) = true := by rw [decide_eq_true_eq]; omega
            rw [this]; congr 1
            simp only [Bool.true_and]
            rw [decide_eq_decide]; omega
          · rw [if_neg e3]
            have : decide (-999 ≤ e) = false := by rw [decide_eq_false_iff_not]; omega
            rw [this]; rfl
    · rw [if_neg e2]
      have e2' : decide (D.length ≤ 40) = false := by rw [decide_eq_false_iff_not]; omega
      rw [e2']; simp
  | succ n ih =>
    intro i hi ha
    have hl : i < D.length := by omega
    have hdH : dH (D.drop i) = NumP.isD D[i] := by rw [at_drop D i hl]; rfl
    cases hd : NumP.isD D[i] with
    | true =>
      refine Ev.step (fun k => ?_) (ih (i + 1) (by omega) (by rw [List.take_succ_eq_append_getElem hl, List.all_append, ha]; simp [hd]))
      simp only [rubricatorref14_Right.l0]
      rw [ofL_size, if_pos (by omega), dig_f, hdH, hd]
      simp only [Option.bind_some, if_true]
      rw [w1 i D.length (by omega) hD]
    | false =>
      refine Ev.step (f := fun _ => some (NumP.right (d, D, e))) (fun k => ?_) (Ev.now _)
      simp only [rubricatorref14_Right.l0]
      rw [ofL_size, if_pos (by omega), dig_f, hdH, hd]
      simp only [Option.bind_some, Bool.false_eq_true, if_false]
      congr 1
      unfold NumP.right
      rw [if_neg h0]
      have : D.all NumP.isD = false := by
        rw [List.all_eq_false]; exact ⟨D[i], List.getElem_mem _, by simp [hd]⟩
      simp [this]
theorem right_ev (d : Bool) (D : List UInt8) (e : Int) (hD : D.length ≤ 1000000000000000000) : Ev (fun k => rubricatorref14_Right.f k d (ofL D) e) (NumP.right (d, D, e)) := by
  by_cases h0 : D = []
  · subst h0
    refine Ev.congr (fun k => ?_) (Ev.now _)
    unfold rubricatorref14_Right.f NumP.right
    rw [if_pos (ofL_toList []), if_pos rfl]
    cases d <;> simp
  · refine Ev.congr (fun k => ?_) (right_l0 d D e hD h0 D.length 0 (by omega) (by simp))
    unfold rubricatorref14_Right.f
    rw [if_neg (by rw [ofL_toList]; exact h0)]; rfl
theorem cmpI_vals (a b : Int) : (a < b ∧ cmpI a b = -1) ∨ (a = b ∧ cmpI a b = 0) ∨ (a > b ∧ cmpI a b = 1) := by unfold cmpI; (repeat' split) <;> omega
theorem cmpB_anti : ∀ a b : List UInt8, Lib.compareBytes a b = - Lib.compareBytes b a
  | [], [] => rfl
  | [], _ :: _ => rfl
  | _ :: _, [] => rfl
  | x :: a, y :: b => by
    simp only [Lib.compareBytes]
    by_cases h : x < y
    · have h2 : ¬ y < x := by rw [UInt8.lt_iff_toNat_lt] at *; omega
      simp [h, h2]
    · by_cases h2 : y < x
      · simp [h, h2]
      · simp only [h, h2, if_false]; exact cmpB_anti a b
theorem side_vals (a : NumP.NumV) : (sideP a = 0 ∧ a.2.1 = []) ∨ (sideP a = -1 ∧ a.2.1 ≠ [] ∧ a.1 = true) ∨ (sideP a = 1 ∧ a.2.1 ≠ [] ∧ a.1 = false) := by
  unfold sideP
  by_cases h : a.2.1 = []
  · left; exact ⟨if_pos h, h⟩
  · right; rw [if_neg h]
    cases a.1 with
    | true => left; exact ⟨rfl, h, rfl⟩
    | false => right; exact ⟨rfl, h, rfl⟩
/-- how two stand, by their sides -/
theorem cmpP_cases (a b : NumP.NumV) : cmpP a b = if sideP a < sideP b then -1 else if sideP a > sideP b then 1 else sideP a * cmpA a b := by
  unfold cmpP
  rcases cmpI_vals (sideP a) (sideP b) with ⟨p, q⟩ | ⟨p, q⟩ | ⟨p, q⟩
  · rw [q, if_pos (.inl (by omega)), if_pos p]
  · rw [q]
    by_cases h : sideP a = 0
    · rw [if_pos (.inr h), if_neg (by omega), if_neg (by omega), h]; omega
    · rw [if_neg (by rintro (z | z); exact z rfl; exact h z), if_neg (by omega), if_neg (by omega)]
  · rw [q, if_pos (.inl (by omega)), if_neg (by omega), if_pos p]
/-! noughts, and what is greater -/
theorem noughts_ev (n : Nat) (hn : n ≤ 1000000) : Ev (fun k => rubricatorref14_noughts.f k (n : Int)) (ofL (List.replicate n 48)) := by
  have loop : ∀ m i : Nat, i + m = n → Ev (fun k => rubricatorref14_noughts.l0 k (n : Int) (ofL (List.replicate i 48)) (i : Int)) (ofL (List.replicate n 48)) := by
    intro m
    induction m with
    | zero =>
      intro i hi
      have : i = n := by omega
      subst this
      refine Ev.step (f := fun _ => some (ofL (List.replicate i 48))) (fun k => ?_) (Ev.now _)
      simp only [rubricatorref14_noughts.l0]
      rw [if_neg (by omega)]
    | succ m ih =>
      intro i hi
      refine Ev.step (fun k => ?_) (ih (i + 1) (by omega))
      simp only [rubricatorref14_noughts.l0]
      rw [if_pos (by omega), ofL_size, List.length_replicate, if_pos (by omega), show wrap64 ((i : Int) + 1) = ((i + 1 : Nat) : Int) by unfold wrap64; omega, show (⟨#[48]⟩ : ByteArray) = ofL [48] from rfl, ofL_app, List.replicate_succ']
  refine Ev.congr (fun k => ?_) (loop n 0 (by omega))
  rfl
def grt (x y : List UInt8) : Bool := if (x.length : Int) > (y.length : Int) then true else if (x.length : Int) = (y.length : Int) then Op.bytesLess y x else false
theorem grt_f (x y : List UInt8) : rubricatorref14_greater.f (ofL x) (ofL y) = some (grt x y) := by
  unfold rubricatorref14_greater.f grt
  rw [ofL_size, ofL_size, ofL_toList, ofL_toList]
  split
  · rfl
  · split <;> rfl
theorem less_cmp : ∀ a b : List UInt8, Op.bytesLess a b = decide (Lib.compareBytes a b = -1)
  | [], [] => rfl
  | [], _ :: _ => rfl
  | _ :: _, [] => rfl
  | x :: a, y :: b => by
    simp only [Op.bytesLess, Lib.compareBytes]
    by_cases h : x < y
    · simp [h]
    · by_cases h2 : y < x
      · have : x ≠ y := fun e => by subst e; exact h h2
        simp [h, h2, this]
      · have : x = y := by rw [← UInt8.toNat_inj]; rw [UInt8.lt_iff_toNat_lt] at *; omega
        subst this
        simp only [h, if_false, decide_false, Bool.false_or, beq_self_eq_true, Bool.true_and]
        exact less_cmp a b
theorem pad_nil : ∀ (B : List UInt8) (k : Nat), k = B.length → 0 < k → B.all NumP.isD = true → B.getLast? ≠ some 48 → Lib.compareBytes (List.replicate k 48) B = -1
  | [], k, hk, h0, _, _ => by simp at hk; omega
  | y :: B, k, hk, h0, hd, hl => by
    simp only [List.all_cons, Bool.and_eq_true] at hd
    have hy := hd.1
    simp only [NumP.isD, decide_eq_true_eq] at hy
    obtain ⟨m, rfl⟩ : ∃ m, k = m + 1 := ⟨k - 1, by omega⟩
    rw [List.replicate_succ]
    simp only [Lib.compareBytes]
    by_cases h : (48 : UInt8) < y
    · rw [if_pos h]
    · have e : y = 48 := by rw [← UInt8.toNat_inj]; rw [UInt8.lt_iff_toNat_lt] at h; have : (48 : UInt8).toNat = 48 := rfl; omega
      subst e
      rw [if_neg h, if_neg h]
      cases B with
      | nil => simp at hl
      | cons z t =>
        refine pad_nil (z :: t) m (by simpa using hk) (by simp at hk; omega) hd.2 ?_
        simpa using hl
theorem pad_cmp : ∀ (A B : List UInt8) (k : Nat), A.length + k = B.length → B.all NumP.isD = true → (0 < k → B.getLast? ≠ some 48) → Lib.compareBytes (A ++ List.replicate k 48) B = Lib.compareBytes A B
  | [], B, k, hk, hd, hl => by
    rw [List.nil_append]
    by_cases h0 : 0 < k
    · rw [pad_nil B k (by simpa using hk) h0 hd (hl h0)]
      cases B with
      | nil => simp at hk; omega
      | cons _ _ => rfl
    · have : k = 0 := by omega
      subst this; rfl
  | x :: A, [], k, hk, _, _ => by simp at hk
  | x :: A, y :: B, k, hk, hd, hl => by
    simp only [List.all_cons, Bool.and_eq_true] at hd
    rw [List.cons_append]
    simp only [Lib.compareBytes]
    have ih := pad_cmp A B k (by simp at hk; omega) hd.2 (fun h0 => by
      have := hl h0
      cases B with
      | nil => simp
      | cons z t => simpa using this)
    rw [ih]
/-- the digits, with noughts behind, stand as the numbers do -/
theorem padded (a b : NumP.NumV) (ha : NumP.right a = true) (hb : NumP.right b = true) (ha0 : a.2.1 ≠ []) (hb0 : b.2.1 ≠ []) (i j : Nat) (hi : (i : Int) = a.2.2 - min a.2.2 b.2.2) (hj : (j : Int) = b.2.2 - min a.2.2 b.2.2) :
    grt (a.2.1 ++ List.replicate i 48) (b.2.1 ++ List.replicate j 48) = decide (cmpA a b = 1) ∧ grt (b.2.1 ++ List.replicate j 48) (a.2.1 ++ List.replicate i 48) = decide (cmpA a b = -1) := by
  obtain ⟨ad, A, ae⟩ := a
  obtain ⟨bd, B, be⟩ := b
  simp only at ha0 hb0 hi hj ⊢
  obtain ⟨pa, -, pl, -, -, -⟩ := right_parts ha ha0
  obtain ⟨qa, -, ql, -, -, -⟩ := right_parts hb hb0
  have l1 : ((A ++ List.replicate i 48).length : Int) = (A.length : Int) + i := by simp
  have l2 : ((B ++ List.replicate j 48).length : Int) = (B.length : Int) + j := by simp
  unfold grt cmpA
  rw [l1, l2]
  simp only
  have hbd := compare_bd A B
  rcases cmpI_vals ((A.length : Int) + ae) ((B.length : Int) + be) with ⟨p, q⟩ | ⟨p, q⟩ | ⟨p, q⟩
  · rw [q]
    refine ⟨?_, ?_⟩
    · rw [if_neg (by omega), if_neg (by omega)]; rfl
    · rw [if_pos (by omega)]; rfl
  · rw [q, if_pos rfl, if_neg (by omega), if_pos (by omega), if_neg (by omega), if_pos (by omega), less_cmp, less_cmp]
    have key : Lib.compareBytes (A ++ List.replicate i 48) (B ++ List.replicate j 48) = Lib.compareBytes A B := by
      by_cases h : ae ≤ be
      · have : i = 0 := by omega
        subst this
        rw [List.replicate_zero, List.append_nil, cmpB_anti, pad_cmp B A j (by omega) pa (fun _ => pl), ← cmpB_anti]
      · have : j = 0 := by omega
        subst this
        rw [List.replicate_zero, List.append_nil, pad_cmp A B i (by omega) qa (fun _ => ql)]
    have key2 : Lib.compareBytes (B ++ List.replicate j 48) (A ++ List.replicate i 48) = - Lib.compareBytes A B := by rw [cmpB_anti, key]
    rw [key, key2]
    refine ⟨?_, rfl⟩
    rw [decide_eq_decide]; omega
  · rw [q]
    refine ⟨?_, ?_⟩
    · rw [if_pos (by omega)]; rfl
    · rw [if_neg (by omega), if_neg (by omega)]; rfl
theorem grt_nil (x : List UInt8) : grt [] x = false ∧ (x ≠ [] → grt x [] = true) := by
  unfold grt
  refine ⟨?_, fun h => ?_⟩
  · rw [if_neg (by simp)]
    split
    · rename_i h
      have : x = [] := by cases x with | nil => rfl | cons _ _ => (simp at h; omega)
      subst this; rfl
    · rfl
  · rw [if_pos (by cases x with | nil => exact absurd rfl h | cons _ _ => simp)]
/-- the reference's rule, at the two rows of digits -/
def rule (ad bd : Bool) (x y : List UInt8) : Int :=
  if ad = true ∧ bd = true ∧ grt x y = true then -1 else if ad = true ∧ bd = true ∧ grt y x = true then 1 else if ad = true ∧ bd = true then 0 else if ad = true then -1 else if bd = true ∨ grt x y = true then 1 else if grt y x = true then -1 else 0
theorem rule_ev (ad bd : Bool) (x y A B : List UInt8) (ae be : Int) : Ev (fun k => rubricatorref14_Compare.j1 k (ofL x) (ofL y) ad (ofL A) ae bd (ofL B) be) (rule ad bd x y) := by
  have g1 := grt_f x y
  have g2 := grt_f y x
  have e5 : ∀ t : Bool, Ev (fun k => rubricatorref14_Compare.j5 k (ofL x) (ofL y) t) (if t = true then 1 else if grt y x = true then -1 else 0) := fun t => by
    refine Ev.step (f := fun _ => some (if t = true then 1 else if grt y x = true then -1 else 0)) (fun k => ?_) (Ev.now _)
    simp only [rubricatorref14_Compare.j5]
    rw [g2]
    cases t with
    | true => rfl
    | false => simp only [Option.bind_some]; cases grt y x <;> rfl
  have e4 : ∀ t : Bool, Ev (fun k => rubricatorref14_Compare.j4 k (ofL x) (ofL y) t ad (ofL A) ae bd (ofL B) be) (if t = true then 0 else if ad = true then -1 else if bd = true ∨ grt x y = true then 1 else if grt y x = true then -1 else 0) := fun t => by
    cases t with
    | true => exact Ev.step (f := fun _ => some 0) (fun k => by simp only [rubricatorref14_Compare.j4, if_true]) (Ev.now _)
    | false =>
      cases ad with
      | true => exact Ev.step (f := fun _ => some (-1)) (fun k => by simp only [rubricatorref14_Compare.j4]; rfl) (Ev.now _)
      | false =>
        cases bd with
        | true =>
          refine Ev.step (f := fun k => rubricatorref14_Compare.j5 k (ofL x) (ofL y) true) (fun k => by simp only [rubricatorref14_Compare.j4]; rfl) ?_
          have := e5 true
          simpa using this
        | false =>
          refine Ev.step (f := fun k => rubricatorref14_Compare.j5 k (ofL x) (ofL y) (grt x y)) (fun k => by simp only [rubricatorref14_Compare.j4]; rw [g1]; rfl) ?_
          have := e5 (grt x y)
          simpa using this
  have e3 : ∀ t : Bool, Ev (fun k => rubricatorref14_Compare.j3 k (ofL x) (ofL y) t ad (ofL A) ae bd (ofL B) be) (if t = true then 1 else if ad = true ∧ bd = true then 0 else if ad = true then -1 else if bd = true ∨ grt x y = true then 1 else if grt y x = true then -1 else 0) := fun t => by
    cases t with
    | true => exact Ev.step (f := fun _ => some 1) (fun k => by simp only [rubricatorref14_Compare.j3, if_true]) (Ev.now _)
    | false =>
      refine Ev.step (f := fun k => rubricatorref14_Compare.j4 k (ofL x) (ofL y) (ad && bd) ad (ofL A) ae bd (ofL B) be) (fun k => ?_) ?_
      · simp only [rubricatorref14_Compare.j3]
        cases ad <;> cases bd <;> rfl
      · have := e4 (ad && bd)
        simpa using this
  have e2 : ∀ t : Bool, Ev (fun k => rubricatorref14_Compare.j2 k (ofL x) (ofL y) t ad (ofL A) ae bd (ofL B) be) (if t = true then -1 else if ad = true ∧ bd = true ∧ grt y x = true then 1 else if ad = true ∧ bd = true then 0 else if ad = true then -1 else if bd = true ∨ grt x y = true then 1 else if grt y x = true then -1 else 0) := fun t => by
    cases t with
    | true => exact Ev.step (f := fun _ => some (-1)) (fun k => by simp only [rubricatorref14_Compare.j2, if_true]) (Ev.now _)
    | false =>
      refine Ev.step (f := fun k => rubricatorref14_Compare.j3 k (ofL x) (ofL y) (ad && (bd && grt y x)) ad (ofL A) ae bd (ofL B) be) (fun k => ?_) ?_
      · simp only [rubricatorref14_Compare.j2]
        cases ad <;> cases bd <;> first | rfl | (rw [g2]; rfl)
      · have := e3 (ad && (bd && grt y x))
        simpa using this
  refine Ev.step (f := fun k => rubricatorref14_Compare.j2 k (ofL x) (ofL y) (ad && (bd && grt x y)) ad (ofL A) ae bd (ofL B) be) (fun k => ?_) ?_
  · simp only [rubricatorref14_Compare.j1]
    cases ad <;> cases bd <;> first | rfl | (rw [g1]; rfl)
  · have := e2 (ad && (bd && grt x y))
    unfold rule
    simpa using this
def refC (a b : NumP.NumV) (k : Nat) (t165 t166 : ByteArray) : Option Int :=
  if (ofL a.2.1).size + t165.size ≤ 9223372036854775807 then (if (ofL b.2.1).size + t166.size ≤ 9223372036854775807 then (if (ofL a.2.1).toList = ([] : List UInt8) then (rubricatorref14_Compare.j0 k (⟨#[]⟩ : ByteArray) (ofL b.2.1 ++ t166) a.1 (ofL a.2.1) a.2.2 b.1 (ofL b.2.1) b.2.2) else (rubricatorref14_Compare.j0 k (ofL a.2.1 ++ t165) (ofL b.2.1 ++ t166) a.1 (ofL a.2.1) a.2.2 b.1 (ofL b.2.1) b.2.2)) else none) else none
theorem ref_ev (a b : NumP.NumV) (ha : NumP.right a = true) (hb : NumP.right b = true) :
    Ev (fun k => rubricatorref14_Compare.f k a.1 (ofL a.2.1) a.2.2 b.1 (ofL b.2.1) b.2.2) (cmpP a b) := by
  obtain ⟨p1, p2, p3⟩ := right_bd' (d := a.1) (D := a.2.1) (e := a.2.2) ha
  obtain ⟨q1, q2, q3⟩ := right_bd' (d := b.1) (D := b.2.1) (e := b.2.2) hb
  obtain ⟨i, hi⟩ : ∃ i : Nat, (i : Int) = a.2.2 - min a.2.2 b.2.2 := ⟨(a.2.2 - min a.2.2 b.2.2).toNat, by omega⟩
  obtain ⟨j, hj⟩ : ∃ j : Nat, (j : Int) = b.2.2 - min a.2.2 b.2.2 := ⟨(b.2.2 - min a.2.2 b.2.2).toNat, by omega⟩
  have n1 := noughts_ev i (by omega)
  have n2 := noughts_ev j (by omega)
  have zero : ∀ n : NumP.NumV, NumP.right n = true → n.2.1 = [] → n.1 = false := fun n hn h0 => by
    obtain ⟨d, D, e⟩ := n
    simp only at h0
    subst h0
    unfold NumP.right at hn
    rw [if_pos rfl] at hn
    simp only [Bool.and_eq_true, Bool.not_eq_true'] at hn
    exact hn.1
  -- the two rows of digits
  have hrule : rule a.1 b.1 (if a.2.1 = [] then [] else a.2.1 ++ List.replicate i 48) (if b.2.1 = [] then [] else b.2.1 ++ List.replicate j 48) = cmpP a b := by
    rw [cmpP_cases]
    have hA := cmpA_bd a b
    by_cases a0 : a.2.1 = []
    · have sa : sideP a = 0 := by unfold sideP; rw [if_pos a0]
      have da := zero a ha a0
      rw [if_pos a0, sa]
      by_cases b0 : b.2.1 = []
      · have sb : sideP b = 0 := by unfold sideP; rw [if_pos b0]
        rw [if_pos b0, sb]
        unfold rule
        rw [da, zero b hb b0, (grt_nil []).1]; simp
      · rw [if_neg b0]
        obtain ⟨g1, g2⟩ := grt_nil (b.2.1 ++ List.replicate j 48)
        have g2 := g2 (by simp [b0])
        unfold rule
        rw [da, g1, g2]
        rcases side_vals b with ⟨-, u⟩ | ⟨s, -, v⟩ | ⟨s, -, v⟩
        · exact absurd u b0
        · rw [s, v]; simp
        · rw [s, v]; simp
    · rw [if_neg a0]
      by_cases b0 : b.2.1 = []
      · have sb : sideP b = 0 := by unfold sideP; rw [if_pos b0]
        rw [if_pos b0, sb]
        obtain ⟨g1, g2⟩ := grt_nil (a.2.1 ++ List.replicate i 48)
        have g2 := g2 (by simp [a0])
        unfold rule
        rw [zero b hb b0, g1, g2]
        rcases side_vals a with ⟨-, u⟩ | ⟨s, -, v⟩ | ⟨s, -, v⟩
        · exact absurd u a0
        · rw [s, v]; simp
        · rw [s, v]; simp
      · rw [if_neg b0]
        obtain ⟨g1, g2⟩ := padded a b ha hb a0 b0 i j hi hj
        unfold rule
        rw [g1, g2]
        rcases side_vals a with ⟨-, u⟩ | ⟨s, -, v⟩ | ⟨s, -, v⟩
        · exact absurd u a0
        · rcases side_vals b with ⟨-, u⟩ | ⟨s', -, v'⟩ | ⟨s', -, v'⟩
          · exact absurd u b0
          · rw [s, s', v, v']
            rcases (show cmpA a b = -1 ∨ cmpA a b = 0 ∨ cmpA a b = 1 by omega) with z | z | z <;> rw [z] <;> simp
          · rw [s, s', v, v']; simp
        · rcases side_vals b with ⟨-, u⟩ | ⟨s', -, v'⟩ | ⟨s', -, v'⟩
          · exact absurd u b0
          · rw [s, s', v, v']; simp
          · rw [s, s', v, v']
            rcases (show cmpA a b = -1 ∨ cmpA a b = 0 ∨ cmpA a b = 1 by omega) with z | z | z <;> rw [z] <;> simp
  have hmn : mn a.2.2 b.2.2 = min a.2.2 b.2.2 := by unfold mn; omega
  have w1 : wrap64 (a.2.2 - mn a.2.2 b.2.2) = (i : Int) := by rw [hmn, hi]; unfold wrap64; omega
  have w2 : wrap64 (b.2.2 - mn a.2.2 b.2.2) = (j : Int) := by rw [hmn, hj]; unfold wrap64; omega
  refine Ev.congr (f := fun k => (rubricatorref14_noughts.f k (i : Int)).bind fun t165 => ((rubricatorref14_noughts.f k (j : Int)).bind fun t166 => refC a b k t165 t166)) (fun k => ?_) (Ev.bind n1 (Ev.bind n2 ?_))
  · unfold rubricatorref14_Compare.f refC
    rw [w1, w2]
    cases h1 : rubricatorref14_noughts.f k (i : Int) with
    | none => rfl
    | some t =>
      simp only [Option.bind_some]
      cases h2 : rubricatorref14_noughts.f k (j : Int) with
      | none => simp
      | some u =>
        simp only [Option.bind_some]
  · unfold refC
    refine Ev.congr (f := fun k => rubricatorref14_Compare.j0 k (ofL (if a.2.1 = [] then [] else a.2.1 ++ List.replicate i 48)) (ofL (b.2.1 ++ List.replicate j 48)) a.1 (ofL a.2.1) a.2.2 b.1 (ofL b.2.1) b.2.2) (fun k => ?_) ?_
    · rw [ofL_size, ofL_size, ofL_size, ofL_size, List.length_replicate, List.length_replicate, if_pos (by omega), if_pos (by omega), ofL_toList, ofL_app, ofL_app]
      by_cases h : a.2.1 = []
      · rw [if_pos h, if_pos h]; rfl
      · rw [if_neg h, if_neg h]
    · refine Ev.step (f := fun k => rubricatorref14_Compare.j1 k (ofL (if a.2.1 = [] then [] else a.2.1 ++ List.replicate i 48)) (ofL (if b.2.1 = [] then [] else b.2.1 ++ List.replicate j 48)) a.1 (ofL a.2.1) a.2.2 b.1 (ofL b.2.1) b.2.2) (fun k => ?_) ?_
      · simp only [rubricatorref14_Compare.j0]
        rw [ofL_toList]
        by_cases h : b.2.1 = []
        · rw [if_pos h, if_pos h]; rfl
        · rw [if_neg h, if_neg h]
      · rw [← hrule]; exact rule_ev _ _ _ _ _ _ _ _
theorem NumCompares (d1 : Bool) (b1 : ByteArray) (e1 : Int) (d2 : Bool) (b2 : ByteArray) (e2 : Int) : ∃ k, rubricatorlaw14_NumCompares.f k d1 b1 e1 d2 b2 e2 = some true := by
  rw [← ofL_of b1, ← ofL_of b2]
  generalize b1.data.toList = D1
  generalize b2.data.toList = D2
  apply Ev.rounds
  have skip : Ev (fun k => rubricatorlaw14_NumCompares.j0 k true d1 (ofL D1) e1 d2 (ofL D2) e2) true := Ev.step (f := fun _ => some true) (fun k => by simp only [rubricatorlaw14_NumCompares.j0, if_true]) (Ev.now _)
  by_cases l1 : (D1.length : Int) > 60
  · refine Ev.congr (fun k => ?_) skip
    unfold rubricatorlaw14_NumCompares.f rubricatorlaw14_awake.f
    simp only [Option.bind_some, if_true, ofL_size]; rw [if_pos l1]
  · by_cases l2 : (D2.length : Int) > 60
    · refine Ev.congr (fun k => ?_) skip
      unfold rubricatorlaw14_NumCompares.f rubricatorlaw14_awake.f
      simp only [Option.bind_some, if_true, ofL_size]; rw [if_neg l1, decide_eq_true l2]
    · have r1 : num_Right.f d1 (ofL D1) e1 = some (NumP.right (d1, D1, e1)) := right_f d1 D1 e1 (by omega)
      have r2 : num_Right.f d2 (ofL D2) e2 = some (NumP.right (d2, D2, e2)) := right_f d2 D2 e2 (by omega)
      have s1 := right_ev d1 D1 e1 (by omega)
      have s2 := right_ev d2 D2 e2 (by omega)
      refine Ev.congr (f := fun k => rubricatorlaw14_NumCompares.j0 k false d1 (ofL D1) e1 d2 (ofL D2) e2) (fun k => ?_) ?_
      · unfold rubricatorlaw14_NumCompares.f rubricatorlaw14_awake.f
        simp only [Option.bind_some, if_true, ofL_size]; rw [if_neg l1, decide_eq_false l2]
      · refine Ev.step (f := fun k => (rubricatorref14_Right.f k d1 (ofL D1) e1).bind fun t => if (NumP.right (d1, D1, e1) != t) = true then rubricatorlaw14_NumCompares.j1 k (NumP.right (d1, D1, e1)) (NumP.right (d2, D2, e2)) true d1 (ofL D1) e1 d2 (ofL D2) e2 else (rubricatorref14_Right.f k d2 (ofL D2) e2).bind fun u => rubricatorlaw14_NumCompares.j1 k (NumP.right (d1, D1, e1)) (NumP.right (d2, D2, e2)) (NumP.right (d2, D2, e2) != u) d1 (ofL D1) e1 d2 (ofL D2) e2) (fun k => ?_) (Ev.bind s1 ?_)
        · simp only [rubricatorlaw14_NumCompares.j0, rubricatorlaw14_of.f]
          rw [if_neg (by simp), r1, r2]; rfl
        · refine Ev.congr (f := fun k => (rubricatorref14_Right.f k d2 (ofL D2) e2).bind fun u => rubricatorlaw14_NumCompares.j1 k (NumP.right (d1, D1, e1)) (NumP.right (d2, D2, e2)) (NumP.right (d2, D2, e2) != u) d1 (ofL D1) e1 d2 (ofL D2) e2) (fun k => ?_) (Ev.bind s2 ?_)
          · rw [if_neg (by simp)]
          · cases h1 : NumP.right (d1, D1, e1) with
            | false => exact Ev.step (f := fun _ => some true) (fun k => by simp only [rubricatorlaw14_NumCompares.j1]; simp) (Ev.now _)
            | true =>
              cases h2 : NumP.right (d2, D2, e2) with
              | false => exact Ev.step (f := fun _ => some true) (fun k => by simp only [rubricatorlaw14_NumCompares.j1]; simp) (Ev.now _)
              | true =>
                obtain ⟨p1, p2, p3⟩ := right_bd' h1
                obtain ⟨q1, q2, q3⟩ := right_bd' h2
                have c1 := compare_ev (d1, D1, e1) (d2, D2, e2) (by simp only; omega) (by simp only; omega)
                have c2 := ref_ev (d1, D1, e1) (d2, D2, e2) h1 h2
                refine Ev.step (f := fun k => (num_Compare.f k d1 (ofL D1) e1 d2 (ofL D2) e2).bind fun t => (rubricatorref14_Compare.f k d1 (ofL D1) e1 d2 (ofL D2) e2).bind fun u => some (t == u)) (fun k => ?_) (Ev.bind c1 (Ev.bind c2 ?_))
                · simp only [rubricatorlaw14_NumCompares.j1, rubricatorlaw14_of.f]; simp
                · refine Ev.congr (fun k => ?_) (Ev.now _)
                  simp
end Go.Proofs.YtbgigckmehgcpaaDoor
