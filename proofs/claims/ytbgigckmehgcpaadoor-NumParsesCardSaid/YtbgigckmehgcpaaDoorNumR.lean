/- The reference's number of a text is the lists' one. -/
import Derived.Test.YtbgigckmehgcpaaDoorNumG
import Derived.Test.YtbgigckmehgcpaaDoorPrx6
namespace Go.Proofs.YtbgigckmehgcpaaDoor
open Go.RowKit Go.Proofs.YtbgigckmehgcpaaDoorW.PrintWords Pr
/-! the first loop: sign, digits -/
def accS (a : Bool × List UInt8) (c : UInt8) : Bool × List UInt8 :=
  if c = 45 then (true, a.2) else if c = 46 then a else if a.2 = [] ∧ c = 48 then a else (a.1, a.2 ++ [c])
theorem bt_eq (s : List UInt8) (i : Nat) (h : i < s.length) (c : UInt8) : (bt (ofL s) (i : Int) = (c.toNat : Int)) ↔ s[i] = c := by
  rw [bt_ofL s i h]; exact head_byte _ _
theorem ofL_nil_iff (l : List UInt8) : (ofL l).toList = ([] : List UInt8) ↔ l = [] := by rw [ofL_toList]
theorem accS_len (a : Bool × List UInt8) (c : UInt8) : (accS a c).2.length ≤ a.2.length + 1 := by
  unfold accS; split
  · simp
  · split
    · simp
    · split <;> simp
theorem p0_ev (s : List UInt8) (hs : s.length ≤ 300) (p q : Nat) (hq : q ≤ s.length) (R : Bool × ByteArray × Int × Int) (n : Nat) : ∀ (i : Nat) (a : Bool × List UInt8), i + n = q → a.2.length ≤ i →
    Ev (fun k => rubricatorref14_Parse.l0 k (ofL s) (p : Int) (q : Int) (q : Int) (((s.take q).drop i).foldl accS a).1 (ofL (((s.take q).drop i).foldl accS a).2) 0) R →
    Ev (fun k => rubricatorref14_Parse.l0 k (ofL s) (p : Int) (q : Int) (i : Int) a.1 (ofL a.2) 0) R := by
  induction n with
  | zero =>
    intro i a hi ha h
    have : i = q := by omega
    subst this
    rw [List.drop_of_length_le (by rw [List.length_take]; omega)] at h
    exact h
  | succ n ih =>
    intro i a hi ha h
    have hl : i < s.length := by omega
    have hcons : (s.take q).drop i = s[i] :: (s.take q).drop (i + 1) := by
      rw [List.drop_eq_getElem_cons (by rw [List.length_take]; omega)]
      simp
    rw [hcons, List.foldl_cons] at h
    have hlen := accS_len a s[i]
    refine Ev.step (f := fun k => rubricatorref14_Parse.l0 k (ofL s) (p : Int) (q : Int) ((i + 1 : Nat) : Int) (accS a s[i]).1 (ofL (accS a s[i]).2) 0) (fun k => ?_) (ih (i + 1) _ (by omega) (by omega) h)
    simp only [rubricatorref14_Parse.l0]
    rw [if_pos (by omega), if_pos (by omega), ofL_size, if_pos (by omega), w1 i s.length (by omega) (by omega)]
    have hx : (ofL s).extract ((i : Int)).toNat (((i + 1 : Nat) : Int)).toNat = ofL [s[i]] := by
      rw [ofL_ext]
      congr 1
      have e1 : ((i : Int)).toNat = i := by omega
      have e2 : (((i + 1 : Nat) : Int)).toNat = i + 1 := by omega
      rw [e1, e2, List.take_succ_eq_append_getElem hl, List.drop_append_of_le_length (by rw [List.length_take]; omega), List.drop_of_length_le (by rw [List.length_take]; omega)]
      rfl
    rw [hx, ofL_size]
    have h45 := bt_eq s i hl 45
    have h46 := bt_eq s i hl 46
    have h48 := bt_eq s i hl 48
    change (bt (ofL s) (i : Int) = 45) ↔ _ at h45
    change (bt (ofL s) (i : Int) = 46) ↔ _ at h46
    change (bt (ofL s) (i : Int) = 48) ↔ _ at h48
    have hcat : accS a s[i] = (a.1, a.2 ++ [s[i]]) → (if (i : Int) ≤ ((i + 1 : Nat) : Int) then (if ((i + 1 : Nat) : Int) ≤ (s.length : Int) then (if a.2.length + (ofL [s[i]]).size ≤ 9223372036854775807 then (rubricatorref14_Parse.l0 k (ofL s) (p : Int) (q : Int) ((i + 1 : Nat) : Int) a.1 (ofL a.2 ++ ofL [s[i]]) 0) else none) else none) else none) = rubricatorref14_Parse.l0 k (ofL s) (p : Int) (q : Int) ((i + 1 : Nat) : Int) (accS a s[i]).1 (ofL (accS a s[i]).2) 0 := fun ha2 => by
      rw [if_pos (by omega), if_pos (by omega), if_pos (by rw [ofL_size]; simp; omega), ofL_app, ha2]
    by_cases c45 : s[i] = 45
    · rw [if_pos (h45.2 c45), show accS a s[i] = (true, a.2) by unfold accS; rw [if_pos c45]]
    · rw [if_neg (fun z => c45 (h45.1 z))]
      by_cases c46 : s[i] = 46
      · rw [if_pos (h46.2 c46), show accS a s[i] = a by unfold accS; rw [if_neg c45, if_pos c46]]
      · rw [if_neg (fun z => c46 (h46.1 z))]
        by_cases e : a.2 = []
        · rw [if_pos ((ofL_nil_iff _).2 e)]
          by_cases c48 : s[i] = 48
          · rw [if_pos (h48.2 c48), show accS a s[i] = a by unfold accS; rw [if_neg c45, if_neg c46, if_pos ⟨e, c48⟩]]
          · rw [if_neg (fun z => c48 (h48.1 z))]
            exact hcat (by unfold accS; rw [if_neg c45, if_neg c46, if_neg (fun z => c48 z.2)])
        · rw [if_neg (fun z => e ((ofL_nil_iff _).1 z))]
          exact hcat (by unfold accS; rw [if_neg c45, if_neg c46, if_neg (fun z => e z.1)])
/-! the second loop: the exponent -/
def accE (a : Int × Bool) (c : UInt8) : Int × Bool :=
  if c = 45 then (a.1, true) else if c = 43 then a else (min (10 * a.1 + (c.toNat : Int) - 48) 1000000, a.2)
theorem mn_min (a b : Int) : mn a b = min a b := by unfold mn; omega
theorem accE_bd (a : Int × Bool) (c : UInt8) (h0 : 0 ≤ a.1) (h1 : a.1 ≤ 1000000) (hc : c = 45 ∨ c = 43 ∨ NumP.isD c = true) : 0 ≤ (accE a c).1 ∧ (accE a c).1 ≤ 1000000 := by
  unfold accE
  split
  · exact ⟨h0, h1⟩
  · split
    · exact ⟨h0, h1⟩
    · rename_i n45 n43
      have hd : NumP.isD c = true := by rcases hc with e | e | e; exact absurd e n45; exact absurd e n43; exact e
      simp only [NumP.isD, decide_eq_true_eq] at hd
      show 0 ≤ min (10 * a.1 + (c.toNat : Int) - 48) 1000000 ∧ min (10 * a.1 + (c.toNat : Int) - 48) 1000000 ≤ 1000000
      omega
theorem p1_ev (s : List UInt8) (hs : s.length ≤ 300) (d : Bool) (D : ByteArray) (e : Int) (R : Bool × ByteArray × Int × Int) (n : Nat) : ∀ (i : Nat) (a : Int × Bool), i + n = s.length → 0 ≤ a.1 → a.1 ≤ 1000000 → (∀ c ∈ s.drop i, c = 45 ∨ c = 43 ∨ NumP.isD c = true) →
    Ev (fun k => rubricatorref14_Parse.l1 k (ofL s) ((s.drop i).foldl accE a).1 ((s.drop i).foldl accE a).2 (s.length : Int) d D e) R →
    Ev (fun k => rubricatorref14_Parse.l1 k (ofL s) a.1 a.2 (i : Int) d D e) R := by
  induction n with
  | zero =>
    intro i a hi h0 h1 hc h
    have : i = s.length := by omega
    subst this
    rw [List.drop_of_length_le (Nat.le_refl _)] at h
    exact h
  | succ n ih =>
    intro i a hi h0 h1 hc h
    have hl : i < s.length := by omega
    rw [at_drop s i hl] at h hc
    rw [List.foldl_cons] at h
    have hb := accE_bd a s[i] h0 h1 (hc _ List.mem_cons_self)
    refine Ev.step (f := fun k => rubricatorref14_Parse.l1 k (ofL s) (accE a s[i]).1 (accE a s[i]).2 ((i + 1 : Nat) : Int) d D e) (fun k => ?_) (ih (i + 1) _ (by omega) hb.1 hb.2 (fun c z => hc c (List.mem_cons_of_mem _ z)) h)
    simp only [rubricatorref14_Parse.l1]
    rw [ofL_size, if_pos (by omega), if_pos (by omega), w1 i s.length (by omega) (by omega)]
    have h45 := bt_eq s i hl 45
    have h43 := bt_eq s i hl 43
    change (bt (ofL s) (i : Int) = 45) ↔ _ at h45
    change (bt (ofL s) (i : Int) = 43) ↔ _ at h43
    have hbt := bt_ofL s i hl
    have hlt := (s[i]).toNat_lt
    unfold accE
    by_cases c45 : s[i] = 45
    · rw [if_pos (h45.2 c45), if_pos c45]
    · rw [if_neg (fun z => c45 (h45.1 z)), if_neg c45]
      by_cases c43 : s[i] = 43
      · rw [if_pos (h43.2 c43), if_pos c43]
      · rw [if_neg (fun z => c43 (h43.1 z)), if_neg c43, hbt, mn_min]
        have : wrap64 (wrap64 (wrap64 (10 * a.1) + wrap64 ((s[i].toNat : Int))) - 48) = 10 * a.1 + (s[i].toNat : Int) - 48 := by unfold wrap64; omega
        rw [this]
theorem p1_end (s : List UInt8) (m : Int) (l : Bool) (i : Int) (d : Bool) (D : ByteArray) (e : Int) (R : Bool × ByteArray × Int × Int) (hi : (s.length : Int) ≤ i) (h0 : 0 ≤ m) (h1 : m ≤ 1000000)
    (h : Ev (fun k => rubricatorref14_Parse.j3 k (if l = true then -m else m) d D e) R) : Ev (fun k => rubricatorref14_Parse.l1 k (ofL s) m l i d D e) R := by
  refine Ev.step (fun k => ?_) h
  simp only [rubricatorref14_Parse.l1]
  rw [ofL_size, if_neg (by omega)]
  cases l with
  | true => rw [if_pos rfl, if_pos rfl, show wrap64 (-m) = -m by unfold wrap64; omega]
  | false => rw [if_neg (by simp), if_neg (by simp)]
/-! noughts behind -/
theorem rstrip_snoc (D : List UInt8) (c : UInt8) : NumP.rstrip (D ++ [c]) = if c = 48 then NumP.rstrip D else D ++ [c] := by
  unfold NumP.rstrip
  rw [List.reverse_append]
  by_cases h : c = 48
  · subst h; simp [NumP.isZ]
  · simp [NumP.isZ, h]
theorem snoc_of (D : List UInt8) (h : 0 < D.length) : ∃ E c, D = E ++ [c] ∧ E.length + 1 = D.length := by
  refine ⟨D.dropLast, D.getLast (by intro z; subst z; simp at h), (List.dropLast_concat_getLast _).symm, ?_⟩
  rw [List.length_dropLast]; omega
theorem rstrip_le (D : List UInt8) : (NumP.rstrip D).length ≤ D.length := by
  unfold NumP.rstrip
  rw [List.length_reverse]
  exact Nat.le_trans (List.dropWhile_suffix NumP.isZ).length_le (by simp)
theorem p2_ev (d : Bool) (R : Bool × ByteArray × Int × Int) (n : Nat) : ∀ (D : List UInt8) (e : Int), D.length = n → n ≤ 1000 → -2000000 ≤ e → e ≤ 2000000 + 1000 - n →
    Ev (fun k => rubricatorref14_Parse.j5 k d (ofL (NumP.rstrip D)) (e + D.length - (NumP.rstrip D).length)) R → Ev (fun k => rubricatorref14_Parse.l2 k d (ofL D) e) R := by
  induction n with
  | zero =>
    intro D e hn _ _ _ h
    obtain rfl := List.length_eq_zero_iff.1 hn
    refine Ev.step (fun k => ?_) h
    simp only [rubricatorref14_Parse.l2]
    rw [ofL_size, if_neg (by simp)]
    congr 1; simp [NumP.rstrip]
  | succ n ih =>
    intro D e hn hb he1 he2 h
    obtain ⟨E, c, rfl, hE⟩ := snoc_of D (by omega)
    have hl : (E ++ [c]).length = n + 1 := hn
    have hw : wrap64 (((E ++ [c]).length : Int) - 1) = ((n : Nat) : Int) := by rw [hl]; unfold wrap64; omega
    have hEn : E.length = n := by omega
    have hbt : (bt (ofL (E ++ [c])) (n : Int) = 48) ↔ c = 48 := by
      have := bt_eq (E ++ [c]) n (by omega) 48
      change (bt (ofL (E ++ [c])) (n : Int) = 48) ↔ _ at this
      rw [this, List.getElem_append_right (by omega)]
      simp
    have hx : (ofL (E ++ [c])).extract 0 ((n : Int)).toNat = ofL E := by
      rw [ofL_ext]; congr 1
      have e1 : ((n : Int)).toNat = n := by omega
      rw [e1, List.drop_zero, List.take_append_of_le_length (by omega), List.take_of_length_le (by omega)]
    rw [rstrip_snoc] at h
    by_cases hc : c = 48
    · rw [if_pos hc] at h
      refine Ev.step (f := fun k => rubricatorref14_Parse.l2 k d (ofL E) (e + 1)) (fun k => ?_) (ih E (e + 1) hEn (by omega) (by omega) (by omega) ?_)
      · simp only [rubricatorref14_Parse.l2]
        rw [ofL_size, if_pos (by omega), hw, if_pos (by omega), if_pos (by omega), if_pos (hbt.2 hc), if_pos (by omega), hx, show wrap64 (e + 1) = e + 1 by unfold wrap64; omega]
      · have : e + 1 + (E.length : Int) - ((NumP.rstrip E).length : Int) = e + ((E ++ [c]).length : Int) - ((NumP.rstrip E).length : Int) := by rw [hl]; omega
        rw [this]; exact h
    · rw [if_neg hc] at h
      refine Ev.step (fun k => ?_) h
      simp only [rubricatorref14_Parse.l2]
      rw [ofL_size, if_pos (by omega), hw, if_pos (by omega), if_pos (by omega), if_neg (fun z => hc (hbt.1 z))]
      congr 1; omega
/-! may it be? -/
theorem right_l0 (d : Bool) (D : List UInt8) (e : Int) (hD : D.length ≤ 1000000000000000000) (h0 : D ≠ []) (n : Nat) : ∀ i, i + n = D.length → (D.take i).all NumP.isD = true →
    Ev (fun k => rubricatorref14_Right.l0 k (i : Int) d (ofL D) e) (NumP.right (d, D, e)) := by
  have hpos : 0 < D.length := by cases D with | nil => exact absurd rfl h0 | cons _ _ => simp
  induction n with
  | zero =>
    intro i hi ha
    have : i = D.length := by omega
    subst this
    rw [List.take_of_length_le (Nat.le_refl _)] at ha
    refine Ev.step (f := fun _ => some (NumP.right (d, D, e))) (fun k => ?_) (Ev.now _)
    simp only [rubricatorref14_Right.l0]
    have hw : wrap64 ((D.length : Int) - 1) = ((D.length - 1 : Nat) : Int) := by unfold wrap64; omega
    rw [ofL_size, if_neg (by omega), hw]
    have hb0 := bt_eq D 0 hpos 48
    have hb1 := bt_eq D (D.length - 1) (by omega) 48
    change (bt (ofL D) 0 = 48) ↔ _ at hb0
    change (bt (ofL D) ((D.length - 1 : Nat) : Int) = 48) ↔ _ at hb1
    have q0 : D.head? = some D[0] := by cases D with | nil => exact absurd rfl h0 | cons _ _ => rfl
    have q1 : D.getLast? = some (D[D.length - 1]'(by omega)) := by rw [List.getLast?_eq_getElem?]; exact List.getElem?_eq_getElem _
    unfold NumP.right
    rw [if_neg h0]
    simp only [ha, q0, q1, Bool.true_and]
    by_cases e2 : (D.length : Int) ≤ 40
    · rw [if_pos e2, if_pos (by omega)]
      have e2' : decide (D.length ≤ 40) = true := by rw [decide_eq_true_eq]; omega
      by_cases e0 : D[0] = 48
      · rw [if_pos (hb0.2 e0)]; simp [e0]
      · rw [if_neg (fun z => e0 (hb0.1 z)), if_pos (by omega), if_pos (by omega)]
        by_cases e1 : D[D.length - 1]'(by omega) = 48
        · rw [if_pos (hb1.2 e1)]; simp [e1]
        · rw [if_neg (fun z => e1 (hb1.1 z))]
          have f0 : (some D[0] != some 48) = true := by simp [e0]
          have f1 : (some (D[D.length - 1]'(by omega)) != some 48) = true := by simp [e1]
          rw [e2', f0, f1]
          by_cases e3 : e > -1000
          · rw [if_pos e3]
            have : decide (-999 ≤ e) = true := by rw [decide_eq_true_eq]; omega
            rw [this]; congr 1
            simp only [Bool.true_and]
            rw [decide_eq_decide]; omega
          · rw [if_neg e3]
            have : decide (-999 ≤ e) = false := by rw [decide_eq_false_iff_not]; omega
            rw [this]; rfl
    · rw [if_neg e2]
      have e2' : decide (D.length ≤ 40) = false := by rw [decide_eq_false_iff_not]; omega
      rw [e2']; simp
  | succ n ih =>
    intro i hi ha
    have hl : i < D.length := by omega
    have hdH : dH (D.drop i) = NumP.isD D[i] := by rw [at_drop D i hl]; rfl
    cases hd : NumP.isD D[i] with
    | true =>
      refine Ev.step (fun k => ?_) (ih (i + 1) (by omega) (by rw [List.take_succ_eq_append_getElem hl, List.all_append, ha]; simp [hd]))
      simp only [rubricatorref14_Right.l0]
      rw [ofL_size, if_pos (by omega), dig_f, hdH, hd]
      simp only [Option.bind_some, if_true]
      rw [w1 i D.length (by omega) hD]
    | false =>
      refine Ev.step (f := fun _ => some (NumP.right (d, D, e))) (fun k => ?_) (Ev.now _)
      simp only [rubricatorref14_Right.l0]
      rw [ofL_size, if_pos (by omega), dig_f, hdH, hd]
      simp only [Option.bind_some, Bool.false_eq_true, if_false]
      congr 1
      unfold NumP.right
      rw [if_neg h0]
      have : D.all NumP.isD = false := by
        rw [List.all_eq_false]; exact ⟨D[i], List.getElem_mem _, by simp [hd]⟩
      simp [this]
theorem right_ev (d : Bool) (D : List UInt8) (e : Int) (hD : D.length ≤ 1000000000000000000) : Ev (fun k => rubricatorref14_Right.f k d (ofL D) e) (NumP.right (d, D, e)) := by
  by_cases h0 : D = []
  · subst h0
    refine Ev.congr (fun k => ?_) (Ev.now _)
    unfold rubricatorref14_Right.f NumP.right
    rw [if_pos (ofL_toList []), if_pos rfl]
    cases d <;> simp
  · refine Ev.congr (fun k => ?_) (right_l0 d D e hD h0 D.length 0 (by omega) (by simp))
    unfold rubricatorref14_Right.f
    rw [if_neg (by rw [ofL_toList]; exact h0)]; rfl
/-! the exponent, capped -/
def capE (E : List UInt8) (m : Int) : Int := E.foldl (fun n c => min (10 * n + (c.toNat : Int) - 48) 1000000) m
theorem capE_dig : ∀ (E : List UInt8) (m : Int) (l : Bool), E.all NumP.isD = true → E.foldl accE (m, l) = (capE E m, l)
  | [], _, _, _ => rfl
  | c :: t, m, l, h => by
    simp only [List.all_cons, Bool.and_eq_true] at h
    obtain ⟨n45, -, -, -, n43⟩ := NumP.isD_sign h.1
    rw [List.foldl_cons, show accE (m, l) c = (min (10 * m + (c.toNat : Int) - 48) 1000000, l) by unfold accE; rw [if_neg n45, if_neg n43]]
    exact capE_dig t _ l h.2
def valF (E : List UInt8) (m : Int) : Int := E.foldl (fun n c => 10 * n + ((c.toNat : Int) - 48)) m
theorem capE_val : ∀ (E : List UInt8) (a m : Int), E.all NumP.isD = true → 0 ≤ a → (m = min a 1000000) → capE E m = min (valF E a) 1000000 ∧ 0 ≤ valF E a
  | [], a, m, _, h0, h => ⟨h, h0⟩
  | c :: t, a, m, hd, h0, h => by
    simp only [List.all_cons, Bool.and_eq_true] at hd
    have hc := hd.1
    simp only [NumP.isD, decide_eq_true_eq] at hc
    exact capE_val t (10 * a + ((c.toNat : Int) - 48)) (min (10 * m + (c.toNat : Int) - 48) 1000000) hd.2 (by omega) (by omega)
theorem val_lstrip : ∀ E : List UInt8, NumP.val (NumP.lstrip E) = NumP.val E
  | [] => rfl
  | c :: t => by
    by_cases h : c = 48
    · subst h
      show NumP.val (NumP.lstrip t) = _
      rw [val_lstrip t]; rfl
    · have : NumP.isZ c = false := by simpa [NumP.isZ] using h
      simp [NumP.lstrip, this]
theorem val_ge : ∀ (E : List UInt8) (a : Int), E.all NumP.isD = true → 0 ≤ a → a * 10 ^ E.length ≤ valF E a
  | [], a, _, _ => by simp [valF]
  | c :: t, a, hd, h0 => by
    simp only [List.all_cons, Bool.and_eq_true] at hd
    have hc := hd.1
    simp only [NumP.isD, decide_eq_true_eq] at hc
    have ih := val_ge t (10 * a + ((c.toNat : Int) - 48)) hd.2 (by omega)
    have e : valF (c :: t) a = valF t (10 * a + ((c.toNat : Int) - 48)) := rfl
    rw [e]
    refine Int.le_trans ?_ ih
    rw [List.length_cons, Int.pow_succ, show a * (10 ^ t.length * 10) = (10 * a) * 10 ^ t.length by rw [← Int.mul_assoc, Int.mul_comm, ← Int.mul_assoc]]
    exact Int.mul_le_mul_of_nonneg_right (by omega) (Int.pow_nonneg (by omega))
/-- The exponent that is capped is the right one, or both are too great. -/
theorem cap_pow (E : List UInt8) (hd : E.all NumP.isD = true) : capE E 0 = NumP.pow E ∧ capE E 0 ≤ 1000000 ∧ 0 ≤ capE E 0 ∨ capE E 0 = 1000000 ∧ 1000000 ≤ NumP.pow E := by
  obtain ⟨h1, h2⟩ := capE_val E 0 0 hd (Int.le_refl _) (by omega)
  have hv : valF E 0 = NumP.val E := rfl
  rw [hv] at h1 h2
  unfold NumP.pow
  rw [val_lstrip]
  by_cases hl : (NumP.lstrip E).length > 10
  · rw [if_pos hl]
    right
    refine ⟨?_, by omega⟩
    have hz := dropAll NumP.isZ NumP.isD _ hd
    change (NumP.lstrip E).all NumP.isD = true at hz
    have hval : 1000000 ≤ NumP.val (NumP.lstrip E) := by
      cases hE : NumP.lstrip E with
      | nil => rw [hE] at hl; simp at hl
      | cons c t =>
        rw [hE] at hz hl
        simp only [List.all_cons, Bool.and_eq_true] at hz
        have hc := hz.1
        simp only [NumP.isD, decide_eq_true_eq] at hc
        have hc48 : c ≠ 48 := by
          intro z; subst z
          have : (NumP.lstrip E).head? = some 48 := by rw [hE]; rfl
          have h3 := List.head?_dropWhile_not NumP.isZ E
          unfold NumP.lstrip at this
          rw [this] at h3
          simp [NumP.isZ] at h3
        have hc49 : 49 ≤ c.toNat := by
          have : c.toNat ≠ 48 := fun z => hc48 (by rw [← UInt8.toNat_inj]; exact z)
          omega
        have hg := val_ge t ((c.toNat : Int) - 48) hz.2 (by omega)
        have e : NumP.val (c :: t) = valF t ((c.toNat : Int) - 48) := by unfold NumP.val valF; simp
        rw [e]
        simp only [List.length_cons] at hl
        have hp : (10 : Int) ^ 10 ≤ 10 ^ t.length := by
          have := Nat.pow_le_pow_right (n := 10) (by omega) (show 10 ≤ t.length by omega)
          exact_mod_cast this
        have : (1 : Int) * 10 ^ t.length ≤ ((c.toNat : Int) - 48) * 10 ^ t.length := Int.mul_le_mul_of_nonneg_right (by omega) (Int.pow_nonneg (by omega))
        have h10 : (10 : Int) ^ 10 = 10000000000 := by decide
        omega
    rw [val_lstrip] at hval
    omega
  · rw [if_neg hl]
    by_cases h : NumP.val E ≤ 1000000
    · left; omega
    · right; omega
/-! all of it -/
theorem acc_dig : ∀ (L : List UInt8) (d : Bool) (A : List UInt8), L.all NumP.isD = true → L.foldl accS (d, A) = (d, if A = [] then NumP.lstrip L else A ++ L)
  | [], d, A, _ => by by_cases h : A = [] <;> simp [h, NumP.lstrip]
  | c :: t, d, A, h => by
    simp only [List.all_cons, Bool.and_eq_true] at h
    obtain ⟨n45, n46, -⟩ := NumP.isD_sign h.1
    rw [List.foldl_cons]
    by_cases hA : A = []
    · subst hA
      rw [if_pos rfl]
      by_cases hc : c = 48
      · rw [show accS (d, []) c = (d, []) by unfold accS; rw [if_neg n45, if_neg n46, if_pos ⟨rfl, hc⟩], acc_dig t d [] h.2, if_pos rfl]
        simp [NumP.lstrip, NumP.isZ, hc]
      · rw [show accS (d, []) c = (d, [] ++ [c]) by unfold accS; rw [if_neg n45, if_neg n46, if_neg (fun z => hc z.2)], acc_dig t d _ h.2, if_neg (by simp)]
        simp [NumP.lstrip, NumP.isZ, hc]
    · rw [show accS (d, A) c = (d, A ++ [c]) by unfold accS; rw [if_neg n45, if_neg n46, if_neg (fun z => hA z.1)], acc_dig t d _ h.2, if_neg (by simp), if_neg hA]
      simp
theorem lstrip_app : ∀ W P : List UInt8, NumP.lstrip (W ++ P) = if NumP.lstrip W = [] then NumP.lstrip P else NumP.lstrip W ++ P
  | [], P => by simp [NumP.lstrip]
  | c :: t, P => by
    by_cases h : NumP.isZ c = true
    · have := lstrip_app t P
      simp only [NumP.lstrip, List.cons_append, List.dropWhile_cons, h, if_true] at this ⊢
      exact this
    · simp [NumP.lstrip, h]
theorem acc_all (d : Bool) (W P : List UInt8) (hW : W.all NumP.isD = true) (hP : P.all NumP.isD = true) : (NumP.sgn d ++ (W ++ NumP.dot P)).foldl accS (false, []) = (d, NumP.lstrip (W ++ P)) := by
  have h1 : (NumP.sgn d).foldl accS (false, []) = (d, []) := by cases d <;> simp [NumP.sgn, accS]
  rw [List.foldl_append, h1, List.foldl_append, acc_dig W d [] hW, if_pos rfl, lstrip_app]
  unfold NumP.dot
  cases P with
  | nil => simp [NumP.lstrip]
  | cons c t =>
    simp only [List.isEmpty_cons, Bool.false_eq_true, if_false, List.foldl_cons]
    rw [show accS (d, NumP.lstrip W) 46 = (d, NumP.lstrip W) by unfold accS; rw [if_neg (by decide), if_pos rfl], ← List.foldl_cons]
    exact acc_dig (c :: t) d _ hP
theorem parse_ev (s : List UInt8) (hs : s.length ≤ 300) :
    Ev (fun k => rubricatorref14_Parse.f k (ofL s)) ((NumP.parse s).1.1, ofL (NumP.parse s).1.2.1, (NumP.parse s).1.2.2, (NumP.parse s).2) := by
  obtain ⟨R, hR, h1, h2⟩ := grammar_ev s (by omega)
  cases hok : NumP.ok s with
  | false =>
    rw [show NumP.parse s = (NumP.zero, 11) by unfold NumP.parse; rw [if_neg (by rw [hok]; simp)]]
    refine Ev.bind hR ?_
    rw [hok] at h1
    refine Ev.congr (fun k => ?_) (Ev.now _)
    rw [h1]; rfl
  | true =>
    have hIs := NumP.Is.of_ok hok
    have hRv := h2 (h1.trans hok)
    subst hRv
    have hpow := cap_pow _ (expP_dig (NumP.rest2 s))
    have hnum : NumP.num s = NumP.form (NumP.down s) (NumP.whole s ++ NumP.dotP (NumP.rest1 s)) ((if NumP.expL (NumP.rest2 s) = true then - NumP.pow (NumP.expP (NumP.rest2 s)) else NumP.pow (NumP.expP (NumP.rest2 s))) - ((NumP.dotP (NumP.rest1 s)).length : Int)) := rfl
    have hparse : NumP.parse s = if NumP.right (NumP.num s) = true then (NumP.num s, 0) else (NumP.zero, 13) := by unfold NumP.parse; rw [if_pos hok]
    have hEd := expP_dig (NumP.rest2 s)
    generalize NumP.parse s = target at *
    generalize NumP.num s = nm at *
    generalize NumP.down s = d at *
    generalize NumP.whole s = W at *
    generalize NumP.dotP (NumP.rest1 s) = P at *
    generalize NumP.expL (NumP.rest2 s) = less at *
    generalize NumP.expP (NumP.rest2 s) = E at *
    obtain ⟨x, hx, hsx⟩ := hIs.text
    have hlen : s.length = (NumP.sgn d).length + W.length + (NumP.dot P).length + x.length := by rw [hsx]; simp; omega
    obtain ⟨q, hq⟩ : ∃ q, q = (NumP.sgn d).length + W.length + (NumP.dot P).length := ⟨_, rfl⟩
    have htake : s.take q = NumP.sgn d ++ (W ++ NumP.dot P) := by
      rw [hsx, show NumP.sgn d ++ (W ++ (NumP.dot P ++ x)) = (NumP.sgn d ++ (W ++ NumP.dot P)) ++ x by simp, List.take_append_of_le_length (by simp; omega), List.take_of_length_le (by simp; omega)]
    have hdrop : s.drop (q + 1) = x.tail := by
      have e1 : s.drop q = x := by
        rw [hsx, show NumP.sgn d ++ (W ++ (NumP.dot P ++ x)) = (NumP.sgn d ++ (W ++ NumP.dot P)) ++ x by simp]
        exact List.drop_left' (by simp; omega)
      rw [← List.drop_drop, e1, List.drop_one]
    have hdotl : ((NumP.dot P).length : Int) = if P = [] then 0 else (P.length : Int) + 1 := by
      unfold NumP.dot; cases P <;> simp
    -- the value of the exponent's loop
    have hcap0 : 0 ≤ capE E 0 ∧ capE E 0 ≤ 1000000 := by rcases hpow with h | h <;> omega
    have hexp : ∀ (D : ByteArray) (e : Int) (R : Bool × ByteArray × Int × Int), Ev (fun k => rubricatorref14_Parse.j3 k (if less = true then - capE E 0 else capE E 0) d D e) R → Ev (fun k => rubricatorref14_Parse.l1 k (ofL s) 0 false ((q + 1 : Nat) : Int) d D e) R := by
      intro D e R hR3
      by_cases hxe : x = []
      · have hz : less = false ∧ E = [] := by
          rcases hx.out with ⟨-, a, b⟩ | ⟨c, g, -, -, -, -, hxx⟩
          · exact ⟨a, b⟩
          · rw [hxx] at hxe; simp at hxe
        refine p1_end s 0 false _ d D e R (by rw [hlen, hxe]; simp; omega) (by omega) (by omega) ?_
        rw [hz.1, hz.2] at hR3
        exact hR3
      · rcases hx.out with ⟨a, -, -⟩ | ⟨c, g, hc, hg, hE, hd, hxx⟩
        · exact absurd a hxe
        · have ht : s.drop (q + 1) = g ++ E := by rw [hdrop, hxx]; rfl
          have hfold : (s.drop (q + 1)).foldl accE (0, false) = (capE E 0, less) := by
            rw [ht, List.foldl_append]
            rcases hg with ⟨rfl, rfl⟩ | ⟨rfl, rfl⟩ | ⟨rfl, rfl⟩
            · exact capE_dig E 0 false hd
            · rw [show List.foldl accE (0, false) [43] = (0, false) by simp [accE]]; exact capE_dig E 0 false hd
            · rw [show List.foldl accE (0, false) [45] = (0, true) by simp [accE]]; exact capE_dig E 0 true hd
          have hxl : 1 ≤ x.length := by cases x with | nil => exact absurd rfl hxe | cons _ _ => simp
          refine p1_ev s hs d D e R (s.length - (q + 1)) (q + 1) (0, false) (by omega) (by simp) (by simp) ?_ ?_
          · intro c hcm
            rw [ht, List.mem_append] at hcm
            rcases hcm with hcm | hcm
            · rcases hg with ⟨rfl, -⟩ | ⟨rfl, -⟩ | ⟨rfl, -⟩ <;> simp at hcm
              · right; left; exact hcm
              · left; exact hcm
            · right; right; exact List.all_eq_true.1 hd _ hcm
          · rw [hfold]
            exact p1_end s (capE E 0) less _ d D e R (Int.le_refl _) hcap0.1 hcap0.2 hR3
    have hPl : P.length ≤ 300 ∧ W.length ≤ 300 := by
      have : P.length ≤ (NumP.dot P).length := by unfold NumP.dot; cases P <;> simp
      omega
    have hLl : (NumP.lstrip (W ++ P)).length ≤ 600 := by
      have : (NumP.lstrip (W ++ P)).length ≤ (W ++ P).length := (List.dropWhile_suffix NumP.isZ).length_le
      rw [List.length_append] at this; omega
    have hRl := rstrip_le (NumP.lstrip (W ++ P))
    refine Ev.bind hR ?_
    simp only [if_true]
    have hps : (((NumP.sgn d).length + W.length : Nat) : Int) = (q : Int) - ((NumP.dot P).length : Int) := by omega
    rw [← hq]
    refine p0_ev s hs _ q (by omega) _ q 0 (false, []) (by omega) (by simp) ?_
    rw [List.drop_zero, htake, acc_all d W P hIs.wd hIs.pd]
    -- the loop's end
    refine Ev.step (f := fun k => rubricatorref14_Parse.j1 k (ofL s) (q : Int) d (ofL (NumP.lstrip (W ++ P))) (-(P.length : Int))) (fun k => ?_) ?_
    · simp only [rubricatorref14_Parse.l0]
      rw [if_neg (by omega)]
      by_cases hP0 : P = []
      · subst hP0
        rw [if_neg (by rw [hps]; simp [NumP.dot])]; rfl
      · rw [if_neg hP0] at hdotl
        rw [if_pos (by omega)]
        congr 1
        rw [hps, hdotl]; unfold wrap64; omega
    refine Ev.step (f := fun k => rubricatorref14_Parse.l1 k (ofL s) 0 false ((q + 1 : Nat) : Int) d (ofL (NumP.lstrip (W ++ P))) (-(P.length : Int))) (fun k => ?_) (hexp _ _ _ ?_)
    · simp only [rubricatorref14_Parse.j1]
      rw [w1 q s.length (by omega) (by omega)]
    obtain ⟨m, hm⟩ : ∃ m, m = (if less = true then - capE E 0 else capE E 0) := ⟨_, rfl⟩
    have hmb : -1000000 ≤ m ∧ m ≤ 1000000 := by rw [hm]; split <;> omega
    rw [← hm]
    refine Ev.step (f := fun k => rubricatorref14_Parse.l2 k d (ofL (NumP.lstrip (W ++ P))) (-(P.length : Int) + m)) (fun k => ?_) (p2_ev d _ _ _ _ rfl (by omega) (by omega) (by omega) ?_)
    · simp only [rubricatorref14_Parse.j3]
      rw [show wrap64 (-(P.length : Int) + m) = -(P.length : Int) + m by unfold wrap64; omega]
    -- what is told
    unfold NumP.form at hnum
    generalize hT : NumP.rstrip (NumP.lstrip (W ++ P)) = T at *
    generalize NumP.lstrip (W ++ P) = L at *
    by_cases hT0 : T = []
    · rw [if_pos hT0] at hnum
      have : target = (NumP.zero, 0) := by rw [hparse, hnum]; rfl
      rw [this, hT0]
      refine Ev.step (fun k => ?_) (Ev.now _)
      simp only [rubricatorref14_Parse.j5]
      rw [if_pos (ofL_toList [])]; rfl
    · rw [if_neg hT0] at hnum
      obtain ⟨e, he⟩ : ∃ e, e = -(P.length : Int) + m + (L.length : Int) - (T.length : Int) := ⟨_, rfl⟩
      rw [← he]
      have hre := right_ev d T e (by omega)
      have key : target = if NumP.right (d, T, e) = true then ((d, T, e), 0) else (NumP.zero, 13) := by
        rw [hparse]
        rcases hpow with ⟨hp, -⟩ | ⟨hp1, hp2⟩
        · have : nm = (d, T, e) := by
            rw [hnum, he, hm, ← hp]
            congr 2
            cases less <;> simp <;> omega
          rw [this]
        · have f1 : ∀ z : Int, z > 999 ∨ z < -999 → NumP.right (d, T, z) = false := fun z hz => by
            unfold NumP.right
            rw [if_neg hT0]
            rcases hz with hz | hz
            · have : decide (z ≤ 999) = false := by rw [decide_eq_false_iff_not]; omega
              simp only [this, Bool.and_false]
            · have : decide (-999 ≤ z) = false := by rw [decide_eq_false_iff_not]; omega
              simp only [this, Bool.and_false, Bool.false_and]
          rw [hnum, f1, f1]
          · simp
          · rw [he, hm, hp1]; cases less
            · left; simp only [Bool.false_eq_true, if_false]; omega
            · right; simp only [if_true]; omega
          · cases less
            · left; simp only [Bool.false_eq_true, if_false]; omega
            · right; simp only [if_true]; omega
      refine Ev.step (f := fun k => (rubricatorref14_Right.f k d (ofL T) e).bind fun t => if t = true then some (d, ofL T, e, 0) else some (false, ⟨#[]⟩, 0, 13)) (fun k => ?_) (Ev.bind hre ?_)
      · simp only [rubricatorref14_Parse.j5]
        rw [if_neg (by rw [ofL_toList]; exact hT0)]
      · rw [key]
        cases NumP.right (d, T, e) with
        | true => exact Ev.now _
        | false => exact Ev.now _
end Go.Proofs.YtbgigckmehgcpaaDoor
