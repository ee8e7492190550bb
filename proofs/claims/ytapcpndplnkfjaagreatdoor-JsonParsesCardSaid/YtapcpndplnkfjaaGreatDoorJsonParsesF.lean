/- What the law rests on, part 6: joined by a program of this session (claimx.py). -/
import Derived.Test.YtapcpndplnkfjaaGreatDoorJsonParsesE
set_option linter.unusedVariables false
set_option linter.unusedSimpArgs false
namespace Go.Proofs.YtapcpndplnkfjaaGreatDoor
open Go.RowKit Go.Proofs.YtapcpndplnkfjaaGreatDoorW.PrintWords Pr
def accS (a : Bool × List UInt8) (c : UInt8) : Bool × List UInt8 :=
 if c = 45 then (true, a.2) else if c = 46 then a else if a.2 = [] ∧ c = 48 then a else (a.1, a.2 ++ [c])
theorem bt_eq (s : List UInt8) (i : Nat) (h : i < s.length) (c : UInt8) : (bt (ofL s) (i : Int) = (c.toNat : Int)) ↔ s[i] = c := by
 rw [bt_ofL s i h]; exact head_byte _ _
theorem ofL_nil_iff (l : List UInt8) : (ofL l).toList = ([] : List UInt8) ↔ l = [] := by rw [ofL_toList]
theorem accS_len (a : Bool × List UInt8) (c : UInt8) : (accS a c).2.length ≤ a.2.length + 1 := by
 unfold accS; split
 · simp
 split
 · simp
 split <;> simp
theorem p0_ev (s : List UInt8) (hs : s.length ≤ 700) (p q : Nat) (hq : q ≤ s.length) (R : Bool × ByteArray × Int × Int) (n : Nat) : ∀ (i : Nat) (a : Bool × List UInt8), i + n = q → a.2.length ≤ i →
    Ev (fun k => R4Parse.l0 k (ofL s) (p : Int) (q : Int) (q : Int) (((s.take q).drop i).foldl accS a).1 (ofL (((s.take q).drop i).foldl accS a).2) 0) R →
    Ev (fun k => R4Parse.l0 k (ofL s) (p : Int) (q : Int) (i : Int) a.1 (ofL a.2) 0) R := by
 induction n with
 | zero =>
  intro i a hi ha h
  have : i = q := by omega
  subst this
  rw [List.drop_of_length_le (by rw [List.length_take]; omega)] at h
  exact h
 | succ n ih =>
  intro i a hi ha h
  have hl : i < s.length := by omega
  have hcons : (s.take q).drop i = s[i] :: (s.take q).drop (i + 1) := by
   rw [List.drop_eq_getElem_cons (by rw [List.length_take]; omega)]
   simp
  rw [hcons, List.foldl_cons] at h
  have hlen := accS_len a s[i]
  refine Ev.step (f := fun k => R4Parse.l0 k (ofL s) (p : Int) (q : Int) ((i + 1 : Nat) : Int) (accS a s[i]).1 (ofL (accS a s[i]).2) 0) (fun k => ?_) (ih (i + 1) _ (by omega) (by omega) h)
  simp only [R4Parse.l0]
  rw [if_pos (by omega), if_pos (by omega), ofL_size, if_pos (by omega), w1 i s.length (by omega) (by omega)]
  have hx : (ofL s).extract ((i : Int)).toNat (((i + 1 : Nat) : Int)).toNat = ofL [s[i]] := by
   rw [ofL_ext]
   congr 1
   have e1 : ((i : Int)).toNat = i := by omega
   have e2 : (((i + 1 : Nat) : Int)).toNat = i + 1 := by omega
   rw [e1, e2, List.take_succ_eq_append_getElem hl, List.drop_append_of_le_length (by rw [List.length_take]; omega), List.drop_of_length_le (by rw [List.length_take]; omega)]
   rfl
  rw [hx, ofL_size]
  have h45 := bt_eq s i hl 45
  have h46 := bt_eq s i hl 46
  have h48 := bt_eq s i hl 48
  change (bt (ofL s) (i : Int) = 45) ↔ _ at h45
  change (bt (ofL s) (i : Int) = 46) ↔ _ at h46
  change (bt (ofL s) (i : Int) = 48) ↔ _ at h48
  have hcat : accS a s[i] = (a.1, a.2 ++ [s[i]]) → (if (i : Int) ≤ ((i + 1 : Nat) : Int) then (if ((i + 1 : Nat) : Int) ≤ (s.length : Int) then (if a.2.length + (ofL [s[i]]).size ≤ 9223372036854775807 then (R4Parse.l0 k (ofL s) (p : Int) (q : Int) ((i + 1 : Nat) : Int) a.1 (ofL a.2 ++ ofL [s[i]]) 0) else none) else none) else none) = R4Parse.l0 k (ofL s) (p : Int) (q : Int) ((i + 1 : Nat) : Int) (accS a s[i]).1 (ofL (accS a s[i]).2) 0 := fun ha2 => by
   rw [if_pos (by omega), if_pos (by omega), if_pos (by rw [ofL_size]; simp; omega), ofL_app, ha2]
  by_cases c45 : s[i] = 45
  · rw [if_pos (h45.2 c45), show accS a s[i] = (true, a.2) by unfold accS; rw [if_pos c45]]
  rw [if_neg (fun z => c45 (h45.1 z))]
  by_cases c46 : s[i] = 46
  · rw [if_pos (h46.2 c46), show accS a s[i] = a by unfold accS; rw [if_neg c45, if_pos c46]]
  rw [if_neg (fun z => c46 (h46.1 z))]
  by_cases e : a.2 = []
  · rw [if_pos ((ofL_nil_iff _).2 e)]
    by_cases c48 : s[i] = 48
    · rw [if_pos (h48.2 c48), show accS a s[i] = a by unfold accS; rw [if_neg c45, if_neg c46, if_pos ⟨e, c48⟩]]
    rw [if_neg (fun z => c48 (h48.1 z))]
    exact hcat (by unfold accS; rw [if_neg c45, if_neg c46, if_neg (fun z => c48 z.2)])
  rw [if_neg (fun z => e ((ofL_nil_iff _).1 z))]
  exact hcat (by unfold accS; rw [if_neg c45, if_neg c46, if_neg (fun z => e z.1)])
def accE (a : Int × Bool) (c : UInt8) : Int × Bool :=
 if c = 45 then (a.1, true) else if c = 43 then a else (min (10 * a.1 + (c.toNat : Int) - 48) 1000000, a.2)
theorem mn_min (a b : Int) : mn a b = min a b := by unfold mn; omega
theorem accE_bd (a : Int × Bool) (c : UInt8) (h0 : 0 ≤ a.1) (h1 : a.1 ≤ 1000000) (hc : c = 45 ∨ c = 43 ∨ NumP.isD c = true) : 0 ≤ (accE a c).1 ∧ (accE a c).1 ≤ 1000000 := by
 unfold accE
 split
 · exact ⟨h0, h1⟩
 split
 · exact ⟨h0, h1⟩
 rename_i n45 n43
 have hd : NumP.isD c = true := by rcases hc with e | e | e; exact absurd e n45; exact absurd e n43; exact e
 simp only [NumP.isD, decide_eq_true_eq] at hd
 show 0 ≤ min (10 * a.1 + (c.toNat : Int) - 48) 1000000 ∧ min (10 * a.1 + (c.toNat : Int) - 48) 1000000 ≤ 1000000
 omega
theorem p1_ev (s : List UInt8) (hs : s.length ≤ 700) (d : Bool) (D : ByteArray) (e : Int) (R : Bool × ByteArray × Int × Int) (n : Nat) : ∀ (i : Nat) (a : Int × Bool), i + n = s.length → 0 ≤ a.1 → a.1 ≤ 1000000 → (∀ c ∈ s.drop i, c = 45 ∨ c = 43 ∨ NumP.isD c = true) →
    Ev (fun k => R4Parse.l1 k (ofL s) ((s.drop i).foldl accE a).1 ((s.drop i).foldl accE a).2 (s.length : Int) d D e) R →
    Ev (fun k => R4Parse.l1 k (ofL s) a.1 a.2 (i : Int) d D e) R := by
 induction n with
 | zero =>
  intro i a hi h0 h1 hc h
  have : i = s.length := by omega
  subst this
  rw [List.drop_of_length_le (Nat.le_refl _)] at h
  exact h
 | succ n ih =>
  intro i a hi h0 h1 hc h
  have hl : i < s.length := by omega
  rw [at_drop s i hl] at h hc
  rw [List.foldl_cons] at h
  have hb := accE_bd a s[i] h0 h1 (hc _ List.mem_cons_self)
  refine Ev.step (f := fun k => R4Parse.l1 k (ofL s) (accE a s[i]).1 (accE a s[i]).2 ((i + 1 : Nat) : Int) d D e) (fun k => ?_) (ih (i + 1) _ (by omega) hb.1 hb.2 (fun c z => hc c (List.mem_cons_of_mem _ z)) h)
  simp only [R4Parse.l1]
  rw [ofL_size, if_pos (by omega), if_pos (by omega), w1 i s.length (by omega) (by omega)]
  have h45 := bt_eq s i hl 45
  have h43 := bt_eq s i hl 43
  change (bt (ofL s) (i : Int) = 45) ↔ _ at h45
  change (bt (ofL s) (i : Int) = 43) ↔ _ at h43
  have hbt := bt_ofL s i hl
  have hlt := (s[i]).toNat_lt
  unfold accE
  by_cases c45 : s[i] = 45
  · rw [if_pos (h45.2 c45), if_pos c45]
  rw [if_neg (fun z => c45 (h45.1 z)), if_neg c45]
  by_cases c43 : s[i] = 43
  · rw [if_pos (h43.2 c43), if_pos c43]
  rw [if_neg (fun z => c43 (h43.1 z)), if_neg c43, hbt, mn_min]
  have : wrap64 (wrap64 (wrap64 (10 * a.1) + wrap64 ((s[i].toNat : Int))) - 48) = 10 * a.1 + (s[i].toNat : Int) - 48 := by unfold wrap64; omega
  rw [this]
theorem p1_end (s : List UInt8) (m : Int) (l : Bool) (i : Int) (d : Bool) (D : ByteArray) (e : Int) (R : Bool × ByteArray × Int × Int) (hi : (s.length : Int) ≤ i) (h0 : 0 ≤ m) (h1 : m ≤ 1000000)
    (h : Ev (fun k => R4Parse.j3 k (if l = true then -m else m) d D e) R) : Ev (fun k => R4Parse.l1 k (ofL s) m l i d D e) R := by
 refine Ev.step (fun k => ?_) h
 simp only [R4Parse.l1]
 rw [ofL_size, if_neg (by omega)]
 cases l with
 | true => rw [if_pos rfl, if_pos rfl, show wrap64 (-m) = -m by unfold wrap64; omega]
 | false => rw [if_neg (by simp), if_neg (by simp)]
theorem rstrip_snoc (D : List UInt8) (c : UInt8) : NumP.rstrip (D ++ [c]) = if c = 48 then NumP.rstrip D else D ++ [c] := by
 unfold NumP.rstrip
 rw [List.reverse_append]
 by_cases h : c = 48
 · subst h; simp [NumP.isZ]
 simp [NumP.isZ, h]
theorem snoc_of (D : List UInt8) (h : 0 < D.length) : ∃ E c, D = E ++ [c] ∧ E.length + 1 = D.length := by
 refine ⟨D.dropLast, D.getLast (by intro z; subst z; simp at h), (List.dropLast_concat_getLast _).symm, ?_⟩
 rw [List.length_dropLast]; omega
theorem rstrip_le (D : List UInt8) : (NumP.rstrip D).length ≤ D.length := by
 unfold NumP.rstrip
 rw [List.length_reverse]
 exact Nat.le_trans (List.dropWhile_suffix NumP.isZ).length_le (by simp)
theorem p2_ev (d : Bool) (R : Bool × ByteArray × Int × Int) (n : Nat) : ∀ (D : List UInt8) (e : Int), D.length = n → n ≤ 2000 → -2000000 ≤ e → e ≤ 2000000 + 2000 - n →
    Ev (fun k => R4Parse.j5 k d (ofL (NumP.rstrip D)) (e + D.length - (NumP.rstrip D).length)) R → Ev (fun k => R4Parse.l2 k d (ofL D) e) R := by
 induction n with
 | zero =>
  intro D e hn _ _ _ h
  obtain rfl := List.length_eq_zero_iff.1 hn
  refine Ev.step (fun k => ?_) h
  simp only [R4Parse.l2]
  rw [ofL_size, if_neg (by simp)]
  congr 1; simp [NumP.rstrip]
 | succ n ih =>
  intro D e hn hb he1 he2 h
  obtain ⟨E, c, rfl, hE⟩ := snoc_of D (by omega)
  have hl : (E ++ [c]).length = n + 1 := hn
  have hw : wrap64 (((E ++ [c]).length : Int) - 1) = ((n : Nat) : Int) := by rw [hl]; unfold wrap64; omega
  have hEn : E.length = n := by omega
  have hbt : (bt (ofL (E ++ [c])) (n : Int) = 48) ↔ c = 48 := by
   have := bt_eq (E ++ [c]) n (by omega) 48
   change (bt (ofL (E ++ [c])) (n : Int) = 48) ↔ _ at this
   rw [this, List.getElem_append_right (by omega)]
   simp
  have hx : (ofL (E ++ [c])).extract 0 ((n : Int)).toNat = ofL E := by
   rw [ofL_ext]; congr 1
   have e1 : ((n : Int)).toNat = n := by omega
   rw [e1, List.drop_zero, List.take_append_of_le_length (by omega), List.take_of_length_le (by omega)]
  rw [rstrip_snoc] at h
  by_cases hc : c = 48
  · rw [if_pos hc] at h
    refine Ev.step (f := fun k => R4Parse.l2 k d (ofL E) (e + 1)) (fun k => ?_) (ih E (e + 1) hEn (by omega) (by omega) (by omega) ?_)
    · simp only [R4Parse.l2]
      rw [ofL_size, if_pos (by omega), hw, if_pos (by omega), if_pos (by omega), if_pos (hbt.2 hc), if_pos (by omega), hx, show wrap64 (e + 1) = e + 1 by unfold wrap64; omega]
    have : e + 1 + (E.length : Int) - ((NumP.rstrip E).length : Int) = e + ((E ++ [c]).length : Int) - ((NumP.rstrip E).length : Int) := by rw [hl]; omega
    rw [this]; exact h
  rw [if_neg hc] at h
  refine Ev.step (fun k => ?_) h
  simp only [R4Parse.l2]
  rw [ofL_size, if_pos (by omega), hw, if_pos (by omega), if_pos (by omega), if_neg (fun z => hc (hbt.1 z))]
  congr 1; omega
theorem right_l0 (d : Bool) (D : List UInt8) (e : Int) (hD : D.length ≤ 1000000000000000000) (h0 : D ≠ []) (n : Nat) : ∀ i, i + n = D.length → (D.take i).all NumP.isD = true →
    Ev (fun k => R4Right.l0 k (i : Int) d (ofL D) e) (NumP.right (d, D, e)) := by
 have hpos : 0 < D.length := by cases D with | nil => exact absurd rfl h0 | cons _ _ => simp
 induction n with
 | zero =>
  intro i hi ha
  have : i = D.length := by omega
  subst this
  rw [List.take_of_length_le (Nat.le_refl _)] at ha
  refine Ev.step (f := fun _ => some (NumP.right (d, D, e))) (fun k => ?_) (Ev.now _)
  simp only [R4Right.l0]
  have hw : wrap64 ((D.length : Int) - 1) = ((D.length - 1 : Nat) : Int) := by unfold wrap64; omega
  rw [ofL_size, if_neg (by omega), hw]
  have hb0 := bt_eq D 0 hpos 48
  have hb1 := bt_eq D (D.length - 1) (by omega) 48
  change (bt (ofL D) 0 = 48) ↔ _ at hb0
  change (bt (ofL D) ((D.length - 1 : Nat) : Int) = 48) ↔ _ at hb1
  have q0 : D.head? = some D[0] := by cases D with | nil => exact absurd rfl h0 | cons _ _ => rfl
  have q1 : D.getLast? = some (D[D.length - 1]'(by omega)) := by rw [List.getLast?_eq_getElem?]; exact List.getElem?_eq_getElem _
  unfold NumP.right
  rw [if_neg h0]
  simp only [ha, q0, q1, Bool.true_and]
  by_cases e2 : (D.length : Int) ≤ 40
  · rw [if_pos e2, if_pos (by omega)]
    have e2' : decide (D.length ≤ 40) = true := by rw [decide_eq_true_eq]; omega
    by_cases e0 : D[0] = 48
    · rw [if_pos (hb0.2 e0)]; simp [e0]
    rw [if_neg (fun z => e0 (hb0.1 z)), if_pos (by omega), if_pos (by omega)]
    by_cases e1 : D[D.length - 1]'(by omega) = 48
    · rw [if_pos (hb1.2 e1)]; simp [e1]
    rw [if_neg (fun z => e1 (hb1.1 z))]
    have f0 : (some D[0] != some 48) = true := by simp [e0]
    have f1 : (some (D[D.length - 1]'(by omega)) != some 48) = true := by simp [e1]
    rw [e2', f0, f1]
    by_cases e3 : e > -1000
    · rw [if_pos e3]
      have : decide (-999 ≤ e) = true := by rw [decide_eq_true_eq]; omega
      rw [this]; congr 1
      simp only [Bool.true_and]
      rw [decide_eq_decide]; omega
    rw [if_neg e3]
    have : decide (-999 ≤ e) = false := by rw [decide_eq_false_iff_not]; omega
    rw [this]; rfl
  rw [if_neg e2]
  have e2' : decide (D.length ≤ 40) = false := by rw [decide_eq_false_iff_not]; omega
  rw [e2']; simp
 | succ n ih =>
  intro i hi ha
  have hl : i < D.length := by omega
  have hdH : dH (D.drop i) = NumP.isD D[i] := by rw [at_drop D i hl]; rfl
  cases hd : NumP.isD D[i] with
  | true =>
   refine Ev.step (fun k => ?_) (ih (i + 1) (by omega) (by rw [List.take_succ_eq_append_getElem hl, List.all_append, ha]; simp [hd]))
   simp only [R4Right.l0]
   rw [ofL_size, if_pos (by omega), dig_f, hdH, hd]
   simp only [Option.bind_some, if_true]
   rw [w1 i D.length (by omega) hD]
  | false =>
   refine Ev.step (f := fun _ => some (NumP.right (d, D, e))) (fun k => ?_) (Ev.now _)
   simp only [R4Right.l0]
   rw [ofL_size, if_pos (by omega), dig_f, hdH, hd]
   simp only [Option.bind_some, Bool.false_eq_true, if_false]
   congr 1
   unfold NumP.right
   rw [if_neg h0]
   have : D.all NumP.isD = false := by
    rw [List.all_eq_false]; exact ⟨D[i], List.getElem_mem _, by simp [hd]⟩
   simp [this]
theorem right_ev (d : Bool) (D : List UInt8) (e : Int) (hD : D.length ≤ 1000000000000000000) : Ev (fun k => R4Right.f k d (ofL D) e) (NumP.right (d, D, e)) := by
 by_cases h0 : D = []
 · subst h0
   refine Ev.congr (fun k => ?_) (Ev.now _)
   unfold R4Right.f NumP.right
   rw [if_pos (ofL_toList []), if_pos rfl]
   cases d <;> simp
 refine Ev.congr (fun k => ?_) (right_l0 d D e hD h0 D.length 0 (by omega) (by simp))
 unfold R4Right.f
 rw [if_neg (by rw [ofL_toList]; exact h0)]; rfl
def capE (E : List UInt8) (m : Int) : Int := E.foldl (fun n c => min (10 * n + (c.toNat : Int) - 48) 1000000) m
theorem capE_dig : ∀ (E : List UInt8) (m : Int) (l : Bool), E.all NumP.isD = true → E.foldl accE (m, l) = (capE E m, l)
 | [], _, _, _ => rfl
 | c :: t, m, l, h => by
  simp only [List.all_cons, Bool.and_eq_true] at h
  obtain ⟨n45, -, -, -, n43⟩ := NumP.isD_sign h.1
  rw [List.foldl_cons, show accE (m, l) c = (min (10 * m + (c.toNat : Int) - 48) 1000000, l) by unfold accE; rw [if_neg n45, if_neg n43]]
  exact capE_dig t _ l h.2
def valF (E : List UInt8) (m : Int) : Int := E.foldl (fun n c => 10 * n + ((c.toNat : Int) - 48)) m
theorem capE_val : ∀ (E : List UInt8) (a m : Int), E.all NumP.isD = true → 0 ≤ a → (m = min a 1000000) → capE E m = min (valF E a) 1000000 ∧ 0 ≤ valF E a
 | [], a, m, _, h0, h => ⟨h, h0⟩
 | c :: t, a, m, hd, h0, h => by
  simp only [List.all_cons, Bool.and_eq_true] at hd
  have hc := hd.1
  simp only [NumP.isD, decide_eq_true_eq] at hc
  exact capE_val t (10 * a + ((c.toNat : Int) - 48)) (min (10 * m + (c.toNat : Int) - 48) 1000000) hd.2 (by omega) (by omega)
theorem val_lstrip : ∀ E : List UInt8, NumP.val (NumP.lstrip E) = NumP.val E
 | [] => rfl
 | c :: t => by
  by_cases h : c = 48
  · subst h
    show NumP.val (NumP.lstrip t) = _
    rw [val_lstrip t]; rfl
  have : NumP.isZ c = false := by simpa [NumP.isZ] using h
  simp [NumP.lstrip, this]
theorem val_ge : ∀ (E : List UInt8) (a : Int), E.all NumP.isD = true → 0 ≤ a → a * 10 ^ E.length ≤ valF E a
 | [], a, _, _ => by simp [valF]
 | c :: t, a, hd, h0 => by
  simp only [List.all_cons, Bool.and_eq_true] at hd
  have hc := hd.1
  simp only [NumP.isD, decide_eq_true_eq] at hc
  have ih := val_ge t (10 * a + ((c.toNat : Int) - 48)) hd.2 (by omega)
  have e : valF (c :: t) a = valF t (10 * a + ((c.toNat : Int) - 48)) := rfl
  rw [e]
  refine Int.le_trans ?_ ih
  rw [List.length_cons, Int.pow_succ, show a * (10 ^ t.length * 10) = (10 * a) * 10 ^ t.length by rw [← Int.mul_assoc, Int.mul_comm, ← Int.mul_assoc]]
  exact Int.mul_le_mul_of_nonneg_right (by omega) (Int.pow_nonneg (by omega))
theorem cap_pow (E : List UInt8) (hd : E.all NumP.isD = true) : capE E 0 = NumP.pow E ∧ capE E 0 ≤ 1000000 ∧ 0 ≤ capE E 0 ∨ capE E 0 = 1000000 ∧ 1000000 ≤ NumP.pow E := by
 obtain ⟨h1, h2⟩ := capE_val E 0 0 hd (Int.le_refl _) (by omega)
 have hv : valF E 0 = NumP.val E := rfl
 rw [hv] at h1 h2
 unfold NumP.pow
 rw [val_lstrip]
 by_cases hl : (NumP.lstrip E).length > 10
 · rw [if_pos hl]
   right
   refine ⟨?_, by omega⟩
   have hz := dropAll NumP.isZ NumP.isD _ hd
   change (NumP.lstrip E).all NumP.isD = true at hz
   have hval : 1000000 ≤ NumP.val (NumP.lstrip E) := by
    cases hE : NumP.lstrip E with
    | nil => rw [hE] at hl; simp at hl
    | cons c t =>
     rw [hE] at hz hl
     simp only [List.all_cons, Bool.and_eq_true] at hz
     have hc := hz.1
     simp only [NumP.isD, decide_eq_true_eq] at hc
     have hc48 : c ≠ 48 := by
      intro z; subst z
      have : (NumP.lstrip E).head? = some 48 := by rw [hE]; rfl
      have h3 := List.head?_dropWhile_not NumP.isZ E
      unfold NumP.lstrip at this
      rw [this] at h3
      simp [NumP.isZ] at h3
     have hc49 : 49 ≤ c.toNat := by
      have : c.toNat ≠ 48 := fun z => hc48 (by rw [← UInt8.toNat_inj]; exact z)
      omega
     have hg := val_ge t ((c.toNat : Int) - 48) hz.2 (by omega)
     have e : NumP.val (c :: t) = valF t ((c.toNat : Int) - 48) := by unfold NumP.val valF; simp
     rw [e]
     simp only [List.length_cons] at hl
     have hp : (10 : Int) ^ 10 ≤ 10 ^ t.length := by
      have := Nat.pow_le_pow_right (n := 10) (by omega) (show 10 ≤ t.length by omega)
      exact_mod_cast this
     have : (1 : Int) * 10 ^ t.length ≤ ((c.toNat : Int) - 48) * 10 ^ t.length := Int.mul_le_mul_of_nonneg_right (by omega) (Int.pow_nonneg (by omega))
     have h10 : (10 : Int) ^ 10 = 10000000000 := by decide
     omega
   rw [val_lstrip] at hval
   omega
 rw [if_neg hl]
 by_cases h : NumP.val E ≤ 1000000
 · left; omega
 right; omega
theorem acc_dig : ∀ (L : List UInt8) (d : Bool) (A : List UInt8), L.all NumP.isD = true → L.foldl accS (d, A) = (d, if A = [] then NumP.lstrip L else A ++ L)
 | [], d, A, _ => by by_cases h : A = [] <;> simp [h, NumP.lstrip]
 | c :: t, d, A, h => by
  simp only [List.all_cons, Bool.and_eq_true] at h
  obtain ⟨n45, n46, -⟩ := NumP.isD_sign h.1
  rw [List.foldl_cons]
  by_cases hA : A = []
  · subst hA
    rw [if_pos rfl]
    by_cases hc : c = 48
    · rw [show accS (d, []) c = (d, []) by unfold accS; rw [if_neg n45, if_neg n46, if_pos ⟨rfl, hc⟩], acc_dig t d [] h.2, if_pos rfl]
      simp [NumP.lstrip, NumP.isZ, hc]
    rw [show accS (d, []) c = (d, [] ++ [c]) by unfold accS; rw [if_neg n45, if_neg n46, if_neg (fun z => hc z.2)], acc_dig t d _ h.2, if_neg (by simp)]
    simp [NumP.lstrip, NumP.isZ, hc]
  rw [show accS (d, A) c = (d, A ++ [c]) by unfold accS; rw [if_neg n45, if_neg n46, if_neg (fun z => hA z.1)], acc_dig t d _ h.2, if_neg (by simp), if_neg hA]
  simp
theorem lstrip_app : ∀ W P : List UInt8, NumP.lstrip (W ++ P) = if NumP.lstrip W = [] then NumP.lstrip P else NumP.lstrip W ++ P
 | [], P => by simp [NumP.lstrip]
 | c :: t, P => by
  by_cases h : NumP.isZ c = true
  · have := lstrip_app t P
    simp only [NumP.lstrip, List.cons_append, List.dropWhile_cons, h, if_true] at this ⊢
    exact this
  simp [NumP.lstrip, h]
theorem acc_all (d : Bool) (W P : List UInt8) (hW : W.all NumP.isD = true) (hP : P.all NumP.isD = true) : (NumP.sgn d ++ (W ++ NumP.dot P)).foldl accS (false, []) = (d, NumP.lstrip (W ++ P)) := by
 have h1 : (NumP.sgn d).foldl accS (false, []) = (d, []) := by cases d <;> simp [NumP.sgn, accS]
 rw [List.foldl_append, h1, List.foldl_append, acc_dig W d [] hW, if_pos rfl, lstrip_app]
 unfold NumP.dot
 cases P with
 | nil => simp [NumP.lstrip]
 | cons c t =>
  simp only [List.isEmpty_cons, Bool.false_eq_true, if_false, List.foldl_cons]
  rw [show accS (d, NumP.lstrip W) 46 = (d, NumP.lstrip W) by unfold accS; rw [if_neg (by decide), if_pos rfl], ← List.foldl_cons]
  exact acc_dig (c :: t) d _ hP
theorem parse_ev (s : List UInt8) (hs : s.length ≤ 700) :
    Ev (fun k => R4Parse.f k (ofL s)) ((NumP.parse s).1.1, ofL (NumP.parse s).1.2.1, (NumP.parse s).1.2.2, (NumP.parse s).2) := by
 obtain ⟨R, hR, h1, h2⟩ := grammar_ev s (by omega)
 cases hok : NumP.ok s with
 | false =>
  rw [show NumP.parse s = (NumP.zero, 11) by unfold NumP.parse; rw [if_neg (by rw [hok]; simp)]]
  refine Ev.bind hR ?_
  rw [hok] at h1
  refine Ev.congr (fun k => ?_) (Ev.now _)
  rw [h1]; rfl
 | true =>
  have hIs := NumP.Is.of_ok hok
  have hRv := h2 (h1.trans hok)
  subst hRv
  have hpow := cap_pow _ (expP_dig (NumP.rest2 s))
  have hnum : NumP.num s = NumP.form (NumP.down s) (NumP.whole s ++ NumP.dotP (NumP.rest1 s)) ((if NumP.expL (NumP.rest2 s) = true then - NumP.pow (NumP.expP (NumP.rest2 s)) else NumP.pow (NumP.expP (NumP.rest2 s))) - ((NumP.dotP (NumP.rest1 s)).length : Int)) := rfl
  have hparse : NumP.parse s = if NumP.right (NumP.num s) = true then (NumP.num s, 0) else (NumP.zero, 13) := by unfold NumP.parse; rw [if_pos hok]
  have hEd := expP_dig (NumP.rest2 s)
  generalize NumP.parse s = target at *
  generalize NumP.num s = nm at *
  generalize NumP.down s = d at *
  generalize NumP.whole s = W at *
  generalize NumP.dotP (NumP.rest1 s) = P at *
  generalize NumP.expL (NumP.rest2 s) = less at *
  generalize NumP.expP (NumP.rest2 s) = E at *
  obtain ⟨x, hx, hsx⟩ := hIs.text
  have hlen : s.length = (NumP.sgn d).length + W.length + (NumP.dot P).length + x.length := by rw [hsx]; simp; omega
  obtain ⟨q, hq⟩ : ∃ q, q = (NumP.sgn d).length + W.length + (NumP.dot P).length := ⟨_, rfl⟩
  have htake : s.take q = NumP.sgn d ++ (W ++ NumP.dot P) := by
   rw [hsx, show NumP.sgn d ++ (W ++ (NumP.dot P ++ x)) = (NumP.sgn d ++ (W ++ NumP.dot P)) ++ x by simp, List.take_append_of_le_length (by simp; omega), List.take_of_length_le (by simp; omega)]
  have hdrop : s.drop (q + 1) = x.tail := by
   have e1 : s.drop q = x := by
    rw [hsx, show NumP.sgn d ++ (W ++ (NumP.dot P ++ x)) = (NumP.sgn d ++ (W ++ NumP.dot P)) ++ x by simp]
    exact List.drop_left' (by simp; omega)
   rw [← List.drop_drop, e1, List.drop_one]
  have hdotl : ((NumP.dot P).length : Int) = if P = [] then 0 else (P.length : Int) + 1 := by
   unfold NumP.dot; cases P <;> simp
  have hcap0 : 0 ≤ capE E 0 ∧ capE E 0 ≤ 1000000 := by rcases hpow with h | h <;> omega
  have hexp : ∀ (D : ByteArray) (e : Int) (R : Bool × ByteArray × Int × Int), Ev (fun k => R4Parse.j3 k (if less = true then - capE E 0 else capE E 0) d D e) R → Ev (fun k => R4Parse.l1 k (ofL s) 0 false ((q + 1 : Nat) : Int) d D e) R := by
   intro D e R hR3
   by_cases hxe : x = []
   · have hz : less = false ∧ E = [] := by
       rcases hx.out with ⟨-, a, b⟩ | ⟨c, g, -, -, -, -, hxx⟩
       · exact ⟨a, b⟩
       · rw [hxx] at hxe; simp at hxe
     refine p1_end s 0 false _ d D e R (by rw [hlen, hxe]; simp; omega) (by omega) (by omega) ?_
     rw [hz.1, hz.2] at hR3
     exact hR3
   rcases hx.out with ⟨a, -, -⟩ | ⟨c, g, hc, hg, hE, hd, hxx⟩
   · exact absurd a hxe
   have ht : s.drop (q + 1) = g ++ E := by rw [hdrop, hxx]; rfl
   have hfold : (s.drop (q + 1)).foldl accE (0, false) = (capE E 0, less) := by
    rw [ht, List.foldl_append]
    rcases hg with ⟨rfl, rfl⟩ | ⟨rfl, rfl⟩ | ⟨rfl, rfl⟩
    · exact capE_dig E 0 false hd
    · rw [show List.foldl accE (0, false) [43] = (0, false) by simp [accE]]; exact capE_dig E 0 false hd
    rw [show List.foldl accE (0, false) [45] = (0, true) by simp [accE]]; exact capE_dig E 0 true hd
   have hxl : 1 ≤ x.length := by cases x with | nil => exact absurd rfl hxe | cons _ _ => simp
   refine p1_ev s hs d D e R (s.length - (q + 1)) (q + 1) (0, false) (by omega) (by simp) (by simp) ?_ ?_
   · intro c hcm
     rw [ht, List.mem_append] at hcm
     rcases hcm with hcm | hcm
     · rcases hg with ⟨rfl, -⟩ | ⟨rfl, -⟩ | ⟨rfl, -⟩ <;> simp at hcm
       · right; left; exact hcm
       left; exact hcm
     right; right; exact List.all_eq_true.1 hd _ hcm
   rw [hfold]
   exact p1_end s (capE E 0) less _ d D e R (Int.le_refl _) hcap0.1 hcap0.2 hR3
  have hPl : P.length ≤ 700 ∧ W.length ≤ 700 := by
   have : P.length ≤ (NumP.dot P).length := by unfold NumP.dot; cases P <;> simp
   omega
  have hLl : (NumP.lstrip (W ++ P)).length ≤ 1400 := by
   have : (NumP.lstrip (W ++ P)).length ≤ (W ++ P).length := (List.dropWhile_suffix NumP.isZ).length_le
   rw [List.length_append] at this; omega
  have hRl := rstrip_le (NumP.lstrip (W ++ P))
  refine Ev.bind hR ?_
  simp only [if_true]
  have hps : (((NumP.sgn d).length + W.length : Nat) : Int) = (q : Int) - ((NumP.dot P).length : Int) := by omega
  rw [← hq]
  refine p0_ev s hs _ q (by omega) _ q 0 (false, []) (by omega) (by simp) ?_
  rw [List.drop_zero, htake, acc_all d W P hIs.wd hIs.pd]
  refine Ev.step (f := fun k => R4Parse.j1 k (ofL s) (q : Int) d (ofL (NumP.lstrip (W ++ P))) (-(P.length : Int))) (fun k => ?_) ?_
  · simp only [R4Parse.l0]
    rw [if_neg (by omega)]
    by_cases hP0 : P = []
    · subst hP0
      rw [if_neg (by rw [hps]; simp [NumP.dot])]; rfl
    rw [if_neg hP0] at hdotl
    rw [if_pos (by omega)]
    congr 1
    rw [hps, hdotl]; unfold wrap64; omega
  refine Ev.step (f := fun k => R4Parse.l1 k (ofL s) 0 false ((q + 1 : Nat) : Int) d (ofL (NumP.lstrip (W ++ P))) (-(P.length : Int))) (fun k => ?_) (hexp _ _ _ ?_)
  · simp only [R4Parse.j1]
    rw [w1 q s.length (by omega) (by omega)]
  obtain ⟨m, hm⟩ : ∃ m, m = (if less = true then - capE E 0 else capE E 0) := ⟨_, rfl⟩
  have hmb : -1000000 ≤ m ∧ m ≤ 1000000 := by rw [hm]; split <;> omega
  rw [← hm]
  refine Ev.step (f := fun k => R4Parse.l2 k d (ofL (NumP.lstrip (W ++ P))) (-(P.length : Int) + m)) (fun k => ?_) (p2_ev d _ _ _ _ rfl (by omega) (by omega) (by omega) ?_)
  · simp only [R4Parse.j3]
    rw [show wrap64 (-(P.length : Int) + m) = -(P.length : Int) + m by unfold wrap64; omega]
  unfold NumP.form at hnum
  generalize hT : NumP.rstrip (NumP.lstrip (W ++ P)) = T at *
  generalize NumP.lstrip (W ++ P) = L at *
  by_cases hT0 : T = []
  · rw [if_pos hT0] at hnum
    have : target = (NumP.zero, 0) := by rw [hparse, hnum]; rfl
    rw [this, hT0]
    refine Ev.step (fun k => ?_) (Ev.now _)
    simp only [R4Parse.j5]
    rw [if_pos (ofL_toList [])]; rfl
  rw [if_neg hT0] at hnum
  obtain ⟨e, he⟩ : ∃ e, e = -(P.length : Int) + m + (L.length : Int) - (T.length : Int) := ⟨_, rfl⟩
  rw [← he]
  have hre := right_ev d T e (by omega)
  have key : target = if NumP.right (d, T, e) = true then ((d, T, e), 0) else (NumP.zero, 13) := by
   rw [hparse]
   rcases hpow with ⟨hp, -⟩ | ⟨hp1, hp2⟩
   · have : nm = (d, T, e) := by
       rw [hnum, he, hm, ← hp]
       congr 2
       cases less <;> simp <;> omega
     rw [this]
   · have f1 : ∀ z : Int, z > 999 ∨ z < -999 → NumP.right (d, T, z) = false := fun z hz => by
       unfold NumP.right
       rw [if_neg hT0]
       rcases hz with hz | hz
       · have : decide (z ≤ 999) = false := by rw [decide_eq_false_iff_not]; omega
         simp only [this, Bool.and_false]
       · have : decide (-999 ≤ z) = false := by rw [decide_eq_false_iff_not]; omega
         simp only [this, Bool.and_false, Bool.false_and]
     rw [hnum, f1, f1]
     · simp
     · rw [he, hm, hp1]; cases less
       · left; simp only [Bool.false_eq_true, if_false]; omega
       right; simp only [if_true]; omega
     · cases less
       · left; simp only [Bool.false_eq_true, if_false]; omega
       right; simp only [if_true]; omega
  refine Ev.step (f := fun k => (R4Right.f k d (ofL T) e).bind fun t => if t = true then some (d, ofL T, e, 0) else some (false, ⟨#[]⟩, 0, 13)) (fun k => ?_) (Ev.bind hre ?_)
  · simp only [R4Parse.j5]
    rw [if_neg (by rw [ofL_toList]; exact hT0)]
  rw [key]
  cases NumP.right (d, T, e) with
  | true => exact Ev.now _
  | false => exact Ev.now _
end Go.Proofs.YtapcpndplnkfjaaGreatDoor
namespace Go.Proofs.YtapcpndplnkfjaaGreatDoor
open Go.RowKit Go.Proofs.YtapcpndplnkfjaaGreatDoorW.PrintWords Go.Proofs.YtapcpndplnkfjaaGreatDoorW.PrintLast Go.Proofs.YtapcpndplnkfjaaGreatDoorW.PrintMore
namespace Js
def numC : List UInt8 := [48, 49, 50, 51, 52, 53, 54, 55, 56, 57, 43, 45, 46, 101, 69]
theorem has_tab (b : UInt8) : R5has.f 20 ⟨#[48, 49, 50, 51, 52, 53, 54, 55, 56, 57, 43, 45, 46, 101, 69]⟩ (b.toNat : Int) = some (numC.contains b) := by
 have : ∀ k : Fin 256, R5has.f 20 ⟨#[48, 49, 50, 51, 52, 53, 54, 55, 56, 57, 43, 45, 46, 101, 69]⟩ ((UInt8.ofNat k.val).toNat : Int) = some (numC.contains (UInt8.ofNat k.val)) := by decide +kernel
 have h := this ⟨b.toNat, b.toNat_lt⟩
 rwa [show UInt8.ofNat (⟨b.toNat, b.toNat_lt⟩ : Fin 256).val = b from UInt8.ofNat_toNat] at h
set_option maxRecDepth 100000 in
set_option maxHeartbeats 8000000 in
theorem number15 : WC 76 #[] (fun b => b.e = 0) (fun b => (b.numV, b.numS)) := by
 intro s w w1 g a p o h hs he
 show Calls Tryz.prog 76 #[.pointer (some ⟨g, 0, none⟩)] w1 _
 have H := hi_ h
 have HS := hi_ hs
 have HE := hi_ he
 have HD := hi_ (h.ok he)
 have cc : ∀ ob, (w1.alloc ob).cell? ⟨g, 1, none⟩ = some (.int .i64 p) := fun ob => (H.out.below (Below.alloc (Below.refl _ _) (Nat.le_refl _) ob)).c1
 have HB0 : Hid (Below w1.heap.size w1 (w1.alloc (.cells zA 35))) := hi_ (Below.alloc (Below.refl _ _) (Nat.le_refl _) _)
 clear h hs he
 go_enter Tryz.func76, Tryz.ntmps76
 go_upto_block 0 with fail
 go_cut [] (fun wx => ∃ q : Nat, Hid (Rf s w wx g ⟨s.drop q, a.o, 0⟩ q o) ∧ Hid (p ≤ q ∧ q ≤ s.length ∧ s.drop q = a.numR) ∧ Hid (wx.heap[w1.heap.size]? = some (.cells zA 35 (0, 0))))
 case first =>
  go_wp2_with fail
  go_loopg [] (s.length - p) (fun kq wx => ∃ q : Nat, Hid (Rf s w wx g ⟨s.drop q, a.o, 0⟩ q o) ∧ Hid (p ≤ q ∧ kq + q = s.length ∧ Lib.trimLeftS (s.drop q) numC = a.numR) ∧ Hid (wx.heap[w1.heap.size]? = some (.cells zA 35 (0, 0))))
  case atStart =>
   refine ⟨p, hi_ ?_, hi_ ⟨Nat.le_refl _, by have := HD.out.1; omega, by rw [HD.out.2.1]; rfl⟩, hi_ (blk_new w1 _)⟩
   have h0 := H.out.below HB0.out
   exact ⟨by have := h0.cell; rw [HE.out] at this; exact this, h0.kp, h0.gl, h0.sl, h0.pl, fun _ => ⟨HD.out.1, rfl, HD.out.2.2⟩⟩
  case round =>
   obtain ⟨q, HQ, HP, HW⟩ := hrel
   clear cc
   by_cases hlt : q < s.length
   · obtain ⟨b, l, hd⟩ : ∃ b l, s.drop q = b :: l := by
       cases hd : s.drop q with
       | nil => have := congrArg List.length hd; simp at this; omega
       | cons b l => exact ⟨b, l, rfl⟩
     have hl : s.drop (q + 1) = l := by rw [← List.drop_drop, hd]; rfl
     have hbt : bt (ofL s) (q : Int) = (b.toNat : Int) := by rw [bt_drop s q hlt, hd]; rfl
     have c2 : decide ((q : Int) < ((ofL s).size : Int)) = true := by rw [ofL_size]; simp; omega
     have p4 : (0 ≤ (q : Int)) = True := eq_true (by omega)
     have q4 : ((q : Int) < ((ofL s).size : Int)) = True := eq_true (by rw [ofL_size]; omega)
     have HX := hi_ (bt_at (ofL s) (q : Int))
     cases hb : numC.contains b with
     | true =>
      have hh : R5has.f 20 ⟨#[48, 49, 50, 51, 52, 53, 54, 55, 56, 57, 43, 45, 46, 101, 69]⟩ (bt (ofL s) (q : Int)) = some true := by rw [hbt, has_tab, hb]
      have c0 := HQ.out.c0
      have c1 := HQ.out.c1
      have f1 := HQ.out.fz 1
      have HHH := hi_ hh
      have hx := HX.out
      clear hh hbt
      obtain ⟨A, hA⟩ : ∃ A, ofL s = A := ⟨_, rfl⟩
      obtain ⟨qi, hqi⟩ : ∃ qi : Int, (q : Int) = qi := ⟨_, rfl⟩
      rw [hA] at c0 c2 q4 hx HHH
      rw [hqi] at c1 c2 p4 q4 hx HHH
      have HA := hi_ hA
      have HQI := hi_ hqi
      have HHD := hi_ (And.intro hd (And.intro hl (And.intro hlt hb)))
      clear hA hqi HX hd hl hlt hb
      go_wp2
      go_quiet ((go_at_call 109; exact Calls.quiet_of ((R5has.calls 20 _ _ _ _ HHH.out).mono (fun _ _ hd => ⟨hd.1, hd.2.out⟩))))
      go_wp2
      go_roundg (gk - 1)
      case measure => have := HP.out; have := HHD.out; omega
      case rel =>
       have hb2 := HHD.out
       have hp2 := HP.out
       have hsl := HQ.out.sl
       have hw : ((q + 1 : Nat) : Int) = wrap64 (qi + 1) := by rw [← HQI.out, w1n q s.length (by omega) (by omega)]
       have hst := fun n => (HQ.out.dN n).s1 (q + 1) ⟨s.drop (q + 1), a.o, 0⟩ rfl (by omega) (fun _ => ⟨by omega, rfl, (HQ.out.ok rfl).2.2⟩)
       refine ⟨q + 1, hi_ ?_, hi_ ⟨by omega, by omega, ?_⟩, hi_ ?_⟩
       · have := hst nq
         rw [hw] at this
         exact this
       · rw [← hp2.2.2, hb2.1, hb2.2.1]
         unfold Lib.trimLeftS
         rw [List.dropWhile_cons, hb2.2.2.2]
         rfl
       exact (Below.heap_setCell _ _ _ _ (Nat.ne_of_gt H.out.lt)).trans HW.out
     | false =>
      have hh : R5has.f 20 ⟨#[48, 49, 50, 51, 52, 53, 54, 55, 56, 57, 43, 45, 46, 101, 69]⟩ (bt (ofL s) (q : Int)) = some false := by rw [hbt, has_tab, hb]
      have HNR : Hid (a.numR = s.drop q) := hi_ (by rw [← HP.out.2.2, hd]; unfold Lib.trimLeftS; rw [List.dropWhile_cons, hb]; rfl)
      have c0 := HQ.out.c0
      have c1 := HQ.out.c1
      have f1 := HQ.out.fz 1
      have HHH := hi_ hh
      have hx := HX.out
      clear hh hbt
      obtain ⟨A, hA⟩ : ∃ A, ofL s = A := ⟨_, rfl⟩
      obtain ⟨qi, hqi⟩ : ∃ qi : Int, (q : Int) = qi := ⟨_, rfl⟩
      rw [hA] at c0 c2 q4 hx HHH
      rw [hqi] at c1 c2 p4 q4 hx HHH
      have HA := hi_ hA
      have HQI := hi_ hqi
      have HHD := hi_ hlt
      clear hA hqi HX hd hl hlt hb
      go_wp2
      go_quiet ((go_at_call 109; exact Calls.quiet_of ((R5has.calls 20 _ _ _ _ HHH.out).mono (fun _ _ hd => ⟨hd.1, hd.2.out⟩))))
      go_wp2
      go_meet
      exact ⟨q, hi_ (HQ.out.dN _), hi_ ⟨HP.out.1, Nat.le_of_lt HHD.out, HNR.out.symm⟩, HW⟩
   have c2 : decide ((q : Int) < ((ofL s).size : Int)) = false := by rw [ofL_size]; simp; omega
   have HNR : Hid (a.numR = s.drop q) := hi_ (by rw [← HP.out.2.2, List.drop_eq_nil_of_le (by omega)]; rfl)
   have hx0 := HQ.out.c0
   have hx1 := HQ.out.c1
   have HLE : Hid (q ≤ s.length) := hi_ (by have := HP.out; omega)
   obtain ⟨A, hA⟩ : ∃ A, ofL s = A := ⟨_, rfl⟩
   obtain ⟨qi, hqi⟩ : ∃ qi : Int, (q : Int) = qi := ⟨_, rfl⟩
   rw [hA] at hx0 c2
   rw [hqi] at hx1 c2
   clear hA hqi hlt
   go_wp2
   go_quiet (fail)
   go_wp2
   go_meet
   exact ⟨q, hi_ (HQ.out.dN _), hi_ ⟨HP.out.1, HLE.out, HNR.out.symm⟩, HW⟩
 case rest =>
  obtain ⟨q, HQ, HP, HW⟩ := hcut
  clear cc
  go_wp2_with fail
  have hlen : a.numL.length = q - p := by
   unfold S.numL
   rw [List.length_take, ← HP.out.2.2, ← HD.out.2.1, List.length_drop, List.length_drop]
   have := HP.out; omega
  have HNL : Hid (a.numL.length ≤ 700) := hi_ (by rw [hlen]; have := HP.out; have := HS.out; omega)
  have HX : Hid ((ofL s).extract ((p : Int)).toNat ((q : Int)).toNat = ofL a.numL) := hi_ (by
   rw [Int.toNat_natCast, Int.toNat_natCast, ofL_ext]
   unfold S.numL
   rw [← HP.out.2.2, ← HD.out.2.1, List.length_drop, List.length_drop, List.take_drop]
   congr 3
   have := HP.out; omega)
  obtain ⟨kp, hkp⟩ := (parse_ev a.numL HNL.out).rounds
  have HPP := hi_ hkp
  clear hkp hlen
  have c0 := HQ.out.c0
  have c1 := HQ.out.c1
  have w00 : (0 : Int) ≤ (p : Int) := by omega
  have w01 : (p : Int) ≤ (q : Int) := by have := HP.out; omega
  have w02 : (q : Int) ≤ ((ofL s).size : Int) := by rw [ofL_size]; have := HP.out; omega
  obtain ⟨A, hA⟩ : ∃ A, ofL s = A := ⟨_, rfl⟩
  obtain ⟨qi, hqi⟩ : ∃ qi : Int, (q : Int) = qi := ⟨_, rfl⟩
  obtain ⟨pi, hpi⟩ : ∃ pi : Int, (p : Int) = pi := ⟨_, rfl⟩
  rw [hA] at c0 w02 HX
  rw [hqi] at c1 w01 w02 HX
  rw [hpi] at w00 w01 HX
  rw [hpi]
  clear hA hqi hpi
  have hlt : w1.heap.size < wc.heap.size := (Array.getElem?_eq_some_iff.1 HW.out).1
  have HLT := hi_ hlt
  have HGL := hi_ HQ.out.lt
  clear hlt
  go_cut [4, 5] (fun s4 s5 wx => ∃ b, w1.heap.size < b ∧ g < b ∧ s4 = .pointer (some ⟨b, 0, none⟩) ∧ s5 = .int .i64 (NumP.parse a.numL).2 ∧ wx.heap[b]? = some (.cells #[.bool (NumP.parse a.numL).1.1, .string (ofL (NumP.parse a.numL).1.2.1), .int .i64 (NumP.parse a.numL).1.2.2] 32 (0, 0)) ∧ Below wc.heap.size wc wx)
  case first =>
   have hc : ∀ w3, Below wc.drew.heap.size wc.drew w3 → w3.cell? ⟨g, 0, none⟩ = some (.string A) ∧ w3.cell? ⟨g, 1, none⟩ = some (.int .i64 qi) := fun w3 hb => ⟨(hb.cell (p := ⟨g, 0, none⟩) HGL.out).trans c0, (hb.cell (p := ⟨g, 1, none⟩) HGL.out).trans c1⟩
   have HC := hi_ hc
   clear hc
   have HCS : Hid (∀ (W : World) (v0 v1 v2 : Value), (((W.setCell ⟨wc.heap.size, 0, none⟩ v0).setCell ⟨wc.heap.size, 1, none⟩ v1).setCell ⟨wc.heap.size, 2, none⟩ v2).cell? ⟨g, 0, none⟩ = W.cell? ⟨g, 0, none⟩ ∧ (((W.setCell ⟨wc.heap.size, 0, none⟩ v0).setCell ⟨wc.heap.size, 1, none⟩ v1).setCell ⟨wc.heap.size, 2, none⟩ v2).cell? ⟨g, 1, none⟩ = W.cell? ⟨g, 1, none⟩) :=
    hi_ (fun W v0 v1 v2 => ⟨World.cell?_of_block (((Below.heap_setCell _ _ _ _ (Nat.ne_of_lt HGL.out)).trans (Below.heap_setCell _ _ _ _ (Nat.ne_of_lt HGL.out))).trans (Below.heap_setCell _ _ _ _ (Nat.ne_of_lt HGL.out))), World.cell?_of_block (((Below.heap_setCell _ _ _ _ (Nat.ne_of_lt HGL.out)).trans (Below.heap_setCell _ _ _ _ (Nat.ne_of_lt HGL.out))).trans (Below.heap_setCell _ _ _ _ (Nat.ne_of_lt HGL.out)))⟩)
   have HQ4 : Hid (∀ w5, Below (wc.drew.alloc (.cells #[.bool false, .string ⟨#[]⟩, .int .i64 0] 32)).heap.size (wc.drew.alloc (.cells #[.bool false, .string ⟨#[]⟩, .int .i64 0] 32)) w5 →
       w5.cell? ⟨wc.heap.size, 0, none⟩ = some (.bool false) ∧ w5.cell? ⟨wc.heap.size, 1, none⟩ = some (.string ⟨#[]⟩) ∧ w5.cell? ⟨wc.heap.size, 2, none⟩ = some (.int .i64 0) ∧
       w5.frozen? ⟨wc.heap.size, 0, none⟩ = false ∧ w5.frozen? ⟨wc.heap.size, 1, none⟩ = false ∧ w5.frozen? ⟨wc.heap.size, 2, none⟩ = false) := hi_ (fun w5 hb => by
    have q := (hb.block wc.heap.size (by simp)).trans (blk_new wc.drew _)
    exact ⟨(blk_cell q 0).trans rfl, (blk_cell q 1).trans rfl, (blk_cell q 2).trans rfl, blk_frozen q 0, blk_frozen q 1, blk_frozen q 2⟩)
   go_region_held3 (fun w' => w'.cell? ⟨g, 0, none⟩ = some (.string A) ∧ w'.cell? ⟨g, 1, none⟩ = some (.int .i64 qi)) (first | exact ⟨c0, c1⟩ | exact HC.out _ hb5 | exact HC.out _ (hb5.alloc hb5.size _) | exact HC.out _ ((Below.refl _ _).alloc (Nat.le_refl _) _) | exact HC.out _ (((Below.refl _ _).alloc (Nat.le_refl _) _).trans (hb5.mono (Below.size ((Below.refl _ _).alloc (Nat.le_refl _) _)))) | exact ⟨(HCS.out _ _ _ _).1.trans (HC.out _ (((Below.refl _ _).alloc (Nat.le_refl _) _).trans (hb5.mono (Below.size ((Below.refl _ _).alloc (Nat.le_refl _) _))))).1, (HCS.out _ _ _ _).2.trans (HC.out _ (((Below.refl _ _).alloc (Nat.le_refl _) _).trans (hb5.mono (Below.size ((Below.refl _ _).alloc (Nat.le_refl _) _))))).2⟩ | go_keep) (first | (go_at_call 110; rw [HX.out]; refine (R4Parse.calls _ _ _ _ _ _ _ HPP.out).mono ?_; rintro E w5 ⟨rfl, hb5⟩; have qq := HQ4.out _ hb5; obtain ⟨q0, q1, q2, f0, f1, f2⟩ := qq) | (go_at_call 110; rw [HX.out]; refine (R4Parse.calls _ _ _ _ _ _ _ HPP.out).mono ?_; rintro E w5 ⟨rfl, hb5⟩))
   · go_wp2
     go_meet
     have hb := (Below.refl _ _).drew.trans hb5
     exact ⟨w5.heap.size, Nat.lt_of_lt_of_le HLT.out hb.size, Nat.lt_of_lt_of_le HGL.out hb.size, rfl, rfl, blk_new _ _, hb.alloc hb.size _⟩
   have q := (hb5.block wc.heap.size (by simp)).trans (blk_new wc.drew _)
   have hb : Below wc.heap.size wc w5 := (((Below.refl _ _).alloc (Nat.le_refl _) _).drew).trans (hb5.mono (by simp))
   have HQ5 := hi_ q
   have HB5 := hi_ hb
   clear q hb hb5 q0 q1 q2 f0 f1 f2
   go_wp2
   go_meet
   exact ⟨wc.heap.size, HLT.out, HGL.out, rfl, rfl, blk_put (blk_put (blk_put HQ5.out 0 _ rfl) 1 _ rfl) 2 _ rfl, ((HB5.out.setCell (by simp) _).setCell (by simp) _).setCell (by simp) _⟩
  case rest =>
   obtain ⟨b, hb1, hbg, rfl, rfl, hb2, hb3⟩ := hcut
   have H3 := hi_ (HQ.out.below hb3)
   have HR3 := hi_ ((hb3.block _ HLT.out).trans HW.out)
   have HB3 := hi_ hb2
   have HBG := hi_ hbg
   clear hb2 hb3 c0 c1 w00 w01 w02 hbg
   obtain ⟨e, he⟩ : ∃ e, (NumP.parse a.numL).2 = e := ⟨_, rfl⟩
   rw [he]
   have HEE := hi_ he
   clear he
   by_cases he0 : e = 0
   · have e1 : (e != 0) = false := by simp [he0]
     have HNS : Hid (a.numS = ⟨s.drop q, a.o, 0⟩) := hi_ (by unfold S.numS; rw [HEE.out, he0, HP.out.2.2]; simp [HE.out])
     clear he0
     have HR5 := HR3
     have HB5 := HB3
     have H5 : Hid (Rf s w _ g a.numS q o) := hi_ (by rw [HNS.out]; exact H3.out)
     go_wp2_with (first | (refine wpList_load_row rfl 32 (.tmp 4) rfl b rfl 32 _ (0, 0) _ HB5.out Tryz.underlying32 rfl (by kernel_rfl) ?_) | (refine row_event rfl 35 (.tmp 2) (.tmp 59) rfl w1.heap.size _ rfl rfl 35 _ HR5.out (by kernel_rfl) rfl rfl ?_; intro w6 hr6 hk6))
     have h6 := H5.out.far hk6 (Nat.ne_of_gt H.out.lt) H.out.kp.size
     exact bodyPost_ret (results_cell_row rfl _ _ w1.heap.size 35 _ (0, 0) _ rfl hr6 Tryz.underlying35 rfl (by kernel_rfl)) rfl ⟨_, a.numV, q, o, rfl, Jw.flat w6 _ a.numV rfl rfl, h6, fun _ => rfl⟩
   have e1 : (e != 0) = true := by simp [he0]
   have HNS : Hid (a.numS = S.fail ⟨s.drop q, a.o, 0⟩ e) := hi_ (by unfold S.numS S.fail; rw [HEE.out, HP.out.2.2]; simp [he0, HE.out])
   have HE0 := hi_ he0
   clear he0
   go_wp2_with fail
   refine (fail15 H3.out.now e HE0.out).mono ?_
   rintro E w4 ⟨rfl, h4⟩
   have HR5 := hi_ (h4.keep HR3.out (Nat.ne_of_gt H.out.lt))
   have HB5 := hi_ (h4.keep HB3.out (Nat.ne_of_gt HBG.out))
   have H5 : Hid (Rf s w w4 g a.numS q o) := hi_ (by rw [HNS.out]; exact H3.out.trans h4)
   clear h4
   go_wp2_with (first | (refine wpList_load_row rfl 32 (.tmp 4) rfl b rfl 32 _ (0, 0) _ HB5.out Tryz.underlying32 rfl (by kernel_rfl) ?_) | (refine row_event rfl 35 (.tmp 2) (.tmp 59) rfl w1.heap.size _ rfl rfl 35 _ HR5.out (by kernel_rfl) rfl rfl ?_; intro w6 hr6 hk6))
   have h6 := H5.out.far hk6 (Nat.ne_of_gt H.out.lt) H.out.kp.size
   exact bodyPost_ret (results_cell_row rfl _ _ w1.heap.size 35 _ (0, 0) _ rfl hr6 Tryz.underlying35 rfl (by kernel_rfl)) rfl ⟨_, a.numV, q, o, rfl, Jw.flat w6 _ a.numV rfl rfl, h6, fun _ => rfl⟩
def goF {σ : Type} (st : σ → S → σ × S) (p : UInt8) (x : σ) (b : S) : σ × S :=
 ((listLoop st ((st x b).2.s.length + 1) (st x b).1 (st x b).2).1, ((listLoop st ((st x b).2.s.length + 1) (st x b).1 (st x b).2).2.need [p]).left)
theorem listG_F {σ : Type} (st : σ → S → σ × S) (p : UInt8) (x : σ) (a : S) : listG st [p] x a = if a.took [p] = true then (x, (a.take [p]).left) else goF st p x (a.take [p]) := rfl
theorem took_pk (a : S) (c : UInt8) (hc : c ≠ 0) : a.took [c] = (decide (pk a.skip.s = (c.toNat : Int)) && (a.e == 0)) := by
 unfold S.took Lib.hasPrefix
 congr 1
 cases hs : a.skip.s with
 | nil =>
  rw [show [c].isPrefixOf ([] : List UInt8) = false from rfl]
  refine Eq.symm ?_
  rw [decide_eq_false_iff_not]
  intro h
  have : c.toNat = 0 := by have h2 : (0 : Int) = (c.toNat : Int) := h; omega
  exact hc (by rw [← UInt8.toNat_inj]; exact this)
 | cons d l =>
  have : pk (d :: l) = (d.toNat : Int) := rfl
  rw [this]
  by_cases h : d = c
  · subst h; simp [List.isPrefixOf]
  have h2 : ¬ ((d.toNat : Int) = (c.toNat : Int)) := fun e => h ((byte_eq d c).1 e)
  have h3 : ([c].isPrefixOf (d :: l)) = false := by simp [List.isPrefixOf]; exact fun e => h e.symm
  rw [h3]; exact (decide_eq_false_iff_not.2 h2).symm
theorem take_pk (a : S) (c : UInt8) (hc : c ≠ 0) (he : a.e = 0) (h : pk a.skip.s = (c.toNat : Int)) : a.took [c] = true ∧ a.take [c] = ⟨a.skip.s.tail, a.o, 0⟩ := by
 have ht : a.took [c] = true := by rw [took_pk a c hc, he]; simpa using h
 refine ⟨ht, ?_⟩
 rw [take_yes ht, he]
 have hp : Lib.hasPrefix a.skip.s [c] = true := by unfold S.took at ht; simp only [Bool.and_eq_true] at ht; exact ht.1
 unfold Lib.trimPrefix
 rw [hp]
 simp
theorem loop_fuel {σ : Type} {st : σ → S → σ × S} (hst : ∀ x b, (st x b).2.s.length ≤ b.s.length) : ∀ (n m : Nat) (x : σ) (a : S), a.s.length < n → a.s.length < m → listLoop st n x a = listLoop st m x a
 | 0, _, _, _, h, _ => absurd h (by omega)
 | _, 0, _, _, _, h => absurd h (by omega)
 | n + 1, m + 1, x, a, h, k => by
  rw [listLoop, listLoop]
  by_cases ht : a.took [44] = true
  · rw [if_pos ht, if_pos ht]
    have h1 := took_lt a 44 ht
    have h2 := hst x (a.take [44])
    exact loop_fuel hst n m _ _ (by omega) (by omega)
  rw [if_neg ht, if_neg ht]
theorem goF_bad {σ : Type} {st : σ → S → σ × S} (p : UInt8) (x : σ) (b : S) (h : (st x b).2.e ≠ 0) : (goF st p x b).2.e = (st x b).2.e := by
 have h3 := loop_bad st h ((st x b).2.s.length + 1) (st x b).1
 have h4 := need_e (by rw [h3]; exact h) [p]
 show ((listLoop st _ _ _).2.need [p]).e = _
 rw [h4, h3]
theorem goF_more {σ : Type} {st : σ → S → σ × S} (hst : ∀ x b, (st x b).2.s.length ≤ b.s.length) (p : UInt8) (x : σ) (b : S) (h : (st x b).2.e = 0) (hk : pk (st x b).2.skip.s = 44) :
    goF st p x b = goF st p (st x b).1 ⟨(st x b).2.skip.s.tail, (st x b).2.o, 0⟩ := by
 obtain ⟨h1, h2⟩ := take_pk (st x b).2 44 (by decide) h hk
 have h3 := took_lt (st x b).2 44 h1
 unfold goF
 rw [listLoop, if_pos h1]
 rw [h2] at h3 ⊢
 have h4 := hst (st x b).1 ⟨(st x b).2.skip.s.tail, (st x b).2.o, 0⟩
 rw [loop_fuel hst (st x b).2.s.length ((st (st x b).1 ⟨(st x b).2.skip.s.tail, (st x b).2.o, 0⟩).2.s.length + 1) _ _ (by omega) (by omega)]
theorem loop_stop {σ : Type} {st : σ → S → σ × S} (n : Nat) (x : σ) (a : S) (hk : pk a.skip.s ≠ 44) : listLoop st (n + 1) x a = (x, a.skip) := by
 have ht : a.took [44] = false := by rw [took_pk a 44 (by decide)]; simp [show ¬ (pk a.skip.s = (44 : Int)) from hk]
 rw [listLoop, ht, if_neg (by decide), take_no ht]
theorem goF_end {σ : Type} {st : σ → S → σ × S} (p : UInt8) (hp : p ≠ 0) (x : σ) (b : S) (h : (st x b).2.e = 0) (hk : pk (st x b).2.skip.s ≠ 44) (hq : pk (st x b).2.skip.s = (p.toNat : Int)) :
    goF st p x b = ((st x b).1, ⟨(st x b).2.skip.s.tail, (st x b).2.o - 1, 0⟩) := by
 unfold goF
 rw [loop_stop _ _ _ hk]
 have hs := skip2 (st x b).2
 obtain ⟨h1, h2⟩ := take_pk (st x b).2.skip p hp h (by rw [hs]; exact hq)
 unfold S.need
 rw [if_pos h1, h2, hs]
 rfl
theorem goF_form {σ : Type} {st : σ → S → σ × S} (p : UInt8) (hp : p ≠ 0) (x : σ) (b : S) (h : (st x b).2.e = 0) (hk : pk (st x b).2.skip.s ≠ 44) (hq : pk (st x b).2.skip.s ≠ (p.toNat : Int)) :
    (goF st p x b).2.e = 11 := by
 unfold goF
 rw [loop_stop _ _ _ hk]
 have hs := skip2 (st x b).2
 have ht : (st x b).2.skip.took [p] = false := by rw [took_pk _ p hp, hs]; simp [hq]
 show ((st x b).2.skip.need [p]).e = 11
 unfold S.need
 rw [ht, if_neg (by decide)]
 exact fail_e0 (by rw [take_e]; exact h) 11
theorem Rf.bad {s : List UInt8} {w w1 : World} {g : Nat} {a b : S} {p : Nat} {o : Int} (h : Rf s w w1 g a p o) (he : a.e ≠ 0) (hb : b.e = a.e) : Rf s w w1 g b p o := ⟨by rw [hb]; exact h.cell, h.kp, h.gl, h.sl, h.pl, fun e => absurd (hb.symm.trans e) he⟩
def OKn (n : Nat) (b : S) : Prop := b.e = 0 → 0 ≤ b.o ∧ b.o ≤ 16 ∧ b.o + n = 17
structure Lw (w : World) (base b : Nat) (kind : Int) (x : List S28 × List ByteArray) : Prop where
  vc : ∃ v6 v7, w.heap[b]? = some (.cells #[.int .i64 kind, .bool false, .bool false, .string ⟨#[]⟩, .int .i64 0, .string ⟨#[]⟩, v6, v7] 35 (0, 0)) ∧ k35.R 35 w base (fun k => some k ≠ v7.ownBlock) v6 x.1 ∧ Kd.string.R 9 w base (fun _ => True) v7 x.2
  lt : b < base ∧ base ≤ w.heap.size
theorem Lw.kept {w w' : World} {base b g : Nat} {kind : Int} {x : List S28 × List ByteArray} (h : Lw w base b kind x) (k : w.grownBy w' (some g)) (hg : g < b) : Lw w' base b kind x := by
 obtain ⟨v6, v7, hv, hr, hn⟩ := h.vc
 have hlt := h.lt
 exact ⟨⟨v6, v7, (k.block b (Array.getElem?_eq_some_iff.1 hv).1 (fun e => by injection e with e; omega)).trans hv,
  Kd.R_mono (Kd.R_grown (Kd.R_bound hr) k (fun i hi e => by have := hi.2.1; injection e with e; omega)) (fun _ hk => hk.1),
  Kd.R_mono (Kd.R_grown (Kd.R_bound hn) k (fun i hi e => by have := hi.2.1; injection e with e; omega)) (fun _ _ => trivial)⟩, hlt.1, Nat.le_trans hlt.2 k.size⟩
def vA (k : Int) : Array Value := #[.int .i64 k, .bool false, .bool false, .string ⟨#[]⟩, .int .i64 0, .string ⟨#[]⟩, .slice none 0 0, .slice none 0 0]
theorem enter_deep {a : S} (he : a.e = 0) (h : a.o = 16) : a.enter.e = 35 := by
 have h1 : a.enter0 = a.fail 35 := by unfold S.enter0; rw [if_pos h]
 have h2 : (a.fail 35).e = 35 := fail_e0 he 35
 unfold S.enter S.enter1
 rw [h1, if_neg (by rw [h2]; decide)]
 exact h2
theorem enter_ok {a : S} (he : a.e = 0) (h : a.o ≠ 16) : a.enter = ⟨a.s.tail, a.o + 1, 0⟩ := by
 have h1 : a.enter0 = a := by unfold S.enter0; rw [if_neg h]
 unfold S.enter S.enter1
 rw [h1, if_pos he, he]
theorem Rf.grow {s : List UInt8} {w w1 w2 : World} {g : Nat} {row : Option Nat} {a : S} {p : Nat} {o : Int} (h : Rf s w w1 g a p o) (k : w1.grownBy w2 row) (hr : ∀ i, row = some i → i ≠ g ∧ w.heap.size ≤ i) : Rf s w w2 g a p o :=
 ⟨(k.block g h.lt (fun e => (hr g e.symm).1 rfl)).trans h.cell, ⟨k.os.trans h.kp.os, k.tape.trans h.kp.tape, k.output.trans h.kp.output, Nat.le_trans h.kp.size k.size,
  fun i hi hne => (k.block i (Nat.lt_of_lt_of_le hi h.kp.size) (fun e => by have := (hr i e.symm).2; omega)).trans (h.kp.block i hi hne)⟩, h.gl, h.sl, h.pl, h.ok⟩
set_option maxRecDepth 100000 in
set_option maxHeartbeats 8000000 in
theorem arr15 (fv : S → S28 × S) (n : Nat) (HV : WC 37 #[] (OKn n) fv) (hbad : ∀ b, b.e ≠ 0 → (fv b).2.e = b.e) (hlen : ∀ b, (fv b).2.s.length ≤ b.s.length) (hskip : ∀ b, fv b.skip = fv b) (hopen : ∀ b, (fv b).2.o = b.o) :
    WC 75 #[.int .i64 4, .int .u8 93] (fun b => b.e = 0 ∧ pk b.s = 91 ∧ OKn (n + 1) b) (S.arr fv) := by
 intro s w w1 g a p o h hs ha
 show Calls Tryz.prog 75 #[.pointer (some ⟨g, 0, none⟩), .int .i64 4, .int .u8 93] w1 _
 have H := hi_ h
 have HS := hi_ hs
 have HE := hi_ ha.1
 have HK := hi_ ha.2.1
 have HO := hi_ (ha.2.2 ha.1)
 have HVV := hi_ HV
 have HBD := hi_ (And.intro hbad (And.intro hlen (And.intro hskip hopen)))
 have HD := hi_ (h.ok ha.1)
 have hoo : o = a.o := (h.ok ha.1).2.2
 subst hoo
 have HB0 : Hid (Below w1.heap.size w1 ((w1.alloc (.cells zA 35)).alloc (.cells zA 35))) := hi_ ((Below.alloc (Below.refl _ _) (Nat.le_refl _) _).trans ((Below.alloc (Below.refl _ _) (Nat.le_refl _) _).mono (by simp)))
 have HST : Hid (S.arr fv a = (⟨4, false, z24, ⟨#[]⟩, (listG (arrT fv) [93] [] a.enter).1, []⟩, (listG (arrT fv) [93] [] a.enter).2)) := hi_ rfl
 have HAB : Hid (∀ x b, b.e ≠ 0 → (arrT fv x b).2.e = b.e) := hi_ (fun x b h => hbad b h)
 clear h hs ha HV hbad hlen hskip hopen
 have HBB : Hid (∀ o1 o2, Below w1.heap.size w1 ((w1.alloc o1).alloc o2)) := hi_ (fun o1 o2 => (Below.alloc (Below.refl _ _) (Nat.le_refl _) o1).trans ((Below.alloc (Below.refl _ _) (Nat.le_refl _) o2).mono (by simp)))
 have cc : ∀ o1 o2, ((w1.alloc o1).alloc o2).cell? ⟨g, 2, none⟩ = some (.int .i64 a.o) := fun o1 o2 => (H.out.below (HBB.out o1 o2)).c2
 have HWb : Hid (Below w1.heap.size w1 ((w1.alloc (.cells zA 35)).alloc (.cells (vA 4) 35))) := hi_ (HBB.out _ _)
 have HN0 : Hid (((w1.alloc (.cells zA 35)).alloc (.cells (vA 4) 35)).heap[w1.heap.size]? = some (.cells zA 35 (0, 0))) := hi_ (blk_alloc (blk_new w1 _) _)
 have HN1 : Hid (((w1.alloc (.cells zA 35)).alloc (.cells (vA 4) 35)).heap[w1.heap.size + 1]? = some (.cells (vA 4) 35 (0, 0))) := hi_ (by have := blk_new (w1.alloc (.cells zA 35)) (.cells (vA 4) 35); simpa using this)
 have HSZ : Hid (((w1.alloc (.cells zA 35)).alloc (.cells (vA 4) 35)).heap.size = w1.heap.size + 2) := hi_ (by simp)
 by_cases ho : a.o = 16
 · have e1 : (a.o == 16) = true := by simpa using ho
   have HEN := hi_ (listG_e HAB.out [93] [] (a := a.enter) (by rw [enter_deep HE.out ho]; decide))
   have HE35 := hi_ (enter_deep HE.out ho)
   clear ho
   go_enter Tryz.func75, Tryz.ntmps75
   go_wp2_with fail
   refine (fail15 (H.out.below HWb.out).now 35 (by decide)).mono ?_
   rintro E w4 ⟨rfl, h4⟩
   have HR4 := hi_ (h4.keep HN0.out (Nat.ne_of_gt H.out.lt))
   have HV4 := hi_ (h4.keep HN1.out (by have := H.out.lt; omega))
   have H4 := hi_ ((H.out.below HWb.out).trans h4)
   clear h4 cc
   go_wp2_with (first | (refine wpList_load_row rfl 35 (.tmp 7) rfl (w1.heap.size + 1) rfl 35 _ (0, 0) _ HV4.out Tryz.underlying35 rfl (by kernel_rfl) ?_) | (refine row_event rfl 35 (.tmp 6) (.tmp 18) rfl w1.heap.size _ rfl rfl 35 _ HR4.out (by kernel_rfl) rfl rfl ?_; intro w5 hr5 hk5))
   have h5 := H4.out.far hk5 (Nat.ne_of_gt H.out.lt) H.out.kp.size
   have he35 : (S.arr fv a).2.e = 35 := by rw [HST.out]; exact HEN.out.trans HE35.out
   have hf35 : (a.fail 35).e = 35 := fail_e0 HE.out 35
   exact bodyPost_ret (results_cell_row rfl _ _ w1.heap.size 35 _ (0, 0) _ rfl hr5 Tryz.underlying35 rfl (by kernel_rfl)) rfl ⟨_, S28.mk 4 false z24 ⟨#[]⟩ [] [], p, a.o, rfl, Jw.flat w5 _ (S28.mk 4 false z24 ⟨#[]⟩ [] []) rfl rfl, h5.bad (by rw [hf35]; decide) (by rw [he35, hf35]), fun e => absurd (he35.symm.trans e) (by decide)⟩
 · have e1 : (a.o == 16) = false := by simpa using ho
   have HEN := hi_ (enter_ok HE.out ho)
   have HNO : Hid (a.o + 1 ≤ 16) := hi_ (by have := HO.out; omega)
   clear ho
   have cp : ∀ o1 o2, ((w1.alloc o1).alloc o2).cell? ⟨g, 1, none⟩ = some (.int .i64 p) := fun o1 o2 => (H.out.below (HBB.out o1 o2)).c1
   have fp : ∀ o1 o2 j, ((w1.alloc o1).alloc o2).frozen? ⟨g, j, none⟩ = false := fun o1 o2 j => (H.out.below (HBB.out o1 o2)).fz j
   have hp1 : p + 1 ≤ s.length ∧ s.drop (p + 1) = a.s.tail := by
    obtain ⟨b, l, hd, hb, hl, hle⟩ := drop_pk (s := s) (p := p) (c := 91) (by rw [HD.out.2.1]; exact HK.out) (by decide)
    exact ⟨hle, by rw [hl, ← HD.out.2.1, hd]; rfl⟩
   have hsl := HS.out
   have hob := HO.out
   have hS1 := (H.out.below HWb.out).s1 (p + 1) ⟨a.s.tail, a.o, a.e⟩ rfl (by omega) (fun _ => ⟨hp1.1, hp1.2, rfl⟩)
   have hS2 := hS1.s2 (wrap64 (a.o + 1)) a.enter (by rw [HEN.out]; exact HE.out.symm) (fun _ => ⟨hp1.1, by rw [HEN.out]; exact hp1.2, by rw [HEN.out, w64 (by omega) (by omega)]⟩)
   have hwp : ((p + 1 : Nat) : Int) = wrap64 ((p : Int) + 1) := (w1n p s.length (by omega) (by omega)).symm
   rw [hwp] at hS2
   have HS2 := hi_ hS2
   have HN02 : Hid _ := hi_ ((Below.heap_setCell ((((w1.alloc (.cells zA 35)).alloc (.cells (vA 4) 35))).setCell ⟨g, 1, none⟩ (.int .i64 (wrap64 ((p : Int) + 1)))) ⟨g, 2, none⟩ (.int .i64 (wrap64 (a.o + 1))) w1.heap.size (Nat.ne_of_gt H.out.lt)).trans ((Below.heap_setCell (((w1.alloc (.cells zA 35)).alloc (.cells (vA 4) 35))) ⟨g, 1, none⟩ (.int .i64 (wrap64 ((p : Int) + 1))) w1.heap.size (Nat.ne_of_gt H.out.lt)).trans HN0.out))
   have HN12 : Hid _ := hi_ ((Below.heap_setCell ((((w1.alloc (.cells zA 35)).alloc (.cells (vA 4) 35))).setCell ⟨g, 1, none⟩ (.int .i64 (wrap64 ((p : Int) + 1)))) ⟨g, 2, none⟩ (.int .i64 (wrap64 (a.o + 1))) (w1.heap.size + 1) (by have := H.out.lt; show w1.heap.size + 1 ≠ g; omega)).trans ((Below.heap_setCell (((w1.alloc (.cells zA 35)).alloc (.cells (vA 4) 35))) ⟨g, 1, none⟩ (.int .i64 (wrap64 ((p : Int) + 1))) (w1.heap.size + 1) (by have := H.out.lt; show w1.heap.size + 1 ≠ g; omega)).trans HN1.out))
   have HP1 := hi_ hp1
   clear hS1 hS2 hwp hp1 hsl hob
   go_enter Tryz.func75, Tryz.ntmps75
   go_wp2_with fail
   refine (blanks15 HS2.out.now).mono ?_
   rintro E w4 ⟨rfl, q, h4⟩
   have HR4 := hi_ (h4.keep HN02.out (Nat.ne_of_gt H.out.lt))
   have HV4 := hi_ (h4.keep HN12.out (by have := H.out.lt; omega))
   have H4 := hi_ (HS2.out.trans h4)
   have HL4 : Hid (w1.heap.size + 2 ≤ w4.heap.size) := hi_ (by have := h4.kp.size; have := HSZ.out; simp at *; omega)
   clear h4 cc cp fp
   go_wp2_with fail
   refine (peek15 H4.out.now).mono ?_
   rintro E w5 ⟨rfl, h5⟩
   have HR5 := hi_ (h5.keep HR4.out (Nat.ne_of_gt H.out.lt))
   have HV5 := hi_ (h5.keep HV4.out (by have := H.out.lt; omega))
   have H5 := hi_ (H4.out.trans h5)
   have HL5 : Hid (w1.heap.size + 2 ≤ w5.heap.size) := hi_ (Nat.le_trans HL4.out h5.kp.size)
   clear h5
   obtain ⟨c, hc⟩ : ∃ c, pk (s.drop q) = c := ⟨_, rfl⟩
   rw [hc]
   have hee : a.enter.e = 0 := by rw [HEN.out]
   have HEE := hi_ hee
   have HD5 := hi_ (H5.out.ok hee)
   have HC : Hid (pk a.enter.skip.s = c) := hi_ (by rw [← HD5.out.2.1]; exact hc)
   clear hc hee
   by_cases k93 : c = 93
   · subst k93
     have HT := hi_ (take_pk a.enter 93 (by decide) HEE.out HC.out)
     have HS7 : Hid (∀ v1 v2, ((w5.setCell ⟨g, 1, none⟩ v1).setCell ⟨g, 2, none⟩ v2).heap[w1.heap.size]? = some (.cells zA 35 (0, 0)) ∧ ((w5.setCell ⟨g, 1, none⟩ v1).setCell ⟨g, 2, none⟩ v2).heap[w1.heap.size + 1]? = some (.cells (vA 4) 35 (0, 0))) := hi_ (fun v1 v2 =>
      ⟨(Below.heap_setCell _ ⟨g, 2, none⟩ v2 w1.heap.size (Nat.ne_of_gt H.out.lt)).trans ((Below.heap_setCell _ ⟨g, 1, none⟩ v1 w1.heap.size (Nat.ne_of_gt H.out.lt)).trans HR5.out),
       (Below.heap_setCell _ ⟨g, 2, none⟩ v2 (w1.heap.size + 1) (by have := H.out.lt; show w1.heap.size + 1 ≠ g; omega)).trans ((Below.heap_setCell _ ⟨g, 1, none⟩ v1 (w1.heap.size + 1) (by have := H.out.lt; show w1.heap.size + 1 ≠ g; omega)).trans HV5.out)⟩)
     have hq1 : q + 1 ≤ s.length ∧ s.drop (q + 1) = a.enter.skip.s.tail := by
      obtain ⟨b, l, hd, hb, hl, hle⟩ := drop_pk (s := s) (p := q) (c := 93) (by rw [HD5.out.2.1]; exact HC.out) (by decide)
      exact ⟨hle, by rw [hl, ← HD5.out.2.1, hd]; rfl⟩
     have hsl := HS.out
     have hob := HO.out
     have heo : wrap64 (a.o + 1) = a.o + 1 := w64 (by omega) (by omega)
     have hr7 : (S.arr fv a).2 = ⟨a.enter.skip.s.tail, a.o + 1 - 1, 0⟩ := by
      rw [HST.out, listG_F, if_pos HT.out.1, HT.out.2]
      show S.left ⟨_, a.enter.o, 0⟩ = _
      rw [HEN.out]
      rfl
     have hr8 : (S.arr fv a).1 = S28.mk 4 false z24 ⟨#[]⟩ [] [] := by rw [HST.out, listG_F, if_pos HT.out.1]
     have h6 := (H5.out.s1 (q + 1) ⟨a.enter.skip.s.tail, a.o + 1, a.enter.skip.e⟩ rfl (by omega) (fun _ => ⟨hq1.1, hq1.2, heo⟩)).s2 (wrap64 (wrap64 (a.o + 1) - 1)) (S.arr fv a).2 (by rw [hr7]; exact HEE.out.symm) (fun _ => ⟨hq1.1, by rw [hr7]; exact hq1.2, by rw [hr7, heo, w64 (by omega) (by omega)]⟩)
     have hwp : ((q + 1 : Nat) : Int) = wrap64 ((q : Int) + 1) := (w1n q s.length (by omega) (by omega)).symm
     rw [hwp] at h6
     have H6 := hi_ h6
     have H8 := hi_ hr8
     clear hq1 hsl hob heo hr7 h6 hwp hr8
     have cp := H5.out.c1
     have co := H5.out.c2
     have fp := H5.out.fz
     go_wp2_with (first | (refine wpList_load_row rfl 35 (.tmp 7) rfl (w1.heap.size + 1) rfl 35 _ (0, 0) _ (HS7.out _ _).2 Tryz.underlying35 rfl (by kernel_rfl) ?_) | (refine row_event rfl 35 (.tmp 6) (.tmp 53) rfl w1.heap.size _ rfl rfl 35 _ (HS7.out _ _).1 (by kernel_rfl) rfl rfl ?_; intro w7 hr7 hk7))
     have h7 := H6.out.far hk7 (Nat.ne_of_gt H.out.lt) H.out.kp.size
     exact bodyPost_ret (results_cell_row rfl _ _ w1.heap.size 35 _ (0, 0) _ rfl hr7 Tryz.underlying35 rfl (by kernel_rfl)) rfl ⟨_, S28.mk 4 false z24 ⟨#[]⟩ [] [], q + 1, _, rfl, Jw.flat w7 _ (S28.mk 4 false z24 ⟨#[]⟩ [] []) rfl rfl, h7, fun _ => H8.out.symm⟩
   have e93 : (c == 93) = false := by simpa using k93
   have HG : Hid (listG (arrT fv) [93] [] a.enter = goF (arrT fv) 93 [] a.enter.skip) := hi_ (by
    have ht : a.enter.took [93] = false := by rw [took_pk _ 93 (by decide), HC.out]; rw [show decide (c = ((93 : UInt8).toNat : Int)) = false from decide_eq_false k93]; rfl
    rw [listG_F, ht, if_neg (by decide), take_no ht])
   clear HC
   go_wp2_with fail
   go_loopg [] (s.length + 1) (fun kq wx => ∃ (x : List S28) (b : S) (qq : Nat), Hid (Rf s w wx g b qq (a.o + 1)) ∧ Hid (b.e = 0 ∧ b.o = a.o + 1 ∧ b.s.length < kq + 0 ∧ x.length + b.s.length ≤ s.length + 1 ∧ goF (arrT fv) 93 x b = goF (arrT fv) 93 [] a.enter.skip) ∧ Hid (Lw wx (w1.heap.size + 2) (w1.heap.size + 1) 4 (x, [])) ∧ Hid (wx.heap[w1.heap.size]? = some (.cells zA 35 (0, 0))))
   case atStart =>
    have hob := HO.out
    have heo : wrap64 (a.o + 1) = a.o + 1 := w64 (by omega) (by omega)
    have h5 := H5.out
    rw [heo] at h5
    have hl : a.enter.skip.s.length ≤ s.length := by rw [← HD5.out.2.1, List.length_drop]; omega
    exact ⟨[], a.enter.skip, q, hi_ h5, hi_ ⟨HEE.out, by show a.enter.o = _; rw [HEN.out], by omega, by simp; omega, rfl⟩,
     hi_ ⟨⟨_, _, HV5.out, Kd.R_nil _ _ _ _ _, Kd.R_nil _ _ _ _ _⟩, by omega, HL5.out⟩, HR5⟩
   case round =>
    obtain ⟨x, b, qq, HQ, HP, HW, HZ⟩ := hrel
    obtain ⟨v6, v7, hb7, h67⟩ := HW.out.vc
    have ce := HQ.out.c3
    rw [HP.out.1] at ce
    have H7 := hi_ h67
    have HB7 := hi_ hb7
    obtain ⟨A, cap, rfl⟩ := Kd.R_slice h67.1
    clear h67 hb7
    go_wp2_with fail
    refine (blanks15 HQ.out.now).mono ?_
    rintro E w7 ⟨rfl, q7, h7⟩
    have HR7 := hi_ (h7.keep HZ.out (Nat.ne_of_gt H.out.lt))
    have HV7 := hi_ (h7.keep HB7.out (by have := H.out.lt; omega))
    have HQ7 := hi_ (HQ.out.trans h7)
    have HK7 := hi_ h7.kp
    clear h7 ce
    go_wp2_with fail
    have c6 : w7.drew.cell? ⟨w1.heap.size + 1, 6, none⟩ = some (.slice A x.length cap) := (blk_cell HV7.out 6).trans rfl
    refine start_ (n := 8) (S := fun w' => w'.cell? ⟨w1.heap.size + 1, 6, none⟩ = some (.slice A x.length cap)) (ds := [7]) #[false, false, false, false, false, false, false, false] (by kernel_rfl) rfl rfl c6 (fun hHeld => ?_)
    refine pure_ (i := 0) (N := some 63) (v := ?_) (a' := ?_) #[true, false, false, false, false, false, false, false] rfl rfl (by kernel_rfl) (fun _ _ _ h => h) (Or.inl ⟨by rfl, ?_⟩) ?_ ?_
    rotate_left
    · intro w'
      go_simp
      with_reducible rfl
    rotate_left
    · simp only [Act.put, List.setIfInBounds_toArray, List.set_cons_zero, List.set_cons_succ]
      rfl
    refine take_ (i := 1) (N := some 64) (v := ?_) (a' := ?_) #[true, true, false, false, false, false, false, false] rfl rfl (by kernel_rfl) (fun _ _ _ h => h) (Or.inl ⟨by rfl, ?_⟩) hHeld ?_ ?_
    rotate_left
    · intro w' s0
      go_simp
      with_reducible rfl
    rotate_left
    · simp only [Act.put, List.setIfInBounds_toArray, List.set_cons_zero, List.set_cons_succ]
      rfl
    refine pure_ (i := 2) (N := some 65) (v := ?_) (a' := ?_) #[true, true, true, false, false, false, false, false] rfl rfl (by kernel_rfl) (fun _ _ _ h => h) (Or.inl ⟨by rfl, ?_⟩) ?_ ?_
    rotate_left
    · intro w'
      go_simp
      with_reducible rfl
    rotate_left
    · simp only [Act.put, List.setIfInBounds_toArray, List.set_cons_zero, List.set_cons_succ]
      rfl
    refine one_ (i := 3) (N := some 66) #[true, true, true, true, false, false, false, false] rfl rfl (by kernel_rfl) (by decide) (fun K hK => ?_)
    refine goes_ Tryz.func37 (by kernel_rfl) rfl #[.pointer (some ⟨g, 0, none⟩)] (by rfl) rfl rfl (by (try simp only [List.map_toArray, List.map_cons, List.map_nil]); rfl) ?_
    have hbs : b.skip.e = 0 ∧ b.skip.o = a.o + 1 := ⟨HP.out.1, HP.out.2.1⟩
    have hokb : OKn n b.skip := fun _ => by have := HO.out; have := hbs.2; have := HNO.out; refine ⟨by omega, by omega, ?_⟩; push_cast at *; omega
    refine (HVV.out s _ _ g b.skip q7 _ (HQ7.out.d).now HS.out hokb).mono ?_
    rintro E w8 ⟨v8, y8, q8, u8, rfl, hj8, h8, h8e⟩
    refine ⟨_, rfl, ?_⟩
    obtain ⟨cs, rfl, hs8, ho8, hi8, hM8⟩ := hj8.of
    obtain ⟨va, vb, hcs, -, -⟩ := k35_openM hM8
    subst hcs
    have hvb8 := h8.keep (blk_drew HV7.out) (show w1.heap.size + 1 ≠ g by have := H.out.lt; omega)
    refine hK.out _ _ ((blk_cell hvb8 6).trans rfl) (fun hHeld => ?_)
    clear hK K
    refine norm_ (a' := ?_) ?_ ?_
    rotate_left
    · show Act.put _ (some 66) _ = _
      simp only [Act.put, List.setIfInBounds_toArray, List.set_cons_zero, List.set_cons_succ]
      rfl
    have HM8 := hi_ hM8
    have HB8 := hi_ hvb8
    clear hs8 ho8 hi8 hM8 hvb8
    refine one_ (i := 4) (N := some 67) #[true, true, true, true, true, false, false, false] rfl rfl (by kernel_rfl) (by decide) (fun K hK => ?_)
    refine value_ (v := .slice (some ⟨w8.heap.size, 0, none⟩) 1 1) (w1 := w8.alloc (.cells [.int .i64 y8.f0, .bool y8.f1, .bool y8.f2.f0, .string y8.f2.f1, .int .i64 y8.f2.f2, .string y8.f3, va, vb].toArray 35)) (by rfl) rfl ?_ ?_
    · clear hHeld
      go_simp
    refine hK.out _ _ ((blk_cell (blk_alloc HB8.out _) 6).trans rfl) (fun hHeld => ?_)
    clear hK K
    refine norm_ (a' := ?_) ?_ ?_
    rotate_left
    · show Act.put _ (some 67) _ = _
      simp only [Act.put, List.setIfInBounds_toArray, List.set_cons_zero, List.set_cons_succ]
      rfl
    have hb6 := Kd.R_bound H7.out.1
    have hb7' := Kd.R_bound H7.out.2
    have hk8 := grown_trans (grown_trans HK7.out (grown_below ((Below.refl _ _).drew) (some g))) h8.kp
    have hgb : g < w1.heap.size := H.out.lt
    have hz7 := HK7.out.size
    have hz8 : w7.heap.size ≤ w8.heap.size := h8.kp.size
    have hl7 := HW.out.lt.2
    have hpl := HP.out.2.2.2.1
    have hsl := HS.out
    have hR8 : k35.R 35 w8 (w1.heap.size + 2) (fun k => some k ≠ v7.ownBlock) (.slice A x.length cap) x := Kd.R_mono (Kd.R_grown hb6 hk8 (fun k hk e => by injection e with e; have := hk.2.1; omega)) (fun k hk => hk.1)
    have hM8 : k35.M w8 (w1.heap.size + 2) (fun k => w7.heap.size ≤ k) y8 [.int .i64 y8.f0, .bool y8.f1, .bool y8.f2.f0, .string y8.f2.f1, .int .i64 y8.f2.f2, .string y8.f3, va, vb] := k35.M_lower (by have h := hz7; show w1.heap.size + 2 ≤ w7.heap.size; omega) (k35.M_mono (fun k hk => hk.2.1) (k35.M_bound HM8.out))
    refine one_ (i := 5) (N := some 68) #[true, true, true, true, true, true, false, false] rfl rfl (by kernel_rfl) (by decide) (fun K hK => ?_)
    refine Kd.R_append_step k35 (w0 := w8) (w1.heap.size + 2) (by rfl) (.tmp 64) (.tmp 67) 33 35 (.agg zA) 112 rfl Tryz.underlying33 info35 rfl (by decide) (by decide) (.slice A x.length cap) x y8 [.int .i64 y8.f0, .bool y8.f1, .bool y8.f2.f0, .string y8.f2.f1, .int .i64 y8.f2.f2, .string y8.f3, va, vb] (fun k => some k ≠ v7.ownBlock) (fun k => w7.heap.size ≤ k) rfl rfl hM8 (fun k hk => ⟨fun e => by have := (hb7'.1 k e.symm).2.2.1; omega, fun e => by have := (hb6.1 k e.symm).2.2.1; omega⟩) (fun k hk e => by have := (hb7'.1 k e.symm).2.2.1; omega) hR8 (Below.refl _ _) (by omega) (by omega) ?_
    intro v1 wa hR1 hBa hga hat
    obtain ⟨A1, cap1, rfl⟩ := Kd.R_slice hR1
    have hvo : ∀ k, (Value.slice A x.length cap).ownBlock = some k → w1.heap.size + 2 ≤ k ∧ k < w8.heap.size := fun k e => ⟨(hb6.1 k e).2.1, by have := (hb6.1 k e).2.2.1; omega⟩
    have hva := (hga.block (w1.heap.size + 1) (Array.getElem?_eq_some_iff.1 HB8.out).1 (fun e => by have := (hvo _ e.symm).1; omega)).trans HB8.out
    refine hK.out _ _ ((blk_cell hva 6).trans rfl) (fun hHeld => ?_)
    clear hK K
    refine norm_ (a' := ?_) ?_ ?_
    rotate_left
    · show Act.put _ (some 68) _ = _
      simp only [Act.put, List.setIfInBounds_toArray, List.set_cons_zero, List.set_cons_succ]
      rfl
    refine pure_ (i := 6) (N := some 69) (v := ?_) (a' := ?_) #[true, true, true, true, true, true, true, false] rfl rfl (by kernel_rfl) (fun _ _ _ h => h) (Or.inl ⟨by rfl, ?_⟩) ?_ ?_
    rotate_left
    · intro w'
      go_simp
      with_reducible rfl
    rotate_left
    · simp only [Act.put, List.setIfInBounds_toArray, List.set_cons_zero, List.set_cons_succ]
      rfl
    have hca := (blk_cell hva 6).trans rfl
    have hfa := blk_frozen hva 6
    refine last_ (i := 7) (N := none) #[true, true, true, true, true, true, true, true] rfl rfl (by kernel_rfl) (by decide) (fun K hK => ?_)
    refine skip_ (w1 := wa.setCell ⟨w1.heap.size + 1, 6, none⟩ (.slice A1 (x ++ [y8]).length cap1)) (by rfl) rfl ?_ ?_
    · clear hHeld
      go_simp
    refine hK.out _ _ ?_
    refine done_ (by kernel_rfl) ?_
    clear hK K
    have hwl := H.out.kp.size
    have h9 := (((HQ7.out.d).trans h8).grow hga (fun i e => ⟨by have := hvo i e; omega, by have := hvo i e; omega⟩)).far (grown_set wa (w1.heap.size + 1) 6 (.slice A1 (x ++ [y8]).length cap1)) (by omega) (by omega)
    have h7r : Kd.string.R 9 (wa.setCell ⟨w1.heap.size + 1, 6, none⟩ (.slice A1 (x ++ [y8]).length cap1)) (w1.heap.size + 2) (fun _ => True) v7 ([] : List ByteArray) :=
     Kd.R_mono (Kd.R_far (Kd.R_bound (Kd.R_grown2 (Kd.R_mono (Kd.R_grown hb7' hk8 (fun k hk e => by injection e with e; have := hk.2.1; omega)) (fun _ _ => trivial)) rfl hga (fun k e => (hb6.1 k e).1))) (p := ⟨w1.heap.size + 1, 6, none⟩) (fun k hk => by have := hk.2.1; show k ≠ w1.heap.size + 1; omega) _) (fun _ _ => trivial)
    have h6r := Kd.R_mono (ok' := fun k => some k ≠ v7.ownBlock) (Kd.R_far (Kd.R_bound hR1) (p := ⟨w1.heap.size + 1, 6, none⟩) (fun k hk => by have := hk.2.1; show k ≠ w1.heap.size + 1; omega) (.slice A1 (x ++ [y8]).length cap1)) (fun _ hk => hk.1)
    have hz9 := (Below.heap_setCell wa ⟨w1.heap.size + 1, 6, none⟩ (.slice A1 (x ++ [y8]).length cap1) w1.heap.size (by show w1.heap.size ≠ w1.heap.size + 1; omega)).trans ((hga.block w1.heap.size (by have := hz7; have := HL5.out; omega) (fun e => by have := (hvo _ e.symm).1; omega)).trans ((hk8.block w1.heap.size (by omega) (fun e => by injection e with e; omega)).trans HZ.out))
    have HL9 : Hid (Lw (wa.setCell ⟨w1.heap.size + 1, 6, none⟩ (.slice A1 (x ++ [y8]).length cap1)) (w1.heap.size + 2) (w1.heap.size + 1) 4 (x ++ [y8], [])) := hi_ ⟨⟨_, v7, blk_put hva 6 _ rfl, h6r, h7r⟩, by omega, by have := hga.size; simp only [World.setCell, Array.size_modify] at *; omega⟩
    have H9 := hi_ h9
    have HZ9 := hi_ hz9
    have HE8 := hi_ h8e
    have hlx : (x ++ [y8]).length = x.length + 1 := by simp
    rw [hlx] at H9 HL9 HZ9
    clear hlx
    clear hz9 h9 h6r h7r hva hca hfa hvo hR1 hBa hga hat hM8 hR8 hb6 hb7' hk8 hgb hz7 hz8 hl7 hpl hsl hwl h8 h8e c6 hHeld
    go_wp2_with fail
    refine (blanks15 H9.out.now).mono ?_
    rintro E w10 ⟨rfl, q10, h10⟩
    have HL10 := hi_ (HL9.out.kept h10.kp (by have := H.out.lt; omega))
    have HZ10 := hi_ (h10.keep HZ9.out (Nat.ne_of_gt H.out.lt))
    have H10 := hi_ (H9.out.trans h10)
    clear h10
    go_wp2_with fail
    refine (peek15 H10.out.now).mono ?_
    rintro E w11 ⟨rfl, h11⟩
    have HL11 := hi_ (HL10.out.kept h11.kp (by have := H.out.lt; omega))
    have HZ11 := hi_ (h11.keep HZ10.out (Nat.ne_of_gt H.out.lt))
    have H11 := hi_ (H10.out.trans h11)
    clear h11
    obtain ⟨c1, hc1⟩ : ∃ c1, pk (s.drop q10) = c1 := ⟨_, rfl⟩
    rw [hc1]
    have HC1 := hi_ hc1
    have ce := H11.out.c3
    clear hc1
    by_cases hee : (fv b.skip).2.e ≠ 0
    · have e1 : ((fv b.skip).2.e == 0) = false := by simpa using hee
      have e2 : ((fv b.skip).2.e != 0) = true := by simpa using hee
      have HEE := hi_ hee
      clear hee
      go_wp2_with fail
      refine (fail15 H11.out.now 11 (by decide)).mono ?_
      rintro E w12 ⟨rfl, h12⟩
      obtain ⟨z6, z7, hz, hz6, hz7⟩ := (HL11.out.kept h12.kp (by have := H.out.lt; omega)).vc
      have HM12 := hi_ (k35_mkM w12 _ (fun _ => True) (S28.mk 4 false z24 ⟨#[]⟩ (x ++ [y8]) []) (Kd.R_mono hz6 (fun _ _ => trivial)) hz7)
      have HO12 : Hid ((#[.int .i64 4, .bool false, .bool false, .string ⟨#[]⟩, .int .i64 0, .string ⟨#[]⟩, z6, z7] : Array Value).toList.all (·.oneCell') = true) := hi_ (List.all_eq_true.2 (fun u hu => k35.K_one (k35.K_of_M HM12.out) u hu))
      have HZ := hi_ hz
      have HZ12 := hi_ (h12.keep HZ11.out (Nat.ne_of_gt H.out.lt))
      have H12 := hi_ (H11.out.trans h12)
      clear h12 hz hz6 hz7 ce
      go_wp2_with (first | (refine wpList_load_row rfl 35 (.tmp 7) rfl (w1.heap.size + 1) rfl 35 _ (0, 0) _ HZ.out Tryz.underlying35 rfl (by kernel_rfl) ?_) | (refine row_event rfl 35 (.tmp 6) (.tmp 93) rfl w1.heap.size _ rfl rfl 35 _ HZ12.out (by kernel_rfl) rfl HO12.out ?_; intro w13 hr13 hk13))
      have h13 := H12.out.far hk13 (Nat.ne_of_gt H.out.lt) H.out.kp.size
      have hf : ((fv b.skip).2.skip.fail 11).e = (fv b.skip).2.e := fail_e HEE.out 11
      have hg2 : (S.arr fv a).2.e = (fv b.skip).2.e := by
       rw [HST.out, HG.out, ← HP.out.2.2.2.2]
       have hq : (arrT fv x b).2 = (fv b.skip).2 := by show (fv b).2 = _; rw [HBD.out.2.2.1 b]
       rw [← hq]
       exact goF_bad 93 x b (by rw [hq]; exact HEE.out)
      exact bodyPost_ret (results_cell_row rfl _ _ w1.heap.size 35 _ (0, 0) _ rfl hr13 Tryz.underlying35 rfl (by kernel_rfl)) rfl ⟨_, S28.mk 4 false z24 ⟨#[]⟩ (x ++ [y8]) [], q10, u8, rfl, Jw.up HM12.out hk13 (by omega) (by omega), h13.bad (by rw [hf]; exact HEE.out) (by rw [hg2, hf]), fun e => absurd (hg2.symm.trans e) HEE.out⟩
    replace hee : (fv b.skip).2.e = 0 := Classical.not_not.1 hee
    have e1 : ((fv b.skip).2.e == 0) = true := by simpa using hee
    have e2 : ((fv b.skip).2.e != 0) = false := by simp [hee]
    have HEE := hi_ hee
    clear hee
    have HQ11 := hi_ (H11.out.ok HEE.out)
    have hu : u8 = a.o + 1 := HQ11.out.2.2.trans ((HBD.out.2.2.2 b.skip).trans HP.out.2.1)
    subst hu
    have HY : Hid (arrT fv x b = (x ++ [y8], (fv b.skip).2)) := hi_ (by unfold arrT; rw [HE8.out HEE.out, HBD.out.2.2.1 b])
    have HC : Hid (pk (arrT fv x b).2.skip.s = c1) := hi_ (by rw [HY.out]; show pk (fv b.skip).2.skip.s = c1; rw [← HQ11.out.2.1]; exact HC1.out)
    have HYE : Hid ((arrT fv x b).2.e = 0) := hi_ (by rw [HY.out]; exact HEE.out)
    have HYL : Hid (∀ x b, (arrT fv x b).2.s.length ≤ b.s.length) := hi_ (fun x b => HBD.out.2.1 b)
    by_cases k44 : c1 = 44
    · have e44 : (c1 == 44) = true := by simpa using k44
      have n44 : (c1 != 44) = false := by simp [k44]
      have k93' : c1 ≠ 93 := by omega
      have e93' : (c1 == 93) = false := by simpa using k93'
      have n93 : (c1 != 93) = true := by simpa using k93'
      have HC44 := hi_ k44
      clear k44 k93'
      have hq1 : q10 + 1 ≤ s.length ∧ s.drop (q10 + 1) = (fv b.skip).2.skip.s.tail := by
       obtain ⟨b0, l, hd, hb, hl, hle⟩ := drop_pk (s := s) (p := q10) (c := 44) (by rw [HC1.out]; exact HC44.out) (by decide)
       exact ⟨hle, by rw [hl, ← HQ11.out.2.1, hd]; rfl⟩
      have hsl := HS.out
      have h12 := H11.out.s1 (q10 + 1) ⟨(fv b.skip).2.skip.s.tail, a.o + 1, (fv b.skip).2.skip.e⟩ rfl (by omega) (fun _ => ⟨hq1.1, hq1.2, rfl⟩)
      have hwp : ((q10 + 1 : Nat) : Int) = wrap64 ((q10 : Int) + 1) := (w1n q10 s.length (by omega) (by omega)).symm
      rw [hwp] at h12
      have H12 := hi_ h12
      have HL12 := hi_ (HL11.out.kept (grown_set w11 g 1 (.int .i64 (wrap64 ((q10 : Int) + 1)))) (by have := H.out.lt; omega))
      have HZ12 := hi_ ((Below.heap_setCell w11 ⟨g, 1, none⟩ (.int .i64 (wrap64 ((q10 : Int) + 1))) w1.heap.size (Nat.ne_of_gt H.out.lt)).trans HZ11.out)
      have hlt : (fv b.skip).2.skip.s.tail.length + 1 ≤ b.s.length := by
       have h1 := skip_len (fv b.skip).2
       have h2 := HBD.out.2.1 b.skip
       have h3 := skip_len b
       have h4 : s.drop q10 = (fv b.skip).2.skip.s := HQ11.out.2.1
       have h5 : 0 < (fv b.skip).2.skip.s.length := by rw [← h4, List.length_drop]; omega
       rw [List.length_tail]
       omega
      have HLT := hi_ hlt
      have HHP := hi_ hwp
      clear hq1 hsl h12 hlt hwp
      have cp := H11.out.c1
      have fp := H11.out.fz
      go_wp2_with fail
      go_roundg ((fv b.skip).2.skip.s.tail.length + 1)
      case measure => have := HLT.out; have := HP.out.2.2.1; omega
      case rel =>
       refine ⟨x ++ [y8], ⟨(fv b.skip).2.skip.s.tail, a.o + 1, 0⟩, q10 + 1, ?_, hi_ ⟨rfl, rfl, by show (fv b.skip).2.skip.s.tail.length < _; omega, ?_, ?_⟩, HL12, HZ12⟩
       · have h := H12.out
         have : (fv b.skip).2.skip.e = 0 := HEE.out
         rw [this] at h
         exact hi_ h
       · have h1 := HLT.out
         have h2 := HP.out.2.2.2.1
         show (x ++ [y8]).length + (fv b.skip).2.skip.s.tail.length ≤ _
         rw [List.length_append, List.length_singleton]
         omega
       have h1 := goF_more (st := arrT fv) HYL.out 93 x b HYE.out (by rw [HC.out]; exact HC44.out)
       rw [← HP.out.2.2.2.2, h1, HY.out]
       show goF (arrT fv) 93 (x ++ [y8]) _ = goF (arrT fv) 93 (x ++ [y8]) ⟨(fv b.skip).2.skip.s.tail, (fv b.skip).2.o, 0⟩
       rw [show (fv b.skip).2.o = a.o + 1 from (HBD.out.2.2.2 b.skip).trans HP.out.2.1]
    have e44 : (c1 == 44) = false := by simpa using k44
    have n44 : (c1 != 44) = true := by simpa using k44
    have HK44 := hi_ k44
    clear k44
    by_cases k93' : c1 = 93
    · have e93' : (c1 == 93) = true := by simpa using k93'
      have n93 : (c1 != 93) = false := by simp [k93']
      have HC93 := hi_ k93'
      clear k93'
      have hq1 : q10 + 1 ≤ s.length ∧ s.drop (q10 + 1) = (fv b.skip).2.skip.s.tail := by
       obtain ⟨b0, l, hd, hb, hl, hle⟩ := drop_pk (s := s) (p := q10) (c := 93) (by rw [HC1.out]; exact HC93.out) (by decide)
       exact ⟨hle, by rw [hl, ← HQ11.out.2.1, hd]; rfl⟩
      have hr : S.arr fv a = (⟨4, false, z24, ⟨#[]⟩, x ++ [(fv b.skip).1], []⟩, ⟨(fv b.skip).2.skip.s.tail, a.o + 1 - 1, 0⟩) := by
       have h1 := goF_end (st := arrT fv) 93 (by decide) x b HYE.out (by rw [HC.out]; exact HK44.out) (by rw [HC.out]; exact HC93.out)
       rw [HST.out, HG.out, ← HP.out.2.2.2.2, h1, HY.out, HE8.out HEE.out]
       show _ = (_, (⟨_, a.o + 1 - 1, 0⟩ : S))
       rw [show (fv b.skip).2.o = a.o + 1 from (HBD.out.2.2.2 b.skip).trans HP.out.2.1]
      have hsl := HS.out
      have hob := HO.out
      have h12 := (H11.out.s1 (q10 + 1) ⟨(fv b.skip).2.skip.s.tail, a.o + 1, (fv b.skip).2.skip.e⟩ rfl (by omega) (fun _ => ⟨hq1.1, hq1.2, rfl⟩)).s2 (wrap64 a.o) (S.arr fv a).2 (by rw [hr]; exact HEE.out.symm) (fun _ => ⟨hq1.1, by rw [hr]; exact hq1.2, by rw [hr, w64 (by omega) (by omega)]; show a.o = a.o + 1 - 1; omega⟩)
      have hwp : ((q10 + 1 : Nat) : Int) = wrap64 ((q10 : Int) + 1) := (w1n q10 s.length (by omega) (by omega)).symm
      rw [hwp] at h12
      have H12 := hi_ h12
      obtain ⟨z6, z7, hz, hz6, hz7⟩ := ((HL11.out.kept (grown_set w11 g 1 (.int .i64 (wrap64 ((q10 : Int) + 1)))) (by have := H.out.lt; omega)).kept (grown_set _ g 2 (.int .i64 (wrap64 a.o))) (by have := H.out.lt; omega)).vc
      have HM12 := hi_ (k35_mkM _ _ (fun _ => True) (S28.mk 4 false z24 ⟨#[]⟩ (x ++ [y8]) []) (Kd.R_mono hz6 (fun _ _ => trivial)) hz7)
      have HO12 : Hid ((#[.int .i64 4, .bool false, .bool false, .string ⟨#[]⟩, .int .i64 0, .string ⟨#[]⟩, z6, z7] : Array Value).toList.all (·.oneCell') = true) := hi_ (List.all_eq_true.2 (fun u hu => k35.K_one (k35.K_of_M HM12.out) u hu))
      have HZ := hi_ hz
      have HZ12 := hi_ ((Below.heap_setCell (w11.setCell ⟨g, 1, none⟩ (.int .i64 (wrap64 ((q10 : Int) + 1)))) ⟨g, 2, none⟩ (.int .i64 (wrap64 a.o)) w1.heap.size (Nat.ne_of_gt H.out.lt)).trans ((Below.heap_setCell w11 ⟨g, 1, none⟩ (.int .i64 (wrap64 ((q10 : Int) + 1))) w1.heap.size (Nat.ne_of_gt H.out.lt)).trans HZ11.out))
      have HR1 := hi_ hr
      clear hq1 hr hsl hob h12 hwp hz hz6 hz7
      have cp := H11.out.c1
      have co := H11.out.c2
      have fp := H11.out.fz
      go_wp2_with (first | (refine wpList_load_row rfl 35 (.tmp 7) rfl (w1.heap.size + 1) rfl 35 _ (0, 0) _ HZ.out Tryz.underlying35 rfl (by kernel_rfl) ?_) | (refine row_event rfl 35 (.tmp 6) (.tmp 111) rfl w1.heap.size _ rfl rfl 35 _ HZ12.out (by kernel_rfl) rfl HO12.out ?_; intro w13 hr13 hk13))
      have h13 := H12.out.far hk13 (Nat.ne_of_gt H.out.lt) H.out.kp.size
      exact bodyPost_ret (results_cell_row rfl _ _ w1.heap.size 35 _ (0, 0) _ rfl hr13 Tryz.underlying35 rfl (by kernel_rfl)) rfl ⟨_, S28.mk 4 false z24 ⟨#[]⟩ (x ++ [y8]) [], q10 + 1, _, rfl, Jw.up HM12.out hk13 (by omega) (by omega), h13, fun e => by rw [HR1.out, HE8.out HEE.out]⟩
    have e93' : (c1 == 93) = false := by simpa using k93'
    have n93 : (c1 != 93) = true := by simpa using k93'
    have HK93 := hi_ k93'
    clear k93'
    go_wp2_with fail
    refine (fail15 H11.out.now 11 (by decide)).mono ?_
    rintro E w12 ⟨rfl, h12⟩
    obtain ⟨z6, z7, hz, hz6, hz7⟩ := (HL11.out.kept h12.kp (by have := H.out.lt; omega)).vc
    have HM12 := hi_ (k35_mkM w12 _ (fun _ => True) (S28.mk 4 false z24 ⟨#[]⟩ (x ++ [y8]) []) (Kd.R_mono hz6 (fun _ _ => trivial)) hz7)
    have HO12 : Hid ((#[.int .i64 4, .bool false, .bool false, .string ⟨#[]⟩, .int .i64 0, .string ⟨#[]⟩, z6, z7] : Array Value).toList.all (·.oneCell') = true) := hi_ (List.all_eq_true.2 (fun u hu => k35.K_one (k35.K_of_M HM12.out) u hu))
    have HZ := hi_ hz
    have HZ12 := hi_ (h12.keep HZ11.out (Nat.ne_of_gt H.out.lt))
    have H12 := hi_ (H11.out.trans h12)
    clear h12 hz hz6 hz7 ce
    go_wp2_with (first | (refine wpList_load_row rfl 35 (.tmp 7) rfl (w1.heap.size + 1) rfl 35 _ (0, 0) _ HZ.out Tryz.underlying35 rfl (by kernel_rfl) ?_) | (refine row_event rfl 35 (.tmp 6) (.tmp 93) rfl w1.heap.size _ rfl rfl 35 _ HZ12.out (by kernel_rfl) rfl HO12.out ?_; intro w13 hr13 hk13))
    have h13 := H12.out.far hk13 (Nat.ne_of_gt H.out.lt) H.out.kp.size
    have hf : ((fv b.skip).2.skip.fail 11).e = 11 := fail_e0 HEE.out 11
    have hg2 : (S.arr fv a).2.e = 11 := by
     rw [HST.out, HG.out, ← HP.out.2.2.2.2]
     exact goF_form 93 (by decide) x b HYE.out (by rw [HC.out]; exact HK44.out) (by rw [HC.out]; exact HK93.out)
    exact bodyPost_ret (results_cell_row rfl _ _ w1.heap.size 35 _ (0, 0) _ rfl hr13 Tryz.underlying35 rfl (by kernel_rfl)) rfl ⟨_, S28.mk 4 false z24 ⟨#[]⟩ (x ++ [y8]) [], q10, a.o + 1, rfl, Jw.up HM12.out hk13 (by omega) (by omega), h13.bad (by rw [hf]; decide) (by rw [hg2, hf]), fun e => absurd (hg2.symm.trans e) (by decide)⟩
theorem rowM {α : Type} {d : Kd α} {e : TypeId} {w : World} {base : Nat} {ok : Nat → Prop} {A : Option Addr} {n c : Nat} {xs : List α} (h : d.R e w base ok (.slice A n c) xs) :
    n = xs.length ∧ xs.length ≤ c ∧ ReadsRow (d.M w base ok) d.sz w A xs.length xs := by
 obtain ⟨A', c', he, hl, hr⟩ := OwnRow.reads h.2
 injection he with h1 h2 h3
 subst h1 h2 h3
 exact ⟨rfl, hl, hr.imp_ (Below.refl _ _) (fun p c hp => d.M_mono (fun k hk => hk.1) hp)⟩
theorem rr_take {α : Type} {R : α → List Value → Prop} {size : Nat} {w : World} {A : Option Addr} {xs : List α} {m : Nat} (h : ReadsRow R size w A xs.length xs) (hm : m ≤ xs.length) : ReadsRow R size w A m (xs.take m) := by
 have hl : (xs.take m).length = m := by rw [List.length_take]; omega
 refine ⟨hl, by have := h.2.1; omega, fun hp => ?_⟩
 obtain ⟨ad, e, hc⟩ := h.2.2 (by omega)
 refine ⟨ad, e, fun j p hj => hc j p ?_⟩
 rw [List.getElem?_take] at hj
 split at hj
 · exact hj
 cases hj
theorem rr_drop {α : Type} {R : α → List Value → Prop} {size : Nat} {w : World} {A : Option Addr} {xs : List α} {m c : Nat} (h : ReadsRow R size w A xs.length xs) (hm : m ≤ xs.length) (hc : xs.length ≤ c) :
    ReadsRow R size w (if c = m then A else A.map (·.add (m * size))) (xs.length - m) (xs.drop m) := by
 have hl : (xs.drop m).length = xs.length - m := List.length_drop
 refine ⟨hl, by have := h.2.1; omega, fun hp => ?_⟩
 obtain ⟨ad, rfl, hcell⟩ := h.2.2 (by omega)
 rw [if_neg (by omega)]
 refine ⟨ad.add (m * size), rfl, fun j p hj => ?_⟩
 rw [List.getElem?_drop] at hj
 obtain ⟨cs, h1, h2, h3⟩ := hcell (m + j) p hj
 refine ⟨cs, h1, h2, fun i u hu => ?_⟩
 rw [add_add, show m * size + (j * size + i) = (m + j) * size + i by rw [Nat.add_mul]; omega]
 exact h3 i u hu
theorem exec_cut_hi {o : Oper} {a : Act} {x y : Operand} {t e : TypeId} {A : Option Addr} {n c m : Nat} (ho : o.op = .slice t x none (some y) none) (hx : a.eval x = .slice A n c) (hy : a.eval y = .int .i64 m)
    (ht : Tryz.prog.underlying t = some (.slice e)) (hi : ((Tryz.prog.info? e).map (·.size)).isSome = true) (h : m ≤ c) (W : World) : (execOp a.eval o).run Tryz.prog W = .ok (.value (.slice A m c)) W := by
 obtain ⟨i, hi⟩ : ∃ i, Tryz.prog.info? e = some i := by
  cases he : Tryz.prog.info? e with
  | none => rw [he] at hi; cases hi
  | some i => exact ⟨i, rfl⟩
 have hel : Tryz.prog.elem t = e := by simp [Program.elem, ht]
 have hu : Tryz.prog.underlying t = some (.slice (Tryz.prog.elem t)) := by rw [hel]; exact ht
 unfold execOp
 simp only [ho, hx, hy, Option.map_none, Option.map_some]
 rw [Sem.run_bind, run_sliceAt_slice W t _ _ _ _ hu, run_slice_h W t A n c hu .i64 m (by omega) (by omega), hel]
 simp [sizeOf, typeInfo, hi, sliced, Result.andThen]
 cases A with
 | none => simp
 | some ad => simp [Addr.add]
theorem exec_cut_lo {o : Oper} {a : Act} {x y : Operand} {t e : TypeId} {A : Option Addr} {n c m size : Nat} (ho : o.op = .slice t x (some y) none none) (hx : a.eval x = .slice A n c) (hy : a.eval y = .int .i64 m)
    (ht : Tryz.prog.underlying t = some (.slice e)) (hi : (Tryz.prog.info? e).map (·.size) = some size) (h : m ≤ n) {A' : Option Addr} (hA : (if c = m then A else A.map (·.add (m * size))) = A') (W : World) : (execOp a.eval o).run Tryz.prog W = .ok (.value (.slice A' (n - m) (c - m))) W := by
 subst hA
 obtain ⟨i, hi, hsz⟩ := Option.map_eq_some_iff.1 hi
 have hel : Tryz.prog.elem t = e := by simp [Program.elem, ht]
 have hu : Tryz.prog.underlying t = some (.slice (Tryz.prog.elem t)) := by rw [hel]; exact ht
 unfold execOp
 simp only [ho, hx, hy, Option.map_none, Option.map_some]
 rw [Sem.run_bind, run_sliceAt_slice W t _ _ _ _ hu, run_slice_l W t A n c hu .i64 m (by omega) (by omega), hel]
 simp [sizeOf, typeInfo, hi, hsz, sliced, Result.andThen]
structure Mw (w0 w : World) (lo m hi : Nat) (v6 v7 : Value) (xs : List S28) (ns : List ByteArray) (x : S28) (cs : List Value) (z6 z7 : Value) (X : List S28) (N : List ByteArray) : Prop where
  src : w.heap[m]? = some (.cells #[.int .i64 5, .bool false, .bool false, .string ⟨#[]⟩, .int .i64 0, .string ⟨#[]⟩, v6, v7] 35 (0, 0))
  val : w.heap[hi]? = some (.cells cs.toArray 35 (0, 0))
  out : w.heap[hi + 1]? = some (.cells #[.int .i64 5, .bool false, .bool false, .string ⟨#[]⟩, .int .i64 0, .string ⟨#[]⟩, z6, z7] 35 (0, 0))
  res : w.heap[m + 1]? = some (.cells zA 35 (0, 0))
  r6 : k35.R 35 w lo (fun k => k < hi ∧ k ≠ m ∧ k ≠ m + 1) v6 xs
  r7 : Kd.string.R 9 w lo (fun k => k < hi ∧ k ≠ m ∧ k ≠ m + 1) v7 ns
  x : k35.M w lo (fun k => k < hi ∧ k ≠ m ∧ k ≠ m + 1) x cs
  q6 : k35.R 35 w lo (fun k => (k < hi ∨ hi + 2 ≤ k) ∧ k ≠ m ∧ k ≠ m + 1 ∧ some k ≠ z7.ownBlock) z6 X
  q7 : Kd.string.R 9 w lo (fun k => hi + 2 ≤ k) z7 N
  own : ∀ k, z6.ownBlock = some k → hi + 2 ≤ k
  lt : lo ≤ m ∧ m + 2 ≤ hi ∧ hi + 2 ≤ w.heap.size
  bel : Below hi w0 w
section
variable {w0 w wa : World} {lo m hi : Nat} {v6 v7 : Value} {xs : List S28} {ns : List ByteArray} {x : S28} {cs : List Value} {z6 z7 : Value} {X : List S28} {N : List ByteArray}
theorem Mw.below (h : Mw w0 w lo m hi v6 v7 xs ns x cs z6 z7 X N) (k : Below w.heap.size w wa) : Mw w0 wa lo m hi v6 v7 xs ns x cs z6 z7 X N :=
 have lt := h.lt
 ⟨(k.block m (by omega)).trans h.src, (k.block hi (by omega)).trans h.val, (k.block (hi + 1) (by omega)).trans h.out, (k.block (m + 1) (by omega)).trans h.res, Kd.R_below h.r6 k, Kd.R_below h.r7 k, Kd.M_below h.x k, Kd.R_below h.q6 k, Kd.R_below h.q7 k, h.own, ⟨lt.1, lt.2.1, Nat.le_trans lt.2.2 k.size⟩, h.bel.trans (k.mono (by omega))⟩
theorem Mw.drew (h : Mw w0 w lo m hi v6 v7 xs ns x cs z6 z7 X N) : Mw w0 w.drew lo m hi v6 v7 xs ns x cs z6 z7 X N := h.below (Below.refl _ _).drew
theorem Mw.names (h : Mw w0 w lo m hi v6 v7 xs ns x cs z6 z7 X N) {v1 : Value} {N1 : List ByteArray} (hR : Kd.string.R 9 wa lo (fun k => hi + 2 ≤ k) v1 N1) (hg : w.grownBy wa z7.ownBlock) (hat : v1.ownBlock = z7.ownBlock ∨ ∃ b, v1.ownBlock = some b ∧ w.heap.size ≤ b) :
    Mw w0 (wa.setCell ⟨hi + 1, 7, none⟩ v1) lo m hi v6 v7 xs ns x cs z6 v1 X N1 ∧ wa.heap[hi + 1]? = some (.cells #[.int .i64 5, .bool false, .bool false, .string ⟨#[]⟩, .int .i64 0, .string ⟨#[]⟩, z6, z7] 35 (0, 0)) ∧ wa.heap[m]? = some (.cells #[.int .i64 5, .bool false, .bool false, .string ⟨#[]⟩, .int .i64 0, .string ⟨#[]⟩, v6, v7] 35 (0, 0)) := by
 have lt := h.lt
 have own7 : ∀ k, z7.ownBlock = some k → hi + 2 ≤ k := h.q7.1
 have hne : ∀ k, some k ≠ z7.ownBlock → k < w.heap.size → some k ≠ v1.ownBlock := fun k h1 h2 => by
  rcases hat with e | ⟨b, e, hb⟩
  · rw [e]; exact h1
  rw [e]; intro e2; injection e2 with e2; omega
 have blk : ∀ k (ob : Obj), k < hi + 2 → w.heap[k]? = some ob → wa.heap[k]? = some ob := fun k ob hk e => (hg.block k (by omega) (fun e2 => by have := own7 k e2.symm; omega)).trans e
 have far : ∀ k (ob : Obj), k ≠ hi + 1 → wa.heap[k]? = some ob → (wa.setCell ⟨hi + 1, 7, none⟩ v1).heap[k]? = some ob := fun k ob hk e => (Below.heap_setCell wa ⟨hi + 1, 7, none⟩ v1 k hk).trans e
 have ho := blk (hi + 1) _ (by omega) h.out
 have hF := grown_set wa (hi + 1) 7 v1
 refine ⟨⟨far _ _ (by omega) (blk _ _ (by omega) h.src), far _ _ (by omega) (blk _ _ (by omega) h.val), blk_put ho 7 v1 rfl, far _ _ (by omega) (blk _ _ (by omega) h.res), ?_, ?_, ?_, ?_, ?_, h.own, ⟨lt.1, lt.2.1, ?_⟩, (h.bel.grown hg (by omega) (fun k e => by have := own7 k e; omega)).setCell (by show hi ≤ hi + 1; omega) v1⟩, ho, blk _ _ (by omega) h.src⟩
 · exact Kd.R_far (Kd.R_grown h.r6 hg (fun k hk e => by have := own7 k e.symm; omega)) (p := ⟨hi + 1, 7, none⟩) (fun k hk => by show k ≠ hi + 1; omega) v1
 · exact Kd.R_far (Kd.R_grown h.r7 hg (fun k hk e => by have := own7 k e.symm; omega)) (p := ⟨hi + 1, 7, none⟩) (fun k hk => by show k ≠ hi + 1; omega) v1
 · exact Kd.M_far (Kd.M_grown h.x hg (fun k hk e => by have := own7 k e.symm; omega)) (p := ⟨hi + 1, 7, none⟩) (fun k hk => by show k ≠ hi + 1; omega) v1
 · have h1 := Kd.R_bound h.q6
   have h2 := Kd.R_grown h1 hg (fun k hk => hk.1.2.2.2)
   exact Kd.R_far (Kd.R_mono h2 (fun k hk => ⟨hk.1.1, hk.1.2.1, hk.1.2.2.1, hne k hk.1.2.2.2 hk.2.2.1⟩)) (p := ⟨hi + 1, 7, none⟩) (fun k hk => by have := hk.1; show k ≠ hi + 1; omega) v1
 · exact Kd.R_far hR (p := ⟨hi + 1, 7, none⟩) (fun k hk => by show k ≠ hi + 1; omega) v1
 · have := hg.size; have := hF.size; omega
theorem Mw.items (h : Mw w0 w lo m hi v6 v7 xs ns x cs z6 z7 X N) {v1 : Value} {X1 : List S28} (hR : k35.R 35 wa lo (fun k => (k < hi ∨ hi + 2 ≤ k) ∧ k ≠ m ∧ k ≠ m + 1 ∧ some k ≠ z7.ownBlock) v1 X1) (hg : w.grownBy wa z6.ownBlock) (hat : v1.ownBlock = z6.ownBlock ∨ ∃ b, v1.ownBlock = some b ∧ w.heap.size ≤ b) :
    Mw w0 (wa.setCell ⟨hi + 1, 6, none⟩ v1) lo m hi v6 v7 xs ns x cs v1 z7 X1 N ∧ wa.heap[hi + 1]? = some (.cells #[.int .i64 5, .bool false, .bool false, .string ⟨#[]⟩, .int .i64 0, .string ⟨#[]⟩, z6, z7] 35 (0, 0)) ∧ wa.heap[m]? = some (.cells #[.int .i64 5, .bool false, .bool false, .string ⟨#[]⟩, .int .i64 0, .string ⟨#[]⟩, v6, v7] 35 (0, 0)) := by
 have lt := h.lt
 have own6 := h.own
 have blk : ∀ k (ob : Obj), k < hi + 2 → w.heap[k]? = some ob → wa.heap[k]? = some ob := fun k ob hk e => (hg.block k (by omega) (fun e2 => by have := own6 k e2.symm; omega)).trans e
 have far : ∀ k (ob : Obj), k ≠ hi + 1 → wa.heap[k]? = some ob → (wa.setCell ⟨hi + 1, 6, none⟩ v1).heap[k]? = some ob := fun k ob hk e => (Below.heap_setCell wa ⟨hi + 1, 6, none⟩ v1 k hk).trans e
 have ho := blk (hi + 1) _ (by omega) h.out
 have hF := grown_set wa (hi + 1) 6 v1
 refine ⟨⟨far _ _ (by omega) (blk _ _ (by omega) h.src), far _ _ (by omega) (blk _ _ (by omega) h.val), blk_put ho 6 v1 rfl, far _ _ (by omega) (blk _ _ (by omega) h.res), ?_, ?_, ?_, ?_, ?_, ?_, ⟨lt.1, lt.2.1, ?_⟩, (h.bel.grown hg (by omega) (fun k e => by have := own6 k e; omega)).setCell (by show hi ≤ hi + 1; omega) v1⟩, ho, blk _ _ (by omega) h.src⟩
 · exact Kd.R_far (Kd.R_grown h.r6 hg (fun k hk e => by have := own6 k e.symm; omega)) (p := ⟨hi + 1, 6, none⟩) (fun k hk => by show k ≠ hi + 1; omega) v1
 · exact Kd.R_far (Kd.R_grown h.r7 hg (fun k hk e => by have := own6 k e.symm; omega)) (p := ⟨hi + 1, 6, none⟩) (fun k hk => by show k ≠ hi + 1; omega) v1
 · exact Kd.M_far (Kd.M_grown h.x hg (fun k hk e => by have := own6 k e.symm; omega)) (p := ⟨hi + 1, 6, none⟩) (fun k hk => by show k ≠ hi + 1; omega) v1
 · exact Kd.R_far hR (p := ⟨hi + 1, 6, none⟩) (fun k hk => by have := hk.1; show k ≠ hi + 1; omega) v1
 · have h1 : Kd.string.R 9 w lo (fun k => hi + 2 ≤ k ∧ some k ≠ z6.ownBlock) z7 N := by
     obtain ⟨h1, inner, h2, h3⟩ := h.q7
     exact ⟨fun k hk => ⟨h1 k hk, fun e => (h.q6.1 k e.symm).2.2.2 hk.symm⟩, inner, h2, h3⟩
   exact Kd.R_far (Kd.R_mono (Kd.R_grown h1 hg (fun k hk => hk.2)) (fun k hk => hk.1)) (p := ⟨hi + 1, 6, none⟩) (fun k hk => by show k ≠ hi + 1; omega) v1
 · intro k e
   rcases hat with e2 | ⟨b, e2, hb⟩
   · exact own6 k (e2.symm.trans e)
   rw [e] at e2; injection e2 with e2; omega
 · have := hg.size; have := hF.size; omega
section
variable {ops : Array Oper} {rest : List Oper} {o : Oper} {a : Act} {Q : Exit → Act → World → Prop} {Kc : Act → World → Prop}
theorem Mw.step7 (h : Mw w0 w lo m hi v6 v7 xs ns x cs z6 z7 X N) {t1 t2 : Tmp} {A : Option Addr} {n c : Nat} {ys : List ByteArray} (hw : Region.wanted o (yielded ops a.tmps) = true) (ho : o.op = .call { callee := .builtin .append, args := #[.tmp t1, .tmp t2], argTypes := #[26, 26] })
    (hs : a.eval (.tmp t1) = z7) (hx : a.eval (.tmp t2) = .slice A n c) (HR : ReadsRow (Kd.string.M w lo (fun k => k < hi ∧ k ≠ m ∧ k ≠ m + 1)) 1 w A n ys) (hl : N.length + n ≤ 1000000)
    (H : ∀ A1 n1 c1 wa, n1 = (N ++ ys).length → Mw w0 (wa.setCell ⟨hi + 1, 7, none⟩ (.slice A1 n1 c1)) lo m hi v6 v7 xs ns x cs z6 (.slice A1 n1 c1) X (N ++ ys) → wa.heap[hi + 1]? = some (.cells #[.int .i64 5, .bool false, .bool false, .string ⟨#[]⟩, .int .i64 0, .string ⟨#[]⟩, z6, z7] 35 (0, 0)) ∧ wa.heap[m]? = some (.cells #[.int .i64 5, .bool false, .bool false, .string ⟨#[]⟩, .int .i64 0, .string ⟨#[]⟩, v6, v7] 35 (0, 0)) → Kc (a.put o.dst (.slice A1 n1 c1)) wa) :
    if Region.wanted o (yielded ops a.tmps) = true then Oper.wp Tryz.prog o a w Kc Q else Kc (a.put o.dst undef) w := by
 refine Kd.R_append_rows_step Kd.string (w0 := w) lo hw (.tmp t1) (.tmp t2) 26 9 (.string ⟨#[]⟩) 16 ho Tryz.underlying26 info9 rfl (by decide) (by decide) z7 N ys A n c (fun k => hi + 2 ≤ k) (fun _ => False) hs hx h.q7 HR (fun _ _ h => h) (fun k hk => hk.elim) (fun k hk => by have := h.lt.2.2; omega) (Below.refl _ _) (by have := h.lt; omega) (by omega) ?_
 intro v1 wa hR hB hg hat
 obtain ⟨A1, c1, rfl⟩ := Kd.R_slice hR
 obtain ⟨q1, q2⟩ := h.names hR hg hat
 exact H A1 _ c1 wa rfl q1 q2
theorem Mw.step6 (h : Mw w0 w lo m hi v6 v7 xs ns x cs z6 z7 X N) {t1 t2 : Tmp} {A : Option Addr} {n c : Nat} {ys : List S28} (hw : Region.wanted o (yielded ops a.tmps) = true) (ho : o.op = .call { callee := .builtin .append, args := #[.tmp t1, .tmp t2], argTypes := #[33, 33] })
    (hs : a.eval (.tmp t1) = z6) (hx : a.eval (.tmp t2) = .slice A n c) (HR : ReadsRow (k35.M w lo (fun k => k < hi ∧ k ≠ m ∧ k ≠ m + 1)) 8 w A n ys) (hl : X.length + n ≤ 1000000)
    (H : ∀ A1 n1 c1 wa, n1 = (X ++ ys).length → Mw w0 (wa.setCell ⟨hi + 1, 6, none⟩ (.slice A1 n1 c1)) lo m hi v6 v7 xs ns x cs (.slice A1 n1 c1) z7 (X ++ ys) N → wa.heap[hi + 1]? = some (.cells #[.int .i64 5, .bool false, .bool false, .string ⟨#[]⟩, .int .i64 0, .string ⟨#[]⟩, z6, z7] 35 (0, 0)) ∧ wa.heap[m]? = some (.cells #[.int .i64 5, .bool false, .bool false, .string ⟨#[]⟩, .int .i64 0, .string ⟨#[]⟩, v6, v7] 35 (0, 0)) → Kc (a.put o.dst (.slice A1 n1 c1)) wa) :
    if Region.wanted o (yielded ops a.tmps) = true then Oper.wp Tryz.prog o a w Kc Q else Kc (a.put o.dst undef) w := by
 have lt := h.lt
 have b7 := (Kd.R_bound h.q7).1
 refine Kd.R_append_rows_step k35 (w0 := w) lo hw (.tmp t1) (.tmp t2) 33 35 (.agg zA) 112 ho Tryz.underlying33 info35 rfl (by decide) (by decide) z6 X ys A n c _ (fun k => k < hi ∧ k ≠ m ∧ k ≠ m + 1) hs hx h.q6 HR (fun _ _ h => h) (fun k hk => ⟨⟨.inl hk.1, hk.2.1, hk.2.2, fun e => by have := (b7 k e.symm).1; omega⟩, fun e => by have := h.own k e.symm; omega⟩)
  (fun k hk => ⟨.inr (by omega), by omega, by omega, fun e => by have := (b7 k e.symm).2.2.1; omega⟩) (Below.refl _ _) (by omega) (by omega) ?_
 intro v1 wa hR hB hg hat
 obtain ⟨A1, c1, rfl⟩ := Kd.R_slice hR
 obtain ⟨q1, q2⟩ := h.items hR hg hat
 exact H A1 _ c1 wa rfl q1 q2
theorem Mw.one7 (h : Mw w0 w lo m hi v6 v7 xs ns x cs z6 z7 X N) {t1 t2 : Tmp} {y : ByteArray} (hgd : o.guard = none) (ho : o.op = .call { callee := .builtin .append, args := #[.tmp t1, .tmp t2], argTypes := #[26, 26] })
    (hs : a.eval (.tmp t1) = z7) {b : Nat} (hx : a.eval (.tmp t2) = .slice (some ⟨b, 0, none⟩) 1 1) (hbw : b = w.heap.size) (hl : N.length + 1 ≤ 1000000)
    (H : ∀ A1 n1 c1 wa, n1 = (N ++ [y]).length → Mw w0 (wa.setCell ⟨hi + 1, 7, none⟩ (.slice A1 n1 c1)) lo m hi v6 v7 xs ns x cs z6 (.slice A1 n1 c1) X (N ++ [y]) → wa.heap[hi + 1]? = some (.cells #[.int .i64 5, .bool false, .bool false, .string ⟨#[]⟩, .int .i64 0, .string ⟨#[]⟩, z6, z7] 35 (0, 0)) ∧ wa.heap[m]? = some (.cells #[.int .i64 5, .bool false, .bool false, .string ⟨#[]⟩, .int .i64 0, .string ⟨#[]⟩, v6, v7] 35 (0, 0)) → wpList Tryz.prog ops Q rest (a.put o.dst (.slice A1 n1 c1)) wa) :
    wpList Tryz.prog ops Q (o :: rest) a (w.alloc (.cells #[.string y] 9)) := by
 subst hbw
 refine Kd.R_append Kd.string (w0 := w) lo hgd (.tmp t1) (.tmp t2) 26 9 (.string ⟨#[]⟩) 16 ho Tryz.underlying26 info9 rfl (by decide) (by decide) z7 N y [.string y] (fun k => hi + 2 ≤ k) (fun _ => False) hs hx rfl (fun k hk => hk.elim) (fun k hk => by have := h.lt.2.2; omega) h.q7 (Below.refl _ _) (by have := h.lt; omega) (by omega) ?_
 intro v1 wa hR hB hg hat
 obtain ⟨A1, c1, rfl⟩ := Kd.R_slice hR
 obtain ⟨q1, q2⟩ := h.names hR hg hat
 exact H A1 _ c1 wa rfl q1 q2
theorem Mw.one6 (h : Mw w0 w lo m hi v6 v7 xs ns x cs z6 z7 X N) {t1 t2 : Tmp} (hgd : o.guard = none) (ho : o.op = .call { callee := .builtin .append, args := #[.tmp t1, .tmp t2], argTypes := #[33, 33] })
    (hs : a.eval (.tmp t1) = z6) {b : Nat} (hx : a.eval (.tmp t2) = .slice (some ⟨b, 0, none⟩) 1 1) (hbw : b = w.heap.size) (hl : X.length + 1 ≤ 1000000)
    (H : ∀ A1 n1 c1 wa, n1 = (X ++ [x]).length → Mw w0 (wa.setCell ⟨hi + 1, 6, none⟩ (.slice A1 n1 c1)) lo m hi v6 v7 xs ns x cs (.slice A1 n1 c1) z7 (X ++ [x]) N → wa.heap[hi + 1]? = some (.cells #[.int .i64 5, .bool false, .bool false, .string ⟨#[]⟩, .int .i64 0, .string ⟨#[]⟩, z6, z7] 35 (0, 0)) ∧ wa.heap[m]? = some (.cells #[.int .i64 5, .bool false, .bool false, .string ⟨#[]⟩, .int .i64 0, .string ⟨#[]⟩, v6, v7] 35 (0, 0)) → wpList Tryz.prog ops Q rest (a.put o.dst (.slice A1 n1 c1)) wa) :
    wpList Tryz.prog ops Q (o :: rest) a (w.alloc (.cells cs.toArray 35)) := by
 have lt := h.lt
 have b7 := (Kd.R_bound h.q7).1
 subst hbw
 refine Kd.R_append k35 (w0 := w) lo hgd (.tmp t1) (.tmp t2) 33 35 (.agg zA) 112 ho Tryz.underlying33 info35 rfl (by decide) (by decide) z6 X x cs _ (fun k => k < hi ∧ k ≠ m ∧ k ≠ m + 1) hs hx h.x (fun k hk => ⟨⟨.inl hk.1, hk.2.1, hk.2.2, fun e => by have := (b7 k e.symm).1; omega⟩, fun e => by have := h.own k e.symm; omega⟩)
  (fun k hk => ⟨.inr (by omega), by omega, by omega, fun e => by have := (b7 k e.symm).2.2.1; omega⟩) h.q6 (Below.refl _ _) (by omega) (by omega) ?_
 intro v1 wa hR hB hg hat
 obtain ⟨A1, c1, rfl⟩ := Kd.R_slice hR
 obtain ⟨q1, q2⟩ := h.items hR hg hat
 exact H A1 _ c1 wa rfl q1 q2
end
end
def vB (v6 v7 : Value) : Array Value := #[.int .i64 5, .bool false, .bool false, .string ⟨#[]⟩, .int .i64 0, .string ⟨#[]⟩, v6, v7]
structure Ms (w : World) (lo m : Nat) (v6 v7 : Value) (xs : List S28) (ns : List ByteArray) : Prop where
  src : w.heap[m]? = some (.cells #[.int .i64 5, .bool false, .bool false, .string ⟨#[]⟩, .int .i64 0, .string ⟨#[]⟩, v6, v7] 35 (0, 0))
  res : w.heap[m + 1]? = some (.cells zA 35 (0, 0))
  r6 : k35.R 35 w lo (fun k => k < m) v6 xs
  r7 : Kd.string.R 9 w lo (fun k => k < m) v7 ns
  lt : lo ≤ m ∧ m + 2 ≤ w.heap.size
theorem Ms.kept {w w' : World} {lo m g : Nat} {v6 v7 : Value} {xs : List S28} {ns : List ByteArray} (h : Ms w lo m v6 v7 xs ns) (k : w.grownBy w' (some g)) (hg : g < lo) : Ms w' lo m v6 v7 xs ns := by
 have lt := h.lt
 exact ⟨(k.block m (by omega) (fun e => by injection e with e; omega)).trans h.src, (k.block (m + 1) (by omega) (fun e => by injection e with e; omega)).trans h.res,
  Kd.R_mono (Kd.R_grown (Kd.R_bound h.r6) k (fun i hi e => by have := hi.2.1; injection e with e; omega)) (fun _ hk => hk.1),
  Kd.R_mono (Kd.R_grown (Kd.R_bound h.r7) k (fun i hi e => by have := hi.2.1; injection e with e; omega)) (fun _ hk => hk.1), lt.1, Nat.le_trans lt.2 k.size⟩
theorem Ms.jw {w w' : World} {lo m : Nat} {v6 v7 : Value} {xs : List S28} {ns : List ByteArray} (h : Ms w lo m v6 v7 xs ns) (k : w.grownBy w' (some (m + 1))) : k35.R 35 w' lo (fun _ => True) v6 xs ∧ Kd.string.R 9 w' lo (fun _ => True) v7 ns :=
 ⟨Kd.R_mono (Kd.R_grown h.r6 k (fun i hi e => by injection e with e; omega)) (fun _ _ => trivial), Kd.R_mono (Kd.R_grown h.r7 k (fun i hi e => by injection e with e; omega)) (fun _ _ => trivial)⟩
theorem Ms.one {w : World} {lo m : Nat} {v6 v7 : Value} {xs : List S28} {ns : List ByteArray} (h : Ms w lo m v6 v7 xs ns) : (#[.int .i64 5, .bool false, .bool false, .string ⟨#[]⟩, .int .i64 0, .string ⟨#[]⟩, v6, v7] : Array Value).toList.all (·.oneCell') = true :=
 List.all_eq_true.2 (fun u hu => k35.K_one (k35.K_of_M (k35_mkM w lo (fun _ => True) (S28.mk 5 false z24 ⟨#[]⟩ xs ns) (Kd.R_mono h.r6 (fun _ _ => trivial)) (Kd.R_mono h.r7 (fun _ _ => trivial)))) u hu)
def MP (s : List UInt8) (w : World) (g lo n : Nat) (T : (List S28 × List ByteArray) × S) (E : Ending) (w' : World) : Prop :=
 ∃ z6 z7 X N q u, E = .returned (.agg (vB z6 z7)) ∧ k35.R 35 w' lo (fun _ => True) z6 X ∧ Kd.string.R 9 w' lo (fun _ => True) z7 N ∧ X.length = N.length ∧ N.length ≤ n + 1 ∧ Rf s w w' g T.2 q u ∧ (T.2.e = 0 → (X, N) = T.1 ∧ rises N)
theorem lessB_is (x a : ByteArray) : Op.bytesLess a.toList x.toList = lessB x a := by rw [lessC, ByteArray.toList_eq, ByteArray.toList_eq]; rfl
theorem tw_more {ns : List ByteArray} {x : ByteArray} {i : Nat} (hi : i ≤ (ns.takeWhile (lessB x)).length) (hn : i < ns.length) (h : Op.bytesLess (ns.getD i ⟨#[]⟩).toList x.toList = true) : i + 1 ≤ (ns.takeWhile (lessB x)).length := by
 rcases Nat.lt_or_ge i (ns.takeWhile (lessB x)).length with h1 | h1
 · omega
 have e : i = (ns.takeWhile (lessB x)).length := by omega
 subst e
 have := tw_at hn
 rw [lessB_is, show ns.getD (ns.takeWhile (lessB x)).length ⟨#[]⟩ = ns[(ns.takeWhile (lessB x)).length] by simp [List.getD, hn], this] at h
 cases h
theorem tw_end {ns : List ByteArray} {x : ByteArray} {i : Nat} (hr : rises ns) (hi : i ≤ (ns.takeWhile (lessB x)).length) (hn : i < ns.length) (h : Op.bytesLess (ns.getD i ⟨#[]⟩).toList x.toList = false) : i = pos ns x := by
 rw [pos_tw hr]
 rcases Nat.lt_or_ge i (ns.takeWhile (lessB x)).length with h1 | h1
 · obtain ⟨h2, h3⟩ := tw_lt h1
   rw [lessB_is, show ns.getD i ⟨#[]⟩ = ns[i] by simp [List.getD, hn], h3] at h
   cases h
 omega
theorem tw_all {ns : List ByteArray} {x : ByteArray} {i : Nat} (hr : rises ns) (hi : i ≤ (ns.takeWhile (lessB x)).length) (hn : ns.length ≤ i) : i = pos ns x := by
 rw [pos_tw hr]
 have hle := (List.takeWhile_sublist (lessB x) (l := ns)).length_le
 omega
theorem toL_beq (a b : ByteArray) : (a.toList == b.toList) = decide (a = b) := by
 by_cases h : a = b
 · subst h; simp
 · have h2 : a.toList ≠ b.toList := fun e => h (by
     rw [ByteArray.toList_eq, ByteArray.toList_eq] at e
     exact ByteArray.ext (Array.toList_inj.1 e))
   simp [h, h2]
theorem strV_skip {a : S} (h : Lib.hasPrefix a.skip.s [34] = true) : strV a.skip = a.skip.st := by unfold strV; rw [if_pos h]
theorem objT_str {fv : S → S28 × S} {a : S} (hbad : ∀ b, b.e ≠ 0 → (fv b).2.e = b.e) (he : a.e = 0) (q : List S28 × List ByteArray) (h : (strV a.skip).2.e ≠ 0) : (objT fv q a).2.e = (strV a.skip).2.e := by
 unfold objT
 cases hp : Lib.hasPrefix a.skip.s [34] with
 | false =>
  rw [if_pos rfl]
  unfold strV
  rw [hp, if_neg (by simp)]
 | true =>
  rw [if_neg (by simp)]
  rw [strV_skip hp] at h ⊢
  have h1 : (S.twice a.skip.st.2 (has q.2 (objN a))).e = a.skip.st.2.e := by
   unfold S.twice
   split
   · exact fail_e h 31
   rfl
  have h2 : (objA q.2 a).e = a.skip.st.2.e := (need_e (by rw [h1]; exact h) [58]).trans h1
  show (fv (objA q.2 a)).2.e = _
  rw [hbad _ (by rw [h2]; exact h), h2]
theorem objT_twice {fv : S → S28 × S} {a : S} (hbad : ∀ b, b.e ≠ 0 → (fv b).2.e = b.e) (q : List S28 × List ByteArray) (hp : Lib.hasPrefix a.skip.s [34] = true) (h : a.skip.st.2.e = 0) (hh : has q.2 (objN a) = true) : (objT fv q a).2.e = 31 := by
 unfold objT
 rw [hp, if_neg (by simp)]
 have h1 : (S.twice a.skip.st.2 (has q.2 (objN a))).e = 31 := by
  unfold S.twice
  rw [hh, if_pos rfl]
  exact fail_e0 h 31
 have h2 : (objA q.2 a).e = 31 := (need_e (by rw [h1]; decide) [58]).trans h1
 show (fv (objA q.2 a)).2.e = _
 rw [hbad _ (by rw [h2]; decide), h2]
theorem strV_pre {a : S} (he : a.e = 0) (h : (strV a.skip).2.e = 0) : Lib.hasPrefix a.skip.s [34] = true := by
 cases hp : Lib.hasPrefix a.skip.s [34] with
 | true => rfl
 | false =>
  unfold strV at h
  rw [hp, if_neg (by simp)] at h
  have := fail_e0 (a := a.skip) he 11
  rw [this] at h
  cases h
set_option maxRecDepth 100000 in
set_option maxHeartbeats 8000000 in
theorem member15 {fv : S → S28 × S} {n : Nat} (HV : WC 37 #[] (OKn n) fv) (hbad : ∀ b, b.e ≠ 0 → (fv b).2.e = b.e) {s : List UInt8} {w w1 : World} {g : Nat} {a : S} {p : Nat} {o : Int} (h : Rf s w w1 g a.skip p o) (hs : s.length ≤ 600) (he : a.e = 0)
    (hok : 0 ≤ a.o ∧ a.o ≤ 16 ∧ a.o + n = 17) {lo : Nat} {v6 v7 : Value} {xs : List S28} {ns : List ByteArray} (hlo : lo ≤ w1.heap.size ∧ g < lo) (h6 : k35.R 35 w1 lo (fun _ => True) v6 xs) (h7 : Kd.string.R 9 w1 lo (fun _ => True) v7 ns)
    (hl : xs.length = ns.length ∧ ns.length ≤ 700) (hr : rises ns) :
    Calls Tryz.prog 108 #[.pointer (some ⟨g, 0, none⟩), .agg (vB v6 v7)] w1 fun E w' => MP s w g lo ns.length (objT fv (xs, ns) a) E w' := by
 obtain ⟨A6, c6, rfl⟩ := Kd.R_slice h6
 obtain ⟨A7, c7, rfl⟩ := Kd.R_slice h7
 unfold vB
 have H := hi_ h
 have HS := hi_ hs
 have HE := hi_ he
 have HO := hi_ hok
 have HVV := hi_ HV
 have HBD := hi_ hbad
 have HLO := hi_ hlo
 have H6 := hi_ h6
 have H7 := hi_ h7
 have HL := hi_ hl
 have HR := hi_ hr
 obtain ⟨T, hT⟩ : ∃ T, objT fv (xs, ns) a = T := ⟨_, rfl⟩
 have HT := hi_ hT
 rw [hT]
 clear h hs he hok HV hbad hlo h6 h7 hl hr hT
 have HWb : Hid (Below w1.heap.size w1 ((w1.alloc (.cells #[.int .i64 5, .bool false, .bool false, .string ⟨#[]⟩, .int .i64 0, .string ⟨#[]⟩, .slice A6 xs.length c6, .slice A7 ns.length c7] 35)).alloc (.cells zA 35))) := hi_ ((Below.alloc (Below.refl _ _) (Nat.le_refl _) _).trans ((Below.alloc (Below.refl _ _) (Nat.le_refl _) _).mono (by simp)))
 have HN0 : Hid (((w1.alloc (.cells #[.int .i64 5, .bool false, .bool false, .string ⟨#[]⟩, .int .i64 0, .string ⟨#[]⟩, .slice A6 xs.length c6, .slice A7 ns.length c7] 35)).alloc (.cells zA 35)).heap[w1.heap.size]? = some (.cells #[.int .i64 5, .bool false, .bool false, .string ⟨#[]⟩, .int .i64 0, .string ⟨#[]⟩, .slice A6 xs.length c6, .slice A7 ns.length c7] 35 (0, 0))) := hi_ (blk_alloc (blk_new w1 _) _)
 have HN1 : Hid (((w1.alloc (.cells #[.int .i64 5, .bool false, .bool false, .string ⟨#[]⟩, .int .i64 0, .string ⟨#[]⟩, .slice A6 xs.length c6, .slice A7 ns.length c7] 35)).alloc (.cells zA 35)).heap[w1.heap.size + 1]? = some (.cells zA 35 (0, 0))) := hi_ (by have := blk_new (w1.alloc (.cells #[.int .i64 5, .bool false, .bool false, .string ⟨#[]⟩, .int .i64 0, .string ⟨#[]⟩, .slice A6 xs.length c6, .slice A7 ns.length c7] 35)) (.cells zA 35); simpa using this)
 have HSZ : Hid (((w1.alloc (.cells #[.int .i64 5, .bool false, .bool false, .string ⟨#[]⟩, .int .i64 0, .string ⟨#[]⟩, .slice A6 xs.length c6, .slice A7 ns.length c7] 35)).alloc (.cells zA 35)).heap.size = w1.heap.size + 2) := hi_ (by simp)
 go_enter Tryz.func108, Tryz.ntmps108
 go_wp2_with fail
 have HM0 : Hid (Ms _ lo w1.heap.size (.slice A6 xs.length c6) (.slice A7 ns.length c7) xs ns) := hi_ ⟨HN0.out, HN1.out, Kd.R_mono (Kd.R_below (Kd.R_bound H6.out) HWb.out) (fun k hk => hk.2.2.1), Kd.R_mono (Kd.R_below (Kd.R_bound H7.out) HWb.out) (fun k hk => hk.2.2.1), HLO.out.1, by rw [HSZ.out]; exact Nat.le_refl _⟩
 refine (str15 (H.out.below HWb.out).now HE.out).mono ?_
 rintro E w2 ⟨out, q2, rfl, h2, h2e⟩
 have HM2 := hi_ (HM0.out.kept h2.kp HLO.out.2)
 have H2 := hi_ ((H.out.below HWb.out).trans h2)
 have H2E := hi_ h2e
 clear h2 h2e
 have ce := H2.out.c3
 by_cases hee : (strV a.skip).2.e ≠ 0
 · have e1 : ((strV a.skip).2.e != 0) = true := by simpa using hee
   have HEE := hi_ hee
   clear hee
   go_wp2_with (first | (refine wpList_load_row rfl 35 (.tmp 3) rfl w1.heap.size rfl 35 _ (0, 0) _ HM2.out.src Tryz.underlying35 rfl (by kernel_rfl) ?_) | (refine row_event rfl 35 (.tmp 4) (.tmp 16) rfl (w1.heap.size + 1) _ rfl rfl 35 _ HM2.out.res (by kernel_rfl) rfl HM2.out.one ?_; intro w3 hr3 hk3))
   have hj := HM2.out.jw hk3
   have hte : T.2.e = (strV a.skip).2.e := by rw [← HT.out]; exact objT_str HBD.out HE.out (xs, ns) HEE.out
   exact bodyPost_ret (results_cell_row rfl _ _ (w1.heap.size + 1) 35 _ (0, 0) _ rfl hr3 Tryz.underlying35 rfl (by kernel_rfl)) rfl ⟨_, _, xs, ns, q2, o, rfl, hj.1, hj.2, HL.out.1, by omega, (H2.out.far hk3 (by have := H.out.lt; omega) (by have := H.out.kp.size; omega)).bad HEE.out hte, fun e => absurd (hte.symm.trans e) HEE.out⟩
 replace hee : (strV a.skip).2.e = 0 := Classical.not_not.1 hee
 have e1 : ((strV a.skip).2.e != 0) = false := by simp [hee]
 have HEE := hi_ hee
 have HPR := hi_ (strV_pre HE.out hee)
 have HOU := hi_ (H2E.out hee)
 rw [strV_skip HPR.out] at HOU HEE H2
 obtain ⟨name, hname⟩ : ∃ name, ofL out = name := ⟨_, rfl⟩
 have HNA : Hid (name = objN a) := hi_ (by rw [← hname, HOU.out]; rfl)
 rw [hname]
 clear hee hname H2E HOU
 go_upto_block 0 with fail
 clear ce
 go_cut [6] (fun s6 wx => s6 = .int .i64 ((pos ns name : Nat) : Int) ∧ Hid (Ms wx lo w1.heap.size (.slice A6 xs.length c6) (.slice A7 ns.length c7) xs ns) ∧ Hid (Rf s w wx g a.skip.st.2 q2 o))
 case first =>
  go_wp2_with fail
  go_loopw [6] (fun vi wr => ∃ i : Nat, i ≤ ns.length ∧ vi = .int .i64 i ∧ Hid (i ≤ (ns.takeWhile (lessB name)).length) ∧ Hid (Ms wr lo w1.heap.size (.slice A6 xs.length c6) (.slice A7 ns.length c7) xs ns) ∧ Hid (Rf s w wr g a.skip.st.2 q2 o)) (fun vi _ => ns.length - (intOf vi).toNat)
  case atStart => exact ⟨0, by omega, rfl, hi_ (Nat.zero_le _), HM2, H2⟩
  case round =>
   obtain ⟨i, hi, rfl, HI, HM, HQ⟩ := hrel
   have c7' := (blk_cell HM.out.src 7).trans rfl
   have hlen := HL.out.2
   by_cases hin : i < ns.length
   · have hin' : (i : Int) < (ns.length : Int) := by omega
     obtain ⟨bd, cc, rfl, -, hK1, hc0⟩ := Kd.C_get (Kd.R_reads' HM.out.r7).2.2 (⟨#[]⟩ : ByteArray) (i : Int) (by omega) (by omega)
     obtain ⟨nm, hnm⟩ : ∃ nm, ns.getD i ⟨#[]⟩ = nm := ⟨_, rfl⟩
     have ek1 : cc = [.string nm] := by rw [← hnm]; exact hK1
     have t1 := hc0 0 (.string nm) (by rw [ek1]; rfl)
     rw [show (i : Int).toNat * Kd.string.sz + 0 = i by rw [Int.toNat_natCast]; exact Nat.mul_one i] at t1
     have HNM := hi_ hnm
     have HIN := hi_ hin
     clear hK1 hc0 ek1 hnm
     cases hb : Op.bytesLess nm.toList name.toList with
     | true =>
      have HT1 := hi_ (tw_more HI.out HIN.out (by rw [HNM.out]; exact hb))
      go_wp2_with fail
      exact ⟨⟨i + 1, by omega, by simp, HT1, HM, HQ⟩, by simp [intOf]; omega⟩
     | false =>
      have HT1 := hi_ (tw_end HR.out HI.out HIN.out (by rw [HNM.out]; exact hb))
      go_wp2_with fail
      go_meet
      exact ⟨by rw [← HT1.out], HM, HQ⟩
   have hin' : ¬ ((i : Int) < (ns.length : Int)) := by omega
   have HT1 := hi_ (tw_all HR.out HI.out (by omega))
   go_wp2_with fail
   go_meet
   exact ⟨by rw [← HT1.out], HM, HQ⟩
 obtain ⟨rfl, HM, HQ⟩ := hcut
 clear HM2 H2
 obtain ⟨i, hi⟩ : ∃ i, pos ns name = i := ⟨_, rfl⟩
 have HH : Hid (has ns name = decide (i < ns.length ∧ ns.getD i ⟨#[]⟩ = name)) := hi_ (by unfold has; rw [hi])
 have HLE : Hid (i ≤ ns.length) := hi_ (by rw [← hi]; exact pos_le _ _)
 have HI := hi_ hi
 rw [hi]
 clear hi
 go_upto_region 7 with fail
 go_cut [46] (fun s46 wx => s46 = .bool (has ns name) ∧ Hid (Ms wx lo w1.heap.size (.slice A6 xs.length c6) (.slice A7 ns.length c7) xs ns) ∧ Hid (Rf s w wx g a.skip.st.2 q2 o))
 case first =>
  have c7' := (blk_cell HM.out.src 7).trans rfl
  have hlen := HL.out.2
  have hle := HLE.out
  by_cases hin : i < ns.length
  · have hin' : (i : Int) < (ns.length : Int) := by omega
    obtain ⟨bd, cc, rfl, -, hK1, hc0⟩ := Kd.C_get (Kd.R_reads' HM.out.r7).2.2 (⟨#[]⟩ : ByteArray) (i : Int) (by omega) (by omega)
    obtain ⟨nm, hnm⟩ : ∃ nm, ns.getD i ⟨#[]⟩ = nm := ⟨_, rfl⟩
    have ek1 : cc = [.string nm] := by rw [← hnm]; exact hK1
    have t1 := hc0 0 (.string nm) (by rw [ek1]; rfl)
    rw [show (i : Int).toNat * Kd.string.sz + 0 = i by rw [Int.toNat_natCast]; exact Nat.mul_one i] at t1
    have HNM := hi_ hnm
    have HIN := hi_ hin
    clear hK1 hc0 ek1 hnm hin hle
    go_wp2_with fail
    go_meet
    refine ⟨?_, HM, HQ⟩
    rw [HH.out, toL_beq, HNM.out]
    simp [HIN.out]
  have hin' : ¬ ((i : Int) < (ns.length : Int)) := by omega
  have HIN := hi_ hin
  clear hin hle
  go_wp2_with fail
  go_meet
  exact ⟨by rw [HH.out]; simp [HIN.out], HM, HQ⟩
 obtain ⟨rfl, HM', HQ'⟩ := hcut
 clear HM HQ
 cases hh : has ns name with
 | true =>
  have HHT := hi_ hh
  clear hh
  go_wp2_with fail
  refine (fail15 HQ'.out.now 31 (by decide)).mono ?_
  rintro E w4 ⟨rfl, h4⟩
  have HM4 := hi_ (HM'.out.kept h4.kp HLO.out.2)
  have H4 := hi_ (HQ'.out.trans h4)
  clear h4
  go_wp2_with (first | (refine wpList_load_row rfl 35 (.tmp 3) rfl w1.heap.size rfl 35 _ (0, 0) _ HM4.out.src Tryz.underlying35 rfl (by kernel_rfl) ?_) | (refine row_event rfl 35 (.tmp 4) (.tmp 49) rfl (w1.heap.size + 1) _ rfl rfl 35 _ HM4.out.res (by kernel_rfl) rfl HM4.out.one ?_; intro w5 hr5 hk5))
  have hj := HM4.out.jw hk5
  have hte : T.2.e = 31 := by rw [← HT.out]; exact objT_twice HBD.out (xs, ns) HPR.out HEE.out (by rw [← HNA.out]; exact HHT.out)
  have hf : (a.skip.st.2.fail 31).e = 31 := fail_e0 HEE.out 31
  exact bodyPost_ret (results_cell_row rfl _ _ (w1.heap.size + 1) 35 _ (0, 0) _ rfl hr5 Tryz.underlying35 rfl (by kernel_rfl)) rfl ⟨_, _, xs, ns, q2, o, rfl, hj.1, hj.2, HL.out.1, by omega, (H4.out.far hk5 (by have := H.out.lt; omega) (by have := H.out.kp.size; omega)).bad (by rw [hf]; decide) (by rw [hte, hf]), fun e => absurd (hte.symm.trans e) (by decide)⟩
 | false =>
  have HHF := hi_ hh
  clear hh
  go_wp2_with fail
  refine (blanks15 HQ'.out.now).mono ?_
  rintro E w4 ⟨rfl, q4, h4⟩
  have HM4 := hi_ (HM'.out.kept h4.kp HLO.out.2)
  have H4 := hi_ (HQ'.out.trans h4)
  clear h4
  go_wp2_with fail
  refine (word15 H4.out.now HEE.out [58] (by decide)).mono ?_
  rintro E w5 ⟨rfl, q5, h5⟩
  have HM5 := hi_ (HM4.out.kept h5.kp HLO.out.2)
  have HOA : Hid (a.skip.st.2.need [58] = objA ns a) := hi_ (by unfold objA S.twice; rw [← HNA.out, HHF.out, if_neg (by simp)])
  have H5 := hi_ (H4.out.trans h5)
  rw [HOA.out] at H5
  clear h5
  have hok : OKn n (objA ns a) := fun _ => by
   have h1 := (keeps_objA ns a).o
   have := HO.out
   omega
  have HOK := hi_ hok
  clear hok
  go_wp2_with fail
  refine (HVV.out s _ _ g _ q5 _ H5.out.now HS.out HOK.out).mono ?_
  rintro E w8 ⟨v8, y8, q8, u8, rfl, hj8, h8, h8e⟩
  have HM8 := hi_ (HM5.out.kept h8.kp HLO.out.2)
  have H8 := hi_ (H5.out.trans h8)
  obtain ⟨cs, rfl, hs8, ho8, hi8, hM8⟩ := hj8.of
  obtain ⟨va, vb, hcs, hra, hrb⟩ := k35_openM hM8
  obtain ⟨Aa, ca, rfl⟩ := Kd.R_slice hra
  obtain ⟨Ab, cb, rfl⟩ := Kd.R_slice hrb
  clear hra hrb
  subst hcs
  have HV8 := hi_ hM8
  have HE8 := hi_ h8e
  have HO8 := hi_ ho8
  have HZ8 := hi_ h8.kp.size
  clear hj8 h8 h8e hs8 ho8 hi8 hM8
  go_wp2_with fail
  have HAL : Hid (Below w8.heap.size w8 ((w8.alloc (.cells #[.int .i64 y8.f0, .bool y8.f1, .bool y8.f2.f0, .string y8.f2.f1, .int .i64 y8.f2.f2, .string y8.f3, .slice Aa y8.f4.length ca, .slice Ab y8.f5.length cb] 35)).alloc (.cells #[.int .i64 5, .bool false, .bool false, .string ⟨#[]⟩, .int .i64 0, .string ⟨#[]⟩, .slice none 0 0, .slice none 0 0] 35))) := hi_ ((Below.alloc (Below.refl _ _) (Nat.le_refl _) _).trans ((Below.alloc (Below.refl _ _) (Nat.le_refl _) _).mono (by simp)))
  have HA1 : Hid (((w8.alloc (.cells #[.int .i64 y8.f0, .bool y8.f1, .bool y8.f2.f0, .string y8.f2.f1, .int .i64 y8.f2.f2, .string y8.f3, .slice Aa y8.f4.length ca, .slice Ab y8.f5.length cb] 35)).alloc (.cells #[.int .i64 5, .bool false, .bool false, .string ⟨#[]⟩, .int .i64 0, .string ⟨#[]⟩, .slice none 0 0, .slice none 0 0] 35)).heap[w8.heap.size]? = some (.cells #[.int .i64 y8.f0, .bool y8.f1, .bool y8.f2.f0, .string y8.f2.f1, .int .i64 y8.f2.f2, .string y8.f3, .slice Aa y8.f4.length ca, .slice Ab y8.f5.length cb] 35 (0, 0))) := hi_ (blk_alloc (blk_new w8 _) _)
  have HA2 : Hid (((w8.alloc (.cells #[.int .i64 y8.f0, .bool y8.f1, .bool y8.f2.f0, .string y8.f2.f1, .int .i64 y8.f2.f2, .string y8.f3, .slice Aa y8.f4.length ca, .slice Ab y8.f5.length cb] 35)).alloc (.cells #[.int .i64 5, .bool false, .bool false, .string ⟨#[]⟩, .int .i64 0, .string ⟨#[]⟩, .slice none 0 0, .slice none 0 0] 35)).heap[w8.heap.size + 1]? = some (.cells #[.int .i64 5, .bool false, .bool false, .string ⟨#[]⟩, .int .i64 0, .string ⟨#[]⟩, .slice none 0 0, .slice none 0 0] 35 (0, 0))) := hi_ (by have := blk_new (w8.alloc (.cells #[.int .i64 y8.f0, .bool y8.f1, .bool y8.f2.f0, .string y8.f2.f1, .int .i64 y8.f2.f2, .string y8.f3, .slice Aa y8.f4.length ca, .slice Ab y8.f5.length cb] 35)) (.cells #[.int .i64 5, .bool false, .bool false, .string ⟨#[]⟩, .int .i64 0, .string ⟨#[]⟩, .slice none 0 0, .slice none 0 0] 35); simpa using this)
  have HA3 : Hid (((w8.alloc (.cells #[.int .i64 y8.f0, .bool y8.f1, .bool y8.f2.f0, .string y8.f2.f1, .int .i64 y8.f2.f2, .string y8.f3, .slice Aa y8.f4.length ca, .slice Ab y8.f5.length cb] 35)).alloc (.cells #[.int .i64 5, .bool false, .bool false, .string ⟨#[]⟩, .int .i64 0, .string ⟨#[]⟩, .slice none 0 0, .slice none 0 0] 35)).heap.size = w8.heap.size + 2) := hi_ (by simp)
  generalize (w8.alloc (.cells #[.int .i64 y8.f0, .bool y8.f1, .bool y8.f2.f0, .string y8.f2.f1, .int .i64 y8.f2.f2, .string y8.f3, .slice Aa y8.f4.length ca, .slice Ab y8.f5.length cb] 35)).alloc (.cells #[.int .i64 5, .bool false, .bool false, .string ⟨#[]⟩, .int .i64 0, .string ⟨#[]⟩, .slice none 0 0, .slice none 0 0] 35) = W at HAL HA1 HA2 HA3 ⊢
  have HW : Hid (Mw w8 W lo w1.heap.size w8.heap.size (.slice A6 xs.length c6) (.slice A7 ns.length c7) xs ns y8 [.int .i64 y8.f0, .bool y8.f1, .bool y8.f2.f0, .string y8.f2.f1, .int .i64 y8.f2.f2, .string y8.f3, .slice Aa y8.f4.length ca, .slice Ab y8.f5.length cb] (.slice none 0 0) (.slice none 0 0) [] []) := hi_ (by
   have lt := HM8.out.lt
   have lt5 := HM5.out.lt
   exact ⟨(HAL.out.block w1.heap.size (by omega)).trans HM8.out.src, HA1.out, HA2.out, (HAL.out.block (w1.heap.size + 1) (by omega)).trans HM8.out.res,
    Kd.R_mono (Kd.R_below HM8.out.r6 HAL.out) (fun k hk => ⟨by omega, by omega, by omega⟩), Kd.R_mono (Kd.R_below HM8.out.r7 HAL.out) (fun k hk => ⟨by omega, by omega, by omega⟩),
    k35.M_lower (by omega) (k35.M_mono (fun k hk => ⟨hk.2.2.1, by have := hk.2.1; omega, by have := hk.2.1; omega⟩) (Kd.M_below (k35.M_bound HV8.out) HAL.out)), Kd.R_nil _ _ _ _ _, Kd.R_nil _ _ _ _ _, fun k e => by simp [Value.ownBlock] at e, ⟨lt.1, by omega, by rw [HA3.out]; exact Nat.le_refl _⟩, HAL.out⟩)
  have HD14 := hi_ HW.out.drew
  obtain ⟨hlr, hcr, hrr⟩ := rowM HD14.out.r7
  obtain ⟨B14, d14, hz⟩ := Kd.R_slice HD14.out.q7
  have HRR := hi_ hrr
  have HCR := hi_ hcr
  clear hlr hcr hrr hz
  refine start_ (n := 9) (S := fun w' => w'.cell? ⟨w8.heap.size + 1, 7, none⟩ = some (.slice none 0 0) ∧ w'.cell? ⟨w1.heap.size, 7, none⟩ = some (.slice A7 ns.length c7)) (ds := [8]) #[false, false, false, false, false, false, false, false, false] (by kernel_rfl) rfl rfl ⟨(blk_cell HD14.out.out 7).trans rfl, (blk_cell HD14.out.src 7).trans rfl⟩ (fun hHeld => ?_)
  refine pure_ (i := 0) (N := some 57) (v := ?_) (a' := ?_) #[true, false, false, false, false, false, false, false, false] rfl rfl (by kernel_rfl) (fun _ _ _ h => h) (Or.inl ⟨by rfl, ?_⟩) ?_ ?_
  rotate_left
  · intro w'
    go_simp
    with_reducible rfl
  rotate_left
  · simp only [Act.put, List.setIfInBounds_toArray, List.set_cons_zero, List.set_cons_succ]
    rfl
  refine take_ (i := 1) (N := some 58) (v := ?_) (a' := ?_) #[true, true, false, false, false, false, false, false, false] rfl rfl (by kernel_rfl) (fun _ _ _ h => h) (Or.inl ⟨by rfl, ?_⟩) hHeld ?_ ?_
  rotate_left
  · rintro w' ⟨s0, s1⟩
    go_simp
    with_reducible rfl
  rotate_left
  · simp only [Act.put, List.setIfInBounds_toArray, List.set_cons_zero, List.set_cons_succ]
    rfl
  refine pure_ (i := 2) (N := some 59) (v := ?_) (a' := ?_) #[true, true, true, false, false, false, false, false, false] rfl rfl (by kernel_rfl) (fun _ _ _ h => h) (Or.inl ⟨by rfl, ?_⟩) ?_ ?_
  rotate_left
  · intro w'
    go_simp
    with_reducible rfl
  rotate_left
  · simp only [Act.put, List.setIfInBounds_toArray, List.set_cons_zero, List.set_cons_succ]
    rfl
  refine take_ (i := 3) (N := some 60) (v := ?_) (a' := ?_) #[true, true, true, true, false, false, false, false, false] rfl rfl (by kernel_rfl) (fun _ _ _ h => h) (Or.inl ⟨by rfl, ?_⟩) hHeld ?_ ?_
  rotate_left
  · rintro w' ⟨s0, s1⟩
    go_simp
    with_reducible rfl
  rotate_left
  · simp only [Act.put, List.setIfInBounds_toArray, List.set_cons_zero, List.set_cons_succ]
    rfl
  refine pure_ (i := 4) (N := some 61) (v := ?_) (a' := ?_) #[true, true, true, true, true, false, false, false, false] rfl rfl (by kernel_rfl) (fun _ _ _ h => h) (Or.inl ⟨by rfl, ?_⟩) ?_ ?_
  rotate_left
  · intro w'
    go_simp
    with_reducible rfl
  rotate_left
  · simp only [Act.put, List.setIfInBounds_toArray, List.set_cons_zero, List.set_cons_succ]
    rfl
  refine pure_ (i := 5) (N := some 62) (v := .slice A7 i c7) (a' := ?_) #[true, true, true, true, true, true, false, false, false] rfl rfl (by kernel_rfl) (fun _ _ _ h => h) (Or.inl ⟨by rfl, ?_⟩) ?_ ?_
  · intro w'
    exact exec_cut_hi rfl rfl rfl Tryz.underlying26 (by kernel_rfl) (by have := HLE.out; have := HCR.out; have := HL.out; omega) w'
  rotate_left
  · simp only [Act.put, List.setIfInBounds_toArray, List.set_cons_zero, List.set_cons_succ]
    rfl
  refine one_ (i := 6) (N := some 63) #[true, true, true, true, true, true, true, false, false] rfl rfl (by kernel_rfl) (by decide) (fun K hK => ?_)
  refine Mw.step7 HD14.out (by rfl) rfl rfl rfl (rr_take HRR.out (by have := HLE.out; omega)) (by have := HLE.out; have := HL.out; simp only [List.length_append, List.length_take, List.length_singleton, List.length_nil]; omega) ?_
  intro P14 n14 e14 wa14 hn14 hW14 hb14
  refine hK.out _ _ ⟨(blk_cell hb14.1 7).trans rfl, (blk_cell hb14.2 7).trans rfl⟩ (fun hHeld => ?_)
  clear hK K
  refine norm_ (a' := ?_) ?_ ?_
  rotate_left
  · show Act.put _ (some 63) _ = _
    simp only [Act.put, List.setIfInBounds_toArray, List.set_cons_zero, List.set_cons_succ]
    rfl
  refine pure_ (i := 7) (N := some 64) (v := ?_) (a' := ?_) #[true, true, true, true, true, true, true, true, false] rfl rfl (by kernel_rfl) (fun _ _ _ h => h) (Or.inl ⟨by rfl, ?_⟩) ?_ ?_
  rotate_left
  · intro w'
    go_simp
    with_reducible rfl
  rotate_left
  · simp only [Act.put, List.setIfInBounds_toArray, List.set_cons_zero, List.set_cons_succ]
    rfl
  have hca := (blk_cell hb14.1 7).trans rfl
  have hfa := blk_frozen hb14.1 7
  refine last_ (i := 8) (N := none) #[true, true, true, true, true, true, true, true, true] rfl rfl (by kernel_rfl) (by decide) (fun K hK => ?_)
  refine skip_ (w1 := wa14.setCell ⟨w8.heap.size + 1, 7, none⟩ (.slice P14 n14 e14)) (by rfl) rfl ?_ ?_
  · clear hHeld
    go_simp
  refine hK.out _ _ ?_
  refine done_ (by kernel_rfl) ?_
  clear hK K hca hfa hHeld
  have HW14 := hi_ hW14
  clear hn14 hW14 hb14 HD14 HRR HCR HW
  go_wp2_with fail
  have HD15 := hi_ HW14.out.drew
  obtain ⟨hlr, hcr, hrr⟩ := rowM HD15.out.r6
  obtain ⟨B15, d15, hz⟩ := Kd.R_slice HD15.out.q6
  have HRR := hi_ hrr
  have HCR := hi_ hcr
  clear hlr hcr hrr hz
  refine start_ (n := 9) (S := fun w' => w'.cell? ⟨w8.heap.size + 1, 6, none⟩ = some (.slice none 0 0) ∧ w'.cell? ⟨w1.heap.size, 6, none⟩ = some (.slice A6 xs.length c6)) (ds := [8]) #[false, false, false, false, false, false, false, false, false] (by kernel_rfl) rfl rfl ⟨(blk_cell HD15.out.out 6).trans rfl, (blk_cell HD15.out.src 6).trans rfl⟩ (fun hHeld => ?_)
  refine pure_ (i := 0) (N := some 65) (v := ?_) (a' := ?_) #[true, false, false, false, false, false, false, false, false] rfl rfl (by kernel_rfl) (fun _ _ _ h => h) (Or.inl ⟨by rfl, ?_⟩) ?_ ?_
  rotate_left
  · intro w'
    go_simp
    with_reducible rfl
  rotate_left
  · simp only [Act.put, List.setIfInBounds_toArray, List.set_cons_zero, List.set_cons_succ]
    rfl
  refine take_ (i := 1) (N := some 66) (v := ?_) (a' := ?_) #[true, true, false, false, false, false, false, false, false] rfl rfl (by kernel_rfl) (fun _ _ _ h => h) (Or.inl ⟨by rfl, ?_⟩) hHeld ?_ ?_
  rotate_left
  · rintro w' ⟨s0, s1⟩
    go_simp
    with_reducible rfl
  rotate_left
  · simp only [Act.put, List.setIfInBounds_toArray, List.set_cons_zero, List.set_cons_succ]
    rfl
  refine pure_ (i := 2) (N := some 67) (v := ?_) (a' := ?_) #[true, true, true, false, false, false, false, false, false] rfl rfl (by kernel_rfl) (fun _ _ _ h => h) (Or.inl ⟨by rfl, ?_⟩) ?_ ?_
  rotate_left
  · intro w'
    go_simp
    with_reducible rfl
  rotate_left
  · simp only [Act.put, List.setIfInBounds_toArray, List.set_cons_zero, List.set_cons_succ]
    rfl
  refine take_ (i := 3) (N := some 68) (v := ?_) (a' := ?_) #[true, true, true, true, false, false, false, false, false] rfl rfl (by kernel_rfl) (fun _ _ _ h => h) (Or.inl ⟨by rfl, ?_⟩) hHeld ?_ ?_
  rotate_left
  · rintro w' ⟨s0, s1⟩
    go_simp
    with_reducible rfl
  rotate_left
  · simp only [Act.put, List.setIfInBounds_toArray, List.set_cons_zero, List.set_cons_succ]
    rfl
  refine pure_ (i := 4) (N := some 69) (v := ?_) (a' := ?_) #[true, true, true, true, true, false, false, false, false] rfl rfl (by kernel_rfl) (fun _ _ _ h => h) (Or.inl ⟨by rfl, ?_⟩) ?_ ?_
  rotate_left
  · intro w'
    go_simp
    with_reducible rfl
  rotate_left
  · simp only [Act.put, List.setIfInBounds_toArray, List.set_cons_zero, List.set_cons_succ]
    rfl
  refine pure_ (i := 5) (N := some 70) (v := .slice A6 i c6) (a' := ?_) #[true, true, true, true, true, true, false, false, false] rfl rfl (by kernel_rfl) (fun _ _ _ h => h) (Or.inl ⟨by rfl, ?_⟩) ?_ ?_
  · intro w'
    exact exec_cut_hi rfl rfl rfl Tryz.underlying33 (by kernel_rfl) (by have := HLE.out; have := HCR.out; have := HL.out; omega) w'
  rotate_left
  · simp only [Act.put, List.setIfInBounds_toArray, List.set_cons_zero, List.set_cons_succ]
    rfl
  refine one_ (i := 6) (N := some 71) #[true, true, true, true, true, true, true, false, false] rfl rfl (by kernel_rfl) (by decide) (fun K hK => ?_)
  refine Mw.step6 HD15.out (by rfl) rfl rfl rfl (rr_take HRR.out (by have := HLE.out; have := HL.out; omega)) (by have := HLE.out; have := HL.out; simp only [List.length_append, List.length_take, List.length_singleton, List.length_nil]; omega) ?_
  intro P15 n15 e15 wa15 hn15 hW15 hb15
  refine hK.out _ _ ⟨(blk_cell hb15.1 6).trans rfl, (blk_cell hb15.2 6).trans rfl⟩ (fun hHeld => ?_)
  clear hK K
  refine norm_ (a' := ?_) ?_ ?_
  rotate_left
  · show Act.put _ (some 71) _ = _
    simp only [Act.put, List.setIfInBounds_toArray, List.set_cons_zero, List.set_cons_succ]
    rfl
  refine pure_ (i := 7) (N := some 72) (v := ?_) (a' := ?_) #[true, true, true, true, true, true, true, true, false] rfl rfl (by kernel_rfl) (fun _ _ _ h => h) (Or.inl ⟨by rfl, ?_⟩) ?_ ?_
  rotate_left
  · intro w'
    go_simp
    with_reducible rfl
  rotate_left
  · simp only [Act.put, List.setIfInBounds_toArray, List.set_cons_zero, List.set_cons_succ]
    rfl
  have hca := (blk_cell hb15.1 6).trans rfl
  have hfa := blk_frozen hb15.1 6
  refine last_ (i := 8) (N := none) #[true, true, true, true, true, true, true, true, true] rfl rfl (by kernel_rfl) (by decide) (fun K hK => ?_)
  refine skip_ (w1 := wa15.setCell ⟨w8.heap.size + 1, 6, none⟩ (.slice P15 n15 e15)) (by rfl) rfl ?_ ?_
  · clear hHeld
    go_simp
  refine hK.out _ _ ?_
  refine done_ (by kernel_rfl) ?_
  clear hK K hca hfa hHeld
  have HW15 := hi_ hW15
  clear hn15 hW15 hb15 HD15 HRR HCR HW14
  have c8 := (blk_cell HW15.out.out 7).trans rfl
  go_wp2_with (first | (refine wpList_load_row rfl 35 (.tmp 7) rfl w8.heap.size rfl 35 _ (0, 0) _ HW16.out.val Tryz.underlying35 rfl (by kernel_rfl) ?_) | ((with_reducible refine gate_builtin (b := .append) (xs := #[.tmp 74, .tmp 76]) rfl ?_); at_builtin; refine Mw.one7 HW15.out (t1 := 74) (t2 := 76) (y := name) rfl rfl rfl rfl (by simp) (by have := HLE.out; have := HL.out; simp only [List.length_append, List.length_take, List.length_singleton, List.length_nil]; omega) ?_; intro P16 n16 e16 wa16 hn16 hW16 hb16; have hca := (blk_cell hb16.1 7).trans rfl; have hfa := blk_frozen hb16.1 7; have HW16 := hi_ hW16; clear hn16 hW16 c8; have c9 := (blk_cell HW16.out.out 6).trans rfl) | ((with_reducible refine gate_builtin (b := .append) (xs := #[.tmp 80, .tmp 82]) rfl ?_); at_builtin; refine Mw.one6 HW16.out (t1 := 80) (t2 := 82) rfl rfl rfl rfl (by simp) (by have := HLE.out; have := HL.out; simp only [List.length_append, List.length_take, List.length_singleton, List.length_nil]; omega) ?_; intro P17 n17 e17 wa17 hn17 hW17 hb17; have hca2 := (blk_cell hb17.1 6).trans rfl; have hfa2 := blk_frozen hb17.1 6; have HW17 := hi_ hW17; clear hn17 hW17 c9))
  clear HW15 HW16 hca hfa hca2 hfa2 hb16 hb17
  have HD18 := hi_ HW17.out.drew
  obtain ⟨hlr, hcr, hrr⟩ := rowM HD18.out.r7
  obtain ⟨K18, hK18⟩ : ∃ K18, (if c7 = i then A7 else A7.map (·.add (i * 1))) = K18 := ⟨_, rfl⟩
  have HRD18 : Hid (ReadsRow _ 1 _ K18 (ns.length - i) (ns.drop i)) := hi_ (by have := rr_drop (m := i) hrr (by have := HLE.out; omega) hcr; rw [← hK18]; exact this)
  have HKK18 := hi_ hK18
  clear hK18
  obtain ⟨B18, d18, hz⟩ := Kd.R_slice HD18.out.q7
  have HRR := hi_ hrr
  have HCR := hi_ hcr
  clear hlr hcr hrr hz
  refine start_ (n := 9) (S := fun w' => w'.cell? ⟨w8.heap.size + 1, 7, none⟩ = some (.slice P16 n16 e16) ∧ w'.cell? ⟨w1.heap.size, 7, none⟩ = some (.slice A7 ns.length c7)) (ds := [8]) #[false, false, false, false, false, false, false, false, false] (by kernel_rfl) rfl rfl ⟨(blk_cell HD18.out.out 7).trans rfl, (blk_cell HD18.out.src 7).trans rfl⟩ (fun hHeld => ?_)
  refine pure_ (i := 0) (N := some 85) (v := ?_) (a' := ?_) #[true, false, false, false, false, false, false, false, false] rfl rfl (by kernel_rfl) (fun _ _ _ h => h) (Or.inl ⟨by rfl, ?_⟩) ?_ ?_
  rotate_left
  · intro w'
    go_simp
    with_reducible rfl
  rotate_left
  · simp only [Act.put, List.setIfInBounds_toArray, List.set_cons_zero, List.set_cons_succ]
    rfl
  refine take_ (i := 1) (N := some 86) (v := ?_) (a' := ?_) #[true, true, false, false, false, false, false, false, false] rfl rfl (by kernel_rfl) (fun _ _ _ h => h) (Or.inl ⟨by rfl, ?_⟩) hHeld ?_ ?_
  rotate_left
  · rintro w' ⟨s0, s1⟩
    go_simp
    with_reducible rfl
  rotate_left
  · simp only [Act.put, List.setIfInBounds_toArray, List.set_cons_zero, List.set_cons_succ]
    rfl
  refine pure_ (i := 2) (N := some 87) (v := ?_) (a' := ?_) #[true, true, true, false, false, false, false, false, false] rfl rfl (by kernel_rfl) (fun _ _ _ h => h) (Or.inl ⟨by rfl, ?_⟩) ?_ ?_
  rotate_left
  · intro w'
    go_simp
    with_reducible rfl
  rotate_left
  · simp only [Act.put, List.setIfInBounds_toArray, List.set_cons_zero, List.set_cons_succ]
    rfl
  refine take_ (i := 3) (N := some 88) (v := ?_) (a' := ?_) #[true, true, true, true, false, false, false, false, false] rfl rfl (by kernel_rfl) (fun _ _ _ h => h) (Or.inl ⟨by rfl, ?_⟩) hHeld ?_ ?_
  rotate_left
  · rintro w' ⟨s0, s1⟩
    go_simp
    with_reducible rfl
  rotate_left
  · simp only [Act.put, List.setIfInBounds_toArray, List.set_cons_zero, List.set_cons_succ]
    rfl
  refine pure_ (i := 4) (N := some 89) (v := ?_) (a' := ?_) #[true, true, true, true, true, false, false, false, false] rfl rfl (by kernel_rfl) (fun _ _ _ h => h) (Or.inl ⟨by rfl, ?_⟩) ?_ ?_
  rotate_left
  · intro w'
    go_simp
    with_reducible rfl
  rotate_left
  · simp only [Act.put, List.setIfInBounds_toArray, List.set_cons_zero, List.set_cons_succ]
    rfl
  refine pure_ (i := 5) (N := some 90) (v := .slice K18 (ns.length - i) (c7 - i)) (a' := ?_) #[true, true, true, true, true, true, false, false, false] rfl rfl (by kernel_rfl) (fun _ _ _ h => h) (Or.inl ⟨by rfl, ?_⟩) ?_ ?_
  · intro w'
    exact exec_cut_lo rfl rfl rfl Tryz.underlying26 (by kernel_rfl) (by have := HLE.out; have := HL.out; omega) HKK18.out w'
  rotate_left
  · simp only [Act.put, List.setIfInBounds_toArray, List.set_cons_zero, List.set_cons_succ]
    rfl
  refine one_ (i := 6) (N := some 91) #[true, true, true, true, true, true, true, false, false] rfl rfl (by kernel_rfl) (by decide) (fun K hK => ?_)
  refine Mw.step7 HD18.out (by rfl) rfl rfl rfl (HRD18.out) (by have := HLE.out; have := HL.out; simp only [List.length_append, List.length_take, List.length_singleton, List.length_nil]; omega) ?_
  intro P18 n18 e18 wa18 hn18 hW18 hb18
  refine hK.out _ _ ⟨(blk_cell hb18.1 7).trans rfl, (blk_cell hb18.2 7).trans rfl⟩ (fun hHeld => ?_)
  clear hK K
  refine norm_ (a' := ?_) ?_ ?_
  rotate_left
  · show Act.put _ (some 91) _ = _
    simp only [Act.put, List.setIfInBounds_toArray, List.set_cons_zero, List.set_cons_succ]
    rfl
  refine pure_ (i := 7) (N := some 92) (v := ?_) (a' := ?_) #[true, true, true, true, true, true, true, true, false] rfl rfl (by kernel_rfl) (fun _ _ _ h => h) (Or.inl ⟨by rfl, ?_⟩) ?_ ?_
  rotate_left
  · intro w'
    go_simp
    with_reducible rfl
  rotate_left
  · simp only [Act.put, List.setIfInBounds_toArray, List.set_cons_zero, List.set_cons_succ]
    rfl
  have hca := (blk_cell hb18.1 7).trans rfl
  have hfa := blk_frozen hb18.1 7
  refine last_ (i := 8) (N := none) #[true, true, true, true, true, true, true, true, true] rfl rfl (by kernel_rfl) (by decide) (fun K hK => ?_)
  refine skip_ (w1 := wa18.setCell ⟨w8.heap.size + 1, 7, none⟩ (.slice P18 n18 e18)) (by rfl) rfl ?_ ?_
  · clear hHeld
    go_simp
  refine hK.out _ _ ?_
  refine done_ (by kernel_rfl) ?_
  clear hK K hca hfa hHeld
  have HW18 := hi_ hW18
  clear hn18 hW18 hb18 HD18 HRR HCR HW17
  go_wp2_with fail
  have HD19 := hi_ HW18.out.drew
  obtain ⟨hlr, hcr, hrr⟩ := rowM HD19.out.r6
  obtain ⟨K19, hK19⟩ : ∃ K19, (if c6 = i then A6 else A6.map (·.add (i * 8))) = K19 := ⟨_, rfl⟩
  have HRD19 : Hid (ReadsRow _ 8 _ K19 (xs.length - i) (xs.drop i)) := hi_ (by have := rr_drop (m := i) hrr (by have := HLE.out; have := HL.out; omega) hcr; rw [← hK19]; exact this)
  have HKK19 := hi_ hK19
  clear hK19
  obtain ⟨B19, d19, hz⟩ := Kd.R_slice HD19.out.q6
  have HRR := hi_ hrr
  have HCR := hi_ hcr
  clear hlr hcr hrr hz
  refine start_ (n := 9) (S := fun w' => w'.cell? ⟨w8.heap.size + 1, 6, none⟩ = some (.slice P17 n17 e17) ∧ w'.cell? ⟨w1.heap.size, 6, none⟩ = some (.slice A6 xs.length c6)) (ds := [8]) #[false, false, false, false, false, false, false, false, false] (by kernel_rfl) rfl rfl ⟨(blk_cell HD19.out.out 6).trans rfl, (blk_cell HD19.out.src 6).trans rfl⟩ (fun hHeld => ?_)
  refine pure_ (i := 0) (N := some 93) (v := ?_) (a' := ?_) #[true, false, false, false, false, false, false, false, false] rfl rfl (by kernel_rfl) (fun _ _ _ h => h) (Or.inl ⟨by rfl, ?_⟩) ?_ ?_
  rotate_left
  · intro w'
    go_simp
    with_reducible rfl
  rotate_left
  · simp only [Act.put, List.setIfInBounds_toArray, List.set_cons_zero, List.set_cons_succ]
    rfl
  refine take_ (i := 1) (N := some 94) (v := ?_) (a' := ?_) #[true, true, false, false, false, false, false, false, false] rfl rfl (by kernel_rfl) (fun _ _ _ h => h) (Or.inl ⟨by rfl, ?_⟩) hHeld ?_ ?_
  rotate_left
  · rintro w' ⟨s0, s1⟩
    go_simp
    with_reducible rfl
  rotate_left
  · simp only [Act.put, List.setIfInBounds_toArray, List.set_cons_zero, List.set_cons_succ]
    rfl
  refine pure_ (i := 2) (N := some 95) (v := ?_) (a' := ?_) #[true, true, true, false, false, false, false, false, false] rfl rfl (by kernel_rfl) (fun _ _ _ h => h) (Or.inl ⟨by rfl, ?_⟩) ?_ ?_
  rotate_left
  · intro w'
    go_simp
    with_reducible rfl
  rotate_left
  · simp only [Act.put, List.setIfInBounds_toArray, List.set_cons_zero, List.set_cons_succ]
    rfl
  refine take_ (i := 3) (N := some 96) (v := ?_) (a' := ?_) #[true, true, true, true, false, false, false, false, false] rfl rfl (by kernel_rfl) (fun _ _ _ h => h) (Or.inl ⟨by rfl, ?_⟩) hHeld ?_ ?_
  rotate_left
  · rintro w' ⟨s0, s1⟩
    go_simp
    with_reducible rfl
  rotate_left
  · simp only [Act.put, List.setIfInBounds_toArray, List.set_cons_zero, List.set_cons_succ]
    rfl
  refine pure_ (i := 4) (N := some 97) (v := ?_) (a' := ?_) #[true, true, true, true, true, false, false, false, false] rfl rfl (by kernel_rfl) (fun _ _ _ h => h) (Or.inl ⟨by rfl, ?_⟩) ?_ ?_
  rotate_left
  · intro w'
    go_simp
    with_reducible rfl
  rotate_left
  · simp only [Act.put, List.setIfInBounds_toArray, List.set_cons_zero, List.set_cons_succ]
    rfl
  refine pure_ (i := 5) (N := some 98) (v := .slice K19 (xs.length - i) (c6 - i)) (a' := ?_) #[true, true, true, true, true, true, false, false, false] rfl rfl (by kernel_rfl) (fun _ _ _ h => h) (Or.inl ⟨by rfl, ?_⟩) ?_ ?_
  · intro w'
    exact exec_cut_lo rfl rfl rfl Tryz.underlying33 (by kernel_rfl) (by have := HLE.out; have := HL.out; omega) HKK19.out w'
  rotate_left
  · simp only [Act.put, List.setIfInBounds_toArray, List.set_cons_zero, List.set_cons_succ]
    rfl
  refine one_ (i := 6) (N := some 99) #[true, true, true, true, true, true, true, false, false] rfl rfl (by kernel_rfl) (by decide) (fun K hK => ?_)
  refine Mw.step6 HD19.out (by rfl) rfl rfl rfl (HRD19.out) (by have := HLE.out; have := HL.out; simp only [List.length_append, List.length_take, List.length_singleton, List.length_nil]; omega) ?_
  intro P19 n19 e19 wa19 hn19 hW19 hb19
  refine hK.out _ _ ⟨(blk_cell hb19.1 6).trans rfl, (blk_cell hb19.2 6).trans rfl⟩ (fun hHeld => ?_)
  clear hK K
  refine norm_ (a' := ?_) ?_ ?_
  rotate_left
  · show Act.put _ (some 99) _ = _
    simp only [Act.put, List.setIfInBounds_toArray, List.set_cons_zero, List.set_cons_succ]
    rfl
  refine pure_ (i := 7) (N := some 100) (v := ?_) (a' := ?_) #[true, true, true, true, true, true, true, true, false] rfl rfl (by kernel_rfl) (fun _ _ _ h => h) (Or.inl ⟨by rfl, ?_⟩) ?_ ?_
  rotate_left
  · intro w'
    go_simp
    with_reducible rfl
  rotate_left
  · simp only [Act.put, List.setIfInBounds_toArray, List.set_cons_zero, List.set_cons_succ]
    rfl
  have hca := (blk_cell hb19.1 6).trans rfl
  have hfa := blk_frozen hb19.1 6
  refine last_ (i := 8) (N := none) #[true, true, true, true, true, true, true, true, true] rfl rfl (by kernel_rfl) (by decide) (fun K hK => ?_)
  refine skip_ (w1 := wa19.setCell ⟨w8.heap.size + 1, 6, none⟩ (.slice P19 n19 e19)) (by rfl) rfl ?_ ?_
  · clear hHeld
    go_simp
  refine hK.out _ _ ?_
  refine done_ (by kernel_rfl) ?_
  clear hK K hca hfa hHeld
  have HW19 := hi_ hW19
  clear hn19 hW19 hb19 HD19 HRR HCR HW18
  have HO19 : Hid ((#[.int .i64 5, .bool false, .bool false, .string ⟨#[]⟩, .int .i64 0, .string ⟨#[]⟩, .slice P19 n19 e19, .slice P18 n18 e18] : Array Value).toList.all (·.oneCell') = true) := hi_ rfl
  go_wp2_with (first | (refine wpList_load_row rfl 35 (.tmp 8) rfl (w8.heap.size + 1) rfl 35 _ (0, 0) _ HW19.out.out Tryz.underlying35 rfl (by kernel_rfl) ?_) | (refine row_event rfl 35 (.tmp 4) (.tmp 101) rfl (w1.heap.size + 1) _ rfl rfl 35 _ HW19.out.res (by kernel_rfl) rfl HO19.out ?_; intro w20 hr20 hk20))
  have lt := HW19.out.lt
  have hlx : xs.length = ns.length := HL.out.1
  have hT : T = ((put xs i (fv (objA ns a)).1, put ns i name), (fv (objA ns a)).2) := by
   rw [← HT.out]
   unfold objT
   rw [HPR.out, if_neg (by simp)]
   show ((put xs (pos ns (objN a)) _, put ns (pos ns (objN a)) (objN a)), _) = _
   rw [← HNA.out, HI.out]
  have hgl := H.out.lt
  have h19 := (H8.out.below (HW19.out.bel)).far hk20 (by omega) (by have := H.out.kp.size; omega)
  refine bodyPost_ret (results_cell_row rfl _ _ (w1.heap.size + 1) 35 _ (0, 0) _ rfl hr20 Tryz.underlying35 rfl (by kernel_rfl)) rfl ⟨_, _, put xs i y8, put ns i name, q8, u8, rfl, Kd.R_mono (Kd.R_grown HW19.out.q6 hk20 (fun k hk e => by injection e with e; exact hk.2.2.1 e)) (fun _ _ => trivial), Kd.R_mono (Kd.R_grown HW19.out.q7 hk20 (fun k hk e => by injection e with e; omega)) (fun _ _ => trivial), ?_, ?_, ?_, ?_⟩
  · unfold put; simp only [List.length_append, List.length_take, List.length_drop, List.length_singleton]; omega
  · unfold put; simp only [List.length_append, List.length_take, List.length_drop, List.length_singleton]; omega
  · rw [hT]; exact h19
  intro e
  rw [hT] at e ⊢
  rw [HE8.out e]
  exact ⟨rfl, by rw [← HI.out]; exact put_rises HR.out HHF.out⟩
structure Lo (w : World) (base b : Nat) (x : List S28 × List ByteArray) : Prop where
  vc : ∃ v6 v7, w.heap[b]? = some (.cells #[.int .i64 5, .bool false, .bool false, .string ⟨#[]⟩, .int .i64 0, .string ⟨#[]⟩, v6, v7] 35 (0, 0)) ∧ k35.R 35 w base (fun _ => True) v6 x.1 ∧ Kd.string.R 9 w base (fun _ => True) v7 x.2
  lt : b < base ∧ base ≤ w.heap.size
theorem Lo.kept {w w' : World} {base b g : Nat} {x : List S28 × List ByteArray} (h : Lo w base b x) (k : w.grownBy w' (some g)) (hg : g < b) : Lo w' base b x := by
 obtain ⟨v6, v7, hv, hr, hn⟩ := h.vc
 have hlt := h.lt
 exact ⟨⟨v6, v7, (k.block b (Array.getElem?_eq_some_iff.1 hv).1 (fun e => by injection e with e; omega)).trans hv,
  Kd.R_mono (Kd.R_grown (Kd.R_bound hr) k (fun i hi e => by have := hi.2.1; injection e with e; omega)) (fun _ _ => trivial),
  Kd.R_mono (Kd.R_grown (Kd.R_bound hn) k (fun i hi e => by have := hi.2.1; injection e with e; omega)) (fun _ _ => trivial)⟩, hlt.1, Nat.le_trans hlt.2 k.size⟩
theorem keeps_objT {fv : S → S28 × S} (hlen : ∀ b, (fv b).2.s.length ≤ b.s.length) (hopen : ∀ b, (fv b).2.o = b.o) (x : List S28 × List ByteArray) (b : S) : (objT fv x b).2.s.length ≤ b.s.length ∧ (objT fv x b).2.o = b.o := by
 unfold objT
 split
 · have h := (keeps_skip b).trans (keeps_fail b.skip 11 (by decide))
   exact ⟨h.len, h.o⟩
 have h := keeps_objA x.2 b
 exact ⟨Nat.le_trans (hlen _) h.len, (hopen _).trans h.o⟩
theorem objF_e {fv : S → S28 × S} (hbad : ∀ b, b.e ≠ 0 → (fv b).2.e = b.e) (x : List S28 × List ByteArray) (b : S) (h : b.e ≠ 0) : (objT fv x b).2.e = b.e := by
 unfold objT
 split
 · exact fail_e (a := b.skip) h _
 have h1 := objA_e h x.2
 show (fv (objA x.2 b)).2.e = _
 rw [hbad _ (by rw [h1]; exact h), h1]
set_option maxRecDepth 100000 in
set_option maxHeartbeats 8000000 in
theorem obj15 (fv : S → S28 × S) (n : Nat) (HV : WC 37 #[] (OKn n) fv) (hbad : ∀ b, b.e ≠ 0 → (fv b).2.e = b.e) (hlen : ∀ b, (fv b).2.s.length ≤ b.s.length) (hskip : ∀ b, fv b.skip = fv b) (hopen : ∀ b, (fv b).2.o = b.o) :
    WC 75 #[.int .i64 5, .int .u8 125] (fun b => b.e = 0 ∧ pk b.s = 123 ∧ OKn (n + 1) b) (S.obj fv) := by
 intro s w w1 g a p o h hs ha
 show Calls Tryz.prog 75 #[.pointer (some ⟨g, 0, none⟩), .int .i64 5, .int .u8 125] w1 _
 have H := hi_ h
 have HS := hi_ hs
 have HE := hi_ ha.1
 have HK := hi_ ha.2.1
 have HO := hi_ (ha.2.2 ha.1)
 have HVV := hi_ HV
 have HBD := hi_ (And.intro hbad (And.intro hlen (And.intro hskip hopen)))
 have HD := hi_ (h.ok ha.1)
 have hoo : o = a.o := (h.ok ha.1).2.2
 subst hoo
 have HB0 : Hid (Below w1.heap.size w1 ((w1.alloc (.cells zA 35)).alloc (.cells zA 35))) := hi_ ((Below.alloc (Below.refl _ _) (Nat.le_refl _) _).trans ((Below.alloc (Below.refl _ _) (Nat.le_refl _) _).mono (by simp)))
 have HST : Hid (S.obj fv a = (⟨5, false, z24, ⟨#[]⟩, (listG (objT fv) [125] ([], []) a.enter).1.1, (listG (objT fv) [125] ([], []) a.enter).1.2⟩, (listG (objT fv) [125] ([], []) a.enter).2)) := hi_ rfl
 have HAB : Hid (∀ x b, b.e ≠ 0 → (objT fv x b).2.e = b.e) := hi_ (fun x b h => objF_e hbad x b h)
 clear h hs ha HV hbad hlen hskip hopen
 have HBB : Hid (∀ o1 o2, Below w1.heap.size w1 ((w1.alloc o1).alloc o2)) := hi_ (fun o1 o2 => (Below.alloc (Below.refl _ _) (Nat.le_refl _) o1).trans ((Below.alloc (Below.refl _ _) (Nat.le_refl _) o2).mono (by simp)))
 have cc : ∀ o1 o2, ((w1.alloc o1).alloc o2).cell? ⟨g, 2, none⟩ = some (.int .i64 a.o) := fun o1 o2 => (H.out.below (HBB.out o1 o2)).c2
 have HWb : Hid (Below w1.heap.size w1 ((w1.alloc (.cells zA 35)).alloc (.cells (vA 5) 35))) := hi_ (HBB.out _ _)
 have HN0 : Hid (((w1.alloc (.cells zA 35)).alloc (.cells (vA 5) 35)).heap[w1.heap.size]? = some (.cells zA 35 (0, 0))) := hi_ (blk_alloc (blk_new w1 _) _)
 have HN1 : Hid (((w1.alloc (.cells zA 35)).alloc (.cells (vA 5) 35)).heap[w1.heap.size + 1]? = some (.cells (vA 5) 35 (0, 0))) := hi_ (by have := blk_new (w1.alloc (.cells zA 35)) (.cells (vA 5) 35); simpa using this)
 have HSZ : Hid (((w1.alloc (.cells zA 35)).alloc (.cells (vA 5) 35)).heap.size = w1.heap.size + 2) := hi_ (by simp)
 by_cases ho : a.o = 16
 · have e1 : (a.o == 16) = true := by simpa using ho
   have HEN := hi_ (listG_e HAB.out [125] ([], []) (a := a.enter) (by rw [enter_deep HE.out ho]; decide))
   have HE35 := hi_ (enter_deep HE.out ho)
   clear ho
   go_enter Tryz.func75, Tryz.ntmps75
   go_wp2_with fail
   refine (fail15 (H.out.below HWb.out).now 35 (by decide)).mono ?_
   rintro E w4 ⟨rfl, h4⟩
   have HR4 := hi_ (h4.keep HN0.out (Nat.ne_of_gt H.out.lt))
   have HV4 := hi_ (h4.keep HN1.out (by have := H.out.lt; omega))
   have H4 := hi_ ((H.out.below HWb.out).trans h4)
   clear h4 cc
   go_wp2_with (first | (refine wpList_load_row rfl 35 (.tmp 7) rfl (w1.heap.size + 1) rfl 35 _ (0, 0) _ HV4.out Tryz.underlying35 rfl (by kernel_rfl) ?_) | (refine row_event rfl 35 (.tmp 6) (.tmp 18) rfl w1.heap.size _ rfl rfl 35 _ HR4.out (by kernel_rfl) rfl rfl ?_; intro w5 hr5 hk5))
   have h5 := H4.out.far hk5 (Nat.ne_of_gt H.out.lt) H.out.kp.size
   have he35 : (S.obj fv a).2.e = 35 := by rw [HST.out]; exact HEN.out.trans HE35.out
   have hf35 : (a.fail 35).e = 35 := fail_e0 HE.out 35
   exact bodyPost_ret (results_cell_row rfl _ _ w1.heap.size 35 _ (0, 0) _ rfl hr5 Tryz.underlying35 rfl (by kernel_rfl)) rfl ⟨_, S28.mk 5 false z24 ⟨#[]⟩ [] [], p, a.o, rfl, Jw.flat w5 _ (S28.mk 5 false z24 ⟨#[]⟩ [] []) rfl rfl, h5.bad (by rw [hf35]; decide) (by rw [he35, hf35]), fun e => absurd (he35.symm.trans e) (by decide)⟩
 · have e1 : (a.o == 16) = false := by simpa using ho
   have HEN := hi_ (enter_ok HE.out ho)
   have HNO : Hid (a.o + 1 ≤ 16) := hi_ (by have := HO.out; omega)
   clear ho
   have cp : ∀ o1 o2, ((w1.alloc o1).alloc o2).cell? ⟨g, 1, none⟩ = some (.int .i64 p) := fun o1 o2 => (H.out.below (HBB.out o1 o2)).c1
   have fp : ∀ o1 o2 j, ((w1.alloc o1).alloc o2).frozen? ⟨g, j, none⟩ = false := fun o1 o2 j => (H.out.below (HBB.out o1 o2)).fz j
   have hp1 : p + 1 ≤ s.length ∧ s.drop (p + 1) = a.s.tail := by
    obtain ⟨b, l, hd, hb, hl, hle⟩ := drop_pk (s := s) (p := p) (c := 123) (by rw [HD.out.2.1]; exact HK.out) (by decide)
    exact ⟨hle, by rw [hl, ← HD.out.2.1, hd]; rfl⟩
   have hsl := HS.out
   have hob := HO.out
   have hS1 := (H.out.below HWb.out).s1 (p + 1) ⟨a.s.tail, a.o, a.e⟩ rfl (by omega) (fun _ => ⟨hp1.1, hp1.2, rfl⟩)
   have hS2 := hS1.s2 (wrap64 (a.o + 1)) a.enter (by rw [HEN.out]; exact HE.out.symm) (fun _ => ⟨hp1.1, by rw [HEN.out]; exact hp1.2, by rw [HEN.out, w64 (by omega) (by omega)]⟩)
   have hwp : ((p + 1 : Nat) : Int) = wrap64 ((p : Int) + 1) := (w1n p s.length (by omega) (by omega)).symm
   rw [hwp] at hS2
   have HS2 := hi_ hS2
   have HN02 : Hid _ := hi_ ((Below.heap_setCell ((((w1.alloc (.cells zA 35)).alloc (.cells (vA 5) 35))).setCell ⟨g, 1, none⟩ (.int .i64 (wrap64 ((p : Int) + 1)))) ⟨g, 2, none⟩ (.int .i64 (wrap64 (a.o + 1))) w1.heap.size (Nat.ne_of_gt H.out.lt)).trans ((Below.heap_setCell (((w1.alloc (.cells zA 35)).alloc (.cells (vA 5) 35))) ⟨g, 1, none⟩ (.int .i64 (wrap64 ((p : Int) + 1))) w1.heap.size (Nat.ne_of_gt H.out.lt)).trans HN0.out))
   have HN12 : Hid _ := hi_ ((Below.heap_setCell ((((w1.alloc (.cells zA 35)).alloc (.cells (vA 5) 35))).setCell ⟨g, 1, none⟩ (.int .i64 (wrap64 ((p : Int) + 1)))) ⟨g, 2, none⟩ (.int .i64 (wrap64 (a.o + 1))) (w1.heap.size + 1) (by have := H.out.lt; show w1.heap.size + 1 ≠ g; omega)).trans ((Below.heap_setCell (((w1.alloc (.cells zA 35)).alloc (.cells (vA 5) 35))) ⟨g, 1, none⟩ (.int .i64 (wrap64 ((p : Int) + 1))) (w1.heap.size + 1) (by have := H.out.lt; show w1.heap.size + 1 ≠ g; omega)).trans HN1.out))
   have HP1 := hi_ hp1
   clear hS1 hS2 hwp hp1 hsl hob
   go_enter Tryz.func75, Tryz.ntmps75
   go_wp2_with fail
   refine (blanks15 HS2.out.now).mono ?_
   rintro E w4 ⟨rfl, q, h4⟩
   have HR4 := hi_ (h4.keep HN02.out (Nat.ne_of_gt H.out.lt))
   have HV4 := hi_ (h4.keep HN12.out (by have := H.out.lt; omega))
   have H4 := hi_ (HS2.out.trans h4)
   have HL4 : Hid (w1.heap.size + 2 ≤ w4.heap.size) := hi_ (by have := h4.kp.size; have := HSZ.out; simp at *; omega)
   clear h4 cc cp fp
   go_wp2_with fail
   refine (peek15 H4.out.now).mono ?_
   rintro E w5 ⟨rfl, h5⟩
   have HR5 := hi_ (h5.keep HR4.out (Nat.ne_of_gt H.out.lt))
   have HV5 := hi_ (h5.keep HV4.out (by have := H.out.lt; omega))
   have H5 := hi_ (H4.out.trans h5)
   have HL5 : Hid (w1.heap.size + 2 ≤ w5.heap.size) := hi_ (Nat.le_trans HL4.out h5.kp.size)
   clear h5
   obtain ⟨c, hc⟩ : ∃ c, pk (s.drop q) = c := ⟨_, rfl⟩
   rw [hc]
   have hee : a.enter.e = 0 := by rw [HEN.out]
   have HEE := hi_ hee
   have HD5 := hi_ (H5.out.ok hee)
   have HC : Hid (pk a.enter.skip.s = c) := hi_ (by rw [← HD5.out.2.1]; exact hc)
   clear hc hee
   by_cases k93 : c = 125
   · subst k93
     have HT := hi_ (take_pk a.enter 125 (by decide) HEE.out HC.out)
     have HS7 : Hid (∀ v1 v2, ((w5.setCell ⟨g, 1, none⟩ v1).setCell ⟨g, 2, none⟩ v2).heap[w1.heap.size]? = some (.cells zA 35 (0, 0)) ∧ ((w5.setCell ⟨g, 1, none⟩ v1).setCell ⟨g, 2, none⟩ v2).heap[w1.heap.size + 1]? = some (.cells (vA 5) 35 (0, 0))) := hi_ (fun v1 v2 =>
      ⟨(Below.heap_setCell _ ⟨g, 2, none⟩ v2 w1.heap.size (Nat.ne_of_gt H.out.lt)).trans ((Below.heap_setCell _ ⟨g, 1, none⟩ v1 w1.heap.size (Nat.ne_of_gt H.out.lt)).trans HR5.out),
       (Below.heap_setCell _ ⟨g, 2, none⟩ v2 (w1.heap.size + 1) (by have := H.out.lt; show w1.heap.size + 1 ≠ g; omega)).trans ((Below.heap_setCell _ ⟨g, 1, none⟩ v1 (w1.heap.size + 1) (by have := H.out.lt; show w1.heap.size + 1 ≠ g; omega)).trans HV5.out)⟩)
     have hq1 : q + 1 ≤ s.length ∧ s.drop (q + 1) = a.enter.skip.s.tail := by
      obtain ⟨b, l, hd, hb, hl, hle⟩ := drop_pk (s := s) (p := q) (c := 125) (by rw [HD5.out.2.1]; exact HC.out) (by decide)
      exact ⟨hle, by rw [hl, ← HD5.out.2.1, hd]; rfl⟩
     have hsl := HS.out
     have hob := HO.out
     have heo : wrap64 (a.o + 1) = a.o + 1 := w64 (by omega) (by omega)
     have hr7 : (S.obj fv a).2 = ⟨a.enter.skip.s.tail, a.o + 1 - 1, 0⟩ := by
      rw [HST.out, listG_F, if_pos HT.out.1, HT.out.2]
      show S.left ⟨_, a.enter.o, 0⟩ = _
      rw [HEN.out]
      rfl
     have hr8 : (S.obj fv a).1 = S28.mk 5 false z24 ⟨#[]⟩ [] [] := by rw [HST.out, listG_F, if_pos HT.out.1]
     have h6 := (H5.out.s1 (q + 1) ⟨a.enter.skip.s.tail, a.o + 1, a.enter.skip.e⟩ rfl (by omega) (fun _ => ⟨hq1.1, hq1.2, heo⟩)).s2 (wrap64 (wrap64 (a.o + 1) - 1)) (S.obj fv a).2 (by rw [hr7]; exact HEE.out.symm) (fun _ => ⟨hq1.1, by rw [hr7]; exact hq1.2, by rw [hr7, heo, w64 (by omega) (by omega)]⟩)
     have hwp : ((q + 1 : Nat) : Int) = wrap64 ((q : Int) + 1) := (w1n q s.length (by omega) (by omega)).symm
     rw [hwp] at h6
     have H6 := hi_ h6
     have H8 := hi_ hr8
     clear hq1 hsl hob heo hr7 h6 hwp hr8
     have cp := H5.out.c1
     have co := H5.out.c2
     have fp := H5.out.fz
     go_wp2_with (first | (refine wpList_load_row rfl 35 (.tmp 7) rfl (w1.heap.size + 1) rfl 35 _ (0, 0) _ (HS7.out _ _).2 Tryz.underlying35 rfl (by kernel_rfl) ?_) | (refine row_event rfl 35 (.tmp 6) (.tmp 53) rfl w1.heap.size _ rfl rfl 35 _ (HS7.out _ _).1 (by kernel_rfl) rfl rfl ?_; intro w7 hr7 hk7))
     have h7 := H6.out.far hk7 (Nat.ne_of_gt H.out.lt) H.out.kp.size
     exact bodyPost_ret (results_cell_row rfl _ _ w1.heap.size 35 _ (0, 0) _ rfl hr7 Tryz.underlying35 rfl (by kernel_rfl)) rfl ⟨_, S28.mk 5 false z24 ⟨#[]⟩ [] [], q + 1, _, rfl, Jw.flat w7 _ (S28.mk 5 false z24 ⟨#[]⟩ [] []) rfl rfl, h7, fun _ => H8.out.symm⟩
   have e93 : (c == 125) = false := by simpa using k93
   have HG : Hid (listG (objT fv) [125] ([], []) a.enter = goF (objT fv) 125 ([], []) a.enter.skip) := hi_ (by
    have ht : a.enter.took [125] = false := by rw [took_pk _ 125 (by decide), HC.out]; rw [show decide (c = ((125 : UInt8).toNat : Int)) = false from decide_eq_false k93]; rfl
    rw [listG_F, ht, if_neg (by decide), take_no ht])
   clear HC
   go_wp2_with fail
   go_loopg [] (s.length + 1) (fun kq wx => ∃ (x : List S28 × List ByteArray) (b : S) (qq : Nat), Hid (Rf s w wx g b qq (a.o + 1)) ∧ Hid (b.e = 0 ∧ b.o = a.o + 1 ∧ b.s.length < kq + 0 ∧ x.2.length + b.s.length ≤ s.length + 1 ∧ goF (objT fv) 125 x b = goF (objT fv) 125 ([], []) a.enter.skip) ∧ Hid (x.1.length = x.2.length ∧ rises x.2) ∧ Hid (Lo wx (w1.heap.size + 2) (w1.heap.size + 1) x) ∧ Hid (wx.heap[w1.heap.size]? = some (.cells zA 35 (0, 0))))
   case atStart =>
    have hob := HO.out
    have heo : wrap64 (a.o + 1) = a.o + 1 := w64 (by omega) (by omega)
    have h5 := H5.out
    rw [heo] at h5
    have hl : a.enter.skip.s.length ≤ s.length := by rw [← HD5.out.2.1, List.length_drop]; omega
    exact ⟨([], []), a.enter.skip, q, hi_ h5, hi_ ⟨HEE.out, by show a.enter.o = _; rw [HEN.out], by omega, by simp; omega, rfl⟩,
     hi_ ⟨rfl, List.Pairwise.nil⟩, hi_ ⟨⟨_, _, HV5.out, Kd.R_nil _ _ _ _ _, Kd.R_nil _ _ _ _ _⟩, by omega, HL5.out⟩, HR5⟩
   case round =>
    obtain ⟨x, b, qq, HQ, HP, HXL, HW, HZ⟩ := hrel
    have ce := HQ.out.c3
    rw [HP.out.1] at ce
    go_wp2_with fail
    refine (blanks15 HQ.out.now).mono ?_
    rintro E w7 ⟨rfl, q7, h7⟩
    have HR7 := hi_ (h7.keep HZ.out (Nat.ne_of_gt H.out.lt))
    have HQ7 := hi_ (HQ.out.trans h7)
    have HW7 := hi_ (HW.out.kept h7.kp (by have := H.out.lt; omega))
    clear h7 ce HW HZ
    obtain ⟨v6, v7, hb7, h6r, h7r⟩ := HW7.out.vc
    have HB7 := hi_ hb7
    have HRO := hi_ (And.intro h6r h7r)
    obtain ⟨A6, c6, rfl⟩ := Kd.R_slice h6r
    obtain ⟨A7, c7, rfl⟩ := Kd.R_slice h7r
    clear hb7 h6r h7r
    go_wp2_with (refine wpList_load_row rfl 35 (.tmp 7) rfl (w1.heap.size + 1) rfl 35 _ (0, 0) _ HB7.out Tryz.underlying35 rfl (by kernel_rfl) ?_)
    have hob := HO.out
    have hno := HNO.out
    refine (member15 (fv := fv) HVV.out HBD.out.1 HQ7.out.now HS.out HP.out.1 ⟨by have := HP.out.2.1; omega, by have := HP.out.2.1; omega, by have := HP.out.2.1; push_cast at hob ⊢; omega⟩ ⟨HW7.out.lt.2, by have := H.out.lt; omega⟩ HRO.out.1 HRO.out.2 ⟨HXL.out.1, by have := HP.out.2.2.2.1; have := HS.out; omega⟩ HXL.out.2).mono ?_
    rintro E w8 ⟨z6, z7, X, N, q8, u8, rfl, h6, h7, hXN, hNl, h8, h8e⟩
    obtain ⟨B6, d6, rfl⟩ := Kd.R_slice h6
    obtain ⟨B7, d7, rfl⟩ := Kd.R_slice h7
    have HB8 := hi_ (h8.keep HB7.out (show w1.heap.size + 1 ≠ g by have := H.out.lt; omega))
    have HR8 := hi_ (h8.keep HR7.out (Nat.ne_of_gt H.out.lt))
    have HRN := hi_ (And.intro h6 h7)
    have HQ8 := hi_ (HQ7.out.trans h8)
    have HE8 := hi_ h8e
    have HNL := hi_ (And.intro hXN hNl)
    have HS8 := hi_ (Nat.le_trans HW7.out.lt.2 h8.kp.size)
    clear h6 h7 h8 h8e hXN hNl hob hno HRO HB7
    unfold vB
    go_wp2_with (refine row_event rfl 35 (.tmp 7) (.tmp 72) rfl (w1.heap.size + 1) _ rfl rfl 35 _ HB8.out (by kernel_rfl) rfl rfl ?_; intro w9 hr9 hk9)
    have hle9 := hk9.size
    have HL9 : Hid (Lo w9 (w1.heap.size + 2) (w1.heap.size + 1) (X, N)) := hi_ ⟨⟨_, _, hr9, Kd.R_mono (Kd.R_grown (Kd.R_bound HRN.out.1) hk9 (fun i hi e => by have := hi.2.1; injection e with e; omega)) (fun _ _ => trivial), Kd.R_mono (Kd.R_grown (Kd.R_bound HRN.out.2) hk9 (fun i hi e => by have := hi.2.1; injection e with e; omega)) (fun _ _ => trivial)⟩, by omega, by have := HS8.out; omega⟩
    have H9 : Hid (Rf s w w9 g (objT fv x b).2 q8 u8) := hi_ (HQ8.out.far hk9 (by have := H.out.lt; omega) (by have := H.out.kp.size; omega))
    have HZ9 := hi_ ((hk9.block w1.heap.size (by have := HS8.out; omega) (fun e => by injection e with e; omega)).trans HR8.out)
    have HYY : Hid ((objT fv x b).2.e = 0 → (X, N) = (objT fv x b).1 ∧ rises N) := HE8
    have HKO := hi_ (keeps_objT (fv := fv) HBD.out.2.1 HBD.out.2.2.2)
    clear hle9 hr9 hk9 HE8 HQ8 HR8 HB8 HRN
    refine (blanks15 H9.out.now).mono ?_
    rintro E w10 ⟨rfl, q10, h10⟩
    have HL10 := hi_ (HL9.out.kept h10.kp (by have := H.out.lt; omega))
    have HZ10 := hi_ (h10.keep HZ9.out (Nat.ne_of_gt H.out.lt))
    have H10 := hi_ (H9.out.trans h10)
    clear h10
    go_wp2_with fail
    refine (peek15 H10.out.now).mono ?_
    rintro E w11 ⟨rfl, h11⟩
    have HL11 := hi_ (HL10.out.kept h11.kp (by have := H.out.lt; omega))
    have HZ11 := hi_ (h11.keep HZ10.out (Nat.ne_of_gt H.out.lt))
    have H11 := hi_ (H10.out.trans h11)
    clear h11
    obtain ⟨c1, hc1⟩ : ∃ c1, pk (s.drop q10) = c1 := ⟨_, rfl⟩
    rw [hc1]
    have HC1 := hi_ hc1
    have ce := H11.out.c3
    clear hc1
    by_cases hee : (objT fv x b).2.e ≠ 0
    · have e1 : ((objT fv x b).2.e == 0) = false := by simpa using hee
      have e2 : ((objT fv x b).2.e != 0) = true := by simpa using hee
      have HEE := hi_ hee
      clear hee
      go_wp2_with fail
      refine (fail15 H11.out.now 11 (by decide)).mono ?_
      rintro E w12 ⟨rfl, h12⟩
      obtain ⟨z6, z7, hz, hz6, hz7⟩ := (HL11.out.kept h12.kp (by have := H.out.lt; omega)).vc
      have HM12 := hi_ (k35_mkM w12 _ (fun _ => True) (S28.mk 5 false z24 ⟨#[]⟩ X N) (Kd.R_mono hz6 (fun _ _ => trivial)) hz7)
      have HO12 : Hid ((#[.int .i64 5, .bool false, .bool false, .string ⟨#[]⟩, .int .i64 0, .string ⟨#[]⟩, z6, z7] : Array Value).toList.all (·.oneCell') = true) := hi_ (List.all_eq_true.2 (fun u hu => k35.K_one (k35.K_of_M HM12.out) u hu))
      have HZ := hi_ hz
      have HZ12 := hi_ (h12.keep HZ11.out (Nat.ne_of_gt H.out.lt))
      have H12 := hi_ (H11.out.trans h12)
      clear h12 hz hz6 hz7 ce
      go_wp2_with (first | (refine wpList_load_row rfl 35 (.tmp 7) rfl (w1.heap.size + 1) rfl 35 _ (0, 0) _ HZ.out Tryz.underlying35 rfl (by kernel_rfl) ?_) | (refine row_event rfl 35 (.tmp 6) (.tmp 93) rfl w1.heap.size _ rfl rfl 35 _ HZ12.out (by kernel_rfl) rfl HO12.out ?_; intro w13 hr13 hk13))
      have h13 := H12.out.far hk13 (Nat.ne_of_gt H.out.lt) H.out.kp.size
      have hf : ((objT fv x b).2.skip.fail 11).e = (objT fv x b).2.e := fail_e HEE.out 11
      have hg2 : (S.obj fv a).2.e = (objT fv x b).2.e := by
       rw [HST.out, HG.out, ← HP.out.2.2.2.2]
       have hq : (objT fv x b).2 = (objT fv x b).2 := rfl
       exact goF_bad 125 x b HEE.out
      exact bodyPost_ret (results_cell_row rfl _ _ w1.heap.size 35 _ (0, 0) _ rfl hr13 Tryz.underlying35 rfl (by kernel_rfl)) rfl ⟨_, S28.mk 5 false z24 ⟨#[]⟩ X N, q10, u8, rfl, Jw.up HM12.out hk13 (by omega) (by omega), h13.bad (by rw [hf]; exact HEE.out) (by rw [hg2, hf]), fun e => absurd (hg2.symm.trans e) HEE.out⟩
    replace hee : (objT fv x b).2.e = 0 := Classical.not_not.1 hee
    have e1 : ((objT fv x b).2.e == 0) = true := by simpa using hee
    have e2 : ((objT fv x b).2.e != 0) = false := by simp [hee]
    have HEE := hi_ hee
    clear hee
    have HQ11 := hi_ (H11.out.ok HEE.out)
    have hu : u8 = a.o + 1 := HQ11.out.2.2.trans ((HKO.out x b).2.trans HP.out.2.1)
    subst hu
    have HY : Hid (objT fv x b = ((X, N), (objT fv x b).2)) := hi_ (by rw [(HYY.out HEE.out).1])
    have HRS := hi_ (HYY.out HEE.out).2
    have HC : Hid (pk (objT fv x b).2.skip.s = c1) := hi_ (by rw [← HQ11.out.2.1]; exact HC1.out)
    have HYE : Hid ((objT fv x b).2.e = 0) := hi_ HEE.out
    have HYL : Hid (∀ x b, (objT fv x b).2.s.length ≤ b.s.length) := hi_ (fun x b => (HKO.out x b).1)
    by_cases k44 : c1 = 44
    · have e44 : (c1 == 44) = true := by simpa using k44
      have n44 : (c1 != 44) = false := by simp [k44]
      have k93' : c1 ≠ 125 := by omega
      have e93' : (c1 == 125) = false := by simpa using k93'
      have n93 : (c1 != 125) = true := by simpa using k93'
      have HC44 := hi_ k44
      clear k44 k93'
      have hq1 : q10 + 1 ≤ s.length ∧ s.drop (q10 + 1) = (objT fv x b).2.skip.s.tail := by
       obtain ⟨b0, l, hd, hb, hl, hle⟩ := drop_pk (s := s) (p := q10) (c := 44) (by rw [HC1.out]; exact HC44.out) (by decide)
       exact ⟨hle, by rw [hl, ← HQ11.out.2.1, hd]; rfl⟩
      have hsl := HS.out
      have h12 := H11.out.s1 (q10 + 1) ⟨(objT fv x b).2.skip.s.tail, a.o + 1, (objT fv x b).2.skip.e⟩ rfl (by omega) (fun _ => ⟨hq1.1, hq1.2, rfl⟩)
      have hwp : ((q10 + 1 : Nat) : Int) = wrap64 ((q10 : Int) + 1) := (w1n q10 s.length (by omega) (by omega)).symm
      rw [hwp] at h12
      have H12 := hi_ h12
      have HL12 := hi_ (HL11.out.kept (grown_set w11 g 1 (.int .i64 (wrap64 ((q10 : Int) + 1)))) (by have := H.out.lt; omega))
      have HZ12 := hi_ ((Below.heap_setCell w11 ⟨g, 1, none⟩ (.int .i64 (wrap64 ((q10 : Int) + 1))) w1.heap.size (Nat.ne_of_gt H.out.lt)).trans HZ11.out)
      have hlt : (objT fv x b).2.skip.s.tail.length + 1 ≤ b.s.length := by
       have h1 := skip_len (objT fv x b).2
       have h2 := (HKO.out x b).1
       have h3 := skip_len b
       have h4 : s.drop q10 = (objT fv x b).2.skip.s := HQ11.out.2.1
       have h5 : 0 < (objT fv x b).2.skip.s.length := by rw [← h4, List.length_drop]; omega
       rw [List.length_tail]
       omega
      have HLT := hi_ hlt
      have HHP := hi_ hwp
      clear hq1 hsl h12 hlt hwp
      have cp := H11.out.c1
      have fp := H11.out.fz
      go_wp2_with fail
      go_roundg ((objT fv x b).2.skip.s.tail.length + 1)
      case measure => have := HLT.out; have := HP.out.2.2.1; omega
      case rel =>
       refine ⟨(X, N), ⟨(objT fv x b).2.skip.s.tail, a.o + 1, 0⟩, q10 + 1, ?_, hi_ ⟨rfl, rfl, by show (objT fv x b).2.skip.s.tail.length < _; omega, ?_, ?_⟩, hi_ ⟨HNL.out.1, HRS.out⟩, HL12, HZ12⟩
       · have h := H12.out
         have : (objT fv x b).2.skip.e = 0 := HEE.out
         rw [this] at h
         exact hi_ h
       · have h1 := HLT.out
         have h2 := HP.out.2.2.2.1
         have h3 := HNL.out.2
         show N.length + (objT fv x b).2.skip.s.tail.length ≤ _
         omega
       have h1 := goF_more (st := objT fv) HYL.out 125 x b HYE.out (by rw [HC.out]; exact HC44.out)
       rw [← HP.out.2.2.2.2, h1, show (objT fv x b).1 = (X, N) from (HYY.out HEE.out).1.symm, show (objT fv x b).2.o = a.o + 1 from (HKO.out x b).2.trans HP.out.2.1]
    have e44 : (c1 == 44) = false := by simpa using k44
    have n44 : (c1 != 44) = true := by simpa using k44
    have HK44 := hi_ k44
    clear k44
    by_cases k93' : c1 = 125
    · have e93' : (c1 == 125) = true := by simpa using k93'
      have n93 : (c1 != 125) = false := by simp [k93']
      have HC93 := hi_ k93'
      clear k93'
      have hq1 : q10 + 1 ≤ s.length ∧ s.drop (q10 + 1) = (objT fv x b).2.skip.s.tail := by
       obtain ⟨b0, l, hd, hb, hl, hle⟩ := drop_pk (s := s) (p := q10) (c := 125) (by rw [HC1.out]; exact HC93.out) (by decide)
       exact ⟨hle, by rw [hl, ← HQ11.out.2.1, hd]; rfl⟩
      have hr : S.obj fv a = (⟨5, false, z24, ⟨#[]⟩, X, N⟩, ⟨(objT fv x b).2.skip.s.tail, a.o + 1 - 1, 0⟩) := by
       have h1 := goF_end (st := objT fv) 125 (by decide) x b HYE.out (by rw [HC.out]; exact HK44.out) (by rw [HC.out]; exact HC93.out)
       rw [HST.out, HG.out, ← HP.out.2.2.2.2, h1, show (objT fv x b).1 = (X, N) from (HYY.out HEE.out).1.symm]
       show _ = (_, (⟨_, a.o + 1 - 1, 0⟩ : S))
       rw [show (objT fv x b).2.o = a.o + 1 from (HKO.out x b).2.trans HP.out.2.1]
      have hsl := HS.out
      have hob := HO.out
      have h12 := (H11.out.s1 (q10 + 1) ⟨(objT fv x b).2.skip.s.tail, a.o + 1, (objT fv x b).2.skip.e⟩ rfl (by omega) (fun _ => ⟨hq1.1, hq1.2, rfl⟩)).s2 (wrap64 a.o) (S.obj fv a).2 (by rw [hr]; exact HEE.out.symm) (fun _ => ⟨hq1.1, by rw [hr]; exact hq1.2, by rw [hr, w64 (by omega) (by omega)]; show a.o = a.o + 1 - 1; omega⟩)
      have hwp : ((q10 + 1 : Nat) : Int) = wrap64 ((q10 : Int) + 1) := (w1n q10 s.length (by omega) (by omega)).symm
      rw [hwp] at h12
      have H12 := hi_ h12
      obtain ⟨z6, z7, hz, hz6, hz7⟩ := ((HL11.out.kept (grown_set w11 g 1 (.int .i64 (wrap64 ((q10 : Int) + 1)))) (by have := H.out.lt; omega)).kept (grown_set _ g 2 (.int .i64 (wrap64 a.o))) (by have := H.out.lt; omega)).vc
      have HM12 := hi_ (k35_mkM _ _ (fun _ => True) (S28.mk 5 false z24 ⟨#[]⟩ X N) (Kd.R_mono hz6 (fun _ _ => trivial)) hz7)
      have HO12 : Hid ((#[.int .i64 5, .bool false, .bool false, .string ⟨#[]⟩, .int .i64 0, .string ⟨#[]⟩, z6, z7] : Array Value).toList.all (·.oneCell') = true) := hi_ (List.all_eq_true.2 (fun u hu => k35.K_one (k35.K_of_M HM12.out) u hu))
      have HZ := hi_ hz
      have HZ12 := hi_ ((Below.heap_setCell (w11.setCell ⟨g, 1, none⟩ (.int .i64 (wrap64 ((q10 : Int) + 1)))) ⟨g, 2, none⟩ (.int .i64 (wrap64 a.o)) w1.heap.size (Nat.ne_of_gt H.out.lt)).trans ((Below.heap_setCell w11 ⟨g, 1, none⟩ (.int .i64 (wrap64 ((q10 : Int) + 1))) w1.heap.size (Nat.ne_of_gt H.out.lt)).trans HZ11.out))
      have HR1 := hi_ hr
      clear hq1 hr hsl hob h12 hwp hz hz6 hz7
      have cp := H11.out.c1
      have co := H11.out.c2
      have fp := H11.out.fz
      go_wp2_with (first | (refine wpList_load_row rfl 35 (.tmp 7) rfl (w1.heap.size + 1) rfl 35 _ (0, 0) _ HZ.out Tryz.underlying35 rfl (by kernel_rfl) ?_) | (refine row_event rfl 35 (.tmp 6) (.tmp 111) rfl w1.heap.size _ rfl rfl 35 _ HZ12.out (by kernel_rfl) rfl HO12.out ?_; intro w13 hr13 hk13))
      have h13 := H12.out.far hk13 (Nat.ne_of_gt H.out.lt) H.out.kp.size
      exact bodyPost_ret (results_cell_row rfl _ _ w1.heap.size 35 _ (0, 0) _ rfl hr13 Tryz.underlying35 rfl (by kernel_rfl)) rfl ⟨_, S28.mk 5 false z24 ⟨#[]⟩ X N, q10 + 1, _, rfl, Jw.up HM12.out hk13 (by omega) (by omega), h13, fun e => by rw [HR1.out]⟩
    have e93' : (c1 == 125) = false := by simpa using k93'
    have n93 : (c1 != 125) = true := by simpa using k93'
    have HK93 := hi_ k93'
    clear k93'
    go_wp2_with fail
    refine (fail15 H11.out.now 11 (by decide)).mono ?_
    rintro E w12 ⟨rfl, h12⟩
    obtain ⟨z6, z7, hz, hz6, hz7⟩ := (HL11.out.kept h12.kp (by have := H.out.lt; omega)).vc
    have HM12 := hi_ (k35_mkM w12 _ (fun _ => True) (S28.mk 5 false z24 ⟨#[]⟩ X N) (Kd.R_mono hz6 (fun _ _ => trivial)) hz7)
    have HO12 : Hid ((#[.int .i64 5, .bool false, .bool false, .string ⟨#[]⟩, .int .i64 0, .string ⟨#[]⟩, z6, z7] : Array Value).toList.all (·.oneCell') = true) := hi_ (List.all_eq_true.2 (fun u hu => k35.K_one (k35.K_of_M HM12.out) u hu))
    have HZ := hi_ hz
    have HZ12 := hi_ (h12.keep HZ11.out (Nat.ne_of_gt H.out.lt))
    have H12 := hi_ (H11.out.trans h12)
    clear h12 hz hz6 hz7 ce
    go_wp2_with (first | (refine wpList_load_row rfl 35 (.tmp 7) rfl (w1.heap.size + 1) rfl 35 _ (0, 0) _ HZ.out Tryz.underlying35 rfl (by kernel_rfl) ?_) | (refine row_event rfl 35 (.tmp 6) (.tmp 93) rfl w1.heap.size _ rfl rfl 35 _ HZ12.out (by kernel_rfl) rfl HO12.out ?_; intro w13 hr13 hk13))
    have h13 := H12.out.far hk13 (Nat.ne_of_gt H.out.lt) H.out.kp.size
    have hf : ((objT fv x b).2.skip.fail 11).e = 11 := fail_e0 HEE.out 11
    have hg2 : (S.obj fv a).2.e = 11 := by
     rw [HST.out, HG.out, ← HP.out.2.2.2.2]
     exact goF_form 125 (by decide) x b HYE.out (by rw [HC.out]; exact HK44.out) (by rw [HC.out]; exact HK93.out)
    exact bodyPost_ret (results_cell_row rfl _ _ w1.heap.size 35 _ (0, 0) _ rfl hr13 Tryz.underlying35 rfl (by kernel_rfl)) rfl ⟨_, S28.mk 5 false z24 ⟨#[]⟩ X N, q10, a.o + 1, rfl, Jw.up HM12.out hk13 (by omega) (by omega), h13.bad (by rw [hf]; decide) (by rw [hg2, hf]), fun e => absurd (hg2.symm.trans e) (by decide)⟩
theorem WC.imp {fn : Nat} {more : Array Value} {ok ok' : S → Prop} {f f' : S → S28 × S} (h : WC fn more ok f) (h1 : ∀ a, ok' a → ok a) (h2 : ∀ a, ok' a → f a = f' a) : WC fn more ok' f' := fun s w w1 g a p o hr hs ha => by
 rw [← h2 a ha]
 exact h s w w1 g a p o hr hs (h1 a ha)
theorem gv15 : ∀ n, WC 37 #[] (OKn n) (gv n)
 | 0 => by
  have h := value15 (fa := textV) (fo := textV) (ok := fun b => b.e ≠ 0) number15 (fun s w w1 g a p o hr hs ha => absurd ha.1 ha.2.2) (fun s w w1 g a p o hr hs ha => absurd ha.1 ha.2.2) (fun a ha _ => ha)
  refine h.imp (fun a ha he => ?_) (fun a ha => ?_)
  · have := ha he; omega
  have hne : a.e ≠ 0 := fun he => by have := ha he; omega
  rw [gv_bad hne]
  unfold S.value S.value1
  rw [if_pos (show a.skip.e ≠ 0 from hne)]
 | n + 1 => value15 (ok := OKn (n + 1)) number15
     (arr15 (gv n) n (gv15 n) (fun b h => by rw [gv_bad h]; rfl) (fun b => (keeps_gv n b).len) (fun b => gv_skip n _ _ (skip2 b)) (fun b => (keeps_gv n b).o))
     (obj15 (gv n) n (gv15 n) (fun b h => by rw [gv_bad h]; rfl) (fun b => (keeps_gv n b).len) (fun b => gv_skip n _ _ (skip2 b)) (fun b => (keeps_gv n b).o)) (fun a ha _ => ha)
theorem ended_bad {b : S} (h : b.e ≠ 0) : b.ended.e = b.e := by
 unfold S.ended
 split
 · rfl
 exact fail_e (a := b.skip) h 11
structure JD (w : World) (x : S28) (A : Option Addr) (n c : Nat) (B : Option Addr) (m c' : Nat) : Prop where
  ln : n = x.f4.length
  nc : n ≤ c
  i : k35.C w A n x.f4
  lm : m = x.f5.length
  mc : m ≤ c'
  s : Kd.string.C w B m x.f5
theorem JD.below {w w' : World} {x : S28} {A B : Option Addr} {n c m c' : Nat} (h : JD w x A n c B m c') (hb : Below w.heap.size w w') : JD w' x A n c B m c' :=
 ⟨h.ln, h.nc, Kd.C_below h.i hb, h.lm, h.mc, Kd.C_below h.s hb⟩
theorem Jw.jd {w : World} {base : Nat} {v : Value} {x : S28} (h : Jw w base v x) : ∃ A n c B m c', v = .agg #[.int .i64 x.f0, .bool x.f1, .bool x.f2.f0, .string x.f2.f1, .int .i64 x.f2.f2, .string x.f3, .slice A n c, .slice B m c'] ∧ JD w x A n c B m c' := by
 obtain ⟨cs, rfl, hM⟩ := h
 obtain ⟨v6, v7, rfl, g6, g7⟩ := k35_openM hM
 obtain ⟨A, c, rfl, hl6, h6⟩ := Kd.R_reads g6
 obtain ⟨B, c', rfl, hl7, h7⟩ := Kd.R_reads g7
 exact ⟨A, _, c, B, _, c', rfl, ⟨rfl, hl6, h6, rfl, hl7, h7⟩⟩
set_option maxRecDepth 100000 in
set_option maxHeartbeats 8000000 in
theorem parse15w (s : List UInt8) (hs : s.length ≤ 600) (w : World) :
    Calls Tryz.prog 17 #[.string (ofL s)] w fun E w' => ∃ v, E = .returned (.tuple #[v, .int .i64 (pv s).2]) ∧ Jw w' w.heap.size v (pv s).1 ∧ Below w.heap.size w w' := by
 have hsz : ((ofL s).size : Int) ≤ 4096 := by rw [ofL_size]; omega
 have HLS := hi_ hs
 have HPV := hi_ (pv_gv s (by omega))
 clear hs
 go_enter Tryz.func17, Tryz.ntmps17
 have hR0 : ∀ o, Rf s ((w.alloc o).alloc (.cells #[.string (ofL s), .int .i64 0, .int .i64 0, .int .i64 0] 84)) ((w.alloc o).alloc (.cells #[.string (ofL s), .int .i64 0, .int .i64 0, .int .i64 0] 84)) (w.heap.size + 1) ⟨s, 0, 0⟩ 0 0 :=
  fun o => ⟨by have := blk_new (w.alloc o) (.cells #[.string (ofL s), .int .i64 0, .int .i64 0, .int .i64 0] 84); simpa using this, grown_refl _ _, by simp, by have := HLS.out; omega, by omega, fun _ => ⟨by omega, rfl, rfl⟩⟩
 have HR0 := hi_ hR0
 clear hR0
 obtain ⟨x, b, hxb⟩ : ∃ x b, (x, b) = gv 17 ⟨s, 0, 0⟩ := ⟨_, _, rfl⟩
 have HXB := hi_ hxb
 have HF : Hid (pv s = if b.ended.e = 0 then (x, 0) else (z28, b.ended.e)) := hi_ (by rw [HPV.out, ← hxb])
 clear hxb
 go_wp2_with fail
 refine (gv15 17 s _ _ (w.heap.size + 1) ⟨s, 0, 0⟩ 0 0 (HR0.out _) HLS.out (fun _ => ⟨Int.le_refl _, by show (0 : Int) ≤ 16; decide, rfl⟩)).mono ?_
 rintro E w4 ⟨v, y, q, u, rfl, hv, h4, h4e⟩
 rw [← HXB.out] at h4 h4e
 obtain ⟨cs, rfl, hl8, ho8, hi8, hM⟩ := hv.of
 have HL8 := hi_ (And.intro hl8 (And.intro ho8 hi8))
 have hsz4 : w.heap.size + 2 ≤ w4.heap.size := by have := h4.kp.size; simp at this; omega
 have hW0 : ∀ o p, Below w.heap.size w ((w.alloc o).alloc p) := fun o p => ((Below.refl _ _).alloc (Nat.le_refl _) _).alloc (by simp) _
 have HR4 := hi_ (h4.keep (k := w.heap.size) ((((Below.refl (w.alloc (.cells #[.int .i64 0, .bool false, .bool false, .string ⟨#[]⟩, .int .i64 0, .string ⟨#[]⟩, .slice none 0 0, .slice none 0 0] 35)).heap.size _).alloc (Nat.le_refl _) _).block w.heap.size (by simp)).trans (blk_new w _)) (by omega))
 have HB4 : Hid (Below w.heap.size w w4) := hi_ ((hW0 _ _).grown h4.kp (by simp; omega) (fun k e => by injection e with e; omega))
 have HM4 := hi_ hM
 have H4 := hi_ h4.now
 have H4E := hi_ h4e
 have HS4 := hi_ hsz4
 clear hv h4 h4e hM hl8 ho8 hi8 hW0 hsz4 hsz
 go_wp2_with (refine row_event rfl 35 (.tmp 5) (.tmp 14) rfl w4.heap.size cs.toArray rfl rfl 35 _ (blk_new w4 _) HL8.out.2.2 HL8.out.1.symm HL8.out.2.1 ?_; intro w5 hr5 hk5)
 have hal := (Below.refl w4.heap.size w4).alloc (Nat.le_refl _) (.cells #[.int .i64 0, .bool false, .bool false, .string ⟨#[]⟩, .int .i64 0, .string ⟨#[]⟩, .slice none 0 0, .slice none 0 0] 35)
 have hB45 : Below w4.heap.size w4 w5 := hal.grown hk5 (by simp) (fun k e => Nat.le_of_eq (Option.some.inj e))
 have H5 := hi_ ((H4.out.below hB45).now)
 have HR5 := hi_ ((hB45.block _ (by have := HS4.out; omega)).trans HR4.out)
 have HV5 := hi_ hr5
 have HM5 := hi_ (k35.M_mono (fun _ _ => trivial) (Kd.M_below HM4.out hB45))
 have HB5 := hi_ (HB4.out.trans (hB45.mono (by have := HS4.out; omega)))
 have HS5 : Hid (w4.heap.size < w5.heap.size) := hi_ (Nat.lt_of_lt_of_le (by simp) hk5.size)
 clear hal hB45 hr5 hk5
 go_wp2_with fail
 refine (blanks15 H5.out).mono ?_
 rintro E w6 ⟨rfl, q6, h6⟩
 have HR := hi_ (h6.keep HR5.out (by omega))
 have HV := hi_ (h6.keep HV5.out (by have := HS4.out; omega))
 have HM := hi_ (k35.M_mono (ok' := fun _ => True) (fun _ _ => trivial) (Kd.M_grown (k35.M_bound HM5.out) h6.kp (fun i hi e => by have := hi.2.1; injection e with e; simp at this; omega)))
 have HB := hi_ (HB5.out.grown h6.kp HB5.out.size (fun k e => by injection e with e; omega))
 have H := hi_ h6.now
 clear h6
 have c1 := H.out.c1
 go_upto_if 23 with (fail)
 clear c1
 go_cut [] (fun wx => ∃ c q7, Hid (Rf s wx wx (w.heap.size + 1) c q7 u ∧ c.e = b.ended.e) ∧ Hid (wx.heap[w.heap.size]? = some (.cells #[.int .i64 0, .bool false, .bool false, .string ⟨#[]⟩, .int .i64 0, .string ⟨#[]⟩, .slice none 0 0, .slice none 0 0] 35 (0, 0))) ∧ Hid (wx.heap[w4.heap.size]? = some (.cells cs.toArray 35 (0, 0))) ∧ Hid (k35.M wx (w.heap.size + 2) (fun _ => True) y cs) ∧ Hid (Below w.heap.size w wx))
 case first =>
  by_cases hq : q6 < s.length
  · have hqi : (q6 : Int) < ((ofL s).size : Int) := by rw [ofL_size]; omega
    have HQ := hi_ hq
    clear hq
    go_wp2_with fail
    refine (fail15 H.out 11 (by decide)).mono ?_
    rintro E w7 ⟨rfl, h7⟩
    have HR7 := hi_ (h7.keep HR.out (by omega))
    have HV7 := hi_ (h7.keep HV.out (by have := HS4.out; omega))
    have HM7 := hi_ (k35.M_mono (ok' := fun _ => True) (fun _ _ => trivial) (Kd.M_grown (k35.M_bound HM.out) h7.kp (fun i hi e => by have := hi.2.1; injection e with e; simp at this; omega)))
    have HB7 := hi_ (HB.out.grown h7.kp HB.out.size (fun k e => by injection e with e; omega))
    have H7 := hi_ h7.now
    clear h7
    go_wp2_with fail
    go_meet
    refine ⟨_, _, hi_ ⟨H7.out, ?_⟩, HR7, HV7, by simpa using HM7, HB7⟩
    by_cases he : b.e = 0
    · have hk := (H.out.ok he).2.1
      have hne : b.skip.s ≠ [] := fun e => by
       have := congrArg List.length hk
       rw [e, List.length_drop] at this
       have := HQ.out
       simp at *; omega
      unfold S.ended
      rw [if_neg hne]
    rw [ended_bad he]; exact fail_e (a := b.skip) he 11
  have hqi : ¬ ((q6 : Int) < ((ofL s).size : Int)) := by rw [ofL_size]; omega
  have HQ := hi_ hq
  clear hq
  go_wp2_with fail
  go_meet
  refine ⟨_, _, hi_ ⟨H.out, ?_⟩, HR, HV, by simpa using HM, HB⟩
  by_cases he : b.e = 0
  · have hk := (H.out.ok he).2.1
    have hne : b.skip.s = [] := by rw [← hk]; exact List.drop_eq_nil_of_le (by have := HQ.out; omega)
    unfold S.ended
    rw [if_pos hne]
  rw [ended_bad he]; rfl
 obtain ⟨c, q7, HC, HR', HV', HM', HB'⟩ := hcut
 clear H HR HV HM HB HR5 HV5 HM5 HB5 H5
 have c3 := HC.out.1.c3
 rw [HC.out.2] at c3
 by_cases he : b.ended.e = 0
 · have e1 : (b.ended.e != 0) = false := by simp [he]
   have HG : Hid (pv s = (x, 0)) := hi_ (by rw [HF.out, if_pos he])
   have HYX : Hid (y = x) := hi_ (H4E.out (Classical.byContradiction fun hb => by rw [ended_bad hb] at he; exact hb he))
   clear he
   go_wp2_with (first | (refine wpList_load_row rfl 35 (.tmp 5) rfl w4.heap.size rfl 35 cs.toArray (0, 0) _ HV'.out Tryz.underlying35 rfl HL8.out.2.2 ?_) | (refine row_event rfl 35 (.tmp 2) (.tmp 36) rfl w.heap.size cs.toArray rfl rfl 35 _ HR'.out HL8.out.2.2 HL8.out.1.symm HL8.out.2.1 ?_; intro w9 hr9 hk9))
   refine bodyPost_ret (results_list (rs := [.cell 2 35, .tmp 3]) rfl (by simp) (.cell w.heap.size 35 _ (0, 0) _ rfl hr9 Tryz.underlying35 rfl HL8.out.2.2 (.tmp .nil))) rfl ?_
   rw [HG.out, ← HYX.out]
   exact ⟨_, rfl, Jw.up HM'.out hk9 (by omega) (by omega), HB'.out.grown hk9 HB'.out.size (fun k e => Nat.le_of_eq (Option.some.inj e))⟩
 · have e1 : (b.ended.e != 0) = true := by simp [he]
   have HG : Hid (pv s = (z28, b.ended.e)) := hi_ (by rw [HF.out, if_neg he])
   clear he
   go_wp2_with fail
   have r0 : wc.cell? ⟨w.heap.size, 0, none⟩ = some (.int .i64 0) := (blk_cell HR'.out 0).trans rfl
   have r1 : wc.cell? ⟨w.heap.size, 1, none⟩ = some (.bool false) := (blk_cell HR'.out 1).trans rfl
   have r2 : wc.cell? ⟨w.heap.size, 2, none⟩ = some (.bool false) := (blk_cell HR'.out 2).trans rfl
   have r3 : wc.cell? ⟨w.heap.size, 3, none⟩ = some (.string ⟨#[]⟩) := (blk_cell HR'.out 3).trans rfl
   have r4 : wc.cell? ⟨w.heap.size, 4, none⟩ = some (.int .i64 0) := (blk_cell HR'.out 4).trans rfl
   have r5 : wc.cell? ⟨w.heap.size, 5, none⟩ = some (.string ⟨#[]⟩) := (blk_cell HR'.out 5).trans rfl
   have r6 : wc.cell? ⟨w.heap.size, 6, none⟩ = some (.slice none 0 0) := (blk_cell HR'.out 6).trans rfl
   have r7 : wc.cell? ⟨w.heap.size, 7, none⟩ = some (.slice none 0 0) := (blk_cell HR'.out 7).trans rfl
   have f0 := blk_frozen HR'.out 0
   have f1 := blk_frozen HR'.out 1
   have f2 := blk_frozen HR'.out 2
   have f3 := blk_frozen HR'.out 3
   have f4 := blk_frozen HR'.out 4
   have f5 := blk_frozen HR'.out 5
   have f6 := blk_frozen HR'.out 6
   have f7 := blk_frozen HR'.out 7
   go_region
   have hr9 := blk_drew (blk_put (blk_put (blk_put (blk_put (blk_put (blk_put (blk_put (blk_put HR'.out 0 (.int .i64 0) rfl) 1 (.bool false) rfl) 2 (.bool false) rfl) 3 (.string ⟨#[]⟩) rfl) 4 (.int .i64 0) rfl) 5 (.string ⟨#[]⟩) rfl) 6 (.slice none 0 0) rfl) 7 (.slice none 0 0) rfl)
   have hb9 := Below.drew (Below.setCell (Below.setCell (Below.setCell (Below.setCell (Below.setCell (Below.setCell (Below.setCell (Below.setCell HB'.out (p := ⟨w.heap.size, 0, none⟩) (Nat.le_refl _) (.int .i64 0)) (p := ⟨w.heap.size, 1, none⟩) (Nat.le_refl _) (.bool false)) (p := ⟨w.heap.size, 2, none⟩) (Nat.le_refl _) (.bool false)) (p := ⟨w.heap.size, 3, none⟩) (Nat.le_refl _) (.string ⟨#[]⟩)) (p := ⟨w.heap.size, 4, none⟩) (Nat.le_refl _) (.int .i64 0)) (p := ⟨w.heap.size, 5, none⟩) (Nat.le_refl _) (.string ⟨#[]⟩)) (p := ⟨w.heap.size, 6, none⟩) (Nat.le_refl _) (.slice none 0 0)) (p := ⟨w.heap.size, 7, none⟩) (Nat.le_refl _) (.slice none 0 0))
   clear r0 r1 r2 r3 r4 r5 r6 r7 f0 f1 f2 f3 f4 f5 f6 f7
   go_wp2
   refine bodyPost_ret (results_list (rs := [.cell 2 35, .tmp 3]) rfl (by simp) (.cell w.heap.size 35 _ (0, 0) _ rfl hr9 Tryz.underlying35 rfl (by kernel_rfl) (.tmp .nil))) rfl ?_
   rw [HG.out]
   exact ⟨_, rfl, Jw.flat _ _ z28 rfl rfl, hb9⟩
theorem parse15 (s : List UInt8) (hs : s.length ≤ 600) (w : World) (x : S28) (e : Int) (h : pv s = (x, e)) :
    Calls Tryz.prog 17 #[.string (ofL s)] w fun E w' => ∃ A n c B m c', E = .returned (.tuple #[.agg #[.int .i64 x.f0, .bool x.f1, .bool x.f2.f0, .string x.f2.f1, .int .i64 x.f2.f2, .string x.f3, .slice A n c, .slice B m c'], .int .i64 e]) ∧
     JD w' x A n c B m c' ∧ Below w.heap.size w w' := by
 have h1 := parse15w s hs w
 rw [h] at h1
 refine h1.mono ?_
 rintro E w' ⟨v, rfl, hv, hB⟩
 obtain ⟨A, n, c, B, m, c', rfl, hJ⟩ := hv.jd
 exact ⟨A, n, c, B, m, c', rfl, hJ, hB⟩
theorem newC {W : World} {b : Nat} (xs : List Int) (hl : xs.length ≤ 100) (hc : W.heap[b]? = some (.cells (xs.map (Value.int .u8)).toArray 5 (0, 0))) : Kd.C (Kd.int .u8) W (some ⟨b, 0, none⟩) xs.length xs := by
 refine ⟨rfl, by omega, fun _ => ⟨_, rfl, fun j p hj => ⟨[.int .u8 p], rfl, rfl, fun i u hu => ?_⟩⟩⟩
 cases i with
 | zero =>
  have e : u = .int .u8 p := by simpa using hu.symm
  subst e
  rw [show (⟨b, 0, none⟩ : Addr).add (j * (Kd.int .u8).sz + 0) = ⟨b, j, none⟩ by
   rw [show j * (Kd.int .u8).sz + 0 = j from Nat.mul_one j]
   unfold Addr.add; split <;> simp_all, blk_cell hc]
  simp [hj]
 | succ i => simp at hu
theorem one15 (W : World) (x : UInt8) : (convert 38 9 (.slice (some ⟨W.heap.size, 0, none⟩) 1 1)).run Tryz.prog (W.alloc (.cells #[.int .u8 (x.toNat : Int)] 5)) = .ok (.string (ofL [x])) (W.alloc (.cells #[.int .u8 (x.toNat : Int)] 5)) := by
 refine (str_run _ _ 1 1 [(x.toNat : Int)] (newC _ (by simp) (blk_new W (.cells #[.int .u8 (x.toNat : Int)] 5)))).trans ?_
 congr 2
 simp [strOfNums, ofL]
theorem two15 (W : World) (x : UInt8) : (convert 38 9 (.slice (some ⟨W.heap.size, 0, none⟩) 2 2)).run Tryz.prog (W.alloc (.cells #[.int .u8 92, .int .u8 (x.toNat : Int)] 5)) = .ok (.string (ofL [92, x])) (W.alloc (.cells #[.int .u8 92, .int .u8 (x.toNat : Int)] 5)) := by
 refine (str_run _ _ 2 2 [92, (x.toNat : Int)] (newC _ (by simp) (blk_new W (.cells #[.int .u8 92, .int .u8 (x.toNat : Int)] 5)))).trans ?_
 congr 2
 simp [strOfNums, ofL]
set_option maxRecDepth 100000 in
set_option maxHeartbeats 4000000 in
theorem quote15 (s : List UInt8) (hs : s.length ≤ 1000000) (w : World) :
    Calls Tryz.prog 60 #[.string (ofL s)] w fun e w' => e = .returned (.string (ofL (quoteL s))) ∧ Below w.heap.size w w' := by
 have hsz : (ofL s).size = s.length := ofL_size s
 have HB0 : Hid (Below w.heap.size w w) := hi_ (Below.refl _ _)
 go_enter Tryz.func60, Tryz.ntmps60
 go_wp2_with fail
 go_loopw [3, 4] (fun v3 vi wr => ∃ k : Nat, k ≤ s.length ∧ v3 = .string (ofL (34 :: (s.take k).flatMap quoteB)) ∧ vi = .int .i64 k ∧ Hid (Below w.heap.size w wr)) (fun v3 vi _ => s.length - (intOf vi).toNat)
 case atStart => exact ⟨0, by omega, rfl, rfl, HB0⟩
 case round =>
  clear HB0
  obtain ⟨k, hk, rfl, rfl, HB⟩ := hrel
  by_cases hkl : k < s.length
  · have hk2 : k < (ofL s).size := by omega
    obtain ⟨x, hx⟩ : ∃ x, x = s[k] := ⟨_, rfl⟩
    have hbyte : (ofL s)[k]'hk2 = x := hx.symm
    have hex : (ofL s).extract k (k + 1) = ofL [x] := by
     rw [ofL_ext, List.take_succ_eq_append_getElem hkl, List.drop_append_of_le_length (by simp; omega), hx]
     simp
     rfl
    have HTK : Hid (34 :: (s.take (k + 1)).flatMap quoteB = (34 :: (s.take k).flatMap quoteB) ++ quoteB x) := hi_ (by rw [List.take_succ_eq_append_getElem hkl, List.flatMap_append, hx]; simp [List.flatMap_cons]; rfl)
    have hln : (34 :: (s.take k).flatMap quoteB).length ≤ 6000001 := by have := quoteF_len (s.take k); rw [List.length_cons]; rw [List.length_take] at this; omega
    obtain ⟨out, hout⟩ : ∃ out, out = 34 :: (s.take k).flatMap quoteB := ⟨_, rfl⟩
    rw [← hout] at HTK hln ⊢
    have hoz : (ofL out).size ≤ 6000001 := by rw [ofL_size]; exact hln
    clear hx hout hln
    have hxb : x.toNat < 256 := x.toNat_lt
    by_cases h1 : x = 34 ∨ x = 92
    · have HBB : Hid (quoteB x = [92, x]) := hi_ (by unfold quoteB; rw [if_pos h1])
      have hst := two15 wr x
      have hz2 : (ofL [92, x]).size = 2 := ofL_size _
      have hap : ofL out ++ ofL [92, x] = ofL (34 :: (s.take (k + 1)).flatMap quoteB) := by rw [HTK.out, HBB.out]; exact ofL_app _ _
      by_cases h34 : x = 34
      · have e34 : ((x.toNat : Int) == 34) = true := by rw [h34]; rfl
        clear h1 h34
        go_wp2_with fail
        exact ⟨⟨k + 1, by omega, rfl, by simp, hi_ (below_alloc HB.out _)⟩, by simp [intOf]; omega⟩
      have e92 : ((x.toNat : Int) == 92) = true := by rw [h1.resolve_left h34]; rfl
      have e34 : ((x.toNat : Int) == 34) = false := by rw [h1.resolve_left h34]; rfl
      clear h1 h34
      go_wp2_with fail
      exact ⟨⟨k + 1, by omega, rfl, by simp, hi_ (below_alloc HB.out _)⟩, by simp [intOf]; omega⟩
    have e34 : ((x.toNat : Int) == 34) = false := by rw [beq_eq_false_iff_ne]; intro e; exact h1 (.inl (by rw [← UInt8.toNat_inj]; have : (34 : UInt8).toNat = 34 := rfl; omega))
    have e92 : ((x.toNat : Int) == 92) = false := by rw [beq_eq_false_iff_ne]; intro e; exact h1 (.inr (by rw [← UInt8.toNat_inj]; have : (92 : UInt8).toNat = 92 := rfl; omega))
    by_cases h32 : x.toNat < 32
    · obtain ⟨a, ha⟩ : ∃ a, a = x.toNat / 16 := ⟨_, rfl⟩
      obtain ⟨b, hb⟩ : ∃ b, b = x.toNat % 16 := ⟨_, rfl⟩
      have HBB : Hid (quoteB x = [92, 117, 48, 48, hexD a, hexD b]) := hi_ (by unfold quoteB; rw [if_neg h1, if_pos h32, ha, hb])
      have h32' : (x.toNat : Int) < 32 := by omega
      have hA : Int.tdiv (x.toNat : Int) 16 = (a : Int) := by rw [Int.tdiv_eq_ediv_of_nonneg (by omega)]; omega
      have hBb : Int.tmod (x.toNat : Int) 16 = (b : Int) := by rw [Int.tmod_eq_emod_of_nonneg (by omega)]; omega
      have hla : a < 16 := by omega
      have hlb : b < 16 := by omega
      have hW1 : IntKind.u8.wrap ((a : Int) + 1) = (a : Int) + 1 := wrap8 a hla
      have hW2 : IntKind.u8.wrap ((b : Int) + 1) = (b : Int) + 1 := wrap8 b hlb
      have hl1 : (a : Int) + 1 ≤ 16 := by omega
      have hl2 : (b : Int) + 1 ≤ 16 := by omega
      have hc1 : (a : Int) ≤ (a : Int) + 1 := by omega
      have hc2 : (b : Int) ≤ (b : Int) + 1 := by omega
      have hE1 : (⟨#[48, 49, 50, 51, 52, 53, 54, 55, 56, 57, 97, 98, 99, 100, 101, 102]⟩ : ByteArray).extract a (a + 1) = ofL [hexD a] := hexE ⟨a, hla⟩
      have hE2 : (⟨#[48, 49, 50, 51, 52, 53, 54, 55, 56, 57, 97, 98, 99, 100, 101, 102]⟩ : ByteArray).extract b (b + 1) = ofL [hexD b] := hexE ⟨b, hlb⟩
      have hst : (convert 38 9 (.slice (some ⟨wr.heap.size, 0, none⟩) 1 1)).run Tryz.prog (wr.alloc (.cells #[.int .u8 92] 5)).drew = .ok (.string (ofL [92])) (wr.alloc (.cells #[.int .u8 92] 5)).drew := one15 wr.drew 92
      have hz0 : (ofL [92]).size = 1 := ofL_size _
      have hz1 : (ofL [hexD a]).size = 1 := ofL_size _
      have hz2 : (ofL [hexD b]).size = 1 := ofL_size _
      have hz3 : (ofL [92, 117, 48, 48, hexD a]).size = 5 := ofL_size _
      have hz4 : (ofL [92, 117, 48, 48]).size = 4 := ofL_size _
      have hz5 : (ofL [92, 117, 48, 48, hexD a, hexD b]).size = 6 := ofL_size _
      have hS0 : ofL [92] ++ (⟨#[117, 48, 48]⟩ : ByteArray) = ofL [92, 117, 48, 48] := ofL_app [92] [117, 48, 48]
      have hS1 : ofL [92, 117, 48, 48] ++ ofL [hexD a] = ofL [92, 117, 48, 48, hexD a] := ofL_app _ _
      have hS2 : ofL [92, 117, 48, 48, hexD a] ++ ofL [hexD b] = ofL [92, 117, 48, 48, hexD a, hexD b] := ofL_app _ _
      have hap : ofL out ++ ofL [92, 117, 48, 48, hexD a, hexD b] = ofL (34 :: (s.take (k + 1)).flatMap quoteB) := by rw [HTK.out, HBB.out]; exact ofL_app _ _
      clear ha hb h1
      go_wp2_with fail
      go_region
      go_wp2_with fail
      exact ⟨⟨k + 1, by omega, rfl, by simp, hi_ (below_drew1 (below_alloc HB.out _))⟩, by simp [intOf]; omega⟩
    have h32' : ¬ ((x.toNat : Int) < 32) := by omega
    have HBB : Hid (quoteB x = [x]) := hi_ (by unfold quoteB; rw [if_neg h1, if_neg h32])
    have hz1 : (ofL [x]).size = 1 := ofL_size _
    have hap : ofL out ++ ofL [x] = ofL (34 :: (s.take (k + 1)).flatMap quoteB) := by rw [HTK.out, HBB.out]; exact ofL_app _ _
    clear h1
    go_wp2_with fail
    exact ⟨⟨k + 1, by omega, rfl, by simp, hi_ HB.out⟩, by simp [intOf]; omega⟩
  have hk2 : k = s.length := by omega
  subst hk2
  have hap : ofL (34 :: (s.take s.length).flatMap quoteB) ++ (⟨#[34]⟩ : ByteArray) = ofL (quoteL s) := by rw [List.take_length]; exact ofL_app _ [34]
  have hoz : (ofL (34 :: (s.take s.length).flatMap quoteB)).size ≤ 6000001 := by rw [ofL_size, List.take_length, List.length_cons]; have := quoteF_len s; omega
  generalize ofL (34 :: (s.take s.length).flatMap quoteB) = A at hap hoz ⊢
  go_wp2_with fail
  go_ret
  exact ⟨rfl, HB.out⟩
end Js
end Go.Proofs.YtapcpndplnkfjaaGreatDoor
namespace Go.Proofs.YtapcpndplnkfjaaGreatDoor
open Go.RowKit Go.Proofs.YtapcpndplnkfjaaGreatDoorW.PrintWords Pr
theorem itoa_len (e : Int) (h : -1000000 ≤ e ∧ e ≤ 1000000) : (Lib.itoa e).length ≤ 21 := Lib.itoa_length_le e (by omega) (by omega)
theorem digit_piece : ∀ i : Fin 10, ((⟨#[48, 49, 50, 51, 52, 53, 54, 55, 56, 57]⟩ : ByteArray).extract i.val (i.val + 1)) = ofL [UInt8.ofNat (48 + i.val)] := by decide +kernel
theorem small_step (k u : Nat) (acc : List UInt8) (hu : u ≤ 1000000000000) (ha : acc.length ≤ 1000000) :
    R4small.l0 (k + 1) (u : Int) (ofL acc) = if u / 10 = 0 then some (ofL (UInt8.ofNat (48 + u % 10) :: acc)) else R4small.l0 k ((u / 10 : Nat) : Int) (ofL (UInt8.ofNat (48 + u % 10) :: acc)) := by
 have hm : Int.tmod (u : Int) 10 = ((u % 10 : Nat) : Int) := by rw [Int.tmod_eq_emod_of_nonneg (by omega)]; omega
 have hd : Int.tdiv (u : Int) 10 = ((u / 10 : Nat) : Int) := by rw [Int.tdiv_eq_ediv_of_nonneg (by omega)]; omega
 have hw : wrap64 (((u % 10 : Nat) : Int) + 1) = ((u % 10 + 1 : Nat) : Int) := by unfold wrap64; omega
 have hw2 : wrap64 ((u / 10 : Nat) : Int) = ((u / 10 : Nat) : Int) := by unfold wrap64; omega
 have hp : ((⟨#[48, 49, 50, 51, 52, 53, 54, 55, 56, 57]⟩ : ByteArray).extract (((u % 10 : Nat) : Int)).toNat (((u % 10 + 1 : Nat) : Int)).toNat) = ofL [UInt8.ofNat (48 + u % 10)] := by
  have := digit_piece ⟨u % 10, by omega⟩
  rw [show (((u % 10 : Nat) : Int)).toNat = u % 10 by omega, show (((u % 10 + 1 : Nat) : Int)).toNat = u % 10 + 1 by omega]
  exact this
 simp only [R4small.l0]
 rw [hm, hd, hw, hw2, hp, if_pos (by omega), if_pos (by omega), if_pos (by omega), if_pos (by rw [ofL_size, ofL_size]; simp; omega), ofL_app]
 by_cases h : u / 10 = 0
 · rw [if_pos (by omega), if_pos h]; rfl
 · rw [if_neg (by omega), if_neg h]; rfl
theorem small_l0 (u : Nat) : ∀ (acc : List UInt8), u ≤ 1000000000000 → acc.length + Lib.nDigits u ≤ 1000000 →
    Ev (fun k => R4small.l0 k (u : Int) (ofL acc)) (ofL (Lib.decDigits u ++ acc)) := by
 induction u using Nat.strongRecOn with
 | _ u ih =>
  intro acc hu ha
  have hn := Lib.nDigits_pos u
  by_cases h : u < 10
  · refine Ev.step (f := fun _ => some (ofL (Lib.decDigits u ++ acc))) (fun k => ?_) (Ev.now _)
    rw [small_step k u acc hu (by omega), if_pos (by omega), Lib.decDigits_one h, Nat.mod_eq_of_lt h]; rfl
  have hnd := Lib.nDigits_big h
  have hdd : Lib.decDigits u = Lib.decDigits (u / 10) ++ [UInt8.ofNat (48 + u % 10)] := by rw [Lib.decDigits, dif_neg h]
  rw [hdd, List.append_assoc]
  refine Ev.step (fun k => ?_) (ih (u / 10) (by omega) (UInt8.ofNat (48 + u % 10) :: acc) (by omega) (by rw [List.length_cons]; omega))
  rw [small_step k u acc hu (by omega), if_neg (by omega)]
theorem small_ev (e : Int) (he : -1000000 ≤ e ∧ e ≤ 1000000) : Ev (fun k => R4small.f k e) (ofL (Lib.itoa e)) := by
 have hnd : ∀ u : Nat, u ≤ 1000000 → Lib.nDigits u ≤ 20 := fun u hu => Lib.nDigits_le20 u (by omega)
 have pos : ∀ u : Nat, u ≤ 1000000 → Ev (fun k => R4small.f k (u : Int)) (ofL (Lib.decDigits u)) := fun u hu => by
  have := small_l0 u [] (by omega) (by have := hnd u hu; simp; omega)
  rw [List.append_nil] at this
  refine Ev.step (fun k => ?_) this
  simp only [R4small.f]
  rw [if_neg (by omega)]; rfl
 unfold Lib.itoa
 by_cases h : e < 0
 · rw [if_pos h]
   have hn := pos e.natAbs (by omega)
   refine Ev.step (f := fun k => (R4small.f k ((e.natAbs : Nat) : Int)).bind fun t => if 1 + t.size ≤ 9223372036854775807 then some (⟨#[45]⟩ ++ t) else none) (fun k => ?_) (Ev.bind hn ?_)
   · simp only [R4small.f]
     rw [if_pos h, show wrap64 (-e) = ((e.natAbs : Nat) : Int) by unfold wrap64; omega]
   refine Ev.congr (fun k => ?_) (Ev.now _)
   have h2 := Lib.decDigits_length e.natAbs
   have h3 := hnd e.natAbs (by omega)
   rw [ofL_size, if_pos (by omega)]
   exact congrArg some (ofL_app [45] _)
 rw [if_neg h]
 have := pos e.toNat (by omega)
 rw [show ((e.toNat : Nat) : Int) = e by omega] at this
 exact this
theorem rtext_ev (d : Bool) (D : List UInt8) (e : Int) (hD : D.length ≤ 1000000) (he : -1000000 ≤ e ∧ e ≤ 1000000) : Ev (fun k => R4Text.f k d (ofL D) e) (ofL (NumP.text (d, D, e))) := by
 have hl := itoa_len e he
 have h45 : (⟨#[45]⟩ : ByteArray) = ofL [45] := rfl
 have h101 : (⟨#[101]⟩ : ByteArray) = ofL [101] := rfl
 have hs := small_ev e he
 unfold NumP.text
 by_cases h0 : D = []
 · subst h0
   refine Ev.congr (fun k => ?_) (Ev.now _)
   unfold R4Text.f
   rw [if_pos (ofL_toList []), if_pos rfl]; rfl
 rw [if_neg h0]
 by_cases he0 : e = 0
 · refine Ev.congr (fun k => ?_) (Ev.now _)
   unfold R4Text.f
   rw [if_neg (by rw [ofL_toList]; exact h0)]
   simp only [h45, h101, ofL_app, ofL_size, if_pos he0]
   cases d with
   | true => rw [if_pos rfl, if_pos (by omega)]; simp [NumP.sgn]
   | false => rw [if_neg (by simp)]; simp [NumP.sgn]
 rw [if_neg he0]
 cases d with
 | true =>
  refine Ev.congr (f := fun k => (R4small.f k e).bind fun t => if 1 + t.size ≤ 9223372036854775807 then (if (ofL (45 :: D)).size + (ofL [101] ++ t).size ≤ 9223372036854775807 then some (ofL (45 :: D) ++ (ofL [101] ++ t)) else none) else none) (fun k => ?_) (Ev.bind hs (Ev.congr (fun k => ?_) (Ev.now _)))
  · unfold R4Text.f
    rw [if_neg (by rw [ofL_toList]; exact h0), if_pos rfl, if_pos (by rw [ofL_size]; omega), if_neg he0, h45, h101, ofL_app]; rfl
  simp only [ofL_app, ofL_size]
  rw [if_pos (by omega), if_pos (by simp; omega)]; simp [NumP.sgn]
 | false =>
  refine Ev.congr (f := fun k => (R4small.f k e).bind fun t => if 1 + t.size ≤ 9223372036854775807 then (if (ofL D).size + (ofL [101] ++ t).size ≤ 9223372036854775807 then some (ofL D ++ (ofL [101] ++ t)) else none) else none) (fun k => ?_) (Ev.bind hs (Ev.congr (fun k => ?_) (Ev.now _)))
  · unfold R4Text.f
    rw [if_neg (by rw [ofL_toList]; exact h0), if_neg (by simp), if_neg he0, h101]
  simp only [ofL_app, ofL_size]
  rw [if_pos (by omega), if_pos (by simp; omega)]; simp [NumP.sgn]
theorem right_bd {d : Bool} {D : List UInt8} {e : Int} (h : NumP.right (d, D, e) = true) : D.length ≤ 40 ∧ -999 ≤ e ∧ e ≤ 999 := by
 unfold NumP.right at h
 by_cases h0 : D = []
 · subst h0
   rw [if_pos rfl] at h
   simp only [Bool.and_eq_true, beq_iff_eq] at h
   exact ⟨by decide, by omega, by omega⟩
 rw [if_neg h0] at h
 simp only [Bool.and_eq_true, decide_eq_true_eq] at h
 exact ⟨h.1.1.2, h.1.2, h.2⟩
end Go.Proofs.YtapcpndplnkfjaaGreatDoor
namespace Go.Proofs.YtapcpndplnkfjaaGreatDoor
open Go.RowKit Go.Proofs.YtapcpndplnkfjaaGreatDoorW.PrintWords Go.Proofs.YtapcpndplnkfjaaGreatDoorW.PrintLast Go.Proofs.YtapcpndplnkfjaaGreatDoorW.PrintMore
namespace Js
theorem join_two (a b : List UInt8) (t : List (List UInt8)) : Lib.join (a :: b :: t) [44] = a ++ 44 :: Lib.join (b :: t) [44] := by
 rw [Lib.join_cons, Lib.join_cons]
 simp [Lib.joinTail]
theorem join_snoc : ∀ (l : List (List UInt8)) (a : List UInt8), Lib.join (l ++ [a]) [44] = (if l = [] then [] else Lib.join l [44] ++ [44]) ++ a
 | [], a => by rw [if_pos rfl, List.nil_append, Lib.join_one]; rfl
 | [b], a => by rw [if_neg (by simp), List.singleton_append, join_two, Lib.join_one, Lib.join_one]; simp
 | b :: c :: t, a => by
  have h := join_snoc (c :: t) a
  rw [if_neg (by simp)] at h ⊢
  rw [List.cons_append, List.cons_append, join_two, ← List.cons_append, h, join_two]
  simp
theorem join_step {l : List (List UInt8)} {k : Nat} (h : k < l.length) : Lib.join (l.take (k + 1)) [44] = (if k = 0 then [] else Lib.join (l.take k) [44] ++ [44]) ++ l.getD k [] := by
 rw [List.take_succ_eq_append_getElem h, join_snoc]
 congr 1
 · by_cases hk : k = 0
   · subst hk; simp
   · have hne : l.take k ≠ [] := fun e => by
       have h2 : (l.take k).length = 0 := by rw [e]; rfl
       rw [List.length_take] at h2; omega
     rw [if_neg hk, if_neg hne]
 simp [List.getD, h]
theorem join_mono {l : List (List UInt8)} : ∀ (m k : Nat), k + m ≤ l.length → (Lib.join (l.take k) [44]).length ≤ (Lib.join (l.take (k + m)) [44]).length
 | 0, k, h => Nat.le_refl _
 | m + 1, k, h => by
  refine Nat.le_trans (join_mono m k (by omega)) ?_
  rw [show k + (m + 1) = (k + m) + 1 by omega, join_step (show k + m < l.length by omega)]
  by_cases hk : k + m = 0
  · rw [hk]; simp [Lib.join]
  rw [if_neg hk]; simp only [List.length_append]; omega
theorem join_take_le {l : List (List UInt8)} {k : Nat} (h : k ≤ l.length) : (Lib.join (l.take k) [44]).length ≤ (Lib.join l [44]).length := by
 have := join_mono (l := l) (l.length - k) k (by omega)
 rwa [show k + (l.length - k) = l.length by omega, List.take_length] at this
def RT (x : S28) (r : List UInt8) : Prop := ∀ (A B : Option Addr) (c c' : Nat) (w : World), JD w x A x.f4.length c B x.f5.length c' →
    Calls Tryz.prog 31 #[.agg #[.int .i64 x.f0, .bool x.f1, .bool x.f2.f0, .string x.f2.f1, .int .i64 x.f2.f2, .string x.f3, .slice A x.f4.length c, .slice B x.f5.length c']] w fun e w' => e = .returned (.string (ofL r)) ∧ Below w.heap.size w w'
set_option maxRecDepth 100000 in
set_option maxHeartbeats 8000000 in
theorem arr_text15 (xs : List S28) (l : List (List UInt8)) (hl : l.length = xs.length) (h1 : l.length ≤ 1000000) (h2 : (Lib.join l [44]).length ≤ 1000000000) (HI : ∀ i, i < xs.length → RT (xs.getD i z28) (l.getD i [])) :
    RT ⟨4, false, z24, ⟨#[]⟩, xs, []⟩ (91 :: Lib.join l [44] ++ [93]) := by
 intro A B c c' w hJ
 show Calls Tryz.prog 31 #[.agg #[.int .i64 4, .bool false, .bool false, .string ⟨#[]⟩, .int .i64 0, .string ⟨#[]⟩, .slice A xs.length c, .slice B 0 c']] w _
 have HLL := hi_ (And.intro hl (And.intro h1 h2))
 have HII := hi_ HI
 have HJ := hi_ hJ
 have hn : xs.length ≤ 1000000 := by omega
 have HA := hi_ (fun o => below_alloc (Below.refl w.heap.size w) o)
 clear hl h1 h2 HI hJ
 go_enter Tryz.func31, Tryz.ntmps31
 go_wp2_with fail
 have hb0 := HA.out (.cells #[.int .i64 4, .bool false, .bool false, .string ⟨#[]⟩, .int .i64 0, .string ⟨#[]⟩, .slice A xs.length c, .slice B 0 c'] 35)
 have hk0 := blk_new w (.cells #[.int .i64 4, .bool false, .bool false, .string ⟨#[]⟩, .int .i64 0, .string ⟨#[]⟩, .slice A xs.length c, .slice B 0 c'] 35)
 generalize w.alloc (.cells #[.int .i64 4, .bool false, .bool false, .string ⟨#[]⟩, .int .i64 0, .string ⟨#[]⟩, .slice A xs.length c, .slice B 0 c'] 35) = w0 at hb0 hk0 ⊢
 have HB0 := hi_ hb0
 have HK0 := hi_ hk0
 clear hb0 hk0
 go_loopw [3, 4] (fun v3 vi wr => ∃ k : Nat, k ≤ xs.length ∧ v3 = .string (ofL (Lib.join (l.take k) [44])) ∧ vi = .int .i64 k ∧ Hid (Below w0.heap.size w0 wr)) (fun v3 vi _ => xs.length - (intOf vi).toNat)
 case atStart => exact ⟨0, by omega, rfl, rfl, hi_ (Below.refl _ _)⟩
 case round =>
  obtain ⟨k, hk, rfl, rfl, HB⟩ := hrel
  have HBW := hi_ (HB0.out.trans (HB.out.mono HB0.out.size))
  have hkb := thru HK0.out HB.out
  obtain ⟨e0, -, -, -, -, -, e6, -⟩ := eight hkb
  clear hkb
  by_cases hkl : k < xs.length
  · obtain ⟨ad, A6, c6, A7, c7, rfl, q0, q1, q2, q3, q4, q5, q6, q7, l6, g6, l7, g7⟩ := at_T35 (Kd.C_below HJ.out.i HBW.out) (k : Int) (by omega) (by omega)
    simp only [rd_T35, Int.toNat_natCast] at q0 q1 q2 q3 q4 q5 q6 q7 l6 g6 l7 g7
    have hy := HII.out k hkl
    have hkl2 : k < l.length := by rw [HLL.out.1]; exact hkl
    have hstep := join_step hkl2
    have hsz1 := join_take_le (l := l) (k := k) (by omega)
    have hsz2 := join_take_le (l := l) (k := k + 1) (by omega)
    obtain ⟨y, hyy⟩ : ∃ y, y = xs.getD k z28 := ⟨_, rfl⟩
    obtain ⟨t, ht⟩ : ∃ t, t = l.getD k [] := ⟨_, rfl⟩
    obtain ⟨out, hout⟩ : ∃ out, out = Lib.join (l.take k) [44] := ⟨_, rfl⟩
    rw [← hyy] at q0 q1 q2 q3 q4 q5 q6 q7 l6 g6 l7 g7 hy
    rw [← ht] at hy hstep
    rw [← hout] at hstep hsz1 ⊢
    have HY := hi_ hy
    have HJY := hi_ (JD.mk (w := wr) (x := y) (A := A6) (n := y.f4.length) (c := c6) (B := A7) (m := y.f5.length) (c' := c7) rfl l6 g6 rfl l7 g7)
    have HAL := hi_ (fun o => below_alloc (Below.refl wr.heap.size wr) o)
    have h2 := HLL.out.2.2
    rw [hstep] at hsz2
    clear hyy ht hy l6 g6 l7 g7
    by_cases hk0 : k = 0
    · rw [if_pos hk0, List.nil_append] at hstep hsz2
      have hk0' : ¬ ((0 : Int) < (k : Int)) := by omega
      have HST := hi_ hstep
      have hzt : (ofL t).size ≤ 1000000000 := by rw [ofL_size]; omega
      have hzo : (ofL out).size ≤ 1000000000 := by rw [ofL_size]; omega
      have hap1 : ofL out ++ ofL t = ofL t := by rw [hout, hk0]; exact ofL_app [] t
      clear hsz1 hsz2 h2 hstep hout hk0
      go_wp2_with fail
      refine (HY.out A6 A7 c6 c7 _ HJY.out).mono ?_
      rintro E w1 ⟨rfl, hB⟩
      have HB1 := hi_ (HB.out.trans (hB.mono HB.out.size))
      clear hB q0 q1 q2 q3 q4 q5 q6 q7 e0 e6
      go_wp2_with fail
      exact ⟨⟨k + 1, by omega, by rw [HST.out], by simp, HB1⟩, by simp [intOf]; omega⟩
    rw [if_neg hk0] at hstep hsz2
    simp only [List.length_append] at hsz2
    have HST := hi_ hstep
    have hk0' : (0 : Int) < (k : Int) := by omega
    have hap1 : ofL out ++ (⟨#[44]⟩ : ByteArray) = ofL (out ++ [44]) := ofL_app _ [44]
    have hap2 : ofL (out ++ [44]) ++ ofL t = ofL (out ++ [44] ++ t) := ofL_app _ _
    have hzt : (ofL t).size ≤ 1000000000 := by rw [ofL_size]; omega
    have hzo : (ofL out).size ≤ 1000000000 := by rw [ofL_size]; omega
    have hz3 : (ofL (out ++ [44])).size ≤ 1000000001 := by rw [ofL_size]; simp; omega
    clear hsz1 hsz2 h2 hstep hk0 hout
    go_wp2_with fail
    refine (HY.out A6 A7 c6 c7 _ HJY.out).mono ?_
    rintro E w1 ⟨rfl, hB⟩
    have HB1 := hi_ (HB.out.trans (hB.mono HB.out.size))
    clear hB q0 q1 q2 q3 q4 q5 q6 q7 e0 e6
    go_wp2_with fail
    exact ⟨⟨k + 1, by omega, by rw [HST.out]; simp, by simp, HB1⟩, by simp [intOf]; omega⟩
  have hkn : k = l.length := by have := HLL.out.1; omega
  have hkx : ¬ ((k : Int) < (xs.length : Int)) := by omega
  have HT : Hid (l.take k = l) := hi_ (by rw [hkn]; exact List.take_length)
  rw [HT.out]
  have hzo : (ofL (Lib.join l [44])).size ≤ 1000000000 := by rw [ofL_size]; exact HLL.out.2.2
  obtain ⟨out, hout⟩ : ∃ out, out = Lib.join l [44] := ⟨_, rfl⟩
  rw [← hout] at hzo ⊢
  have hap1 : (⟨#[91]⟩ : ByteArray) ++ ofL out = ofL (91 :: out) := ofL_app [91] out
  have hap2 : ofL (91 :: out) ++ (⟨#[93]⟩ : ByteArray) = ofL (91 :: out ++ [93]) := ofL_app _ [93]
  have hz2 : (ofL (91 :: out)).size ≤ 1000000001 := by rw [ofL_size] at hzo ⊢; simp; omega
  have HOUT := hi_ hout
  clear hout hkn hkl
  go_wp2_with fail
  go_ret
  exact ⟨by rw [← HOUT.out]; rfl, HBW.out⟩
set_option maxRecDepth 100000 in
set_option maxHeartbeats 8000000 in
theorem obj_text15 (xs : List S28) (ns : List ByteArray) (hxn : xs.length = ns.length) (l : List (List UInt8)) (hl : l.length = xs.length) (h1 : l.length ≤ 1000000) (h2 : (Lib.join l [44]).length ≤ 1000000000)
    (HI : ∀ i, i < xs.length → ∃ a, RT (xs.getD i z28) a ∧ a.length ≤ 1000000000 ∧ (ns.getD i ⟨#[]⟩).data.toList.length ≤ 1000000 ∧ quoteL (ns.getD i ⟨#[]⟩).data.toList ++ [58] ++ a = l.getD i []) :
    RT ⟨5, false, z24, ⟨#[]⟩, xs, ns⟩ (123 :: Lib.join l [44] ++ [125]) := by
 intro A B c c' w hJ
 show Calls Tryz.prog 31 #[.agg #[.int .i64 5, .bool false, .bool false, .string ⟨#[]⟩, .int .i64 0, .string ⟨#[]⟩, .slice A xs.length c, .slice B ns.length c']] w _
 have HLL := hi_ (And.intro hl (And.intro h1 h2))
 have HII := hi_ HI
 have HJ := hi_ hJ
 have HXN := hi_ hxn
 have hn : xs.length ≤ 1000000 := by omega
 have HA := hi_ (fun o => below_alloc (Below.refl w.heap.size w) o)
 clear hl h1 h2 HI hJ hxn
 go_enter Tryz.func31, Tryz.ntmps31
 go_wp2_with fail
 have hb0 := HA.out (.cells #[.int .i64 5, .bool false, .bool false, .string ⟨#[]⟩, .int .i64 0, .string ⟨#[]⟩, .slice A xs.length c, .slice B ns.length c'] 35)
 have hk0 := blk_new w (.cells #[.int .i64 5, .bool false, .bool false, .string ⟨#[]⟩, .int .i64 0, .string ⟨#[]⟩, .slice A xs.length c, .slice B ns.length c'] 35)
 generalize w.alloc (.cells #[.int .i64 5, .bool false, .bool false, .string ⟨#[]⟩, .int .i64 0, .string ⟨#[]⟩, .slice A xs.length c, .slice B ns.length c'] 35) = w0 at hb0 hk0 ⊢
 have HB0 := hi_ hb0
 have HK0 := hi_ hk0
 clear hb0 hk0
 go_loopw [3, 4] (fun v3 vi wr => ∃ k : Nat, k ≤ xs.length ∧ v3 = .string (ofL (Lib.join (l.take k) [44])) ∧ vi = .int .i64 k ∧ Hid (Below w0.heap.size w0 wr)) (fun v3 vi _ => xs.length - (intOf vi).toNat)
 case atStart => exact ⟨0, by omega, rfl, rfl, hi_ (Below.refl _ _)⟩
 case round =>
  obtain ⟨k, hk, rfl, rfl, HB⟩ := hrel
  have HBW := hi_ (HB0.out.trans (HB.out.mono HB0.out.size))
  have hkb := thru HK0.out HB.out
  obtain ⟨e0, -, -, -, -, -, e6, e7⟩ := eight hkb
  clear hkb
  by_cases hkl : k < xs.length
  · have hkl2 : k < l.length := by rw [HLL.out.1]; exact hkl
    obtain ⟨tt, hy, htl, hnl, htt⟩ := HII.out k hkl
    have hin' : (k : Int) < (ns.length : Int) := by have := HXN.out; omega
    have hix' : (k : Int) < (xs.length : Int) := by omega
    obtain ⟨bd, cc, rfl, -, hK1, hc0⟩ := Kd.C_get (Kd.C_below HJ.out.s HBW.out) (⟨#[]⟩ : ByteArray) (k : Int) (by omega) (by show (k : Int) < (ns.length : Int); exact hin')
    obtain ⟨nm, hnm⟩ : ∃ nm, ns.getD k ⟨#[]⟩ = nm := ⟨_, rfl⟩
    have ek1 : cc = [.string nm] := by rw [← hnm]; exact hK1
    have t1 := hc0 0 (.string nm) (by rw [ek1]; rfl)
    rw [show (k : Int).toNat * Kd.string.sz + 0 = k by rw [Int.toNat_natCast]; exact Nat.mul_one k] at t1
    rw [hnm] at hnl htt
    have hql : (quoteL nm.data.toList).length ≤ 6000002 := by unfold quoteL; have := quoteF_len nm.data.toList; simp only [List.length_append, List.length_cons, List.length_nil]; omega
    have HQT := hi_ (quote15 nm.data.toList hnl)
    rw [ofL_of] at HQT
    obtain ⟨qn, hqn⟩ : ∃ qn, qn = quoteL nm.data.toList := ⟨_, rfl⟩
    rw [← hqn] at htt HQT hql
    have hqz : (ofL qn).size ≤ 6000002 := by rw [ofL_size]; exact hql
    have HY := hi_ hy
    have hstep := join_step hkl2
    have hsz1 := join_take_le (l := l) (k := k) (by omega)
    have hsz2 := join_take_le (l := l) (k := k + 1) (by omega)
    obtain ⟨out, hout⟩ : ∃ out, out = Lib.join (l.take k) [44] := ⟨_, rfl⟩
    rw [← htt, ← hout] at hstep
    rw [← hout] at hsz1 ⊢
    have h2 := HLL.out.2.2
    rw [hstep] at hsz2
    obtain ⟨q1, hq1⟩ : ∃ q1, q1 = qn ++ [58] := ⟨_, rfl⟩
    rw [← hq1] at hstep hsz2
    have haq : ofL qn ++ (⟨#[58]⟩ : ByteArray) = ofL q1 := by rw [hq1]; exact ofL_app _ [58]
    have hqs : q1.length ≤ 6000003 := by rw [hq1]; simp; omega
    have hzq : (ofL q1).size ≤ 6000003 := by rw [ofL_size]; exact hqs
    clear hK1 hc0 ek1 hnm hqn htt hy hq1
    by_cases hk0 : k = 0
    · skip
      have hk0' : ¬ ((0 : Int) < (k : Int)) := by omega
      rw [if_pos hk0, List.nil_append] at hstep hsz2
      simp only [List.length_append] at hsz2
      obtain ⟨m2, hm2⟩ : ∃ m2, m2 = q1 ++ tt := ⟨_, rfl⟩
      rw [← hm2] at hstep
      have HST := hi_ hstep
      have hap1 : ofL out ++ ofL q1 = ofL q1 := by rw [hout, hk0]; exact ofL_app [] _
      have hap2 : ofL q1 ++ ofL tt = ofL m2 := by rw [hm2]; exact ofL_app _ _
      clear hm2
      have hzt : (ofL tt).size ≤ 1000000000 := by rw [ofL_size]; omega
      have hzo : (ofL out).size ≤ 1000000000 := by rw [ofL_size]; omega
      clear hsz1 hsz2 h2 hstep hout hk0 htl hnl
      go_wp2_with fail
      refine (HQT.out _).mono ?_
      rintro E w1 ⟨rfl, hB⟩
      have HB1 := hi_ (HB.out.trans (hB.mono HB.out.size))
      have HBW1 := hi_ (HBW.out.trans (hB.mono HBW.out.size))
      obtain ⟨f0, -, -, -, -, -, f6, f7⟩ := eight (thru HK0.out HB1.out)
      clear hB e0 e6 e7 t1
      obtain ⟨ad, A6, c6, A7, c7, rfl, q0, q1, q2, q3, q4, q5, q6, q7, l6, g6, l7, g7⟩ := at_T35 (Kd.C_below HJ.out.i HBW1.out) (k : Int) (by omega) (by omega)
      simp only [rd_T35, Int.toNat_natCast] at q0 q1 q2 q3 q4 q5 q6 q7 l6 g6 l7 g7
      obtain ⟨y, hyy⟩ : ∃ y, y = xs.getD k z28 := ⟨_, rfl⟩
      have hy := HY.out
      rw [← hyy] at q0 q1 q2 q3 q4 q5 q6 q7 l6 g6 l7 g7 hy
      have HYY := hi_ hy
      have HJY := hi_ (JD.mk (w := w1) (x := y) (A := A6) (n := y.f4.length) (c := c6) (B := A7) (m := y.f5.length) (c' := c7) rfl l6 g6 rfl l7 g7)
      clear hyy hy l6 g6 l7 g7
      go_wp2_with fail
      refine (HYY.out A6 A7 c6 c7 _ HJY.out).mono ?_
      rintro E w2 ⟨rfl, hB⟩
      have HB2 := hi_ (HB1.out.trans (hB.mono HB1.out.size))
      clear hB q0 q1 q2 q3 q4 q5 q6 q7 f0 f6 f7
      go_wp2_with fail
      exact ⟨⟨k + 1, by omega, by rw [HST.out], by simp, HB2⟩, by simp [intOf]; omega⟩
    skip
    have hk0' : (0 : Int) < (k : Int) := by omega
    rw [if_neg hk0] at hstep hsz2
    obtain ⟨m0, hm0⟩ : ∃ m0, m0 = out ++ [44] := ⟨_, rfl⟩
    obtain ⟨m1, hm1⟩ : ∃ m1, m1 = m0 ++ q1 := ⟨_, rfl⟩
    obtain ⟨m2, hm2⟩ : ∃ m2, m2 = m1 ++ tt := ⟨_, rfl⟩
    rw [← hm0, show m0 ++ (q1 ++ tt) = m2 by rw [hm2, hm1, List.append_assoc]] at hstep
    rw [← hm0] at hsz2
    simp only [List.length_append] at hsz2
    have HST := hi_ hstep
    have hap0 : ofL out ++ (⟨#[44]⟩ : ByteArray) = ofL m0 := by rw [hm0]; exact ofL_app _ [44]
    have hap1 : ofL m0 ++ ofL q1 = ofL m1 := by rw [hm1]; exact ofL_app _ _
    have hap2 : ofL m1 ++ ofL tt = ofL m2 := by rw [hm2]; exact ofL_app _ _
    have hz3 : (ofL m0).size ≤ 1000000001 := by rw [ofL_size]; omega
    have hz4 : (ofL m1).size ≤ 1000000001 := by rw [ofL_size, hm1, List.length_append]; omega
    clear hm0 hm1 hm2
    have hzt : (ofL tt).size ≤ 1000000000 := by rw [ofL_size]; omega
    have hzo : (ofL out).size ≤ 1000000000 := by rw [ofL_size]; omega
    clear hsz1 hsz2 h2 hstep hout hk0 htl hnl
    go_wp2_with fail
    refine (HQT.out _).mono ?_
    rintro E w1 ⟨rfl, hB⟩
    have HB1 := hi_ (HB.out.trans (hB.mono HB.out.size))
    have HBW1 := hi_ (HBW.out.trans (hB.mono HBW.out.size))
    obtain ⟨f0, -, -, -, -, -, f6, f7⟩ := eight (thru HK0.out HB1.out)
    clear hB e0 e6 e7 t1
    obtain ⟨ad, A6, c6, A7, c7, rfl, q0, q1, q2, q3, q4, q5, q6, q7, l6, g6, l7, g7⟩ := at_T35 (Kd.C_below HJ.out.i HBW1.out) (k : Int) (by omega) (by omega)
    simp only [rd_T35, Int.toNat_natCast] at q0 q1 q2 q3 q4 q5 q6 q7 l6 g6 l7 g7
    obtain ⟨y, hyy⟩ : ∃ y, y = xs.getD k z28 := ⟨_, rfl⟩
    have hy := HY.out
    rw [← hyy] at q0 q1 q2 q3 q4 q5 q6 q7 l6 g6 l7 g7 hy
    have HYY := hi_ hy
    have HJY := hi_ (JD.mk (w := w1) (x := y) (A := A6) (n := y.f4.length) (c := c6) (B := A7) (m := y.f5.length) (c' := c7) rfl l6 g6 rfl l7 g7)
    clear hyy hy l6 g6 l7 g7
    go_wp2_with fail
    refine (HYY.out A6 A7 c6 c7 _ HJY.out).mono ?_
    rintro E w2 ⟨rfl, hB⟩
    have HB2 := hi_ (HB1.out.trans (hB.mono HB1.out.size))
    clear hB q0 q1 q2 q3 q4 q5 q6 q7 f0 f6 f7
    go_wp2_with fail
    exact ⟨⟨k + 1, by omega, by rw [HST.out], by simp, HB2⟩, by simp [intOf]; omega⟩
  have hkn : k = l.length := by have := HLL.out.1; omega
  have hkx : ¬ ((k : Int) < (xs.length : Int)) := by omega
  have HT : Hid (l.take k = l) := hi_ (by rw [hkn]; exact List.take_length)
  rw [HT.out]
  have hzo : (ofL (Lib.join l [44])).size ≤ 1000000000 := by rw [ofL_size]; exact HLL.out.2.2
  obtain ⟨out, hout⟩ : ∃ out, out = Lib.join l [44] := ⟨_, rfl⟩
  rw [← hout] at hzo ⊢
  have hap1 : (⟨#[123]⟩ : ByteArray) ++ ofL out = ofL (123 :: out) := ofL_app [123] out
  have hap2 : ofL (123 :: out) ++ (⟨#[125]⟩ : ByteArray) = ofL (123 :: out ++ [125]) := ofL_app _ [125]
  have hz2 : (ofL (123 :: out)).size ≤ 1000000001 := by rw [ofL_size] at hzo ⊢; simp; omega
  have HOUT := hi_ hout
  clear hout hkn hkl
  go_wp2_with fail
  go_ret
  exact ⟨by rw [← HOUT.out]; rfl, HBW.out⟩
set_option maxRecDepth 100000 in
set_option maxHeartbeats 8000000 in
theorem rtext15 : ∀ (n : Nat) (x : S28) (r : List UInt8), Wv n x → txF n x = some r → RT x r
 | 0, x, r, h, _ => h.elim
 | n + 1, x, r, h, hr => by
  rcases h with rfl | ⟨b, rfl⟩ | ⟨d, D, e, rfl, hR⟩ | ⟨l, rfl, hU⟩ | ⟨xs, rfl, hn1, hW⟩ | ⟨xs, ns, rfl, hn1, hxn, hW, hri, hU⟩
  · have hrr : r = [110, 117, 108, 108] := (Option.some.inj (show some [110, 117, 108, 108] = some r from hr)).symm
    subst hrr
    intro A B c c' w hJ
    show Calls Tryz.prog 31 #[.agg #[.int .i64 0, .bool false, .bool false, .string ⟨#[]⟩, .int .i64 0, .string ⟨#[]⟩, .slice A 0 c, .slice B 0 c']] w _
    have HA := hi_ (fun o => below_alloc (Below.refl w.heap.size w) o)
    clear hJ hr
    go_enter Tryz.func31, Tryz.ntmps31
    go_wp2_with fail
    go_ret
    exact ⟨rfl, HA.out _⟩
  · intro A B c c' w hJ
    show Calls Tryz.prog 31 #[.agg #[.int .i64 1, .bool b, .bool false, .string ⟨#[]⟩, .int .i64 0, .string ⟨#[]⟩, .slice A 0 c, .slice B 0 c']] w _
    have HA := hi_ (fun o => below_alloc (Below.refl w.heap.size w) o)
    cases b with
    | true =>
     have hrr : r = [116, 114, 117, 101] := (Option.some.inj (show some [116, 114, 117, 101] = some r from hr)).symm
     subst hrr
     clear hJ hr
     go_enter Tryz.func31, Tryz.ntmps31
     go_wp2_with fail
     go_ret
     exact ⟨rfl, HA.out _⟩
    | false =>
     have hrr : r = [102, 97, 108, 115, 101] := (Option.some.inj (show some [102, 97, 108, 115, 101] = some r from hr)).symm
     subst hrr
     clear hJ hr
     go_enter Tryz.func31, Tryz.ntmps31
     go_wp2_with fail
     go_ret
     exact ⟨rfl, HA.out _⟩
  · have hrr := tx_num hR hr
    subst hrr
    intro A B c c' w hJ
    show Calls Tryz.prog 31 #[.agg #[.int .i64 2, .bool false, .bool d, .string (ofL D), .int .i64 e, .string ⟨#[]⟩, .slice A 0 c, .slice B 0 c']] w _
    have HA := hi_ (fun o => below_alloc (Below.refl w.heap.size w) o)
    have hb := right_bd hR
    obtain ⟨k, hk⟩ := (rtext_ev d D e (by omega) (by omega)).rounds
    have HC := hi_ (fun W => Pr.R4Text.calls k d (ofL D) e _ W hk)
    clear hJ hr hb hk
    obtain ⟨D', hD'⟩ : ∃ D', ofL D = D' := ⟨_, rfl⟩
    obtain ⟨TX, hTX⟩ : ∃ TX, NumP.text (d, D, e) = TX := ⟨_, rfl⟩
    rw [hD', hTX] at HC
    rw [hD', hTX]
    clear hD' hTX
    go_enter Tryz.func31, Tryz.ntmps31
    go_wp2_with fail
    refine (HC.out _).mono ?_
    rintro E w1 ⟨rfl, hB⟩
    have HB1 := hi_ ((HA.out _).trans (hB.mono (HA.out _).size))
    go_wp2_with fail
    go_ret
    exact ⟨rfl, HB1.out⟩
  · have hl : l.length ≤ 1000000 := by
      have h2 : txF (n + 1) ⟨3, false, z24, ofL l, [], []⟩ = if l.length ≤ 1000000 then some (quoteL l) else none := rfl
      rw [h2] at hr
      split at hr
      · assumption
      · cases hr
    have hrr := tx_str hr
    subst hrr
    intro A B c c' w hJ
    show Calls Tryz.prog 31 #[.agg #[.int .i64 3, .bool false, .bool false, .string ⟨#[]⟩, .int .i64 0, .string (ofL l), .slice A 0 c, .slice B 0 c']] w _
    have HA := hi_ (fun o => below_alloc (Below.refl w.heap.size w) o)
    have HC := hi_ (quote15 l hl)
    clear hJ hr hU hl
    obtain ⟨D', hD'⟩ : ∃ D', ofL l = D' := ⟨_, rfl⟩
    rw [hD'] at HC ⊢
    clear hD'
    go_enter Tryz.func31, Tryz.ntmps31
    go_wp2_with fail
    refine (HC.out _).mono ?_
    rintro E w1 ⟨rfl, hB⟩
    have HB1 := hi_ ((HA.out _).trans (hB.mono (HA.out _).size))
    go_wp2_with fail
    go_ret
    exact ⟨rfl, HB1.out⟩
  · rw [txF_4, Option.bind_eq_some_iff] at hr
    obtain ⟨l, hit, hw⟩ := hr
    have hrr := wrap_some hw
    subst hrr
    unfold wrapF at hw
    split at hw
    case isFalse => cases hw
    next hl =>
    exact arr_text15 xs l (items_len hit) hl.1 hl.2 (fun i hi => rtext15 n _ _ (hW _ (by rw [List.getD_eq_getElem?_getD, List.getElem?_eq_getElem hi]; exact List.getElem_mem hi)) (items_at hit i hi))
  rw [txF_5, Option.bind_eq_some_iff] at hr
  obtain ⟨l, hit, hw⟩ := hr
  have hrr := wrap_some hw
  subst hrr
  unfold wrapF at hw
  split at hw
  case isFalse => cases hw
  next hl =>
  refine obj_text15 xs ns hxn l (pairs_len hit) hl.1 hl.2 (fun i hi => ?_)
  obtain ⟨a, h1, h2, h3, h4, h5⟩ := pairs_at hit i hi
  exact ⟨a, rtext15 n _ _ (hW _ (by rw [List.getD_eq_getElem?_getD, List.getElem?_eq_getElem hi]; exact List.getElem_mem hi)) h1, h2, h4, h5⟩
theorem parse15R (s : List UInt8) (hs : s.length ≤ 600) (w : World) (x : S28) (e : Int) (h : pv s = (x, e)) :
    Calls Tryz.prog 17 #[.string (ofL s)] w fun E w' => ∃ A c B c', E = .returned (.tuple #[.agg #[.int .i64 x.f0, .bool x.f1, .bool x.f2.f0, .string x.f2.f1, .int .i64 x.f2.f2, .string x.f3, .slice A x.f4.length c, .slice B x.f5.length c'], .int .i64 e]) ∧
     JD w' x A x.f4.length c B x.f5.length c' ∧ True ∧ Below w.heap.size w w' := by
 refine (parse15 s hs w x e h).mono ?_
 rintro E w' ⟨A, n, c, B, m, c', rfl, hJ, hB⟩
 obtain rfl := hJ.ln
 obtain rfl := hJ.lm
 exact ⟨A, c, B, c', rfl, hJ, trivial, hB⟩
set_option maxRecDepth 100000 in
set_option maxHeartbeats 2000000 in
theorem parses_main (s : List UInt8) (hs : s.length ≤ 600) (w : World) (hT : JTabs w) :
    Calls Tryz.prog 9 #[.string (ofL s)] w fun e w' => e = .returned (.bool true) ∧ Below w.heap.size w w' := by
 have HT := hi_ hT
 have HS := hi_ hs
 have hs1 : ((ofL s).size : Int) ≤ 600 := by rw [ofL_size]; omega
 clear hT hs
 go_enter Tryz.func9, Tryz.ntmps9
 go_wp2_with fail
 refine (awake15_calls _ HT.out).mono ?_
 rintro E w1 ⟨rfl, hB⟩
 have HB1 := hi_ hB
 clear hB
 obtain ⟨X, hX⟩ : ∃ X, X = (pv s).1 := ⟨_, rfl⟩
 obtain ⟨e, he⟩ : ∃ e, e = (pv s).2 := ⟨_, rfl⟩
 have HPS : Hid (pv s = (X, e)) := hi_ (by rw [hX, he])
 obtain ⟨rX, hrX, -⟩ := pv_text s
 have HXX : Hid (txF 17 X = some rX) := hi_ (by rw [hX]; exact hrX)
 have HRX : Hid (RT X rX) := hi_ (rtext15 17 X rX (by rw [hX]; exact pv_Wv s) HXX.out)
 have hee : (e == e) = true := beq_self_eq_true e
 have hrr : ((ofL rX).toList == (ofL rX).toList) = true := beq_self_eq_true _
 clear hX he hrX
 go_wp2_with fail
 refine (jparseR s _ (HT.out.below HB1.out).t X e HPS.out).mono ?_
 rintro E w2 ⟨A1, c1, B1, d1, rfl, hJ, hR, hB⟩
 have HJ1 := hi_ hJ
 have HR1 := hi_ hR
 have HB2 := hi_ (HB1.out.trans (hB.mono HB1.out.size))
 clear hJ hR hB HB1
 go_wp2_with fail
 refine (parse15R s HS.out _ X e HPS.out).mono ?_
 rintro E w3 ⟨A2, c2, B2, d2, rfl, hJ, hR, hB⟩
 have HK1 := hi_ (kept hB).1
 have HJ1 := hi_ (HJ1.out.below ((below_alloc (Below.refl _ _) _).trans (hB.mono (below_alloc (Below.refl _ _) _).size)))
 have HJ2 := hi_ hJ
 have HR2 := hi_ hR
 have HB3 := hi_ ((below_alloc HB2.out (.cells #[.int .i64 X.f0, .bool X.f1, .bool X.f2.f0, .string X.f2.f1, .int .i64 X.f2.f2, .string X.f3, .slice A1 X.f4.length c1, .slice B1 X.f5.length d1] 28)).trans (hB.mono (below_alloc HB2.out (.cells #[.int .i64 X.f0, .bool X.f1, .bool X.f2.f0, .string X.f2.f1, .int .i64 X.f2.f2, .string X.f3, .slice A1 X.f4.length c1, .slice B1 X.f5.length d1] 28)).size))
 clear hJ hR hB HB2
 go_upto_region 8 with fail
 have hal := below_alloc (Below.refl w3.heap.size w3) (.cells #[.int .i64 X.f0, .bool X.f1, .bool X.f2.f0, .string X.f2.f1, .int .i64 X.f2.f2, .string X.f3, .slice A2 X.f4.length c2, .slice B2 X.f5.length d2] 35)
 have HK1 := hi_ (blk_alloc HK1.out (.cells #[.int .i64 X.f0, .bool X.f1, .bool X.f2.f0, .string X.f2.f1, .int .i64 X.f2.f2, .string X.f3, .slice A2 X.f4.length c2, .slice B2 X.f5.length d2] 35))
 have HK2 := hi_ (blk_new w3 (.cells #[.int .i64 X.f0, .bool X.f1, .bool X.f2.f0, .string X.f2.f1, .int .i64 X.f2.f2, .string X.f3, .slice A2 X.f4.length c2, .slice B2 X.f5.length d2] 35))
 have HJ1 := hi_ (HJ1.out.below hal)
 have HJ2 := hi_ (HJ2.out.below hal)
 have HB4 := hi_ (below_alloc HB3.out (.cells #[.int .i64 X.f0, .bool X.f1, .bool X.f2.f0, .string X.f2.f1, .int .i64 X.f2.f2, .string X.f3, .slice A2 X.f4.length c2, .slice B2 X.f5.length d2] 35))
 obtain ⟨w4, hw⟩ : ∃ w', w' = w3.alloc (.cells #[.int .i64 X.f0, .bool X.f1, .bool X.f2.f0, .string X.f2.f1, .int .i64 X.f2.f2, .string X.f3, .slice A2 X.f4.length c2, .slice B2 X.f5.length d2] 35) := ⟨_, rfl⟩
 rw [← hw] at HK1 HJ1 HK2 HJ2 HB4 ⊢
 clear hal hw HB3
 have hbd := below_drew1 (Below.refl w4.heap.size w4)
 have hb1 := blk_drew HK1.out
 have hb2 := blk_drew HK2.out
 have hst : (fun w' : World => w'.heap[w2.heap.size]? = some (.cells #[.int .i64 X.f0, .bool X.f1, .bool X.f2.f0, .string X.f2.f1, .int .i64 X.f2.f2, .string X.f3, .slice A1 X.f4.length c1, .slice B1 X.f5.length d1] 28 (0, 0)) ∧ w'.heap[w3.heap.size]? = some (.cells #[.int .i64 X.f0, .bool X.f1, .bool X.f2.f0, .string X.f2.f1, .int .i64 X.f2.f2, .string X.f3, .slice A2 X.f4.length c2, .slice B2 X.f5.length d2] 35 (0, 0))) w4.drew := ⟨hb1, hb2⟩
 refine start_ (n := 11) (S := fun w' => w'.heap[w2.heap.size]? = some (.cells #[.int .i64 X.f0, .bool X.f1, .bool X.f2.f0, .string X.f2.f1, .int .i64 X.f2.f2, .string X.f3, .slice A1 X.f4.length c1, .slice B1 X.f5.length d1] 28 (0, 0)) ∧ w'.heap[w3.heap.size]? = some (.cells #[.int .i64 X.f0, .bool X.f1, .bool X.f2.f0, .string X.f2.f1, .int .i64 X.f2.f2, .string X.f3, .slice A2 X.f4.length c2, .slice B2 X.f5.length d2] 35 (0, 0))) (ds := []) #[false, false, false, false, false, false, false, false, false, false, false] (by kernel_rfl) rfl rfl hst (fun hHeld => ?_)
 generalize w4.drew = wd at hbd hst hHeld hb1 hb2 ⊢
 have HSB : Hid (∀ w', Below wd.heap.size wd w' → w'.heap[w2.heap.size]? = some (.cells #[.int .i64 X.f0, .bool X.f1, .bool X.f2.f0, .string X.f2.f1, .int .i64 X.f2.f2, .string X.f3, .slice A1 X.f4.length c1, .slice B1 X.f5.length d1] 28 (0, 0)) ∧ w'.heap[w3.heap.size]? = some (.cells #[.int .i64 X.f0, .bool X.f1, .bool X.f2.f0, .string X.f2.f1, .int .i64 X.f2.f2, .string X.f3, .slice A2 X.f4.length c2, .slice B2 X.f5.length d2] 35 (0, 0))) := hi_ (fun w' hb => ⟨thru hb1 hb, thru hb2 hb⟩)
 have HBX : Hid (∀ w', Below wd.heap.size wd w' → Below w.heap.size w w') := hi_ (fun w' hb => HB4.out.trans ((hbd.trans (hb.mono hbd.size)).mono HB4.out.size))
 have HJd1 := hi_ (HJ1.out.below hbd)
 have HJd2 := hi_ (HJ2.out.below hbd)
 have HV0 := hi_ (Below.refl wd.heap.size wd)
 clear hbd hst hb1 hb2
 refine pure_ (i := 0) (N := some 24) (v := ?_) (a' := ?_) #[true, false, false, false, false, false, false, false, false, false, false] rfl rfl (by kernel_rfl) (fun _ _ _ h => h) (Or.inl ⟨by rfl, ?_⟩) ?_ ?_
 rotate_left
 · intro w'
   go_simp
   with_reducible rfl
 rotate_left
 · simp only [Act.put, List.setIfInBounds_toArray, List.set_cons_zero, List.set_cons_succ, i64_w, i32_w]
   rfl
 refine pure_ (i := 1) (N := some 25) (v := ?_) (a' := ?_) #[true, true, false, false, false, false, false, false, false, false, false] rfl rfl (by kernel_rfl) (fun _ _ _ h => h) (Or.inl ⟨by rfl, ?_⟩) ?_ ?_
 rotate_left
 · intro w'
   go_simp
   with_reducible rfl
 rotate_left
 · simp only [Act.put, List.setIfInBounds_toArray, List.set_cons_zero, List.set_cons_succ, i64_w, i32_w]
   rfl
 refine pure_ (i := 2) (N := some 26) (v := ?_) (a' := ?_) #[true, true, true, false, false, false, false, false, false, false, false] rfl rfl (by kernel_rfl) (fun _ _ _ h => h) (Or.inl ⟨by rfl, ?_⟩) ?_ ?_
 rotate_left
 · intro w'
   go_simp
   with_reducible rfl
 rotate_left
 · simp only [Act.put, List.setIfInBounds_toArray, List.set_cons_zero, List.set_cons_succ, i64_w, i32_w]
   rfl
 refine pure_ (i := 3) (N := some 27) (v := ?_) (a' := ?_) #[true, true, true, true, false, false, false, false, false, false, false] rfl rfl (by kernel_rfl) (fun _ _ _ h => h) (Or.inl ⟨by rfl, ?_⟩) ?_ ?_
 rotate_left
 · intro w'
   go_simp
   with_reducible rfl
 rotate_left
 · simp only [Act.put, List.setIfInBounds_toArray, List.set_cons_zero, List.set_cons_succ, i64_w, i32_w]
   rfl
 refine take_ (i := 4) (N := some 28) (v := ?_) (a' := ?_) #[true, true, true, true, true, false, false, false, false, false, false] rfl rfl (by kernel_rfl) (fun _ _ _ h => h) (Or.inl ⟨by rfl, ?_⟩) hHeld ?_ ?_
 rotate_left
 · rintro w' ⟨s0, s1⟩
   obtain ⟨q0, q1, q2, q3, q4, q5, q6, q7⟩ := eight s0
   clear s0 s1
   go_simp
   with_reducible rfl
 rotate_left
 · simp only [Act.put, List.setIfInBounds_toArray, List.set_cons_zero, List.set_cons_succ, i64_w, i32_w]
   rfl
 refine take_ (i := 6) (N := some 30) (v := ?_) (a' := ?_) #[true, true, true, true, true, false, true, false, false, false, false] rfl rfl (by kernel_rfl) (fun _ _ _ h => h) (Or.inl ⟨by rfl, ?_⟩) hHeld ?_ ?_
 rotate_left
 · rintro w' ⟨s0, s1⟩
   obtain ⟨q0, q1, q2, q3, q4, q5, q6, q7⟩ := eight s1
   clear s0 s1
   go_simp
   with_reducible rfl
 rotate_left
 · simp only [Act.put, List.setIfInBounds_toArray, List.set_cons_zero, List.set_cons_succ, i64_w, i32_w]
   rfl
 refine one_ (i := 5) (N := some 29) #[true, true, true, true, true, true, true, false, false, false, false] rfl rfl (by kernel_rfl) (by decide) (fun K hK => ?_)
 refine call_ 30 #[.agg #[.int .i64 X.f0, .bool X.f1, .bool X.f2.f0, .string X.f2.f1, .int .i64 X.f2.f2, .string X.f3, .slice A1 X.f4.length c1, .slice B1 X.f5.length d1]] (by rfl) rfl ?_ ?_
 · go_simp
 refine (jtext_calls 17 X rX HXX.out A1 B1 c1 d1 wd (HT.out.below (HBX.out _ HV0.out)).p (HJd1.out.below HV0.out)).mono ?_
 rintro E v1 ⟨rfl, hB⟩
 have HV1 := hi_ (HV0.out.trans (hB.mono HV0.out.size))
 refine ⟨_, rfl, hK.out _ _ (HSB.out _ HV1.out) (fun hHeld => ?_)⟩
 clear hK K hB
 refine norm_ (a' := ?_) ?_ ?_
 rotate_left
 · show Act.put _ (some 29) _ = _
   simp only [Act.put, List.setIfInBounds_toArray, List.set_cons_zero, List.set_cons_succ, i64_w, i32_w]
   rfl
 refine one_ (i := 7) (N := some 31) #[true, true, true, true, true, true, true, true, false, false, false] rfl rfl (by kernel_rfl) (by decide) (fun K hK => ?_)
 refine call_ 31 #[.agg #[.int .i64 X.f0, .bool X.f1, .bool X.f2.f0, .string X.f2.f1, .int .i64 X.f2.f2, .string X.f3, .slice A2 X.f4.length c2, .slice B2 X.f5.length d2]] (by rfl) rfl ?_ ?_
 · go_simp
 refine (HRX.out A2 B2 c2 d2 v1 (HJd2.out.below HV1.out)).mono ?_
 rintro E v2 ⟨rfl, hB⟩
 have HV2 := hi_ (HV1.out.trans (hB.mono HV1.out.size))
 refine ⟨_, rfl, hK.out _ _ (HSB.out _ HV2.out) (fun hHeld => ?_)⟩
 clear hK K hB
 refine norm_ (a' := ?_) ?_ ?_
 rotate_left
 · show Act.put _ (some 31) _ = _
   simp only [Act.put, List.setIfInBounds_toArray, List.set_cons_zero, List.set_cons_succ, i64_w, i32_w]
   rfl
 refine pure_ (i := 8) (N := some 32) (v := ?_) (a' := ?_) #[true, true, true, true, true, true, true, true, true, false, false] rfl rfl (by kernel_rfl) (fun _ _ _ h => h) (Or.inl ⟨by rfl, ?_⟩) ?_ ?_
 rotate_left
 · intro w'
   go_simp
   with_reducible rfl
 rotate_left
 · simp only [Act.put, List.setIfInBounds_toArray, List.set_cons_zero, List.set_cons_succ, i64_w, i32_w]
   rfl
 refine pure_ (i := 9) (N := some 33) (v := ?_) (a' := ?_) #[true, true, true, true, true, true, true, true, true, true, false] rfl rfl (by kernel_rfl) (fun _ _ _ h => h) (Or.inl ⟨by rfl, ?_⟩) ?_ ?_
 rotate_left
 · intro w'
   go_simp
   with_reducible rfl
 rotate_left
 · simp only [Act.put, List.setIfInBounds_toArray, List.set_cons_zero, List.set_cons_succ, i64_w, i32_w]
   rfl
 refine pure_ (i := 10) (N := some 2) (v := ?_) (a' := ?_) #[true, true, true, true, true, true, true, true, true, true, true] rfl rfl (by kernel_rfl) (fun _ _ _ h => h) (Or.inl ⟨by rfl, ?_⟩) ?_ ?_
 rotate_left
 · intro w'
   go_simp
   with_reducible rfl
 rotate_left
 · simp only [Act.put, List.setIfInBounds_toArray, List.set_cons_zero, List.set_cons_succ, i64_w, i32_w]
   rfl
 refine done_ (by kernel_rfl) ?_
 have HK1 := hi_ ((HSB.out _ HV2.out).1)
 have HJ1 := hi_ (HJd1.out.below HV2.out)
 have HK2 := hi_ ((HSB.out _ HV2.out).2)
 have HJ2 := hi_ (HJd2.out.below HV2.out)
 have HB5 := hi_ (HBX.out _ HV2.out)
 clear HV0 HV1 HV2 HBX HSB HJd1 HJd2
 obtain ⟨w5, hw⟩ : ∃ w', w' = v2 := ⟨_, rfl⟩
 rw [← hw] at HK1 HJ1 HK2 HJ2 HB5 ⊢
 clear hw
 go_wp2_with fail
 go_ret
 exact ⟨rfl, HB5.out⟩
set_option maxRecDepth 100000 in
theorem parses_long (s : List UInt8) (h : 600 < s.length) (w : World) (hT : JTabs w) :
    Calls Tryz.prog 9 #[.string (ofL s)] w fun e w' => e = .returned (.bool true) ∧ Below w.heap.size w w' := by
 have HT := hi_ hT
 have HSs : Hid ((ofL s).size = s.length) := hi_ (ofL_size s)
 clear hT
 have hi0 : (600 : Int) < ((ofL s).size : Int) := by rw [HSs.out]; omega
 clear h
 go_enter Tryz.func9, Tryz.ntmps9
 go_wp2_with fail
 refine (awake15_calls _ HT.out).mono ?_
 rintro E w1 ⟨rfl, hB⟩
 go_wp2_with fail
 go_ret
 exact ⟨rfl, hB⟩
theorem JsonParses_calls (s : ByteArray) (w : World) (hT : JTabs w) :
    Calls Tryz.prog 9 #[.string s] w fun e w' => e = .returned (.bool true) ∧ Below w.heap.size w w' := by
 have es : ofL s.data.toList = s := ofL_of s
 by_cases hh : 600 < s.data.toList.length
 · have := parses_long s.data.toList hh w hT
   rwa [es] at this
 · have := parses_main s.data.toList (by omega) w hT
   rwa [es] at this
end Js
end Go.Proofs.YtapcpndplnkfjaaGreatDoor
