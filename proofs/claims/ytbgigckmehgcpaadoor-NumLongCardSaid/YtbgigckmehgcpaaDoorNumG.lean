/- The reference's grammar, told by the lists' one. -/
import Derived.Test.YtbgigckmehgcpaaDoorPrx5
import Derived.Test.YtbgigckmehgcpaaDoorExtD
namespace Go.Proofs.YtbgigckmehgcpaaDoor
open Go.RowKit Go.Proofs.YtbgigckmehgcpaaDoorW.PrintWords Pr
def dH (r : List UInt8) : Bool := match r with | [] => false | c :: _ => NumP.isD c
theorem at_drop (s : List UInt8) (i : Nat) (h : i < s.length) : s.drop i = s[i] :: s.drop (i + 1) := List.drop_eq_getElem_cons h
theorem hd_is (s : List UInt8) (i : Nat) (c : UInt8) (h : i < s.length) : (bt (ofL s) (i : Int) == (c.toNat : Int)) = ((s.drop i).head? == some c) := by
  rw [bt_ofL s i h, at_drop s i h, Bool.eq_iff_iff]
  simp only [beq_iff_eq, List.head?_cons, Option.some.injEq]
  exact head_byte _ _
theorem hd_iff (s : List UInt8) (i : Nat) (c : UInt8) (h : i < s.length) : bt (ofL s) (i : Int) = (c.toNat : Int) ↔ (s.drop i).head? = some c := by
  have := hd_is s i c h
  rw [Bool.eq_iff_iff] at this
  simpa using this
theorem dig_f (s : List UInt8) (i : Nat) : rubricatorref14_digit.f (ofL s) (i : Int) = some (dH (s.drop i)) := by
  unfold rubricatorref14_digit.f
  rw [ofL_size]
  by_cases h : i < s.length
  · rw [if_pos (by omega), if_pos (by omega), bt_ofL s i h, at_drop s i h]
    unfold dH NumP.isD
    by_cases h2 : ((s[i].toNat : Int)) ≥ 48
    · rw [if_pos h2]; congr 1; rw [decide_eq_decide]; omega
    · rw [if_neg h2]; congr 1; symm; rw [decide_eq_false_iff_not]; omega
  · rw [if_neg (by omega), List.drop_of_length_le (by omega)]; rfl
theorem w1 (i n : Nat) (h : i ≤ n) (hn : n ≤ 1000000000000000000) : wrap64 ((i : Int) + 1) = ((i + 1 : Nat) : Int) := by unfold wrap64; omega
theorem tw_step (r : List UInt8) : dH r = false → r.takeWhile NumP.isD = [] ∧ r.dropWhile NumP.isD = r := by
  cases r with
  | nil => simp
  | cons c t => intro h; have h : NumP.isD c = false := h; simp [h]
theorem tw_next (s : List UInt8) (i : Nat) (h : dH (s.drop i) = true) : i < s.length ∧ (s.drop i).takeWhile NumP.isD = (s.drop i).head?.toList ++ (s.drop (i + 1)).takeWhile NumP.isD ∧ ((s.drop i).takeWhile NumP.isD).length = ((s.drop (i + 1)).takeWhile NumP.isD).length + 1 := by
  by_cases hl : i < s.length
  · rw [at_drop s i hl] at h ⊢
    have h' : NumP.isD s[i] = true := h
    refine ⟨hl, ?_, ?_⟩ <;> simp only [List.takeWhile_cons, h', if_true, List.head?_cons, Option.toList, List.length_cons, List.singleton_append]
  · rw [List.drop_of_length_le (by omega)] at h; exact absurd h (by simp [dH])
theorem l0_ev (s : List UInt8) (hs : s.length ≤ 1000000000000000000) (R : Bool × Int × Int) (n : Nat) : ∀ i, i ≤ s.length → ((s.drop i).takeWhile NumP.isD).length = n →
    Ev (fun k => rubricatorref14_Grammar.j4 k (ofL s) ((i + n : Nat) : Int) ((i + n : Nat) : Int) ((s.drop (i + n)).head? == some 46)) R → Ev (fun k => rubricatorref14_Grammar.l0 k (ofL s) (i : Int)) R := by
  induction n with
  | zero =>
    intro i hi hn he
    have hd : dH (s.drop i) = false := by
      cases h : dH (s.drop i) with
      | false => rfl
      | true => have := (tw_next s i h).2.2; omega
    refine Ev.step (f := fun k => rubricatorref14_Grammar.j4 k (ofL s) (i : Int) (i : Int) ((s.drop i).head? == some 46)) (fun k => ?_) he
    simp only [rubricatorref14_Grammar.l0]
    rw [dig_f, hd]
    simp only [Option.bind_some, Bool.false_eq_true, if_false, ofL_size]
    by_cases hl : i < s.length
    · rw [if_pos (by omega), if_pos (by omega)]
      rw [show (46 : Int) = ((46 : UInt8).toNat : Int) from rfl, hd_is s i 46 hl]
    · rw [if_neg (by omega), List.drop_of_length_le (by omega)]; rfl
  | succ n ih =>
    intro i hi hn he
    have hd : dH (s.drop i) = true := by
      cases h : dH (s.drop i) with
      | true => rfl
      | false => have := (tw_step _ h).1; rw [this] at hn; simp at hn
    obtain ⟨hl, -, h2⟩ := tw_next s i hd
    refine Ev.step (f := fun k => rubricatorref14_Grammar.l0 k (ofL s) ((i + 1 : Nat) : Int)) (fun k => ?_) (ih (i + 1) (by omega) (by omega) ?_)
    · simp only [rubricatorref14_Grammar.l0]
      rw [dig_f, hd]
      simp only [Option.bind_some, if_true]
      rw [w1 i s.length hi hs]
    · rw [show i + 1 + n = i + (n + 1) by omega]; exact he
theorem l1_ev (s : List UInt8) (hs : s.length ≤ 1000000000000000000) (p : Int) (R : Bool × Int × Int) (n : Nat) : ∀ i, i ≤ s.length → ((s.drop i).takeWhile NumP.isD).length = n →
    Ev (fun k => rubricatorref14_Grammar.j6 k (ofL s) ((i + n : Nat) : Int) p) R → Ev (fun k => rubricatorref14_Grammar.l1 k (ofL s) (i : Int) p) R := by
  induction n with
  | zero =>
    intro i hi hn he
    have hd : dH (s.drop i) = false := by
      cases h : dH (s.drop i) with
      | false => rfl
      | true => have := (tw_next s i h).2.2; omega
    refine Ev.step (f := fun k => rubricatorref14_Grammar.j6 k (ofL s) (i : Int) p) (fun k => ?_) he
    simp only [rubricatorref14_Grammar.l1]
    rw [dig_f, hd]
    simp only [Option.bind_some, Bool.false_eq_true, if_false]
  | succ n ih =>
    intro i hi hn he
    have hd : dH (s.drop i) = true := by
      cases h : dH (s.drop i) with
      | true => rfl
      | false => have := (tw_step _ h).1; rw [this] at hn; simp at hn
    obtain ⟨hl, -, h2⟩ := tw_next s i hd
    refine Ev.step (f := fun k => rubricatorref14_Grammar.l1 k (ofL s) ((i + 1 : Nat) : Int) p) (fun k => ?_) (ih (i + 1) (by omega) (by omega) ?_)
    · simp only [rubricatorref14_Grammar.l1]
      rw [dig_f, hd]
      simp only [Option.bind_some, if_true]
      rw [w1 i s.length hi hs]
    · rw [show i + 1 + n = i + (n + 1) by omega]; exact he
theorem l2_ev (s : List UInt8) (hs : s.length ≤ 1000000000000000000) (p q : Int) (n : Nat) : ∀ i, i ≤ s.length → ((s.drop i).takeWhile NumP.isD).length = n →
    Ev (fun k => rubricatorref14_Grammar.l2 k (ofL s) (i : Int) p q) (((s.drop (i + n)).isEmpty, p, q)) := by
  induction n with
  | zero =>
    intro i hi hn
    have hd : dH (s.drop i) = false := by
      cases h : dH (s.drop i) with
      | false => rfl
      | true => have := (tw_next s i h).2.2; omega
    refine Ev.step (f := fun k => some ((s.drop i).isEmpty, p, q)) (fun k => ?_) (Ev.now _)
    simp only [rubricatorref14_Grammar.l2]
    rw [dig_f, hd]
    simp only [Option.bind_some, Bool.false_eq_true, if_false, ofL_size]
    congr 2
    rw [Bool.eq_iff_iff]; simp; omega
  | succ n ih =>
    intro i hi hn
    have hd : dH (s.drop i) = true := by
      cases h : dH (s.drop i) with
      | true => rfl
      | false => have := (tw_step _ h).1; rw [this] at hn; simp at hn
    obtain ⟨hl, -, h2⟩ := tw_next s i hd
    refine Ev.step (f := fun k => rubricatorref14_Grammar.l2 k (ofL s) ((i + 1 : Nat) : Int) p q) (fun k => ?_) ?_
    · simp only [rubricatorref14_Grammar.l2]
      rw [dig_f, hd]
      simp only [Option.bind_some, if_true]
      rw [w1 i s.length hi hs]
    · rw [show i + (n + 1) = i + 1 + n by omega]; exact ih (i + 1) (by omega) (by omega)

theorem drop_tw : ∀ r : List UInt8, r.drop (r.takeWhile NumP.isD).length = r.dropWhile NumP.isD
  | [] => rfl
  | c :: t => by
    by_cases h : NumP.isD c = true
    · simp [h, drop_tw t]
    · simp [h]
/-- from the exponent's place on: r = s.drop i is what is left -/
theorem j6_ev (s : List UInt8) (hs : s.length ≤ 1000000000000000000) (p : Int) (i : Nat) (hi : i ≤ s.length) :
    ∃ R, Ev (fun k => rubricatorref14_Grammar.j6 k (ofL s) (i : Int) p) R ∧ R.1 = (!NumP.expB (s.drop i) && (NumP.expR (s.drop i)).isEmpty) ∧ (R.1 = true → R = (true, p, (i : Int))) := by
  have h101 : (101 : Int) = ((101 : UInt8).toNat : Int) := rfl
  have h69 : (69 : Int) = ((69 : UInt8).toNat : Int) := rfl
  have h43 : (43 : Int) = ((43 : UInt8).toNat : Int) := rfl
  have h45 : (45 : Int) = ((45 : UInt8).toNat : Int) := rfl
  have s6 : ∀ k, rubricatorref14_Grammar.j6 (k + 1) (ofL s) (i : Int) p = rubricatorref14_Grammar.j7 k (ofL s) (i : Int) p (i : Int) (NumP.isE (s.drop i)) := fun k => by
    simp only [rubricatorref14_Grammar.j6, ofL_size]
    by_cases hl : i < s.length
    · rw [if_pos (by omega), if_pos (by omega)]
      unfold NumP.isE
      rw [h69, hd_is s i 69 hl]
      by_cases he : (s.drop i).head? = some 101
      · rw [if_pos (by rw [h101]; exact (hd_iff s i 101 hl).2 he), he]; rfl
      · rw [if_neg (by rw [h101]; exact fun z => he ((hd_iff s i 101 hl).1 z))]
        have : ((s.drop i).head? == some 101) = false := by simpa using he
        rw [this, Bool.false_or]
    · rw [if_neg (by omega), List.drop_of_length_le (by omega)]; rfl
  cases hE : NumP.isE (s.drop i) with
  | false =>
    refine ⟨((i : Int) == (s.length : Int), p, (i : Int)), Ev.step s6 (Ev.step (f := fun k => some ((i : Int) == (s.length : Int), p, (i : Int))) (fun k => ?_) (Ev.now _)), ?_, ?_⟩
    · rw [hE]; simp only [rubricatorref14_Grammar.j7, ofL_size]; rfl
    · simp only [NumP.expB, NumP.expR, hE]
      rw [Bool.eq_iff_iff]; simp; omega
    · intro h; simp only at h; rw [h]
  | true =>
    have hl : i < s.length := by
      by_cases h : i < s.length
      · exact h
      · rw [List.drop_of_length_le (by omega)] at hE; simp [NumP.isE] at hE
    have ht : (s.drop i).tail = s.drop (i + 1) := by rw [at_drop s i hl]; rfl
    have hw1 := w1 i s.length hi hs
    have s7 : ∀ k, rubricatorref14_Grammar.j7 (k + 1) (ofL s) (i : Int) p (i : Int) true = rubricatorref14_Grammar.j8 k (ofL s) ((i + 1 : Nat) : Int) p (i : Int) (NumP.isS (s.drop (i + 1))) := fun k => by
      simp only [rubricatorref14_Grammar.j7, ofL_size, hw1]
      by_cases hl2 : i + 1 < s.length
      · rw [if_pos trivial, if_pos (by omega), if_pos (by omega)]
        unfold NumP.isS
        rw [h45, hd_is s (i + 1) 45 hl2]
        by_cases he : (s.drop (i + 1)).head? = some 43
        · rw [if_pos (by rw [h43]; exact (hd_iff s (i + 1) 43 hl2).2 he), he]; rfl
        · rw [if_neg (by rw [h43]; exact fun z => he ((hd_iff s (i + 1) 43 hl2).1 z))]
          have : ((s.drop (i + 1)).head? == some 43) = false := by simpa using he
          rw [this, Bool.false_or]
      · rw [if_pos trivial, if_neg (by omega), List.drop_of_length_le (by omega)]; rfl
    -- where the exponent's digits begin
    obtain ⟨j, hj, hjt, s8⟩ : ∃ j, j ≤ s.length ∧ s.drop j = NumP.expT (s.drop i) ∧ (∀ k, rubricatorref14_Grammar.j8 (k + 1) (ofL s) ((i + 1 : Nat) : Int) p (i : Int) (NumP.isS (s.drop (i + 1))) = rubricatorref14_Grammar.j9 k (ofL s) (j : Int) p (i : Int)) := by
      unfold NumP.expT
      rw [ht]
      cases hS : NumP.isS (s.drop (i + 1)) with
      | false => exact ⟨i + 1, by omega, by simp, fun k => by simp only [rubricatorref14_Grammar.j8]; rfl⟩
      | true =>
        have hl2 : i + 1 < s.length := by
          by_cases h : i + 1 < s.length
          · exact h
          · rw [List.drop_of_length_le (by omega)] at hS; simp [NumP.isS] at hS
        refine ⟨i + 2, by omega, ?_, fun k => ?_⟩
        · rw [at_drop s (i + 1) hl2]; rfl
        · simp only [rubricatorref14_Grammar.j8, if_true]
          rw [w1 (i + 1) s.length (by omega) hs]
    have hP : NumP.expP (s.drop i) = (s.drop j).takeWhile NumP.isD := by simp [NumP.expP, hE, hjt]
    have hR : NumP.expR (s.drop i) = (s.drop j).dropWhile NumP.isD := by simp [NumP.expR, hE, hjt]
    have hB : NumP.expB (s.drop i) = ((s.drop j).takeWhile NumP.isD).isEmpty := by simp [NumP.expB, hE, hP]
    cases hd : dH (s.drop j) with
    | false =>
      obtain ⟨e1, e2⟩ := tw_step _ hd
      refine ⟨(false, 0, 0), Ev.step s6 ?_, ?_, fun h => by cases h⟩
      · rw [hE]
        refine Ev.step s7 (Ev.step s8 (Ev.step (f := fun _ => some (false, 0, 0)) (fun k => ?_) (Ev.now _)))
        simp only [rubricatorref14_Grammar.j9]
        rw [dig_f, hd]; rfl
      · rw [hB, e1]; rfl
    | true =>
      have h2 := l2_ev s hs p (i : Int) _ j hj rfl
      refine ⟨((s.drop (j + ((s.drop j).takeWhile NumP.isD).length)).isEmpty, p, (i : Int)), Ev.step s6 ?_, ?_, fun h => ?_⟩
      · rw [hE]
        refine Ev.step s7 (Ev.step s8 (Ev.step (f := fun k => rubricatorref14_Grammar.l2 k (ofL s) (j : Int) p (i : Int)) (fun k => ?_) h2))
        simp only [rubricatorref14_Grammar.j9]
        rw [dig_f, hd]; rfl
      · obtain ⟨-, -, h3⟩ := tw_next s j hd
        have hne : ((s.drop j).takeWhile NumP.isD).isEmpty = false := by
          cases z : (s.drop j).takeWhile NumP.isD with
          | nil => rw [z] at h3; simp at h3
          | cons _ _ => rfl
        rw [hB, hne, hR]
        show (s.drop (j + ((s.drop j).takeWhile NumP.isD).length)).isEmpty = _
        rw [← List.drop_drop]
        rw [drop_tw]; rfl
      · simp only at h; rw [h]
/-- The reference's grammar: whether a text is a number's; where its point, and its exponent, begin. -/
theorem grammar_ev (s : List UInt8) (hs : s.length ≤ 1000000000000000000) :
    ∃ R, Ev (fun k => rubricatorref14_Grammar.f k (ofL s)) R ∧ R.1 = NumP.ok s ∧ (R.1 = true → R = (true, (((NumP.sgn (NumP.down s)).length + (NumP.whole s).length : Nat) : Int), (((NumP.sgn (NumP.down s)).length + (NumP.whole s).length + (NumP.dot (NumP.dotP (NumP.rest1 s))).length : Nat) : Int))) := by
  have h45 : (45 : Int) = ((45 : UInt8).toNat : Int) := rfl
  have h48 : (48 : Int) = ((48 : UInt8).toNat : Int) := rfl
  have e0 : ∀ k, rubricatorref14_Grammar.f k (ofL s) = rubricatorref14_Grammar.j0 k (ofL s) 0 (NumP.down s) := fun k => by
    unfold rubricatorref14_Grammar.f
    rw [ofL_size]
    cases s with
    | nil => rfl
    | cons c t =>
      rw [if_pos (by simp), h45]
      have := hd_is (c :: t) 0 45 (by simp)
      simp only [List.drop_zero] at this
      rw [show ((0 : Int)) = ((0 : Nat) : Int) from rfl, this]; rfl
  -- behind the sign
  have hsg : (NumP.sgn (NumP.down s)).length ≤ s.length ∧ s.drop (NumP.sgn (NumP.down s)).length = NumP.dropSign s := by
    cases s with
    | nil => simp [NumP.down, NumP.sgn, NumP.dropSign]
    | cons c t => by_cases e : c = 45 <;> simp [NumP.down, NumP.sgn, NumP.dropSign, e]
  have e1 : ∀ k, rubricatorref14_Grammar.j0 (k + 1) (ofL s) 0 (NumP.down s) = rubricatorref14_Grammar.j1 k (ofL s) (((NumP.sgn (NumP.down s)).length : Nat) : Int) := fun k => by
    simp only [rubricatorref14_Grammar.j0]
    cases NumP.down s with
    | true => rw [if_pos rfl, show wrap64 (0 + 1) = 1 by unfold wrap64; omega]; rfl
    | false => rw [if_neg (by simp)]; rfl
  obtain ⟨hi, hdr⟩ := hsg
  generalize (NumP.sgn (NumP.down s)).length = i at *
  have e2 : ∀ k, rubricatorref14_Grammar.j1 (k + 1) (ofL s) (i : Int) = rubricatorref14_Grammar.j2 k (ofL s) (i : Int) (NumP.wholeB (NumP.whole s)) := fun k => by
    simp only [rubricatorref14_Grammar.j1]
    rw [dig_f]
    simp only [Option.bind_some]
    unfold NumP.whole
    rw [← hdr]
    cases hd : dH (s.drop i) with
    | false =>
      rw [if_neg (by simp), (tw_step _ hd).1]; rfl
    | true =>
      obtain ⟨hl, ht, htl⟩ := tw_next s i hd
      rw [if_pos rfl, if_pos (by omega), ofL_size, if_pos (by omega)]
      have hne : ((s.drop i).takeWhile NumP.isD).isEmpty = false := by
        cases z : (s.drop i).takeWhile NumP.isD with
        | nil => rw [z] at htl; simp at htl
        | cons _ _ => rfl
      have hh : ((s.drop i).takeWhile NumP.isD).head? = (s.drop i).head? := by
        rw [ht, at_drop s i hl]; rfl
      unfold NumP.wholeB
      rw [hne, hh, Bool.false_or]
      by_cases e : (s.drop i).head? = some 48
      · rw [if_pos (by rw [h48]; exact (hd_iff s i 48 hl).2 e), w1 i s.length hi hs, dig_f]
        simp only [Option.bind_some]
        congr 1
        rw [e, htl]
        cases hd2 : dH (s.drop (i + 1)) with
        | false => rw [(tw_step _ hd2).1]; rfl
        | true =>
          have := (tw_next s (i + 1) hd2).2.2
          have : decide (1 < ((s.drop (i + 1)).takeWhile NumP.isD).length + 1) = true := by rw [decide_eq_true_eq]; omega
          rw [this]; rfl
      · rw [if_neg (by rw [h48]; exact fun z => e ((hd_iff s i 48 hl).1 z))]
        have : ((s.drop i).head? == some 48) = false := by simpa using e
        rw [this, Bool.and_false]
  cases hW : NumP.wholeB (NumP.whole s) with
  | true =>
    refine ⟨(false, 0, 0), Ev.congr e0 (Ev.step e1 (Ev.step e2 ?_)), ?_, fun h => by cases h⟩
    · rw [hW]; exact Ev.step (f := fun _ => some (false, 0, 0)) (fun k => by simp only [rubricatorref14_Grammar.j2]; rfl) (Ev.now _)
    · simp [NumP.ok, NumP.bad, hW]
  | false =>
    have hj : s.drop (i + (NumP.whole s).length) = NumP.rest1 s := by
      rw [← List.drop_drop, hdr]; exact drop_tw _
    have hjl : i + (NumP.whole s).length ≤ s.length := by
      have h1 := (List.takeWhile_prefix (l := s.drop i) NumP.isD).length_le
      rw [hdr] at h1
      have h2 : (NumP.dropSign s).length = s.length - i := by rw [← hdr, List.length_drop]
      have h3 : (NumP.whole s).length ≤ (NumP.dropSign s).length := h1
      omega
    have step : ∀ R, Ev (fun k => rubricatorref14_Grammar.j4 k (ofL s) ((i + (NumP.whole s).length : Nat) : Int) ((i + (NumP.whole s).length : Nat) : Int) ((NumP.rest1 s).head? == some 46)) R →
        Ev (fun k => rubricatorref14_Grammar.f k (ofL s)) R := fun R hR => by
      refine Ev.congr e0 (Ev.step e1 (Ev.step e2 ?_))
      rw [hW]
      refine Ev.step (f := fun k => rubricatorref14_Grammar.l0 k (ofL s) (i : Int)) (fun k => by simp only [rubricatorref14_Grammar.j2]; rfl) ?_
      refine l0_ev s hs R (NumP.whole s).length i hi (by rw [hdr]; rfl) ?_
      rw [hj]; exact hR
    generalize hm : i + (NumP.whole s).length = m at *
    cases hD : (NumP.rest1 s).head? == some 46 with
    | false =>
      have hd : (NumP.rest1 s).head? ≠ some 46 := by simpa using hD
      obtain ⟨R, hR, h1, h2⟩ := j6_ev s hs (m : Int) m hjl
      have q1 : NumP.rest2 s = NumP.rest1 s := by simp [NumP.rest2, NumP.dotR, hd]
      have q2 : NumP.dotP (NumP.rest1 s) = [] := by simp [NumP.dotP, hd]
      have q3 : NumP.dotB (NumP.rest1 s) = false := by simp [NumP.dotB, hd]
      refine ⟨R, step R ?_, ?_, fun h => ?_⟩
      · rw [hD]
        exact Ev.step (f := fun k => rubricatorref14_Grammar.j6 k (ofL s) (m : Int) (m : Int)) (fun k => by simp only [rubricatorref14_Grammar.j4]; rfl) hR
      · rw [h1, hj, NumP.ok, NumP.bad, hW, q3, NumP.rest3, q1]; rfl
      · rw [h2 h, q2]; rfl
    | true =>
      have hd : (NumP.rest1 s).head? = some 46 := by simpa using hD
      have hml : m < s.length := by
        by_cases h : m < s.length
        · exact h
        · rw [List.drop_of_length_le (by omega)] at hj; rw [← hj] at hd; simp at hd
      have ht : s.drop (m + 1) = (NumP.rest1 s).tail := by rw [← hj, at_drop s m hml]; rfl
      have q2 : NumP.dotP (NumP.rest1 s) = (s.drop (m + 1)).takeWhile NumP.isD := by simp [NumP.dotP, hd, ht]
      have q1 : NumP.rest2 s = (s.drop (m + 1)).dropWhile NumP.isD := by simp [NumP.rest2, NumP.dotR, hd, ht]
      have q3 : NumP.dotB (NumP.rest1 s) = ((s.drop (m + 1)).takeWhile NumP.isD).isEmpty := by simp [NumP.dotB, q2, hd]
      cases hd2 : dH (s.drop (m + 1)) with
      | false =>
        refine ⟨(false, 0, 0), step _ ?_, ?_, fun h => by cases h⟩
        · rw [hD]
          refine Ev.step (f := fun _ => some (false, 0, 0)) (fun k => ?_) (Ev.now _)
          simp only [rubricatorref14_Grammar.j4, if_true]
          rw [w1 m s.length (by omega) hs, dig_f, hd2]; rfl
        · rw [NumP.ok, NumP.bad, hW, q3, (tw_step _ hd2).1]; rfl
      | true =>
        obtain ⟨-, -, htl⟩ := tw_next s (m + 1) hd2
        have hne : ((s.drop (m + 1)).takeWhile NumP.isD).isEmpty = false := by
          cases z : (s.drop (m + 1)).takeWhile NumP.isD with
          | nil => rw [z] at htl; simp at htl
          | cons _ _ => rfl
        have hjl2 : m + 1 + ((s.drop (m + 1)).takeWhile NumP.isD).length ≤ s.length := by
          have h1 := (List.takeWhile_prefix (l := s.drop (m + 1)) NumP.isD).length_le
          rw [List.length_drop] at h1; omega
        obtain ⟨R, hR, h1, h2⟩ := j6_ev s hs (m : Int) (m + 1 + ((s.drop (m + 1)).takeWhile NumP.isD).length) hjl2
        have hdr2 : s.drop (m + 1 + ((s.drop (m + 1)).takeWhile NumP.isD).length) = NumP.rest2 s := by
          rw [← List.drop_drop, drop_tw, q1]
        refine ⟨R, step R ?_, ?_, fun h => ?_⟩
        · rw [hD]
          refine Ev.step (f := fun k => rubricatorref14_Grammar.l1 k (ofL s) ((m + 1 : Nat) : Int) (m : Int)) (fun k => ?_) (l1_ev s hs (m : Int) R _ (m + 1) (by omega) rfl hR)
          simp only [rubricatorref14_Grammar.j4, if_true]
          rw [w1 m s.length (by omega) hs, dig_f, hd2]; rfl
        · rw [h1, hdr2, NumP.ok, NumP.bad, hW, q3, hne, NumP.rest3]; rfl
        · rw [h2 h, q2, NumP.dot, hne]
          congr 3
          simp; omega
end Go.Proofs.YtbgigckmehgcpaaDoor
