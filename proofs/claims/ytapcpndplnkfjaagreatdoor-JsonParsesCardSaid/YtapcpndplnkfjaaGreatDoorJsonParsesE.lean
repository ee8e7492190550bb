/- What the law rests on, part 5: joined by a program of this session (claimx.py). -/
import Derived.Test.YtapcpndplnkfjaaGreatDoorJsonParsesD
set_option linter.unusedVariables false
set_option linter.unusedSimpArgs false
namespace Go.Proofs.YtapcpndplnkfjaaGreatDoor
open Go.RowKit Go.Proofs.YtapcpndplnkfjaaGreatDoorW.PrintWords Pr
def dH (r : List UInt8) : Bool := match r with | [] => false | c :: _ => NumP.isD c
theorem at_drop (s : List UInt8) (i : Nat) (h : i < s.length) : s.drop i = s[i] :: s.drop (i + 1) := List.drop_eq_getElem_cons h
theorem hd_is (s : List UInt8) (i : Nat) (c : UInt8) (h : i < s.length) : (bt (ofL s) (i : Int) == (c.toNat : Int)) = ((s.drop i).head? == some c) := by
 rw [bt_ofL s i h, at_drop s i h, Bool.eq_iff_iff]
 simp only [beq_iff_eq, List.head?_cons, Option.some.injEq]
 exact head_byte _ _
theorem hd_iff (s : List UInt8) (i : Nat) (c : UInt8) (h : i < s.length) : bt (ofL s) (i : Int) = (c.toNat : Int) ↔ (s.drop i).head? = some c := by
 have := hd_is s i c h
 rw [Bool.eq_iff_iff] at this
 simpa using this
theorem dig_f (s : List UInt8) (i : Nat) : R4digit.f (ofL s) (i : Int) = some (dH (s.drop i)) := by
 unfold R4digit.f
 rw [ofL_size]
 by_cases h : i < s.length
 · rw [if_pos (by omega), if_pos (by omega), bt_ofL s i h, at_drop s i h]
   unfold dH NumP.isD
   by_cases h2 : ((s[i].toNat : Int)) ≥ 48
   · rw [if_pos h2]; congr 1; rw [decide_eq_decide]; omega
   rw [if_neg h2]; congr 1; symm; rw [decide_eq_false_iff_not]; omega
 rw [if_neg (by omega), List.drop_of_length_le (by omega)]; rfl
theorem w1 (i n : Nat) (h : i ≤ n) (hn : n ≤ 1000000000000000000) : wrap64 ((i : Int) + 1) = ((i + 1 : Nat) : Int) := by unfold wrap64; omega
theorem tw_step (r : List UInt8) : dH r = false → r.takeWhile NumP.isD = [] ∧ r.dropWhile NumP.isD = r := by
 cases r with
 | nil => simp
 | cons c t => intro h; have h : NumP.isD c = false := h; simp [h]
theorem tw_next (s : List UInt8) (i : Nat) (h : dH (s.drop i) = true) : i < s.length ∧ (s.drop i).takeWhile NumP.isD = (s.drop i).head?.toList ++ (s.drop (i + 1)).takeWhile NumP.isD ∧ ((s.drop i).takeWhile NumP.isD).length = ((s.drop (i + 1)).takeWhile NumP.isD).length + 1 := by
 by_cases hl : i < s.length
 · rw [at_drop s i hl] at h ⊢
   have h' : NumP.isD s[i] = true := h
   refine ⟨hl, ?_, ?_⟩ <;> simp only [List.takeWhile_cons, h', if_true, List.head?_cons, Option.toList, List.length_cons, List.singleton_append]
 rw [List.drop_of_length_le (by omega)] at h; exact absurd h (by simp [dH])
theorem l0_ev (s : List UInt8) (hs : s.length ≤ 1000000000000000000) (R : Bool × Int × Int) (n : Nat) : ∀ i, i ≤ s.length → ((s.drop i).takeWhile NumP.isD).length = n →
    Ev (fun k => R4Grammar.j4 k (ofL s) ((i + n : Nat) : Int) ((i + n : Nat) : Int) ((s.drop (i + n)).head? == some 46)) R → Ev (fun k => R4Grammar.l0 k (ofL s) (i : Int)) R := by
 induction n with
 | zero =>
  intro i hi hn he
  have hd : dH (s.drop i) = false := by
   cases h : dH (s.drop i) with
   | false => rfl
   | true => have := (tw_next s i h).2.2; omega
  refine Ev.step (f := fun k => R4Grammar.j4 k (ofL s) (i : Int) (i : Int) ((s.drop i).head? == some 46)) (fun k => ?_) he
  simp only [R4Grammar.l0]
  rw [dig_f, hd]
  simp only [Option.bind_some, Bool.false_eq_true, if_false, ofL_size]
  by_cases hl : i < s.length
  · rw [if_pos (by omega), if_pos (by omega)]
    rw [show (46 : Int) = ((46 : UInt8).toNat : Int) from rfl, hd_is s i 46 hl]
  rw [if_neg (by omega), List.drop_of_length_le (by omega)]; rfl
 | succ n ih =>
  intro i hi hn he
  have hd : dH (s.drop i) = true := by
   cases h : dH (s.drop i) with
   | true => rfl
   | false => have := (tw_step _ h).1; rw [this] at hn; simp at hn
  obtain ⟨hl, -, h2⟩ := tw_next s i hd
  refine Ev.step (f := fun k => R4Grammar.l0 k (ofL s) ((i + 1 : Nat) : Int)) (fun k => ?_) (ih (i + 1) (by omega) (by omega) ?_)
  · simp only [R4Grammar.l0]
    rw [dig_f, hd]
    simp only [Option.bind_some, if_true]
    rw [w1 i s.length hi hs]
  rw [show i + 1 + n = i + (n + 1) by omega]; exact he
theorem l1_ev (s : List UInt8) (hs : s.length ≤ 1000000000000000000) (p : Int) (R : Bool × Int × Int) (n : Nat) : ∀ i, i ≤ s.length → ((s.drop i).takeWhile NumP.isD).length = n →
    Ev (fun k => R4Grammar.j6 k (ofL s) ((i + n : Nat) : Int) p) R → Ev (fun k => R4Grammar.l1 k (ofL s) (i : Int) p) R := by
 induction n with
 | zero =>
  intro i hi hn he
  have hd : dH (s.drop i) = false := by
   cases h : dH (s.drop i) with
   | false => rfl
   | true => have := (tw_next s i h).2.2; omega
  refine Ev.step (f := fun k => R4Grammar.j6 k (ofL s) (i : Int) p) (fun k => ?_) he
  simp only [R4Grammar.l1]
  rw [dig_f, hd]
  simp only [Option.bind_some, Bool.false_eq_true, if_false]
 | succ n ih =>
  intro i hi hn he
  have hd : dH (s.drop i) = true := by
   cases h : dH (s.drop i) with
   | true => rfl
   | false => have := (tw_step _ h).1; rw [this] at hn; simp at hn
  obtain ⟨hl, -, h2⟩ := tw_next s i hd
  refine Ev.step (f := fun k => R4Grammar.l1 k (ofL s) ((i + 1 : Nat) : Int) p) (fun k => ?_) (ih (i + 1) (by omega) (by omega) ?_)
  · simp only [R4Grammar.l1]
    rw [dig_f, hd]
    simp only [Option.bind_some, if_true]
    rw [w1 i s.length hi hs]
  rw [show i + 1 + n = i + (n + 1) by omega]; exact he
theorem l2_ev (s : List UInt8) (hs : s.length ≤ 1000000000000000000) (p q : Int) (n : Nat) : ∀ i, i ≤ s.length → ((s.drop i).takeWhile NumP.isD).length = n →
    Ev (fun k => R4Grammar.l2 k (ofL s) (i : Int) p q) (((s.drop (i + n)).isEmpty, p, q)) := by
 induction n with
 | zero =>
  intro i hi hn
  have hd : dH (s.drop i) = false := by
   cases h : dH (s.drop i) with
   | false => rfl
   | true => have := (tw_next s i h).2.2; omega
  refine Ev.step (f := fun k => some ((s.drop i).isEmpty, p, q)) (fun k => ?_) (Ev.now _)
  simp only [R4Grammar.l2]
  rw [dig_f, hd]
  simp only [Option.bind_some, Bool.false_eq_true, if_false, ofL_size]
  congr 2
  rw [Bool.eq_iff_iff]; simp; omega
 | succ n ih =>
  intro i hi hn
  have hd : dH (s.drop i) = true := by
   cases h : dH (s.drop i) with
   | true => rfl
   | false => have := (tw_step _ h).1; rw [this] at hn; simp at hn
  obtain ⟨hl, -, h2⟩ := tw_next s i hd
  refine Ev.step (f := fun k => R4Grammar.l2 k (ofL s) ((i + 1 : Nat) : Int) p q) (fun k => ?_) ?_
  · simp only [R4Grammar.l2]
    rw [dig_f, hd]
    simp only [Option.bind_some, if_true]
    rw [w1 i s.length hi hs]
  rw [show i + (n + 1) = i + 1 + n by omega]; exact ih (i + 1) (by omega) (by omega)
theorem drop_tw : ∀ r : List UInt8, r.drop (r.takeWhile NumP.isD).length = r.dropWhile NumP.isD
 | [] => rfl
 | c :: t => by
  by_cases h : NumP.isD c = true
  · simp [h, drop_tw t]
  simp [h]
theorem j6_ev (s : List UInt8) (hs : s.length ≤ 1000000000000000000) (p : Int) (i : Nat) (hi : i ≤ s.length) :
    ∃ R, Ev (fun k => R4Grammar.j6 k (ofL s) (i : Int) p) R ∧ R.1 = (!NumP.expB (s.drop i) && (NumP.expR (s.drop i)).isEmpty) ∧ (R.1 = true → R = (true, p, (i : Int))) := by
 have h101 : (101 : Int) = ((101 : UInt8).toNat : Int) := rfl
 have h69 : (69 : Int) = ((69 : UInt8).toNat : Int) := rfl
 have h43 : (43 : Int) = ((43 : UInt8).toNat : Int) := rfl
 have h45 : (45 : Int) = ((45 : UInt8).toNat : Int) := rfl
 have s6 : ∀ k, R4Grammar.j6 (k + 1) (ofL s) (i : Int) p = R4Grammar.j7 k (ofL s) (i : Int) p (i : Int) (NumP.isE (s.drop i)) := fun k => by
  simp only [R4Grammar.j6, ofL_size]
  by_cases hl : i < s.length
  · rw [if_pos (by omega), if_pos (by omega)]
    unfold NumP.isE
    rw [h69, hd_is s i 69 hl]
    by_cases he : (s.drop i).head? = some 101
    · rw [if_pos (by rw [h101]; exact (hd_iff s i 101 hl).2 he), he]; rfl
    rw [if_neg (by rw [h101]; exact fun z => he ((hd_iff s i 101 hl).1 z))]
    have : ((s.drop i).head? == some 101) = false := by simpa using he
    rw [this, Bool.false_or]
  rw [if_neg (by omega), List.drop_of_length_le (by omega)]; rfl
 cases hE : NumP.isE (s.drop i) with
 | false =>
  refine ⟨((i : Int) == (s.length : Int), p, (i : Int)), Ev.step s6 (Ev.step (f := fun k => some ((i : Int) == (s.length : Int), p, (i : Int))) (fun k => ?_) (Ev.now _)), ?_, ?_⟩
  · rw [hE]; simp only [R4Grammar.j7, ofL_size]; rfl
  · simp only [NumP.expB, NumP.expR, hE]
    rw [Bool.eq_iff_iff]; simp; omega
  intro h; simp only at h; rw [h]
 | true =>
  have hl : i < s.length := by
   by_cases h : i < s.length
   · exact h
   rw [List.drop_of_length_le (by omega)] at hE; simp [NumP.isE] at hE
  have ht : (s.drop i).tail = s.drop (i + 1) := by rw [at_drop s i hl]; rfl
  have hw1 := w1 i s.length hi hs
  have s7 : ∀ k, R4Grammar.j7 (k + 1) (ofL s) (i : Int) p (i : Int) true = R4Grammar.j8 k (ofL s) ((i + 1 : Nat) : Int) p (i : Int) (NumP.isS (s.drop (i + 1))) := fun k => by
   simp only [R4Grammar.j7, ofL_size, hw1]
   by_cases hl2 : i + 1 < s.length
   · rw [if_pos trivial, if_pos (by omega), if_pos (by omega)]
     unfold NumP.isS
     rw [h45, hd_is s (i + 1) 45 hl2]
     by_cases he : (s.drop (i + 1)).head? = some 43
     · rw [if_pos (by rw [h43]; exact (hd_iff s (i + 1) 43 hl2).2 he), he]; rfl
     rw [if_neg (by rw [h43]; exact fun z => he ((hd_iff s (i + 1) 43 hl2).1 z))]
     have : ((s.drop (i + 1)).head? == some 43) = false := by simpa using he
     rw [this, Bool.false_or]
   rw [if_pos trivial, if_neg (by omega), List.drop_of_length_le (by omega)]; rfl
  obtain ⟨j, hj, hjt, s8⟩ : ∃ j, j ≤ s.length ∧ s.drop j = NumP.expT (s.drop i) ∧ (∀ k, R4Grammar.j8 (k + 1) (ofL s) ((i + 1 : Nat) : Int) p (i : Int) (NumP.isS (s.drop (i + 1))) = R4Grammar.j9 k (ofL s) (j : Int) p (i : Int)) := by
   unfold NumP.expT
   rw [ht]
   cases hS : NumP.isS (s.drop (i + 1)) with
   | false => exact ⟨i + 1, by omega, by simp, fun k => by simp only [R4Grammar.j8]; rfl⟩
   | true =>
    have hl2 : i + 1 < s.length := by
     by_cases h : i + 1 < s.length
     · exact h
     rw [List.drop_of_length_le (by omega)] at hS; simp [NumP.isS] at hS
    refine ⟨i + 2, by omega, ?_, fun k => ?_⟩
    · rw [at_drop s (i + 1) hl2]; rfl
    simp only [R4Grammar.j8, if_true]
    rw [w1 (i + 1) s.length (by omega) hs]
  have hP : NumP.expP (s.drop i) = (s.drop j).takeWhile NumP.isD := by simp [NumP.expP, hE, hjt]
  have hR : NumP.expR (s.drop i) = (s.drop j).dropWhile NumP.isD := by simp [NumP.expR, hE, hjt]
  have hB : NumP.expB (s.drop i) = ((s.drop j).takeWhile NumP.isD).isEmpty := by simp [NumP.expB, hE, hP]
  cases hd : dH (s.drop j) with
  | false =>
   obtain ⟨e1, e2⟩ := tw_step _ hd
   refine ⟨(false, 0, 0), Ev.step s6 ?_, ?_, fun h => by cases h⟩
   · rw [hE]
     refine Ev.step s7 (Ev.step s8 (Ev.step (f := fun _ => some (false, 0, 0)) (fun k => ?_) (Ev.now _)))
     simp only [R4Grammar.j9]
     rw [dig_f, hd]; rfl
   rw [hB, e1]; rfl
  | true =>
   have h2 := l2_ev s hs p (i : Int) _ j hj rfl
   refine ⟨((s.drop (j + ((s.drop j).takeWhile NumP.isD).length)).isEmpty, p, (i : Int)), Ev.step s6 ?_, ?_, fun h => ?_⟩
   · rw [hE]
     refine Ev.step s7 (Ev.step s8 (Ev.step (f := fun k => R4Grammar.l2 k (ofL s) (j : Int) p (i : Int)) (fun k => ?_) h2))
     simp only [R4Grammar.j9]
     rw [dig_f, hd]; rfl
   · obtain ⟨-, -, h3⟩ := tw_next s j hd
     have hne : ((s.drop j).takeWhile NumP.isD).isEmpty = false := by
      cases z : (s.drop j).takeWhile NumP.isD with
      | nil => rw [z] at h3; simp at h3
      | cons _ _ => rfl
     rw [hB, hne, hR]
     show (s.drop (j + ((s.drop j).takeWhile NumP.isD).length)).isEmpty = _
     rw [← List.drop_drop]
     rw [drop_tw]; rfl
   simp only at h; rw [h]
theorem grammar_ev (s : List UInt8) (hs : s.length ≤ 1000000000000000000) :
    ∃ R, Ev (fun k => R4Grammar.f k (ofL s)) R ∧ R.1 = NumP.ok s ∧ (R.1 = true → R = (true, (((NumP.sgn (NumP.down s)).length + (NumP.whole s).length : Nat) : Int), (((NumP.sgn (NumP.down s)).length + (NumP.whole s).length + (NumP.dot (NumP.dotP (NumP.rest1 s))).length : Nat) : Int))) := by
 have h45 : (45 : Int) = ((45 : UInt8).toNat : Int) := rfl
 have h48 : (48 : Int) = ((48 : UInt8).toNat : Int) := rfl
 have e0 : ∀ k, R4Grammar.f k (ofL s) = R4Grammar.j0 k (ofL s) 0 (NumP.down s) := fun k => by
  unfold R4Grammar.f
  rw [ofL_size]
  cases s with
  | nil => rfl
  | cons c t =>
   rw [if_pos (by simp), h45]
   have := hd_is (c :: t) 0 45 (by simp)
   simp only [List.drop_zero] at this
   rw [show ((0 : Int)) = ((0 : Nat) : Int) from rfl, this]; rfl
 have hsg : (NumP.sgn (NumP.down s)).length ≤ s.length ∧ s.drop (NumP.sgn (NumP.down s)).length = NumP.dropSign s := by
  cases s with
  | nil => simp [NumP.down, NumP.sgn, NumP.dropSign]
  | cons c t => by_cases e : c = 45 <;> simp [NumP.down, NumP.sgn, NumP.dropSign, e]
 have e1 : ∀ k, R4Grammar.j0 (k + 1) (ofL s) 0 (NumP.down s) = R4Grammar.j1 k (ofL s) (((NumP.sgn (NumP.down s)).length : Nat) : Int) := fun k => by
  simp only [R4Grammar.j0]
  cases NumP.down s with
  | true => rw [if_pos rfl, show wrap64 (0 + 1) = 1 by unfold wrap64; omega]; rfl
  | false => rw [if_neg (by simp)]; rfl
 obtain ⟨hi, hdr⟩ := hsg
 generalize (NumP.sgn (NumP.down s)).length = i at *
 have e2 : ∀ k, R4Grammar.j1 (k + 1) (ofL s) (i : Int) = R4Grammar.j2 k (ofL s) (i : Int) (NumP.wholeB (NumP.whole s)) := fun k => by
  simp only [R4Grammar.j1]
  rw [dig_f]
  simp only [Option.bind_some]
  unfold NumP.whole
  rw [← hdr]
  cases hd : dH (s.drop i) with
  | false =>
   rw [if_neg (by simp), (tw_step _ hd).1]; rfl
  | true =>
   obtain ⟨hl, ht, htl⟩ := tw_next s i hd
   rw [if_pos rfl, if_pos (by omega), ofL_size, if_pos (by omega)]
   have hne : ((s.drop i).takeWhile NumP.isD).isEmpty = false := by
    cases z : (s.drop i).takeWhile NumP.isD with
    | nil => rw [z] at htl; simp at htl
    | cons _ _ => rfl
   have hh : ((s.drop i).takeWhile NumP.isD).head? = (s.drop i).head? := by
    rw [ht, at_drop s i hl]; rfl
   unfold NumP.wholeB
   rw [hne, hh, Bool.false_or]
   by_cases e : (s.drop i).head? = some 48
   · rw [if_pos (by rw [h48]; exact (hd_iff s i 48 hl).2 e), w1 i s.length hi hs, dig_f]
     simp only [Option.bind_some]
     congr 1
     rw [e, htl]
     cases hd2 : dH (s.drop (i + 1)) with
     | false => rw [(tw_step _ hd2).1]; rfl
     | true =>
      have := (tw_next s (i + 1) hd2).2.2
      have : decide (1 < ((s.drop (i + 1)).takeWhile NumP.isD).length + 1) = true := by rw [decide_eq_true_eq]; omega
      rw [this]; rfl
   rw [if_neg (by rw [h48]; exact fun z => e ((hd_iff s i 48 hl).1 z))]
   have : ((s.drop i).head? == some 48) = false := by simpa using e
   rw [this, Bool.and_false]
 cases hW : NumP.wholeB (NumP.whole s) with
 | true =>
  refine ⟨(false, 0, 0), Ev.congr e0 (Ev.step e1 (Ev.step e2 ?_)), ?_, fun h => by cases h⟩
  · rw [hW]; exact Ev.step (f := fun _ => some (false, 0, 0)) (fun k => by simp only [R4Grammar.j2]; rfl) (Ev.now _)
  simp [NumP.ok, NumP.bad, hW]
 | false =>
  have hj : s.drop (i + (NumP.whole s).length) = NumP.rest1 s := by
   rw [← List.drop_drop, hdr]; exact drop_tw _
  have hjl : i + (NumP.whole s).length ≤ s.length := by
   have h1 := (List.takeWhile_prefix (l := s.drop i) NumP.isD).length_le
   rw [hdr] at h1
   have h2 : (NumP.dropSign s).length = s.length - i := by rw [← hdr, List.length_drop]
   have h3 : (NumP.whole s).length ≤ (NumP.dropSign s).length := h1
   omega
  have step : ∀ R, Ev (fun k => R4Grammar.j4 k (ofL s) ((i + (NumP.whole s).length : Nat) : Int) ((i + (NumP.whole s).length : Nat) : Int) ((NumP.rest1 s).head? == some 46)) R →
      Ev (fun k => R4Grammar.f k (ofL s)) R := fun R hR => by
   refine Ev.congr e0 (Ev.step e1 (Ev.step e2 ?_))
   rw [hW]
   refine Ev.step (f := fun k => R4Grammar.l0 k (ofL s) (i : Int)) (fun k => by simp only [R4Grammar.j2]; rfl) ?_
   refine l0_ev s hs R (NumP.whole s).length i hi (by rw [hdr]; rfl) ?_
   rw [hj]; exact hR
  generalize hm : i + (NumP.whole s).length = m at *
  cases hD : (NumP.rest1 s).head? == some 46 with
  | false =>
   have hd : (NumP.rest1 s).head? ≠ some 46 := by simpa using hD
   obtain ⟨R, hR, h1, h2⟩ := j6_ev s hs (m : Int) m hjl
   have q1 : NumP.rest2 s = NumP.rest1 s := by simp [NumP.rest2, NumP.dotR, hd]
   have q2 : NumP.dotP (NumP.rest1 s) = [] := by simp [NumP.dotP, hd]
   have q3 : NumP.dotB (NumP.rest1 s) = false := by simp [NumP.dotB, hd]
   refine ⟨R, step R ?_, ?_, fun h => ?_⟩
   · rw [hD]
     exact Ev.step (f := fun k => R4Grammar.j6 k (ofL s) (m : Int) (m : Int)) (fun k => by simp only [R4Grammar.j4]; rfl) hR
   · rw [h1, hj, NumP.ok, NumP.bad, hW, q3, NumP.rest3, q1]; rfl
   rw [h2 h, q2]; rfl
  | true =>
   have hd : (NumP.rest1 s).head? = some 46 := by simpa using hD
   have hml : m < s.length := by
    by_cases h : m < s.length
    · exact h
    rw [List.drop_of_length_le (by omega)] at hj; rw [← hj] at hd; simp at hd
   have ht : s.drop (m + 1) = (NumP.rest1 s).tail := by rw [← hj, at_drop s m hml]; rfl
   have q2 : NumP.dotP (NumP.rest1 s) = (s.drop (m + 1)).takeWhile NumP.isD := by simp [NumP.dotP, hd, ht]
   have q1 : NumP.rest2 s = (s.drop (m + 1)).dropWhile NumP.isD := by simp [NumP.rest2, NumP.dotR, hd, ht]
   have q3 : NumP.dotB (NumP.rest1 s) = ((s.drop (m + 1)).takeWhile NumP.isD).isEmpty := by simp [NumP.dotB, q2, hd]
   cases hd2 : dH (s.drop (m + 1)) with
   | false =>
    refine ⟨(false, 0, 0), step _ ?_, ?_, fun h => by cases h⟩
    · rw [hD]
      refine Ev.step (f := fun _ => some (false, 0, 0)) (fun k => ?_) (Ev.now _)
      simp only [R4Grammar.j4, if_true]
      rw [w1 m s.length (by omega) hs, dig_f, hd2]; rfl
    rw [NumP.ok, NumP.bad, hW, q3, (tw_step _ hd2).1]; rfl
   | true =>
    obtain ⟨-, -, htl⟩ := tw_next s (m + 1) hd2
    have hne : ((s.drop (m + 1)).takeWhile NumP.isD).isEmpty = false := by
     cases z : (s.drop (m + 1)).takeWhile NumP.isD with
     | nil => rw [z] at htl; simp at htl
     | cons _ _ => rfl
    have hjl2 : m + 1 + ((s.drop (m + 1)).takeWhile NumP.isD).length ≤ s.length := by
     have h1 := (List.takeWhile_prefix (l := s.drop (m + 1)) NumP.isD).length_le
     rw [List.length_drop] at h1; omega
    obtain ⟨R, hR, h1, h2⟩ := j6_ev s hs (m : Int) (m + 1 + ((s.drop (m + 1)).takeWhile NumP.isD).length) hjl2
    have hdr2 : s.drop (m + 1 + ((s.drop (m + 1)).takeWhile NumP.isD).length) = NumP.rest2 s := by
     rw [← List.drop_drop, drop_tw, q1]
    refine ⟨R, step R ?_, ?_, fun h => ?_⟩
    · rw [hD]
      refine Ev.step (f := fun k => R4Grammar.l1 k (ofL s) ((m + 1 : Nat) : Int) (m : Int)) (fun k => ?_) (l1_ev s hs (m : Int) R _ (m + 1) (by omega) rfl hR)
      simp only [R4Grammar.j4, if_true]
      rw [w1 m s.length (by omega) hs, dig_f, hd2]; rfl
    · rw [h1, hdr2, NumP.ok, NumP.bad, hW, q3, hne, NumP.rest3]; rfl
    rw [h2 h, q2, NumP.dot, hne]
    congr 3
    simp; omega
theorem compare_bd (a b : List UInt8) : -1 ≤ Lib.compareBytes a b ∧ Lib.compareBytes a b ≤ 1 := by
 induction a generalizing b with
 | nil => cases b <;> simp [Lib.compareBytes]
 | cons x t ih =>
  cases b with
  | nil => simp [Lib.compareBytes]
  | cons y u =>
   simp only [Lib.compareBytes]
   split
   · omega
   split
   · omega
   exact ih u
def NumP.text (n : NumP.NumV) : List UInt8 := if n.2.1 = [] then [48] else NumP.sgn n.1 ++ n.2.1 ++ (if n.2.2 = 0 then [] else 101 :: Lib.itoa n.2.2)
theorem right_parts {d : Bool} {D : List UInt8} {e : Int} (h : NumP.right (d, D, e) = true) (h0 : D ≠ []) : D.all NumP.isD = true ∧ D.head? ≠ some 48 ∧ D.getLast? ≠ some 48 ∧ D.length ≤ 40 ∧ -999 ≤ e ∧ e ≤ 999 := by
 unfold NumP.right at h
 rw [if_neg h0] at h
 simp only [Bool.and_eq_true, decide_eq_true_eq, bne_iff_ne, ne_eq] at h
 exact ⟨h.1.1.1.1.1, h.1.1.1.1.2, h.1.1.1.2, h.1.1.2, h.1.2, h.2⟩
theorem text_f' (d : Bool) (D : List UInt8) (e : Int) (hD : D.length ≤ 1000000) (he : -1000000 ≤ e ∧ e ≤ 1000000) : num_Text.f d (ofL D) e = some (ofL (NumP.text (d, D, e))) := by
 unfold num_Text.f NumP.text
 have hl : (Lib.itoa e).length ≤ 21 := Lib.itoa_length_le e (by omega) (by omega)
 have hi : strconv_Itoa_83.f e = some (ofL (Lib.itoa e)) := by unfold strconv_Itoa_83.f; rw [if_pos (by omega)]; rfl
 have h45 : (⟨#[45]⟩ : ByteArray) = ofL [45] := rfl
 have h101 : (⟨#[101]⟩ : ByteArray) = ofL [101] := rfl
 by_cases h0 : D = []
 · subst h0; rw [if_pos (ofL_toList []), if_pos rfl]; rfl
 rw [if_neg (by rw [ofL_toList]; exact h0), if_neg h0]
 simp only [h45, h101, ofL_app, hi, Option.bind_some, ofL_size]
 cases d with
 | true =>
  rw [if_pos rfl, if_pos (by omega)]
  by_cases he0 : e = 0
  · rw [if_pos he0, if_pos he0]; simp [NumP.sgn]
  rw [if_neg he0, if_neg he0, if_pos (by omega), if_pos (by simp; omega)]; simp [NumP.sgn]
 | false =>
  rw [if_neg (by simp)]
  by_cases he0 : e = 0
  · rw [if_pos he0, if_pos he0]; simp [NumP.sgn]
  rw [if_neg he0, if_neg he0, if_pos (by omega), if_pos (by simp; omega)]; simp [NumP.sgn]
theorem right_bd' {d : Bool} {D : List UInt8} {e : Int} (h : NumP.right (d, D, e) = true) : D.length ≤ 40 ∧ -999 ≤ e ∧ e ≤ 999 := by
 by_cases h0 : D = []
 · subst h0
   unfold NumP.right at h
   rw [if_pos rfl] at h
   simp only [Bool.and_eq_true, beq_iff_eq] at h
   exact ⟨by decide, by omega, by omega⟩
 obtain ⟨-, -, -, a, b, c⟩ := right_parts h h0
 exact ⟨a, b, c⟩
theorem cmpB_anti : ∀ a b : List UInt8, Lib.compareBytes a b = - Lib.compareBytes b a
 | [], [] => rfl
 | [], _ :: _ => rfl
 | _ :: _, [] => rfl
 | x :: a, y :: b => by
  simp only [Lib.compareBytes]
  by_cases h : x < y
  · have h2 : ¬ y < x := by rw [UInt8.lt_iff_toNat_lt] at *; omega
    simp [h, h2]
  by_cases h2 : y < x
  · simp [h, h2]
  simp only [h, h2, if_false]; exact cmpB_anti a b
theorem cmpB_zero : ∀ a b : List UInt8, Lib.compareBytes a b = 0 → a = b
 | [], [], _ => rfl
 | [], _ :: _, h => by simp [Lib.compareBytes] at h
 | _ :: _, [], h => by simp [Lib.compareBytes] at h
 | x :: a, y :: b, h => by
  simp only [Lib.compareBytes] at h
  by_cases h1 : x < y
  · simp [h1] at h
  by_cases h2 : y < x
  · simp [h1, h2] at h
  simp only [h1, h2, if_false] at h
  have : x = y := by rw [← UInt8.toNat_inj]; rw [UInt8.lt_iff_toNat_lt] at *; omega
  rw [this, cmpB_zero a b h]
theorem cmpB_trans : ∀ a b c : List UInt8, Lib.compareBytes a b ≤ 0 → Lib.compareBytes b c ≤ 0 → Lib.compareBytes a c ≤ 0
 | [], _, [], _, _ => by simp [Lib.compareBytes]
 | [], _, _ :: _, _, _ => by simp [Lib.compareBytes]
 | _ :: _, [], _, h, _ => by simp [Lib.compareBytes] at h
 | _ :: _, _ :: _, [], _, h => by simp [Lib.compareBytes] at h
 | x :: a, y :: b, z :: c, h1, h2 => by
  simp only [Lib.compareBytes] at *
  by_cases p : x < y
  · by_cases q : y < z
    · have : x < z := by rw [UInt8.lt_iff_toNat_lt] at *; omega
      simp [this]
    by_cases q2 : z < y
    · simp [q, q2] at h2
    have : x < z := by rw [UInt8.lt_iff_toNat_lt] at *; omega
    simp [this]
  by_cases p2 : y < x
  · simp [p, p2] at h1
  have exy : x = y := by rw [← UInt8.toNat_inj]; rw [UInt8.lt_iff_toNat_lt] at *; omega
  subst exy
  simp only [p, if_false] at h1
  by_cases q : x < z
  · simp [q]
  by_cases q2 : z < x
  · simp [q, q2] at h2
  simp only [q, q2, if_false] at h2 ⊢
  exact cmpB_trans a b c h1 h2
end Go.Proofs.YtapcpndplnkfjaaGreatDoor
namespace Go.Proofs.YtapcpndplnkfjaaGreatDoor
open Go.RowKit Go.Proofs.YtapcpndplnkfjaaGreatDoorW.PrintWords Go.Proofs.YtapcpndplnkfjaaGreatDoorW.PrintLast Go.Proofs.YtapcpndplnkfjaaGreatDoorW.PrintMore
namespace Js
theorem compare_ne (x y : S28) (hne : x.f0 ≠ y.f0) (A A' B B' : Option Addr) (n n' m m' c c' d d' : Nat) (w : World) :
    Calls Tryz.prog 28 #[.agg #[.int .i64 x.f0, .bool x.f1, .bool x.f2.f0, .string x.f2.f1, .int .i64 x.f2.f2, .string x.f3, .slice A n c, .slice B m d], .agg #[.int .i64 y.f0, .bool y.f1, .bool y.f2.f0, .string y.f2.f1, .int .i64 y.f2.f2, .string y.f3, .slice A' n' c', .slice B' m' d']] w
     fun e w' => e = .returned (.int .i64 (Lib.compareInt x.f0 y.f0)) ∧ Below w.heap.size w w' := by
 have h1 : (x.f0 != y.f0) = true := by simpa using hne
 have h2 : (x.f0 == y.f0) = false := by simpa using hne
 clear hne
 go_enter Tryz.func28, Tryz.ntmps28
 go_wp2_with fail
 refine (Tryz.cmp_Compare_int _ _ _).mono ?_
 rintro E w1 ⟨rfl, rfl⟩
 go_wp2_with fail
 go_ret
 exact ⟨rfl, below_alloc (below_alloc (Below.refl _ _) _) _⟩
structure JTabs (w : World) : Prop where
  t : Tabs w
  p : PTabs w
theorem JTabs.below {w w' : World} (h : JTabs w) (hb : Below w.heap.size w w') : JTabs w' := ⟨h.t.below hb, h.p.below hb⟩
def A1 : List UInt8 := [32, 123, 34, 98, 34, 58, 49, 46, 48, 44, 32, 34, 97, 34, 58, 91, 93, 125]
def A2 : List UInt8 := [34, 92, 117, 48, 48, 101, 57, 92, 117, 100, 56, 51, 100, 92, 117, 100, 101, 48, 48, 92, 110, 34]
def A3 : List UInt8 := [91, 49, 44, 93]
def A4 : List UInt8 := [123, 34, 97, 34, 58, 49, 44, 34, 97, 34, 58, 50, 125]
theorem e1_ : (pv A1).2 = 0 := by decide +kernel
theorem k1_ : (pv A1).1.f0 = 5 := by decide +kernel
theorem t1_ : txF 3 (pv A1).1 = some [123, 34, 97, 34, 58, 91, 93, 44, 34, 98, 34, 58, 49, 125] := by decide +kernel
theorem f1_ : pos (pv A1).1.f5 ⟨#[98]⟩ = 1 ∧ has (pv A1).1.f5 ⟨#[98]⟩ = true ∧ (pv A1).1.f5.length ≤ 1000000 := by decide +kernel
theorem e2_ : (pv A2).2 = 0 := by decide +kernel
theorem k2_ : (pv A2).1.f0 = 3 ∧ (pv A2).1.f3.data.toList = [195, 169, 240, 159, 152, 128, 10] := by decide +kernel
theorem t2_ : txF 3 (pv A2).1 = some [34, 195, 169, 240, 159, 152, 128, 92, 117, 48, 48, 48, 97, 34] := by decide +kernel
theorem e3_ : (pv A3).2 = 11 := by decide +kernel
theorem e4_ : (pv A4).2 = 31 := by decide +kernel
set_option maxRecDepth 100000 in
set_option maxHeartbeats 4000000 in
theorem awake15_calls (w : World) (hT : JTabs w) : Calls Tryz.prog 29 #[] w fun e w' => e = .returned (.bool true) ∧ Below w.heap.size w w' := by
 have HT := hi_ hT
 obtain ⟨X, hX⟩ : ∃ X, X = (pv A1).1 := ⟨_, rfl⟩
 obtain ⟨Y, hY⟩ : ∃ Y, Y = (pv A2).1 := ⟨_, rfl⟩
 obtain ⟨Z, hZ⟩ : ∃ Z, Z = (pv A3).1 := ⟨_, rfl⟩
 obtain ⟨V, hV⟩ : ∃ V, V = (pv A4).1 := ⟨_, rfl⟩
 have H1 : Hid (pv A1 = (X, 0)) := hi_ (by rw [hX, ← e1_])
 have H2 : Hid (pv A2 = (Y, 0)) := hi_ (by rw [hY, ← e2_])
 have H3 : Hid (pv A3 = (Z, 11)) := hi_ (by rw [hZ, ← e3_])
 have H4 : Hid (pv A4 = (V, 31)) := hi_ (by rw [hV, ← e4_])
 have HX5 : Hid (X.f0 = 5) := hi_ (by rw [hX]; exact k1_)
 have HXT : Hid (txF 3 X = some [123, 34, 97, 34, 58, 91, 93, 44, 34, 98, 34, 58, 49, 125]) := hi_ (by rw [hX]; exact t1_)
 have HXF : Hid (pos X.f5 ⟨#[98]⟩ = 1 ∧ has X.f5 ⟨#[98]⟩ = true ∧ X.f5.length ≤ 1000000) := hi_ (by rw [hX]; exact f1_)
 have HY3 : Hid (Y.f0 = 3 ∧ Y.f3.data.toList = [195, 169, 240, 159, 152, 128, 10]) := hi_ (by rw [hY]; exact k2_)
 have HYT : Hid (txF 3 Y = some [34, 195, 169, 240, 159, 152, 128, 92, 117, 48, 48, 48, 97, 34]) := hi_ (by rw [hY]; exact t2_)
 clear hT hX hY hZ hV
 go_enter Tryz.func29, Tryz.ntmps29
 go_wp2_with fail
 refine (jparseR A1 w HT.out.t X 0 H1.out).mono ?_
 rintro E w1 ⟨A, c, B, c', rfl, hJ, hR, hB⟩
 have HJ := hi_ hJ
 have HR := hi_ hR
 have HB1 := hi_ (below_alloc hB (.cells #[.int .i64 X.f0, .bool X.f1, .bool X.f2.f0, .string X.f2.f1, .int .i64 X.f2.f2, .string X.f3, .slice A X.f4.length c, .slice B X.f5.length c'] 28))
 have HK1 := hi_ (blk_new w1 (.cells #[.int .i64 X.f0, .bool X.f1, .bool X.f2.f0, .string X.f2.f1, .int .i64 X.f2.f2, .string X.f3, .slice A X.f4.length c, .slice B X.f5.length c'] 28))
 have HW1 := hi_ (below_alloc (Below.refl w1.heap.size w1) (.cells #[.int .i64 X.f0, .bool X.f1, .bool X.f2.f0, .string X.f2.f1, .int .i64 X.f2.f2, .string X.f3, .slice A X.f4.length c, .slice B X.f5.length c'] 28))
 clear hJ hR hB
 go_wp2_with fail
 refine (jparseR A2 _ (HT.out.below HB1.out).t Y 0 H2.out).mono ?_
 rintro E w2 ⟨A', d, B', d', rfl, hJ, hR, hB⟩
 have HJY := hi_ hJ
 have HB2 := hi_ (below_alloc (HB1.out.trans (hB.mono HB1.out.size)) (.cells #[.int .i64 Y.f0, .bool Y.f1, .bool Y.f2.f0, .string Y.f2.f1, .int .i64 Y.f2.f2, .string Y.f3, .slice A' Y.f4.length d, .slice B' Y.f5.length d'] 28))
 have HK2 := hi_ (blk_new w2 (.cells #[.int .i64 Y.f0, .bool Y.f1, .bool Y.f2.f0, .string Y.f2.f1, .int .i64 Y.f2.f2, .string Y.f3, .slice A' Y.f4.length d, .slice B' Y.f5.length d'] 28))
 have HK1 := hi_ (blk_alloc (thru HK1.out hB) (.cells #[.int .i64 Y.f0, .bool Y.f1, .bool Y.f2.f0, .string Y.f2.f1, .int .i64 Y.f2.f2, .string Y.f3, .slice A' Y.f4.length d, .slice B' Y.f5.length d'] 28))
 have hw12 := HW1.out.trans (hB.mono HW1.out.size)
 have HW1 := hi_ (hw12.trans ((below_alloc (Below.refl w2.heap.size w2) (.cells #[.int .i64 Y.f0, .bool Y.f1, .bool Y.f2.f0, .string Y.f2.f1, .int .i64 Y.f2.f2, .string Y.f3, .slice A' Y.f4.length d, .slice B' Y.f5.length d'] 28)).mono hw12.size))
 have HW2 := hi_ (below_alloc (Below.refl w2.heap.size w2) (.cells #[.int .i64 Y.f0, .bool Y.f1, .bool Y.f2.f0, .string Y.f2.f1, .int .i64 Y.f2.f2, .string Y.f3, .slice A' Y.f4.length d, .slice B' Y.f5.length d'] 28))
 clear hJ hR hB hw12
 go_wp2_with fail
 refine (jparseR A3 _ (HT.out.below HB2.out).t Z 11 H3.out).mono ?_
 rintro E w3 ⟨A3', d3, B3', d3', rfl, hJ, hR, hB⟩
 have HB3 := hi_ (HB2.out.trans (hB.mono HB2.out.size))
 have HK1 := hi_ (thru HK1.out hB)
 have HK2 := hi_ (thru HK2.out hB)
 have HW1 := hi_ (HW1.out.trans (hB.mono HW1.out.size))
 have HW2 := hi_ (HW2.out.trans (hB.mono HW2.out.size))
 clear hJ hR hB
 go_wp2_with fail
 have ha3 := fun o => below_alloc (Below.refl w3.heap.size w3) o
 have HA3 := hi_ ha3
 clear ha3
 refine (jparseR A4 _ (HT.out.below (HB3.out.trans ((HA3.out _).mono HB3.out.size))).t V 31 H4.out).mono ?_
 rintro E w4 ⟨A4', d4, B4', d4', rfl, hJ, hR, hB⟩
 have hB := (HA3.out _).trans (hB.mono (HA3.out _).size)
 have HB4 := hi_ (HB3.out.trans (hB.mono HB3.out.size))
 have HK1 := hi_ (thru HK1.out hB)
 have HK2 := hi_ (thru HK2.out hB)
 have HW1 := hi_ (HW1.out.trans (hB.mono HW1.out.size))
 have HW2 := hi_ (HW2.out.trans (hB.mono HW2.out.size))
 clear hJ hR hB HA3
 have ha4 := fun o => below_alloc (Below.refl w4.heap.size w4) o
 have HA4 := hi_ ha4
 obtain ⟨p0, p1, p2, p3, p4, p5, p6, p7⟩ := eight (HK1.out)
 have hlt1 : w1.heap.size < w4.heap.size := blk_lt HK1.out
 clear ha4
 go_wp2_with fail
 have hR5 := Kd.R_below HR.out (HW1.out.trans ((HA4.out (.cells #[.int .i64 V.f0, .bool V.f1, .bool V.f2.f0, .string V.f2.f1, .int .i64 V.f2.f2, .string V.f3, .slice A4' V.f4.length d4, .slice B4' V.f5.length d4'] 28)).mono HW1.out.size))
 refine (find_calls X ⟨#[98]⟩ HX5.out _ _ _ _ hR5 HXF.out.2.2).mono ?_
 rintro E w5 ⟨rfl, hB⟩
 rw [HXF.out.1, HXF.out.2.1]
 have hB := (HA4.out _).trans (hB.mono (HA4.out _).size)
 have HB5 := hi_ (HB4.out.trans (hB.mono HB4.out.size))
 have HK1 := hi_ (thru HK1.out hB)
 have HK2 := hi_ (thru HK2.out hB)
 have HW1 := hi_ (HW1.out.trans (hB.mono HW1.out.size))
 have HW2 := hi_ (HW2.out.trans (hB.mono HW2.out.size))
 clear hB hR5 HA4 p0 p1 p2 p3 p4 p5 p6 p7 hlt1
 obtain ⟨p0, p1, p2, p3, p4, p5, p6, p7⟩ := eight (HK1.out)
 go_wp2_with fail
 refine (jtext_calls 3 X _ HXT.out A B c c' w5 (HT.out.below HB5.out).p (HJ.out.below HW1.out)).mono ?_
 rintro E w6 ⟨rfl, hB⟩
 have HB6 := hi_ (HB5.out.trans (hB.mono HB5.out.size))
 have HK1 := hi_ (thru HK1.out hB)
 have HK2 := hi_ (thru HK2.out hB)
 have HW1 := hi_ (HW1.out.trans (hB.mono HW1.out.size))
 have HW2 := hi_ (HW2.out.trans (hB.mono HW2.out.size))
 clear hB p0 p1 p2 p3 p4 p5 p6 p7
 obtain ⟨p0, p1, p2, p3, p4, p5, p6, p7⟩ := eight (HK2.out)
 have hg1 : ((ofL [123, 34, 97, 34, 58, 91, 93, 44, 34, 98, 34, 58, 49, 125]).toList == [123, 34, 97, 34, 58, 91, 93, 44, 34, 98, 34, 58, 49, 125]) = true := by rw [ofL_toList]; exact beq_self_eq_true _
 have hg2 : (Y.f3.toList == [195, 169, 240, 159, 152, 128, 10]) = true := by rw [ByteArray.toList_eq, HY3.out.2]; exact beq_self_eq_true _
 go_wp2_with fail
 refine (jtext_calls 3 Y _ HYT.out A' B' d d' w6 (HT.out.below HB6.out).p (HJY.out.below HW2.out)).mono ?_
 rintro E w7 ⟨rfl, hB⟩
 have HB7 := hi_ (HB6.out.trans (hB.mono HB6.out.size))
 have HK1 := hi_ (thru HK1.out hB)
 have HK2 := hi_ (thru HK2.out hB)
 have hg4 : ((ofL [34, 195, 169, 240, 159, 152, 128, 92, 117, 48, 48, 48, 97, 34]).toList == [34, 195, 169, 240, 159, 152, 128, 92, 117, 48, 48, 48, 97, 34]) = true := by rw [ofL_toList]; exact beq_self_eq_true _
 clear hB p0 p1 p2 p3 p4 p5 p6 p7 hg1 hg2
 obtain ⟨p0, p1, p2, p3, p4, p5, p6, p7⟩ := eight (HK1.out)
 obtain ⟨q0, q1, q2, q3, q4, q5, q6, q7⟩ := eight (HK2.out)
 go_wp2_with fail
 refine (compare_ne X Y (by rw [HX5.out, HY3.out.1]; decide) A A' B B' _ _ _ _ c d c' d' w7).mono ?_
 rintro E w8 ⟨rfl, hB⟩
 have HB8 := hi_ (HB7.out.trans (hB.mono HB7.out.size))
 rw [show Lib.compareInt X.f0 Y.f0 = 1 by rw [HX5.out, HY3.out.1]; rfl]
 clear hB p0 p1 p2 p3 p4 p5 p6 p7 q0 q1 q2 q3 q4 q5 q6 q7
 go_wp2_with fail
 go_ret
 exact ⟨rfl, HB8.out⟩
end Js
end Go.Proofs.YtapcpndplnkfjaaGreatDoor
namespace Go.Proofs.YtapcpndplnkfjaaGreatDoor
open Go.ChangeShapes Go.WideShapes Go.ChangeAt Go.RowKit Go.Lib
namespace Frame
theorem own : ownKnob Tryz.prog.godebug = none := by kernel_rfl
theorem plainLaid {W : World} {l : List (String × DataW Unit)} (h : laidMetH Tryz.prog l W) (hh : (l.all fun x => x.2.handleName?.isNone) = true) : laidMet Tryz.prog l W := by
 have h1 := (laidMetH_iff.1 h).1
 rwa [List.filter_eq_self.2 (fun x hx => List.all_eq_true.1 hh x hx)] at h1
theorem tabsOf {W : World} {l : List (String × DataW Unit)} (h : laidMet Tryz.prog l W) (h1 : ("unicode/utf8.first", Rows.laid_unicode_utf8_first) ∈ l) (h2 : ("unicode/utf8.acceptRanges", Rows.laid_unicode_utf8_acceptRanges) ∈ l) (h3 : ("unicode.CaseRanges", Rows.laid_unicode_CaseRanges) ∈ l) : Js.Tabs W := by
 have e1 : Rows.laid_unicode_utf8_first = firstData := Pinned.utf8First_eq
 have e3 : Rows.laid_unicode_CaseRanges = caseData := Pinned.caseRanges_eq
 have e2 : (Rows.laid_unicode_utf8_acceptRanges : DataW Unit) = acceptData := by kernel_rfl
 rw [e1] at h1
 rw [e2] at h2
 rw [e3] at h3
 exact ⟨utf8Tabs_of_reads Tryz.lays260 ⟨by kernel_rfl, by kernel_rfl, by kernel_rfl, by kernel_rfl, by kernel_rfl, by kernel_rfl, by kernel_rfl⟩ (laidMet.reads h h1) (laidMet.reads h h2),
  caseVar_of_reads (ρ := Tryz.lays159_ren) { Tryz.lays159 with } (by kernel_rfl) ⟨by kernel_rfl, by kernel_rfl, by kernel_rfl, by kernel_rfl, by kernel_rfl, by kernel_rfl⟩ (laidMet.reads h h3)⟩
theorem gPow : (Tryz.prog.globals[4]?).map (·.type) = some 195 := by kernel_rfl
theorem cArr : Tryz.prog.cellsOf 195 = 20 := by kernel_rfl
theorem cElt : Tryz.prog.cellsOf 89 = 1 := by kernel_rfl
theorem tabs {W : World} (h : laidMetH Tryz.prog Rows.jsonDeepRow.laid W) : Js.JTabs W := by
 have h2 := plainLaid h (by kernel_rfl)
 exact ⟨tabsOf h2 (.tail _ (.tail _ (.tail _ (.tail _ (.tail _ (.head _)))))) (.tail _ (.tail _ (.tail _ (.head _)))) (.tail _ (.tail _ (.tail _ (.tail _ (.head _))))),
  Lib.tabIs_of_head (name := "internal/strconv.uint64pow10") (k := .u64) (zs := Lib.pow10Tab) (g := 4) (t := 195) (e := 89) (n := 20) gPow10 gPow Tryz.underlying195 Tryz.underlying89 cElt cArr (laidMet.tail (laidMet.tail h2))⟩
noncomputable def laidWorld (os : Os) : World := World.laidAll Tryz.prog os Rows.jsonDeepRow.laid
theorem met (os : Os) (args : Array Value) : laidMet Tryz.prog Rows.jsonDeepRow.laid ((laidWorld os).forCall (fun _ _ => 0) ⟨#[], args, []⟩).memory :=
 laidMet_laidAll _ (by kernel_rfl) (by kernel_rfl)
theorem shaped (os : Os) (args : Array Value) : ((laidWorld os).forCall (fun _ _ => 0) ⟨#[], args, []⟩).Shaped Tryz.checked.prog := World.shaped_of_ZipB (by kernel_rfl) (by kernel_rfl)
theorem witness {H : Type} {enc : TypeId × Value → H} {os : Os} {f : FuncId} {fn : Func} {s : OpenSpec} {conds : List PathCond} {apart : Bool} {laid : List (String × DataW Unit)} (modest : Bool) (args : Array Value)
    (hok : Input.okWideB Tryz.checked.prog ((laidWorld os).forCall (fun _ _ => 0) ⟨#[], args, []⟩) f ⟨#[], args, []⟩ = true)
    (hrow : s.preRow enc Tryz.checked.prog fn conds apart laid ((laidWorld os).forCall (fun _ _ => 0) ⟨#[], args, []⟩).memory args) :
    ∃ (w : World) (tape : Tape) (i : Input), w.os = os ∧ (w.forCall tape i).Shaped Tryz.checked.prog ∧ i.vars = [] ∧ Input.okWide Tryz.checked.prog (w.forCall tape i) .any w.heap.size f i ∧
     s.preRow enc Tryz.checked.prog fn conds apart laid (w.forCall tape i).memory i.args ∧ ({ modest := modest } : Assume).holds Tryz.checked.prog (lone (Go.Frame.enter Tryz.checked.prog f i.args .normal) [] (w.forCall tape i)) :=
 ⟨laidWorld os, fun _ _ => 0, ⟨#[], args, []⟩, World.laidAll_os _ _ _, shaped os args, (Input.okWide_of_okWideB (base := 0) hok).1, (Input.okWide_of_okWideB hok).2, hrow, by
  simp only [Assume.holds]
  exact ⟨by simp, by simp, fun _ => Modest.zero, by simp, by simp⟩⟩
end Frame
end Go.Proofs.YtapcpndplnkfjaaGreatDoor
namespace Go.Proofs.YtapcpndplnkfjaaGreatDoor
open Go.RowKit Go.Proofs.YtapcpndplnkfjaaGreatDoorW.PrintWords Go.Proofs.YtapcpndplnkfjaaGreatDoorW.PrintLast Go.Proofs.YtapcpndplnkfjaaGreatDoorW.PrintMore
namespace Js
theorem fail_e {a : S} (h : a.e ≠ 0) (x : Int) : (a.fail x).e = a.e := by unfold S.fail; simp [h]
theorem fail_e0 {a : S} (h : a.e = 0) (x : Int) : (a.fail x).e = x := by unfold S.fail; simp [h]
theorem take_e (a : S) (p : List UInt8) : (a.take p).e = a.e := by unfold S.take; split <;> rfl
theorem took_bad {a : S} (h : a.e ≠ 0) (p : List UInt8) : a.took p = false := by unfold S.took; simp [h]
theorem take_no {a : S} {p : List UInt8} (h : a.took p = false) : a.take p = a.skip := by unfold S.take; simp [h]
theorem take_yes {a : S} {p : List UInt8} (h : a.took p = true) : a.take p = ⟨Lib.trimPrefix a.skip.s p, a.o, a.e⟩ := by unfold S.take; rw [if_pos h]; rfl
theorem need_e {a : S} (h : a.e ≠ 0) (p : List UInt8) : (a.need p).e = a.e := by
 unfold S.need
 split
 · exact take_e a p
 exact (fail_e (by rw [take_e]; exact h) 11).trans (take_e a p)
theorem st_bad {a : S} (h : a.e ≠ 0) : a.st = ([], a.tl) := by
 unfold S.st S.str
 rw [strLoop, if_pos (show a.tl.e ≠ 0 from h)]
def gv : Nat → S → S28 × S
 | 0, a => (z28, if a.e = 0 then a.skip.fail 11 else a.skip)
 | n + 1, a => S.value textV (S.arr (gv n)) (S.obj (gv n)) a
theorem gv_bad {a : S} (h : a.e ≠ 0) : ∀ n, gv n a = (z28, a.skip)
 | 0 => by unfold gv; rw [if_neg h]
 | n + 1 => by
  show S.value _ _ _ a = _
  unfold S.value S.value1
  rw [if_pos (show a.skip.e ≠ 0 from h)]
theorem keeps_gv : ∀ n a, Keeps a (gv n a).2
 | 0, a => by
  unfold gv
  split
  · exact (keeps_skip a).trans (keeps_fail _ 11 (by decide))
  exact keeps_skip a
 | n + 1, a => keeps_value (ft := textV) (fa := S.arr (gv n)) (fo := S.obj (gv n)) (fun a => keeps_st a) (fun a => keeps_list (st := arrT (gv n)) (fun x a => keeps_gv n a) [93] [] a) (fun a => keeps_list (st := objT (gv n)) (fun x a => by
     unfold objT
     split
     · exact (keeps_skip a).trans (keeps_fail _ 11 (by decide))
     exact (keeps_objA _ a).trans (keeps_gv n _)) [125] ([], []) a) a
theorem loop_congr {σ : Type} {st st' : σ → S → σ × S} {P : S → Prop} (hP : ∀ x a, P a → st x a = st' x a) (hn : ∀ x a, P a → P (st x a).2) (ht : ∀ a p, P a → P (a.take p)) :
    ∀ n x a, P a → listLoop st n x a = listLoop st' n x a
 | 0, x, a, h => rfl
 | n + 1, x, a, h => by
  unfold listLoop
  split
  · have h1 := ht a [44] h
    rw [← hP x _ h1]
    exact loop_congr hP hn ht n _ _ (hn x _ h1)
  rfl
theorem list_congr {σ : Type} {st st' : σ → S → σ × S} {P : S → Prop} (hP : ∀ x a, P a → st x a = st' x a) (hn : ∀ x a, P a → P (st x a).2) (ht : ∀ a p, P a → P (a.take p)) (p : List UInt8) (x : σ) (a : S) (h : P a.enter) :
    listF st p x a = listF st' p x a := by
 unfold listF
 split
 · rfl
 · have h1 := ht a.enter p h
   rw [← hP x _ h1]
   simp only []
   rw [loop_congr hP hn ht _ _ _ (hn x _ h1)]
theorem gv_eq : ∀ n a, Qn n a → fvN n a = gv n a
 | 0, a, h => by unfold gv fvN; rw [if_neg (h.2.2.1 rfl)]
 | n + 1, a, h => by
  have hs : Qn n a.skip.enter := (h.keeps (keeps_skip a)).enter
  have ha : S.arr (fvN n) a.skip = S.arr (gv n) a.skip := by
   unfold S.arr
   rw [list_congr (st' := arrT (gv n)) (P := Qn n) (fun x b hb => by unfold arrT; rw [gv_eq n b hb]) (fun x b hb => hb.keeps (keeps_fv n b)) (fun b p hb => hb.keeps (keeps_take b p)) [93] [] a.skip hs]
  have ho : S.obj (fvN n) a.skip = S.obj (gv n) a.skip := by
   unfold S.obj
   rw [list_congr (st' := objT (gv n)) (P := Qn n) (fun x b hb => by unfold objT; rw [gv_eq n _ (hb.keeps (keeps_objA x.2 b))]) (fun x b hb => by
    unfold objT
    split
    · exact hb.keeps ((keeps_skip b).trans (keeps_fail _ 11 (by decide)))
    exact (hb.keeps (keeps_objA _ b)).keeps (keeps_fv n _)) (fun b p hb => hb.keeps (keeps_take b p)) [125] ([], []) a.skip hs]
  show S.value _ _ _ a = S.value _ _ _ a
  unfold S.value S.value1
  rw [ha, ho]
theorem twice_e {a : S} (h : a.e ≠ 0) (b : Bool) : (a.twice b).e = a.e := by
 unfold S.twice; split
 · exact fail_e h _
 rfl
theorem objA_e {a : S} (h : a.e ≠ 0) (ns : List ByteArray) : (objA ns a).e = a.e := by
 unfold objA
 have h1 : a.skip.st.2 = a.skip.tl := by rw [st_bad (show a.skip.e ≠ 0 from h)]
 have h2 : a.skip.st.2.e = a.e := by rw [h1]; rfl
 have h3 : (S.twice a.skip.st.2 (has ns (objN a))).e = a.e := (twice_e (by rw [h2]; exact h) _).trans h2
 exact (need_e (by rw [h3]; exact h) _).trans h3
theorem objT_e {a : S} (h : a.e ≠ 0) (n : Nat) (p : List S28 × List ByteArray) : (objT (gv n) p a).2.e = a.e := by
 unfold objT
 split
 · exact fail_e (a := a.skip) h _
 have h1 := objA_e h p.2
 rw [gv_bad (by rw [h1]; exact h)]
 exact h1
theorem arrT_e {a : S} (h : a.e ≠ 0) (n : Nat) (p : List S28) : (arrT (gv n) p a).2.e = a.e := by
 unfold arrT
 rw [gv_bad h]; rfl
theorem loop_bad {σ : Type} (st : σ → S → σ × S) {a : S} (h : a.e ≠ 0) : ∀ n x, (listLoop st n x a).2.e = a.e
 | 0, x => rfl
 | n + 1, x => by
  unfold listLoop
  rw [took_bad h]
  exact take_e a _
def listG {σ : Type} (st : σ → S → σ × S) (p : List UInt8) (x : σ) (a : S) : σ × S :=
 if a.took p = true then (x, (a.take p).left) else
 ((listLoop st ((st x (a.take p)).2.s.length + 1) (st x (a.take p)).1 (st x (a.take p)).2).1, ((listLoop st ((st x (a.take p)).2.s.length + 1) (st x (a.take p)).1 (st x (a.take p)).2).2.need p).left)
theorem listF_G {σ : Type} (st : σ → S → σ × S) (p : List UInt8) (x : σ) (a : S) : listF st p x a = listG st p x a.enter := rfl
theorem listG_e {σ : Type} {st : σ → S → σ × S} (hst : ∀ x a, a.e ≠ 0 → (st x a).2.e = a.e) (p : List UInt8) (x : σ) {a : S} (h : a.e ≠ 0) : (listG st p x a).2.e = a.e := by
 unfold listG
 rw [took_bad h]
 have h1 : (a.take p).e ≠ 0 := by rw [take_e]; exact h
 have h2 := hst x _ h1
 have h3 := loop_bad st (by rw [h2]; exact h1) ((st x (a.take p)).2.s.length + 1) (st x (a.take p)).1
 have h4 := need_e (by rw [h3, h2]; exact h1) p
 show ((listLoop st _ _ _).2.need p).e = a.e
 rw [h4, h3, h2, take_e]
def stop (t : List UInt8) : Prop := ∀ c ∈ t.head?, [32, 9, 10, 13, 44, 93, 125].contains c = true
def Ext (t : List UInt8) (a b : S) : Prop := (a.e ≠ 0 ∧ a.e ≠ 35) ∨ (a.e = 35 ∧ b.e = 35) ∨ (a.e = 0 ∧ b = ⟨a.s ++ t, a.o, 0⟩)
def Dry (a : S) : Prop := a.e = 0 ∧ a.skip.s = []
def Ext' (t : List UInt8) (a b : S) : Prop := Ext t a b ∨ Dry a
def ExtV {σ : Type} (t : List UInt8) (p q : σ × S) : Prop := Ext t p.2 q.2 ∧ (p.2.e = 0 → q.1 = p.1)
theorem decN_more (n n' b0 b1 b2 b3 c1 c2 c3 : Nat) (hnn : n ≤ n') (h1 : 1 < n → c1 = b1) (h2 : 2 < n → c2 = b2) (h3 : 3 < n → c3 = b3)
    (hw : ¬ ((Lib.decodeN n b0 b1 b2 b3).1 = 65533 ∧ (Lib.decodeN n b0 b1 b2 b3).2 = 1)) : Lib.decodeN n' b0 c1 c2 c3 = Lib.decodeN n b0 b1 b2 b3 := by
 have e2 : ∀ (k m : Nat) (x y : Nat), n ≤ n' → (k < n → y = x) → (k < n ∧ x / 64 = m) → (k < n' ∧ y / 64 = m) := fun k m x y hn hy h => ⟨by omega, by rw [hy h.1]; exact h.2⟩
 unfold Lib.decodeN at hw ⊢
 by_cases g0 : b0 < 128
 · rw [if_pos g0, if_pos g0]
 rw [if_neg g0] at hw ⊢
 rw [if_neg g0]
 by_cases g1 : b0 / 32 = 6 ∧ (1 < n ∧ b1 / 64 = 2)
 · have := h1 g1.2.1
   subst this
   rw [if_pos g1, if_pos ⟨g1.1, by omega, g1.2.2⟩]
 rw [if_neg g1] at hw ⊢
 by_cases g2 : b0 / 16 = 14 ∧ (1 < n ∧ b1 / 64 = 2) ∧ (2 < n ∧ b2 / 64 = 2)
 · have k1 := h1 g2.2.1.1
   have k2 := h2 g2.2.2.1
   subst k1 k2
   rw [if_neg (by omega), if_pos ⟨g2.1, ⟨by omega, g2.2.1.2⟩, ⟨by omega, g2.2.2.2⟩⟩, if_pos g2]
 rw [if_neg g2] at hw ⊢
 by_cases g3 : b0 / 8 = 30 ∧ (1 < n ∧ b1 / 64 = 2) ∧ (2 < n ∧ b2 / 64 = 2) ∧ (3 < n ∧ b3 / 64 = 2)
 · have k1 := h1 g3.2.1.1
   have k2 := h2 g3.2.2.1.1
   have k3 := h3 g3.2.2.2.1
   subst k1 k2 k3
   rw [if_neg (by omega), if_neg (by omega), if_pos ⟨g3.1, ⟨by omega, g3.2.1.2⟩, ⟨by omega, g3.2.2.1.2⟩, ⟨by omega, g3.2.2.2.2⟩⟩, if_pos g3]
 rw [if_neg g3] at hw
 exact absurd ⟨rfl, rfl⟩ hw
theorem getD_app (s t : List UInt8) (k : Nat) (h : k < s.length) : (s ++ t).getD k 0 = s.getD k 0 := by
 simp [List.getD, List.getElem?_append_left h]
theorem dec_more (s t : List UInt8) (k : Nat) (hk : k < s.length) (hw : ¬ ((Utf8.decode (ofL s) k).1 = 65533 ∧ (Utf8.decode (ofL s) k).2 = 1)) :
    Utf8.decode (ofL (s ++ t)) k = Utf8.decode (ofL s) k := by
 rw [Lib.decode_N] at hw
 rw [Lib.decode_N, Lib.decode_N]
 rw [ofL_data] at hw
 rw [ofL_data, ofL_data, getD_app s t k hk]
 refine decN_more _ _ _ _ _ _ _ _ _ (by simp; omega) (fun h => ?_) (fun h => ?_) (fun h => ?_) hw
 · rw [getD_app s t _ (by omega)]
 · rw [getD_app s t _ (by omega)]
 · rw [getD_app s t _ (by omega)]
theorem four_e (a : S) : a.e ≠ 0 → (a.four).2.e = a.e := by
 intro h
 unfold S.four
 split
 · exact fail_e h _
 unfold fourV; split
 · exact fail_e h _
 rfl
theorem strLoop_bad (esc : S → List UInt8 × S) (n : Nat) (out : List UInt8) {a : S} (h : a.e ≠ 0) : strLoop esc n out a = (out, a) := by
 cases n with
 | zero => rfl
 | succ n => rw [strLoop, if_pos h]
theorem strLoop_ok (esc : S → List UInt8 × S) (n : Nat) (out s : List UInt8) (o : Int) : strLoop esc (n + 1) out ⟨s, o, 0⟩ =
    if (S.plain ⟨s, o, 0⟩).2 = false then (out ++ s.take (S.plain ⟨s, o, 0⟩).1, S.fail ⟨s, o, 0⟩ 11) else
    if s.getD (S.plain ⟨s, o, 0⟩).1 0 = 34 then (out ++ s.take (S.plain ⟨s, o, 0⟩).1, S.cut ⟨s, o, 0⟩) else
    strLoop esc n (out ++ s.take (S.plain ⟨s, o, 0⟩).1 ++ (esc (S.cut ⟨s, o, 0⟩)).1) (esc (S.cut ⟨s, o, 0⟩)).2 := by
 rw [strLoop, if_neg (show ¬ (S.mk s o 0).e ≠ 0 from fun h => h rfl)]
variable {σ : Type}
structure Far (t : List UInt8) (st : σ → S → σ × S) : Prop where
  e : ∀ x a, a.e ≠ 0 → (st x a).2.e = a.e
  ext : ∀ x a b, Ext' t a b → ExtV t (st x a) (st x b)
  dry : ∀ x a, Dry a → (st x a).2.e = 11
  len : ∀ x a, (st x a).2.s.length ≤ a.s.length
variable {σ : Type}
theorem fail_ne (a : S) (x : Int) (hx : x ≠ 0) : (a.fail x).e ≠ 0 := by
 by_cases h : a.e = 0
 · rw [fail_e0 h]; exact hx
 rw [fail_e h]; exact h
theorem pv_gv (s : List UInt8) (hl : s.length ≤ 4096) : pv s = if (gv 17 ⟨s, 0, 0⟩).2.ended.e = 0 then ((gv 17 ⟨s, 0, 0⟩).1, 0) else (z28, (gv 17 ⟨s, 0, 0⟩).2.ended.e) := by
 unfold pv parseV
 rw [if_neg (by omega), gv_eq 17 _ ⟨by show s.length ≤ 900000; omega, rfl, (fun e => absurd e (by decide)), Nat.le_refl _⟩]
theorem pv_ok {s : List UInt8} {x : S28} (h : pv s = (x, 0)) : s.length ≤ 4096 ∧ ∃ r, gv 17 ⟨s, 0, 0⟩ = (x, ⟨r, 0, 0⟩) ∧ Lib.trimLeftS r [32, 9, 10, 13] = [] := by
 by_cases hl : s.length ≤ 4096
 · refine ⟨hl, ?_⟩
   rw [pv_gv s hl] at h
   have hk := (keeps_gv 17 ⟨s, 0, 0⟩).o
   generalize gv 17 ⟨s, 0, 0⟩ = q at hk h ⊢
   obtain ⟨y, r, o, e⟩ := q
   simp only [] at hk h
   subst hk
   split at h
   · rename_i h1
     refine ⟨r, ?_, ?_⟩
     · have hy : y = x := congrArg Prod.fst h
       have he : e = 0 := by
        by_cases h0 : e = 0
        · exact h0
        exfalso
        unfold S.ended at h1
        split at h1
        · exact h0 h1
        exact fail_ne _ 11 (by decide) h1
       rw [hy, he]
     unfold S.ended at h1
     split at h1
     · rename_i h2; exact h2
     exact absurd h1 (fail_ne _ 11 (by decide))
   rename_i h1
   exact absurd (congrArg Prod.snd h) h1
 unfold pv parseV at h
 rw [if_pos (by omega)] at h
 exact absurd (show (13 : Int) = 0 from congrArg Prod.snd h) (by decide)
structure Reads (s : List UInt8) (x : S28) (r : List UInt8) : Prop where
  at0 : ∀ t, stop t → gv 17 ⟨s ++ t, 0, 0⟩ = (x, ⟨r ++ t, 0, 0⟩)
  dry : Lib.trimLeftS r [32, 9, 10, 13] = []
  at1 : (∀ t, stop t → gv 16 ⟨s ++ t, 1, 0⟩ = (x, ⟨r ++ t, 1, 0⟩)) ∨ (∀ t, stop t → (gv 16 ⟨s ++ t, 1, 0⟩).2.e = 35)
variable {σ : Type}
theorem e0_of {f : S → S} (hf : ∀ a : S, a.e ≠ 0 → (f a).e = a.e) {a : S} (h : (f a).e = 0) : a.e = 0 := by
 by_cases h0 : a.e = 0
 · exact h0
 exact absurd ((hf a h0).symm.trans h) h0
theorem take_le (a : S) (p : List UInt8) : (a.take p).s.length ≤ a.s.length := (keeps_take a p).len
theorem loop_inv {st : σ → S → σ × S} {Inv : σ → Nat → Prop} (he : ∀ x a, a.e ≠ 0 → (st x a).2.e = a.e) (hm : ∀ x k j, Inv x k → j ≤ k → Inv x j)
    (hst : ∀ x a, a.e = 0 → Inv x (a.s.length + 1) → (st x a).2.e = 0 → Inv (st x a).1 (st x a).2.s.length) :
    ∀ n x a, Inv x a.s.length → (listLoop st n x a).2.e = 0 → Inv (listLoop st n x a).1 (listLoop st n x a).2.s.length
 | 0, x, a, h, _ => h
 | n + 1, x, a, h, h0 => by
  unfold listLoop at h0 ⊢
  by_cases ht : a.took [44] = true
  · rw [if_pos ht] at h0 ⊢
    have h1 : (st x (a.take [44])).2.e = 0 := by
     by_cases hq : (st x (a.take [44])).2.e = 0
     · exact hq
     exact absurd ((loop_bad st hq n _).symm.trans h0) hq
    have h2 : (a.take [44]).e = 0 := e0_of (f := fun a => (st x a).2) (fun a => he x a) h1
    exact loop_inv he hm hst n _ _ (hst x _ h2 (hm _ _ _ h (took_lt a 44 ht)) h1) h0
  rw [if_neg ht]
  exact hm _ _ _ h (take_le a _)
theorem need_lt {a : S} {d : UInt8} (h : (a.need [d]).e = 0) : (a.need [d]).s.length + 1 ≤ a.s.length := by
 unfold S.need at h ⊢
 by_cases ht : a.took [d] = true
 · rw [if_pos ht]
   exact took_lt a d ht
 rw [if_neg ht] at h
 exact absurd h (fail_ne _ 11 (by decide))
theorem listG_inv {st : σ → S → σ × S} {Inv : σ → Nat → Prop} (he : ∀ x a, a.e ≠ 0 → (st x a).2.e = a.e) (hm : ∀ x k j, Inv x k → j ≤ k → Inv x j)
    (hst : ∀ x a, a.e = 0 → Inv x (a.s.length + 1) → (st x a).2.e = 0 → Inv (st x a).1 (st x a).2.s.length) (d : UInt8) (x : σ) (a : S) (h : Inv x (a.s.length + 1)) (h0 : (listG st [d] x a).2.e = 0) :
    Inv (listG st [d] x a).1 ((listG st [d] x a).2.s.length + 1) := by
 unfold listG at h0 ⊢
 by_cases ht : a.took [d] = true
 · rw [if_pos ht]
   exact hm _ _ _ h (by have := took_lt a d ht; show (a.take [d]).s.length + 1 ≤ _; omega)
 · rw [if_neg ht] at h0 ⊢
   have h3 : ((listLoop st ((st x (a.take [d])).2.s.length + 1) (st x (a.take [d])).1 (st x (a.take [d])).2).2.need [d]).e = 0 := h0
   have h2 := e0_of (f := fun a => a.need [d]) (fun a ha => need_e ha [d]) h3
   have h1 : (st x (a.take [d])).2.e = 0 := by
    by_cases hq : (st x (a.take [d])).2.e = 0
    · exact hq
    exact absurd ((loop_bad st hq _ _).symm.trans h2) hq
   have h4 : (a.take [d]).e = 0 := e0_of (f := fun a => (st x a).2) (fun a => he x a) h1
   have h5 := hst x _ h4 (hm _ _ _ h (by have := take_le a [d]; omega)) h1
   have h6 := loop_inv he hm hst _ _ _ h5 h2
   exact hm _ _ _ h6 (need_lt h3)
theorem quoteF_app (a b : List UInt8) : (a ++ b).flatMap quoteB = a.flatMap quoteB ++ b.flatMap quoteB := by simp
theorem four_lt (a : S) (h : (a.four).2.e = 0) : (a.four).2.s.length + 4 ≤ a.s.length := by
 unfold S.four at h ⊢
 split at h
 · exact absurd h (fail_ne _ 11 (by decide))
 rename_i hl
 rw [if_neg hl]
 unfold fourV at h ⊢
 split at h
 · exact absurd h (fail_ne _ 11 (by decide))
 simp; omega
theorem sign_sz (a : S) (h : (a.sign).2.e = 0) : (a.sign).1.length ≤ 4 ∧ (a.sign).2.s.length + 4 ≤ a.s.length := by
 refine ⟨(sign_len a).2.1, ?_⟩
 have h4 : (a.four).2.e = 0 := by
  by_cases hq : (a.four).2.e = 0
  · exact hq
  exfalso
  unfold S.sign at h
  split at h
  · exact hq h
  split at h
  · rw [fail_e hq] at h; exact hq h
  have h5 := four_e a.four.2.pre hq
  unfold S.sgn at h
  simp only [] at h
  split at h
  · rw [fail_e (by rw [h5]; exact hq), h5] at h; exact hq h
  rw [h5] at h; exact hq h
 have h6 := four_lt a h4
 have h7 : (a.sign).2.s.length ≤ (a.four).2.s.length := by
  unfold S.sign
  split
  · exact Nat.le_refl _
  split
  · rw [fail_s]; exact Nat.le_refl _
  have h8 := (sgn_len a.four.1 a.four.2.pre).1
  have h9 : a.four.2.pre.s.length ≤ a.four.2.s.length := by
   unfold S.pre Lib.trimPrefix
   simp only []
   split <;> simp
  omega
 omega
theorem esc_sz (a : S) (h : (a.esc).2.e = 0) : ((a.esc).1.flatMap quoteB).length + 6 * (a.esc).2.s.length ≤ 6 * a.s.length := by
 obtain ⟨s, o, e⟩ := a
 cases s with
 | nil => exact absurd h (fail_ne ⟨[], o, e⟩ 11 (by decide))
 | cons c l =>
  have hh : (S.escT c ⟨l, o, e⟩).2.e = 0 := h
  show ((S.escT c ⟨l, o, e⟩).1.flatMap quoteB).length + 6 * (S.escT c ⟨l, o, e⟩).2.s.length ≤ 6 * (l.length + 1)
  unfold S.escT at hh ⊢
  split at hh
  · rename_i hc
    rw [if_pos hc]
    have := sign_sz ⟨l, o, e⟩ hh
    have h2 := quoteF_len (S.sign ⟨l, o, e⟩).1
    have h3 : (S.sign ⟨l, o, e⟩).2.s.length + 4 ≤ l.length := this.2
    omega
  rename_i hc
  rw [if_neg hc]
  split at hh
  · exact absurd hh (fail_ne _ 11 (by decide))
  rename_i h9
  rw [if_neg h9]
  have h2 := quoteF_len (escL (escI c))
  have h3 : (escL (escI c)).length ≤ 1 := by
   have := (escI_b c).2
   unfold escL
   simp [ByteArray.data_extract, Array.toList_extract, List.extract]
   omega
  show (List.flatMap quoteB (escL (escI c))).length + 6 * l.length ≤ _
  omega
theorem strLoop_sz : ∀ (n : Nat) (out : List UInt8) (a : S), a.e = 0 → a.s.length < n → (strLoop S.esc n out a).2.e = 0 →
    ((strLoop S.esc n out a).1.flatMap quoteB).length + 6 * (strLoop S.esc n out a).2.s.length + 6 ≤ (out.flatMap quoteB).length + 6 * a.s.length
 | 0, out, a, _, h, _ => absurd h (by omega)
 | n + 1, out, a, he, hn, h => by
  rw [strLoop] at h ⊢
  rw [if_neg (by simp [he])] at h ⊢
  by_cases hp : a.plain.2 = false
  · rw [if_pos hp] at h; exact absurd h (fail_ne _ 11 (by decide))
  rw [if_neg hp] at h ⊢
  have hlt := (plain_le a).2 (by simpa using hp)
  have hq := quoteF_len (a.s.take a.plain.1)
  have hk : (a.s.take a.plain.1).length = a.plain.1 := by rw [List.length_take]; omega
  have hc : a.cut.s.length = a.s.length - (a.plain.1 + 1) := by unfold S.cut; simp
  split at h
  · rename_i h34
    rw [if_pos h34]
    show ((out ++ a.s.take a.plain.1).flatMap quoteB).length + 6 * a.cut.s.length + 6 ≤ _
    rw [quoteF_app, List.length_append]
    omega
  rename_i h34
  rw [if_neg h34]
  have h5 : (a.cut.esc).2.e = 0 := by
   by_cases hb : (a.cut.esc).2.e = 0
   · exact hb
   rw [strLoop_bad _ _ _ hb] at h; exact absurd h hb
  have h6 := esc_sz a.cut h5
  have h7 := (esc_len a.cut).1
  have h8 := strLoop_sz n (out ++ a.s.take a.plain.1 ++ a.cut.esc.1) a.cut.esc.2 h5 (by omega) h
  rw [quoteF_app, quoteF_app, List.length_append, List.length_append] at h8
  omega
theorem st_sz (a : S) (hs : a.s ≠ []) (h : (a.st).2.e = 0) : (quoteL (a.st).1).length + 6 * (a.st).2.s.length ≤ 6 * a.s.length := by
 have he : a.e = 0 := by
  by_cases hb : a.e = 0
  · exact hb
  rw [st_bad hb] at h; exact absurd h hb
 obtain ⟨s, o, e⟩ := a
 cases s with
 | nil => exact absurd rfl hs
 | cons c l =>
  have h1 := strLoop_sz ((c :: l).length + 1) [] ⟨l, o, e⟩ he (by show l.length < _; simp; omega) h
  have h2 : (quoteL (S.st ⟨c :: l, o, e⟩).1).length = ((S.st ⟨c :: l, o, e⟩).1.flatMap quoteB).length + 2 := by unfold quoteL; simp
  have h3 : (strLoop S.esc ((c :: l).length + 1) [] ⟨l, o, e⟩) = S.st ⟨c :: l, o, e⟩ := rfl
  rw [h3] at h1
  simp only [List.flatMap_nil, List.length_nil, List.length_cons] at h1 ⊢
  omega
theorem st_bd (a : S) : (a.st).1.length ≤ 17 * a.s.length := by
 have := loop_out (a.s.length + 1) [] a.tl
 have h2 : a.tl.s.length ≤ a.s.length := by unfold S.tl; simp
 simp only [List.length_nil] at this
 show (strLoop S.esc (a.s.length + 1) [] a.tl).1.length ≤ _
 omega
theorem itoa_4 (e : Int) (h : -999 ≤ e ∧ e ≤ 999) : (Lib.itoa e).length ≤ 4 := by
 have : ∀ i : Fin 1999, (Lib.itoa ((i.val : Int) - 999)).length ≤ 4 := by decide +kernel
 have h2 := this ⟨(e + 999).toNat, by omega⟩
 rwa [show (((⟨(e + 999).toNat, by omega⟩ : Fin 1999).val : Int) - 999) = e by show ((e + 999).toNat : Int) - 999 = e; omega] at h2
theorem num_one (c : UInt8) : (NumP.parse [c]).2 = 0 → (NumP.text (NumP.parse [c]).1).length ≤ 6 := by
 have : ∀ k : Fin 256, (NumP.parse [UInt8.ofNat k.val]).2 = 0 → (NumP.text (NumP.parse [UInt8.ofNat k.val]).1).length ≤ 6 := by decide +kernel
 have h := this ⟨c.toNat, c.toNat_lt⟩
 rwa [show UInt8.ofNat (⟨c.toNat, c.toNat_lt⟩ : Fin 256).val = c from UInt8.ofNat_toNat] at h
theorem parse_0 {l : List UInt8} (h : (NumP.parse l).2 = 0) : NumP.ok l = true ∧ NumP.right (NumP.num l) = true ∧ (NumP.parse l).1 = NumP.num l := by
 unfold NumP.parse at h ⊢
 split at h
 · rename_i h1
   split at h
   · rename_i h2
     exact ⟨h1, h2, by rw [if_pos h1, if_pos h2]⟩
   exact absurd h (by decide)
 exact absurd h (by decide)
theorem rstrip_le' (D : List UInt8) : (NumP.rstrip D).length ≤ D.length := by
 unfold NumP.rstrip
 rw [List.length_reverse]
 have := (List.dropWhile_sublist (l := D.reverse) NumP.isZ).length_le
 rwa [List.length_reverse] at this
theorem strips (D : List UInt8) : (NumP.rstrip (NumP.lstrip D)).length ≤ D.length := by
 have h1 := rstrip_le' (NumP.lstrip D)
 have h2 : (NumP.lstrip D).length ≤ D.length := (List.dropWhile_sublist _).length_le
 omega
theorem tw_len (p : UInt8 → Bool) (l : List UInt8) : (l.takeWhile p).length + (l.dropWhile p).length = l.length := by
 rw [← List.length_append, List.takeWhile_append_dropWhile]
theorem num_tx (l : List UInt8) (h : (NumP.parse l).2 = 0) : (NumP.text (NumP.parse l).1).length ≤ 6 * l.length ∧ 1 ≤ l.length := by
 obtain ⟨h1, h2, h3⟩ := parse_0 h
 have hne : 1 ≤ l.length := by
  cases l with
  | nil => exact absurd h1 (by decide)
  | cons c l => simp
 refine ⟨?_, hne⟩
 by_cases h4 : l.length = 1
 · obtain ⟨c, rfl⟩ := List.length_eq_one_iff.1 h4
   exact num_one c h
 rw [h3]
 obtain ⟨d, D, e, hn⟩ : ∃ d D e, NumP.num l = (d, D, e) := ⟨_, _, _, rfl⟩
 rw [hn] at h2
 have hb := right_bd' h2
 have hD : D.length ≤ l.length := by
  have : D = (NumP.num l).2.1 := by rw [hn]
  rw [this]
  unfold NumP.num NumP.form
  split
  · simp [NumP.zero]
  have k1 := strips (NumP.whole l ++ NumP.dotP (NumP.rest1 l))
  have k2 : (NumP.whole l).length + (NumP.rest1 l).length = (NumP.dropSign l).length := tw_len _ _
  have k3 : (NumP.dropSign l).length ≤ l.length := by unfold NumP.dropSign; split <;> simp
  have k4 : (NumP.dotP (NumP.rest1 l)).length ≤ (NumP.rest1 l).length := by
   unfold NumP.dotP
   split
   · exact Nat.le_trans ((List.takeWhile_sublist _).length_le) (by simp)
   simp
  rw [List.length_append] at k1
  simp only []
  omega
 rw [hn]
 have hi := itoa_4 e hb.2
 have hs : (NumP.sgn d).length ≤ 1 := by cases d <;> decide
 unfold NumP.text
 simp only []
 (repeat' split) <;> simp <;> omega
theorem num_txF (l : List UInt8) (h : (NumP.parse l).2 = 0) (m : List UInt8 × Int) (n : Nat) (hm : m = ((NumP.parse l).1.2.1, (NumP.parse l).1.2.2)) :
    Pr.num_Text.f (NumP.parse l).1.1 (ofL m.1) m.2 = some (ofL (NumP.text (NumP.parse l).1)) := by
 obtain ⟨h1, h2, h3⟩ := parse_0 h
 obtain ⟨d, D, e, hn⟩ : ∃ d D e, NumP.num l = (d, D, e) := ⟨_, _, _, rfl⟩
 rw [hn] at h2 h3
 have hb := right_bd' h2
 subst hm
 rw [h3]
 exact text_f' d D e (by omega) (by omega)
def jl (l : List (List UInt8)) : Nat := (l.map fun x => x.length + 1).sum
theorem jl_app (a b : List (List UInt8)) : jl (a ++ b) = jl a + jl b := by unfold jl; simp
theorem jl_one (x : List UInt8) : jl [x] = x.length + 1 := by unfold jl; simp
theorem jl_cons (x : List UInt8) (l : List (List UInt8)) : jl (x :: l) = x.length + 1 + jl l := by unfold jl; simp
theorem jl_lens : ∀ l : List (List UInt8), Lib.lens l + l.length = jl l
 | [] => rfl
 | x :: l => by
  have := jl_lens l
  rw [jl_cons, ← this]
  unfold Lib.lens
  simp
  omega
theorem join_le (l : List (List UInt8)) : (Lib.join l [44]).length ≤ jl l := by
 cases l with
 | nil => exact Nat.zero_le _
 | cons x r =>
  rw [Lib.join_length, ← jl_lens]
  simp
  omega
theorem len_jl (l : List (List UInt8)) : l.length ≤ jl l := by rw [← jl_lens]; omega
theorem wrap_ok {l : List (List UInt8)} (a b : UInt8) (h : jl l ≤ 1000000) : wrapF a b l = some (a :: Lib.join l [44] ++ [b]) ∧ (a :: Lib.join l [44] ++ [b]).length ≤ jl l + 2 := by
 have h1 := join_le l
 have h2 := len_jl l
 refine ⟨?_, by simp; omega⟩
 unfold wrapF
 rw [if_pos ⟨by omega, by omega⟩]
theorem items_app {f : S28 → Option (List UInt8)} : ∀ {xs l ys m}, itemsF f xs = some l → itemsF f ys = some m → itemsF f (xs ++ ys) = some (l ++ m)
 | [], l, ys, m, h, k => by simp [itemsF] at h; subst h; exact k
 | x :: t, l, ys, m, h, k => by
  simp only [itemsF, Option.bind_eq_some_iff] at h
  obtain ⟨a, ha, r, hr, h⟩ := h
  obtain rfl : a :: r = l := by simpa using h
  simp [itemsF, ha, items_app hr k]
theorem items_one {f : S28 → Option (List UInt8)} {x : S28} {r : List UInt8} (h : f x = some r) : itemsF f [x] = some [r] := by simp [itemsF, h]
theorem pairs_put {f : S28 → Option (List UInt8)} {x : S28} {r : List UInt8} {k : ByteArray} (hx : f x = some r) (hk : k.data.toList.length ≤ 1000000) (hr : r.length ≤ 1000000000) :
    ∀ (i : Nat) {xs ns l}, xs.length = ns.length → i ≤ xs.length → pairsF f xs ns = some l → pairsF f (put xs i x) (put ns i k) = some (put l i (quoteL k.data.toList ++ [58] ++ r))
 | 0, xs, ns, l, _, _, h => by
  simp only [put, List.take_zero, List.nil_append, List.drop_zero, List.cons_append, pairsF]
  rw [if_pos hk, hx]
  simp only [Option.bind_some]
  rw [if_pos hr, h]
  rfl
 | i + 1, [], ns, l, _, h, _ => absurd h (by simp)
 | i + 1, x' :: xs, [], l, h, _, _ => absurd h (by simp)
 | i + 1, x' :: xs, k' :: ns, l, hl, hi, h => by
  simp only [pairsF] at h
  split at h
  case isFalse => simp at h
  next hk' =>
  rw [Option.bind_eq_some_iff] at h
  obtain ⟨a, ha, h⟩ := h
  split at h
  case isFalse => simp at h
  next hl' =>
  rw [Option.bind_eq_some_iff] at h
  obtain ⟨q, hq, h⟩ := h
  obtain rfl : (quoteL k'.data.toList ++ [58] ++ a) :: q = l := Option.some.inj h
  have ih := pairs_put hx hk hr i (by simpa using hl) (by simpa using hi) hq
  simp only [put, List.take_succ_cons, List.drop_succ_cons, List.cons_append, pairsF] at ih ⊢
  rw [if_pos hk', ha]
  simp only [Option.bind_some]
  rw [if_pos hl', ih]
  rfl
theorem jl_put (l : List (List UInt8)) (i : Nat) (x : List UInt8) : jl (put l i x) = jl l + x.length + 1 := by
 unfold put
 rw [jl_app, jl_app, jl_one]
 have : jl (l.take i) + jl (l.drop i) = jl l := by rw [← jl_app, List.take_append_drop]
 omega
theorem txF_4 (n : Nat) (l : List S28) : txF (n + 1) ⟨4, false, z24, ⟨#[]⟩, l, []⟩ = (itemsF (txF n) l).bind (wrapF 91 93) := rfl
theorem txF_5 (n : Nat) (l : List S28) (m : List ByteArray) : txF (n + 1) ⟨5, false, z24, ⟨#[]⟩, l, m⟩ = (pairsF (txF n) l m).bind (wrapF 123 125) := rfl
theorem txF_3 (n : Nat) (l : List UInt8) (h : l.length ≤ 1000000) : txF (n + 1) ⟨3, false, z24, ofL l, [], []⟩ = some (quoteL l) := (show txF (n + 1) ⟨3, false, z24, ofL l, [], []⟩ = if l.length ≤ 1000000 then some (quoteL l) else none from rfl).trans (if_pos h)
theorem txF_2 (n : Nat) (a : S24) : txF (n + 1) ⟨2, false, a, ⟨#[]⟩, [], []⟩ = (Pr.num_Text.f a.f0 a.f1 a.f2).bind fun b => some b.data.toList := rfl
def Sized (n : Nat) (f : S → S28 × S) : Prop := ∀ a, a.s.length ≤ 50000 → (f a).2.e = 0 → ∃ r, txF n (f a).1 = some r ∧ r.length + 6 * (f a).2.s.length ≤ 6 * a.s.length
theorem skip_le (a : S) : a.skip.s.length ≤ a.s.length := skip_len a
theorem need_w {a : S} {p : List UInt8} (h : (a.need p).e = 0) : (a.need p).s.length + p.length ≤ a.s.length := by
 unfold S.need at h ⊢
 by_cases ht : a.took p = true
 · rw [if_pos ht, take_yes ht]
   have hp : Lib.hasPrefix a.skip.s p = true := by unfold S.took at ht; simp at ht; exact ht.1
   unfold Lib.trimPrefix
   rw [if_pos hp]
   unfold Lib.hasPrefix at hp
   rw [List.isPrefixOf_iff_prefix] at hp
   have := hp.length_le
   have := skip_le a
   simp only [List.length_drop]
   omega
 rw [if_neg ht] at h
 exact absurd h (fail_ne _ 11 (by decide))
theorem arr_sized {n : Nat} (h : Sized n (gv n)) (c : UInt8) (l : List UInt8) (o : Int) (hl : (c :: l).length ≤ 50000) (h0 : (S.arr (gv n) ⟨c :: l, o, 0⟩).2.e = 0) :
    ∃ r, txF (n + 1) (S.arr (gv n) ⟨c :: l, o, 0⟩).1 = some r ∧ r.length + 6 * (S.arr (gv n) ⟨c :: l, o, 0⟩).2.s.length ≤ 6 * (c :: l).length := by
 have hen : S.enter ⟨c :: l, o, 0⟩ = ⟨l, o + 1, 0⟩ ∨ (S.enter ⟨c :: l, o, 0⟩).e = 35 := by
  unfold S.enter S.enter0
  split
  · right; rfl
  left; rfl
 have h1 : (listG (arrT (gv n)) [93] [] (S.enter ⟨c :: l, o, 0⟩)).2.e = 0 := h0
 rcases hen with hen | hen
 · rw [hen] at h1
   have := listG_inv (st := arrT (gv n)) (Inv := fun xs k => ∃ t, itemsF (txF n) xs = some t ∧ jl t + 6 * k ≤ 6 * l.length + 6 ∧ k ≤ l.length + 1) (fun x a h => arrT_e h n x) (fun x k j ⟨t, h1, h2, h3⟩ hj => ⟨t, h1, by omega, by omega⟩)
    (fun x a ha ⟨t, h1, h2, h3⟩ hv => by
     have hv' : (gv n a).2.e = 0 := hv
     obtain ⟨r, k1, k2⟩ := h a (by simp at hl; omega) hv'
     refine ⟨t ++ [r], items_app h1 (items_one k1), ?_, ?_⟩
     · rw [jl_app, jl_one]
       show jl t + (r.length + 1) + 6 * (gv n a).2.s.length ≤ _
       omega
     have := (keeps_gv n a).len
     show (gv n a).2.s.length ≤ _
     omega) 93 [] ⟨l, o + 1, 0⟩ ⟨[], rfl, by simp [jl]; omega, Nat.le_refl _⟩ h1
   obtain ⟨t, k1, k2, k3⟩ := this
   have hw := wrap_ok (l := t) 91 93 (by simp at hl; omega)
   unfold S.arr
   rw [listF_G, hen]
   refine ⟨91 :: Lib.join t [44] ++ [93], ?_, ?_⟩
   · simp only []
     rw [txF_4, k1]
     exact hw.1
   simp only [List.length_cons]
   have := hw.2
   omega
 · exact absurd h1 (by rw [listG_e (fun x a h => arrT_e h n x) _ _ (by rw [hen]; decide), hen]; decide)
theorem pos_len (ns : List ByteArray) (x : ByteArray) : pos ns x ≤ ns.length := pos_le ns x
theorem obj_sized {n : Nat} (h : Sized n (gv n)) (c : UInt8) (l : List UInt8) (o : Int) (hl : (c :: l).length ≤ 50000) (h0 : (S.obj (gv n) ⟨c :: l, o, 0⟩).2.e = 0) :
    ∃ r, txF (n + 1) (S.obj (gv n) ⟨c :: l, o, 0⟩).1 = some r ∧ r.length + 6 * (S.obj (gv n) ⟨c :: l, o, 0⟩).2.s.length ≤ 6 * (c :: l).length := by
 have hen : S.enter ⟨c :: l, o, 0⟩ = ⟨l, o + 1, 0⟩ ∨ (S.enter ⟨c :: l, o, 0⟩).e = 35 := by
  unfold S.enter S.enter0
  split
  · right; rfl
  left; rfl
 have h1 : (listG (objT (gv n)) [125] ([], []) (S.enter ⟨c :: l, o, 0⟩)).2.e = 0 := h0
 rcases hen with hen | hen
 · rw [hen] at h1
   have := listG_inv (st := objT (gv n)) (Inv := fun p k => ∃ t, pairsF (txF n) p.1 p.2 = some t ∧ p.1.length = p.2.length ∧ jl t + 6 * k ≤ 6 * l.length + 6 ∧ k ≤ l.length + 1) (fun x a h => objT_e h n x) (fun x k j ⟨t, h1, h2, h3, h4⟩ hj => ⟨t, h1, h2, by omega, by omega⟩)
    (fun x a ha ⟨t, h1, h2, h3, h4⟩ hv => by
     unfold objT at hv ⊢
     by_cases hp : Lib.hasPrefix a.skip.s [34] = false
     · rw [if_pos hp] at hv
       exact absurd hv (fail_ne _ 11 (by decide))
     rw [if_neg hp] at hv ⊢
     have hv' : (gv n (objA x.2 a)).2.e = 0 := hv
     have he := e0_of (f := fun a => (gv n a).2) (fun a ha => by rw [gv_bad ha]; rfl) hv'
     have hk : a.skip.s ≠ [] := fun e => hp (by rw [e]; rfl)
     have hst : (a.skip.st).2.e = 0 := by
      refine e0_of (f := fun b => S.need (S.twice b (has x.2 (objN a))) [58]) (fun b hb => ?_) (a := a.skip.st.2) he
      have := twice_e hb (has x.2 (objN a))
      rw [need_e (by rw [this]; exact hb), this]
     have hs1 := st_sz a.skip hk hst
     have hs2 := skip_le a
     have hs3 : (objA x.2 a).s.length + 1 ≤ (a.skip.st).2.s.length := by
      have h7 := need_w (a := S.twice a.skip.st.2 (has x.2 (objN a))) (p := [58]) he
      have h8 : (S.twice a.skip.st.2 (has x.2 (objN a))).s = a.skip.st.2.s := by
       unfold S.twice
       split
       · exact fail_s _ _
       rfl
      rw [h8] at h7
      exact h7
     have hb1 := st_bd a.skip
     obtain ⟨r, k1, k2⟩ := h (objA x.2 a) (by simp at hl; omega) hv'
     have hN : (objN a).data.toList = (a.skip.st).1 := ofL_data _
     have hp2 := pairs_put (k := objN a) k1 (by rw [hN]; simp at hl; omega) (by simp at hl; omega) (pos x.2 (objN a)) h2 (by rw [h2]; exact pos_len _ _) h1
     refine ⟨_, hp2, ?_, ?_, ?_⟩
     · have := pos_len x.2 (objN a)
       simp only [put, List.length_append, List.length_take, List.length_drop, List.length_cons, List.length_nil]
       omega
     · rw [jl_put, hN]
       simp only [List.length_append, List.length_cons, List.length_nil]
       omega
     have := (keeps_gv n (objA x.2 a)).len
     simp only []
     omega) 125 ([], []) ⟨l, o + 1, 0⟩ ⟨[], rfl, rfl, by simp [jl]; omega, Nat.le_refl _⟩ h1
   obtain ⟨t, k1, k4, k2, k3⟩ := this
   have hw := wrap_ok (l := t) 123 125 (by simp at hl; omega)
   unfold S.obj
   rw [listF_G, hen]
   refine ⟨123 :: Lib.join t [44] ++ [125], ?_, ?_⟩
   · simp only []
     rw [txF_5, k1]
     exact hw.1
   simp only [List.length_cons]
   have := hw.2
   omega
 · exact absurd h1 (by rw [listG_e (fun x a h => objT_e h n x) _ _ (by rw [hen]; decide), hen]; decide)
theorem gv_sized : ∀ n, Sized n (gv n)
 | 0 => fun a hl h => by
  exfalso
  unfold gv at h
  split at h
  · exact fail_ne _ 11 (by decide) h
  rename_i h1; exact h1 h
 | n + 1 => fun a hl h => by
  have he : a.e = 0 := e0_of (f := fun a => (gv (n + 1) a).2) (fun a ha => by rw [gv_bad ha]; rfl) h
  have hs := skip_le a
  have hv : gv (n + 1) a = S.value1 textV (S.arr (gv n)) (S.obj (gv n)) a.skip := rfl
  rw [hv] at h ⊢
  have hse : a.skip.e = 0 := he
  generalize a.skip = b at h hs hse ⊢
  obtain ⟨s, o, e⟩ := b
  simp only [] at hs hse
  subst hse
  suffices ∃ r, txF (n + 1) (S.value1 textV (S.arr (gv n)) (S.obj (gv n)) ⟨s, o, 0⟩).1 = some r ∧ r.length + 6 * (S.value1 textV (S.arr (gv n)) (S.obj (gv n)) ⟨s, o, 0⟩).2.s.length ≤ 6 * s.length by
   obtain ⟨r, h1, h2⟩ := this
   exact ⟨r, h1, by omega⟩
  unfold S.value1 at h ⊢
  rw [if_neg (show ¬ (S.mk s o 0).e ≠ 0 from fun h => h rfl)] at h ⊢
  cases s with
  | nil => exact absurd h (fail_ne ⟨[], o, 0⟩ 11 (by decide))
  | cons c l =>
   simp only [] at h ⊢
   have nd : ∀ p r x, p.length = 4 ∨ p.length = 5 → r.length ≤ 5 → txF (n + 1) x = some r → (S.need ⟨c :: l, o, 0⟩ p).e = 0 → ∃ r, txF (n + 1) x = some r ∧ r.length + 6 * (S.need ⟨c :: l, o, 0⟩ p).s.length ≤ 6 * (c :: l).length := fun p r x hp hr hx hn => by
    have h1 := need_w hn
    refine ⟨r, hx, ?_⟩
    simp only [] at h1
    omega
   split at h
   · rename_i hc; rw [if_pos hc]; exact nd _ [110, 117, 108, 108] _ (.inl rfl) (by decide) rfl h
   rename_i hc; rw [if_neg hc]
   split at h
   · rename_i hc; rw [if_pos hc]; exact nd _ [116, 114, 117, 101] _ (.inl rfl) (by decide) rfl h
   rename_i hc; rw [if_neg hc]
   split at h
   · rename_i hc; rw [if_pos hc]; exact nd _ [102, 97, 108, 115, 101] _ (.inr rfl) (by decide) rfl h
   rename_i hc; rw [if_neg hc]
   split at h
   · rename_i hc; rw [if_pos hc]
     have h1 := st_sz ⟨c :: l, o, 0⟩ (by simp) h
     have h2 := st_bd ⟨c :: l, o, 0⟩
     refine ⟨quoteL (S.st ⟨c :: l, o, 0⟩).1, ?_, h1⟩
     exact txF_3 n _ (by simp only [] at h2; omega)
   rename_i hc; rw [if_neg hc]
   split at h
   · rename_i hc; rw [if_pos hc]
     exact arr_sized (gv_sized n) c l o (by omega) h
   rename_i hc; rw [if_neg hc]
   split at h
   · rename_i hc; rw [if_pos hc]
     exact obj_sized (gv_sized n) c l o (by omega) h
   rename_i hc; rw [if_neg hc]
   split at h
   · rename_i hc; rw [if_pos hc]
     have hn : (NumP.parse (S.numL ⟨c :: l, o, 0⟩)).2 = 0 := by
      unfold S.numS at h
      simp only [] at h
      split at h
      · assumption
      rename_i h9
      rw [fail_e0 rfl] at h
      exact absurd h h9
     have ht := num_tx _ hn
     have hL : (S.numL ⟨c :: l, o, 0⟩).length + (S.numS ⟨c :: l, o, 0⟩).s.length = (c :: l).length := by
      have hle := numR_le ⟨c :: l, o, 0⟩
      show (List.take _ _).length + (S.numR ⟨c :: l, o, 0⟩).length = _
      rw [List.length_take]
      simp only [] at hle ⊢
      omega
     refine ⟨NumP.text (NumP.parse (S.numL ⟨c :: l, o, 0⟩)).1, ?_, by simp only []; omega⟩
     refine (txF_2 n _).trans ?_
     have := num_txF _ hn _ 0 rfl
     simp only [] at this
     rw [this]
     rfl
   exact absurd h (fail_ne ⟨c :: l, o, 0⟩ 11 (by decide))
theorem pv_text (s : List UInt8) : ∃ r, txF 17 (pv s).1 = some r ∧ ((pv s).2 = 0 → r.length ≤ 6 * s.length) := by
 generalize hp : pv s = q
 obtain ⟨x, e⟩ := q
 simp only []
 by_cases he : e = 0
 · subst he
   obtain ⟨hl, r, hg, hr⟩ := pv_ok hp
   obtain ⟨t, h1, h2⟩ := gv_sized 17 ⟨s, 0, 0⟩ (by show s.length ≤ _; omega) (by rw [hg])
   rw [hg] at h1 h2
   exact ⟨t, h1, fun _ => by simp only [] at h2; omega⟩
 refine ⟨[110, 117, 108, 108], ?_, fun h => absurd h he⟩
 have hx : x = z28 := by
  by_cases hl : s.length ≤ 4096
  · rw [pv_gv s hl] at hp
    split at hp
    · exact absurd (congrArg Prod.snd hp).symm he
    exact (congrArg Prod.fst hp).symm
  unfold pv parseV at hp
  rw [if_pos (by omega)] at hp
  exact (congrArg Prod.fst hp).symm
 rw [hx]
 rfl
def good (p : Nat × Nat) : Prop := ¬ (p.1 = 65533 ∧ p.2 = 1)
theorem decN_cut (n b0 b1 b2 b3 c1 c2 c3 : Nat) (hn : 1 ≤ n) (hg : good (Lib.decodeN n b0 b1 b2 b3)) (h1 : 1 < (Lib.decodeN n b0 b1 b2 b3).2 → c1 = b1) (h2 : 2 < (Lib.decodeN n b0 b1 b2 b3).2 → c2 = b2) (h3 : 3 < (Lib.decodeN n b0 b1 b2 b3).2 → c3 = b3) :
    Lib.decodeN (Lib.decodeN n b0 b1 b2 b3).2 b0 c1 c2 c3 = Lib.decodeN n b0 b1 b2 b3 ∧ (Lib.decodeN n b0 b1 b2 b3).2 ≤ n ∧ (Lib.decodeN n b0 b1 b2 b3).2 ≤ 4 := by
 unfold good at hg
 generalize hd : Lib.decodeN n b0 b1 b2 b3 = d at *
 unfold Lib.decodeN at hd
 by_cases g0 : b0 < 128
 · rw [if_pos g0] at hd
   subst hd
   refine ⟨?_, hn, by simp⟩
   unfold Lib.decodeN
   rw [if_pos g0]
 rw [if_neg g0] at hd
 by_cases g1 : b0 / 32 = 6 ∧ (1 < n ∧ b1 / 64 = 2)
 · rw [if_pos g1] at hd
   split at hd
   · rename_i k
     subst hd
     have := h1 (by simp)
     subst this
     refine ⟨?_, g1.2.1, by simp⟩
     unfold Lib.decodeN
     rw [if_neg g0, if_pos ⟨g1.1, by simp, g1.2.2⟩, if_pos k]
   subst hd; exact absurd ⟨rfl, rfl⟩ hg
 rw [if_neg g1] at hd
 by_cases g2 : b0 / 16 = 14 ∧ (1 < n ∧ b1 / 64 = 2) ∧ (2 < n ∧ b2 / 64 = 2)
 · rw [if_pos g2] at hd
   split at hd
   · rename_i k
     subst hd
     have k1 := h1 (by simp)
     have k2 := h2 (by simp)
     subst k1 k2
     refine ⟨?_, g2.2.2.1, by simp⟩
     unfold Lib.decodeN
     rw [if_neg g0, if_neg (by omega), if_pos ⟨g2.1, ⟨by simp, g2.2.1.2⟩, ⟨by simp, g2.2.2.2⟩⟩, if_pos k]
   subst hd; exact absurd ⟨rfl, rfl⟩ hg
 rw [if_neg g2] at hd
 by_cases g3 : b0 / 8 = 30 ∧ (1 < n ∧ b1 / 64 = 2) ∧ (2 < n ∧ b2 / 64 = 2) ∧ (3 < n ∧ b3 / 64 = 2)
 · rw [if_pos g3] at hd
   split at hd
   · rename_i k
     subst hd
     have k1 := h1 (by simp)
     have k2 := h2 (by simp)
     have k3 := h3 (by simp)
     subst k1 k2 k3
     refine ⟨?_, g3.2.2.2.1, by simp⟩
     unfold Lib.decodeN
     rw [if_neg g0, if_neg (by omega), if_neg (by omega), if_pos ⟨g3.1, ⟨by simp, g3.2.1.2⟩, ⟨by simp, g3.2.2.1.2⟩, ⟨by simp, g3.2.2.2.2⟩⟩, if_pos k]
   subst hd; exact absurd ⟨rfl, rfl⟩ hg
 rw [if_neg g3] at hd
 subst hd
 exact absurd ⟨rfl, rfl⟩ hg
def Ch (c : List UInt8) : Prop := c ≠ [] ∧ good (Lib.decodeL c) ∧ (Lib.decodeL c).2 = c.length
theorem getD_take (l : List UInt8) (w k : Nat) (h : k < w) : (l.take w).getD k 0 = l.getD k 0 := by simp [List.getD, List.getElem?_take, h]
theorem Ch_take {l : List UInt8} (hl : l ≠ []) (hg : good (Lib.decodeL l)) : Ch (l.take (Lib.decodeL l).2) ∧ Lib.decodeL (l.take (Lib.decodeL l).2) = Lib.decodeL l ∧ (Lib.decodeL l).2 ≤ l.length := by
 have h1 : 1 ≤ l.length := List.length_pos_iff.2 hl
 have hw := Lib.decodeL_width l
 have hle := Lib.decodeL_le l hl
 have hd : Lib.decodeL (l.take (Lib.decodeL l).2) = Lib.decodeL l := by
  have hg' := hg
  rw [Lib.decodeL_N] at hg'
  have hlen : (l.take (Lib.decodeL l).2).length = (Lib.decodeL l).2 := by rw [List.length_take]; omega
  conv => lhs; rw [Lib.decodeL_N]
  rw [hlen]
  have hN := Lib.decodeL_N l
  have := decN_cut l.length (l.getD 0 0).toNat (l.getD 1 0).toNat (l.getD 2 0).toNat (l.getD 3 0).toNat ((l.take (Lib.decodeL l).2).getD 1 0).toNat ((l.take (Lib.decodeL l).2).getD 2 0).toNat ((l.take (Lib.decodeL l).2).getD 3 0).toNat h1 hg'
   (fun h => by rw [← hN] at h; rw [getD_take _ _ _ h]) (fun h => by rw [← hN] at h; rw [getD_take _ _ _ h]) (fun h => by rw [← hN] at h; rw [getD_take _ _ _ h])
  rw [← hN] at this
  rw [getD_take _ _ _ (by omega)]
  exact this.1
 refine ⟨⟨?_, ?_, ?_⟩, hd, hle⟩
 · intro h
   have : (l.take (Lib.decodeL l).2).length = 0 := by rw [h]; rfl
   rw [List.length_take] at this
   omega
 · rw [hd]; exact hg
 rw [hd, List.length_take]; omega
theorem Ch_app {c : List UInt8} (h : Ch c) (t : List UInt8) : Lib.decodeL (c ++ t) = Lib.decodeL c := by
 have hc : 0 < c.length := List.length_pos_iff.2 h.1
 have := dec_more c t 0 hc
 rw [← Lib.decodeL_drop, ← Lib.decodeL_drop, ofL_data, ofL_data, List.drop_zero, List.drop_zero] at this
 exact this h.2.1
inductive U8 : List UInt8 → Prop
  | nil : U8 []
  | cons (c t : List UInt8) : Ch c → U8 t → U8 (c ++ t)
theorem U8.app {a b : List UInt8} (h : U8 a) (k : U8 b) : U8 (a ++ b) := by
 induction h with
 | nil => exact k
 | cons c t hc _ ih => rw [List.append_assoc]; exact .cons c _ hc ih
theorem U8.one {c : List UInt8} (h : Ch c) : U8 c := by have := U8.cons c [] h .nil; rwa [List.append_nil] at this
theorem Ch_ascii (b : UInt8) (h : b.toNat < 128) : Ch [b] := by
 have hd : Lib.decodeL [b] = (b.toNat, 1) := Lib.decodeL_ascii b [] h
 exact ⟨by simp, by rw [hd]; rintro ⟨k, -⟩; simp only [] at k; omega, by rw [hd]; rfl⟩
def plainL : Nat → List UInt8 → Nat × Bool
 | 0, _ => (0, false)
 | n + 1, l =>
  if l = [] then (0, false) else
  if (Lib.decodeL l).1 = 34 ∨ (Lib.decodeL l).1 = 92 then (0, true) else
  if (Lib.decodeL l).1 < 32 then (0, false) else
  if (Lib.decodeL l).1 = 65533 ∧ (Lib.decodeL l).2 < 2 then (0, false) else
  ((Lib.decodeL l).2 + (plainL n (l.drop (Lib.decodeL l).2)).1, (plainL n (l.drop (Lib.decodeL l).2)).2)
theorem plainF_L (s : List UInt8) : ∀ n k, k ≤ s.length → s.length < n + k → plainF (ofL s) n k = (k + (plainL n (s.drop k)).1, (plainL n (s.drop k)).2)
 | 0, k, h, h2 => absurd h2 (by omega)
 | n + 1, k, h, h2 => by
  rw [plainF, plainL, ofL_size]
  by_cases hk : k < s.length
  · have hne : s.drop k ≠ [] := by intro e; have := congrArg List.length e; simp at this; omega
    have hd : Lib.decodeL (s.drop k) = Utf8.decode (ofL s) k := Lib.decodeL_drop (ofL s) k
    have hg : (Lib.decodeGo ((ofL s).extract k s.length)).2 = (Utf8.decode (ofL s) k).2 := by
     have := Lib.decodeGo_extract (ofL s) k (by rw [ofL_size]; exact hk)
     rw [ofL_size] at this
     rw [this]
    have hle := Lib.decodeL_le (s.drop k) hne
    have hw := Lib.decodeL_width (s.drop k)
    rw [if_pos hk, if_neg hne, hd, hg]
    rw [hd] at hle hw
    rw [List.length_drop] at hle
    split
    · simp
    split
    · simp
    split
    · simp
    rw [plainF_L s n _ (by omega) (by omega), List.drop_drop]
    simp only [Prod.mk.injEq, and_true]
    omega
  have : s.drop k = [] := List.drop_eq_nil_of_le (by omega)
  rw [if_neg hk, this, if_pos rfl]
  simp; omega
theorem plain_L (s : List UInt8) (o e : Int) : S.plain ⟨s, o, e⟩ = plainL (s.length + 1) s := by
 unfold S.plain
 rw [plainF_L s _ 0 (Nat.zero_le _) (by rw [ofL_size]; show s.length < s.length + 1 + 0; omega), ofL_size, List.drop_zero]
 simp
theorem plainL_fuel : ∀ (n m : Nat) (l : List UInt8), l.length < n → l.length < m → plainL n l = plainL m l
 | 0, _, _, h, _ => absurd h (by omega)
 | _, 0, _, _, h => absurd h (by omega)
 | n + 1, m + 1, l, h, k => by
  rw [plainL, plainL]
  by_cases hl : l = []
  · rw [if_pos hl, if_pos hl]
  have hw := Lib.decodeL_width l
  have hp : 0 < l.length := List.length_pos_iff.2 hl
  rw [plainL_fuel n m (l.drop (Lib.decodeL l).2) (by rw [List.length_drop]; omega) (by rw [List.length_drop]; omega)]
theorem plainL_U8 : ∀ (n : Nat) (l : List UInt8), (plainL n l).2 = true → U8 (l.take (plainL n l).1)
 | 0, _, h => by cases h
 | n + 1, l, h => by
  rw [plainL] at h ⊢
  by_cases h0 : l = []
  · rw [if_pos h0] at h; cases h
  rw [if_neg h0] at h ⊢
  split
  · exact .nil
  rename_i h1
  rw [if_neg h1] at h
  split
  · exact .nil
  rename_i h2
  rw [if_neg h2] at h
  split
  · exact .nil
  rename_i h3
  rw [if_neg h3] at h
  have hg : good (Lib.decodeL l) := fun hh => h3 ⟨hh.1, by omega⟩
  have hc := Ch_take h0 hg
  have ih := plainL_U8 n (l.drop (Lib.decodeL l).2) h
  simp only []
  rw [List.take_add]
  exact .cons _ _ hc.1 ih
theorem Ch_enc (x : Int) : Ch (encL x) := by
 have key : ∀ c : Nat, c < 55296 ∨ (57343 < c ∧ c ≤ 1114111) → Ch (if c < 128 then [UInt8.ofNat c] else if c < 2048 then [UInt8.ofNat (192 + c / 64), UInt8.ofNat (128 + c % 64)] else if c < 65536 then [UInt8.ofNat (224 + c / 4096), UInt8.ofNat (128 + c / 64 % 64), UInt8.ofNat (128 + c % 64)] else [UInt8.ofNat (240 + c / 262144), UInt8.ofNat (128 + c / 4096 % 64), UInt8.ofNat (128 + c / 64 % 64), UInt8.ofNat (128 + c % 64)]) := by
  intro c hc
  have tn : ∀ k, k < 256 → (UInt8.ofNat k).toNat = k := fun k hk => by rw [UInt8.toNat_ofNat']; omega
  split
  · exact Ch_ascii _ (by rw [tn _ (by omega)]; omega)
  split
  · have hd : Lib.decodeL [UInt8.ofNat (192 + c / 64), UInt8.ofNat (128 + c % 64)] = (c, 2) := by
      rw [Lib.decodeL_N]
      show Lib.decodeN 2 (UInt8.ofNat (192 + c / 64)).toNat (UInt8.ofNat (128 + c % 64)).toNat _ _ = _
      rw [tn _ (by omega), tn _ (by omega)]
      unfold Lib.decodeN
      rw [if_neg (by omega), if_pos ⟨by omega, by decide, by omega⟩, if_pos (by omega)]
      simp; omega
    exact ⟨by simp, by rw [hd]; rintro ⟨-, k⟩; simp at k, by rw [hd]; rfl⟩
  split
  · have hd : Lib.decodeL [UInt8.ofNat (224 + c / 4096), UInt8.ofNat (128 + c / 64 % 64), UInt8.ofNat (128 + c % 64)] = (c, 3) := by
      rw [Lib.decodeL_N]
      show Lib.decodeN 3 (UInt8.ofNat (224 + c / 4096)).toNat (UInt8.ofNat (128 + c / 64 % 64)).toNat (UInt8.ofNat (128 + c % 64)).toNat _ = _
      rw [tn _ (by omega), tn _ (by omega), tn _ (by omega)]
      unfold Lib.decodeN
      rw [if_neg (by omega), if_neg (by omega), if_pos ⟨by omega, ⟨by decide, by omega⟩, ⟨by decide, by omega⟩⟩, if_pos (by omega)]
      simp; omega
    exact ⟨by simp, by rw [hd]; rintro ⟨-, k⟩; simp at k, by rw [hd]; rfl⟩
  · have hd : Lib.decodeL [UInt8.ofNat (240 + c / 262144), UInt8.ofNat (128 + c / 4096 % 64), UInt8.ofNat (128 + c / 64 % 64), UInt8.ofNat (128 + c % 64)] = (c, 4) := by
      rw [Lib.decodeL_N]
      show Lib.decodeN 4 (UInt8.ofNat (240 + c / 262144)).toNat (UInt8.ofNat (128 + c / 4096 % 64)).toNat (UInt8.ofNat (128 + c / 64 % 64)).toNat (UInt8.ofNat (128 + c % 64)).toNat = _
      rw [tn _ (by omega), tn _ (by omega), tn _ (by omega), tn _ (by omega)]
      unfold Lib.decodeN
      rw [if_neg (by omega), if_neg (by omega), if_neg (by omega), if_pos ⟨by omega, ⟨by decide, by omega⟩, ⟨by decide, by omega⟩, ⟨by decide, by omega⟩⟩, if_pos (by omega)]
      simp; omega
    exact ⟨by simp, by rw [hd]; rintro ⟨-, k⟩; simp at k, by rw [hd]; rfl⟩
 unfold encL Utf8.encode
 have hv : ∀ c : Nat, c = (if Utf8.valid x then x.toNat else Utf8.runeError) → c < 55296 ∨ (57343 < c ∧ c ≤ 1114111) := by
  intro c hc
  rw [hc]
  split
  · rename_i h
    simp only [Utf8.valid, Bool.or_eq_true, Bool.and_eq_true, decide_eq_true_eq] at h
    omega
  right; decide
 have := key _ (hv _ rfl)
 simp only []
 generalize (if Utf8.valid x then x.toNat else Utf8.runeError) = c at *
 by_cases h1 : c < 128
 · rw [if_pos h1] at this ⊢; exact this
 rw [if_neg h1] at this ⊢
 by_cases h2 : c < 2048
 · rw [if_pos h2] at this ⊢; exact this
 rw [if_neg h2] at this ⊢
 by_cases h3 : c < 65536
 · rw [if_pos h3] at this ⊢; exact this
 rw [if_neg h3] at this ⊢; exact this
theorem escL_U8 (c : UInt8) (h : ¬ escI c < 0) : U8 (escL (escI c)) := by
 have hb := escI_b c
 have : ∀ i : Fin 8, ∃ b : UInt8, b.toNat < 128 ∧ escL (i.val : Int) = [b] := by
  intro i
  match i with
  | ⟨0, _⟩ => exact ⟨34, by decide, by rfl⟩
  | ⟨1, _⟩ => exact ⟨92, by decide, by rfl⟩
  | ⟨2, _⟩ => exact ⟨47, by decide, by rfl⟩
  | ⟨3, _⟩ => exact ⟨8, by decide, by rfl⟩
  | ⟨4, _⟩ => exact ⟨12, by decide, by rfl⟩
  | ⟨5, _⟩ => exact ⟨10, by decide, by rfl⟩
  | ⟨6, _⟩ => exact ⟨13, by decide, by rfl⟩
  | ⟨7, _⟩ => exact ⟨9, by decide, by rfl⟩
 obtain ⟨b, h1, h2⟩ := this ⟨(escI c).toNat, by omega⟩
 rw [show (((⟨(escI c).toNat, by omega⟩ : Fin 8).val : Int)) = escI c by show ((escI c).toNat : Int) = _; omega] at h2
 rw [h2]
 exact U8.one (Ch_ascii b h1)
theorem sign_U8 (a : S) : U8 (a.sign).1 := by
 unfold S.sign
 split
 · exact U8.one (Ch_enc _)
 split
 · exact .nil
 exact U8.one (Ch_enc _)
theorem esc_U8 (a : S) : U8 (a.esc).1 := by
 obtain ⟨s, o, e⟩ := a
 cases s with
 | nil => exact .nil
 | cons c l =>
  show U8 (S.escT c ⟨l, o, e⟩).1
  unfold S.escT
  split
  · exact sign_U8 _
  split
  · exact .nil
  rename_i h; exact escL_U8 c h
theorem strLoop_U8 : ∀ (n : Nat) (out : List UInt8) (a : S), U8 out → (strLoop S.esc n out a).2.e = 0 → U8 (strLoop S.esc n out a).1
 | 0, out, a, h, _ => h
 | n + 1, out, a, h, he => by
  rw [strLoop] at he ⊢
  split
  · exact h
  rename_i h0
  rw [if_neg h0] at he
  split
  · rename_i h1
    rw [if_pos h1] at he
    exact absurd he (fail_ne _ 11 (by decide))
  rename_i h1
  rw [if_neg h1] at he
  have hu : U8 (a.s.take a.plain.1) := by
   have hp : a.plain.2 = true := by simpa using h1
   rw [show a.plain = plainL (a.s.length + 1) a.s from plain_L a.s a.o a.e] at hp ⊢
   exact plainL_U8 _ _ hp
  split
  · exact h.app hu
  rename_i h2
  rw [if_neg h2] at he
  exact strLoop_U8 n _ _ ((h.app hu).app (esc_U8 _)) he
theorem st_U8 (a : S) (h : (a.st).2.e = 0) : U8 (a.st).1 := strLoop_U8 _ [] _ .nil h
def hexv (b : UInt8) : Option Int :=
 if 48 ≤ b.toNat ∧ b.toNat ≤ 57 then some ((b.toNat : Int) - 48) else if 97 ≤ b.toNat ∧ b.toNat ≤ 102 then some ((b.toNat : Int) - 87) else if 65 ≤ b.toNat ∧ b.toNat ≤ 70 then some ((b.toNat : Int) - 55) else none
theorem hexv_bd {b : UInt8} {v : Int} (h : hexv b = some v) : 0 ≤ v ∧ v < 16 := by
 unfold hexv at h
 repeat' split at h
 all_goals first
  | (cases h; done)
  | (have := Option.some.inj h; omega)
def hexF : List UInt8 → Int → Option Int
 | [], x => some x
 | b :: l, x => (hexv b).bind fun v => hexF l (16 * x + v)
set_option maxRecDepth 100000 in
theorem rows_high : (Lib.caseT.all fun x => decide (x.2.1 < 128) || (decide (128 ≤ x.1) && (decide (x.2.2.2.1 > 1114111) || decide (103 ≤ (x.1 : Int) + x.2.2.2.1)))) = true := by decide +kernel
theorem lower_high (r : Nat) (h : 128 ≤ r) : 103 ≤ Lib.toLowerU (r : Int) := by
 unfold Lib.toLowerU
 rw [if_neg (by omega)]
 unfold Lib.toR Lib.lookupGo
 cases hi : Lib.lookupIdx Lib.caseA r (Lib.caseA.size + 1) 0 Lib.caseA.size with
 | none => simp only [Option.map_none]; omega
 | some i =>
  obtain ⟨hil, hlo, hhi⟩ := Lib.lookupIdx_some Lib.caseA r _ _ _ i hi
  have hm : Lib.caseA.getD i (0, 0, 0, 0, 0) ∈ Lib.caseT := by
   unfold Lib.caseA at hil ⊢
   simp only [List.size_toArray] at hil
   simp [Array.getD, hil]
  have hr := List.all_eq_true.1 rows_high _ hm
  simp only [Option.map_some]
  generalize Lib.caseA.getD i (0, 0, 0, 0, 0) = x at *
  simp only [Bool.or_eq_true, Bool.and_eq_true, decide_eq_true_eq] at hr
  unfold Lib.convertR
  show 103 ≤ (if x.2.2.2.1 > 1114111 then _ else (r : Int) + x.2.2.2.1)
  split
  · omega
  omega
theorem hexI_high (c : Nat) (h : 103 ≤ c) : hexI c = -1 := by
 unfold hexI
 split
 · rename_i h2
   have : ∀ i : Fin 128, 103 ≤ i.val → Lib.indexByte hexS.data.toList i.val.toUInt8 = -1 := by decide +kernel
   exact this ⟨c, h2⟩ h
 rfl
theorem hexI_low : ∀ i : Fin 128, hexI (Lib.lowerB (UInt8.ofNat i.val)).toNat = (hexv (UInt8.ofNat i.val)).getD (-1) ∧ (Lib.lowerB (UInt8.ofNat i.val)).toNat < 128 := by decide +kernel
def fourL : Nat → List UInt8 → Int → Option Int
 | 0, _, _ => none
 | n + 1, l, x => if l = [] then some x else if hexI (Lib.decodeL l).1 < 0 then none else fourL n (l.drop (Lib.decodeL l).2) (stepI x (hexI (Lib.decodeL l).1))
theorem fourLoop_L (s : List UInt8) : ∀ n k x, fourLoop (ofL s) n k x = fourL n (s.drop k) x
 | 0, _, _ => rfl
 | n + 1, k, x => by
  rw [fourLoop, fourL, ofL_size]
  have hd : Lib.decodeL (s.drop k) = Utf8.decode (ofL s) k := Lib.decodeL_drop (ofL s) k
  by_cases hk : k < s.length
  · have hne : s.drop k ≠ [] := by intro e; have := congrArg List.length e; simp at this; omega
    rw [if_pos hk, if_neg hne, hd, fourLoop_L s n, List.drop_drop]
  have : s.drop k = [] := List.drop_eq_nil_of_le (by omega)
  rw [if_neg hk, this, if_pos rfl]
theorem step_is (x i : Int) (h : 0 ≤ x ∧ x < 4096) (hi : 0 ≤ i ∧ i < 16) : stepI x i = 16 * x + i := by
 unfold stepI
 have hw : wrap32 (x * 16) = x * 16 := by unfold wrap32; omega
 rw [hw]
 have := bits_join .i32 17 (by decide) (fun n h0 h1 => by rw [IntKind.wrap_i32]; omega) 4 (x * 16) i (by omega) (by omega) (by omega) hi.1 (by omega) (by omega)
 omega
theorem dec_big (b : UInt8) (l : List UInt8) (h : 128 ≤ b.toNat) : 128 ≤ (Lib.decodeL (b :: l)).1 := by
 rw [Lib.decodeL_N]
 have hb0 : ((b :: l).getD 0 0).toNat = b.toNat := rfl
 rw [hb0]
 unfold Lib.decodeN
 rw [if_neg (by omega)]
 repeat' split
 all_goals (simp only []; omega)
theorem enc_big (v : Int) (h : 103 ≤ v) : ∃ b l, Lib.encodeRune v = b :: l ∧ 103 ≤ b.toNat := by
 unfold Lib.encodeRune Lib.encodeRuneZ
 by_cases h1 : 0 ≤ v ∧ v ≤ 127
 · rw [if_pos h1]; exact ⟨_, _, rfl, by simp; omega⟩
 rw [if_neg h1]
 by_cases h2 : 128 ≤ v ∧ v ≤ 2047
 · rw [if_pos h2]; exact ⟨_, _, rfl, by simp; omega⟩
 rw [if_neg h2]
 by_cases h3 : (2048 ≤ v ∧ v < 55296) ∨ (57343 < v ∧ v ≤ 65535)
 · rw [if_pos h3]; exact ⟨_, _, rfl, by simp; omega⟩
 rw [if_neg h3]
 by_cases h4 : 65536 ≤ v ∧ v ≤ 1114111
 · rw [if_pos h4]; exact ⟨_, _, rfl, by simp; omega⟩
 rw [if_neg h4]; exact ⟨_, _, rfl, by decide⟩
theorem fourL_hex : ∀ (N : Nat) (l : List UInt8), l.length ≤ N → ∀ (n : Nat) (x : Int), l.length ≤ 4 → (0 ≤ x ∧ x < 16 ^ (4 - l.length)) → (Lib.toLowerD l).length < n → fourL n (Lib.toLowerD l) x = hexF l x
 | N, [], _, n, x, _, _, hn => by
  have e : Lib.toLowerD [] = [] := rfl
  obtain ⟨k, rfl⟩ : ∃ k, n = k + 1 := ⟨n - 1, by omega⟩
  rw [e, fourL, if_pos rfl]; rfl
 | 0, b :: l, h, _, _, _, _, _ => absurd h (by simp)
 | N + 1, b :: l, h, n, x, h4, hx, hn => by
  obtain ⟨k, rfl⟩ : ∃ k, n = k + 1 := ⟨n - 1, by omega⟩
  have hstep : Lib.toLowerD (b :: l) = (if 0 ≤ Lib.toLowerU (Lib.decodeL (b :: l)).1 then Lib.encodeRune (Lib.toLowerU (Lib.decodeL (b :: l)).1) else []) ++ Lib.toLowerD ((b :: l).drop (Lib.decodeL (b :: l)).2) := Lib.mapD_step Lib.toLowerU (b :: l) (by simp)
  by_cases hb : b.toNat < 128
  · have hd := Lib.decodeL_ascii b l hb
    have hlow := hexI_low ⟨b.toNat, hb⟩
    simp only [] at hlow
    rw [show UInt8.ofNat b.toNat = b from UInt8.ofNat_toNat] at hlow
    have henc := Lib.lower_byte ⟨b.toNat, hb⟩
    simp only [] at henc
    rw [show UInt8.ofNat b.toNat = b from UInt8.ofNat_toNat] at henc
    rw [hd] at hstep
    simp only [] at hstep
    rw [if_pos (Lib.toLowerU_range b.toNat (by omega)).1, henc, List.drop_succ_cons, List.drop_zero] at hstep
    rw [hstep] at hn ⊢
    have hd2 := Lib.decodeL_ascii (Lib.lowerB b) (Lib.toLowerD l) hlow.2
    show fourL (k + 1) (Lib.lowerB b :: Lib.toLowerD l) x = hexF (b :: l) x
    rw [fourL, if_neg (by simp), hd2]
    simp only []
    unfold hexF
    cases hv : hexv b with
    | none =>
     rw [hv] at hlow
     have h1 : hexI (Lib.lowerB b).toNat = -1 := hlow.1
     rw [h1, if_pos (by decide)]; rfl
    | some v =>
     rw [hv] at hlow
     have hb2 := hexv_bd hv
     have h1 : hexI (Lib.lowerB b).toNat = v := hlow.1
     rw [h1, if_neg (by omega), List.drop_succ_cons, List.drop_zero]
     simp only [List.length_cons] at h4 hx h hn
     have hx2 : x < 4096 := by
      have : (16 : Int) ^ (4 - (l.length + 1)) ≤ 16 ^ 3 := by
       have : 4 - (l.length + 1) ≤ 3 := by omega
       exact_mod_cast Nat.pow_le_pow_right (by decide) this
      have e3 : (16 : Int) ^ 3 = 4096 := by decide
      omega
     rw [step_is x v ⟨hx.1, hx2⟩ hb2]
     refine fourL_hex N l (by omega) k _ (by omega) ⟨by omega, ?_⟩ ?_
     · have e : (4 - l.length) = (4 - (l.length + 1)) + 1 := by omega
       rw [e, Int.pow_succ]
       omega
     simpa using hn
  have hbig := dec_big b l (by omega)
  have hlow := lower_high (Lib.decodeL (b :: l)).1 hbig
  obtain ⟨c, m, he, hc⟩ := enc_big _ hlow
  rw [if_pos (by omega), he] at hstep
  rw [hstep]
  have hnone : hexv b = none := by unfold hexv; rw [if_neg (by omega), if_neg (by omega), if_neg (by omega)]
  rw [hexF, hnone, List.cons_append, fourL, if_neg (by simp)]
  have h103 : 103 ≤ (Lib.decodeL (c :: (m ++ Lib.toLowerD ((b :: l).drop (Lib.decodeL (b :: l)).2)))).1 := by
   by_cases hc2 : c.toNat < 128
   · rw [Lib.decodeL_ascii _ _ hc2]; exact hc
   have := dec_big c (m ++ Lib.toLowerD ((b :: l).drop (Lib.decodeL (b :: l)).2)) (by omega); omega
  rw [hexI_high _ h103, if_pos (by decide)]
  rfl
theorem four_is (l : List UInt8) (o : Int) : S.four ⟨l, o, 0⟩ = match l with
    | b0 :: b1 :: b2 :: b3 :: t => (match hexF [b0, b1, b2, b3] 0 with | some x => (x, ⟨t, o, 0⟩) | none => (0, ⟨l, o, 11⟩))
    | _ => (0, ⟨l, o, 11⟩) := by
 match l with
 | [] => rfl
 | [_] => rfl
 | [_, _] => rfl
 | [_, _, _] => rfl
 | b0 :: b1 :: b2 :: b3 :: t =>
  unfold S.four
  rw [if_neg (by simp)]
  have hlow : S.low ⟨b0 :: b1 :: b2 :: b3 :: t, o, 0⟩ = ofL (Lib.toLowerD [b0, b1, b2, b3]) := rfl
  rw [hlow, fourLoop_L, List.drop_zero, ofL_size, fourL_hex 4 [b0, b1, b2, b3] (by simp) _ 0 (by simp) ⟨by decide, by simp⟩ (by omega)]
  simp only []
  cases hexF [b0, b1, b2, b3] 0 with
  | none => rfl
  | some x => rfl
def pk : List UInt8 → Int
 | [] => 0
 | b :: _ => (b.toNat : Int)
theorem pk_bd (l : List UInt8) : 0 ≤ pk l ∧ pk l ≤ 255 := by
 cases l with
 | nil => exact ⟨Int.le_refl _, by show (0 : Int) ≤ 255; decide⟩
 | cons b l => have := b.toNat_lt; exact ⟨by show (0 : Int) ≤ (b.toNat : Int); omega, by show ((b.toNat : Int)) ≤ 255; omega⟩
theorem w64 {x : Int} (h0 : -1000000000 ≤ x) (h1 : x ≤ 1000000000) : wrap64 x = x := by unfold wrap64; omega
theorem bt_drop (s : List UInt8) (p : Nat) (h : p < s.length) : bt (ofL s) (p : Int) = pk (s.drop p) := by
 unfold bt
 have h2 : (p : Int).toNat < (ofL s).size := by rw [ofL_size]; simpa using h
 rw [dif_pos h2, List.drop_eq_getElem_cons h]
 rfl
theorem peek_f (s : List UInt8) (p : Nat) (o e : Int) : R5_peek.f (ofL s) (p : Int) o e = some (pk (s.drop p), ofL s, (p : Int), o, e) := by
 unfold R5_peek.f
 rw [ofL_size]
 by_cases h : p < s.length
 · rw [if_neg (by omega), if_pos (by omega), if_pos (by omega), bt_drop s p h]
 rw [if_pos (by omega), List.drop_eq_nil_of_le (by omega)]; rfl
theorem fail_f (s : ByteArray) (p o e x : Int) : R5_fail.f s p o e x = some (s, p, o, if e = 0 then x else e) := by
 unfold R5_fail.f
 split <;> rfl
theorem drop_pk {s : List UInt8} {p : Nat} {c : Int} (h : pk (s.drop p) = c) (hc : c ≠ 0) : ∃ b l, s.drop p = b :: l ∧ (b.toNat : Int) = c ∧ s.drop (p + 1) = l ∧ p + 1 ≤ s.length := by
 cases hd : s.drop p with
 | nil => rw [hd] at h; exact absurd h.symm hc
 | cons b l =>
  rw [hd] at h
  refine ⟨b, l, rfl, h, ?_, ?_⟩
  · rw [← List.drop_drop, hd]; rfl
  have := congrArg List.length hd
  simp at this; omega
def hexJ : Nat → List UInt8 → Int → Option (Int × List UInt8)
 | 0, l, x => some (x, l)
 | _ + 1, [], _ => none
 | j + 1, b :: l, x => (hexv b).bind fun v => hexJ j l (16 * x + v)
theorem four_J (l : List UInt8) (o : Int) : S.four ⟨l, o, 0⟩ = match hexJ 4 l 0 with | some (x, t) => (x, ⟨t, o, 0⟩) | none => (0, ⟨l, o, 11⟩) := by
 rw [four_is]
 match l with
 | [] => rfl
 | [a] => simp only [hexJ]; cases hexv a <;> rfl
 | [a, b] =>
  simp only [hexJ]
  cases hexv a with
  | none => rfl
  | some x => simp only [Option.bind_some]; cases hexv b <;> rfl
 | [a, b, c] =>
  simp only [hexJ]
  cases hexv a with
  | none => rfl
  | some x => simp only [Option.bind_some]; cases hexv b with
   | none => rfl
   | some y => simp only [Option.bind_some]; cases hexv c <;> rfl
 | a :: b :: c :: d :: t =>
  simp only [hexJ, hexF]
  cases hexv a with
  | none => rfl
  | some x => simp only [Option.bind_some]; cases hexv b with
   | none => rfl
   | some y => simp only [Option.bind_some]; cases hexv c with
    | none => rfl
    | some z => simp only [Option.bind_some]; cases hexv d <;> rfl
def FourR (s : List UInt8) (o : Int) (q : Option (Int × List UInt8)) (r : Int × ByteArray × Int × Int × Int) : Prop :=
 ∃ p' : Nat, p' ≤ s.length ∧ match q with
  | some (x, t) => r = (x, ofL s, (p' : Int), o, 0) ∧ s.drop p' = t
  | none => r = (0, ofL s, (p' : Int), o, 11)
theorem four_l (s : List UInt8) (hs : s.length ≤ 5000) (o : Int) : ∀ (j i p : Nat) (x : Int), i + j = 4 → (0 ≤ x ∧ x < 16 ^ i) → p ≤ s.length → ∃ r, FourR s o (hexJ j (s.drop p) x) r ∧ Ev (fun k => R5_four.l0 k x (i : Int) (ofL s) (p : Int) o 0) r
 | 0, i, p, x, hi, hx, hp => by
  refine ⟨_, ⟨p, hp, rfl, rfl⟩, Ev.step (f := fun _ => some (x, ofL s, (p : Int), o, 0)) (fun k => ?_) (Ev.now _)⟩
  simp only [R5_four.l0]
  rw [if_neg (by omega)]
 | j + 1, i, p, x, hi, hx, hp => by
  have hx3 : x < 4096 := by
   have : (16 : Int) ^ i ≤ 16 ^ 3 := by exact_mod_cast Nat.pow_le_pow_right (by decide) (show i ≤ 3 by omega)
   have e3 : (16 : Int) ^ 3 = 4096 := by decide
   omega
  have hpb := pk_bd (s.drop p)
  have hgo : ∀ (b : UInt8) (l : List UInt8) (d v : Int), s.drop p = b :: l → hexv b = some v → (b.toNat : Int) - d = v → ∃ r, FourR s o (hexJ (j + 1) (s.drop p) x) r ∧ Ev (fun k => R5_four.l0 k (wrap64 (wrap64 (wrap64 (16 * x) + (b.toNat : Int)) - d)) (wrap64 ((i : Int) + 1)) (ofL s) (wrap64 ((p : Int) + 1)) o 0) r := by
   intro b l d v hd hv hbd
   have hvb := hexv_bd hv
   have hb := b.toNat_lt
   have hl : s.drop (p + 1) = l := by rw [← List.drop_drop, hd]; rfl
   have hp1 : p + 1 ≤ s.length := by have := congrArg List.length hd; simp at this; omega
   obtain ⟨r, h1, h2⟩ := four_l s hs o j (i + 1) (p + 1) (16 * x + v) (by omega) ⟨by omega, by rw [Int.pow_succ]; omega⟩ hp1
   refine ⟨r, ?_, ?_⟩
   · rw [hd]
     unfold hexJ
     rw [hv, Option.bind_some, ← hl]
     exact h1
   · have e1 : wrap64 (wrap64 (wrap64 (16 * x) + (b.toNat : Int)) - d) = 16 * x + v := by
       rw [w64 (x := 16 * x) (by omega) (by omega), w64 (x := 16 * x + (b.toNat : Int)) (by omega) (by omega), w64 (by omega) (by omega)]; omega
     have e2 : wrap64 ((i : Int) + 1) = ((i + 1 : Nat) : Int) := by rw [w64 (by omega) (by omega)]; push_cast; rfl
     have e3 : wrap64 ((p : Int) + 1) = ((p + 1 : Nat) : Int) := by rw [w64 (by omega) (by omega)]; push_cast; rfl
     rw [e1, e2, e3]
     exact h2
  have hbad : hexJ (j + 1) (s.drop p) x = none → FourR s o (hexJ (j + 1) (s.drop p) x) (0, ofL s, (p : Int), o, 11) := fun h => by rw [h]; exact ⟨p, hp, rfl⟩
  obtain ⟨c, hc⟩ : ∃ c, c = pk (s.drop p) := ⟨_, rfl⟩
  have hcb : 0 ≤ c ∧ c ≤ 255 := by rw [hc]; exact hpb
  have hwc : wrap64 c = c := w64 (by omega) (by omega)
  have hl0 : ∀ k, R5_four.l0 (k + 1) x (i : Int) (ofL s) (p : Int) o 0 = R5_four.j1 k x (i : Int) c (decide (48 ≤ c ∧ c ≤ 57)) (ofL s) (p : Int) o 0 := fun k => by
   simp only [R5_four.l0]
   rw [if_pos (by omega), peek_f]
   simp only [Option.bind_some, ← hc, hwc]
   by_cases h : c ≥ 48
   · rw [if_pos h]; simp [h]
   rw [if_neg h]; congr 1; symm; rw [decide_eq_false_iff_not]; omega
  by_cases h1 : 48 ≤ c ∧ c ≤ 57
  · obtain ⟨b, l, hd, hbc, -, -⟩ := drop_pk hc.symm (by omega)
    obtain ⟨r, g1, g2⟩ := hgo b l 48 ((b.toNat : Int) - 48) hd (by unfold hexv; rw [if_pos (by omega)]) rfl
    refine ⟨r, g1, Ev.step hl0 (Ev.step (f := fun k => R5_four.l0 k (wrap64 (wrap64 (wrap64 (16 * x) + (b.toNat : Int)) - 48)) (wrap64 ((i : Int) + 1)) (ofL s) (wrap64 ((p : Int) + 1)) o 0) (fun k => ?_) g2)⟩
    simp only [R5_four.j1]
    rw [if_pos (by simpa using h1), hbc]
  have hj1 : ∀ k, R5_four.j1 (k + 1) x (i : Int) c (decide (48 ≤ c ∧ c ≤ 57)) (ofL s) (p : Int) o 0 = R5_four.j2 k x (i : Int) c (decide (97 ≤ c ∧ c ≤ 102)) (ofL s) (p : Int) o 0 := fun k => by
   simp only [R5_four.j1]
   rw [if_neg (by simpa using h1)]
   by_cases h : c ≥ 97
   · rw [if_pos h]; simp [h]
   rw [if_neg h]; congr 1; symm; rw [decide_eq_false_iff_not]; omega
  by_cases h2 : 97 ≤ c ∧ c ≤ 102
  · obtain ⟨b, l, hd, hbc, -, -⟩ := drop_pk hc.symm (by omega)
    obtain ⟨r, g1, g2⟩ := hgo b l 87 ((b.toNat : Int) - 87) hd (by unfold hexv; rw [if_neg (by omega), if_pos (by omega)]) rfl
    refine ⟨r, g1, Ev.step hl0 (Ev.step hj1 (Ev.step (f := fun k => R5_four.l0 k (wrap64 (wrap64 (wrap64 (16 * x) + (b.toNat : Int)) - 87)) (wrap64 ((i : Int) + 1)) (ofL s) (wrap64 ((p : Int) + 1)) o 0) (fun k => ?_) g2))⟩
    simp only [R5_four.j2]
    rw [if_pos (by simpa using h2), hbc]
  by_cases h3 : 65 ≤ c ∧ c ≤ 70
  · obtain ⟨b, l, hd, hbc, -, -⟩ := drop_pk hc.symm (by omega)
    obtain ⟨r, g1, g2⟩ := hgo b l 55 ((b.toNat : Int) - 55) hd (by unfold hexv; rw [if_neg (by omega), if_neg (by omega), if_pos (by omega)]) rfl
    refine ⟨r, g1, Ev.step hl0 (Ev.step hj1 (Ev.step (f := fun k => R5_four.l0 k (wrap64 (wrap64 (wrap64 (16 * x) + (b.toNat : Int)) - 55)) (wrap64 ((i : Int) + 1)) (ofL s) (wrap64 ((p : Int) + 1)) o 0) (fun k => ?_) g2))⟩
    simp only [R5_four.j2]
    rw [if_neg (by simpa using h2), if_pos (show c ≥ 65 by omega), if_pos (show c ≤ 70 by omega), hbc]
  · have hn : hexJ (j + 1) (s.drop p) x = none := by
      cases hd : s.drop p with
      | nil => rfl
      | cons b l =>
       have hbc : (b.toNat : Int) = c := by rw [hc, hd]; rfl
       unfold hexJ
       have : hexv b = none := by unfold hexv; rw [if_neg (by omega), if_neg (by omega), if_neg (by omega)]
       rw [this]; rfl
    refine ⟨_, hbad hn, Ev.step hl0 (Ev.step hj1 (Ev.step (f := fun _ => some (0, ofL s, (p : Int), o, 11)) (fun k => ?_) (Ev.now _)))⟩
    simp only [R5_four.j2]
    rw [if_neg (by simpa using h2), fail_f]
    split
    · rw [if_neg (by omega)]; rfl
    · rfl
theorem four_ev (s : List UInt8) (hs : s.length ≤ 5000) (o : Int) (p : Nat) (hp : p ≤ s.length) : ∃ r, FourR s o (hexJ 4 (s.drop p) 0) r ∧ Ev (fun k => R5_four.f k (ofL s) (p : Int) o 0) r :=
 four_l s hs o 4 0 p 0 rfl ⟨Int.le_refl _, by decide⟩ hp
def encB (d : Nat) : ByteArray := if d < 128 then ⟨#[UInt8.ofNat d]⟩ else if d < 2048 then ⟨#[UInt8.ofNat (192 + d / 64), UInt8.ofNat (128 + d % 64)]⟩ else if d < 65536 then ⟨#[UInt8.ofNat (224 + d / 4096), UInt8.ofNat (128 + d / 64 % 64), UInt8.ofNat (128 + d % 64)]⟩ else ⟨#[UInt8.ofNat (240 + d / 262144), UInt8.ofNat (128 + d / 4096 % 64), UInt8.ofNat (128 + d / 64 % 64), UInt8.ofNat (128 + d % 64)]⟩
theorem enc_0 (r : Int) : Utf8.encode r = encB (if Utf8.valid r then r.toNat else Utf8.runeError) := by unfold Utf8.encode encB; rfl
theorem enc_2 (c : Nat) (hv : Utf8.valid (c : Int) = true) : (if Utf8.valid (c : Int) = true then (c : Int).toNat else Utf8.runeError) = c := by rw [if_pos hv]; rfl
theorem enc_3 (c : Nat) (hv : Utf8.valid (c : Int) = true) : Utf8.encode (c : Int) = encB c := (enc_0 _).trans (congrArg encB (enc_2 c hv))
theorem encL_nat (c : Nat) (hv : Utf8.valid (c : Int) = true) : ofL (encL (c : Int)) = encB c := (ofL_enc _).trans (enc_3 c hv)
theorem sign_f (x : Int) (h : (0 ≤ x ∧ x < 55296) ∨ (57343 < x ∧ x ≤ 1114111)) : R5Sign.f x = some (ofL (encL x)) := by
 obtain ⟨c, rfl⟩ : ∃ c : Nat, x = c := ⟨x.toNat, by omega⟩
 have hv : Utf8.valid (c : Int) = true := by
  simp only [Utf8.valid, Bool.or_eq_true, Bool.and_eq_true, decide_eq_true_eq]; omega
 have he := encL_nat c hv
 have d64 : Int.tdiv (c : Int) 64 = ((c / 64 : Nat) : Int) := by rw [Int.tdiv_eq_ediv_of_nonneg (by omega)]; omega
 have d4096 : Int.tdiv (c : Int) 4096 = ((c / 4096 : Nat) : Int) := by rw [Int.tdiv_eq_ediv_of_nonneg (by omega)]; omega
 have d26 : Int.tdiv (c : Int) 262144 = ((c / 262144 : Nat) : Int) := by rw [Int.tdiv_eq_ediv_of_nonneg (by omega)]; omega
 have m64 : ∀ a : Nat, Int.tmod (a : Int) 64 = ((a % 64 : Nat) : Int) := fun a => by rw [Int.tmod_eq_emod_of_nonneg (by omega)]; omega
 have un : ∀ (a : Nat), a < 256 → UInt8.ofNat ((a : Int) % 256).toNat = UInt8.ofNat a := fun a ha => by rw [show ((a : Int) % 256).toNat = a by omega]
 have hw : ∀ a : Nat, a ≤ 2000000 → wrap64 (a : Int) = (a : Int) := fun a ha => w64 (by omega) (by omega)
 have ws : ∀ (a b : Nat), a + b ≤ 2000000 → wrap64 ((a : Int) + (b : Int)) = ((a + b : Nat) : Int) := fun a b h => by rw [w64 (by omega) (by omega)]; push_cast; rfl
 have so : ∀ l : List Int, strOfNums l = ofL (l.map fun x : Int => UInt8.ofNat x.toNat) := fun l => rfl
 unfold R5Sign.f
 rw [he]
 unfold encB
 by_cases h1 : c < 128
 · rw [if_pos (by omega), if_pos h1]
   rw [so]; simp only [List.map_cons, List.map_nil]
   rw [un c (by omega)]
   rfl
 rw [if_neg (by omega), if_neg h1]
 have e192 : (192 : Int) = ((192 : Nat) : Int) := rfl
 have e128 : (128 : Int) = ((128 : Nat) : Int) := rfl
 have e224 : (224 : Int) = ((224 : Nat) : Int) := rfl
 have e240 : (240 : Int) = ((240 : Nat) : Int) := rfl
 by_cases h2 : c < 2048
 · rw [if_pos (by omega), if_pos h2]
   rw [so]; simp only [List.map_cons, List.map_nil]
   rw [d64, m64, hw _ (by omega), e192, e128, ws _ _ (by omega), ws _ _ (by omega), un _ (by omega), un _ (by omega)]
   rfl
 rw [if_neg (by omega), if_neg h2]
 by_cases h3 : c < 65536
 · rw [if_pos (by omega), if_pos h3]
   rw [so]; simp only [List.map_cons, List.map_nil]
   rw [d64, d4096, m64, hw (c / 4096) (by omega), hw (c / 64) (by omega), m64, e224, e128, ws _ _ (by omega), ws _ _ (by omega), ws _ _ (by omega), un _ (by omega), un _ (by omega), un _ (by omega)]
   rfl
 rw [if_neg (by omega), if_neg h3]
 rw [so]; simp only [List.map_cons, List.map_nil]
 rw [d64, d4096, d26, m64, hw (c / 262144) (by omega), hw (c / 64) (by omega), hw (c / 4096) (by omega), m64, m64, e240, e128, ws _ _ (by omega), ws _ _ (by omega), ws _ _ (by omega), ws _ _ (by omega), un _ (by omega), un _ (by omega), un _ (by omega), un _ (by omega)]
 rfl
def cmpS (a b : ByteArray) : Int := Lib.compareBytes a.data.toList b.data.toList
structure Ord {α : Type} (P : α → Prop) (g : α → α → Int) : Prop where
  anti : ∀ a b, g a b = - g b a
  tr : ∀ a b c, P a → P b → P c → g a b ≤ 0 → g b c ≤ 0 → g a c ≤ 0
theorem lessC : ∀ a b : List UInt8, Op.bytesLess a b = decide (Lib.compareBytes a b = -1)
 | [], [] => by decide
 | [], _ :: _ => by simp [Op.bytesLess, Lib.compareBytes]
 | _ :: _, [] => by simp [Op.bytesLess, Lib.compareBytes]
 | x :: a, y :: b => by
  simp only [Op.bytesLess, Lib.compareBytes]
  by_cases h : x < y
  · simp [h]
  by_cases h2 : y < x
  · have : x ≠ y := by rintro rfl; exact h h2
    simp [h, h2, this]
  have : x = y := by rw [← UInt8.toNat_inj]; rw [UInt8.lt_iff_toNat_lt] at *; omega
  subst this
  simp only [h, if_false, decide_false, Bool.false_or, beq_self_eq_true, Bool.true_and]
  exact lessC a b
theorem cmpS_anti (a b : ByteArray) : cmpS a b = - cmpS b a := cmpB_anti _ _
theorem cmpS_bd (a b : ByteArray) : -1 ≤ cmpS a b ∧ cmpS a b ≤ 1 := compare_bd _ _
theorem cmpS_zero {a b : ByteArray} (h : cmpS a b = 0) : a = b := by
 have := cmpB_zero _ _ h
 rw [← ofL_of a, ← ofL_of b, this]
theorem cmpS_self (a : ByteArray) : cmpS a a = 0 := by have := cmpS_anti a a; omega
theorem cmpS_lt {a b c : ByteArray} (h : cmpS a b = -1) (k : cmpS b c = -1) : cmpS a c = -1 := by
 have t : cmpS a c ≤ 0 := cmpB_trans _ b.data.toList _ (show cmpS a b ≤ 0 by omega) (show cmpS b c ≤ 0 by omega)
 have hb := cmpS_bd a c
 by_cases h0 : cmpS a c = 0
 · have := cmpS_zero h0
   subst this
   have := cmpS_anti a b
   omega
 omega
def rises (ns : List ByteArray) : Prop := ns.Pairwise fun a b => cmpS a b = -1
def lessB (x a : ByteArray) : Bool := decide (cmpS a x = -1)
theorem bs_spec (less : Nat → Bool) (k N : Nat) (h1 : ∀ t, t < k → less t = true) (h2 : ∀ t, k ≤ t → t < N → less t = false) : ∀ (f lo hi : Nat), hi - lo ≤ f → lo ≤ k → k ≤ hi → hi ≤ N → Lib.bsGo less f lo hi = k
 | 0, lo, hi, hf, hl, hh, _ => by unfold Lib.bsGo; omega
 | f + 1, lo, hi, hf, hl, hh, hn => by
  unfold Lib.bsGo
  by_cases h : lo < hi
  · rw [if_pos h]
    by_cases hk : (lo + hi) / 2 < k
    · rw [h1 _ hk, if_pos rfl]
      exact bs_spec less k N h1 h2 f _ hi (by omega) (by omega) hh hn
    rw [h2 _ (by omega) (by omega), if_neg (by decide)]
    exact bs_spec less k N h1 h2 f lo _ (by omega) hl (by omega) (by omega)
  rw [if_neg h]; omega
theorem tw_lt {p : ByteArray → Bool} {ns : List ByteArray} {i : Nat} (h : i < (ns.takeWhile p).length) : ∃ hi : i < ns.length, p ns[i] = true := by
 have hle := (List.takeWhile_sublist p (l := ns)).length_le
 refine ⟨by omega, ?_⟩
 have h1 : (ns.takeWhile p)[i] ∈ ns.takeWhile p := List.getElem_mem h
 have h2 := List.all_takeWhile (p := p) (l := ns)
 rw [List.all_eq_true] at h2
 have h3 := h2 _ h1
 have h4 : (ns.takeWhile p)[i] = ns[i]'(by omega) := by
  have : ns.takeWhile p <+: ns := List.takeWhile_prefix p
  exact List.IsPrefix.getElem this h
 rwa [h4] at h3
theorem tw_at {p : ByteArray → Bool} : ∀ {ns : List ByteArray} (h : (ns.takeWhile p).length < ns.length), p (ns[(ns.takeWhile p).length]'h) = false
 | [], h => absurd h (by simp)
 | a :: ns, h => by
  by_cases ha : p a = true
  · have e : (a :: ns).takeWhile p = a :: ns.takeWhile p := by simp [List.takeWhile_cons, ha]
    have h' : (ns.takeWhile p).length < ns.length := by rw [e] at h; simpa using h
    have ih := tw_at (p := p) h'
    simp only [e, List.length_cons, List.getElem_cons_succ]
    exact ih
  have e : (a :: ns).takeWhile p = [] := by simp [List.takeWhile_cons, ha]
  simp only [e, List.length_nil, List.getElem_cons_zero]
  simpa using ha
theorem pos_tw {ns : List ByteArray} (h : rises ns) (x : ByteArray) : pos ns x = (ns.takeWhile (lessB x)).length := by
 have hle := (List.takeWhile_sublist (lessB x) (l := ns)).length_le
 have hg : ∀ t, (ht : t < ns.length) → Op.bytesLess (ns.getD t ⟨#[]⟩).toList x.toList = lessB x ns[t] := fun t ht => by
  have : ns.getD t ⟨#[]⟩ = ns[t] := by simp [List.getD, ht]
  rw [this, lessC, ByteArray.toList_eq, ByteArray.toList_eq]; rfl
 refine bs_spec _ _ ns.length (fun t ht => ?_) (fun t ht htn => ?_) _ _ _ (by omega) (Nat.zero_le _) hle (Nat.le_refl _)
 · obtain ⟨hi, hp⟩ := tw_lt ht
   rw [hg t hi]; exact hp
 rw [hg t htn]
 have hk : (ns.takeWhile (lessB x)).length < ns.length := by omega
 have hf := tw_at hk
 by_cases e : t = (ns.takeWhile (lessB x)).length
 · subst e; exact hf
 have hr := List.pairwise_iff_getElem.1 h _ t hk htn (by omega)
 unfold lessB at hf ⊢
 rw [decide_eq_false_iff_not] at hf ⊢
 exact fun h2 => hf (cmpS_lt hr h2)
theorem has_iff {ns : List ByteArray} (h : rises ns) (x : ByteArray) : has ns x = true ↔ x ∈ ns := by
 unfold has
 rw [decide_eq_true_iff, pos_tw h x]
 constructor
 · rintro ⟨h1, h2⟩
   have : ns.getD (ns.takeWhile (lessB x)).length ⟨#[]⟩ = ns[(ns.takeWhile (lessB x)).length] := by simp [List.getD, h1]
   rw [this] at h2
   rw [← h2]; exact List.getElem_mem h1
 intro hx
 obtain ⟨i, hi, rfl⟩ := List.mem_iff_getElem.1 hx
 have e : (ns.takeWhile (lessB ns[i])).length = i := by
  rcases Nat.lt_trichotomy (ns.takeWhile (lessB ns[i])).length i with hlt | heq | hgt
  · exfalso
    have hf := tw_at (p := lessB ns[i]) (ns := ns) (by omega)
    have hr := List.pairwise_iff_getElem.1 h _ i (by omega) hi hlt
    unfold lessB at hf
    rw [decide_eq_false_iff_not] at hf
    exact hf hr
  · exact heq
  exfalso
  obtain ⟨hi2, hp⟩ := tw_lt hgt
  unfold lessB at hp
  rw [decide_eq_true_iff, cmpS_self] at hp
  exact absurd hp (by decide)
 rw [e]
 exact ⟨hi, by simp [List.getD, hi]⟩
theorem take_tw (p : ByteArray → Bool) (ns : List ByteArray) : ns.take (ns.takeWhile p).length = ns.takeWhile p := by
 conv => lhs; arg 2; rw [← List.takeWhile_append_dropWhile (p := p) (l := ns)]
 rw [List.take_left']
 rfl
theorem drop_tw' (p : ByteArray → Bool) (ns : List ByteArray) : ns.drop (ns.takeWhile p).length = ns.dropWhile p := by
 conv => lhs; arg 2; rw [← List.takeWhile_append_dropWhile (p := p) (l := ns)]
 rw [List.drop_left']
 rfl
theorem put_rises {ns : List ByteArray} (h : rises ns) {x : ByteArray} (hx : has ns x = false) : rises (put ns (pos ns x) x) := by
 have hnx : x ∉ ns := fun hm => by rw [(has_iff h x).2 hm] at hx; cases hx
 have hsp := List.takeWhile_append_dropWhile (p := lessB x) (l := ns)
 have hr : rises (ns.takeWhile (lessB x) ++ ns.dropWhile (lessB x)) := by rw [hsp]; exact h
 unfold rises at hr
 rw [List.pairwise_append] at hr
 unfold put
 rw [pos_tw h x, take_tw, drop_tw']
 have hl : ∀ a ∈ ns.takeWhile (lessB x), cmpS a x = -1 := fun a ha => by
  have h2 := List.all_takeWhile (p := lessB x) (l := ns)
  rw [List.all_eq_true] at h2
  have := h2 a ha
  unfold lessB at this
  rwa [decide_eq_true_iff] at this
 have hd : ∀ b ∈ ns.dropWhile (lessB x), cmpS x b = -1 := fun b hb => by
  have hbn : b ∈ ns := by rw [← hsp]; exact List.mem_append_right _ hb
  have h1 : cmpS b x ≠ -1 := fun hlt => by
   cases hdw : ns.dropWhile (lessB x) with
   | nil => rw [hdw] at hb; cases hb
   | cons c l =>
    have hc : lessB x c = false := by
     have := List.head?_dropWhile_not (lessB x) ns
     rw [hdw] at this
     simpa using this
    rw [hdw] at hb hr
    unfold lessB at hc
    rw [decide_eq_false_iff_not] at hc
    rcases List.mem_cons.1 hb with rfl | hb
    · exact hc hlt
    exact hc (cmpS_lt ((List.pairwise_cons.1 hr.2.1).1 b hb) hlt)
  have h2 : cmpS b x ≠ 0 := fun h0 => hnx (by rw [← cmpS_zero h0]; exact hbn)
  have h3 := cmpS_bd b x
  have h4 := cmpS_anti x b
  omega
 unfold rises
 rw [List.append_assoc, List.pairwise_append]
 refine ⟨hr.1, ?_, fun a ha b hb => ?_⟩
 · rw [List.singleton_append, List.pairwise_cons]
   exact ⟨hd, hr.2.1⟩
 rw [List.singleton_append, List.mem_cons] at hb
 rcases hb with rfl | hb
 · exact hl a ha
 exact cmpS_lt (hl a ha) (hd b hb)
def Wv : Nat → S28 → Prop
 | 0, _ => False
 | n + 1, x => x = z28 ∨ (∃ b, x = ⟨1, b, z24, ⟨#[]⟩, [], []⟩) ∨ (∃ d D e, x = ⟨2, false, ⟨d, ofL D, e⟩, ⟨#[]⟩, [], []⟩ ∧ NumP.right (d, D, e) = true) ∨ (∃ l, x = ⟨3, false, z24, ofL l, [], []⟩ ∧ U8 l) ∨
  (∃ xs, x = ⟨4, false, z24, ⟨#[]⟩, xs, []⟩ ∧ 1 ≤ n ∧ ∀ y ∈ xs, Wv n y) ∨ (∃ xs ns, x = ⟨5, false, z24, ⟨#[]⟩, xs, ns⟩ ∧ 1 ≤ n ∧ xs.length = ns.length ∧ (∀ y ∈ xs, Wv n y) ∧ rises ns ∧ ∀ k ∈ ns, U8 k.data.toList)
variable {σ : Type}
theorem loop_inv2 {st : σ → S → σ × S} {Inv : σ → Prop} {P : S → Prop} (he : ∀ x a, a.e ≠ 0 → (st x a).2.e = a.e) (hP : ∀ a p, P a → P (a.take p)) (hPs : ∀ x a, P a → P (st x a).2)
    (hst : ∀ x a, P a → Inv x → (st x a).2.e = 0 → Inv (st x a).1) :
    ∀ n x a, P a → Inv x → (listLoop st n x a).2.e = 0 → Inv (listLoop st n x a).1
 | 0, x, a, _, h, _ => h
 | n + 1, x, a, hp, h, h0 => by
  unfold listLoop at h0 ⊢
  by_cases ht : a.took [44] = true
  · rw [if_pos ht] at h0 ⊢
    have h1 : (st x (a.take [44])).2.e = 0 := by
     by_cases hq : (st x (a.take [44])).2.e = 0
     · exact hq
     exact absurd ((loop_bad st hq n _).symm.trans h0) hq
    exact loop_inv2 he hP hPs hst n _ _ (hPs _ _ (hP _ _ hp)) (hst x _ (hP _ _ hp) h h1) h0
  rw [if_neg ht]; exact h
theorem listG_inv2 {st : σ → S → σ × S} {Inv : σ → Prop} {P : S → Prop} (he : ∀ x a, a.e ≠ 0 → (st x a).2.e = a.e) (hP : ∀ a p, P a → P (a.take p)) (hPs : ∀ x a, P a → P (st x a).2)
    (hst : ∀ x a, P a → Inv x → (st x a).2.e = 0 → Inv (st x a).1) (d : UInt8) (x : σ) (a : S) (hp : P a) (h : Inv x) (h0 : (listG st [d] x a).2.e = 0) : Inv (listG st [d] x a).1 := by
 unfold listG at h0 ⊢
 by_cases ht : a.took [d] = true
 · rw [if_pos ht]; exact h
 · rw [if_neg ht] at h0 ⊢
   have h3 : ((listLoop st ((st x (a.take [d])).2.s.length + 1) (st x (a.take [d])).1 (st x (a.take [d])).2).2.need [d]).e = 0 := h0
   have h2 := e0_of (f := fun a => a.need [d]) (fun a ha => need_e ha [d]) h3
   have h1 : (st x (a.take [d])).2.e = 0 := by
    by_cases hq : (st x (a.take [d])).2.e = 0
    · exact hq
    exact absurd ((loop_bad st hq _ _).symm.trans h2) hq
   exact loop_inv2 he hP hPs hst _ _ _ (hPs _ _ (hP _ _ hp)) (hst x _ (hP _ _ hp) h h1) h2
theorem gv_Wv : ∀ (n : Nat) (a : S), a.o + n = 17 → (gv n a).2.e = 0 → Wv n (gv n a).1
 | 0, a, _, h => by
  exfalso
  unfold gv at h
  split at h
  · exact fail_ne _ 11 (by decide) h
  rename_i h1; exact h1 h
 | n + 1, a, ho, h => by
  have hv : gv (n + 1) a = S.value1 textV (S.arr (gv n)) (S.obj (gv n)) a.skip := rfl
  rw [hv] at h ⊢
  have hso : a.skip.o + ((n + 1 : Nat) : Int) = 17 := ho
  generalize a.skip = b at h hso ⊢
  have hen : (b.enter).e = 0 → 1 ≤ n ∧ b.enter.o + (n : Int) = 17 := fun h0 => by
   have hf := enter_facts b
   refine ⟨?_, by rw [hf.2.1]; push_cast at hso; omega⟩
   by_cases h16 : b.o = 16
   · exact absurd h0 (hf.2.2.2 h16)
   push_cast at hso; omega
  unfold S.value1 at h ⊢
  split at h
  · rename_i h0; exact absurd h h0
  rename_i h0; rw [if_neg h0]
  split at h
  · exact absurd h (fail_ne _ 11 (by decide))
  rename_i c l hs
  split at h
  · rename_i hc; rw [if_pos hc]; exact .inl rfl
  rename_i hc; rw [if_neg hc]
  split at h
  · rename_i hc; rw [if_pos hc]; exact .inr (.inl ⟨true, rfl⟩)
  rename_i hc; rw [if_neg hc]
  split at h
  · rename_i hc; rw [if_pos hc]; exact .inr (.inl ⟨false, rfl⟩)
  rename_i hc; rw [if_neg hc]
  split at h
  · rename_i hc; rw [if_pos hc]; exact .inr (.inr (.inr (.inl ⟨b.st.1, rfl, st_U8 b h⟩)))
  rename_i hc; rw [if_neg hc]
  split at h
  · rename_i hc; rw [if_pos hc]
    have h1 : (listG (arrT (gv n)) [93] [] b.enter).2.e = 0 := h
    have he := hen (e0_of (f := fun a => (listG (arrT (gv n)) [93] [] a).2) (fun a ha => listG_e (fun x a h => arrT_e h n x) _ _ ha) h1)
    have := listG_inv2 (st := arrT (gv n)) (Inv := fun xs => ∀ y ∈ xs, Wv n y) (P := fun a => a.o + (n : Int) = 17) (fun x a h => arrT_e h n x) (fun a p h => by rw [take_o]; exact h) (fun x a h => by show (gv n a).2.o + _ = _; rw [(keeps_gv n a).o]; exact h)
     (fun x a ha hi hv y hy => by
      rcases List.mem_append.1 hy with hy | hy
      · exact hi y hy
      rw [List.mem_singleton] at hy; rw [hy]; exact gv_Wv n a ha hv) 93 [] b.enter he.2 (fun y hy => by cases hy) h1
    exact .inr (.inr (.inr (.inr (.inl ⟨_, rfl, he.1, this⟩))))
  rename_i hc; rw [if_neg hc]
  split at h
  · rename_i hc; rw [if_pos hc]
    have h1 : (listG (objT (gv n)) [125] ([], []) b.enter).2.e = 0 := h
    have he := hen (e0_of (f := fun a => (listG (objT (gv n)) [125] ([], []) a).2) (fun a ha => listG_e (fun x a h => objT_e h n x) _ _ ha) h1)
    have := listG_inv2 (st := objT (gv n)) (Inv := fun p => p.1.length = p.2.length ∧ (∀ y ∈ p.1, Wv n y) ∧ rises p.2 ∧ ∀ k ∈ p.2, U8 k.data.toList) (P := fun a => a.o + (n : Int) = 17) (fun x a h => objT_e h n x) (fun a p h => by rw [take_o]; exact h)
     (fun x a h => by
      unfold objT
      split
      · show (a.skip.fail 11).o + _ = _; rw [fail_o]; exact h
      show (gv n (objA x.2 a)).2.o + _ = _; rw [(keeps_gv n _).o, (keeps_objA x.2 a).o]; exact h)
     (fun x a ha ⟨i1, i2, i3, i4⟩ hv => by
      unfold objT at hv ⊢
      by_cases hp : Lib.hasPrefix a.skip.s [34] = false
      · rw [if_pos hp] at hv
        exact absurd hv (fail_ne _ 11 (by decide))
      rw [if_neg hp] at hv ⊢
      have hv' : (gv n (objA x.2 a)).2.e = 0 := hv
      have he := e0_of (f := fun a => (gv n a).2) (fun a ha => by rw [gv_bad ha]; rfl) hv'
      have h9 := pos_len x.2 (objN a)
      have ht : (S.twice a.skip.st.2 (has x.2 (objN a))).e = 0 := e0_of (f := fun b => S.need b [58]) (fun b hb => need_e hb [58]) he
      have hst : (a.skip.st).2.e = 0 := e0_of (f := fun b => S.twice b (has x.2 (objN a))) (fun b hb => twice_e hb _) ht
      have hh : has x.2 (objN a) = false := by
       cases hb : has x.2 (objN a) with
       | false => rfl
       | true =>
        rw [hb] at ht
        unfold S.twice at ht
        rw [if_pos rfl] at ht
        exact absurd ht (fail_ne _ 31 (by decide))
      refine ⟨?_, fun q hq => ?_, put_rises i3 hh, fun k hk => ?_⟩
      · simp only [put, List.length_append, List.length_take, List.length_drop, List.length_cons, List.length_nil]
        omega
      · simp only [put, List.mem_append, List.mem_singleton] at hq
        rcases hq with (hq | hq) | hq
        · exact i2 q (List.mem_of_mem_take hq)
        · rw [hq]; exact gv_Wv n _ (by rw [(keeps_objA x.2 a).o]; exact ha) hv'
        exact i2 q (List.mem_of_mem_drop hq)
      simp only [put, List.mem_append, List.mem_singleton] at hk
      rcases hk with (hk | hk) | hk
      · exact i4 k (List.mem_of_mem_take hk)
      · rw [hk]; exact st_U8 a.skip hst
      exact i4 k (List.mem_of_mem_drop hk)) 125 ([], []) b.enter he.2 ⟨rfl, fun y hy => (by cases hy), List.Pairwise.nil, fun k hk => (by cases hk)⟩ h1
    exact .inr (.inr (.inr (.inr (.inr ⟨_, _, rfl, he.1, this.1, this.2.1, this.2.2.1, this.2.2.2⟩))))
  rename_i hc; rw [if_neg hc]
  split at h
  · rename_i hc; rw [if_pos hc]
    have hn : (NumP.parse b.numL).2 = 0 := by
     unfold S.numS at h
     simp only [] at h
     split at h
     · assumption
     rename_i h9
     exact absurd h (fail_ne _ _ h9)
    obtain ⟨k1, k2, k3⟩ := parse_0 hn
    refine .inr (.inr (.inl ⟨(NumP.parse b.numL).1.1, (NumP.parse b.numL).1.2.1, (NumP.parse b.numL).1.2.2, rfl, ?_⟩))
    rw [k3]; exact k2
  exact absurd h (fail_ne _ 11 (by decide))
theorem Wv_z (n : Nat) : Wv (n + 1) z28 := .inl rfl
theorem pv_Wv (s : List UInt8) : Wv 17 (pv s).1 := by
 generalize hp : pv s = q
 obtain ⟨x, e⟩ := q
 by_cases he : e = 0
 · subst he
   obtain ⟨hl, r, hg, hr⟩ := pv_ok hp
   have := gv_Wv 17 ⟨s, 0, 0⟩ rfl (by rw [hg])
   rwa [hg] at this
 · have hx : x = z28 := by
     by_cases hl : s.length ≤ 4096
     · rw [pv_gv s hl] at hp
       split at hp
       · exact absurd (congrArg Prod.snd hp).symm he
       exact (congrArg Prod.fst hp).symm
     · unfold pv parseV at hp
       rw [if_pos (by omega)] at hp
       exact (congrArg Prod.fst hp).symm
   rw [hx]
   exact Wv_z 16
theorem trim_cons {c : UInt8} (h : [32, 9, 10, 13].contains c = false) (l : List UInt8) : Lib.trimLeftS (c :: l) [32, 9, 10, 13] = c :: l := by
 unfold Lib.trimLeftS
 rw [List.dropWhile_cons, h]; rfl
theorem gv_skip : ∀ (n : Nat) (a b : S), a.skip = b.skip → gv n a = gv n b
 | 0, a, b, h => by
  have he : a.e = b.e := show a.skip.e = b.skip.e from congrArg S.e h
  unfold gv; rw [h, he]
 | n + 1, a, b, h => by
  show S.value1 _ _ _ a.skip = S.value1 _ _ _ b.skip
  rw [h]
theorem plainL_stop (n : Nat) (b : UInt8) (l : List UInt8) (h : b = 34 ∨ b = 92) : plainL (n + 1) (b :: l) = (0, true) := by
 have hb : b.toNat < 128 := by rcases h with rfl | rfl <;> decide
 have hd := Lib.decodeL_ascii b l hb
 rw [plainL, if_neg (by simp), hd, if_pos]
 rcases h with rfl | rfl
 · exact .inl rfl
 exact .inr rfl
theorem plainL_cons (n : Nat) {c : List UInt8} (hc : Ch c) (h1 : (Lib.decodeL c).1 ≠ 34) (h2 : (Lib.decodeL c).1 ≠ 92) (h3 : 32 ≤ (Lib.decodeL c).1) (l : List UInt8) :
    plainL (n + 1) (c ++ l) = (c.length + (plainL n l).1, (plainL n l).2) := by
 have hne : c ++ l ≠ [] := by simp [hc.1]
 have hw := Lib.decodeL_width c
 have hg : ¬ ((Lib.decodeL c).1 = 65533 ∧ (Lib.decodeL c).2 < 2) := fun h => hc.2.1 ⟨h.1, by omega⟩
 rw [plainL, if_neg hne, Ch_app hc, if_neg (by rintro (h | h) <;> contradiction), if_neg (by omega), if_neg hg, hc.2.2, List.drop_left']
 rfl
theorem strLoop_plain (n : Nat) (out : List UInt8) {c : List UInt8} (hc : Ch c) (h1 : (Lib.decodeL c).1 ≠ 34) (h2 : (Lib.decodeL c).1 ≠ 92) (h3 : 32 ≤ (Lib.decodeL c).1) (l : List UInt8) (o : Int) (hl : (plainL (l.length + 1) l).2 = true) :
    strLoop S.esc (n + 1) out ⟨c ++ l, o, 0⟩ = strLoop S.esc (n + 1) (out ++ c) ⟨l, o, 0⟩ := by
 have hp : S.plain ⟨c ++ l, o, 0⟩ = (c.length + (S.plain ⟨l, o, 0⟩).1, (S.plain ⟨l, o, 0⟩).2) := by
  have hcl : 0 < c.length := List.length_pos_iff.2 hc.1
  rw [plain_L, plain_L, plainL_cons _ hc h1 h2 h3, plainL_fuel (c ++ l).length (l.length + 1) l (by rw [List.length_append]; omega) (by omega)]
 have hl' : (S.plain ⟨l, o, 0⟩).2 = true := by rw [plain_L]; exact hl
 have hlt := (plain_le ⟨l, o, 0⟩).2 hl'
 simp only [] at hlt
 rw [strLoop_ok, strLoop_ok]
 have hcut : S.cut ⟨c ++ l, o, 0⟩ = S.cut ⟨l, o, 0⟩ := by
  unfold S.cut
  rw [hp]
  simp only []
  rw [show c.length + (S.plain ⟨l, o, 0⟩).1 + 1 = c.length + ((S.plain ⟨l, o, 0⟩).1 + 1) by omega, ← List.drop_drop, List.drop_left' rfl]
 have htk : (c ++ l).take (S.plain ⟨c ++ l, o, 0⟩).1 = c ++ l.take (S.plain ⟨l, o, 0⟩).1 := by
  rw [hp]
  simp only []
  rw [List.take_append, List.take_of_length_le (by omega)]
  congr 2
  omega
 have hgd : (c ++ l).getD (S.plain ⟨c ++ l, o, 0⟩).1 0 = l.getD (S.plain ⟨l, o, 0⟩).1 0 := by
  rw [hp]
  simp only []
  rw [List.getD_eq_getElem?_getD, List.getD_eq_getElem?_getD, List.getElem?_append_right (by omega)]
  congr 2
  omega
 rw [hcut, htk, hgd]
 have h2e : (S.plain ⟨c ++ l, o, 0⟩).2 = true := by rw [hp]; exact hl'
 have htf : ¬ (true = false) := by decide
 rw [h2e, hl', if_neg htf, if_neg htf]
 simp only [List.append_assoc]
theorem tx_num {n : Nat} {d : Bool} {D : List UInt8} {e : Int} {r : List UInt8} (h : NumP.right (d, D, e) = true) (hr : txF (n + 1) ⟨2, false, ⟨d, ofL D, e⟩, ⟨#[]⟩, [], []⟩ = some r) : r = NumP.text (d, D, e) := by
 rw [txF_2] at hr
 have hb := right_bd' h
 simp only [] at hr
 rw [text_f' d D e (by omega) (by omega)] at hr
 simp only [Option.bind_some, Option.some.injEq] at hr
 exact hr.symm
theorem tx_str {n : Nat} {l r : List UInt8} (hr : txF (n + 1) ⟨3, false, z24, ofL l, [], []⟩ = some r) : r = quoteL l := by
 have : txF (n + 1) ⟨3, false, z24, ofL l, [], []⟩ = if l.length ≤ 1000000 then some (quoteL l) else none := rfl
 rw [this] at hr
 split at hr
 · exact (Option.some.inj hr).symm
 cases hr
theorem wrap_some {a b : UInt8} {l : List (List UInt8)} {r : List UInt8} (h : wrapF a b l = some r) : r = a :: Lib.join l [44] ++ [b] := by
 unfold wrapF at h
 split at h
 · exact (Option.some.inj h).symm
 cases h
def longV (l : List UInt8) : Int := if l = [] ∨ ((Lib.decodeL l).1 = 65533 ∧ (Lib.decodeL l).2 = 1) then 0 else ((Lib.decodeL l).2 : Int)
theorem bt_get (l : List UInt8) (i : Nat) (h : i < l.length) : bt (ofL l) (i : Int) = ((l.getD i 0).toNat : Int) := by
 rw [bt_drop l i h, List.drop_eq_getElem_cons h]
 show ((l[i]).toNat : Int) = _
 simp [List.getD, h]
def longEnd (n least x : Int) : Int := if x < least then 0 else if x > 1114111 then 0 else if x ≥ 55296 ∧ x ≤ 57343 then 0 else n
theorem long_end (k : Nat) (l : List UInt8) (n least x : Int) : R5Long.l0 (k + 1) (ofL l) n least x n = some (longEnd n least x) := by
 simp only [R5Long.l0]
 rw [if_neg (by omega)]
 unfold longEnd
 split
 · rfl
 split
 · rfl
 by_cases h1 : x ≥ 55296
 · rw [if_pos h1]
   by_cases h2 : x ≤ 57343
   · rw [if_pos h2, if_pos ⟨h1, h2⟩]
   rw [if_neg h2, if_neg (by omega)]
 rw [if_neg h1, if_neg (by omega)]
theorem long_step (k : Nat) (l : List UInt8) (n : Nat) (least x : Int) (i : Nat) (hi : i < n) (hn : n ≤ l.length) (hl : l.length ≤ 100000) (hx : 0 ≤ x ∧ x ≤ 10000000) :
    R5Long.l0 (k + 1) (ofL l) (n : Int) least x (i : Int) = if (l.getD i 0).toNat / 64 = 2 then R5Long.l0 k (ofL l) (n : Int) least (64 * x + (((l.getD i 0).toNat % 64 : Nat) : Int)) ((i + 1 : Nat) : Int) else some 0 := by
 simp only [R5Long.l0]
 have hb := (l.getD i 0).toNat_lt
 rw [if_pos (by omega), if_pos (by omega), ofL_size, if_pos (by omega), bt_get l i (by omega)]
 generalize (l.getD i 0).toNat = b at *
 by_cases h1 : (b : Int) < 128
 · rw [if_pos h1, if_neg (by omega)]
 rw [if_neg h1]
 by_cases h2 : (b : Int) > 191
 · rw [if_pos h2, if_neg (by omega)]
 · rw [if_neg h2, if_pos (by omega)]
   rw [w64 (x := 64 * x) (by omega) (by omega), w64 (x := (b : Int)) (by omega) (by omega), w64 (x := 64 * x + (b : Int)) (by omega) (by omega), w64 (x := 64 * x + (b : Int) - 128) (by omega) (by omega), w64 (x := (i : Int) + 1) (by omega) (by omega)]
   congr 1
   omega
set_option maxRecDepth 100000 in
theorem long_ev (l : List UInt8) (hl : l.length ≤ 100000) : Ev (fun k => R5Long.f k (ofL l)) (longV l) := by
 refine ⟨20, fun k hk => ?_⟩
 obtain ⟨m, rfl⟩ : ∃ m, k = m + 7 := ⟨k - 7, by omega⟩
 show R5Long.f (m + 7) (ofL l) = some (longV l)
 unfold R5Long.f longV
 rw [ofL_toList]
 by_cases h0 : l = []
 · rw [if_pos h0, if_pos (.inl h0)]
 have hp : 1 ≤ l.length := List.length_pos_iff.2 h0
 rw [if_neg h0, ofL_size, if_pos (by omega), show ((0 : Int)) = ((0 : Nat) : Int) from rfl, bt_get l 0 (by omega)]
 rw [Lib.decodeL_N]
 have hb0 := (l.getD 0 0).toNat_lt
 have hb1 := (l.getD 1 0).toNat_lt
 have hb2 := (l.getD 2 0).toNat_lt
 have hb3 := (l.getD 3 0).toNat_lt
 rw [w64 (x := ((l.getD 0 0).toNat : Int)) (by omega) (by omega)]
 have hst := fun (k n : Nat) (least x : Int) (i : Nat) (hi : i < n) (hn : n ≤ l.length) (hx : 0 ≤ x ∧ x ≤ 10000000) => long_step k l n least x i hi hn hl hx
 have s1 := fun (k n : Nat) (least x : Int) (hi : 1 < n) (hn : n ≤ l.length) (hx : 0 ≤ x ∧ x ≤ 10000000) => hst k n least x 1 hi hn hx
 have s2 := fun (k n : Nat) (least x : Int) (hi : 2 < n) (hn : n ≤ l.length) (hx : 0 ≤ x ∧ x ≤ 10000000) => hst k n least x 2 hi hn hx
 have s3 := fun (k n : Nat) (least x : Int) (hi : 3 < n) (hn : n ≤ l.length) (hx : 0 ≤ x ∧ x ≤ 10000000) => hst k n least x 3 hi hn hx
 clear hst
 have hle := fun (k : Nat) (n least x : Int) => long_end k l n least x
 have hsz : ((ofL l).size : Int) = (l.length : Int) := by rw [ofL_size]
 generalize (l.getD 0 0).toNat = b0 at *
 generalize (l.getD 1 0).toNat = b1 at *
 generalize (l.getD 2 0).toNat = b2 at *
 generalize (l.getD 3 0).toNat = b3 at *
 generalize l.length = n at *
 have bad : Lib.decodeN n b0 b1 b2 b3 = (65533, 1) → some (0 : Int) = some (if l = [] ∨ ((Lib.decodeN n b0 b1 b2 b3).1 = 65533 ∧ (Lib.decodeN n b0 b1 b2 b3).2 = 1) then (0 : Int) else ((Lib.decodeN n b0 b1 b2 b3).2 : Int)) := fun h => by
  rw [h, if_pos (.inr ⟨rfl, rfl⟩)]
 have okk : ∀ r w : Nat, Lib.decodeN n b0 b1 b2 b3 = (r, w) → (w ≠ 1 ∨ r ≠ 65533) → some ((w : Int)) = some (if l = [] ∨ ((Lib.decodeN n b0 b1 b2 b3).1 = 65533 ∧ (Lib.decodeN n b0 b1 b2 b3).2 = 1) then (0 : Int) else ((Lib.decodeN n b0 b1 b2 b3).2 : Int)) := fun r w h hw => by
  rw [h, if_neg]
  rintro (h | ⟨h1, h2⟩)
  · exact h0 h
  simp only [] at h1 h2; rcases hw with h | h <;> contradiction
 by_cases g0 : b0 < 128
 · rw [if_pos (by omega)]
   exact okk b0 1 (by unfold Lib.decodeN; rw [if_pos g0]) (.inr (by omega))
 rw [if_neg (by omega)]
 have hj0 : ∀ k, (if ((b0 : Int)) ≥ 192 then R5Long.j0 (k + 2) (ofL l) (b0 : Int) (decide ((b0 : Int) < 224)) else R5Long.j0 (k + 2) (ofL l) (b0 : Int) false) =
     if 192 ≤ b0 ∧ b0 < 224 then R5Long.j2 (k + 1) (ofL l) 2 128 ((b0 : Int) - 192) else if 224 ≤ b0 ∧ b0 < 240 then R5Long.j2 k (ofL l) 3 2048 ((b0 : Int) - 224) else if 240 ≤ b0 ∧ b0 < 248 then R5Long.j2 k (ofL l) 4 65536 ((b0 : Int) - 240) else some 0 := fun k => by
  simp only [R5Long.j0, R5Long.j1]
  by_cases a1 : 192 ≤ b0 ∧ b0 < 224
  · rw [if_pos (show ((b0 : Int)) ≥ 192 by omega), if_pos (by simp; omega), if_pos a1, w64 (by omega) (by omega)]
  rw [if_neg a1]
  have e1 : (if ((b0 : Int)) ≥ 192 then (if decide ((b0 : Int) < 224) = true then R5Long.j2 (k + 1) (ofL l) 2 128 (wrap64 ((b0 : Int) - 192)) else if (b0 : Int) ≥ 224 then (if decide ((b0 : Int) < 240) = true then R5Long.j2 k (ofL l) 3 2048 (wrap64 ((b0 : Int) - 224)) else if (b0 : Int) ≥ 240 then (if (b0 : Int) < 248 then R5Long.j2 k (ofL l) 4 65536 (wrap64 ((b0 : Int) - 240)) else some 0) else some 0) else (if false = true then R5Long.j2 k (ofL l) 3 2048 (wrap64 ((b0 : Int) - 224)) else if (b0 : Int) ≥ 240 then (if (b0 : Int) < 248 then R5Long.j2 k (ofL l) 4 65536 (wrap64 ((b0 : Int) - 240)) else some 0) else some 0))
      else (if false = true then R5Long.j2 (k + 1) (ofL l) 2 128 (wrap64 ((b0 : Int) - 192)) else if (b0 : Int) ≥ 224 then (if decide ((b0 : Int) < 240) = true then R5Long.j2 k (ofL l) 3 2048 (wrap64 ((b0 : Int) - 224)) else if (b0 : Int) ≥ 240 then (if (b0 : Int) < 248 then R5Long.j2 k (ofL l) 4 65536 (wrap64 ((b0 : Int) - 240)) else some 0) else some 0) else (if false = true then R5Long.j2 k (ofL l) 3 2048 (wrap64 ((b0 : Int) - 224)) else if (b0 : Int) ≥ 240 then (if (b0 : Int) < 248 then R5Long.j2 k (ofL l) 4 65536 (wrap64 ((b0 : Int) - 240)) else some 0) else some 0)))
      = if 224 ≤ b0 ∧ b0 < 240 then R5Long.j2 k (ofL l) 3 2048 ((b0 : Int) - 224) else if 240 ≤ b0 ∧ b0 < 248 then R5Long.j2 k (ofL l) 4 65536 ((b0 : Int) - 240) else some 0 := by
   by_cases a2 : b0 < 192
   · rw [if_neg (show ¬ ((b0 : Int)) ≥ 192 by omega), if_neg (by decide), if_neg (by omega), if_neg (by decide), if_neg (by omega), if_neg (by omega), if_neg (by omega)]
   · rw [if_pos (show ((b0 : Int)) ≥ 192 by omega), if_neg (by simp; omega), if_pos (by omega)]
     by_cases a3 : b0 < 240
     · rw [if_pos (show decide ((b0 : Int) < 240) = true by simp; omega), if_pos (show 224 ≤ b0 ∧ b0 < 240 by omega), w64 (by omega) (by omega)]
     rw [if_neg (show ¬ decide ((b0 : Int) < 240) = true by simp; omega), if_pos (show ((b0 : Int)) ≥ 240 by omega), if_neg (show ¬ (224 ≤ b0 ∧ b0 < 240) by omega)]
     by_cases a4 : b0 < 248
     · rw [if_pos (show ((b0 : Int)) < 248 by omega), if_pos (show 240 ≤ b0 ∧ b0 < 248 by omega), w64 (by omega) (by omega)]
     rw [if_neg (show ¬ ((b0 : Int)) < 248 by omega), if_neg (show ¬ (240 ≤ b0 ∧ b0 < 248) by omega)]
  exact e1
 rw [hj0 (m + 5)]
 have hj2 : ∀ (k : Nat) (c : Nat) (least x : Int), R5Long.j2 (k + 1) (ofL l) (c : Int) least x = if n < c then some 0 else R5Long.l0 k (ofL l) (c : Int) least x ((1 : Nat) : Int) := fun k c least x => by
  simp only [R5Long.j2]
  rw [hsz]
  by_cases h : n < c
  · rw [if_pos (by omega), if_pos h]
  rw [if_neg (by omega), if_neg h]; rfl
 by_cases a1 : 192 ≤ b0 ∧ b0 < 224
 · rw [if_pos a1, show (2 : Int) = ((2 : Nat) : Int) from rfl, hj2 (m + 5)]
   by_cases c1 : n < 2
   · rw [if_pos c1]
     exact bad (by unfold Lib.decodeN; rw [if_neg g0, if_neg (by omega), if_neg (by omega), if_neg (by omega)])
   rw [if_neg c1, s1 (m + 4) 2 128 _ (by decide) (by omega) ⟨by omega, by omega⟩]
   by_cases c2 : b1 / 64 = 2
   · rw [if_pos c2, hle (m + 3)]
     by_cases c3 : b0 % 32 * 64 + b1 % 64 ≥ 128
     · have hl : longEnd ((2 : Nat) : Int) 128 (64 * ((b0 : Int) - 192) + ((b1 % 64 : Nat) : Int)) = ((2 : Nat) : Int) := by unfold longEnd; rw [if_neg (by omega), if_neg (by omega), if_neg (by omega)]
       rw [hl]
       exact okk (b0 % 32 * 64 + b1 % 64) 2 (by unfold Lib.decodeN; rw [if_neg g0, if_pos ⟨by omega, by omega, c2⟩, if_pos c3]) (.inl (by decide))
     have hl : longEnd ((2 : Nat) : Int) 128 (64 * ((b0 : Int) - 192) + ((b1 % 64 : Nat) : Int)) = 0 := by unfold longEnd; rw [if_pos (by omega)]
     rw [hl]
     exact bad (by unfold Lib.decodeN; rw [if_neg g0, if_pos ⟨by omega, by omega, c2⟩, if_neg c3])
   rw [if_neg c2]
   exact bad (by unfold Lib.decodeN; rw [if_neg g0, if_neg (by omega), if_neg (by omega), if_neg (by omega)])
 rw [if_neg a1]
 by_cases a2 : 224 ≤ b0 ∧ b0 < 240
 · rw [if_pos a2, show (3 : Int) = ((3 : Nat) : Int) from rfl, hj2 (m + 4)]
   by_cases c1 : n < 3
   · rw [if_pos c1]
     exact bad (by unfold Lib.decodeN; rw [if_neg g0, if_neg (by omega), if_neg (by omega), if_neg (by omega)])
   rw [if_neg c1, s1 (m + 3) 3 2048 _ (by decide) (by omega) ⟨by omega, by omega⟩]
   by_cases c2 : b1 / 64 = 2
   · rw [if_pos c2, s2 (m + 2) 3 2048 _ (by decide) (by omega) ⟨by omega, by omega⟩]
     by_cases c4 : b2 / 64 = 2
     · rw [if_pos c4, hle (m + 1)]
       by_cases c3 : b0 % 16 * 4096 + b1 % 64 * 64 + b2 % 64 ≥ 2048 ∧ (b0 % 16 * 4096 + b1 % 64 * 64 + b2 % 64 < 55296 ∨ (57344 ≤ b0 % 16 * 4096 + b1 % 64 * 64 + b2 % 64 ∧ b0 % 16 * 4096 + b1 % 64 * 64 + b2 % 64 ≤ 1114111))
       · have hl : longEnd ((3 : Nat) : Int) 2048 (64 * (64 * ((b0 : Int) - 224) + ((b1 % 64 : Nat) : Int)) + ((b2 % 64 : Nat) : Int)) = ((3 : Nat) : Int) := by unfold longEnd; rw [if_neg (by omega), if_neg (by omega), if_neg (by omega)]
         rw [hl]
         exact okk (b0 % 16 * 4096 + b1 % 64 * 64 + b2 % 64) 3 (by unfold Lib.decodeN; rw [if_neg g0, if_neg (by omega), if_pos ⟨by omega, ⟨by omega, c2⟩, ⟨by omega, c4⟩⟩, if_pos c3]) (.inl (by decide))
       · have hl : longEnd ((3 : Nat) : Int) 2048 (64 * (64 * ((b0 : Int) - 224) + ((b1 % 64 : Nat) : Int)) + ((b2 % 64 : Nat) : Int)) = 0 := by
           unfold longEnd
           split
           · rfl
           split
           · rfl
           split
           · rfl
           · omega
         rw [hl]
         exact bad (by unfold Lib.decodeN; rw [if_neg g0, if_neg (by omega), if_pos ⟨by omega, ⟨by omega, c2⟩, ⟨by omega, c4⟩⟩, if_neg c3])
     rw [if_neg c4]
     exact bad (by unfold Lib.decodeN; rw [if_neg g0, if_neg (by omega), if_neg (by omega), if_neg (by omega)])
   rw [if_neg c2]
   exact bad (by unfold Lib.decodeN; rw [if_neg g0, if_neg (by omega), if_neg (by omega), if_neg (by omega)])
 rw [if_neg a2]
 by_cases a3 : 240 ≤ b0 ∧ b0 < 248
 · rw [if_pos a3, show (4 : Int) = ((4 : Nat) : Int) from rfl, hj2 (m + 4)]
   by_cases c1 : n < 4
   · rw [if_pos c1]
     exact bad (by unfold Lib.decodeN; rw [if_neg g0, if_neg (by omega), if_neg (by omega), if_neg (by omega)])
   rw [if_neg c1, s1 (m + 3) 4 65536 _ (by decide) (by omega) ⟨by omega, by omega⟩]
   by_cases c2 : b1 / 64 = 2
   · rw [if_pos c2, s2 (m + 2) 4 65536 _ (by decide) (by omega) ⟨by omega, by omega⟩]
     by_cases c4 : b2 / 64 = 2
     · rw [if_pos c4, s3 (m + 1) 4 65536 _ (by decide) (by omega) ⟨by omega, by omega⟩]
       by_cases c5 : b3 / 64 = 2
       · rw [if_pos c5, hle m]
         by_cases c3 : b0 % 8 * 262144 + b1 % 64 * 4096 + b2 % 64 * 64 + b3 % 64 ≥ 65536 ∧ (b0 % 8 * 262144 + b1 % 64 * 4096 + b2 % 64 * 64 + b3 % 64 < 55296 ∨ (57344 ≤ b0 % 8 * 262144 + b1 % 64 * 4096 + b2 % 64 * 64 + b3 % 64 ∧ b0 % 8 * 262144 + b1 % 64 * 4096 + b2 % 64 * 64 + b3 % 64 ≤ 1114111))
         · have hl : longEnd ((4 : Nat) : Int) 65536 (64 * (64 * (64 * ((b0 : Int) - 240) + ((b1 % 64 : Nat) : Int)) + ((b2 % 64 : Nat) : Int)) + ((b3 % 64 : Nat) : Int)) = ((4 : Nat) : Int) := by unfold longEnd; rw [if_neg (by omega), if_neg (by omega), if_neg (by omega)]
           rw [hl]
           exact okk (b0 % 8 * 262144 + b1 % 64 * 4096 + b2 % 64 * 64 + b3 % 64) 4 (by unfold Lib.decodeN; rw [if_neg g0, if_neg (by omega), if_neg (by omega), if_pos ⟨by omega, ⟨by omega, c2⟩, ⟨by omega, c4⟩, ⟨by omega, c5⟩⟩, if_pos c3]) (.inl (by decide))
         · have hl : longEnd ((4 : Nat) : Int) 65536 (64 * (64 * (64 * ((b0 : Int) - 240) + ((b1 % 64 : Nat) : Int)) + ((b2 % 64 : Nat) : Int)) + ((b3 % 64 : Nat) : Int)) = 0 := by
             unfold longEnd
             split
             · rfl
             split
             · rfl
             split
             · rfl
             · omega
           rw [hl]
           exact bad (by unfold Lib.decodeN; rw [if_neg g0, if_neg (by omega), if_neg (by omega), if_pos ⟨by omega, ⟨by omega, c2⟩, ⟨by omega, c4⟩, ⟨by omega, c5⟩⟩, if_neg c3])
       rw [if_neg c5]
       exact bad (by unfold Lib.decodeN; rw [if_neg g0, if_neg (by omega), if_neg (by omega), if_neg (by omega)])
     rw [if_neg c4]
     exact bad (by unfold Lib.decodeN; rw [if_neg g0, if_neg (by omega), if_neg (by omega), if_neg (by omega)])
   rw [if_neg c2]
   exact bad (by unfold Lib.decodeN; rw [if_neg g0, if_neg (by omega), if_neg (by omega), if_neg (by omega)])
 rw [if_neg a3]
 exact bad (by unfold Lib.decodeN; rw [if_neg g0, if_neg (by omega), if_neg (by omega), if_neg (by omega)])
theorem hexJ_bd : ∀ (j : Nat) (l : List UInt8) (x v : Int) (t : List UInt8), hexJ j l x = some (v, t) → 0 ≤ x → 0 ≤ v ∧ v < 16 ^ j * (x + 1)
 | 0, l, x, v, t, h, hx => by
  simp only [hexJ, Option.some.injEq, Prod.mk.injEq] at h
  obtain ⟨rfl, -⟩ := h
  simp; omega
 | j + 1, [], x, v, t, h, hx => by simp [hexJ] at h
 | j + 1, b :: l, x, v, t, h, hx => by
  simp only [hexJ] at h
  rw [Option.bind_eq_some_iff] at h
  obtain ⟨d, hd, h⟩ := h
  have hb := hexv_bd hd
  have ih := hexJ_bd j l (16 * x + d) v t h (by omega)
  refine ⟨ih.1, ?_⟩
  have : (16 : Int) ^ j * (16 * x + d + 1) ≤ 16 ^ j * (16 * (x + 1)) := Int.mul_le_mul_of_nonneg_left (by omega) (Int.le_of_lt (Int.pow_pos (by decide)))
  rw [Int.pow_succ, Int.mul_assoc]
  omega
theorem hexJ4_bd {l : List UInt8} {v : Int} {t : List UInt8} (h : hexJ 4 l 0 = some (v, t)) : 0 ≤ v ∧ v < 65536 := by
 have := hexJ_bd 4 l 0 v t h (Int.le_refl _)
 have e : (16 : Int) ^ 4 * (0 + 1) = 65536 := by decide
 omega
def Rd15 (s : List UInt8) (o : Int) (q : List UInt8 × S) (r : ByteArray × ByteArray × Int × Int × Int) : Prop :=
 ∃ (out : List UInt8) (p' : Nat) (e' : Int), r = (ofL out, ofL s, (p' : Int), o, e') ∧ p' ≤ s.length + 1 ∧ out.length ≤ 90000 ∧ e' = q.2.e ∧ (e' = 0 → out = q.1 ∧ s.drop p' = q.2.s ∧ p' ≤ s.length)
theorem Rd15.bad {s : List UInt8} {o : Int} {q : List UInt8 × S} {r : ByteArray × ByteArray × Int × Int × Int} {out : List UInt8} {p' : Nat} (hr : r = (ofL out, ofL s, (p' : Int), o, 11)) (hp : p' ≤ s.length + 1) (hq : q.2.e = 11) (ho : out.length ≤ 90000 := by first | exact Nat.zero_le _ | exact Nat.le_trans (encL_len _) (by decide)) : Rd15 s o q r :=
 ⟨out, p', 11, hr, hp, ho, hq.symm, fun h => absurd h (by decide)⟩
def escTab (b : UInt8) : Option (List UInt8) :=
 if b = 34 ∨ b = 92 ∨ b = 47 then some [b] else if b = 98 then some [8] else if b = 102 then some [12] else if b = 110 then some [10] else if b = 114 then some [13] else if b = 116 then some [9] else none
theorem esc_tab (b : UInt8) : (if escI b < 0 then none else some (escL (escI b))) = escTab b := by
 have : ∀ k : Fin 256, (if escI (UInt8.ofNat k.val) < 0 then none else some (escL (escI (UInt8.ofNat k.val)))) = escTab (UInt8.ofNat k.val) := by decide +kernel
 have h := this ⟨b.toNat, b.toNat_lt⟩
 rwa [show UInt8.ofNat (⟨b.toNat, b.toNat_lt⟩ : Fin 256).val = b from UInt8.ofNat_toNat] at h
theorem w1n (p n : Nat) (h : p ≤ n) (hn : n ≤ 6000) : wrap64 ((p : Int) + 1) = ((p + 1 : Nat) : Int) := by rw [w64 (by omega) (by omega)]; push_cast; rfl
theorem escape_sign (s : List UInt8) (hs : s.length ≤ 5000) (o : Int) (p : Nat) (hp : p ≤ s.length) : ∃ r, Rd15 s o (S.sign ⟨s.drop p, o, 0⟩) r ∧
    Ev (fun k => (R5_four.f k (ofL s) (p : Int) o 0).bind fun bt134 => (if bt134.1 < 55296 then (R5_escape.j1 k bt134.1 true bt134.2.1 bt134.2.2.1 bt134.2.2.2.1 bt134.2.2.2.2) else (R5_escape.j1 k bt134.1 (decide (bt134.1 > 57343)) bt134.2.1 bt134.2.2.1 bt134.2.2.2.1 bt134.2.2.2.2))) r := by
 obtain ⟨r1, ⟨p1, hp1, hq⟩, hev⟩ := four_ev s hs o p hp
 have hJ := four_J (s.drop p) o
 have hst : ∀ (x : Int) (e : Int), (0 ≤ x ∧ x < 55296) ∨ (57343 < x ∧ x ≤ 1114111) → Ev (fun k => R5_escape.j1 k x true (ofL s) (p1 : Int) o e) (ofL (encL x), ofL s, (p1 : Int), o, e) := fun x e hx =>
  Ev.step (f := fun _ => some (ofL (encL x), ofL s, (p1 : Int), o, e)) (fun k => by simp only [R5_escape.j1]; rw [if_pos trivial, sign_f x hx]; rfl) (Ev.now _)
 cases hh : hexJ 4 (s.drop p) 0 with
 | none =>
  rw [hh] at hq hJ
  simp only [] at hq hJ
  subst hq
  have hS : S.sign ⟨s.drop p, o, 0⟩ = (encL 0, ⟨s.drop p, o, 11⟩) := by
   unfold S.sign; rw [hJ]; simp only []; rw [if_pos (.inl (by decide))]
  refine ⟨_, Rd15.bad (out := encL 0) (p' := p1) rfl (by omega) (by rw [hS]), Ev.bind hev ?_⟩
  simp only []
  exact Ev.congr (f := fun k => R5_escape.j1 k 0 true (ofL s) (p1 : Int) o 11) (fun k => by rw [if_pos (by decide)]) (hst 0 11 (.inl ⟨by decide, by decide⟩))
 | some v =>
  obtain ⟨x, t⟩ := v
  have hxb := hexJ4_bd hh
  rw [hh] at hq hJ
  simp only [] at hq hJ
  obtain ⟨rfl, ht⟩ := hq
  by_cases hx1 : x < 55296 ∨ 57343 < x
  · have hS : S.sign ⟨s.drop p, o, 0⟩ = (encL x, ⟨t, o, 0⟩) := by
      unfold S.sign; rw [hJ]; simp only []; rw [if_pos hx1]
    refine ⟨(ofL (encL x), ofL s, (p1 : Int), o, 0), ⟨encL x, p1, 0, rfl, by omega, Nat.le_trans (encL_len _) (by decide), by rw [hS], fun _ => by rw [hS]; exact ⟨rfl, ht, hp1⟩⟩, Ev.bind hev ?_⟩
    simp only []
    refine Ev.congr (f := fun k => R5_escape.j1 k x true (ofL s) (p1 : Int) o 0) (fun k => ?_) (hst x 0 (by omega))
    by_cases h1 : x < 55296
    · rw [if_pos h1]
    · rw [if_neg h1, show decide (x > 57343) = true by simp; omega]
  · have hflag : ∀ k, (if x < 55296 then (R5_escape.j1 k x true (ofL s) (p1 : Int) o 0) else (R5_escape.j1 k x (decide (x > 57343)) (ofL s) (p1 : Int) o 0)) = R5_escape.j1 k x false (ofL s) (p1 : Int) o 0 := fun k => by
      rw [if_neg (by omega), show decide (x > 57343) = false by simp; omega]
    have hfail : ∀ (q : Nat), q ≤ s.length + 1 → Ev (fun k => R5_escape.j2 k x true (ofL s) (q : Int) o 0) (ofL [], ofL s, (q : Int), o, 11) := fun q hq =>
     Ev.step (f := fun _ => some (ofL [], ofL s, (q : Int), o, 11)) (fun k => by simp only [R5_escape.j2]; rw [if_pos trivial, fail_f]; rfl) (Ev.now _)
    by_cases hx2 : 56320 ≤ x ∨ Lib.hasPrefix t [92, 117] = false
    · have hS : (S.sign ⟨s.drop p, o, 0⟩).2.e = 11 := by
        unfold S.sign; rw [hJ]; simp only []; rw [if_neg (by omega), if_pos hx2]; rfl
      by_cases hx3 : 56320 ≤ x
      · refine ⟨_, Rd15.bad (out := []) (p' := p1) rfl (by omega) hS, Ev.bind hev ?_⟩
        simp only []
        refine Ev.congr (f := fun k => R5_escape.j1 k x false (ofL s) (p1 : Int) o 0) (fun k => hflag k) (Ev.step (f := fun k => R5_escape.j2 k x true (ofL s) (p1 : Int) o 0) (fun k => ?_) (hfail p1 (by omega)))
        simp only [R5_escape.j1]
        rw [if_neg (by decide), if_pos (by omega)]
      · have hpre : Lib.hasPrefix t [92, 117] = false := hx2.resolve_left hx3
        have hj1 : ∀ k, R5_escape.j1 (k + 1) x false (ofL s) (p1 : Int) o 0 = R5_escape.j2 k x (pk t != 92) (ofL s) (p1 : Int) o 0 := fun k => by
         simp only [R5_escape.j1]
         rw [if_neg (by decide), if_neg (by omega), peek_f, ht]; rfl
        by_cases h92 : pk t = 92
        · obtain ⟨b, l, hd, hb, hl, hlt⟩ := drop_pk (s := s) (p := p1) (c := 92) (by rw [ht]; exact h92) (by decide)
          have hbb : b = 92 := by rw [← UInt8.toNat_inj]; have : (92 : UInt8).toNat = 92 := rfl; omega
          subst hbb
          have h117 : pk l ≠ 117 := fun h => by
           rw [ht] at hd
           rw [hd] at hpre
           cases l with
           | nil => exact absurd h (by show (0 : Int) ≠ 117; decide)
           | cons c l' =>
            have hc : (c.toNat : Int) = 117 := h
            have : c = 117 := by rw [← UInt8.toNat_inj]; have : (117 : UInt8).toNat = 117 := rfl; omega
            subst this
            exact absurd hpre (by simp [Lib.hasPrefix, List.isPrefixOf])
          refine ⟨_, Rd15.bad (out := []) (p' := p1 + 1) rfl (by omega) hS, Ev.bind hev ?_⟩
          simp only []
          refine Ev.congr (f := fun k => R5_escape.j1 k x false (ofL s) (p1 : Int) o 0) (fun k => hflag k) (Ev.step hj1 (Ev.step (f := fun _ => some (ofL [], ofL s, ((p1 + 1 : Nat) : Int), o, 11)) (fun k => ?_) (Ev.now _)))
          simp only [R5_escape.j2]
          rw [show (pk t != 92) = false by rw [h92]; rfl, if_neg (by decide), w1n p1 s.length hp1 (by omega), peek_f, hl]
          simp only [Option.bind_some]
          rw [if_neg h117, fail_f]
          rfl
        refine ⟨_, Rd15.bad (out := []) (p' := p1) rfl (by omega) hS, Ev.bind hev ?_⟩
        simp only []
        refine Ev.congr (f := fun k => R5_escape.j1 k x false (ofL s) (p1 : Int) o 0) (fun k => hflag k) (Ev.step hj1 ?_)
        rw [show (pk t != 92) = true by simpa using h92]
        exact hfail p1 (by omega)
    · have hx3 : ¬ 56320 ≤ x := fun h => hx2 (.inl h)
      have hpre : Lib.hasPrefix t [92, 117] = true := by
       cases hb : Lib.hasPrefix t [92, 117] with
       | true => rfl
       | false => exact absurd (.inr hb) hx2
      obtain ⟨t2, rfl⟩ : ∃ t2, t = 92 :: 117 :: t2 := by
       unfold Lib.hasPrefix at hpre
       rw [List.isPrefixOf_iff_prefix] at hpre
       obtain ⟨t2, h⟩ := hpre
       exact ⟨t2, h.symm⟩
      have hlen := congrArg List.length ht
      simp only [List.length_drop, List.length_cons] at hlen
      have hd1 : s.drop (p1 + 1) = 117 :: t2 := by rw [← List.drop_drop, ht]; rfl
      have hd2 : s.drop (p1 + 1 + 1) = t2 := by rw [← List.drop_drop, hd1]; rfl
      have hj1 : ∀ k, R5_escape.j1 (k + 1) x false (ofL s) (p1 : Int) o 0 = R5_escape.j2 k x false (ofL s) (p1 : Int) o 0 := fun k => by
       simp only [R5_escape.j1]
       rw [if_neg (by decide), if_neg (by omega), peek_f, ht]; rfl
      have hj2 : ∀ k, R5_escape.j2 (k + 1) x false (ofL s) (p1 : Int) o 0 = (R5_four.f k (ofL s) ((p1 + 1 + 1 : Nat) : Int) o 0).bind fun bt158 => (if bt158.1 < 56320 then (R5_escape.j3 k x bt158.1 true bt158.2.1 bt158.2.2.1 bt158.2.2.2.1 bt158.2.2.2.2) else (R5_escape.j3 k x bt158.1 (decide (bt158.1 > 57343)) bt158.2.1 bt158.2.2.1 bt158.2.2.2.1 bt158.2.2.2.2)) := fun k => by
       simp only [R5_escape.j2]
       rw [if_neg (by decide), w1n p1 s.length hp1 (by omega), peek_f, hd1]
       simp only [Option.bind_some]
       rw [if_pos (show pk (117 :: t2) = 117 from rfl), w1n (p1 + 1) s.length (by omega) (by omega)]
      obtain ⟨r2, ⟨p2, hp2, hq2⟩, hev2⟩ := four_ev s hs o (p1 + 1 + 1) (by omega)
      rw [hd2] at hq2
      have hJ2 := four_J t2 o
      have hsg : S.sign ⟨s.drop p, o, 0⟩ = S.sgn x ⟨t2, o, 0⟩ := by
       unfold S.sign; rw [hJ]; simp only []; rw [if_neg (by omega), if_neg hx2]; rfl
      have hbad3 : ∀ (y e : Int), e = 0 ∨ e = 11 → Ev (fun k => R5_escape.j3 k x y true (ofL s) (p2 : Int) o e) (ofL [], ofL s, (p2 : Int), o, 11) := fun y e he =>
       Ev.step (f := fun _ => some (ofL [], ofL s, (p2 : Int), o, 11)) (fun k => by
        simp only [R5_escape.j3]
        rw [if_pos trivial, fail_f]
        rcases he with rfl | rfl <;> rfl) (Ev.now _)
      cases hh2 : hexJ 4 t2 0 with
      | none =>
       rw [hh2] at hq2 hJ2
       simp only [] at hq2 hJ2
       subst hq2
       have hS : (S.sign ⟨s.drop p, o, 0⟩).2.e = 11 := by
        rw [hsg]; unfold S.sgn; rw [hJ2]; simp only []; rw [if_pos (.inl (by decide))]; rfl
       refine ⟨_, Rd15.bad (out := []) (p' := p2) rfl (by omega) hS, Ev.bind hev ?_⟩
       simp only []
       refine Ev.congr (f := fun k => R5_escape.j1 k x false (ofL s) (p1 : Int) o 0) (fun k => hflag k) (Ev.step hj1 (Ev.step hj2 (Ev.bind hev2 ?_)))
       simp only []
       exact Ev.congr (f := fun k => R5_escape.j3 k x 0 true (ofL s) (p2 : Int) o 11) (fun k => by rw [if_pos (by decide)]) (hbad3 0 11 (.inr rfl))
      | some v =>
       obtain ⟨y, t3⟩ := v
       have hyb := hexJ4_bd hh2
       rw [hh2] at hq2 hJ2
       simp only [] at hq2 hJ2
       obtain ⟨rfl, ht3⟩ := hq2
       by_cases hy : y < 56320 ∨ 57343 < y
       · have hS : (S.sign ⟨s.drop p, o, 0⟩).2.e = 11 := by
           rw [hsg]; unfold S.sgn; rw [hJ2]; simp only []; rw [if_pos hy]; rfl
         refine ⟨_, Rd15.bad (out := []) (p' := p2) rfl (by omega) hS, Ev.bind hev ?_⟩
         simp only []
         refine Ev.congr (f := fun k => R5_escape.j1 k x false (ofL s) (p1 : Int) o 0) (fun k => hflag k) (Ev.step hj1 (Ev.step hj2 (Ev.bind hev2 ?_)))
         simp only []
         refine Ev.congr (f := fun k => R5_escape.j3 k x y true (ofL s) (p2 : Int) o 0) (fun k => ?_) (hbad3 y 0 (.inl rfl))
         by_cases h1 : y < 56320
         · rw [if_pos h1]
         · rw [if_neg h1, show decide (y > 57343) = true by simp; omega]
       have hX : signX x y = 65536 + 1024 * (x - 55296) + y - 56320 := by unfold signX wrap32; omega
       have hS : S.sign ⟨s.drop p, o, 0⟩ = (encL (65536 + 1024 * (x - 55296) + y - 56320), ⟨t3, o, 0⟩) := by
        rw [hsg]; unfold S.sgn; rw [hJ2]; simp only []; rw [if_neg hy, hX]
       refine ⟨(ofL (encL (65536 + 1024 * (x - 55296) + y - 56320)), ofL s, (p2 : Int), o, 0), ⟨_, p2, 0, rfl, by omega, Nat.le_trans (encL_len _) (by decide), by rw [hS], fun _ => by rw [hS]; exact ⟨rfl, ht3, hp2⟩⟩, Ev.bind hev ?_⟩
       simp only []
       refine Ev.congr (f := fun k => R5_escape.j1 k x false (ofL s) (p1 : Int) o 0) (fun k => hflag k) (Ev.step hj1 (Ev.step hj2 (Ev.bind hev2 ?_)))
       simp only []
       refine Ev.congr (f := fun k => R5_escape.j3 k x y false (ofL s) (p2 : Int) o 0) (fun k => ?_) (Ev.step (f := fun _ => some (ofL (encL (65536 + 1024 * (x - 55296) + y - 56320)), ofL s, (p2 : Int), o, 0)) (fun k => ?_) (Ev.now _))
       · rw [if_neg (by omega), show decide (y > 57343) = false by simp; omega]
       simp only [R5_escape.j3]
       rw [if_neg (by decide), w64 (x := x - 55296) (by omega) (by omega), w64 (x := 1024 * (x - 55296)) (by omega) (by omega), w64 (x := 65536 + 1024 * (x - 55296)) (by omega) (by omega), w64 (x := 65536 + 1024 * (x - 55296) + y) (by omega) (by omega), w64 (x := 65536 + 1024 * (x - 55296) + y - 56320) (by omega) (by omega), sign_f _ (.inr ⟨by omega, by omega⟩)]
       rfl
theorem escT_tab (b : UInt8) (l : List UInt8) (o : Int) (h : b ≠ 117) : S.escT b ⟨l, o, 0⟩ = match escTab b with | some out => (out, ⟨l, o, 0⟩) | none => ([], ⟨l, o, 11⟩) := by
 have := esc_tab b
 unfold S.escT
 rw [if_neg h]
 by_cases hh : escI b < 0
 · rw [if_pos hh] at this ⊢; rw [← this]; rfl
 rw [if_neg hh] at this ⊢; rw [← this]
theorem byte_eq (b c : UInt8) : ((b.toNat : Int) = (c.toNat : Int)) ↔ b = c := ⟨fun h => by rw [← UInt8.toNat_inj]; omega, fun h => by rw [h]⟩
theorem escTab_len (b : UInt8) (out : List UInt8) (h : escTab b = some out) : out.length ≤ 90000 := by
 unfold escTab at h
 repeat' (split at h)
 all_goals first | (cases h; done) | (injection h with h; subst h; exact (Nat.le_of_ble_eq_true rfl))
theorem j0_tab (k : Nat) (b : UInt8) (s : ByteArray) (P o : Int) (h : b ≠ 117) : R5_escape.j0 (k + 1) (b.toNat : Int) (b.toNat : Int) (decide (b = 34 ∨ b = 92 ∨ b = 47)) s P o 0 = some (match escTab b with | some out => (ofL out, s, P, o, 0) | none => (ofL [], s, P, o, 11)) := by
 simp only [R5_escape.j0]
 have hk : ∀ c : UInt8, ((b.toNat : Int) = (c.toNat : Int)) ↔ b = c := byte_eq b
 have k98 := hk 98
 have k102 := hk 102
 have k110 := hk 110
 have k114 := hk 114
 have k116 := hk 116
 have k117 := hk 117
 simp only [show ((98 : UInt8).toNat : Int) = 98 from rfl] at k98
 simp only [show ((102 : UInt8).toNat : Int) = 102 from rfl] at k102
 simp only [show ((110 : UInt8).toNat : Int) = 110 from rfl] at k110
 simp only [show ((114 : UInt8).toNat : Int) = 114 from rfl] at k114
 simp only [show ((116 : UInt8).toNat : Int) = 116 from rfl] at k116
 simp only [show ((117 : UInt8).toNat : Int) = 117 from rfl] at k117
 unfold escTab
 by_cases h0 : b = 34 ∨ b = 92 ∨ b = 47
 · rw [if_pos (by simpa using h0), if_pos h0]
   have : strOfNums [(b.toNat : Int)] = ofL [UInt8.ofNat ((b.toNat : Int)).toNat] := rfl
   rw [this, Int.toNat_natCast, UInt8.ofNat_toNat]
 rw [if_neg (by simpa using h0), if_neg h0]
 by_cases h1 : b = 98
 · rw [if_pos (k98.2 h1), if_pos h1]; rfl
 rw [if_neg (fun e => h1 (k98.1 e)), if_neg h1]
 by_cases h2 : b = 102
 · rw [if_pos (k102.2 h2), if_pos h2]; rfl
 rw [if_neg (fun e => h2 (k102.1 e)), if_neg h2]
 by_cases h3 : b = 110
 · rw [if_pos (k110.2 h3), if_pos h3]; rfl
 rw [if_neg (fun e => h3 (k110.1 e)), if_neg h3]
 by_cases h4 : b = 114
 · rw [if_pos (k114.2 h4), if_pos h4]; rfl
 rw [if_neg (fun e => h4 (k114.1 e)), if_neg h4]
 by_cases h5 : b = 116
 · rw [if_pos (k116.2 h5), if_pos h5]; rfl
 rw [if_neg (fun e => h5 (k116.1 e)), if_neg h5, if_neg (fun e => h (k117.1 e)), fail_f]
 rfl
theorem esc_ev (s : List UInt8) (hs : s.length ≤ 5000) (o : Int) (p : Nat) (hp : p ≤ s.length) : ∃ r, Rd15 s o (S.esc ⟨s.drop p, o, 0⟩) r ∧ Ev (fun k => R5_escape.f k (ofL s) (p : Int) o 0) r := by
 have hw := w1n p s.length hp (by omega)
 cases hd : s.drop p with
 | nil =>
  refine ⟨_, Rd15.bad (out := []) (p' := p + 1) rfl (by omega) rfl, Ev.congr (f := fun k => R5_escape.j0 k 0 0 false (ofL s) ((p + 1 : Nat) : Int) o 0) (fun k => ?_) (Ev.step (f := fun _ => some (ofL [], ofL s, ((p + 1 : Nat) : Int), o, 11)) (fun k => ?_) (Ev.now _))⟩
  · simp only [R5_escape.f, peek_f, hd, Option.bind_some, hw]
    rfl
  simp only [R5_escape.j0, fail_f]
  rfl
 | cons b l =>
  have hl : s.drop (p + 1) = l := by rw [← List.drop_drop, hd]; rfl
  have hp1 : p + 1 ≤ s.length := by have := congrArg List.length hd; simp at this; omega
  have hk : ∀ c : UInt8, ((b.toNat : Int) = (c.toNat : Int)) ↔ b = c := byte_eq b
  have k34 := hk 34
  have k92 := hk 92
  have k47 := hk 47
  simp only [show ((34 : UInt8).toNat : Int) = 34 from rfl] at k34
  simp only [show ((92 : UInt8).toNat : Int) = 92 from rfl] at k92
  simp only [show ((47 : UInt8).toNat : Int) = 47 from rfl] at k47
  have hf : ∀ k, R5_escape.f k (ofL s) (p : Int) o 0 = R5_escape.j0 k (b.toNat : Int) (b.toNat : Int) (decide (b = 34 ∨ b = 92 ∨ b = 47)) (ofL s) ((p + 1 : Nat) : Int) o 0 := fun k => by
   simp only [R5_escape.f, peek_f, hd, Option.bind_some, hw, show pk (b :: l) = (b.toNat : Int) from rfl]
   by_cases h1 : b = 34
   · rw [if_pos (k34.2 h1)]; subst h1; rfl
   rw [if_neg (fun e => h1 (k34.1 e))]
   by_cases h2 : b = 92
   · rw [if_pos (k92.2 h2)]; subst h2; rfl
   rw [if_neg (fun e => h2 (k92.1 e))]
   by_cases h3 : b = 47
   · subst h3; rfl
   have e1 : ((b.toNat : Int) == 47) = false := by rw [beq_eq_false_iff_ne]; exact fun e => h3 (k47.1 e)
   have e2 : decide (b = 34 ∨ b = 92 ∨ b = 47) = false := by simp [h1, h2, h3]
   rw [e1, e2]
  by_cases h117 : b = 117
  · subst h117
    obtain ⟨r, h1, h2⟩ := escape_sign s hs o (p + 1) hp1
    rw [hl] at h1
    refine ⟨r, ?_, Ev.congr hf (Ev.step (fun k => ?_) h2)⟩
    · show Rd15 s o (S.escT 117 ⟨l, o, 0⟩) r
      unfold S.escT
      rw [if_pos rfl]
      exact h1
    simp only [R5_escape.j0]
    rw [if_neg (by decide), if_neg (by decide), if_neg (by decide), if_neg (by decide), if_neg (by decide), if_neg (by decide), if_pos (by decide)]
  have hT : S.esc ⟨b :: l, o, 0⟩ = match escTab b with | some out => (out, ⟨l, o, 0⟩) | none => ([], ⟨l, o, 11⟩) := escT_tab b l o h117
  have hj := fun k => j0_tab k b (ofL s) ((p + 1 : Nat) : Int) o h117
  cases ht : escTab b with
  | none =>
   rw [ht] at hT hj
   simp only [] at hT hj
   refine ⟨_, Rd15.bad (out := []) (p' := p + 1) rfl (by omega) (by rw [hT]), Ev.congr hf (Ev.step (f := fun _ => some (ofL [], ofL s, ((p + 1 : Nat) : Int), o, 11)) (fun k => hj k) (Ev.now _))⟩
  | some out =>
   rw [ht] at hT hj
   simp only [] at hT hj
   refine ⟨(ofL out, ofL s, ((p + 1 : Nat) : Int), o, 0), ⟨out, p + 1, 0, rfl, by omega, escTab_len b out ht, by rw [hT], fun _ => by rw [hT]; exact ⟨rfl, hl, hp1⟩⟩, Ev.congr hf (Ev.step (f := fun _ => some (ofL out, ofL s, ((p + 1 : Nat) : Int), o, 0)) (fun k => hj k) (Ev.now _))⟩
theorem decode_high {b : UInt8} {l : List UInt8} (h : 128 ≤ b.toNat) : 128 ≤ (Lib.decodeL (b :: l)).1 := by
 rw [Lib.decodeL_N]
 have : ((b :: l).getD 0 0).toNat = b.toNat := rfl
 rw [this]
 unfold Lib.decodeN
 rw [if_neg (by omega)]
 repeat' split
 all_goals (simp only []; omega)
theorem Rd15.swap {s : List UInt8} {o : Int} {q q' : List UInt8 × S} {r : ByteArray × ByteArray × Int × Int × Int} (h : Rd15 s o q r) (h1 : q.2.e ≠ 0) (h2 : q'.2.e = q.2.e) : Rd15 s o q' r := by
 obtain ⟨out, p', e', a, b, c, d, e⟩ := h
 exact ⟨out, p', e', a, b, c, d.trans h2.symm, fun h => absurd (d.symm.trans h) h1⟩
theorem str_l (s : List UInt8) (hs : s.length ≤ 5000) (o : Int) : ∀ (m p : Nat) (out : List UInt8) (n : Nat), s.length - p < m → p ≤ s.length → out.length + 17 * (s.length - p) ≤ 85000 → s.length - p < n →
    ∃ r, Rd15 s o (strLoop S.esc n out ⟨s.drop p, o, 0⟩) r ∧ Ev (fun k => R5_str.l0 k (ofL out) (ofL s) (p : Int) o 0) r
 | 0, p, out, n, hm, hp, ho, hn => absurd hm (by omega)
 | m + 1, p, out, 0, hm, hp, ho, hn => absurd hn (by omega)
 | m + 1, p, out, n + 1, hm, hp, ho, hn => by
  obtain ⟨l, hld⟩ : ∃ l, l = s.drop p := ⟨_, rfl⟩
  have hll : l.length = s.length - p := by rw [hld, List.length_drop]
  rw [← hld]
  have hround : ∀ r, Ev (fun k => R5_str.j1 k (ofL out) (longV l) (ofL s) (p : Int) o 0) r → Ev (fun k => R5_str.l0 k (ofL out) (ofL s) (p : Int) o 0) r := fun r hr => by
   by_cases hlt : p < s.length
   · refine Ev.step (f := fun k => (R5Long.f k (ofL l)).bind fun t181 => R5_str.j1 k (ofL out) t181 (ofL s) (p : Int) o 0) (fun k => ?_) (Ev.bind (long_ev l (by omega)) hr)
     simp only [R5_str.l0]
     rw [if_pos trivial, ofL_size, if_pos (by omega), if_pos (by omega), if_pos (by omega), Int.toNat_natCast, ofL_ext, List.take_length, ← hld]
   refine Ev.step (f := fun k => R5_str.j1 k (ofL out) (longV l) (ofL s) (p : Int) o 0) (fun k => ?_) hr
   have hl0 : l = [] := List.eq_nil_of_length_eq_zero (by omega)
   simp only [R5_str.l0]
   rw [if_pos trivial, ofL_size, if_neg (by omega), hl0]
   rfl
  have hj1 : ∀ k, R5_str.j1 (k + 1) (ofL out) (longV l) (ofL s) (p : Int) o 0 = R5_str.j2 k (ofL out) (longV l) (pk l) (decide (longV l = 0 ∨ pk l < 32)) (ofL s) (p : Int) o 0 := fun k => by
   simp only [R5_str.j1, peek_f, Option.bind_some, ← hld]
   by_cases h : longV l = 0
   · rw [if_pos h]; simp [h]
   rw [if_neg h]; simp [h]
  have hbad : (S.plain ⟨l, o, 0⟩).2 = false → (longV l = 0 ∨ pk l < 32) → ∃ r, Rd15 s o (strLoop S.esc (n + 1) out ⟨l, o, 0⟩) r ∧ Ev (fun k => R5_str.l0 k (ofL out) (ofL s) (p : Int) o 0) r := fun h1 h2 => by
   refine ⟨_, Rd15.bad (out := []) (p' := p) rfl (by omega) ?_, hround _ (Ev.step hj1 (Ev.step (f := fun k => R5_str.l0 k (ofL out) (ofL s) (p : Int) o 11) (fun k => ?_) (Ev.step (f := fun _ => some (ofL [], ofL s, (p : Int), o, 11)) (fun k => ?_) (Ev.now _))))⟩
   · rw [strLoop_ok, if_pos h1]; rfl
   · simp only [R5_str.j2]
     rw [if_pos (by simpa using h2), fail_f]
     rfl
   simp only [R5_str.l0]
   rw [if_neg (by decide)]
   rfl
  cases hcs : l with
  | nil =>
   rw [← hcs]
   exact hbad (by rw [plain_L, hcs]; rfl) (.inl (by rw [hcs]; rfl))
  | cons b t =>
   rw [← hcs]
   have hne : l ≠ [] := by rw [hcs]; simp
   have hpk : pk l = (b.toNat : Int) := by rw [hcs]; rfl
   have hlt : p < s.length := by have := congrArg List.length hcs; simp at this; omega
   have hdt : s.drop (p + 1) = t := by rw [← List.drop_drop, ← hld, hcs]; rfl
   have hpl : S.plain ⟨l, o, 0⟩ = plainL (l.length + 1) l := plain_L l o 0
   by_cases hg : (Lib.decodeL l).1 = 65533 ∧ (Lib.decodeL l).2 = 1
   · refine hbad ?_ (.inl (by unfold longV; rw [if_pos (.inr hg)]))
     rw [hpl, plainL, if_neg hne, if_neg (by omega), if_neg (by omega), if_pos (by omega)]
   have hgood : good (Lib.decodeL l) := hg
   have hlv : longV l = ((Lib.decodeL l).2 : Int) := by unfold longV; rw [if_neg]; rintro (h | h); exact hne h; exact hg h
   have hw1 := Lib.decodeL_width l
   have hwl := Lib.decodeL_le l hne
   have hpw : p + (Lib.decodeL l).2 ≤ s.length := by clear hround hj1 hbad; omega
   have hc5 : out.length + (l.take (Lib.decodeL l).2).length ≤ 200000 := by clear hround hj1 hbad; rw [List.length_take]; omega
   have hbl := b.toNat_lt
   have hasc : b.toNat < 128 → Lib.decodeL l = (b.toNat, 1) := fun h => by rw [hcs]; exact Lib.decodeL_ascii b t h
   by_cases h32 : b.toNat < 32
   · refine hbad ?_ (.inr (by rw [hpk]; omega))
     have hd := hasc (by omega)
     rw [hpl, plainL, if_neg hne, hd, if_neg (by simp only []; omega), if_pos (by simp only []; omega)]
   have hflag : decide (longV l = 0 ∨ pk l < 32) = false := by
    rw [decide_eq_false_iff_not, hlv, hpk]; omega
   rw [hflag] at hj1
   have hj2 : ∀ k, R5_str.j2 (k + 1) (ofL out) (longV l) (pk l) false (ofL s) (p : Int) o 0 = (if pk l = 34 then (some (ofL out, ofL s, ((p + 1 : Nat) : Int), o, 0)) else (if pk l = 92 then ((R5_escape.f k (ofL s) ((p + 1 : Nat) : Int) o 0).bind fun bt191 => (if (ofL out).size + bt191.1.size ≤ 9223372036854775807 then (R5_str.l0 k (ofL out ++ bt191.1) bt191.2.1 bt191.2.2.1 bt191.2.2.2.1 bt191.2.2.2.2) else (none))) else R5_str.l0 k (ofL (out ++ l.take (Lib.decodeL l).2)) (ofL s) ((p + (Lib.decodeL l).2 : Nat) : Int) o 0)) := fun k => by
    simp only [R5_str.j2]
    rw [if_neg (by decide), w1n p s.length hp (by omega)]
    by_cases h1 : pk l = 34
    · rw [if_pos h1, if_pos h1]
    rw [if_neg h1, if_neg h1]
    by_cases h2 : pk l = 92
    · rw [if_pos h2, if_pos h2]
    rw [if_neg h2, if_neg h2, hlv]
    have hwr : wrap64 ((p : Int) + ((Lib.decodeL l).2 : Int)) = ((p + (Lib.decodeL l).2 : Nat) : Int) := by rw [w64 (by omega) (by omega)]; push_cast; rfl
    have hex : (ofL s).extract ((p : Int)).toNat ((((p + (Lib.decodeL l).2 : Nat)) : Int)).toNat = ofL (l.take (Lib.decodeL l).2) := by
     rw [Int.toNat_natCast, Int.toNat_natCast, ofL_ext, hld]
     congr 1
     rw [← List.take_drop]
    have c1 : (0 : Int) ≤ (p : Int) := Int.natCast_nonneg p
    have c2 : (p : Int) ≤ ((p + (Lib.decodeL l).2 : Nat) : Int) := by omega
    have c3 : ((p + (Lib.decodeL l).2 : Nat) : Int) ≤ ((ofL s).size : Int) := by rw [ofL_size]; exact Int.ofNat_le.2 hpw
    have c4 : (ofL out).size + (ofL (l.take (Lib.decodeL l).2)).size ≤ 9223372036854775807 := by
     rw [ofL_size, ofL_size]
     exact Nat.le_trans hc5 (Nat.le_of_ble_eq_true rfl)
    rw [hwr, hex, if_pos c1, if_pos c2, if_pos c3, if_pos c4, ofL_app]
   by_cases h34 : b = 34
   · subst h34
     have hd := hasc (by decide)
     have hpl0 : S.plain ⟨l, o, 0⟩ = (0, true) := by rw [hpl, hcs]; exact plainL_stop _ 34 t (.inl rfl)
     refine ⟨(ofL out, ofL s, ((p + 1 : Nat) : Int), o, 0), ⟨out, p + 1, 0, rfl, by omega, by omega, ?_, fun _ => ?_⟩, hround _ (Ev.step hj1 (Ev.step (f := fun _ => some (ofL out, ofL s, ((p + 1 : Nat) : Int), o, 0)) (fun k => ?_) (Ev.now _)))⟩
     · rw [strLoop_ok, hpl0, hcs]; rfl
     · rw [strLoop_ok, hpl0, hcs]
       refine ⟨?_, hdt, by omega⟩
       show out = out ++ []
       rw [List.append_nil]
     rw [hj2, if_pos (by rw [hpk]; rfl)]
   by_cases h92 : b = 92
   · subst h92
     have hpl0 : S.plain ⟨l, o, 0⟩ = (0, true) := by rw [hpl, hcs]; exact plainL_stop _ 92 t (.inr rfl)
     have hcut : S.cut ⟨l, o, 0⟩ = ⟨s.drop (p + 1), o, 0⟩ := by unfold S.cut; rw [hpl0]; simp only []; rw [hcs, hdt]; rfl
     have hSL : strLoop S.esc (n + 1) out ⟨l, o, 0⟩ = strLoop S.esc n (out ++ (S.esc ⟨s.drop (p + 1), o, 0⟩).1) (S.esc ⟨s.drop (p + 1), o, 0⟩).2 := by
      rw [strLoop_ok, hpl0, hcut, if_neg (by decide), hcs, if_neg (show ¬ ((92 :: t).getD (0, true).fst 0 = 34) from show ¬ ((92 : UInt8) = 34) by decide)]
      simp only [List.take_zero, List.append_nil]
     obtain ⟨r1, hr1, hev1⟩ := esc_ev s hs o (p + 1) (by omega)
     obtain ⟨oe, pe, ee, rfl, hpe, hoe, hee, hok⟩ := hr1
     have hesc := esc_len ⟨s.drop (p + 1), o, 0⟩
     have hgo : ∀ r, Ev (fun k => R5_str.l0 k (ofL (out ++ oe)) (ofL s) (pe : Int) o ee) r → Ev (fun k => R5_str.l0 k (ofL out) (ofL s) (p : Int) o 0) r := fun r hr =>
      hround _ (Ev.step hj1 (Ev.step (f := fun k => (R5_escape.f k (ofL s) ((p + 1 : Nat) : Int) o 0).bind fun bt191 => (if (ofL out).size + bt191.1.size ≤ 9223372036854775807 then (R5_str.l0 k (ofL out ++ bt191.1) bt191.2.1 bt191.2.2.1 bt191.2.2.2.1 bt191.2.2.2.2) else (none))) (fun k => by rw [hj2, if_neg (by rw [hpk]; decide), if_pos (by rw [hpk]; rfl)]) (Ev.bind hev1 (Ev.congr (fun k => by
       rw [if_pos (by simp only [ofL_size]; omega), ofL_app]) hr))))
     rw [hSL]
     by_cases he : ee = 0
     · obtain ⟨h1, h2, h3⟩ := hok he
       have hS2 : (S.esc ⟨s.drop (p + 1), o, 0⟩).2 = ⟨s.drop pe, o, 0⟩ := by
        have e1 := hesc.2.2
        have e2 := hee.symm.trans he
        have e3 := h2
        generalize (S.esc ⟨s.drop (p + 1), o, 0⟩).2 = q at e1 e2 e3
        obtain ⟨qs, qo, qe⟩ := q
        simp only [] at e1 e2 e3
        subst e1; subst e2; subst e3
        rfl
       have hlen1 := hesc.1
       rw [hS2] at hlen1
       simp only [List.length_drop] at hlen1
       have ho2 := hesc.2.1
       rw [← h1] at ho2
       rw [hS2, ← h1]
       obtain ⟨r, g1, g2⟩ := str_l s hs o m pe (out ++ oe) n (by omega) h3 (by rw [List.length_append]; omega) (by omega)
       subst he
       exact ⟨r, g1, hgo r g2⟩
     obtain ⟨k, rfl⟩ : ∃ k, n = k + 1 := ⟨n - 1, by omega⟩
     refine ⟨(ofL [], ofL s, (pe : Int), o, ee), ⟨[], pe, ee, rfl, hpe, Nat.zero_le _, ?_, fun h => absurd h he⟩, hgo _ (Ev.step (f := fun _ => some (ofL [], ofL s, (pe : Int), o, ee)) (fun k => ?_) (Ev.now _))⟩
     · rw [strLoop, if_pos (by rw [← hee]; exact he), hee]
     simp only [R5_str.l0]
     rw [if_neg he]
     rfl
   ·
    have hbk : ∀ c : UInt8, b ≠ c → b.toNat ≠ c.toNat := fun c h e => h (UInt8.toNat_inj.1 e)
    have b34 := hbk 34 h34
    have b92 := hbk 92 h92
    have e34 : (34 : UInt8).toNat = 34 := rfl
    have e92 : (92 : UInt8).toNat = 92 := rfl
    rw [e34] at b34
    rw [e92] at b92
    have hdec : (Lib.decodeL l).1 ≠ 34 ∧ (Lib.decodeL l).1 ≠ 92 ∧ 32 ≤ (Lib.decodeL l).1 := by
     by_cases h128 : b.toNat < 128
     · rw [hasc h128]; exact ⟨b34, b92, by simp only []; omega⟩
     have := decode_high (b := b) (l := t) (by omega)
     rw [← hcs] at this
     exact ⟨by omega, by omega, by omega⟩
    obtain ⟨hch, hdt2, -⟩ := Ch_take hne hgood
    have hsplit : l = l.take (Lib.decodeL l).2 ++ l.drop (Lib.decodeL l).2 := (List.take_append_drop _ _).symm
    have hdrop : l.drop (Lib.decodeL l).2 = s.drop (p + (Lib.decodeL l).2) := by rw [hld, List.drop_drop]
    have hcl : (l.take (Lib.decodeL l).2).length = (Lib.decodeL l).2 := by rw [List.length_take]; omega
    obtain ⟨r, g1, g2⟩ := str_l s hs o m (p + (Lib.decodeL l).2) (out ++ l.take (Lib.decodeL l).2) (n + 1) (by omega) (by omega) (by rw [List.length_append]; omega) (by omega)
    refine ⟨r, ?_, hround _ (Ev.step hj1 (Ev.step (f := fun k => R5_str.l0 k (ofL (out ++ l.take (Lib.decodeL l).2)) (ofL s) ((p + (Lib.decodeL l).2 : Nat) : Int) o 0) (fun k => ?_) g2))⟩
    · rw [← hdrop] at g1
      by_cases hpl2 : (plainL ((l.drop (Lib.decodeL l).2).length + 1) (l.drop (Lib.decodeL l).2)).2 = true
      · have := strLoop_plain n out hch (by rw [hdt2]; exact hdec.1) (by rw [hdt2]; exact hdec.2.1) (by rw [hdt2]; exact hdec.2.2) (l.drop (Lib.decodeL l).2) o hpl2
        rw [← hsplit] at this
        rw [this]
        exact g1
      have hpf : (plainL ((l.drop (Lib.decodeL l).2).length + 1) (l.drop (Lib.decodeL l).2)).2 = false := by simpa using hpl2
      have q1 : (strLoop S.esc (n + 1) (out ++ l.take (Lib.decodeL l).2) ⟨l.drop (Lib.decodeL l).2, o, 0⟩).2.e = 11 := by
       rw [strLoop_ok, if_pos (by rw [plain_L]; exact hpf)]; rfl
      have q2 : (strLoop S.esc (n + 1) out ⟨l, o, 0⟩).2.e = 11 := by
       have : (S.plain ⟨l, o, 0⟩).2 = false := by
        have h := plainL_cons l.length hch (by rw [hdt2]; exact hdec.1) (by rw [hdt2]; exact hdec.2.1) (by rw [hdt2]; exact hdec.2.2) (l.drop (Lib.decodeL l).2)
        rw [← hsplit] at h
        rw [hpl, h, plainL_fuel l.length ((l.drop (Lib.decodeL l).2).length + 1) (l.drop (Lib.decodeL l).2) (by rw [List.length_drop]; omega) (by omega)]
        exact hpf
       rw [strLoop_ok, if_pos this]; rfl
      exact g1.swap (by rw [q1]; decide) (q2.trans q1.symm)
    rw [hj2, if_neg (by rw [hpk]; omega), if_neg (by rw [hpk]; omega)]
theorem str_ev (s : List UInt8) (hs : s.length ≤ 5000) (o : Int) (p : Nat) (t : List UInt8) (hp : s.drop p = 34 :: t) : ∃ r, Rd15 s o (S.st ⟨s.drop p, o, 0⟩) r ∧ Ev (fun k => R5_str.f k (ofL s) (p : Int) o 0) r := by
 have hl : s.drop (p + 1) = t := by rw [← List.drop_drop, hp]; rfl
 have hp1 : p + 1 ≤ s.length := by have := congrArg List.length hp; simp at this; omega
 obtain ⟨r, h1, h2⟩ := str_l s hs o (s.length + 1) (p + 1) [] ((s.drop p).length + 1) (by omega) hp1 (by simp; omega) (by rw [List.length_drop]; omega)
 refine ⟨r, ?_, Ev.congr (fun k => ?_) h2⟩
 · have : S.st ⟨s.drop p, o, 0⟩ = strLoop S.esc ((s.drop p).length + 1) [] ⟨s.drop (p + 1), o, 0⟩ := by
     unfold S.st S.str S.tl
     rw [hl, hp]
     rfl
   rw [this]
   exact h1
 simp only [R5_str.f, peek_f, hp, Option.bind_some]
 rw [if_pos (show pk (34 :: t) = 34 from rfl), w1n p s.length (by omega) (by omega)]
 rfl
end Js
end Go.Proofs.YtapcpndplnkfjaaGreatDoor
namespace Go.Proofs.YtapcpndplnkfjaaGreatDoor.Pq
open Go.RowKit Go.Proofs.YtapcpndplnkfjaaGreatDoorW.PrintWords Go.Proofs.YtapcpndplnkfjaaGreatDoorW.PrintLast Go.Proofs.YtapcpndplnkfjaaGreatDoorW.PrintMore
attribute [local go_sem] max2_int min2_int max_two min_two max_three min_three max_four min_four
def R5_blanks.l0 : Nat → ByteArray → Int → Int → Int → Option (ByteArray × Int × Int × Int)
 | 0, _, _, _, _ => none
 | k + 1, x1000, x1001, x1002, x1003 => if x1001 < (x1000.size : Int) then (if 0 ≤ x1001 then (if (bt x1000 x1001) = 32 then (R5_blanks.l0 k x1000 (wrap64 (x1001 + 1)) x1002 x1003) else (if (bt x1000 x1001) = 9 then (R5_blanks.l0 k x1000 (wrap64 (x1001 + 1)) x1002 x1003) else (if (bt x1000 x1001) = 10 then (R5_blanks.l0 k x1000 (wrap64 (x1001 + 1)) x1002 x1003) else (if (bt x1000 x1001) = 13 then (R5_blanks.l0 k x1000 (wrap64 (x1001 + 1)) x1002 x1003) else (some (x1000, x1001, x1002, x1003)))))) else (none)) else (some (x1000, x1001, x1002, x1003))
def R5_blanks.f (k : Nat) (s0_0 : ByteArray) (s0_1 : Int) (s0_2 : Int) (s0_3 : Int) : Option (ByteArray × Int × Int × Int) := R5_blanks.l0 k s0_0 s0_1 s0_2 s0_3
set_option maxHeartbeats 8000000 in
set_option maxRecDepth 100000 in
theorem R5_blanks.calls (k : Nat) (g : Nat) (s0_0 : ByteArray) (s0_1 : Int) (s0_2 : Int) (s0_3 : Int) (r1 : ByteArray) (r2 : Int) (r3 : Int) (r4 : Int) (w0 w : World) (hI : IsS84 w0 w g s0_0 s0_1 s0_2 s0_3) (hB : Below w0.heap.size w0 w) (h : R5_blanks.f k s0_0 s0_1 s0_2 s0_3 = some (r1, r2, r3, r4)) :
    Calls Tryz.prog 38 #[.pointer (some ⟨g, 0, none⟩)] w fun e w' => e = .returned (.tuple #[]) ∧ IsS84 w0 w' g r1 r2 r3 r4 ∧ Below w0.heap.size w0 w' ∧ KeepBut w w' g none := by
 have HI0 := Aside0.mk hI
 have HK := Aside0.mk (KeepBut.refl w g none)
 have HL := Aside0.mk hB.size
 clear hI
 have HW0 := Aside0.mk hB.size
 have HB := Aside0.mk hB
 clear hB
 have H : (R5_blanks.l0 k s0_0 s0_1 s0_2 s0_3) = some (r1, r2, r3, r4) := h
 clear h
 have H' := Aside0.mk H
 clear H
 go_enter Tryz.func38, Tryz.ntmps38
 go_wp2
 repeat (go_quiet (fail); skip)
 go_loopg [] k (fun kq w' => ∃ (x1001_1 : Int), Aside0 (R5_blanks.l0 kq s0_0 x1001_1 s0_2 s0_3 = some (r1, r2, r3, r4)) ∧ Aside0 (kq ≤ k) ∧ Aside0 (IsS84 w0 w' g s0_0 x1001_1 s0_2 s0_3) ∧ Aside0 (KeepBut w w' g none) ∧ Aside0 (Below w0.heap.size w0 w'))
 case atStart => exact ⟨(s0_1), H', ⟨Nat.le_refl _⟩, ⟨by repeat ((with_reducible (exact HI0.out)))⟩, ⟨by repeat ((with_reducible (exact HK.out)))⟩, ⟨by repeat ((with_reducible (exact HB.out)))⟩⟩
 case round =>
  clear H'
  obtain ⟨x1001_1, HA, HK1, HI0, HK, HB⟩ := hrel
  cases gk with
  | zero => exact absurd HA.out (by simp [R5_blanks.l0])
  | succ k1 =>
   have H := HA.out
   clear HA
   simp only [R5_blanks.l0] at H
   by_cases c2 : x1001_1 < (s0_0.size : Int)
   · rw [if_pos c2] at H
     have c2b0 : decide (x1001_1 < (s0_0.size : Int)) = true := decide_eq_true c2
     clear c2
     by_cases c3 : 0 ≤ x1001_1
     · rw [if_pos c3] at H
       have c3b0 : decide (0 ≤ x1001_1) = true := decide_eq_true c3
       clear c3
       by_cases c5 : (bt s0_0 x1001_1) = 32
       · rw [if_pos c5] at H
         have c5b0 : ((bt s0_0 x1001_1) == 32) = true := beq_iff_eq.mpr c5
         have c5b1 : ((bt s0_0 x1001_1) != 32) = false := bne_eq_false_iff_eq.mpr c5
         clear c5
         have H' := Aside0.mk H
         clear H
         obtain ⟨HGz6, hgz6⟩ := HI0.out
         have hcz6_0 := cellS84_0 HGz6
         have hcz6_1 := cellS84_1 HGz6
         have hcz6_2 := cellS84_2 HGz6
         have hcz6_3 := cellS84_3 HGz6
         have hfz6_0 := blk_frozen HGz6 0
         have hfz6_1 := blk_frozen HGz6 1
         have hfz6_2 := blk_frozen HGz6 2
         have hfz6_3 := blk_frozen HGz6 3
         have p4 : 0 ≤ (x1001_1 : Int) := of_decide_eq_true (by (with_reducible assumption))
         have q4 : x1001_1 < (s0_0.size : Int) := of_decide_eq_true (by (with_reducible assumption))
         have hx4 := bt_at s0_0 x1001_1
         go_wp2
         repeat (go_quiet (fail); try go_wp2)
         go_roundg k1
         case measure => have := HK1.out; omega
         case rel => exact ⟨(wrap64 (x1001_1 + 1)), H', ⟨by have := HK1.out; omega⟩, ⟨by repeat ((with_reducible first | exact HI0.out | apply IsS84.drewN | apply IsS84.set_1 ))⟩, ⟨by repeat ((with_reducible first | exact HK.out | apply KeepBut.set_ | apply keep_drewN ))⟩, ⟨by repeat ((with_reducible first | exact HB.out | apply pw_below_drewN | refine below_set ?_ (IsS84.ge HI0.out)))⟩⟩
       rw [if_neg c5] at H
       have c5b0 : ((bt s0_0 x1001_1) == 32) = false := beq_eq_false_iff_ne.mpr c5
       have c5b1 : ((bt s0_0 x1001_1) != 32) = true := bne_iff_ne.mpr c5
       by_cases c8 : (bt s0_0 x1001_1) = 9
       · rw [if_pos c8] at H
         have c8b0 : ((bt s0_0 x1001_1) == 9) = true := beq_iff_eq.mpr c8
         have c8b1 : ((bt s0_0 x1001_1) != 9) = false := bne_eq_false_iff_eq.mpr c8
         clear c8
         have H' := Aside0.mk H
         clear H
         obtain ⟨HGz9, hgz9⟩ := HI0.out
         have hcz9_0 := cellS84_0 HGz9
         have hcz9_1 := cellS84_1 HGz9
         have hcz9_2 := cellS84_2 HGz9
         have hcz9_3 := cellS84_3 HGz9
         have hfz9_0 := blk_frozen HGz9 0
         have hfz9_1 := blk_frozen HGz9 1
         have hfz9_2 := blk_frozen HGz9 2
         have hfz9_3 := blk_frozen HGz9 3
         have p4 : 0 ≤ (x1001_1 : Int) := of_decide_eq_true (by (with_reducible assumption))
         have q4 : x1001_1 < (s0_0.size : Int) := of_decide_eq_true (by (with_reducible assumption))
         have hx4 := bt_at s0_0 x1001_1
         have p7 : 0 ≤ (x1001_1 : Int) := of_decide_eq_true (by (with_reducible assumption))
         have q7 : x1001_1 < (s0_0.size : Int) := of_decide_eq_true (by (with_reducible assumption))
         have hx7 := bt_at s0_0 x1001_1
         go_wp2
         repeat (go_quiet (fail); try go_wp2)
         go_roundg k1
         case measure => have := HK1.out; omega
         case rel => exact ⟨(wrap64 (x1001_1 + 1)), H', ⟨by have := HK1.out; omega⟩, ⟨by repeat ((with_reducible first | exact HI0.out | apply IsS84.drewN | apply IsS84.set_1 ))⟩, ⟨by repeat ((with_reducible first | exact HK.out | apply KeepBut.set_ | apply keep_drewN ))⟩, ⟨by repeat ((with_reducible first | exact HB.out | apply pw_below_drewN | refine below_set ?_ (IsS84.ge HI0.out)))⟩⟩
       rw [if_neg c8] at H
       have c8b0 : ((bt s0_0 x1001_1) == 9) = false := beq_eq_false_iff_ne.mpr c8
       have c8b1 : ((bt s0_0 x1001_1) != 9) = true := bne_iff_ne.mpr c8
       by_cases c11 : (bt s0_0 x1001_1) = 10
       · rw [if_pos c11] at H
         have c11b0 : ((bt s0_0 x1001_1) == 10) = true := beq_iff_eq.mpr c11
         have c11b1 : ((bt s0_0 x1001_1) != 10) = false := bne_eq_false_iff_eq.mpr c11
         clear c11
         have H' := Aside0.mk H
         clear H
         obtain ⟨HGz12, hgz12⟩ := HI0.out
         have hcz12_0 := cellS84_0 HGz12
         have hcz12_1 := cellS84_1 HGz12
         have hcz12_2 := cellS84_2 HGz12
         have hcz12_3 := cellS84_3 HGz12
         have hfz12_0 := blk_frozen HGz12 0
         have hfz12_1 := blk_frozen HGz12 1
         have hfz12_2 := blk_frozen HGz12 2
         have hfz12_3 := blk_frozen HGz12 3
         have p4 : 0 ≤ (x1001_1 : Int) := of_decide_eq_true (by (with_reducible assumption))
         have q4 : x1001_1 < (s0_0.size : Int) := of_decide_eq_true (by (with_reducible assumption))
         have hx4 := bt_at s0_0 x1001_1
         have p7 : 0 ≤ (x1001_1 : Int) := of_decide_eq_true (by (with_reducible assumption))
         have q7 : x1001_1 < (s0_0.size : Int) := of_decide_eq_true (by (with_reducible assumption))
         have hx7 := bt_at s0_0 x1001_1
         have p10 : 0 ≤ (x1001_1 : Int) := of_decide_eq_true (by (with_reducible assumption))
         have q10 : x1001_1 < (s0_0.size : Int) := of_decide_eq_true (by (with_reducible assumption))
         have hx10 := bt_at s0_0 x1001_1
         go_wp2
         repeat (go_quiet (fail); try go_wp2)
         go_roundg k1
         case measure => have := HK1.out; omega
         case rel => exact ⟨(wrap64 (x1001_1 + 1)), H', ⟨by have := HK1.out; omega⟩, ⟨by repeat ((with_reducible first | exact HI0.out | apply IsS84.drewN | apply IsS84.set_1 ))⟩, ⟨by repeat ((with_reducible first | exact HK.out | apply KeepBut.set_ | apply keep_drewN ))⟩, ⟨by repeat ((with_reducible first | exact HB.out | apply pw_below_drewN | refine below_set ?_ (IsS84.ge HI0.out)))⟩⟩
       rw [if_neg c11] at H
       have c11b0 : ((bt s0_0 x1001_1) == 10) = false := beq_eq_false_iff_ne.mpr c11
       have c11b1 : ((bt s0_0 x1001_1) != 10) = true := bne_iff_ne.mpr c11
       by_cases c14 : (bt s0_0 x1001_1) = 13
       · rw [if_pos c14] at H
         have c14b0 : ((bt s0_0 x1001_1) == 13) = true := beq_iff_eq.mpr c14
         have c14b1 : ((bt s0_0 x1001_1) != 13) = false := bne_eq_false_iff_eq.mpr c14
         clear c14
         have H' := Aside0.mk H
         clear H
         obtain ⟨HGz15, hgz15⟩ := HI0.out
         have hcz15_0 := cellS84_0 HGz15
         have hcz15_1 := cellS84_1 HGz15
         have hcz15_2 := cellS84_2 HGz15
         have hcz15_3 := cellS84_3 HGz15
         have hfz15_0 := blk_frozen HGz15 0
         have hfz15_1 := blk_frozen HGz15 1
         have hfz15_2 := blk_frozen HGz15 2
         have hfz15_3 := blk_frozen HGz15 3
         have p4 : 0 ≤ (x1001_1 : Int) := of_decide_eq_true (by (with_reducible assumption))
         have q4 : x1001_1 < (s0_0.size : Int) := of_decide_eq_true (by (with_reducible assumption))
         have hx4 := bt_at s0_0 x1001_1
         have p7 : 0 ≤ (x1001_1 : Int) := of_decide_eq_true (by (with_reducible assumption))
         have q7 : x1001_1 < (s0_0.size : Int) := of_decide_eq_true (by (with_reducible assumption))
         have hx7 := bt_at s0_0 x1001_1
         have p10 : 0 ≤ (x1001_1 : Int) := of_decide_eq_true (by (with_reducible assumption))
         have q10 : x1001_1 < (s0_0.size : Int) := of_decide_eq_true (by (with_reducible assumption))
         have hx10 := bt_at s0_0 x1001_1
         have p13 : 0 ≤ (x1001_1 : Int) := of_decide_eq_true (by (with_reducible assumption))
         have q13 : x1001_1 < (s0_0.size : Int) := of_decide_eq_true (by (with_reducible assumption))
         have hx13 := bt_at s0_0 x1001_1
         go_wp2
         repeat (go_quiet (fail); try go_wp2)
         go_roundg k1
         case measure => have := HK1.out; omega
         case rel => exact ⟨(wrap64 (x1001_1 + 1)), H', ⟨by have := HK1.out; omega⟩, ⟨by repeat ((with_reducible first | exact HI0.out | apply IsS84.drewN | apply IsS84.set_1 ))⟩, ⟨by repeat ((with_reducible first | exact HK.out | apply KeepBut.set_ | apply keep_drewN ))⟩, ⟨by repeat ((with_reducible first | exact HB.out | apply pw_below_drewN | refine below_set ?_ (IsS84.ge HI0.out)))⟩⟩
       rw [if_neg c14] at H
       have c14b0 : ((bt s0_0 x1001_1) == 13) = false := beq_eq_false_iff_ne.mpr c14
       have c14b1 : ((bt s0_0 x1001_1) != 13) = true := bne_iff_ne.mpr c14
       simp only [Option.some.injEq, Prod.mk.injEq] at H
       obtain ⟨rfl, rfl, rfl, rfl⟩ := H
       obtain ⟨HGz16, hgz16⟩ := HI0.out
       have hcz16_0 := cellS84_0 HGz16
       have hcz16_1 := cellS84_1 HGz16
       have hcz16_2 := cellS84_2 HGz16
       have hcz16_3 := cellS84_3 HGz16
       have p4 : 0 ≤ (x1001_1 : Int) := of_decide_eq_true (by (with_reducible assumption))
       have q4 : x1001_1 < (s0_0.size : Int) := of_decide_eq_true (by (with_reducible assumption))
       have hx4 := bt_at s0_0 x1001_1
       have p7 : 0 ≤ (x1001_1 : Int) := of_decide_eq_true (by (with_reducible assumption))
       have q7 : x1001_1 < (s0_0.size : Int) := of_decide_eq_true (by (with_reducible assumption))
       have hx7 := bt_at s0_0 x1001_1
       have p10 : 0 ≤ (x1001_1 : Int) := of_decide_eq_true (by (with_reducible assumption))
       have q10 : x1001_1 < (s0_0.size : Int) := of_decide_eq_true (by (with_reducible assumption))
       have hx10 := bt_at s0_0 x1001_1
       have p13 : 0 ≤ (x1001_1 : Int) := of_decide_eq_true (by (with_reducible assumption))
       have q13 : x1001_1 < (s0_0.size : Int) := of_decide_eq_true (by (with_reducible assumption))
       have hx13 := bt_at s0_0 x1001_1
       go_wp2
       repeat (go_quiet (fail); try go_wp2)
       (go_end0)
       try simp only [beq_nil_isEmpty, bytesLess_gtr]
       exact ⟨by (simp [errW_none, errW_some] <;> rfl), by repeat ((with_reducible first | exact HI0.out | apply IsS84.drewN )), by repeat ((with_reducible first | exact HB.out | apply pw_below_drewN )), by repeat ((with_reducible first | exact HK.out | apply keep_drewN ))⟩
     rw [if_neg c3] at H
     exact absurd H (by simp)
   rw [if_neg c2] at H
   have c2b0 : decide (x1001_1 < (s0_0.size : Int)) = false := decide_eq_false c2
   clear c2
   simp only [Option.some.injEq, Prod.mk.injEq] at H
   obtain ⟨rfl, rfl, rfl, rfl⟩ := H
   obtain ⟨HGz17, hgz17⟩ := HI0.out
   have hcz17_0 := cellS84_0 HGz17
   have hcz17_1 := cellS84_1 HGz17
   have hcz17_2 := cellS84_2 HGz17
   have hcz17_3 := cellS84_3 HGz17
   go_wp2
   repeat (go_quiet (fail); try go_wp2)
   (go_end0)
   try simp only [beq_nil_isEmpty, bytesLess_gtr]
   exact ⟨by (simp [errW_none, errW_some] <;> rfl), by repeat ((with_reducible first | exact HI0.out | apply IsS84.drewN )), by repeat ((with_reducible first | exact HB.out | apply pw_below_drewN )), by repeat ((with_reducible first | exact HK.out | apply keep_drewN ))⟩
end Go.Proofs.YtapcpndplnkfjaaGreatDoor.Pq
namespace Go.Proofs.YtapcpndplnkfjaaGreatDoor
open Go.RowKit Go.Proofs.YtapcpndplnkfjaaGreatDoorW.PrintWords Go.Proofs.YtapcpndplnkfjaaGreatDoorW.PrintLast Go.Proofs.YtapcpndplnkfjaaGreatDoorW.PrintMore
namespace Js
structure Rf (s : List UInt8) (w w' : World) (g : Nat) (a : S) (p : Nat) (o : Int) : Prop where
  cell : w'.heap[g]? = some (.cells #[.string (ofL s), .int .i64 (p : Int), .int .i64 o, .int .i64 a.e] 84 (0, 0))
  kp : w.grownBy w' (some g)
  gl : g < w.heap.size
  sl : s.length ≤ 5000
  pl : p ≤ s.length + 1
  ok : a.e = 0 → p ≤ s.length ∧ s.drop p = a.s ∧ o = a.o
theorem Rf.lt {s : List UInt8} {w w1 : World} {g : Nat} {a : S} {p : Nat} {o : Int} (h : Rf s w w1 g a p o) : g < w1.heap.size := (Array.getElem?_eq_some_iff.1 h.cell).1
theorem Rf.trans {s : List UInt8} {w w1 w2 : World} {g : Nat} {a b : S} {p q : Nat} {o u : Int} (h : Rf s w w1 g a p o) (k : Rf s w1 w2 g b q u) : Rf s w w2 g b q u := ⟨k.cell, grown_trans h.kp k.kp, h.gl, k.sl, k.pl, k.ok⟩
theorem Rf.below {s : List UInt8} {w w1 w2 : World} {g : Nat} {a : S} {p : Nat} {o : Int} (h : Rf s w w1 g a p o) (k : Below w1.heap.size w1 w2) : Rf s w w2 g a p o := ⟨(k.block g h.lt).trans h.cell, grown_trans h.kp (grown_below k _), h.gl, h.sl, h.pl, h.ok⟩
theorem Rf.now {s : List UInt8} {w w1 : World} {g : Nat} {a : S} {p : Nat} {o : Int} (h : Rf s w w1 g a p o) : Rf s w1 w1 g a p o := ⟨h.cell, grown_refl _ _, h.lt, h.sl, h.pl, h.ok⟩
theorem Rf.c0 {s : List UInt8} {w w1 : World} {g : Nat} {a : S} {p : Nat} {o : Int} (h : Rf s w w1 g a p o) : w1.cell? ⟨g, 0, none⟩ = some (.string (ofL s)) := (blk_cell h.cell 0).trans rfl
theorem Rf.c1 {s : List UInt8} {w w1 : World} {g : Nat} {a : S} {p : Nat} {o : Int} (h : Rf s w w1 g a p o) : w1.cell? ⟨g, 1, none⟩ = some (.int .i64 (p : Int)) := (blk_cell h.cell 1).trans rfl
theorem Rf.c2 {s : List UInt8} {w w1 : World} {g : Nat} {a : S} {p : Nat} {o : Int} (h : Rf s w w1 g a p o) : w1.cell? ⟨g, 2, none⟩ = some (.int .i64 o) := (blk_cell h.cell 2).trans rfl
theorem Rf.c3 {s : List UInt8} {w w1 : World} {g : Nat} {a : S} {p : Nat} {o : Int} (h : Rf s w w1 g a p o) : w1.cell? ⟨g, 3, none⟩ = some (.int .i64 a.e) := (blk_cell h.cell 3).trans rfl
theorem Rf.fz {s : List UInt8} {w w1 : World} {g : Nat} {a : S} {p : Nat} {o : Int} (h : Rf s w w1 g a p o) (j : Nat) : w1.frozen? ⟨g, j, none⟩ = false := blk_frozen h.cell j
theorem Rf.d {s : List UInt8} {w w1 : World} {g : Nat} {a : S} {p : Nat} {o : Int} (h : Rf s w w1 g a p o) : Rf s w w1.drew g a p o := ⟨h.cell, ⟨h.kp.os, h.kp.tape, h.kp.output, h.kp.size, h.kp.block⟩, h.gl, h.sl, h.pl, h.ok⟩
theorem Rf.dN {s : List UInt8} {w w1 : World} {g : Nat} {a : S} {p : Nat} {o : Int} (h : Rf s w w1 g a p o) (n : Nat) : Rf s w (w1.drewN n) g a p o := ⟨h.cell, ⟨h.kp.os, h.kp.tape, h.kp.output, h.kp.size, h.kp.block⟩, h.gl, h.sl, h.pl, h.ok⟩
theorem Rf.s1 {s : List UInt8} {w w1 : World} {g : Nat} {a : S} {p : Nat} {o : Int} (h : Rf s w w1 g a p o) (q : Nat) (b : S) (hb : b.e = a.e) (hq : q ≤ s.length + 1) (hok : a.e = 0 → q ≤ s.length ∧ s.drop q = b.s ∧ o = b.o) : Rf s w (w1.setCell ⟨g, 1, none⟩ (.int .i64 (q : Int))) g b q o :=
 ⟨by rw [hb]; exact blk_put h.cell 1 _ rfl, grown_trans h.kp (grown_set _ _ _ _), h.gl, h.sl, hq, fun e => hok (by rw [← hb]; exact e)⟩
theorem Rf.s2 {s : List UInt8} {w w1 : World} {g : Nat} {a : S} {p : Nat} {o : Int} (h : Rf s w w1 g a p o) (u : Int) (b : S) (hb : b.e = a.e) (hok : a.e = 0 → p ≤ s.length ∧ s.drop p = b.s ∧ u = b.o) : Rf s w (w1.setCell ⟨g, 2, none⟩ (.int .i64 u)) g b p u :=
 ⟨by rw [hb]; exact blk_put h.cell 2 _ rfl, grown_trans h.kp (grown_set _ _ _ _), h.gl, h.sl, h.pl, fun e => hok (by rw [← hb]; exact e)⟩
def cutW (w : World) (g : Nat) : World := { w with heap := w.heap.extract 0 g }
theorem cutW_below {w : World} {g : Nat} (h : g < w.heap.size) : Below (cutW w g).heap.size (cutW w g) w := by
 have hs : (cutW w g).heap.size = g := by show (w.heap.extract 0 g).size = g; simp; omega
 refine ⟨rfl, rfl, rfl, by rw [hs]; omega, fun k hk => ?_⟩
 rw [hs] at hk
 show w.heap[k]? = (w.heap.extract 0 g)[k]?
 rw [Array.getElem?_extract]
 simp; omega
theorem Rf.is {s : List UInt8} {w w1 : World} {g : Nat} {a : S} {p : Nat} {o : Int} (h : Rf s w w1 g a p o) : IsS84 (cutW w1 g) w1 g (ofL s) (p : Int) o a.e :=
 ⟨h.cell, by show (w1.heap.extract 0 g).size ≤ g; simp; omega⟩
theorem Rf.of {s : List UInt8} {w w1 w2 : World} {g : Nat} {a b : S} {p q : Nat} {o u : Int} (h : Rf s w w1 g a p o) (hI : IsS84 (cutW w1 g) w2 g (ofL s) (q : Int) u b.e) (hB : Below (cutW w1 g).heap.size (cutW w1 g) w2) (hK : KeepBut w1 w2 g none)
    (hq : q ≤ s.length + 1) (hok : b.e = 0 → q ≤ s.length ∧ s.drop q = b.s ∧ u = b.o) : Rf s w w2 g b q u :=
 ⟨hI.1, grown_trans h.kp ⟨hB.os, hB.tape, hB.output, hK.1, fun i hi hn => hK.2 i hi (fun e => hn (by rw [e])) (by simp)⟩, h.gl, h.sl, hq, hok⟩
theorem fail15 {s : List UInt8} {w w1 : World} {g : Nat} {a : S} {p : Nat} {o : Int} (h : Rf s w w1 g a p o) (x : Int) (hx : x ≠ 0) :
    Calls Tryz.prog 39 #[.pointer (some ⟨g, 0, none⟩), .int .i64 x] w1 fun E w' => E = .returned (.tuple #[]) ∧ Rf s w w' g (a.fail x) p o := by
 refine (R5_fail.calls g (ofL s) p o a.e x _ _ _ _ (cutW w1 g) w1 h.is (cutW_below h.lt) (fail_f _ _ _ _ _)).mono ?_
 rintro E w2 ⟨rfl, hI, hB, hK⟩
 exact ⟨rfl, h.of hI hB hK h.pl (fun e => absurd e (fail_ne a x hx))⟩
theorem peek15 {s : List UInt8} {w w1 : World} {g : Nat} {a : S} {p : Nat} {o : Int} (h : Rf s w w1 g a p o) :
    Calls Tryz.prog 72 #[.pointer (some ⟨g, 0, none⟩)] w1 fun E w' => E = .returned (.int .u8 (pk (s.drop p))) ∧ Rf s w w' g a p o := by
 refine (R5_peek.calls g (ofL s) p o a.e _ _ _ _ _ (cutW w1 g) w1 h.is (cutW_below h.lt) (peek_f s p o a.e)).mono ?_
 rintro E w2 ⟨rfl, hI, hB, hK⟩
 exact ⟨rfl, h.of hI hB hK h.pl h.ok⟩
theorem isB_iff (b : UInt8) : [32, 9, 10, 13].contains b = true ↔ ((b.toNat : Int) = 32 ∨ (b.toNat : Int) = 9 ∨ (b.toNat : Int) = 10 ∨ (b.toNat : Int) = 13) := by
 have : ∀ k : Fin 256, [32, 9, 10, 13].contains (UInt8.ofNat k.val) = true ↔ (((UInt8.ofNat k.val).toNat : Int) = 32 ∨ ((UInt8.ofNat k.val).toNat : Int) = 9 ∨ ((UInt8.ofNat k.val).toNat : Int) = 10 ∨ ((UInt8.ofNat k.val).toNat : Int) = 13) := by decide +kernel
 have h := this ⟨b.toNat, b.toNat_lt⟩
 rwa [show UInt8.ofNat (⟨b.toNat, b.toNat_lt⟩ : Fin 256).val = b from UInt8.ofNat_toNat] at h
theorem blanks_ev (s : List UInt8) (hs : s.length ≤ 5000) (o e : Int) : ∀ (m p : Nat), s.length - p < m → p ≤ s.length + 1 →
    ∃ q : Nat, q ≤ s.length + 1 ∧ (p ≤ s.length → q ≤ s.length) ∧ s.drop q = Lib.trimLeftS (s.drop p) [32, 9, 10, 13] ∧ Ev (fun k => Pq.R5_blanks.l0 k (ofL s) (p : Int) o e) (ofL s, (q : Int), o, e)
 | 0, p, h, hp => absurd h (by omega)
 | m + 1, p, h, hp => by
  by_cases hlt : p < s.length
  · obtain ⟨b, l, hd⟩ : ∃ b l, s.drop p = b :: l := by
      cases hd : s.drop p with
      | nil => have := congrArg List.length hd; simp at this; omega
      | cons b l => exact ⟨b, l, rfl⟩
    have hl : s.drop (p + 1) = l := by rw [← List.drop_drop, hd]; rfl
    have hbt : bt (ofL s) (p : Int) = (b.toNat : Int) := by rw [bt_drop s p hlt, hd]; rfl
    cases hb : [32, 9, 10, 13].contains b with
    | true =>
     obtain ⟨q, h1, h2, h3, h4⟩ := blanks_ev s hs o e m (p + 1) (by omega) (by omega)
     refine ⟨q, h1, fun _ => h2 (by omega), ?_, Ev.step (fun k => ?_) h4⟩
     · rw [h3, hd, hl]
       unfold Lib.trimLeftS
       rw [List.dropWhile_cons, hb]
       rfl
     simp only [Pq.R5_blanks.l0]
     rw [ofL_size, if_pos (by omega), if_pos (by omega), hbt, w1n p s.length (by omega) (by omega)]
     have := (isB_iff b).1 hb
     by_cases k1 : (b.toNat : Int) = 32
     · rw [if_pos k1]
     rw [if_neg k1]
     by_cases k2 : (b.toNat : Int) = 9
     · rw [if_pos k2]
     rw [if_neg k2]
     by_cases k3 : (b.toNat : Int) = 10
     · rw [if_pos k3]
     rw [if_neg k3, if_pos (by omega)]
    | false =>
     have hn : ¬ ((b.toNat : Int) = 32 ∨ (b.toNat : Int) = 9 ∨ (b.toNat : Int) = 10 ∨ (b.toNat : Int) = 13) := fun k => by rw [(isB_iff b).2 k] at hb; cases hb
     refine ⟨p, hp, fun h => h, ?_, Ev.step (f := fun _ => some (ofL s, (p : Int), o, e)) (fun k => ?_) (Ev.now _)⟩
     · rw [hd, trim_cons hb]
     simp only [Pq.R5_blanks.l0]
     rw [ofL_size, if_pos (by omega), if_pos (by omega), hbt, if_neg (by omega), if_neg (by omega), if_neg (by omega), if_neg (by omega)]
  refine ⟨p, hp, fun h => h, ?_, Ev.step (f := fun _ => some (ofL s, (p : Int), o, e)) (fun k => ?_) (Ev.now _)⟩
  · rw [List.drop_eq_nil_of_le (by omega)]; rfl
  simp only [Pq.R5_blanks.l0]
  rw [ofL_size, if_neg (by omega)]
theorem blanks15 {s : List UInt8} {w w1 : World} {g : Nat} {a : S} {p : Nat} {o : Int} (h : Rf s w w1 g a p o) :
    Calls Tryz.prog 38 #[.pointer (some ⟨g, 0, none⟩)] w1 fun E w' => E = .returned (.tuple #[]) ∧ ∃ q, Rf s w w' g a.skip q o := by
 obtain ⟨q, h1, h2, h3, h4⟩ := blanks_ev s h.sl o a.e (s.length - p + 1) p (by omega) h.pl
 obtain ⟨k, hk⟩ := h4.rounds
 refine (Pq.R5_blanks.calls k g (ofL s) p o a.e _ _ _ _ (cutW w1 g) w1 h.is (cutW_below h.lt) hk).mono ?_
 rintro E w2 ⟨rfl, hI, hB, hK⟩
 exact ⟨rfl, q, h.of (b := a.skip) hI hB hK h1 (fun e => by
  obtain ⟨g1, g2, g3⟩ := h.ok e
  exact ⟨h2 g1, h3.trans (by rw [g2]; rfl), g3⟩)⟩
def strV (a : S) : List UInt8 × S := if Lib.hasPrefix a.s [34] = true then a.st else ([], a.fail 11)
theorem str15 {s : List UInt8} {w w1 : World} {g : Nat} {a : S} {p : Nat} {o : Int} (h : Rf s w w1 g a p o) (he : a.e = 0) :
    Calls Tryz.prog 74 #[.pointer (some ⟨g, 0, none⟩)] w1 fun E w' => ∃ out q, E = .returned (.string (ofL out)) ∧ Rf s w w' g (strV a).2 q o ∧ ((strV a).2.e = 0 → out = (strV a).1) := by
 obtain ⟨hp, hd, ho⟩ := h.ok he
 obtain ⟨sa, ao, ae⟩ := a
 simp only [] at he hd ho
 subst he; subst hd; subst ho
 by_cases hq : Lib.hasPrefix (s.drop p) [34] = true
 · obtain ⟨t, ht⟩ : ∃ t, s.drop p = 34 :: t := by
     unfold Lib.hasPrefix at hq
     rw [List.isPrefixOf_iff_prefix] at hq
     obtain ⟨t, h⟩ := hq
     exact ⟨t, h.symm⟩
   obtain ⟨r, ⟨out, q, e, rfl, hq1, -, hq2, hq3⟩, hev⟩ := str_ev s h.sl o p t ht
   obtain ⟨k, hk⟩ := hev.rounds
   have hV : strV ⟨s.drop p, o, 0⟩ = S.st ⟨s.drop p, o, 0⟩ := by unfold strV; rw [if_pos hq]
   rw [hV]
   refine (R5_str.calls k g (ofL s) p o 0 _ _ _ _ _ (cutW w1 g) w1 h.is (cutW_below h.lt) hk).mono ?_
   rintro E w2 ⟨rfl, hI, hB, hK⟩
   refine ⟨out, q, rfl, h.of (b := (S.st ⟨s.drop p, o, 0⟩).2) (by rw [← hq2]; exact hI) hB hK hq1 (fun e0 => ?_), fun e0 => (hq3 (hq2.trans e0)).1⟩
   obtain ⟨-, g2, g3⟩ := hq3 (hq2.trans e0)
   exact ⟨g3, g2, (st_len ⟨s.drop p, o, 0⟩).2.1.symm⟩
 · have hV : strV ⟨s.drop p, o, 0⟩ = ([], S.fail ⟨s.drop p, o, 0⟩ 11) := by unfold strV; rw [if_neg hq]
   rw [hV]
   have hpk : pk (s.drop p) ≠ 34 := fun hh => by
    obtain ⟨b, l, hd, hb, -, -⟩ := drop_pk hh (by decide)
    have : b = 34 := (byte_eq b 34).1 hb
    subst this
    rw [hd] at hq
    exact hq (by simp [Lib.hasPrefix, List.isPrefixOf])
   have hf : R5_str.f 0 (ofL s) (p : Int) o 0 = some (ofL [], ofL s, (p : Int), o, 11) := by
    simp only [R5_str.f, peek_f, Option.bind_some]
    rw [if_neg hpk, fail_f]
    rfl
   refine (R5_str.calls 0 g (ofL s) p o 0 _ _ _ _ _ (cutW w1 g) w1 h.is (cutW_below h.lt) hf).mono ?_
   rintro E w2 ⟨rfl, hI, hB, hK⟩
   exact ⟨[], p, rfl, h.of (b := S.fail ⟨s.drop p, o, 0⟩ 11) hI hB hK h.pl (fun e => absurd e (fail_ne _ 11 (by decide))), fun e => rfl⟩
theorem word15 {s : List UInt8} {w w1 : World} {g : Nat} {a : S} {p : Nat} {o : Int} (h : Rf s w w1 g a.skip p o) (he : a.e = 0) (ws : List UInt8) (hw : ws.length ≤ 100) :
    Calls Tryz.prog 73 #[.pointer (some ⟨g, 0, none⟩), .string (ofL ws)] w1 fun E w' => E = .returned (.tuple #[]) ∧ ∃ q, Rf s w w' g (a.need ws) q o := by
 obtain ⟨hp, hd, ho⟩ := h.ok he
 have hsl := h.sl
 have hcan : a.took ws = Lib.hasPrefix a.skip.s ws := by unfold S.took; rw [he]; simp
 have hwr : wrap64 ((p : Int) + ((ofL ws).size : Int)) = ((p + ws.length : Nat) : Int) := by rw [ofL_size, w64 (by omega) (by omega)]; push_cast; rfl
 have hsz : ((ofL s).size : Int) = (s.length : Int) := by rw [ofL_size]
 have hbad : Lib.hasPrefix a.skip.s ws = false → R5_word.f (ofL s) (p : Int) o a.skip.e (ofL ws) = some (ofL s, (p : Int), o, 11) → Calls Tryz.prog 73 #[.pointer (some ⟨g, 0, none⟩), .string (ofL ws)] w1 fun E w' => E = .returned (.tuple #[]) ∧ ∃ q, Rf s w w' g (a.need ws) q o := fun h1 h2 => by
  have hn : (a.need ws).e = 11 := by
   unfold S.need
   rw [hcan, h1, if_neg (by decide)]
   exact fail_e0 (by rw [take_e]; exact he) 11
  refine (R5_word.calls g (ofL s) p o a.skip.e (ofL ws) _ _ _ _ (cutW w1 g) w1 h.is (cutW_below h.lt) h2).mono ?_
  rintro E w2 ⟨rfl, hI, hB, hK⟩
  exact ⟨rfl, p, h.of (b := a.need ws) (by rw [hn]; exact hI) hB hK h.pl (fun e => absurd (hn.symm.trans e) (by decide))⟩
 have hse : a.skip.e = 0 := he
 by_cases hlen : s.length < p + ws.length
 · refine hbad ?_ ?_
   · rw [Bool.eq_false_iff]
     intro hh
     unfold Lib.hasPrefix at hh
     rw [List.isPrefixOf_iff_prefix] at hh
     have := hh.length_le
     rw [← hd, List.length_drop] at this
     omega
   simp only [R5_word.f]
   rw [hwr, hsz, if_pos (by omega), fail_f, hse]
   rfl
 have hex : (ofL s).extract ((p : Int)).toNat (((p + ws.length : Nat) : Int)).toNat = ofL ((s.drop p).take ws.length) := by
  rw [Int.toNat_natCast, Int.toNat_natCast, ofL_ext, List.take_drop]
 have heq : Lib.hasPrefix a.skip.s ws = true ↔ (s.drop p).take ws.length = ws := by
  unfold Lib.hasPrefix
  rw [List.isPrefixOf_iff_prefix, ← hd, List.prefix_iff_eq_take]
  exact ⟨fun h => h.symm, fun h => h.symm⟩
 cases hh : Lib.hasPrefix a.skip.s ws with
 | false =>
  refine hbad hh ?_
  simp only [R5_word.f]
  rw [hwr, hsz, if_neg (by omega), if_pos (by omega), if_pos (by omega), if_pos (by omega), hex, ofL_toList, ofL_toList, if_neg (fun e => by rw [heq.2 e] at hh; cases hh), fail_f, hse]
  rfl
 | true =>
  have h2 : R5_word.f (ofL s) (p : Int) o a.skip.e (ofL ws) = some (ofL s, ((p + ws.length : Nat) : Int), o, a.skip.e) := by
   simp only [R5_word.f]
   rw [hwr, hsz, if_neg (by omega), if_pos (by omega), if_pos (by omega), if_pos (by omega), hex, ofL_toList, ofL_toList, if_pos (heq.1 hh)]
  have hn : a.need ws = ⟨a.skip.s.drop ws.length, a.o, a.e⟩ := by
   unfold S.need
   rw [hcan, hh, if_pos rfl, take_yes (by rw [hcan]; exact hh)]
   unfold Lib.trimPrefix
   rw [hh]
   rfl
  refine (R5_word.calls g (ofL s) p o a.skip.e (ofL ws) _ _ _ _ (cutW w1 g) w1 h.is (cutW_below h.lt) h2).mono ?_
  rintro E w2 ⟨rfl, hI, hB, hK⟩
  exact ⟨rfl, p + ws.length, h.of (b := a.need ws) (by rw [hn]; exact hI) hB hK (by omega) (fun e => ⟨by omega, by rw [hn, ← List.drop_drop, hd], by rw [hn]; exact ho⟩)⟩
def F35 (d : Kd S28) : Kd S28 := Kd.iso (Kd.pair (Kd.int .i64) (Kd.pair Kd.bool (Kd.pair k24 (Kd.pair Kd.string (Kd.pair (Kd.slice 35 d) (Kd.slice 9 Kd.string)))))) (fun x : S28 => (x.f0, x.f1, x.f2, x.f3, x.f4, x.f5))
theorem mono35 : Kd.Mono F35 := Kd.mono_iso _ (Kd.mono_pair (Kd.mono_const _) (Kd.mono_pair (Kd.mono_const _) (Kd.mono_pair (Kd.mono_const _) (Kd.mono_pair (Kd.mono_const _) (Kd.mono_pair (Kd.mono_slice 35 Kd.mono_id) (Kd.mono_const _))))))
theorem sub35 : Kd.Sub F35 [9, 35] := Kd.sub_iso _ (Kd.sub_pair (Kd.sub_const _ (by decide)) (Kd.sub_pair (Kd.sub_const _ (by decide)) (Kd.sub_pair (Kd.sub_const _ (by decide)) (Kd.sub_pair (Kd.sub_const _ (by decide)) (Kd.sub_pair (Kd.sub_slice 35 (by decide) Kd.sub_id) (Kd.sub_const _ (by decide)))))))
theorem sz35 : ∀ n, (Kd.upto F35 8 [9, 35] n).sz = 8 := Kd.upto_sz (fun _ => rfl)
def k35 : Kd S28 := Kd.fix F35 8 [9, 35] sz35 (Kd.upto_E sub35)
theorem k35_open {w : World} {x : S28} {cs : List Value} (h : k35.K w x cs) : ∃ A6 c6 A7 c7, cs = [.int .i64 x.f0, .bool x.f1, .bool x.f2.f0, .string x.f2.f1, .int .i64 x.f2.f2, .string x.f3, .slice A6 x.f4.length c6, .slice A7 x.f5.length c7] ∧ x.f4.length ≤ c6 ∧ k35.C w A6 x.f4.length x.f4 ∧ x.f5.length ≤ c7 ∧ Kd.string.C w A7 x.f5.length x.f5 := by
 obtain ⟨n, h⟩ := h
 cases n with
 | zero => exact h.elim
 | succ n =>
  obtain ⟨_, _, rfl, rfl, ⟨_, _, rfl, rfl, ⟨_, _, rfl, s2, ⟨_, _, rfl, rfl, ⟨_, _, rfl, ⟨A6, c6, rfl, l6, g6⟩, ⟨A7, c7, rfl, l7, g7⟩⟩⟩⟩⟩⟩ := h
  obtain rfl := k24_open s2
  exact ⟨A6, c6, A7, c7, rfl, l6, Kd.fix_C g6, l7, g7⟩
theorem k35_openM {w : World} {base : Nat} {ok : Nat → Prop} {x : S28} {cs : List Value} (h : k35.M w base ok x cs) : ∃ v6 v7, cs = [.int .i64 x.f0, .bool x.f1, .bool x.f2.f0, .string x.f2.f1, .int .i64 x.f2.f2, .string x.f3, v6, v7] ∧ k35.R 35 w base ok v6 x.f4 ∧ Kd.string.R 9 w base ok v7 x.f5 := by
 obtain ⟨n, h⟩ := h
 cases n with
 | zero => exact h.elim
 | succ n =>
  obtain ⟨_, _, rfl, rfl, ⟨_, _, rfl, rfl, ⟨_, _, rfl, s2, ⟨_, _, rfl, rfl, ⟨_, _, rfl, ⟨v6, rfl, g6⟩, ⟨v7, rfl, g7⟩⟩⟩⟩⟩⟩ := h
  obtain rfl := k24_openM s2
  exact ⟨v6, v7, rfl, Kd.fix_R g6, g7⟩
theorem k35_mkM (w : World) (base : Nat) (ok : Nat → Prop) (x : S28) {v6 : Value} (g6 : k35.R 35 w base ok v6 x.f4) {v7 : Value} (g7 : Kd.string.R 9 w base ok v7 x.f5) : k35.M w base ok x [.int .i64 x.f0, .bool x.f1, .bool x.f2.f0, .string x.f2.f1, .int .i64 x.f2.f2, .string x.f3, v6, v7] := by
 obtain ⟨n6, q6⟩ := Kd.fix_R_back mono35 g6
 have r6 := Kd.upto_R_le mono35 sz35 (show n6 ≤ n6 by omega) q6
 exact ⟨n6 + 1, ⟨[.int .i64 x.f0], [.bool x.f1, .bool x.f2.f0, .string x.f2.f1, .int .i64 x.f2.f2, .string x.f3, v6, v7], rfl, rfl, ⟨[.bool x.f1], [.bool x.f2.f0, .string x.f2.f1, .int .i64 x.f2.f2, .string x.f3, v6, v7], rfl, rfl, ⟨[.bool x.f2.f0, .string x.f2.f1, .int .i64 x.f2.f2], [.string x.f3, v6, v7], rfl, (k24_mkM w base ok x.f2 ), ⟨[.string x.f3], [v6, v7], rfl, rfl, ⟨[v6], [v7], rfl, ⟨v6, rfl, r6⟩, ⟨v7, rfl, g7⟩⟩⟩⟩⟩⟩⟩
def rd_T35 (xs : List S28) (i : Int) : S28 := xs.getD i.toNat z28
theorem at_T35 {w : World} {A : Option Addr} {n : Nat} {xs : List S28} (h : Kd.C k35 w A n xs) (i : Int) (h0 : 0 ≤ i) (h1 : i < n) : ∃ ad A6 c6 A7 c7, A = some ad ∧ w.cell? (ad.add (i.toNat * 8)) = some (.int .i64 (rd_T35 xs i).f0) ∧ w.cell? ⟨(ad.add (i.toNat * 8)).block, (ad.add (i.toNat * 8)).off + 1, none⟩ = some (.bool (rd_T35 xs i).f1) ∧ w.cell? ⟨(ad.add (i.toNat * 8)).block, (ad.add (i.toNat * 8)).off + 2, none⟩ = some (.bool (rd_T35 xs i).f2.f0) ∧ w.cell? ⟨(ad.add (i.toNat * 8)).block, (ad.add (i.toNat * 8)).off + 3, none⟩ = some (.string (rd_T35 xs i).f2.f1) ∧ w.cell? ⟨(ad.add (i.toNat * 8)).block, (ad.add (i.toNat * 8)).off + 4, none⟩ = some (.int .i64 (rd_T35 xs i).f2.f2) ∧ w.cell? ⟨(ad.add (i.toNat * 8)).block, (ad.add (i.toNat * 8)).off + 5, none⟩ = some (.string (rd_T35 xs i).f3) ∧ w.cell? ⟨(ad.add (i.toNat * 8)).block, (ad.add (i.toNat * 8)).off + 6, none⟩ = some (.slice A6 (rd_T35 xs i).f4.length c6) ∧ w.cell? ⟨(ad.add (i.toNat * 8)).block, (ad.add (i.toNat * 8)).off + 7, none⟩ = some (.slice A7 (rd_T35 xs i).f5.length c7) ∧ (rd_T35 xs i).f4.length ≤ c6 ∧ k35.C w A6 (rd_T35 xs i).f4.length (rd_T35 xs i).f4 ∧ (rd_T35 xs i).f5.length ≤ c7 ∧ Kd.string.C w A7 (rd_T35 xs i).f5.length (rd_T35 xs i).f5 := by
 obtain ⟨ad, c, e, _, hK, hc0⟩ := Kd.C_get h z28 i h0 h1
 have hc : ∀ j u, c[j]? = some u → w.cell? (ad.add (i.toNat * 8 + j)) = some u := hc0
 obtain ⟨A6, c6, A7, c7, rfl, l6, g6, l7, g7⟩ := k35_open hK
 exact ⟨ad, A6, c6, A7, c7, e, hc 0 _ rfl, by rw [← add_field _ _ 1 (by omega)]; exact hc 1 _ rfl, by rw [← add_field _ _ 2 (by omega)]; exact hc 2 _ rfl, by rw [← add_field _ _ 3 (by omega)]; exact hc 3 _ rfl, by rw [← add_field _ _ 4 (by omega)]; exact hc 4 _ rfl, by rw [← add_field _ _ 5 (by omega)]; exact hc 5 _ rfl, by rw [← add_field _ _ 6 (by omega)]; exact hc 6 _ rfl, by rw [← add_field _ _ 7 (by omega)]; exact hc 7 _ rfl, l6, g6, l7, g7⟩
theorem info35 : (Tryz.prog.info? 35).map (fun i => (i.zero, i.size, i.bytes)) = some (some (.agg zA), 8, 112) := by kernel_rfl
def Jw (w : World) (base : Nat) (v : Value) (x : S28) : Prop := ∃ cs, v = .agg cs.toArray ∧ k35.M w base (fun _ => True) x cs
theorem Jw.mk (w : World) (base : Nat) (x : S28) {v6 v7 : Value} (g6 : k35.R 35 w base (fun _ => True) v6 x.f4) (g7 : Kd.string.R 9 w base (fun _ => True) v7 x.f5) :
    Jw w base (.agg #[.int .i64 x.f0, .bool x.f1, .bool x.f2.f0, .string x.f2.f1, .int .i64 x.f2.f2, .string x.f3, v6, v7]) x := ⟨_, rfl, k35_mkM w base _ x g6 g7⟩
theorem Jw.flat (w : World) (base : Nat) (x : S28) (h4 : x.f4 = []) (h5 : x.f5 = []) :
    Jw w base (.agg #[.int .i64 x.f0, .bool x.f1, .bool x.f2.f0, .string x.f2.f1, .int .i64 x.f2.f2, .string x.f3, .slice none 0 0, .slice none 0 0]) x :=
 Jw.mk w base x (by rw [h4]; exact Kd.R_nil _ _ _ _ _) (by rw [h5]; exact Kd.R_nil _ _ _ _ _)
theorem Rf.keep {s : List UInt8} {w w' : World} {g : Nat} {a : S} {p : Nat} {o : Int} (h : Rf s w w' g a p o) {k : Nat} {ob : Obj} (hk : w.heap[k]? = some ob) (hne : k ≠ g) : w'.heap[k]? = some ob :=
 (h.kp.block k (Array.getElem?_eq_some_iff.1 hk).1 (by simpa using hne)).trans hk
theorem Rf.far {s : List UInt8} {w w1 w2 : World} {g b : Nat} {a : S} {p : Nat} {o : Int} (h : Rf s w w1 g a p o) (k : w1.grownBy w2 (some b)) (hb : b ≠ g) (hw : w.heap.size ≤ b) : Rf s w w2 g a p o :=
 ⟨(k.block g h.lt (by simpa using Ne.symm hb)).trans h.cell, ⟨k.os.trans h.kp.os, k.tape.trans h.kp.tape, k.output.trans h.kp.output, Nat.le_trans h.kp.size k.size,
  fun i hi hr => (k.block i (Nat.lt_of_lt_of_le hi h.kp.size) (by simp; omega)).trans (h.kp.block i hi hr)⟩, h.gl, h.sl, h.pl, h.ok⟩
def WC (fn : Nat) (more : Array Value) (ok : S → Prop) (f : S → S28 × S) : Prop := ∀ (s : List UInt8) (w w1 : World) (g : Nat) (a : S) (p : Nat) (o : Int), Rf s w w1 g a p o → s.length ≤ 600 → ok a →
 Calls Tryz.prog fn (#[.pointer (some ⟨g, 0, none⟩)] ++ more) w1 fun E w' => ∃ v y q u, E = .returned v ∧ Jw w' w1.heap.size v y ∧ Rf s w w' g (f a).2 q u ∧ ((f a).2.e = 0 → y = (f a).1)
theorem Jw.of {w : World} {base : Nat} {v : Value} {x : S28} (h : Jw w base v x) : ∃ cs : List Value, v = .agg cs.toArray ∧ cs.toArray.size = 8 ∧ cs.toArray.toList.all (·.oneCell') = true ∧ (Tryz.prog.info? 35).map (·.size) = some cs.toArray.size ∧ k35.M w base (fun _ => True) x cs := by
 obtain ⟨cs, rfl, hM⟩ := h
 have hl : cs.toArray.size = 8 := k35.K_len (k35.K_of_M hM)
 have ho : cs.toArray.toList.all (·.oneCell') = true := List.all_eq_true.2 (fun u hu => k35.K_one (k35.K_of_M hM) u (by simpa using hu))
 exact ⟨cs, rfl, hl, ho, by rw [hl]; kernel_rfl, hM⟩
theorem Jw.up {w w' : World} {base b base' : Nat} {cs : List Value} {x : S28} (h : k35.M w base (fun _ => True) x cs) (k : w.grownBy w' (some b)) (hb : b < base) (hl : base' ≤ base) : Jw w' base' (.agg cs.toArray) x :=
 ⟨cs, rfl, k35.M_lower hl (k35.M_mono (fun _ _ => trivial) (Kd.M_grown (k35.M_bound h) k (fun i hi e => by have := hi.2.1; injection e with e; omega)))⟩
theorem value1_pk (ft fa fo : S → S28 × S) (b : S) (he : b.e = 0) : S.value1 ft fa fo b =
    if pk b.s = 110 then (z28, b.need [110, 117, 108, 108]) else if pk b.s = 116 then (S28.mk 1 true z24 ⟨#[]⟩ [] [], b.need [116, 114, 117, 101]) else if pk b.s = 102 then (S28.mk 1 false z24 ⟨#[]⟩ [] [], b.need [102, 97, 108, 115, 101]) else
    if pk b.s = 34 then ft b else if pk b.s = 91 then fa b else if pk b.s = 123 then fo b else if pk b.s = 45 ∨ 48 ≤ pk b.s ∧ pk b.s ≤ 57 then (b.numV, b.numS) else (z28, b.fail 11) := by
 unfold S.value1
 rw [if_neg (fun h => h he)]
 cases hs : b.s with
 | nil => rfl
 | cons c l =>
  have k : ∀ d : UInt8, (pk (c :: l) = (d.toNat : Int)) = (c = d) := fun d => propext (byte_eq c d)
  have k1 : (pk (c :: l) = 110) = (c = 110) := k 110
  have k2 : (pk (c :: l) = 116) = (c = 116) := k 116
  have k3 : (pk (c :: l) = 102) = (c = 102) := k 102
  have k4 : (pk (c :: l) = 34) = (c = 34) := k 34
  have k5 : (pk (c :: l) = 91) = (c = 91) := k 91
  have k6 : (pk (c :: l) = 123) = (c = 123) := k 123
  have k7 : (pk (c :: l) = 45) = (c = 45) := k 45
  have k8 : (48 ≤ pk (c :: l) ∧ pk (c :: l) ≤ 57) = (48 ≤ c ∧ c ≤ 57) := propext ⟨fun h => ⟨by rw [UInt8.le_iff_toNat_le]; have := h.1; show 48 ≤ c.toNat; have e : pk (c :: l) = (c.toNat : Int) := rfl; omega, by rw [UInt8.le_iff_toNat_le]; have := h.2; show c.toNat ≤ 57; have e : pk (c :: l) = (c.toNat : Int) := rfl; omega⟩,
   fun h => ⟨by have := UInt8.le_iff_toNat_le.1 h.1; have e : pk (c :: l) = (c.toNat : Int) := rfl; have : 48 ≤ c.toNat := this; omega, by have := UInt8.le_iff_toNat_le.1 h.2; have e : pk (c :: l) = (c.toNat : Int) := rfl; have : c.toNat ≤ 57 := this; omega⟩⟩
  simp only [k1, k2, k3, k4, k5, k6, k7, k8]
theorem drop_skip (l : List UInt8) : Lib.trimLeftS (Lib.trimLeftS l [32, 9, 10, 13]) [32, 9, 10, 13] = Lib.trimLeftS l [32, 9, 10, 13] := by
 unfold Lib.trimLeftS
 induction l with
 | nil => rfl
 | cons c l ih =>
  cases h : [32, 9, 10, 13].contains c with
  | true => rw [List.dropWhile_cons, h]; exact ih
  | false =>
   rw [List.dropWhile_cons, h]
   show List.dropWhile _ (c :: l) = c :: l
   rw [List.dropWhile_cons, h]; rfl
theorem skip2 (a : S) : a.skip.skip = a.skip := by unfold S.skip; simp only [drop_skip]
theorem Rf.skipE {s : List UInt8} {w w1 : World} {g : Nat} {a : S} {p : Nat} {o : Int} (h : Rf s w w1 g a p o) (he : a.e ≠ 0) : Rf s w w1 g a.skip p o := ⟨h.cell, h.kp, h.gl, h.sl, h.pl, fun e => absurd e he⟩
set_option maxRecDepth 100000 in
set_option maxHeartbeats 8000000 in
theorem value15 {fa fo : S → S28 × S} {ok : S → Prop} (HN : WC 76 #[] (fun b => b.e = 0) (fun b => (b.numV, b.numS)))
    (HA : WC 75 #[.int .i64 4, .int .u8 93] (fun b => b.e = 0 ∧ pk b.s = 91 ∧ ok b) fa) (HO : WC 75 #[.int .i64 5, .int .u8 125] (fun b => b.e = 0 ∧ pk b.s = 123 ∧ ok b) fo) (hok : ∀ a, ok a → a.e = 0 → ok a.skip) :
    WC 37 #[] ok (S.value textV fa fo) := by
 intro s w w1 g a p o h hs ha
 have H := hi_ h
 have HS := hi_ hs
 have HK := hi_ ha
 have HNN := hi_ HN
 have HAA := hi_ HA
 have HOO := hi_ HO
 have HOK := hi_ hok
 have cc : ∀ ob, (w1.alloc ob).cell? ⟨g, 3, none⟩ = some (.int .i64 a.e) := fun ob => (H.out.below (Below.alloc (Below.refl _ _) (Nat.le_refl _) ob)).c3
 clear h hs ha HN HA HO hok
 show Calls Tryz.prog 37 #[.pointer (some ⟨g, 0, none⟩)] w1 _
 have HB0 : Hid (Below w1.heap.size w1 (w1.alloc (.cells zA 35))) := hi_ (Below.alloc (Below.refl _ _) (Nat.le_refl _) _)
 by_cases he : a.e ≠ 0
 · have e1 : (a.e != 0) = true := by simpa using he
   have HE := hi_ he
   have HV : Hid (S.value textV fa fo a = (z28, a.skip)) := hi_ (by unfold S.value S.value1; rw [if_pos (show a.skip.e ≠ 0 from he)])
   have HR := hi_ (blk_new w1 (.cells zA 35))
   clear he
   go_enter Tryz.func37, Tryz.ntmps37
   go_wp2_with (refine row_event rfl 35 (.tmp 2) (.tmp 9) rfl w1.heap.size _ rfl rfl 35 _ HR.out (by kernel_rfl) rfl rfl ?_; intro w3 hr3 hk3)
   have h3 := ((H.out.below HB0.out).far hk3 (Nat.ne_of_gt H.out.lt) H.out.kp.size).skipE HE.out
   refine bodyPost_ret (results_cell_row rfl _ _ w1.heap.size 35 _ (0, 0) _ rfl hr3 Tryz.underlying35 rfl (by kernel_rfl)) rfl ⟨_, z28, p, o, rfl, Jw.flat w3 _ z28 rfl rfl, ?_, ?_⟩
   · rw [HV.out]; exact h3
   rw [HV.out]; exact fun _ => rfl
 replace he : a.e = 0 := Classical.not_not.1 he
 have e1 : (a.e != 0) = false := by simp [he]
 have HE := hi_ he
 clear he
 go_enter Tryz.func37, Tryz.ntmps37
 go_wp2_with fail
 refine (blanks15 (H.out.below HB0.out).now).mono ?_
 rintro E w2 ⟨rfl, q, h2⟩
 have HR2 := hi_ (h2.keep (blk_new w1 (.cells zA 35)) (Nat.ne_of_gt H.out.lt))
 have H2 := hi_ ((H.out.below HB0.out).trans h2)
 have HL2 := hi_ (Nat.lt_of_lt_of_le (show w1.heap.size < (w1.alloc (.cells zA 35)).heap.size by simp) h2.kp.size)
 clear h2 cc
 go_wp2_with fail
 refine (peek15 H2.out.now).mono ?_
 rintro E w3 ⟨rfl, h3⟩
 have HR3 := hi_ (h3.keep HR2.out (Nat.ne_of_gt H.out.lt))
 have H3 := hi_ (H2.out.trans h3)
 have HL3 := hi_ (Nat.lt_of_lt_of_le HL2.out h3.kp.size)
 clear h3 HR2 H2
 obtain ⟨c, hc⟩ : ∃ c, pk (s.drop q) = c := ⟨_, rfl⟩
 rw [hc]
 have HD := hi_ (H3.out.ok HE.out)
 have HC : Hid (pk a.skip.s = c) := hi_ (by rw [← HD.out.2.1]; exact hc)
 have HV : Hid (S.value textV fa fo a = _) := hi_ (value1_pk textV fa fo a.skip HE.out)
 have hcb := pk_bd (s.drop q)
 rw [hc] at hcb
 clear hc
 by_cases k110 : c = 110
 · subst k110
   have HVV : Hid (S.value textV fa fo a = (z28, a.skip.need [110, 117, 108, 108])) := hi_ (by have := HV.out; rw [HC.out] at this; simpa using this)
   clear HV HC hcb
   go_wp2_with fail
   refine (word15 (show Rf s w3 w3 g a.skip.skip q o from by rw [skip2]; exact H3.out.now) HE.out [110, 117, 108, 108] (by decide)).mono ?_
   rintro E w4 ⟨rfl, q4, h4⟩
   have HR4 := hi_ (h4.keep HR3.out (Nat.ne_of_gt H.out.lt))
   have H4 := hi_ (H3.out.trans h4)
   clear h4
   go_wp2_with (refine row_event rfl 35 (.tmp 2) (.tmp 19) rfl w1.heap.size _ rfl rfl 35 _ HR4.out (by kernel_rfl) rfl rfl ?_; intro w5 hr5 hk5)
   have h5 := H4.out.far hk5 (Nat.ne_of_gt H.out.lt) H.out.kp.size
   refine bodyPost_ret (results_cell_row rfl _ _ w1.heap.size 35 _ (0, 0) _ rfl hr5 Tryz.underlying35 rfl (by kernel_rfl)) rfl ⟨_, z28, q4, o, rfl, Jw.flat w5 _ z28 rfl rfl, ?_, ?_⟩
   · rw [HVV.out]; exact h5
   rw [HVV.out]; exact fun _ => rfl
 have e110 : (c == 110) = false := by simpa using k110
 by_cases k116 : c = 116
 · subst k116
   have HVV : Hid (S.value textV fa fo a = (S28.mk 1 true z24 ⟨#[]⟩ [] [], a.skip.need [116, 114, 117, 101])) := hi_ (by have := HV.out; rw [HC.out] at this; simpa using this)
   clear HV HC hcb
   go_wp2_with fail
   refine (word15 (show Rf s w3 w3 g a.skip.skip q o from by rw [skip2]; exact H3.out.now) HE.out [116, 114, 117, 101] (by decide)).mono ?_
   rintro E w4 ⟨rfl, q4, h4⟩
   have HR4 := hi_ (h4.keep HR3.out (Nat.ne_of_gt H.out.lt))
   have H4 := hi_ (H3.out.trans h4)
   clear h4
   go_wp2_with (refine row_event rfl 35 (.tmp 2) (.tmp 25) rfl w1.heap.size _ rfl rfl 35 _ HR4.out (by kernel_rfl) rfl rfl ?_; intro w5 hr5 hk5)
   have h5 := H4.out.far hk5 (Nat.ne_of_gt H.out.lt) H.out.kp.size
   refine bodyPost_ret (results_cell_row rfl _ _ w1.heap.size 35 _ (0, 0) _ rfl hr5 Tryz.underlying35 rfl (by kernel_rfl)) rfl ⟨_, S28.mk 1 true z24 ⟨#[]⟩ [] [], q4, o, rfl, Jw.flat w5 _ (S28.mk 1 true z24 ⟨#[]⟩ [] []) rfl rfl, ?_, ?_⟩
   · rw [HVV.out]; exact h5
   rw [HVV.out]; exact fun _ => rfl
 have e116 : (c == 116) = false := by simpa using k116
 by_cases k102 : c = 102
 · subst k102
   have HVV : Hid (S.value textV fa fo a = (S28.mk 1 false z24 ⟨#[]⟩ [] [], a.skip.need [102, 97, 108, 115, 101])) := hi_ (by have := HV.out; rw [HC.out] at this; simpa using this)
   clear HV HC hcb
   go_wp2_with fail
   refine (word15 (show Rf s w3 w3 g a.skip.skip q o from by rw [skip2]; exact H3.out.now) HE.out [102, 97, 108, 115, 101] (by decide)).mono ?_
   rintro E w4 ⟨rfl, q4, h4⟩
   have HR4 := hi_ (h4.keep HR3.out (Nat.ne_of_gt H.out.lt))
   have H4 := hi_ (H3.out.trans h4)
   clear h4
   go_wp2_with (refine row_event rfl 35 (.tmp 2) (.tmp 31) rfl w1.heap.size _ rfl rfl 35 _ HR4.out (by kernel_rfl) rfl rfl ?_; intro w5 hr5 hk5)
   have h5 := H4.out.far hk5 (Nat.ne_of_gt H.out.lt) H.out.kp.size
   refine bodyPost_ret (results_cell_row rfl _ _ w1.heap.size 35 _ (0, 0) _ rfl hr5 Tryz.underlying35 rfl (by kernel_rfl)) rfl ⟨_, S28.mk 1 false z24 ⟨#[]⟩ [] [], q4, o, rfl, Jw.flat w5 _ (S28.mk 1 false z24 ⟨#[]⟩ [] []) rfl rfl, ?_, ?_⟩
   · rw [HVV.out]; exact h5
   rw [HVV.out]; exact fun _ => rfl
 have e102 : (c == 102) = false := by simpa using k102
 by_cases k34 : c = 34
 · subst k34
   have HVV : Hid (S.value textV fa fo a = textV a.skip) := hi_ (by have := HV.out; rw [HC.out] at this; simpa using this)
   have HST : Hid (strV a.skip = a.skip.st) := hi_ (by
    unfold strV
    rw [if_pos]
    obtain ⟨b, l, hd, hb, -, -⟩ := drop_pk (s := a.skip.s) (p := 0) (c := 34) HC.out (by decide)
    have : b = 34 := (byte_eq b 34).1 hb
    subst this
    rw [show a.skip.s = 34 :: l from hd]
    simp [Lib.hasPrefix, List.isPrefixOf])
   clear HV HC hcb
   go_wp2_with fail
   refine (str15 H3.out.now HE.out).mono ?_
   rintro E w4 ⟨out, q4, rfl, h4, h4e⟩
   have HR4 := hi_ (h4.keep HR3.out (Nat.ne_of_gt H.out.lt))
   have H4 := hi_ (H3.out.trans h4)
   have HE4 := hi_ h4e
   clear h4 h4e
   go_wp2_with (refine row_event rfl 35 (.tmp 2) (.tmp 37) rfl w1.heap.size _ rfl rfl 35 _ HR4.out (by kernel_rfl) rfl rfl ?_; intro w5 hr5 hk5)
   have h5 := H4.out.far hk5 (Nat.ne_of_gt H.out.lt) H.out.kp.size
   refine bodyPost_ret (results_cell_row rfl _ _ w1.heap.size 35 _ (0, 0) _ rfl hr5 Tryz.underlying35 rfl (by kernel_rfl)) rfl ⟨_, S28.mk 3 false z24 (ofL out) [] [], q4, o, rfl, Jw.flat w5 _ (S28.mk 3 false z24 (ofL out) [] []) rfl rfl, ?_, ?_⟩
   · rw [HVV.out]; have := h5; rw [HST.out] at this; exact this
   rw [HVV.out]; intro e
   have := HE4.out
   rw [HST.out] at this
   rw [this e]; rfl
 have e34 : (c == 34) = false := by simpa using k34
 by_cases k91 : c = 91
 · subst k91
   have HVV : Hid (S.value textV fa fo a = fa a.skip) := hi_ (by have := HV.out; rw [HC.out] at this; simpa using this)
   have HPK := hi_ HC.out
   clear HV HC
   go_wp2_with fail
   refine (HAA.out s w3 w3 g a.skip q o H3.out.now HS.out ⟨HE.out, HPK.out, HOK.out a HK.out HE.out⟩).mono ?_
   rintro E w4 ⟨v, y, q4, u4, rfl, hj4, h4, h4e⟩
   have HR4 := hi_ (h4.keep HR3.out (Nat.ne_of_gt H.out.lt))
   have H4 := hi_ (H3.out.trans h4)
   have HE4 := hi_ h4e
   clear h4 h4e
   obtain ⟨cs, rfl, hs4, ho4, hi4, hM4⟩ := hj4.of
   have HM4 := hi_ (And.intro hs4 (And.intro ho4 (And.intro hi4 hM4)))
   clear hs4 ho4 hi4 hM4 hj4
   go_wp2_with (refine row_event rfl 35 (.tmp 2) (.tmp 42) rfl w1.heap.size _ rfl rfl 35 _ HR4.out HM4.out.2.2.1 (by rw [HM4.out.1]; rfl) HM4.out.2.1 ?_; intro w5 hr5 hk5)
   have h5 := H4.out.far hk5 (Nat.ne_of_gt H.out.lt) H.out.kp.size
   refine bodyPost_ret (results_cell_row rfl _ _ w1.heap.size 35 _ (0, 0) _ rfl hr5 Tryz.underlying35 rfl HM4.out.2.2.1) rfl ⟨_, y, q4, u4, rfl, Jw.up HM4.out.2.2.2 hk5 HL3.out (Nat.le_of_lt HL3.out), ?_, ?_⟩
   · rw [HVV.out]; exact h5
   rw [HVV.out]; exact HE4.out
 have e91 : (c == 91) = false := by simpa using k91
 by_cases k123 : c = 123
 · subst k123
   have HVV : Hid (S.value textV fa fo a = fo a.skip) := hi_ (by have := HV.out; rw [HC.out] at this; simpa using this)
   have HPK := hi_ HC.out
   clear HV HC
   go_wp2_with fail
   refine (HOO.out s w3 w3 g a.skip q o H3.out.now HS.out ⟨HE.out, HPK.out, HOK.out a HK.out HE.out⟩).mono ?_
   rintro E w4 ⟨v, y, q4, u4, rfl, hj4, h4, h4e⟩
   have HR4 := hi_ (h4.keep HR3.out (Nat.ne_of_gt H.out.lt))
   have H4 := hi_ (H3.out.trans h4)
   have HE4 := hi_ h4e
   clear h4 h4e
   obtain ⟨cs, rfl, hs4, ho4, hi4, hM4⟩ := hj4.of
   have HM4 := hi_ (And.intro hs4 (And.intro ho4 (And.intro hi4 hM4)))
   clear hs4 ho4 hi4 hM4 hj4
   go_wp2_with (refine row_event rfl 35 (.tmp 2) (.tmp 47) rfl w1.heap.size _ rfl rfl 35 _ HR4.out HM4.out.2.2.1 (by rw [HM4.out.1]; rfl) HM4.out.2.1 ?_; intro w5 hr5 hk5)
   have h5 := H4.out.far hk5 (Nat.ne_of_gt H.out.lt) H.out.kp.size
   refine bodyPost_ret (results_cell_row rfl _ _ w1.heap.size 35 _ (0, 0) _ rfl hr5 Tryz.underlying35 rfl HM4.out.2.2.1) rfl ⟨_, y, q4, u4, rfl, Jw.up HM4.out.2.2.2 hk5 HL3.out (Nat.le_of_lt HL3.out), ?_, ?_⟩
   · rw [HVV.out]; exact h5
   rw [HVV.out]; exact HE4.out
 have e123 : (c == 123) = false := by simpa using k123
 by_cases k45 : c = 45
 · subst k45
   have HVV : Hid (S.value textV fa fo a = (a.skip.numV, a.skip.numS)) := hi_ (by have := HV.out; rw [HC.out] at this; rw [if_neg k110, if_neg k116, if_neg k102, if_neg k34, if_neg k91, if_neg k123, if_pos (by omega)] at this; exact this)
   clear HV HC
   go_wp2_with fail
   refine (HNN.out s w3 w3 g a.skip q o H3.out.now HS.out HE.out).mono ?_
   rintro E w4 ⟨v, y, q4, u4, rfl, hj4, h4, h4e⟩
   have HR4 := hi_ (h4.keep HR3.out (Nat.ne_of_gt H.out.lt))
   have H4 := hi_ (H3.out.trans h4)
   have HE4 := hi_ h4e
   clear h4 h4e
   obtain ⟨cs, rfl, hs4, ho4, hi4, hM4⟩ := hj4.of
   have HM4 := hi_ (And.intro hs4 (And.intro ho4 (And.intro hi4 hM4)))
   clear hs4 ho4 hi4 hM4 hj4
   go_wp2_with (refine row_event rfl 35 (.tmp 2) (.tmp 60) rfl w1.heap.size _ rfl rfl 35 _ HR4.out HM4.out.2.2.1 (by rw [HM4.out.1]; rfl) HM4.out.2.1 ?_; intro w5 hr5 hk5)
   have h5 := H4.out.far hk5 (Nat.ne_of_gt H.out.lt) H.out.kp.size
   refine bodyPost_ret (results_cell_row rfl _ _ w1.heap.size 35 _ (0, 0) _ rfl hr5 Tryz.underlying35 rfl HM4.out.2.2.1) rfl ⟨_, y, q4, u4, rfl, Jw.up HM4.out.2.2.2 hk5 HL3.out (Nat.le_of_lt HL3.out), ?_, ?_⟩
   · rw [HVV.out]; exact h5
   rw [HVV.out]; exact HE4.out
 have e45 : (c == 45) = false := by simpa using k45
 by_cases kd : 48 ≤ c ∧ c ≤ 57
 · have e48 : decide (48 ≤ c) = true := by simpa using kd.1
   have e57 : decide (c ≤ 57) = true := by simpa using kd.2
   have HVV : Hid (S.value textV fa fo a = (a.skip.numV, a.skip.numS)) := hi_ (by have := HV.out; rw [HC.out] at this; rw [if_neg k110, if_neg k116, if_neg k102, if_neg k34, if_neg k91, if_neg k123, if_pos (by omega)] at this; exact this)
   clear HV HC
   clear hcb
   clear kd
   go_wp2_with fail
   refine (HNN.out s w3 w3 g a.skip q o H3.out.now HS.out HE.out).mono ?_
   rintro E w4 ⟨v, y, q4, u4, rfl, hj4, h4, h4e⟩
   have HR4 := hi_ (h4.keep HR3.out (Nat.ne_of_gt H.out.lt))
   have H4 := hi_ (H3.out.trans h4)
   have HE4 := hi_ h4e
   clear h4 h4e
   obtain ⟨cs, rfl, hs4, ho4, hi4, hM4⟩ := hj4.of
   have HM4 := hi_ (And.intro hs4 (And.intro ho4 (And.intro hi4 hM4)))
   clear hs4 ho4 hi4 hM4 hj4
   go_wp2_with (refine row_event rfl 35 (.tmp 2) (.tmp 60) rfl w1.heap.size _ rfl rfl 35 _ HR4.out HM4.out.2.2.1 (by rw [HM4.out.1]; rfl) HM4.out.2.1 ?_; intro w5 hr5 hk5)
   have h5 := H4.out.far hk5 (Nat.ne_of_gt H.out.lt) H.out.kp.size
   refine bodyPost_ret (results_cell_row rfl _ _ w1.heap.size 35 _ (0, 0) _ rfl hr5 Tryz.underlying35 rfl HM4.out.2.2.1) rfl ⟨_, y, q4, u4, rfl, Jw.up HM4.out.2.2.2 hk5 HL3.out (Nat.le_of_lt HL3.out), ?_, ?_⟩
   · rw [HVV.out]; exact h5
   rw [HVV.out]; exact HE4.out
 have HVV : Hid (S.value textV fa fo a = (z28, a.skip.fail 11)) := hi_ (by have := HV.out; rw [HC.out] at this; rw [if_neg k110, if_neg k116, if_neg k102, if_neg k34, if_neg k91, if_neg k123, if_neg (by omega)] at this; exact this)
 clear HV HC
 have hend : ∀ (E : Ending) (w4 : World), (E = .returned (.tuple #[]) ∧ Rf s w3 w4 g (a.skip.fail 11) q o) → True := fun _ _ _ => trivial
 clear hend
 by_cases k48 : 48 ≤ c
 · have e48 : decide (48 ≤ c) = true := by simpa using k48
   have e57 : decide (c ≤ 57) = false := by simp; omega
   go_wp2_with fail
   refine (fail15 H3.out.now 11 (by decide)).mono ?_
   rintro E w4 ⟨rfl, h4⟩
   have HR4 := hi_ (h4.keep HR3.out (Nat.ne_of_gt H.out.lt))
   have H4 := hi_ (H3.out.trans h4)
   clear h4
   go_wp2_with (refine row_event rfl 35 (.tmp 2) (.tmp 63) rfl w1.heap.size _ rfl rfl 35 _ HR4.out (by kernel_rfl) rfl rfl ?_; intro w5 hr5 hk5)
   have h5 := H4.out.far hk5 (Nat.ne_of_gt H.out.lt) H.out.kp.size
   refine bodyPost_ret (results_cell_row rfl _ _ w1.heap.size 35 _ (0, 0) _ rfl hr5 Tryz.underlying35 rfl (by kernel_rfl)) rfl ⟨_, z28, q, o, rfl, Jw.flat w5 _ z28 rfl rfl, ?_, ?_⟩
   · rw [HVV.out]; exact h5
   rw [HVV.out]; exact fun _ => rfl
 · have e48 : decide (48 ≤ c) = false := by simpa using k48
   go_wp2_with fail
   refine (fail15 H3.out.now 11 (by decide)).mono ?_
   rintro E w4 ⟨rfl, h4⟩
   have HR4 := hi_ (h4.keep HR3.out (Nat.ne_of_gt H.out.lt))
   have H4 := hi_ (H3.out.trans h4)
   clear h4
   go_wp2_with (refine row_event rfl 35 (.tmp 2) (.tmp 63) rfl w1.heap.size _ rfl rfl 35 _ HR4.out (by kernel_rfl) rfl rfl ?_; intro w5 hr5 hk5)
   have h5 := H4.out.far hk5 (Nat.ne_of_gt H.out.lt) H.out.kp.size
   refine bodyPost_ret (results_cell_row rfl _ _ w1.heap.size 35 _ (0, 0) _ rfl hr5 Tryz.underlying35 rfl (by kernel_rfl)) rfl ⟨_, z28, q, o, rfl, Jw.flat w5 _ z28 rfl rfl, ?_, ?_⟩
   · rw [HVV.out]; exact h5
   rw [HVV.out]; exact fun _ => rfl
end Js
end Go.Proofs.YtapcpndplnkfjaaGreatDoor
