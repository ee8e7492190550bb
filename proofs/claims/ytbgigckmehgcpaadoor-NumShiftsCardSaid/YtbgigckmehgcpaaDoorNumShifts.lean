/- A nought more behind the point changes nothing; an exponent of one is ten times as much. -/
import Derived.Test.YtbgigckmehgcpaaDoorNumB
import Derived.Test.YtbgigckmehgcpaaDoorPrx14
namespace Go.Proofs.YtbgigckmehgcpaaDoor
open Go.RowKit Go.Proofs.YtbgigckmehgcpaaDoorW.PrintWords Pr
theorem lstrip_snoc0 (D : List UInt8) : NumP.lstrip (D ++ [48]) = if NumP.lstrip D = [] then [] else NumP.lstrip D ++ [48] := by
  induction D with
  | nil => rfl
  | cons c t ih =>
    by_cases h : NumP.isZ c = true
    · simp only [NumP.lstrip, List.cons_append, List.dropWhile_cons, h, if_true] at ih ⊢
      exact ih
    · simp [NumP.lstrip, h]
theorem rstrip_snoc0 (D : List UInt8) : NumP.rstrip (D ++ [48]) = NumP.rstrip D := by
  unfold NumP.rstrip
  rw [List.reverse_append]
  simp [NumP.isZ]
/-- a nought more, one place lower -/
theorem form_nought (d : Bool) (D : List UInt8) (e : Int) : NumP.form d (D ++ [48]) (e - 1) = NumP.form d D e := by
  unfold NumP.form
  rw [lstrip_snoc0]
  by_cases h : NumP.lstrip D = []
  · rw [if_pos h, h]; rfl
  · rw [if_neg h, rstrip_snoc0]
    by_cases h2 : NumP.rstrip (NumP.lstrip D) = []
    · rw [if_pos h2, if_pos h2]
    · rw [if_neg h2, if_neg h2]
      congr 2
      rw [List.length_append]; simp; omega
theorem is_of (s : List UInt8) (hok : NumP.ok s = true) : NumP.Is s (NumP.down s) (NumP.whole s) (NumP.dotP (NumP.rest1 s)) (NumP.expL (NumP.rest2 s)) (NumP.expP (NumP.rest2 s)) := NumP.Is.of_ok hok
/-- with a nought more behind the point, the number is the same -/
theorem more_nought {s : List UInt8} {d : Bool} {W P : List UInt8} {less : Bool} {E : List UInt8} (h : NumP.Is s d W P less E) :
    ∀ q, q = (NumP.sgn d).length + W.length + (NumP.dot P).length → NumP.parse (s.take q ++ (if P = [] then [46, 48] else [48]) ++ s.drop q) = NumP.parse s ∧ (s.take q ++ (if P = [] then [46, 48] else [48]) ++ s.drop q).length ≤ s.length + 2 := by
  intro q hq
  obtain ⟨x, hx, hs⟩ := h.text
  have e0 : NumP.sgn d ++ (W ++ (NumP.dot P ++ x)) = (NumP.sgn d ++ (W ++ NumP.dot P)) ++ x := by simp
  have htake : s.take q = NumP.sgn d ++ (W ++ NumP.dot P) := by
    rw [hs, e0, List.take_append_of_le_length (by simp; omega), List.take_of_length_le (by simp; omega)]
  have hdrop : s.drop q = x := by
    rw [hs, e0]; exact List.drop_left' (by simp; omega)
  have hI : NumP.Is (s.take q ++ (if P = [] then [46, 48] else [48]) ++ s.drop q) d W (P ++ [48]) less E := by
    refine ⟨h.w0, h.wd, h.wz, by rw [List.all_append, h.pd]; rfl, x, hx, ?_⟩
    rw [htake, hdrop]
    cases P with
    | nil => simp [NumP.dot]
    | cons p t => simp [NumP.dot]
  refine ⟨?_, ?_⟩
  · rw [parse_of_is hI, parse_of_is h]
    have : ((if less = true then - NumP.pow E else NumP.pow E) - ((P ++ [48]).length : Int)) = ((if less = true then - NumP.pow E else NumP.pow E) - (P.length : Int)) - 1 := by rw [List.length_append]; simp; omega
    rw [this, ← List.append_assoc, form_nought]
  · have : (s.take q).length + (s.drop q).length = s.length := by rw [← List.length_append, List.take_append_drop]
    rw [List.length_append, List.length_append]
    split <;> simp only [List.length_cons, List.length_nil] <;> omega
/-- ten times as much -/
theorem more_ten {s : List UInt8} {d : Bool} {W P : List UInt8} (h : NumP.Is s d W P false []) (hx : s = NumP.sgn d ++ (W ++ (NumP.dot P ++ []))) :
    NumP.parse (s ++ [101, 49]) = if NumP.right (NumP.form d (W ++ P) (1 - (P.length : Int))) = true then (NumP.form d (W ++ P) (1 - (P.length : Int)), 0) else (NumP.zero, 13) := by
  have hI : NumP.Is (s ++ [101, 49]) d W P false [49] := by
    refine ⟨h.w0, h.wd, h.wz, h.pd, [101, 49], ⟨.inr ⟨101, [], .inl rfl, .inl ⟨rfl, rfl⟩, by simp, by decide, rfl⟩⟩, ?_⟩
    rw [hx]; simp
  rw [parse_of_is hI]
  have : NumP.pow [49] = 1 := by decide
  simp only [Bool.false_eq_true, if_false, this]
theorem form_shift (d : Bool) (D : List UInt8) (e : Int) : NumP.form d D (e + 1) = if (NumP.form d D e).2.1 = [] then NumP.zero else ((NumP.form d D e).1, (NumP.form d D e).2.1, (NumP.form d D e).2.2 + 1) := by
  unfold NumP.form
  by_cases h : NumP.rstrip (NumP.lstrip D) = []
  · rw [if_pos h, if_pos h]; rfl
  · rw [if_neg h, if_neg h]; simp only [if_neg h]
    congr 2; omega
def shiftsC (s : List UInt8) (k : Nat) (R : Bool × Int × Int) : Option Bool :=
  if R.1 = true then (if 0 ≤ R.2.2 then (if R.2.2 ≤ ((ofL s).size : Int) then (if ((ofL s).extract 0 (R.2.2 : Int).toNat).size + 1 ≤ 9223372036854775807 then (if (((ofL s).extract 0 (R.2.2 : Int).toNat) ++ (⟨#[48]⟩ : ByteArray)).size + ((ofL s).extract (R.2.2 : Int).toNat (ofL s).size).size ≤ 9223372036854775807 then (if R.2.1 = R.2.2 then (if ((ofL s).extract 0 (R.2.2 : Int).toNat).size + 2 ≤ 9223372036854775807 then (if (((ofL s).extract 0 (R.2.2 : Int).toNat) ++ (⟨#[46, 48]⟩ : ByteArray)).size + ((ofL s).extract (R.2.2 : Int).toNat (ofL s).size).size ≤ 9223372036854775807 then (rubricatorlaw14_NumShifts.j0 k (ofL s) R.2.2 (NumP.parse s).2 ((((ofL s).extract 0 (R.2.2 : Int).toNat) ++ (⟨#[46, 48]⟩ : ByteArray)) ++ ((ofL s).extract (R.2.2 : Int).toNat (ofL s).size)) (NumP.parse s).1.1 (ofL (NumP.parse s).1.2.1) (NumP.parse s).1.2.2) else (none)) else (none)) else (rubricatorlaw14_NumShifts.j0 k (ofL s) R.2.2 (NumP.parse s).2 ((((ofL s).extract 0 (R.2.2 : Int).toNat) ++ (⟨#[48]⟩ : ByteArray)) ++ ((ofL s).extract (R.2.2 : Int).toNat (ofL s).size)) (NumP.parse s).1.1 (ofL (NumP.parse s).1.2.1) (NumP.parse s).1.2.2)) else (none)) else (none)) else (none)) else (none)) else some true
theorem NumShifts : rubricatorlaw14_NumShifts.Pure := by
  intro a0 hsz
  rw [← ofL_of a0]
  generalize a0.data.toList = s
  apply Ev.rounds
  by_cases hs : (s.length : Int) > 60
  · refine Ev.congr (fun k => ?_) (Ev.now _)
    unfold rubricatorlaw14_NumShifts.f rubricatorlaw14_awake.f
    simp only [Option.bind_some, if_true, ofL_size]
    rw [if_pos hs]
  · obtain ⟨R, hR, h1, h2⟩ := grammar_ev s (by omega)
    have hp := parse_f s (by omega)
    have start : ∀ r, Ev (fun k => shiftsC s k R) r → Ev (fun k => rubricatorlaw14_NumShifts.f k (ofL s)) r := fun r hr => by
      refine Ev.congr (fun k => ?_) (Ev.bind (f := fun k R => shiftsC s k R) hR hr)
      unfold rubricatorlaw14_NumShifts.f rubricatorlaw14_awake.f shiftsC
      simp only [Option.bind_some, if_true, ofL_size]
      rw [if_neg hs, hp]
      simp only [Option.bind_some]
    apply start
    unfold shiftsC
    cases hok : NumP.ok s with
    | false =>
      rw [hok] at h1
      refine Ev.congr (fun k => ?_) (Ev.now _)
      rw [h1]; rfl
    | true =>
      have hRv := h2 (h1.trans hok)
      subst hRv
      have hIs := is_of s hok
      generalize NumP.down s = d at *
      generalize NumP.whole s = W at *
      generalize NumP.dotP (NumP.rest1 s) = P at *
      generalize NumP.expL (NumP.rest2 s) = less at *
      generalize NumP.expP (NumP.rest2 s) = E at *
      obtain ⟨x, hx, hsx⟩ := hIs.text
      have hlen : s.length = (NumP.sgn d).length + W.length + (NumP.dot P).length + x.length := by rw [hsx]; simp; omega
      obtain ⟨q, hq⟩ : ∃ q, q = (NumP.sgn d).length + W.length + (NumP.dot P).length := ⟨_, rfl⟩
      obtain ⟨m1, m2⟩ := more_nought hIs q hq
      simp only [if_true]
      rw [← hq]
      have hpq : (((NumP.sgn d).length + W.length : Nat) : Int) = (q : Int) ↔ P = [] := by
        have : (NumP.dot P).length = 0 ↔ P = [] := by unfold NumP.dot; cases P <;> simp
        rw [← this]; omega
      have x0 : (ofL s).extract 0 ((q : Int)).toNat = ofL (s.take q) := by rw [ofL_ext, show ((q : Int)).toNat = q by omega, List.drop_zero]
      have x1 : (ofL s).extract ((q : Int)).toNat s.length = ofL (s.drop q) := by rw [ofL_ext, show ((q : Int)).toNat = q by omega, List.take_of_length_le (Nat.le_refl _)]
      have h48 : (⟨#[48]⟩ : ByteArray) = ofL [48] := rfl
      have h4648 : (⟨#[46, 48]⟩ : ByteArray) = ofL [46, 48] := rfl
      have htl : (s.take q).length ≤ s.length := by rw [List.length_take]; omega
      have hdl : (s.drop q).length ≤ s.length := by rw [List.length_drop]; omega
      simp only [x0, x1, h48, h4648, ofL_app, ofL_size]
      have fin : ∀ t, NumP.parse t = NumP.parse s → t.length ≤ 1000 → Ev (fun k => rubricatorlaw14_NumShifts.j0 k (ofL s) (q : Int) (NumP.parse s).2 (ofL t) (NumP.parse s).1.1 (ofL (NumP.parse s).1.2.1) (NumP.parse s).1.2.2) true := by
        intro t ht htl2
        have hpt := parse_f t (by omega)
        rw [ht] at hpt
        refine Ev.step (f := fun k => rubricatorlaw14_NumShifts.j1 k (ofL s) (q : Int) (NumP.parse s).2 false (NumP.parse s).1.1 (ofL (NumP.parse s).1.2.1) (NumP.parse s).1.2.2) (fun k => ?_) ?_
        · simp only [rubricatorlaw14_NumShifts.j0]
          rw [hpt]; simp
        · have j2t : Ev (fun k => rubricatorlaw14_NumShifts.j2 k (ofL s) true (NumP.parse s).1.1 (ofL (NumP.parse s).1.2.1) (NumP.parse s).1.2.2) true := Ev.step (f := fun _ => some true) (fun k => by simp only [rubricatorlaw14_NumShifts.j2, if_true]) (Ev.now _)
          by_cases hc : (NumP.parse s).2 = 0
          · by_cases hql : (q : Int) < (s.length : Int)
            · refine Ev.step (fun k => ?_) j2t
              simp only [rubricatorlaw14_NumShifts.j1, ofL_size]
              rw [if_neg (by simp), if_pos hc, if_pos hql]
            · by_cases hD : (NumP.parse s).1.2.1 = []
              · refine Ev.step (fun k => ?_) j2t
                simp only [rubricatorlaw14_NumShifts.j1, ofL_size, ofL_toList]
                rw [if_neg (by simp), if_pos hc, if_neg hql, hD]; rfl
              · refine Ev.step (f := fun k => rubricatorlaw14_NumShifts.j2 k (ofL s) false (NumP.parse s).1.1 (ofL (NumP.parse s).1.2.1) (NumP.parse s).1.2.2) (fun k => ?_) (Ev.step (f := fun _ => some true) (fun k => ?_) (Ev.now _))
                · simp only [rubricatorlaw14_NumShifts.j1, ofL_size, ofL_toList]
                  rw [if_neg (by simp), if_pos hc, if_neg hql, show ((NumP.parse s).1.2.1 == ([] : List UInt8)) = false by simpa using hD]
                · -- ten times as much
                  have hxe : x = [] := by
                    have : x.length = 0 := by omega
                    exact List.length_eq_zero_iff.1 this
                  have hz : less = false ∧ E = [] := by
                    rcases hx.out with ⟨-, a, b⟩ | ⟨c, g, -, -, -, -, hxx⟩
                    · exact ⟨a, b⟩
                    · rw [hxx] at hxe; simp at hxe
                  obtain ⟨rfl, rfl⟩ := hz
                  subst hxe
                  have hten := more_ten hIs hsx
                  have hps := parse_of_is hIs
                  have hpow0 : NumP.pow [] = 0 := by decide
                  simp only [Bool.false_eq_true, if_false, hpow0] at hps
                  have hpt2 := parse_f (s ++ [101, 49]) (by simp; omega)
                  have hr : NumP.right (NumP.form d (W ++ P) (0 - (P.length : Int))) = true := by
                    cases hr : NumP.right (NumP.form d (W ++ P) (0 - (P.length : Int))) with
                    | true => rfl
                    | false => rw [hr, if_neg (by simp)] at hps; rw [hps] at hc; simp at hc
                  rw [if_pos hr] at hps
                  have hsh := form_shift d (W ++ P) (0 - (P.length : Int))
                  rw [show 0 - (P.length : Int) + 1 = 1 - (P.length : Int) by omega] at hsh
                  rw [hps] at hD ⊢
                  simp only at hD ⊢
                  rw [if_neg hD] at hsh
                  generalize NumP.form d (W ++ P) (0 - (P.length : Int)) = n at *
                  obtain ⟨nd, nD, ne⟩ := n
                  simp only at hD hsh ⊢
                  obtain ⟨p1, p2, p3, p4, p5, p6⟩ := right_parts hr hD
                  have hrn : NumP.right (nd, nD, ne + 1) = decide (ne + 1 ≤ 999) := by
                    unfold NumP.right
                    rw [if_neg hD]
                    have a1 : (nD.head? != some 48) = true := by simpa using p2
                    have a2 : (nD.getLast? != some 48) = true := by simpa using p3
                    have a3 : decide (nD.length ≤ 40) = true := by simpa using p4
                    have a4 : decide (-999 ≤ ne + 1) = true := by rw [decide_eq_true_eq]; omega
                    simp only [p1, a1, a2, a3, a4, Bool.true_and]
                  rw [hten, hsh, hrn] at hpt2
                  simp only [rubricatorlaw14_NumShifts.j2]
                  rw [if_neg (by simp), if_pos (by rw [ofL_size]; omega), show (⟨#[101, 49]⟩ : ByteArray) = ofL [101, 49] from rfl, ofL_app, hpt2]
                  by_cases h999 : ne = 999
                  · subst h999; rfl
                  · rw [decide_eq_true (show ne + 1 ≤ 999 by omega)]
                    simp only [Option.bind_some, if_true]
                    rw [if_neg h999, show wrap64 (ne + 1) = ne + 1 by unfold wrap64; omega]
                    simp
          · refine Ev.step (fun k => ?_) j2t
            simp only [rubricatorlaw14_NumShifts.j1]
            rw [if_neg (by simp), if_neg hc]
      by_cases hP0 : P = []
      · rw [if_pos hP0] at m1 m2
        refine Ev.congr (fun k => ?_) (fin _ m1 (by omega))
        rw [if_pos (by omega), if_pos (by omega), if_pos (by omega), if_pos (by simp; omega), if_pos (hpq.2 hP0), if_pos (by omega), if_pos (by simp; omega)]
      · rw [if_neg hP0] at m1 m2
        refine Ev.congr (fun k => ?_) (fin _ m1 (by omega))
        rw [if_pos (by omega), if_pos (by omega), if_pos (by omega), if_pos (by simp; omega), if_neg (fun z => hP0 (hpq.1 z))]
end Go.Proofs.YtbgigckmehgcpaaDoor
