/- A number's text, parsed again; how two numbers stand. -/
import Derived.Test.YtbgigckmehgcpaaDoorNumG
import Derived.Test.YtbgigckmehgcpaaDoorPrx4
import Derived.Lib.ItoaLen
namespace Go.Proofs.YtbgigckmehgcpaaDoor
open Go.RowKit Go.Proofs.YtbgigckmehgcpaaDoorW.PrintWords Pr
def sideP (n : NumP.NumV) : Int := if n.2.1 = [] then 0 else if n.1 = true then -1 else 1
def cmpI (a b : Int) : Int := if a < b then -1 else if a > b then 1 else 0
def cmpA (a b : NumP.NumV) : Int := if cmpI ((a.2.1.length : Int) + a.2.2) ((b.2.1.length : Int) + b.2.2) = 0 then Lib.compareBytes a.2.1 b.2.1 else cmpI ((a.2.1.length : Int) + a.2.2) ((b.2.1.length : Int) + b.2.2)
def cmpP (a b : NumP.NumV) : Int := if cmpI (sideP a) (sideP b) ≠ 0 ∨ sideP a = 0 then cmpI (sideP a) (sideP b) else sideP a * cmpA a b
theorem side_f (d : Bool) (D : List UInt8) (e : Int) : num_Num_side.f d (ofL D) e = some (sideP (d, D, e)) := by
  unfold num_Num_side.f sideP
  rw [ofL_toList]
  by_cases h : D = []
  · rw [if_pos h, if_pos h]
  · rw [if_neg h, if_neg h]; cases d <;> rfl
theorem cmpI_f (a b : Int) : cmp_Compare_int.f a b = some (cmpI a b) := by
  unfold cmp_Compare_int.f cmp_isNaN_int.f cmpI
  simp only [Option.bind_some, bne_self_eq_false, Bool.false_eq_true, if_false]
  by_cases h : a < b
  · rw [if_pos h, if_pos h]
  · rw [if_neg h, if_neg h]; by_cases h2 : a > b
    · rw [if_pos h2, if_pos h2]
    · rw [if_neg h2, if_neg h2]
theorem or_ev (a b : Int) : Ev (fun k => cmp_Or_int.f k [a, b]) (if a = 0 then b else a) := by
  refine Ev.of (fun k => cmp_Or_int.mono _ k) (k := 3) ?_
  unfold cmp_Or_int.f
  simp only [cmp_Or_int.l0, List.length_cons, List.length_nil]
  have w1 : wrap64 (0 + 1) = 1 := by unfold wrap64; omega
  have w2 : wrap64 (1 + 1) = 2 := by unfold wrap64; omega
  simp only [w1, w2, rd]
  by_cases h : a = 0
  · subst h; by_cases h2 : b = 0 <;> simp [h2]
  · simp [h]
theorem compare_bd (a b : List UInt8) : -1 ≤ Lib.compareBytes a b ∧ Lib.compareBytes a b ≤ 1 := by
  induction a generalizing b with
  | nil => cases b <;> simp [Lib.compareBytes]
  | cons x t ih =>
    cases b with
    | nil => simp [Lib.compareBytes]
    | cons y u =>
      simp only [Lib.compareBytes]
      split
      · omega
      · split
        · omega
        · exact ih u
theorem cmpA_bd (a b : NumP.NumV) : -1 ≤ cmpA a b ∧ cmpA a b ≤ 1 := by
  have := compare_bd a.2.1 b.2.1
  unfold cmpA
  by_cases h : cmpI ((a.2.1.length : Int) + a.2.2) ((b.2.1.length : Int) + b.2.2) = 0
  · rw [if_pos h]; exact this
  · rw [if_neg h]; unfold cmpI; split
    · omega
    · split <;> omega
theorem compare_ev (a b : NumP.NumV) (ha : a.2.1.length ≤ 1000000000000000000 ∧ -1000000000000000000 ≤ a.2.2 ∧ a.2.2 ≤ 1000000000000000000) (hb : b.2.1.length ≤ 1000000000000000000 ∧ -1000000000000000000 ≤ b.2.2 ∧ b.2.2 ≤ 1000000000000000000) :
    Ev (fun k => num_Compare.f k a.1 (ofL a.2.1) a.2.2 b.1 (ofL b.2.1) b.2.2) (cmpP a b) := by
  have sa := side_f a.1 a.2.1 a.2.2
  have sb := side_f b.1 b.2.1 b.2.2
  unfold cmpP
  by_cases hc : cmpI (sideP a) (sideP b) = 0
  · by_cases h0 : sideP a = 0
    · rw [if_pos (.inr h0)]
      refine Ev.congr (f := fun k => num_Compare.j0 k (cmpI (sideP a) (sideP b)) true a.1 (ofL a.2.1) a.2.2 b.1 (ofL b.2.1) b.2.2) (fun k => ?_) (Ev.step (f := fun _ => some (cmpI (sideP a) (sideP b))) (fun k => by simp only [num_Compare.j0, if_true]) (Ev.now _))
      unfold num_Compare.f
      rw [sa, sb]; simp only [Option.bind_some]; rw [cmpI_f]; simp only [Option.bind_some]
      rw [if_pos hc, show (sideP (a.1, a.2.1, a.2.2) == 0) = true by simpa using h0]
    · rw [if_neg (by rintro (h | h); exact h hc; exact h0 h)]
      refine Ev.congr (f := fun k => num_Compare.j0 k (cmpI (sideP a) (sideP b)) false a.1 (ofL a.2.1) a.2.2 b.1 (ofL b.2.1) b.2.2) (fun k => ?_) ?_
      · unfold num_Compare.f
        rw [sa, sb]; simp only [Option.bind_some]; rw [cmpI_f]; simp only [Option.bind_some]
        rw [if_pos hc, show (sideP (a.1, a.2.1, a.2.2) == 0) = false by simpa using h0]
      · have hor := or_ev (cmpI ((a.2.1.length : Int) + a.2.2) ((b.2.1.length : Int) + b.2.2)) (Lib.compareBytes a.2.1 b.2.1)
        refine Ev.step (f := fun k => (cmp_Or_int.f k [cmpI ((a.2.1.length : Int) + a.2.2) ((b.2.1.length : Int) + b.2.2), Lib.compareBytes a.2.1 b.2.1]).bind fun t => some (wrap64 (sideP a * t))) (fun k => ?_) (Ev.bind hor ?_)
        · simp only [num_Compare.j0, ofL_size]
          rw [if_neg (by simp), show wrap64 ((a.2.1.length : Int) + a.2.2) = (a.2.1.length : Int) + a.2.2 by unfold wrap64; omega, show wrap64 ((b.2.1.length : Int) + b.2.2) = (b.2.1.length : Int) + b.2.2 by unfold wrap64; omega, cmpI_f]
          simp only [Option.bind_some]
          rw [sa]; simp only [Option.bind_some]
          rfl
        · refine Ev.congr (fun k => ?_) (Ev.now _)
          have hbd := cmpA_bd a b
          have hs : sideP a = 1 ∨ sideP a = -1 := by
            unfold sideP at h0 ⊢
            split at h0
            · exact absurd rfl h0
            · rename_i h; rw [if_neg h]; split <;> simp
          change some (wrap64 (sideP a * cmpA a b)) = _
          rcases hs with h | h <;> rw [h] <;> congr 1 <;> unfold wrap64 <;> omega
  · rw [if_pos (.inl hc)]
    refine Ev.congr (f := fun k => num_Compare.j0 k (cmpI (sideP a) (sideP b)) true a.1 (ofL a.2.1) a.2.2 b.1 (ofL b.2.1) b.2.2) (fun k => ?_) (Ev.step (f := fun _ => some (cmpI (sideP a) (sideP b))) (fun k => by simp only [num_Compare.j0, if_true]) (Ev.now _))
    unfold num_Compare.f
    rw [sa, sb]; simp only [Option.bind_some]; rw [cmpI_f]; simp only [Option.bind_some]
    rw [if_neg hc]
theorem compare_self : ∀ D : List UInt8, Lib.compareBytes D D = 0
  | [] => rfl
  | c :: t => by
    have : ¬ c < c := by rw [UInt8.lt_iff_toNat_lt]; omega
    simp only [Lib.compareBytes, this, if_false]
    exact compare_self t
theorem cmpI_self (a : Int) : cmpI a a = 0 := by unfold cmpI; simp
theorem cmpP_self (a : NumP.NumV) : cmpP a a = 0 := by
  unfold cmpP cmpA
  rw [cmpI_self, cmpI_self, compare_self]; simp
/-! the text, parsed -/
def NumP.text (n : NumP.NumV) : List UInt8 := if n.2.1 = [] then [48] else NumP.sgn n.1 ++ n.2.1 ++ (if n.2.2 = 0 then [] else 101 :: Lib.itoa n.2.2)
theorem dec_isD (u : Nat) : (Lib.decDigits u).all NumP.isD = true ∧ Lib.decDigits u ≠ [] ∧ NumP.val (Lib.decDigits u) = u := by
  induction u using Nat.strongRecOn with
  | _ u ih =>
    have hdig : ∀ i : Nat, i < 10 → NumP.isD (UInt8.ofNat (48 + i)) = true ∧ ((UInt8.ofNat (48 + i)).toNat : Int) - 48 = i := fun i hi => by
      have : (UInt8.ofNat (48 + i)).toNat = 48 + i := by simp; omega
      refine ⟨?_, by rw [this]; omega⟩
      simp only [NumP.isD, this, decide_eq_true_eq]; omega
    by_cases h : u < 10
    · rw [Lib.decDigits_one h]
      have := hdig u h
      refine ⟨by rw [List.all_cons, this.1]; rfl, by simp, ?_⟩
      simp only [NumP.val, List.foldl_cons, List.foldl_nil]
      omega
    · obtain ⟨h1, h2, h3⟩ := ih (u / 10) (by omega)
      have := hdig (u % 10) (by omega)
      rw [show Lib.decDigits u = Lib.decDigits (u / 10) ++ [UInt8.ofNat (48 + u % 10)] by rw [Lib.decDigits, dif_neg h]]
      refine ⟨by rw [List.all_append, h1, List.all_cons, this.1]; rfl, by simp, ?_⟩
      unfold NumP.val at h3 ⊢
      rw [List.foldl_append, h3]
      simp only [List.foldl_cons, List.foldl_nil]
      omega
theorem val_lstrip' : ∀ E : List UInt8, NumP.val (NumP.lstrip E) = NumP.val E
  | [] => rfl
  | c :: t => by
    by_cases h : c = 48
    · subst h
      show NumP.val (NumP.lstrip t) = _
      rw [val_lstrip' t]; rfl
    · have : NumP.isZ c = false := by simpa [NumP.isZ] using h
      simp [NumP.lstrip, this]
theorem pow_dec (u : Nat) (h : u ≤ 999) : NumP.pow (Lib.decDigits u) = u := by
  have hn : Lib.nDigits u ≤ 10 := by
    by_cases a : u < 10
    · rw [Lib.nDigits_small a]; omega
    · rw [Lib.nDigits_big a]
      by_cases b : u / 10 < 10
      · rw [Lib.nDigits_small b]; omega
      · rw [Lib.nDigits_big b, Lib.nDigits_small (by omega)]; omega
  have hl : (NumP.lstrip (Lib.decDigits u)).length ≤ (Lib.decDigits u).length := (List.dropWhile_suffix NumP.isZ).length_le
  rw [Lib.decDigits_length] at hl
  unfold NumP.pow
  rw [if_neg (by omega), val_lstrip', (dec_isD u).2.2]
theorem lstrip_id (D : List UInt8) (h : D.head? ≠ some 48) : NumP.lstrip D = D := by
  cases D with
  | nil => rfl
  | cons c t =>
    have : NumP.isZ c = false := by simpa [NumP.isZ] using h
    simp [NumP.lstrip, this]
theorem rstrip_id (D : List UInt8) (h : D.getLast? ≠ some 48) : NumP.rstrip D = D := by
  unfold NumP.rstrip
  have : D.reverse.head? ≠ some 48 := by rw [List.head?_reverse]; exact h
  have := lstrip_id D.reverse this
  unfold NumP.lstrip at this
  rw [this, List.reverse_reverse]
theorem right_parts {d : Bool} {D : List UInt8} {e : Int} (h : NumP.right (d, D, e) = true) (h0 : D ≠ []) : D.all NumP.isD = true ∧ D.head? ≠ some 48 ∧ D.getLast? ≠ some 48 ∧ D.length ≤ 40 ∧ -999 ≤ e ∧ e ≤ 999 := by
  unfold NumP.right at h
  rw [if_neg h0] at h
  simp only [Bool.and_eq_true, decide_eq_true_eq, bne_iff_ne, ne_eq] at h
  exact ⟨h.1.1.1.1.1, h.1.1.1.1.2, h.1.1.1.2, h.1.1.2, h.1.2, h.2⟩
theorem parse_of_is {l : List UInt8} {d : Bool} {W P : List UInt8} {less : Bool} {E : List UInt8} (h : NumP.Is l d W P less E) :
    NumP.parse l = if NumP.right (NumP.form d (W ++ P) ((if less = true then - NumP.pow E else NumP.pow E) - (P.length : Int))) = true then (NumP.form d (W ++ P) ((if less = true then - NumP.pow E else NumP.pow E) - (P.length : Int)), 0) else (NumP.zero, 13) := by
  obtain ⟨h1, h2, h3, h4, h5, h6, -, -⟩ := h.parts
  unfold NumP.parse NumP.num
  rw [if_pos h1, h2, h3, h4, h5, h6]
theorem text_is (d : Bool) (D : List UInt8) (e : Int) (h : NumP.right (d, D, e) = true) (h0 : D ≠ []) : NumP.Is (NumP.text (d, D, e)) d D [] (decide (e < 0)) (if e = 0 then [] else Lib.decDigits e.natAbs) := by
  obtain ⟨p1, p2, p3, p4, p5, p6⟩ := right_parts h h0
  obtain ⟨q1, q2, -⟩ := dec_isD e.natAbs
  refine ⟨h0, p1, fun _ => p2, rfl, (if e = 0 then [] else 101 :: Lib.itoa e), ?_, ?_⟩
  · by_cases he : e = 0
    · rw [if_pos he, if_pos he, he]; exact ⟨.inl ⟨rfl, rfl, rfl⟩⟩
    · rw [if_neg he, if_neg he]
      refine ⟨.inr ⟨101, if e < 0 then [45] else [], .inl rfl, ?_, q2, q1, ?_⟩⟩
      · by_cases hn : e < 0
        · right; right; rw [if_pos hn]; exact ⟨rfl, by simpa using hn⟩
        · left; rw [if_neg hn]; exact ⟨rfl, by simpa using hn⟩
      · unfold Lib.itoa
        by_cases hn : e < 0
        · rw [if_pos hn, if_pos hn]; rfl
        · rw [if_neg hn, if_neg hn, show e.toNat = e.natAbs by omega]; rfl
  · unfold NumP.text; rw [if_neg h0]; simp [NumP.dot]
theorem parse_text (n : NumP.NumV) (h : NumP.right n = true) : NumP.parse (NumP.text n) = (n, 0) := by
  obtain ⟨d, D, e⟩ := n
  by_cases h0 : D = []
  · subst h0
    unfold NumP.right at h
    rw [if_pos rfl] at h
    simp only [Bool.and_eq_true, beq_iff_eq, Bool.not_eq_true'] at h
    obtain ⟨rfl, rfl⟩ := h
    decide
  · obtain ⟨p1, p2, p3, p4, p5, p6⟩ := right_parts h h0
    rw [parse_of_is (text_is d D e h h0), List.append_nil]
    have hx : ((if decide (e < 0) = true then - NumP.pow (if e = 0 then [] else Lib.decDigits e.natAbs) else NumP.pow (if e = 0 then [] else Lib.decDigits e.natAbs)) - (([] : List UInt8).length : Int)) = e := by
      by_cases he : e = 0
      · subst he; decide
      · rw [if_neg he, pow_dec e.natAbs (by omega)]
        by_cases hn : e < 0
        · rw [if_pos (by simpa using hn)]; simp; omega
        · rw [if_neg (by simpa using hn)]; simp; omega
    have hf : NumP.form d D e = (d, D, e) := by
      unfold NumP.form
      rw [lstrip_id D p2, rstrip_id D p3, if_neg h0]
      congr 2; omega
    rw [hx, hf, if_pos h]
theorem text_f' (d : Bool) (D : List UInt8) (e : Int) (hD : D.length ≤ 1000000) (he : -1000000 ≤ e ∧ e ≤ 1000000) : num_Text.f d (ofL D) e = some (ofL (NumP.text (d, D, e))) := by
  unfold num_Text.f NumP.text
  have hl : (Lib.itoa e).length ≤ 21 := Lib.itoa_length_le e (by omega) (by omega)
  have hi : strconv_Itoa_29.f e = some (ofL (Lib.itoa e)) := by unfold strconv_Itoa_29.f; rw [if_pos (by omega)]; rfl
  have h45 : (⟨#[45]⟩ : ByteArray) = ofL [45] := rfl
  have h101 : (⟨#[101]⟩ : ByteArray) = ofL [101] := rfl
  by_cases h0 : D = []
  · subst h0; rw [if_pos (ofL_toList []), if_pos rfl]; rfl
  · rw [if_neg (by rw [ofL_toList]; exact h0), if_neg h0]
    simp only [h45, h101, ofL_app, hi, Option.bind_some, ofL_size]
    cases d with
    | true =>
      rw [if_pos rfl, if_pos (by omega)]
      by_cases he0 : e = 0
      · rw [if_pos he0, if_pos he0]; simp [NumP.sgn]
      · rw [if_neg he0, if_neg he0, if_pos (by omega), if_pos (by simp; omega)]; simp [NumP.sgn]
    | false =>
      rw [if_neg (by simp)]
      by_cases he0 : e = 0
      · rw [if_pos he0, if_pos he0]; simp [NumP.sgn]
      · rw [if_neg he0, if_neg he0, if_pos (by omega), if_pos (by simp; omega)]; simp [NumP.sgn]
theorem parse_f (s : List UInt8) (hs : s.length ≤ 1000000000000000000) : num_Parse.f (ofL s) = some ((NumP.parse s).1.1, ofL (NumP.parse s).1.2.1, (NumP.parse s).1.2.2, (NumP.parse s).2) := by
  unfold num_Parse.f; rw [if_pos (by rw [ofL_size]; omega)]; rfl
theorem right_bd' {d : Bool} {D : List UInt8} {e : Int} (h : NumP.right (d, D, e) = true) : D.length ≤ 40 ∧ -999 ≤ e ∧ e ≤ 999 := by
  by_cases h0 : D = []
  · subst h0
    unfold NumP.right at h
    rw [if_pos rfl] at h
    simp only [Bool.and_eq_true, beq_iff_eq] at h
    exact ⟨by decide, by omega, by omega⟩
  · obtain ⟨-, -, -, a, b, c⟩ := right_parts h h0
    exact ⟨a, b, c⟩
end Go.Proofs.YtbgigckmehgcpaaDoor
