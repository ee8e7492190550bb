-- written by a program of this session (xprint.py)
import Derived.Test.YtbgigckmehgcpaaDoorPrx0
import Derived.Test.YtbgigckmehgcpaaDoorPrx4
namespace Go.Proofs.YtbgigckmehgcpaaDoor.Pr
open Go.RowKit Go.Proofs.YtbgigckmehgcpaaDoorW.PrintWords Go.Proofs.YtbgigckmehgcpaaDoorW.PrintLast Go.Proofs.YtbgigckmehgcpaaDoorW.PrintMore
attribute [local go_sem] max2_int min2_int max_two min_two max_three min_three max_four min_four   -- for this text's walks alone
set_option linter.unusedVariables false
set_option linter.unusedSimpArgs false

/-! ### rubricatorref14_Grammar: function 20 -/
mutual
def rubricatorref14_Grammar.j0 : Nat → ByteArray → Int → Bool → Option (Bool × Int × Int)
  | 0, _, _, _ => none
  | k + 1, x0, x5, x17 => if x17 = true then (rubricatorref14_Grammar.j1 k x0 (wrap64 (x5 + 1))) else (rubricatorref14_Grammar.j1 k x0 x5)
def rubricatorref14_Grammar.j1 : Nat → ByteArray → Int → Option (Bool × Int × Int)
  | 0, _, _ => none
  | k + 1, x0, x5 => (rubricatorref14_digit.f x0 x5).bind fun t127 => (if t127 = true then (if 0 ≤ x5 then (if x5 < (x0.size : Int) then (if (bt x0 x5) = 48 then ((rubricatorref14_digit.f x0 (wrap64 (x5 + 1))).bind fun t128 => (rubricatorref14_Grammar.j2 k x0 x5 t128)) else (rubricatorref14_Grammar.j2 k x0 x5 false)) else (none)) else (none)) else (rubricatorref14_Grammar.j2 k x0 x5 true))
def rubricatorref14_Grammar.j2 : Nat → ByteArray → Int → Bool → Option (Bool × Int × Int)
  | 0, _, _, _ => none
  | k + 1, x0, x5, x35 => if x35 = true then (some (false, 0, 0)) else (rubricatorref14_Grammar.l0 k x0 x5)
def rubricatorref14_Grammar.l0 : Nat → ByteArray → Int → Option (Bool × Int × Int)
  | 0, _, _ => none
  | k + 1, x0, x5 => (rubricatorref14_digit.f x0 x5).bind fun t129 => (if t129 = true then (rubricatorref14_Grammar.l0 k x0 (wrap64 (x5 + 1))) else (if x5 < (x0.size : Int) then (if 0 ≤ x5 then (rubricatorref14_Grammar.j4 k x0 x5 x5 ((bt x0 x5) == 46)) else (none)) else (rubricatorref14_Grammar.j4 k x0 x5 x5 false)))
def rubricatorref14_Grammar.j4 : Nat → ByteArray → Int → Int → Bool → Option (Bool × Int × Int)
  | 0, _, _, _, _ => none
  | k + 1, x0, x5, x6, x51 => if x51 = true then ((rubricatorref14_digit.f x0 (wrap64 (x5 + 1))).bind fun t130 => (if t130 = true then (rubricatorref14_Grammar.l1 k x0 (wrap64 (x5 + 1)) x6) else (some (false, 0, 0)))) else (rubricatorref14_Grammar.j6 k x0 x5 x6)
def rubricatorref14_Grammar.j6 : Nat → ByteArray → Int → Int → Option (Bool × Int × Int)
  | 0, _, _, _ => none
  | k + 1, x0, x5, x6 => if x5 < (x0.size : Int) then (if 0 ≤ x5 then (if (bt x0 x5) = 101 then (rubricatorref14_Grammar.j7 k x0 x5 x6 x5 true) else (rubricatorref14_Grammar.j7 k x0 x5 x6 x5 ((bt x0 x5) == 69))) else (none)) else (rubricatorref14_Grammar.j7 k x0 x5 x6 x5 false)
def rubricatorref14_Grammar.j7 : Nat → ByteArray → Int → Int → Int → Bool → Option (Bool × Int × Int)
  | 0, _, _, _, _, _ => none
  | k + 1, x0, x5, x6, x7, x79 => if x79 = true then (if (wrap64 (x5 + 1)) < (x0.size : Int) then (if 0 ≤ (wrap64 (x5 + 1)) then (if (bt x0 (wrap64 (x5 + 1))) = 43 then (rubricatorref14_Grammar.j8 k x0 (wrap64 (x5 + 1)) x6 x7 true) else (rubricatorref14_Grammar.j8 k x0 (wrap64 (x5 + 1)) x6 x7 ((bt x0 (wrap64 (x5 + 1))) == 45))) else (none)) else (rubricatorref14_Grammar.j8 k x0 (wrap64 (x5 + 1)) x6 x7 false)) else (some ((x5 == (x0.size : Int)), x6, x7))
def rubricatorref14_Grammar.j8 : Nat → ByteArray → Int → Int → Int → Bool → Option (Bool × Int × Int)
  | 0, _, _, _, _, _ => none
  | k + 1, x0, x5, x6, x7, x97 => if x97 = true then (rubricatorref14_Grammar.j9 k x0 (wrap64 (x5 + 1)) x6 x7) else (rubricatorref14_Grammar.j9 k x0 x5 x6 x7)
def rubricatorref14_Grammar.j9 : Nat → ByteArray → Int → Int → Int → Option (Bool × Int × Int)
  | 0, _, _, _, _ => none
  | k + 1, x0, x5, x6, x7 => (rubricatorref14_digit.f x0 x5).bind fun t132 => (if t132 = true then (rubricatorref14_Grammar.l2 k x0 x5 x6 x7) else (some (false, 0, 0)))
def rubricatorref14_Grammar.l2 : Nat → ByteArray → Int → Int → Int → Option (Bool × Int × Int)
  | 0, _, _, _, _ => none
  | k + 1, x0, x5, x6, x7 => (rubricatorref14_digit.f x0 x5).bind fun t133 => (if t133 = true then (rubricatorref14_Grammar.l2 k x0 (wrap64 (x5 + 1)) x6 x7) else (some ((x5 == (x0.size : Int)), x6, x7)))
def rubricatorref14_Grammar.l1 : Nat → ByteArray → Int → Int → Option (Bool × Int × Int)
  | 0, _, _, _ => none
  | k + 1, x0, x5, x6 => (rubricatorref14_digit.f x0 x5).bind fun t131 => (if t131 = true then (rubricatorref14_Grammar.l1 k x0 (wrap64 (x5 + 1)) x6) else (rubricatorref14_Grammar.j6 k x0 x5 x6))
end
def rubricatorref14_Grammar.f (k : Nat) (a0 : ByteArray) : Option (Bool × Int × Int) := if 0 < (a0.size : Int) then (rubricatorref14_Grammar.j0 k a0 0 ((bt a0 0) == 45)) else (rubricatorref14_Grammar.j0 k a0 0 false)
theorem rubricatorref14_Grammar.mono_l : ∀ k, (∀ y0 y1 y2, LeO (rubricatorref14_Grammar.j0 k y0 y1 y2) (rubricatorref14_Grammar.j0 (k + 1) y0 y1 y2)) ∧ (∀ y0 y1, LeO (rubricatorref14_Grammar.j1 k y0 y1) (rubricatorref14_Grammar.j1 (k + 1) y0 y1)) ∧ (∀ y0 y1 y2, LeO (rubricatorref14_Grammar.j2 k y0 y1 y2) (rubricatorref14_Grammar.j2 (k + 1) y0 y1 y2)) ∧ (∀ y0 y1, LeO (rubricatorref14_Grammar.l0 k y0 y1) (rubricatorref14_Grammar.l0 (k + 1) y0 y1)) ∧ (∀ y0 y1 y2 y3, LeO (rubricatorref14_Grammar.j4 k y0 y1 y2 y3) (rubricatorref14_Grammar.j4 (k + 1) y0 y1 y2 y3)) ∧ (∀ y0 y1 y2, LeO (rubricatorref14_Grammar.j6 k y0 y1 y2) (rubricatorref14_Grammar.j6 (k + 1) y0 y1 y2)) ∧ (∀ y0 y1 y2 y3 y4, LeO (rubricatorref14_Grammar.j7 k y0 y1 y2 y3 y4) (rubricatorref14_Grammar.j7 (k + 1) y0 y1 y2 y3 y4)) ∧ (∀ y0 y1 y2 y3 y4, LeO (rubricatorref14_Grammar.j8 k y0 y1 y2 y3 y4) (rubricatorref14_Grammar.j8 (k + 1) y0 y1 y2 y3 y4)) ∧ (∀ y0 y1 y2 y3, LeO (rubricatorref14_Grammar.j9 k y0 y1 y2 y3) (rubricatorref14_Grammar.j9 (k + 1) y0 y1 y2 y3)) ∧ (∀ y0 y1 y2 y3, LeO (rubricatorref14_Grammar.l2 k y0 y1 y2 y3) (rubricatorref14_Grammar.l2 (k + 1) y0 y1 y2 y3)) ∧ (∀ y0 y1 y2, LeO (rubricatorref14_Grammar.l1 k y0 y1 y2) (rubricatorref14_Grammar.l1 (k + 1) y0 y1 y2))
  | 0 => ⟨fun _ _ _ r h => by simp [rubricatorref14_Grammar.j0] at h, fun _ _ r h => by simp [rubricatorref14_Grammar.j1] at h, fun _ _ _ r h => by simp [rubricatorref14_Grammar.j2] at h, fun _ _ r h => by simp [rubricatorref14_Grammar.l0] at h, fun _ _ _ _ r h => by simp [rubricatorref14_Grammar.j4] at h, fun _ _ _ r h => by simp [rubricatorref14_Grammar.j6] at h, fun _ _ _ _ _ r h => by simp [rubricatorref14_Grammar.j7] at h, fun _ _ _ _ _ r h => by simp [rubricatorref14_Grammar.j8] at h, fun _ _ _ _ r h => by simp [rubricatorref14_Grammar.j9] at h, fun _ _ _ _ r h => by simp [rubricatorref14_Grammar.l2] at h, fun _ _ _ r h => by simp [rubricatorref14_Grammar.l1] at h⟩
  | k + 1 => by
    obtain ⟨ih0, ih1, ih2, ih3, ih4, ih5, ih6, ih7, ih8, ih9, ih10⟩ := rubricatorref14_Grammar.mono_l k
    refine ⟨?_, ?_, ?_, ?_, ?_, ?_, ?_, ?_, ?_, ?_, ?_⟩
    · intro y0 y1 y2
      unfold rubricatorref14_Grammar.j0
      repeat' first
      | (with_reducible exact ih0 _ _ _)
      | (with_reducible exact ih1 _ _)
      | (with_reducible exact ih2 _ _ _)
      | (with_reducible exact ih3 _ _)
      | (with_reducible exact ih4 _ _ _ _)
      | (with_reducible exact ih5 _ _ _)
      | (with_reducible exact ih6 _ _ _ _ _)
      | (with_reducible exact ih7 _ _ _ _ _)
      | (with_reducible exact ih8 _ _ _ _)
      | (with_reducible exact ih9 _ _ _ _)
      | (with_reducible exact ih10 _ _ _)
      | (with_reducible exact LeO.refl _)
      | (with_reducible exact LeO.none _)
      | (with_reducible refine LeO.ite ?_ ?_)
      | (with_reducible refine LeO.bind ?_ (fun _ => ?_))
      | exact ih0 _ _ _
      | exact ih1 _ _
      | exact ih2 _ _ _
      | exact ih3 _ _
      | exact ih4 _ _ _ _
      | exact ih5 _ _ _
      | exact ih6 _ _ _ _ _
      | exact ih7 _ _ _ _ _
      | exact ih8 _ _ _ _
      | exact ih9 _ _ _ _
      | exact ih10 _ _ _
      | exact LeO.none _
      | refine LeO.ite ?_ ?_
      | refine LeO.bind ?_ (fun _ => ?_)
    · intro y0 y1
      unfold rubricatorref14_Grammar.j1
      repeat' first
      | (with_reducible exact ih0 _ _ _)
      | (with_reducible exact ih1 _ _)
      | (with_reducible exact ih2 _ _ _)
      | (with_reducible exact ih3 _ _)
      | (with_reducible exact ih4 _ _ _ _)
      | (with_reducible exact ih5 _ _ _)
      | (with_reducible exact ih6 _ _ _ _ _)
      | (with_reducible exact ih7 _ _ _ _ _)
      | (with_reducible exact ih8 _ _ _ _)
      | (with_reducible exact ih9 _ _ _ _)
      | (with_reducible exact ih10 _ _ _)
      | (with_reducible exact LeO.refl _)
      | (with_reducible exact LeO.none _)
      | (with_reducible refine LeO.ite ?_ ?_)
      | (with_reducible refine LeO.bind ?_ (fun _ => ?_))
      | exact ih0 _ _ _
      | exact ih1 _ _
      | exact ih2 _ _ _
      | exact ih3 _ _
      | exact ih4 _ _ _ _
      | exact ih5 _ _ _
      | exact ih6 _ _ _ _ _
      | exact ih7 _ _ _ _ _
      | exact ih8 _ _ _ _
      | exact ih9 _ _ _ _
      | exact ih10 _ _ _
      | exact LeO.none _
      | refine LeO.ite ?_ ?_
      | refine LeO.bind ?_ (fun _ => ?_)
    · intro y0 y1 y2
      unfold rubricatorref14_Grammar.j2
      repeat' first
      | (with_reducible exact ih0 _ _ _)
      | (with_reducible exact ih1 _ _)
      | (with_reducible exact ih2 _ _ _)
      | (with_reducible exact ih3 _ _)
      | (with_reducible exact ih4 _ _ _ _)
      | (with_reducible exact ih5 _ _ _)
      | (with_reducible exact ih6 _ _ _ _ _)
      | (with_reducible exact ih7 _ _ _ _ _)
      | (with_reducible exact ih8 _ _ _ _)
      | (with_reducible exact ih9 _ _ _ _)
      | (with_reducible exact ih10 _ _ _)
      | (with_reducible exact LeO.refl _)
      | (with_reducible exact LeO.none _)
      | (with_reducible refine LeO.ite ?_ ?_)
      | (with_reducible refine LeO.bind ?_ (fun _ => ?_))
      | exact ih0 _ _ _
      | exact ih1 _ _
      | exact ih2 _ _ _
      | exact ih3 _ _
      | exact ih4 _ _ _ _
      | exact ih5 _ _ _
      | exact ih6 _ _ _ _ _
      | exact ih7 _ _ _ _ _
      | exact ih8 _ _ _ _
      | exact ih9 _ _ _ _
      | exact ih10 _ _ _
      | exact LeO.none _
      | refine LeO.ite ?_ ?_
      | refine LeO.bind ?_ (fun _ => ?_)
    · intro y0 y1
      unfold rubricatorref14_Grammar.l0
      repeat' first
      | (with_reducible exact ih0 _ _ _)
      | (with_reducible exact ih1 _ _)
      | (with_reducible exact ih2 _ _ _)
      | (with_reducible exact ih3 _ _)
      | (with_reducible exact ih4 _ _ _ _)
      | (with_reducible exact ih5 _ _ _)
      | (with_reducible exact ih6 _ _ _ _ _)
      | (with_reducible exact ih7 _ _ _ _ _)
      | (with_reducible exact ih8 _ _ _ _)
      | (with_reducible exact ih9 _ _ _ _)
      | (with_reducible exact ih10 _ _ _)
      | (with_reducible exact LeO.refl _)
      | (with_reducible exact LeO.none _)
      | (with_reducible refine LeO.ite ?_ ?_)
      | (with_reducible refine LeO.bind ?_ (fun _ => ?_))
      | exact ih0 _ _ _
      | exact ih1 _ _
      | exact ih2 _ _ _
      | exact ih3 _ _
      | exact ih4 _ _ _ _
      | exact ih5 _ _ _
      | exact ih6 _ _ _ _ _
      | exact ih7 _ _ _ _ _
      | exact ih8 _ _ _ _
      | exact ih9 _ _ _ _
      | exact ih10 _ _ _
      | exact LeO.none _
      | refine LeO.ite ?_ ?_
      | refine LeO.bind ?_ (fun _ => ?_)
    · intro y0 y1 y2 y3
      unfold rubricatorref14_Grammar.j4
      repeat' first
      | (with_reducible exact ih0 _ _ _)
      | (with_reducible exact ih1 _ _)
      | (with_reducible exact ih2 _ _ _)
      | (with_reducible exact ih3 _ _)
      | (with_reducible exact ih4 _ _ _ _)
      | (with_reducible exact ih5 _ _ _)
      | (with_reducible exact ih6 _ _ _ _ _)
      | (with_reducible exact ih7 _ _ _ _ _)
      | (with_reducible exact ih8 _ _ _ _)
      | (with_reducible exact ih9 _ _ _ _)
      | (with_reducible exact ih10 _ _ _)
      | (with_reducible exact LeO.refl _)
      | (with_reducible exact LeO.none _)
      | (with_reducible refine LeO.ite ?_ ?_)
      | (with_reducible refine LeO.bind ?_ (fun _ => ?_))
      | exact ih0 _ _ _
      | exact ih1 _ _
      | exact ih2 _ _ _
      | exact ih3 _ _
      | exact ih4 _ _ _ _
      | exact ih5 _ _ _
      | exact ih6 _ _ _ _ _
      | exact ih7 _ _ _ _ _
      | exact ih8 _ _ _ _
      | exact ih9 _ _ _ _
      | exact ih10 _ _ _
      | exact LeO.none _
      | refine LeO.ite ?_ ?_
      | refine LeO.bind ?_ (fun _ => ?_)
    · intro y0 y1 y2
      unfold rubricatorref14_Grammar.j6
      repeat' first
      | (with_reducible exact ih0 _ _ _)
      | (with_reducible exact ih1 _ _)
      | (with_reducible exact ih2 _ _ _)
      | (with_reducible exact ih3 _ _)
      | (with_reducible exact ih4 _ _ _ _)
      | (with_reducible exact ih5 _ _ _)
      | (with_reducible exact ih6 _ _ _ _ _)
      | (with_reducible exact ih7 _ _ _ _ _)
      | (with_reducible exact ih8 _ _ _ _)
      | (with_reducible exact ih9 _ _ _ _)
      | (with_reducible exact ih10 _ _ _)
      | (with_reducible exact LeO.refl _)
      | (with_reducible exact LeO.none _)
      | (with_reducible refine LeO.ite ?_ ?_)
      | (with_reducible refine LeO.bind ?_ (fun _ => ?_))
      | exact ih0 _ _ _
      | exact ih1 _ _
      | exact ih2 _ _ _
      | exact ih3 _ _
      | exact ih4 _ _ _ _
      | exact ih5 _ _ _
      | exact ih6 _ _ _ _ _
      | exact ih7 _ _ _ _ _
      | exact ih8 _ _ _ _
      | exact ih9 _ _ _ _
      | exact ih10 _ _ _
      | exact LeO.none _
      | refine LeO.ite ?_ ?_
      | refine LeO.bind ?_ (fun _ => ?_)
    · intro y0 y1 y2 y3 y4
      unfold rubricatorref14_Grammar.j7
      repeat' first
      | (with_reducible exact ih0 _ _ _)
      | (with_reducible exact ih1 _ _)
      | (with_reducible exact ih2 _ _ _)
      | (with_reducible exact ih3 _ _)
      | (with_reducible exact ih4 _ _ _ _)
      | (with_reducible exact ih5 _ _ _)
      | (with_reducible exact ih6 _ _ _ _ _)
      | (with_reducible exact ih7 _ _ _ _ _)
      | (with_reducible exact ih8 _ _ _ _)
      | (with_reducible exact ih9 _ _ _ _)
      | (with_reducible exact ih10 _ _ _)
      | (with_reducible exact LeO.refl _)
      | (with_reducible exact LeO.none _)
      | (with_reducible refine LeO.ite ?_ ?_)
      | (with_reducible refine LeO.bind ?_ (fun _ => ?_))
      | exact ih0 _ _ _
      | exact ih1 _ _
      | exact ih2 _ _ _
      | exact ih3 _ _
      | exact ih4 _ _ _ _
      | exact ih5 _ _ _
      | exact ih6 _ _ _ _ _
      | exact ih7 _ _ _ _ _
      | exact ih8 _ _ _ _
      | exact ih9 _ _ _ _
      | exact ih10 _ _ _
      | exact LeO.none _
      | refine LeO.ite ?_ ?_
      | refine LeO.bind ?_ (fun _ => ?_)
    · intro y0 y1 y2 y3 y4
      unfold rubricatorref14_Grammar.j8
      repeat' first
      | (with_reducible exact ih0 _ _ _)
      | (with_reducible exact ih1 _ _)
      | (with_reducible exact ih2 _ _ _)
      | (with_reducible exact ih3 _ _)
      | (with_reducible exact ih4 _ _ _ _)
      | (with_reducible exact ih5 _ _ _)
      | (with_reducible exact ih6 _ _ _ _ _)
      | (with_reducible exact ih7 _ _ _ _ _)
      | (with_reducible exact ih8 _ _ _ _)
      | (with_reducible exact ih9 _ _ _ _)
      | (with_reducible exact ih10 _ _ _)
      | (with_reducible exact LeO.refl _)
      | (with_reducible exact LeO.none _)
      | (with_reducible refine LeO.ite ?_ ?_)
      | (with_reducible refine LeO.bind ?_ (fun _ => ?_))
      | exact ih0 _ _ _
      | exact ih1 _ _
      | exact ih2 _ _ _
      | exact ih3 _ _
      | exact ih4 _ _ _ _
      | exact ih5 _ _ _
      | exact ih6 _ _ _ _ _
      | exact ih7 _ _ _ _ _
      | exact ih8 _ _ _ _
      | exact ih9 _ _ _ _
      | exact ih10 _ _ _
      | exact LeO.none _
      | refine LeO.ite ?_ ?_
      | refine LeO.bind ?_ (fun _ => ?_)
    · intro y0 y1 y2 y3
      unfold rubricatorref14_Grammar.j9
      repeat' first
      | (with_reducible exact ih0 _ _ _)
      | (with_reducible exact ih1 _ _)
      | (with_reducible exact ih2 _ _ _)
      | (with_reducible exact ih3 _ _)
      | (with_reducible exact ih4 _ _ _ _)
      | (with_reducible exact ih5 _ _ _)
      | (with_reducible exact ih6 _ _ _ _ _)
      | (with_reducible exact ih7 _ _ _ _ _)
      | (with_reducible exact ih8 _ _ _ _)
      | (with_reducible exact ih9 _ _ _ _)
      | (with_reducible exact ih10 _ _ _)
      | (with_reducible exact LeO.refl _)
      | (with_reducible exact LeO.none _)
      | (with_reducible refine LeO.ite ?_ ?_)
      | (with_reducible refine LeO.bind ?_ (fun _ => ?_))
      | exact ih0 _ _ _
      | exact ih1 _ _
      | exact ih2 _ _ _
      | exact ih3 _ _
      | exact ih4 _ _ _ _
      | exact ih5 _ _ _
      | exact ih6 _ _ _ _ _
      | exact ih7 _ _ _ _ _
      | exact ih8 _ _ _ _
      | exact ih9 _ _ _ _
      | exact ih10 _ _ _
      | exact LeO.none _
      | refine LeO.ite ?_ ?_
      | refine LeO.bind ?_ (fun _ => ?_)
    · intro y0 y1 y2 y3
      unfold rubricatorref14_Grammar.l2
      repeat' first
      | (with_reducible exact ih0 _ _ _)
      | (with_reducible exact ih1 _ _)
      | (with_reducible exact ih2 _ _ _)
      | (with_reducible exact ih3 _ _)
      | (with_reducible exact ih4 _ _ _ _)
      | (with_reducible exact ih5 _ _ _)
      | (with_reducible exact ih6 _ _ _ _ _)
      | (with_reducible exact ih7 _ _ _ _ _)
      | (with_reducible exact ih8 _ _ _ _)
      | (with_reducible exact ih9 _ _ _ _)
      | (with_reducible exact ih10 _ _ _)
      | (with_reducible exact LeO.refl _)
      | (with_reducible exact LeO.none _)
      | (with_reducible refine LeO.ite ?_ ?_)
      | (with_reducible refine LeO.bind ?_ (fun _ => ?_))
      | exact ih0 _ _ _
      | exact ih1 _ _
      | exact ih2 _ _ _
      | exact ih3 _ _
      | exact ih4 _ _ _ _
      | exact ih5 _ _ _
      | exact ih6 _ _ _ _ _
      | exact ih7 _ _ _ _ _
      | exact ih8 _ _ _ _
      | exact ih9 _ _ _ _
      | exact ih10 _ _ _
      | exact LeO.none _
      | refine LeO.ite ?_ ?_
      | refine LeO.bind ?_ (fun _ => ?_)
    · intro y0 y1 y2
      unfold rubricatorref14_Grammar.l1
      repeat' first
      | (with_reducible exact ih0 _ _ _)
      | (with_reducible exact ih1 _ _)
      | (with_reducible exact ih2 _ _ _)
      | (with_reducible exact ih3 _ _)
      | (with_reducible exact ih4 _ _ _ _)
      | (with_reducible exact ih5 _ _ _)
      | (with_reducible exact ih6 _ _ _ _ _)
      | (with_reducible exact ih7 _ _ _ _ _)
      | (with_reducible exact ih8 _ _ _ _)
      | (with_reducible exact ih9 _ _ _ _)
      | (with_reducible exact ih10 _ _ _)
      | (with_reducible exact LeO.refl _)
      | (with_reducible exact LeO.none _)
      | (with_reducible refine LeO.ite ?_ ?_)
      | (with_reducible refine LeO.bind ?_ (fun _ => ?_))
      | exact ih0 _ _ _
      | exact ih1 _ _
      | exact ih2 _ _ _
      | exact ih3 _ _
      | exact ih4 _ _ _ _
      | exact ih5 _ _ _
      | exact ih6 _ _ _ _ _
      | exact ih7 _ _ _ _ _
      | exact ih8 _ _ _ _
      | exact ih9 _ _ _ _
      | exact ih10 _ _ _
      | exact LeO.none _
      | refine LeO.ite ?_ ?_
      | refine LeO.bind ?_ (fun _ => ?_)
theorem rubricatorref14_Grammar.mono : ∀ a0 k, LeO (rubricatorref14_Grammar.f k a0) (rubricatorref14_Grammar.f (k + 1) a0) := by
  intro a0 k
  obtain ⟨ih0, ih1, ih2, ih3, ih4, ih5, ih6, ih7, ih8, ih9, ih10⟩ := rubricatorref14_Grammar.mono_l k
  unfold rubricatorref14_Grammar.f
  repeat' first
      | (with_reducible exact ih0 _ _ _)
      | (with_reducible exact ih1 _ _)
      | (with_reducible exact ih2 _ _ _)
      | (with_reducible exact ih3 _ _)
      | (with_reducible exact ih4 _ _ _ _)
      | (with_reducible exact ih5 _ _ _)
      | (with_reducible exact ih6 _ _ _ _ _)
      | (with_reducible exact ih7 _ _ _ _ _)
      | (with_reducible exact ih8 _ _ _ _)
      | (with_reducible exact ih9 _ _ _ _)
      | (with_reducible exact ih10 _ _ _)
      | (with_reducible exact LeO.refl _)
      | (with_reducible exact LeO.none _)
      | (with_reducible refine LeO.ite ?_ ?_)
      | (with_reducible refine LeO.bind ?_ (fun _ => ?_))
      | exact ih0 _ _ _
      | exact ih1 _ _
      | exact ih2 _ _ _
      | exact ih3 _ _
      | exact ih4 _ _ _ _
      | exact ih5 _ _ _
      | exact ih6 _ _ _ _ _
      | exact ih7 _ _ _ _ _
      | exact ih8 _ _ _ _
      | exact ih9 _ _ _ _
      | exact ih10 _ _ _
      | exact LeO.none _
      | refine LeO.ite ?_ ?_
      | refine LeO.bind ?_ (fun _ => ?_)
set_option maxHeartbeats 8000000 in
set_option maxRecDepth 100000 in
theorem rubricatorref14_Grammar.calls (k : Nat) (a0 : ByteArray) (r1 : Bool) (r2 : Int) (r3 : Int) (w : World) (h : rubricatorref14_Grammar.f k a0 = some (r1, r2, r3)) :
    Calls Tryd.prog 20 #[.string a0] w fun e w' => e = .returned (.tuple #[.bool r1, .int .i64 r2, .int .i64 r3]) ∧ Drawn0 w w' := by
  have H : (if 0 < (a0.size : Int) then (rubricatorref14_Grammar.j0 k a0 0 ((bt a0 0) == 45)) else (rubricatorref14_Grammar.j0 k a0 0 false)) = some (r1, r2, r3) := h
  clear h
  have HC2 := Aside0.mk H
  clear H
  go_enter Tryd.func20, Tryd.ntmps20
  go_upto_region 2 with (fail)
  go_cut [17] (fun v17 wc => ∃ (kq : Nat) (x17_1 : Bool), v17 = .bool x17_1 ∧ Aside0 (rubricatorref14_Grammar.j0 kq a0 0 x17_1 = some (r1, r2, r3)) ∧ Aside0 (kq ≤ k) ∧ Drawn0 w wc)
  case first =>
    have H := HC2.out
    clear HC2
    by_cases c3 : 0 < (a0.size : Int)
    · rw [if_pos c3] at H
      have c3b0 : decide (0 < (a0.size : Int)) = true := decide_eq_true c3
      have c3b1 : decide (0 < a0.size) = true := decide_eq_true (by omega)
      clear c3
      (first | rw [c3b0] | (simp only [i64_w, i32_w]; rw [c3b0]) | skip)
      have H' := Aside0.mk H
      clear H
      have p4 : 0 ≤ (0 : Int) := (by omega)
      have q4 : 0 < a0.size := (by have : (0 : Int) < (a0.size : Int) := of_decide_eq_true (by first | (with_reducible assumption) | assumption); omega)
      have hx4 : ∀ h : 0 < a0.size, ((a0[0]'h).toNat : Int) = bt a0 0 := bt_at a0 0
      clear p4
      have qi4 : (0 < (a0.size : Int)) = True := eq_true (of_decide_eq_true (by first | (with_reducible assumption) | assumption))
      replace q4 := eq_true q4
      go_wp2
      go_meet
      case rel => exact ⟨_, (((bt a0 0) == 45)), (by first | rfl | (simp; done) | (simp [*]; done) | (simp [wrap64]; done)), (by first | exact H' | (rw [hji37]; exact H')), ⟨by first | omega | exact Nat.le_refl _⟩, by repeat (first | exact Drawn0.refl _ | apply Drawn0.step)⟩
    · rw [if_neg c3] at H
      have c3b0 : decide (0 < (a0.size : Int)) = false := decide_eq_false c3
      have c3b1 : decide (0 < a0.size) = false := decide_eq_false (by omega)
      clear c3
      (first | rw [c3b0] | (simp only [i64_w, i32_w]; rw [c3b0]) | skip)
      have H' := Aside0.mk H
      clear H
      go_wp2
      go_meet
      case rel => exact ⟨_, (false), (by first | rfl | (simp; done) | (simp [*]; done) | (simp [wrap64]; done)), (by first | exact H' | (rw [hji37]; exact H')), ⟨by first | omega | exact Nat.le_refl _⟩, by repeat (first | exact Drawn0.refl _ | apply Drawn0.step)⟩
  case rest =>
    clear HC2
    try clear c2
    try clear p2
    try clear c3
    try clear c3b0
    try clear c3b1
    try clear p4
    try clear q4
    try clear hx4
    try clear qi4
    try clear p4
    try clear q4
    obtain ⟨kq, x17_1, rfl, HA, HJ1, ⟨mc1, rfl⟩⟩ := hcut
    cases kq with
    | zero => exact absurd HA.out (by simp [rubricatorref14_Grammar.j0])
    | succ kj1 =>
      have H := HA.out
      clear HA
      simp only [rubricatorref14_Grammar.j0] at H
      have HC5 := Aside0.mk H
      clear H
      go_upto_if 17 with (fail)
      go_cut [5] (fun v5 wc => ∃ (kq : Nat) (x5_4 : Int), v5 = .int .i64 x5_4 ∧ Aside0 (rubricatorref14_Grammar.j1 kq a0 x5_4 = some (r1, r2, r3)) ∧ Aside0 (kq ≤ kj1) ∧ Drawn0 w wc)
      case first =>
        have H := HC5.out
        clear HC5
        by_cases c6 : x17_1 = true
        · subst c6
          have H1 : (rubricatorref14_Grammar.j1 kj1 a0 (wrap64 (0 + 1))) = some (r1, r2, r3) := by rw [if_pos rfl] at H; exact H
          clear H
          have H := H1
          clear H1
          have H' := Aside0.mk H
          clear H
          go_wp2
          go_meet
          case rel => exact ⟨_, (wrap64 (0 + 1)), (by first | rfl | (simp; done) | (simp [*]; done) | (simp [wrap64]; done)), (by first | exact H' | (rw [hji37]; exact H')), ⟨by have := HJ1.out; first | omega | exact Nat.le_refl _⟩, by repeat (first | exact Drawn0.refl _ | apply Drawn0.step)⟩
        · replace c6 := Bool.eq_false_iff.mpr c6
          subst c6
          have H1 : (rubricatorref14_Grammar.j1 kj1 a0 0) = some (r1, r2, r3) := by rw [if_neg (show ¬ (false = true) by decide)] at H; exact H
          clear H
          have H := H1
          clear H1
          have H' := Aside0.mk H
          clear H
          go_wp2
          go_meet
          case rel => exact ⟨_, (0), (by first | rfl | (simp; done) | (simp [*]; done) | (simp [wrap64]; done)), (by first | exact H' | (rw [hji37]; exact H')), ⟨by have := HJ1.out; first | omega | exact Nat.le_refl _⟩, by repeat (first | exact Drawn0.refl _ | apply Drawn0.step)⟩
      case rest =>
        clear HC5
        try clear c1
        try clear c2
        try clear p2
        try clear c3
        try clear c3b0
        try clear c3b1
        try clear p4
        try clear q4
        try clear hx4
        try clear qi4
        try clear c6
        try clear p6
        try clear p2
        try clear p4
        try clear q4
        obtain ⟨kq, x5_4, rfl, HA, HJ4, ⟨mc4, rfl⟩⟩ := hcut
        cases kq with
        | zero => exact absurd HA.out (by simp [rubricatorref14_Grammar.j1])
        | succ kj4 =>
          have H := HA.out
          clear HA
          simp only [rubricatorref14_Grammar.j1] at H
          have HC7 := Aside0.mk H
          clear H
          go_upto_region 4 with (fail)
          go_cut [35] (fun v35 wc => ∃ (kq : Nat) (x35_6 : Bool), v35 = .bool x35_6 ∧ Aside0 (rubricatorref14_Grammar.j2 kq a0 x5_4 x35_6 = some (r1, r2, r3)) ∧ Aside0 (kq ≤ kj4) ∧ Drawn0 w wc)
          case first =>
            have H := HC7.out
            clear HC7
            replace H := Option.bind_eq_some_iff.mp H
            obtain ⟨t127, A80, H⟩ := H
            replace H : (if t127 = true then (if 0 ≤ x5_4 then (if x5_4 < (a0.size : Int) then (if (bt a0 x5_4) = 48 then ((rubricatorref14_digit.f a0 (wrap64 (x5_4 + 1))).bind fun t128 => (rubricatorref14_Grammar.j2 kj4 a0 x5_4 t128)) else (rubricatorref14_Grammar.j2 kj4 a0 x5_4 false)) else (none)) else (none)) else (rubricatorref14_Grammar.j2 kj4 a0 x5_4 true)) = some (r1, r2, r3) := H
            have A8 := Aside0.mk A80
            clear A80
            by_cases c9 : t127 = true
            · subst c9
              have H1 : (if 0 ≤ x5_4 then (if x5_4 < (a0.size : Int) then (if (bt a0 x5_4) = 48 then ((rubricatorref14_digit.f a0 (wrap64 (x5_4 + 1))).bind fun t128 => (rubricatorref14_Grammar.j2 kj4 a0 x5_4 t128)) else (rubricatorref14_Grammar.j2 kj4 a0 x5_4 false)) else (none)) else (none)) = some (r1, r2, r3) := by rw [if_pos rfl] at H; exact H
              clear H
              have H := H1
              clear H1
              by_cases c10 : 0 ≤ x5_4
              · rw [if_pos c10] at H
                have c10b0 : decide (0 ≤ x5_4) = true := decide_eq_true c10
                clear c10
                (first | rw [c10b0] | (simp only [i64_w, i32_w]; rw [c10b0]) | skip)
                by_cases c11 : x5_4 < (a0.size : Int)
                · rw [if_pos c11] at H
                  have c11b0 : decide (x5_4 < (a0.size : Int)) = true := decide_eq_true c11
                  clear c11
                  by_cases c13 : (bt a0 x5_4) = 48
                  · rw [if_pos c13] at H
                    have c13b0 : ((bt a0 x5_4) == 48) = true := beq_iff_eq.mpr c13
                    have c13b1 : ((bt a0 x5_4) != 48) = false := bne_eq_false_iff_eq.mpr c13
                    clear c13
                    replace H := Option.bind_eq_some_iff.mp H
                    obtain ⟨t128, A140, H⟩ := H
                    replace H : (rubricatorref14_Grammar.j2 kj4 a0 x5_4 t128) = some (r1, r2, r3) := H
                    have A14 := Aside0.mk A140
                    clear A140
                    have H' := Aside0.mk H
                    clear H
                    go_wp2_with (first | ((with_reducible refine gate_callee (f := 32) rfl ?_); refine goesL_ (some 22) rfl rfl Tryd.func32 (by kernel_rfl) rfl #[.string a0, .int .i64 x5_4] rfl (by (try simp only [List.map_toArray, List.map_cons, List.map_nil]); first | done | rfl | (simp only [List.length_drop, List.length_take]; rfl)) ?_; (with_reducible refine (rubricatorref14_digit.calls a0 x5_4 true _ A8.out).mono ?_); rintro e w' ⟨rfl, ⟨nd, rfl⟩⟩; refine ⟨_, rfl, ?_⟩; have p12 : 0 ≤ (x5_4 : Int) := of_decide_eq_true (by first | (with_reducible assumption) | assumption); have q12 : x5_4 < (a0.size : Int) := of_decide_eq_true (by first | (with_reducible assumption) | assumption); have hx12 := bt_at a0 x5_4; replace p12 := eq_true p12; replace q12 := eq_true q12) | (go_at_call 32; (with_reducible refine (rubricatorref14_digit.calls a0 (wrap64 (x5_4 + 1)) t128 _ A14.out).mono ?_); rintro e w' ⟨rfl, ⟨nd, rfl⟩⟩))
                    go_meet
                    case rel => exact ⟨_, (t128), (by first | rfl | (simp; done) | (simp [*]; done) | (simp [wrap64]; done)), (by first | exact H' | (rw [hji37]; exact H')), ⟨by have := HJ1.out; have := HJ4.out; first | omega | exact Nat.le_refl _⟩, by repeat (first | exact Drawn0.refl _ | apply Drawn0.step)⟩
                  · rw [if_neg c13] at H
                    have c13b0 : ((bt a0 x5_4) == 48) = false := beq_eq_false_iff_ne.mpr c13
                    have c13b1 : ((bt a0 x5_4) != 48) = true := bne_iff_ne.mpr c13
                    have H' := Aside0.mk H
                    clear H
                    go_wp2_with (first | ((with_reducible refine gate_callee (f := 32) rfl ?_); refine goesL_ (some 22) rfl rfl Tryd.func32 (by kernel_rfl) rfl #[.string a0, .int .i64 x5_4] rfl (by (try simp only [List.map_toArray, List.map_cons, List.map_nil]); first | done | rfl | (simp only [List.length_drop, List.length_take]; rfl)) ?_; (with_reducible refine (rubricatorref14_digit.calls a0 x5_4 true _ A8.out).mono ?_); rintro e w' ⟨rfl, ⟨nd, rfl⟩⟩; refine ⟨_, rfl, ?_⟩; have p12 : 0 ≤ (x5_4 : Int) := of_decide_eq_true (by first | (with_reducible assumption) | assumption); have q12 : x5_4 < (a0.size : Int) := of_decide_eq_true (by first | (with_reducible assumption) | assumption); have hx12 := bt_at a0 x5_4; replace p12 := eq_true p12; replace q12 := eq_true q12))
                    go_meet
                    case rel => exact ⟨_, (false), (by first | rfl | (simp; done) | (simp [*]; done) | (simp [wrap64]; done)), (by first | exact H' | (rw [hji37]; exact H')), ⟨by have := HJ1.out; have := HJ4.out; first | omega | exact Nat.le_refl _⟩, by repeat (first | exact Drawn0.refl _ | apply Drawn0.step)⟩
                · rw [if_neg c11] at H
                  exact absurd H (by simp)
              · rw [if_neg c10] at H
                exact absurd H (by simp)
            · replace c9 := Bool.eq_false_iff.mpr c9
              subst c9
              have H1 : (rubricatorref14_Grammar.j2 kj4 a0 x5_4 true) = some (r1, r2, r3) := by rw [if_neg (show ¬ (false = true) by decide)] at H; exact H
              clear H
              have H := H1
              clear H1
              have H' := Aside0.mk H
              clear H
              go_wp2_with (first | ((with_reducible refine gate_callee (f := 32) rfl ?_); refine goesL_ (some 22) rfl rfl Tryd.func32 (by kernel_rfl) rfl #[.string a0, .int .i64 x5_4] rfl (by (try simp only [List.map_toArray, List.map_cons, List.map_nil]); first | done | rfl | (simp only [List.length_drop, List.length_take]; rfl)) ?_; (with_reducible refine (rubricatorref14_digit.calls a0 x5_4 false _ A8.out).mono ?_); rintro e w' ⟨rfl, ⟨nd, rfl⟩⟩; refine ⟨_, rfl, ?_⟩))
              go_meet
              case rel => exact ⟨_, (true), (by first | rfl | (simp; done) | (simp [*]; done) | (simp [wrap64]; done)), (by first | exact H' | (rw [hji37]; exact H')), ⟨by have := HJ1.out; have := HJ4.out; first | omega | exact Nat.le_refl _⟩, by repeat (first | exact Drawn0.refl _ | apply Drawn0.step)⟩
          case rest =>
            clear HC7
            try clear c1
            try clear p1
            try clear q1
            try clear hx1
            try clear c2
            try clear p2
            try clear c3
            try clear c3b0
            try clear c3b1
            try clear c4
            try clear p4
            try clear q4
            try clear hx4
            try clear qi4
            try clear c6
            try clear p6
            try clear c9
            try clear c10
            try clear c10b0
            try clear c11
            try clear c11b0
            try clear p12
            try clear q12
            try clear hx12
            try clear c13
            try clear c13b0
            try clear c13b1
            try clear p12
            try clear p2
            try clear p4
            try clear p6
            try clear q12
            try clear q4
            obtain ⟨kq, x35_6, rfl, HA, HJ6, ⟨mc6, rfl⟩⟩ := hcut
            cases kq with
            | zero => exact absurd HA.out (by simp [rubricatorref14_Grammar.j2])
            | succ kj6 =>
              have H := HA.out
              clear HA
              simp only [rubricatorref14_Grammar.j2] at H
              by_cases c15 : x35_6 = true
              · subst c15
                have H1 : (some (false, 0, 0)) = some (r1, r2, r3) := by rw [if_pos rfl] at H; exact H
                clear H
                have H := H1
                clear H1
                simp only [Option.some.injEq, Prod.mk.injEq] at H
                obtain ⟨rfl, rfl, rfl⟩ := H
                go_wp2
                go_ret3
                try simp only [beq_nil_isEmpty, bytesLess_gtr]
                exact ⟨by first | rfl | (simp; done) | (simp [*]; done), by repeat (first | exact Drawn0.refl _ | apply Drawn0.step)⟩
              · replace c15 := Bool.eq_false_iff.mpr c15
                subst c15
                have H1 : (rubricatorref14_Grammar.l0 kj6 a0 x5_4) = some (r1, r2, r3) := by rw [if_neg (show ¬ (false = true) by decide)] at H; exact H
                clear H
                have H := H1
                clear H1
                have H' := Aside0.mk H
                clear H
                go_wp2
                go_loopg [5] kj6 (fun kq v5 w' => ∃ (x5_4 : Int), v5 = .int .i64 x5_4 ∧ Aside0 (rubricatorref14_Grammar.l0 kq a0 x5_4 = some (r1, r2, r3)) ∧ Aside0 (kq ≤ kj6) ∧ Drawn0 w w')
                case atStart => exact ⟨(x5_4), (by first | rfl | (simp; done) | (simp [*]; done) | (simp [wrap64]; done)), H', ⟨Nat.le_refl _⟩, by repeat (first | exact Drawn0.refl _ | apply Drawn0.step)⟩
                case round =>
                  clear H'
                  try clear c1
                  try clear p1
                  try clear q1
                  try clear hx1
                  try clear c2
                  try clear p2
                  try clear c3
                  try clear c3b0
                  try clear c3b1
                  try clear c4
                  try clear p4
                  try clear q4
                  try clear hx4
                  try clear qi4
                  try clear c6
                  try clear p6
                  try clear c9
                  try clear c10
                  try clear c10b0
                  try clear c11
                  try clear c11b0
                  try clear p12
                  try clear q12
                  try clear hx12
                  try clear c13
                  try clear c13b0
                  try clear c13b1
                  try clear c15
                  try clear p1
                  try clear p12
                  try clear p2
                  try clear p4
                  try clear p6
                  try clear q1
                  try clear q12
                  try clear q4
                  obtain ⟨x5_4, rfl, HA, HK4, ⟨m4, rfl⟩⟩ := hrel
                  cases gk with
                  | zero => exact absurd HA.out (by simp [rubricatorref14_Grammar.l0])
                  | succ k4 =>
                    have H := HA.out
                    clear HA
                    simp only [rubricatorref14_Grammar.l0] at H
                    replace H := Option.bind_eq_some_iff.mp H
                    obtain ⟨t129, A160, H⟩ := H
                    replace H : (if t129 = true then (rubricatorref14_Grammar.l0 k4 a0 (wrap64 (x5_4 + 1))) else (if x5_4 < (a0.size : Int) then (if 0 ≤ x5_4 then (rubricatorref14_Grammar.j4 k4 a0 x5_4 x5_4 ((bt a0 x5_4) == 46)) else (none)) else (rubricatorref14_Grammar.j4 k4 a0 x5_4 x5_4 false))) = some (r1, r2, r3) := H
                    have A16 := Aside0.mk A160
                    clear A160
                    by_cases c17 : t129 = true
                    · subst c17
                      have H1 : (rubricatorref14_Grammar.l0 k4 a0 (wrap64 (x5_4 + 1))) = some (r1, r2, r3) := by rw [if_pos rfl] at H; exact H
                      clear H
                      have H := H1
                      clear H1
                      have H' := Aside0.mk H
                      clear H
                      go_wp2_with (first | ((with_reducible refine gate_callee (f := 32) rfl ?_); refine goesL_ (some 38) rfl rfl Tryd.func32 (by kernel_rfl) rfl #[.string a0, .int .i64 x5_4] rfl (by (try simp only [List.map_toArray, List.map_cons, List.map_nil]); first | done | rfl | (simp only [List.length_drop, List.length_take]; rfl)) ?_; (with_reducible refine (rubricatorref14_digit.calls a0 x5_4 true _ A16.out).mono ?_); rintro e w' ⟨rfl, ⟨nd, rfl⟩⟩; refine ⟨_, rfl, ?_⟩))
                      go_roundg k4
                      case measure => have := HJ1.out; have := HJ4.out; have := HJ6.out; have := HK4.out; omega
                      case rel => exact ⟨(wrap64 (x5_4 + 1)), (by first | rfl | (simp; done) | (simp [*]; done) | (simp [wrap64]; done)), (by first | exact H' | (rw [hji37]; exact H')), ⟨by have := HJ1.out; have := HJ4.out; have := HJ6.out; have := HK4.out; omega⟩, by repeat (first | exact Drawn0.refl _ | apply Drawn0.step)⟩
                    · replace c17 := Bool.eq_false_iff.mpr c17
                      subst c17
                      have H1 : (if x5_4 < (a0.size : Int) then (if 0 ≤ x5_4 then (rubricatorref14_Grammar.j4 k4 a0 x5_4 x5_4 ((bt a0 x5_4) == 46)) else (none)) else (rubricatorref14_Grammar.j4 k4 a0 x5_4 x5_4 false)) = some (r1, r2, r3) := by rw [if_neg (show ¬ (false = true) by decide)] at H; exact H
                      clear H
                      have H := H1
                      clear H1
                      have HC18 := Aside0.mk H
                      clear H
                      go_upto_region 9 with (first | ((with_reducible refine gate_callee (f := 32) rfl ?_); refine goesL_ (some 38) rfl rfl Tryd.func32 (by kernel_rfl) rfl #[.string a0, .int .i64 x5_4] rfl (by (try simp only [List.map_toArray, List.map_cons, List.map_nil]); first | done | rfl | (simp only [List.length_drop, List.length_take]; rfl)) ?_; (with_reducible refine (rubricatorref14_digit.calls a0 x5_4 false _ A16.out).mono ?_); rintro e w' ⟨rfl, ⟨nd, rfl⟩⟩; refine ⟨_, rfl, ?_⟩))
                      (try simp only [Act.put, List.setIfInBounds_toArray, List.set_cons_zero, List.set_cons_succ])
                      go_cut [51] (fun v51 wc => ∃ (kq : Nat) (x51_17 : Bool), v51 = .bool x51_17 ∧ Aside0 (rubricatorref14_Grammar.j4 kq a0 x5_4 x5_4 x51_17 = some (r1, r2, r3)) ∧ Aside0 (kq ≤ k4) ∧ Drawn0 w wc)
                      case first =>
                        have H := HC18.out
                        clear HC18
                        by_cases c19 : x5_4 < (a0.size : Int)
                        · rw [if_pos c19] at H
                          have c19b0 : decide (x5_4 < (a0.size : Int)) = true := decide_eq_true c19
                          clear c19
                          (first | rw [c19b0] | (simp only [i64_w, i32_w]; rw [c19b0]) | skip)
                          by_cases c20 : 0 ≤ x5_4
                          · rw [if_pos c20] at H
                            have c20b0 : decide (0 ≤ x5_4) = true := decide_eq_true c20
                            clear c20
                            have H' := Aside0.mk H
                            clear H
                            have p21 : 0 ≤ (x5_4 : Int) := of_decide_eq_true (by first | (with_reducible assumption) | assumption)
                            have q21 : x5_4 < (a0.size : Int) := of_decide_eq_true (by first | (with_reducible assumption) | assumption)
                            have hx21 := bt_at a0 x5_4
                            replace p21 := eq_true p21
                            replace q21 := eq_true q21
                            go_wp2
                            go_meet
                            case rel => exact ⟨_, (((bt a0 x5_4) == 46)), (by first | rfl | (simp; done) | (simp [*]; done) | (simp [wrap64]; done)), (by first | exact H' | (rw [hji37]; exact H')), ⟨by have := HJ1.out; have := HJ4.out; have := HJ6.out; have := HK4.out; first | omega | exact Nat.le_refl _⟩, by repeat (first | exact Drawn0.refl _ | apply Drawn0.step)⟩
                          · rw [if_neg c20] at H
                            exact absurd H (by simp)
                        · rw [if_neg c19] at H
                          have c19b0 : decide (x5_4 < (a0.size : Int)) = false := decide_eq_false c19
                          clear c19
                          (first | rw [c19b0] | (simp only [i64_w, i32_w]; rw [c19b0]) | skip)
                          have H' := Aside0.mk H
                          clear H
                          go_wp2
                          go_meet
                          case rel => exact ⟨_, (false), (by first | rfl | (simp; done) | (simp [*]; done) | (simp [wrap64]; done)), (by first | exact H' | (rw [hji37]; exact H')), ⟨by have := HJ1.out; have := HJ4.out; have := HJ6.out; have := HK4.out; first | omega | exact Nat.le_refl _⟩, by repeat (first | exact Drawn0.refl _ | apply Drawn0.step)⟩
                      case rest =>
                        clear HC18
                        try clear c1
                        try clear p1
                        try clear q1
                        try clear hx1
                        try clear c2
                        try clear p2
                        try clear q2
                        try clear hx2
                        try clear c3
                        try clear c3b0
                        try clear c3b1
                        try clear c4
                        try clear p4
                        try clear q4
                        try clear hx4
                        try clear qi4
                        try clear c6
                        try clear p6
                        try clear c9
                        try clear c10
                        try clear c10b0
                        try clear c11
                        try clear c11b0
                        try clear p12
                        try clear q12
                        try clear hx12
                        try clear c13
                        try clear c13b0
                        try clear c13b1
                        try clear c15
                        try clear c17
                        try clear c19
                        try clear c19b0
                        try clear c20
                        try clear c20b0
                        try clear p21
                        try clear q21
                        try clear hx21
                        try clear p1
                        try clear p12
                        try clear p2
                        try clear p21
                        try clear p4
                        try clear p6
                        try clear q1
                        try clear q12
                        try clear q21
                        try clear q4
                        obtain ⟨kq, x51_17, rfl, HA, HJ17, ⟨mc17, rfl⟩⟩ := hcut
                        cases kq with
                        | zero => exact absurd HA.out (by simp [rubricatorref14_Grammar.j4])
                        | succ kj17 =>
                          have H := HA.out
                          clear HA
                          simp only [rubricatorref14_Grammar.j4] at H
                          have HC22 := Aside0.mk H
                          clear H
                          go_upto_if 51 with (fail)
                          go_cut [5] (fun v5 wc => ∃ (kq : Nat) (x5_21 : Int), v5 = .int .i64 x5_21 ∧ Aside0 (rubricatorref14_Grammar.j6 kq a0 x5_21 x5_4 = some (r1, r2, r3)) ∧ Aside0 (kq ≤ kj17) ∧ Drawn0 w wc)
                          case first =>
                            have H := HC22.out
                            clear HC22
                            by_cases c23 : x51_17 = true
                            · subst c23
                              have H1 : ((rubricatorref14_digit.f a0 (wrap64 (x5_4 + 1))).bind fun t130 => (if t130 = true then (rubricatorref14_Grammar.l1 kj17 a0 (wrap64 (x5_4 + 1)) x5_4) else (some (false, 0, 0)))) = some (r1, r2, r3) := by rw [if_pos rfl] at H; exact H
                              clear H
                              have H := H1
                              clear H1
                              replace H := Option.bind_eq_some_iff.mp H
                              obtain ⟨t130, A240, H⟩ := H
                              replace H : (if t130 = true then (rubricatorref14_Grammar.l1 kj17 a0 (wrap64 (x5_4 + 1)) x5_4) else (some (false, 0, 0))) = some (r1, r2, r3) := H
                              have A24 := Aside0.mk A240
                              clear A240
                              by_cases c25 : t130 = true
                              · subst c25
                                have H1 : (rubricatorref14_Grammar.l1 kj17 a0 (wrap64 (x5_4 + 1)) x5_4) = some (r1, r2, r3) := by rw [if_pos rfl] at H; exact H
                                clear H
                                have H := H1
                                clear H1
                                have H' := Aside0.mk H
                                clear H
                                go_wp2_with (first | ((with_reducible refine gate_callee (f := 32) rfl ?_); refine goesL_ (some 56) rfl rfl Tryd.func32 (by kernel_rfl) rfl #[.string a0, .int .i64 (wrap64 (x5_4 + 1))] rfl (by (try simp only [List.map_toArray, List.map_cons, List.map_nil]); first | done | rfl | (simp only [List.length_drop, List.length_take]; rfl)) ?_; (with_reducible refine (rubricatorref14_digit.calls a0 (wrap64 (x5_4 + 1)) true _ A24.out).mono ?_); rintro e w' ⟨rfl, ⟨nd, rfl⟩⟩; refine ⟨_, rfl, ?_⟩))
                                go_loopg [5] kj17 (fun kq v5 w' => ∃ (x5_6 : Int), v5 = .int .i64 x5_6 ∧ Aside0 (rubricatorref14_Grammar.l1 kq a0 x5_6 x5_4 = some (r1, r2, r3)) ∧ Aside0 (kq ≤ kj17) ∧ Drawn0 w w')
                                case atStart => exact ⟨(wrap64 (x5_4 + 1)), (by first | rfl | (simp; done) | (simp [*]; done) | (simp [wrap64]; done)), H', ⟨Nat.le_refl _⟩, by repeat (first | exact Drawn0.refl _ | apply Drawn0.step)⟩
                                case round =>
                                  clear H'
                                  try clear c1
                                  try clear p1
                                  try clear q1
                                  try clear hx1
                                  try clear c2
                                  try clear p2
                                  try clear q2
                                  try clear hx2
                                  try clear c3
                                  try clear c3b0
                                  try clear c3b1
                                  try clear c4
                                  try clear p4
                                  try clear q4
                                  try clear hx4
                                  try clear qi4
                                  try clear c6
                                  try clear p6
                                  try clear c9
                                  try clear c10
                                  try clear c10b0
                                  try clear c11
                                  try clear c11b0
                                  try clear p12
                                  try clear q12
                                  try clear hx12
                                  try clear c13
                                  try clear c13b0
                                  try clear c13b1
                                  try clear c15
                                  try clear c17
                                  try clear c19
                                  try clear c19b0
                                  try clear c20
                                  try clear c20b0
                                  try clear p21
                                  try clear q21
                                  try clear hx21
                                  try clear c23
                                  try clear c25
                                  try clear p1
                                  try clear p12
                                  try clear p2
                                  try clear p21
                                  try clear p4
                                  try clear p6
                                  try clear q1
                                  try clear q12
                                  try clear q2
                                  try clear q21
                                  try clear q4
                                  obtain ⟨x5_6, rfl, HA, HK6, ⟨m6, rfl⟩⟩ := hrel
                                  cases gk with
                                  | zero => exact absurd HA.out (by simp [rubricatorref14_Grammar.l1])
                                  | succ k6 =>
                                    have H := HA.out
                                    clear HA
                                    simp only [rubricatorref14_Grammar.l1] at H
                                    replace H := Option.bind_eq_some_iff.mp H
                                    obtain ⟨t131, A260, H⟩ := H
                                    replace H : (if t131 = true then (rubricatorref14_Grammar.l1 k6 a0 (wrap64 (x5_6 + 1)) x5_4) else (rubricatorref14_Grammar.j6 k6 a0 x5_6 x5_4)) = some (r1, r2, r3) := H
                                    have A26 := Aside0.mk A260
                                    clear A260
                                    by_cases c27 : t131 = true
                                    · subst c27
                                      have H1 : (rubricatorref14_Grammar.l1 k6 a0 (wrap64 (x5_6 + 1)) x5_4) = some (r1, r2, r3) := by rw [if_pos rfl] at H; exact H
                                      clear H
                                      have H := H1
                                      clear H1
                                      have H' := Aside0.mk H
                                      clear H
                                      go_wp2_with (first | ((with_reducible refine gate_callee (f := 32) rfl ?_); refine goesL_ (some 60) rfl rfl Tryd.func32 (by kernel_rfl) rfl #[.string a0, .int .i64 x5_6] rfl (by (try simp only [List.map_toArray, List.map_cons, List.map_nil]); first | done | rfl | (simp only [List.length_drop, List.length_take]; rfl)) ?_; (with_reducible refine (rubricatorref14_digit.calls a0 x5_6 true _ A26.out).mono ?_); rintro e w' ⟨rfl, ⟨nd, rfl⟩⟩; refine ⟨_, rfl, ?_⟩))
                                      go_roundg k6
                                      case measure => have := HJ1.out; have := HJ4.out; have := HJ6.out; have := HK4.out; have := HJ17.out; have := HK6.out; omega
                                      case rel => exact ⟨(wrap64 (x5_6 + 1)), (by first | rfl | (simp; done) | (simp [*]; done) | (simp [wrap64]; done)), (by first | exact H' | (rw [hji37]; exact H')), ⟨by have := HJ1.out; have := HJ4.out; have := HJ6.out; have := HK4.out; have := HJ17.out; have := HK6.out; omega⟩, by repeat (first | exact Drawn0.refl _ | apply Drawn0.step)⟩
                                    · replace c27 := Bool.eq_false_iff.mpr c27
                                      subst c27
                                      have H1 : (rubricatorref14_Grammar.j6 k6 a0 x5_6 x5_4) = some (r1, r2, r3) := by rw [if_neg (show ¬ (false = true) by decide)] at H; exact H
                                      clear H
                                      have H := H1
                                      clear H1
                                      have H' := Aside0.mk H
                                      clear H
                                      go_wp2_with (first | ((with_reducible refine gate_callee (f := 32) rfl ?_); refine goesL_ (some 60) rfl rfl Tryd.func32 (by kernel_rfl) rfl #[.string a0, .int .i64 x5_6] rfl (by (try simp only [List.map_toArray, List.map_cons, List.map_nil]); first | done | rfl | (simp only [List.length_drop, List.length_take]; rfl)) ?_; (with_reducible refine (rubricatorref14_digit.calls a0 x5_6 false _ A26.out).mono ?_); rintro e w' ⟨rfl, ⟨nd, rfl⟩⟩; refine ⟨_, rfl, ?_⟩))
                                      go_meet
                                      case rel => exact ⟨_, (x5_6), (by first | rfl | (simp; done) | (simp [*]; done) | (simp [wrap64]; done)), (by first | exact H' | (rw [hji37]; exact H')), ⟨by have := HJ1.out; have := HJ4.out; have := HJ6.out; have := HK4.out; have := HJ17.out; have := HK6.out; first | omega | exact Nat.le_refl _⟩, by repeat (first | exact Drawn0.refl _ | apply Drawn0.step)⟩
                              · replace c25 := Bool.eq_false_iff.mpr c25
                                subst c25
                                have H1 : (some (false, 0, 0)) = some (r1, r2, r3) := by rw [if_neg (show ¬ (false = true) by decide)] at H; exact H
                                clear H
                                have H := H1
                                clear H1
                                simp only [Option.some.injEq, Prod.mk.injEq] at H
                                obtain ⟨rfl, rfl, rfl⟩ := H
                                go_wp2_with (first | ((with_reducible refine gate_callee (f := 32) rfl ?_); refine goesL_ (some 56) rfl rfl Tryd.func32 (by kernel_rfl) rfl #[.string a0, .int .i64 (wrap64 (x5_4 + 1))] rfl (by (try simp only [List.map_toArray, List.map_cons, List.map_nil]); first | done | rfl | (simp only [List.length_drop, List.length_take]; rfl)) ?_; (with_reducible refine (rubricatorref14_digit.calls a0 (wrap64 (x5_4 + 1)) false _ A24.out).mono ?_); rintro e w' ⟨rfl, ⟨nd, rfl⟩⟩; refine ⟨_, rfl, ?_⟩))
                                go_ret3
                                try simp only [beq_nil_isEmpty, bytesLess_gtr]
                                exact ⟨by first | rfl | (simp; done) | (simp [*]; done), by repeat (first | exact Drawn0.refl _ | apply Drawn0.step)⟩
                            · replace c23 := Bool.eq_false_iff.mpr c23
                              subst c23
                              have H1 : (rubricatorref14_Grammar.j6 kj17 a0 x5_4 x5_4) = some (r1, r2, r3) := by rw [if_neg (show ¬ (false = true) by decide)] at H; exact H
                              clear H
                              have H := H1
                              clear H1
                              have H' := Aside0.mk H
                              clear H
                              go_wp2
                              go_meet
                              case rel => exact ⟨_, (x5_4), (by first | rfl | (simp; done) | (simp [*]; done) | (simp [wrap64]; done)), (by first | exact H' | (rw [hji37]; exact H')), ⟨by have := HJ1.out; have := HJ4.out; have := HJ6.out; have := HK4.out; have := HJ17.out; first | omega | exact Nat.le_refl _⟩, by repeat (first | exact Drawn0.refl _ | apply Drawn0.step)⟩
                          case rest =>
                            clear HC22
                            try clear c1
                            try clear p1
                            try clear q1
                            try clear hx1
                            try clear c2
                            try clear p2
                            try clear q2
                            try clear hx2
                            try clear c3
                            try clear c3b0
                            try clear c3b1
                            try clear c4
                            try clear p4
                            try clear q4
                            try clear hx4
                            try clear qi4
                            try clear c6
                            try clear p6
                            try clear c9
                            try clear c10
                            try clear c10b0
                            try clear c11
                            try clear c11b0
                            try clear p12
                            try clear q12
                            try clear hx12
                            try clear c13
                            try clear c13b0
                            try clear c13b1
                            try clear c15
                            try clear c17
                            try clear c19
                            try clear c19b0
                            try clear c20
                            try clear c20b0
                            try clear p21
                            try clear q21
                            try clear hx21
                            try clear c23
                            try clear c25
                            try clear c27
                            try clear p1
                            try clear p12
                            try clear p2
                            try clear p21
                            try clear p4
                            try clear p6
                            try clear q1
                            try clear q12
                            try clear q2
                            try clear q21
                            try clear q4
                            obtain ⟨kq, x5_21, rfl, HA, HJ21, ⟨mc21, rfl⟩⟩ := hcut
                            cases kq with
                            | zero => exact absurd HA.out (by simp [rubricatorref14_Grammar.j6])
                            | succ kj21 =>
                              have H := HA.out
                              clear HA
                              simp only [rubricatorref14_Grammar.j6] at H
                              have HC28 := Aside0.mk H
                              clear H
                              go_upto_region 16 with (fail)
                              go_cut [79] (fun v79 wc => ∃ (kq : Nat) (x79_27 : Bool), v79 = .bool x79_27 ∧ Aside0 (rubricatorref14_Grammar.j7 kq a0 x5_21 x5_4 x5_21 x79_27 = some (r1, r2, r3)) ∧ Aside0 (kq ≤ kj21) ∧ Drawn0 w wc)
                              case first =>
                                have H := HC28.out
                                clear HC28
                                by_cases c29 : x5_21 < (a0.size : Int)
                                · rw [if_pos c29] at H
                                  have c29b0 : decide (x5_21 < (a0.size : Int)) = true := decide_eq_true c29
                                  clear c29
                                  (first | rw [c29b0] | (simp only [i64_w, i32_w]; rw [c29b0]) | skip)
                                  by_cases c30 : 0 ≤ x5_21
                                  · rw [if_pos c30] at H
                                    have c30b0 : decide (0 ≤ x5_21) = true := decide_eq_true c30
                                    clear c30
                                    by_cases c32 : (bt a0 x5_21) = 101
                                    · rw [if_pos c32] at H
                                      have c32b0 : ((bt a0 x5_21) == 101) = true := beq_iff_eq.mpr c32
                                      have c32b1 : ((bt a0 x5_21) != 101) = false := bne_eq_false_iff_eq.mpr c32
                                      clear c32
                                      have H' := Aside0.mk H
                                      clear H
                                      have p31 : 0 ≤ (x5_21 : Int) := of_decide_eq_true (by first | (with_reducible assumption) | assumption)
                                      have q31 : x5_21 < (a0.size : Int) := of_decide_eq_true (by first | (with_reducible assumption) | assumption)
                                      have hx31 := bt_at a0 x5_21
                                      replace p31 := eq_true p31
                                      replace q31 := eq_true q31
                                      go_wp2
                                      go_meet
                                      case rel => exact ⟨_, (true), (by first | rfl | (simp; done) | (simp [*]; done) | (simp [wrap64]; done)), (by first | exact H' | (rw [hji37]; exact H')), ⟨by have := HJ1.out; have := HJ4.out; have := HJ6.out; have := HK4.out; have := HJ17.out; have := HJ21.out; first | omega | exact Nat.le_refl _⟩, by repeat (first | exact Drawn0.refl _ | apply Drawn0.step)⟩
                                    · rw [if_neg c32] at H
                                      have c32b0 : ((bt a0 x5_21) == 101) = false := beq_eq_false_iff_ne.mpr c32
                                      have c32b1 : ((bt a0 x5_21) != 101) = true := bne_iff_ne.mpr c32
                                      have H' := Aside0.mk H
                                      clear H
                                      have p31 : 0 ≤ (x5_21 : Int) := of_decide_eq_true (by first | (with_reducible assumption) | assumption)
                                      have q31 : x5_21 < (a0.size : Int) := of_decide_eq_true (by first | (with_reducible assumption) | assumption)
                                      have hx31 := bt_at a0 x5_21
                                      replace p31 := eq_true p31
                                      replace q31 := eq_true q31
                                      have p33 : 0 ≤ (x5_21 : Int) := of_decide_eq_true (by first | (with_reducible assumption) | assumption)
                                      have q33 : x5_21 < (a0.size : Int) := of_decide_eq_true (by first | (with_reducible assumption) | assumption)
                                      have hx33 := bt_at a0 x5_21
                                      replace p33 := eq_true p33
                                      replace q33 := eq_true q33
                                      go_wp2
                                      go_meet
                                      case rel => exact ⟨_, (((bt a0 x5_21) == 69)), (by first | rfl | (simp; done) | (simp [*]; done) | (simp [wrap64]; done)), (by first | exact H' | (rw [hji37]; exact H')), ⟨by have := HJ1.out; have := HJ4.out; have := HJ6.out; have := HK4.out; have := HJ17.out; have := HJ21.out; first | omega | exact Nat.le_refl _⟩, by repeat (first | exact Drawn0.refl _ | apply Drawn0.step)⟩
                                  · rw [if_neg c30] at H
                                    exact absurd H (by simp)
                                · rw [if_neg c29] at H
                                  have c29b0 : decide (x5_21 < (a0.size : Int)) = false := decide_eq_false c29
                                  clear c29
                                  (first | rw [c29b0] | (simp only [i64_w, i32_w]; rw [c29b0]) | skip)
                                  have H' := Aside0.mk H
                                  clear H
                                  go_wp2
                                  go_meet
                                  case rel => exact ⟨_, (false), (by first | rfl | (simp; done) | (simp [*]; done) | (simp [wrap64]; done)), (by first | exact H' | (rw [hji37]; exact H')), ⟨by have := HJ1.out; have := HJ4.out; have := HJ6.out; have := HK4.out; have := HJ17.out; have := HJ21.out; first | omega | exact Nat.le_refl _⟩, by repeat (first | exact Drawn0.refl _ | apply Drawn0.step)⟩
                              case rest =>
                                clear HC28
                                try clear c1
                                try clear p1
                                try clear q1
                                try clear hx1
                                try clear c2
                                try clear p2
                                try clear q2
                                try clear hx2
                                try clear c3
                                try clear c3b0
                                try clear c3b1
                                try clear p3
                                try clear q3
                                try clear hx3
                                try clear c4
                                try clear p4
                                try clear q4
                                try clear hx4
                                try clear qi4
                                try clear c6
                                try clear p6
                                try clear c9
                                try clear c10
                                try clear c10b0
                                try clear c11
                                try clear c11b0
                                try clear p12
                                try clear q12
                                try clear hx12
                                try clear c13
                                try clear c13b0
                                try clear c13b1
                                try clear c15
                                try clear c17
                                try clear c19
                                try clear c19b0
                                try clear c20
                                try clear c20b0
                                try clear c21
                                try clear p21
                                try clear q21
                                try clear hx21
                                try clear c23
                                try clear c25
                                try clear c27
                                try clear c29
                                try clear c29b0
                                try clear c30
                                try clear c30b0
                                try clear p31
                                try clear q31
                                try clear hx31
                                try clear c32
                                try clear c32b0
                                try clear c32b1
                                try clear p33
                                try clear q33
                                try clear hx33
                                try clear p1
                                try clear p12
                                try clear p2
                                try clear p21
                                try clear p31
                                try clear p33
                                try clear p4
                                try clear p6
                                try clear q1
                                try clear q12
                                try clear q2
                                try clear q21
                                try clear q31
                                try clear q33
                                try clear q4
                                obtain ⟨kq, x79_27, rfl, HA, HJ27, ⟨mc27, rfl⟩⟩ := hcut
                                cases kq with
                                | zero => exact absurd HA.out (by simp [rubricatorref14_Grammar.j7])
                                | succ kj27 =>
                                  have H := HA.out
                                  clear HA
                                  simp only [rubricatorref14_Grammar.j7] at H
                                  by_cases c34 : x79_27 = true
                                  · subst c34
                                    have H1 : (if (wrap64 (x5_21 + 1)) < (a0.size : Int) then (if 0 ≤ (wrap64 (x5_21 + 1)) then (if (bt a0 (wrap64 (x5_21 + 1))) = 43 then (rubricatorref14_Grammar.j8 kj27 a0 (wrap64 (x5_21 + 1)) x5_4 x5_21 true) else (rubricatorref14_Grammar.j8 kj27 a0 (wrap64 (x5_21 + 1)) x5_4 x5_21 ((bt a0 (wrap64 (x5_21 + 1))) == 45))) else (none)) else (rubricatorref14_Grammar.j8 kj27 a0 (wrap64 (x5_21 + 1)) x5_4 x5_21 false)) = some (r1, r2, r3) := by rw [if_pos rfl] at H; exact H
                                    clear H
                                    have H := H1
                                    clear H1
                                    have HC35 := Aside0.mk H
                                    clear H
                                    go_upto_region 18 with (fail)
                                    go_cut [97] (fun v97 wc => ∃ (kq : Nat) (x97_34 : Bool), v97 = .bool x97_34 ∧ Aside0 (rubricatorref14_Grammar.j8 kq a0 (wrap64 (x5_21 + 1)) x5_4 x5_21 x97_34 = some (r1, r2, r3)) ∧ Aside0 (kq ≤ kj27) ∧ Drawn0 w wc)
                                    case first =>
                                      have H := HC35.out
                                      clear HC35
                                      by_cases c36 : (wrap64 (x5_21 + 1)) < (a0.size : Int)
                                      · rw [if_pos c36] at H
                                        have c36b0 : decide ((wrap64 (x5_21 + 1)) < (a0.size : Int)) = true := decide_eq_true c36
                                        clear c36
                                        (first | rw [c36b0] | (simp only [i64_w, i32_w]; rw [c36b0]) | skip)
                                        obtain ⟨ji37, hji37⟩ : ∃ j_ : Int, (wrap64 (x5_21 + 1)) = j_ := ⟨_, rfl⟩
                                        replace H : (if 0 ≤ (ji37) then (if (bt a0 (ji37)) = 43 then (rubricatorref14_Grammar.j8 kj27 a0 ji37 x5_4 x5_21 true) else (rubricatorref14_Grammar.j8 kj27 a0 ji37 x5_4 x5_21 ((bt a0 (ji37)) == 45))) else (none)) = some (r1, r2, r3) := by first | (rw [hji37] at H; exact H) | (simp only [hji37] at H ⊢; exact H)
                                        (try rw [hji37] at c36b0)
                                        have hji37w : (IntKind.i64.wrap (x5_21 + 1)) = ji37 := (i64_w _).trans hji37
                                        by_cases c38 : 0 ≤ (ji37)
                                        · rw [if_pos c38] at H
                                          have c38b0 : decide (0 ≤ (ji37)) = true := decide_eq_true c38
                                          clear c38
                                          by_cases c40 : (bt a0 (ji37)) = 43
                                          · rw [if_pos c40] at H
                                            have c40b0 : ((bt a0 (ji37)) == 43) = true := beq_iff_eq.mpr c40
                                            have c40b1 : ((bt a0 (ji37)) != 43) = false := bne_eq_false_iff_eq.mpr c40
                                            clear c40
                                            have H' := Aside0.mk H
                                            clear H
                                            have p39 : 0 ≤ ((ji37) : Int) := of_decide_eq_true (by first | (with_reducible assumption) | assumption)
                                            have q39 : (ji37) < (a0.size : Int) := of_decide_eq_true (by first | (with_reducible assumption) | assumption)
                                            have hx39 := bt_at a0 (ji37)
                                            replace p39 := eq_true p39
                                            replace q39 := eq_true q39
                                            go_wp2
                                            go_meet
                                            case rel => exact ⟨_, (true), (by first | rfl | (simp; done) | (simp [*]; done) | (simp [wrap64]; done)), (by first | exact H' | (rw [hji37]; exact H')), ⟨by have := HJ1.out; have := HJ4.out; have := HJ6.out; have := HK4.out; have := HJ17.out; have := HJ21.out; have := HJ27.out; first | omega | exact Nat.le_refl _⟩, by repeat (first | exact Drawn0.refl _ | apply Drawn0.step)⟩
                                          · rw [if_neg c40] at H
                                            have c40b0 : ((bt a0 (ji37)) == 43) = false := beq_eq_false_iff_ne.mpr c40
                                            have c40b1 : ((bt a0 (ji37)) != 43) = true := bne_iff_ne.mpr c40
                                            have H' := Aside0.mk H
                                            clear H
                                            have p39 : 0 ≤ ((ji37) : Int) := of_decide_eq_true (by first | (with_reducible assumption) | assumption)
                                            have q39 : (ji37) < (a0.size : Int) := of_decide_eq_true (by first | (with_reducible assumption) | assumption)
                                            have hx39 := bt_at a0 (ji37)
                                            replace p39 := eq_true p39
                                            replace q39 := eq_true q39
                                            have p41 : 0 ≤ ((ji37) : Int) := of_decide_eq_true (by first | (with_reducible assumption) | assumption)
                                            have q41 : (ji37) < (a0.size : Int) := of_decide_eq_true (by first | (with_reducible assumption) | assumption)
                                            have hx41 := bt_at a0 (ji37)
                                            replace p41 := eq_true p41
                                            replace q41 := eq_true q41
                                            go_wp2
                                            go_meet
                                            case rel => exact ⟨_, (((bt a0 (ji37)) == 45)), (by first | rfl | (simp; done) | (simp only [← hji37] <;> (first | rfl | simp)) | (simp [*]; done)), (by first | exact H' | (rw [hji37]; exact H')), ⟨by have := HJ1.out; have := HJ4.out; have := HJ6.out; have := HK4.out; have := HJ17.out; have := HJ21.out; have := HJ27.out; first | omega | exact Nat.le_refl _⟩, by repeat (first | exact Drawn0.refl _ | apply Drawn0.step)⟩
                                        · rw [if_neg c38] at H
                                          exact absurd H (by simp)
                                      · rw [if_neg c36] at H
                                        have c36b0 : decide ((wrap64 (x5_21 + 1)) < (a0.size : Int)) = false := decide_eq_false c36
                                        clear c36
                                        (first | rw [c36b0] | (simp only [i64_w, i32_w]; rw [c36b0]) | skip)
                                        have H' := Aside0.mk H
                                        clear H
                                        go_wp2
                                        go_meet
                                        case rel => exact ⟨_, (false), (by first | rfl | (simp; done) | (simp [*]; done) | (simp [wrap64]; done)), (by first | exact H' | (rw [hji37]; exact H')), ⟨by have := HJ1.out; have := HJ4.out; have := HJ6.out; have := HK4.out; have := HJ17.out; have := HJ21.out; have := HJ27.out; first | omega | exact Nat.le_refl _⟩, by repeat (first | exact Drawn0.refl _ | apply Drawn0.step)⟩
                                    case rest =>
                                      clear HC35
                                      try clear c1
                                      try clear p1
                                      try clear q1
                                      try clear hx1
                                      try clear c2
                                      try clear p2
                                      try clear q2
                                      try clear hx2
                                      try clear c3
                                      try clear c3b0
                                      try clear c3b1
                                      try clear p3
                                      try clear q3
                                      try clear hx3
                                      try clear c4
                                      try clear p4
                                      try clear q4
                                      try clear hx4
                                      try clear qi4
                                      try clear c6
                                      try clear p6
                                      try clear c9
                                      try clear c10
                                      try clear c10b0
                                      try clear c11
                                      try clear c11b0
                                      try clear p12
                                      try clear q12
                                      try clear hx12
                                      try clear c13
                                      try clear c13b0
                                      try clear c13b1
                                      try clear c15
                                      try clear c17
                                      try clear c19
                                      try clear c19b0
                                      try clear c20
                                      try clear c20b0
                                      try clear c21
                                      try clear p21
                                      try clear q21
                                      try clear hx21
                                      try clear c23
                                      try clear c25
                                      try clear c27
                                      try clear c29
                                      try clear c29b0
                                      try clear c30
                                      try clear c30b0
                                      try clear p31
                                      try clear q31
                                      try clear hx31
                                      try clear c32
                                      try clear c32b0
                                      try clear c32b1
                                      try clear p33
                                      try clear q33
                                      try clear hx33
                                      try clear c34
                                      try clear c36
                                      try clear c36b0
                                      try clear c38
                                      try clear c38b0
                                      try clear p39
                                      try clear q39
                                      try clear hx39
                                      try clear c40
                                      try clear c40b0
                                      try clear c40b1
                                      try clear p41
                                      try clear q41
                                      try clear hx41
                                      try clear p1
                                      try clear p12
                                      try clear p2
                                      try clear p21
                                      try clear p3
                                      try clear p31
                                      try clear p33
                                      try clear p39
                                      try clear p4
                                      try clear p41
                                      try clear p6
                                      try clear q1
                                      try clear q12
                                      try clear q2
                                      try clear q21
                                      try clear q3
                                      try clear q31
                                      try clear q33
                                      try clear q39
                                      try clear q4
                                      try clear q41
                                      obtain ⟨kq, x97_34, rfl, HA, HJ34, ⟨mc34, rfl⟩⟩ := hcut
                                      cases kq with
                                      | zero => exact absurd HA.out (by simp [rubricatorref14_Grammar.j8])
                                      | succ kj34 =>
                                        have H := HA.out
                                        clear HA
                                        simp only [rubricatorref14_Grammar.j8] at H
                                        have HC42 := Aside0.mk H
                                        clear H
                                        go_upto_if 97 with (fail)
                                        go_cut [5] (fun v5 wc => ∃ (kq : Nat) (x5_41 : Int), v5 = .int .i64 x5_41 ∧ Aside0 (rubricatorref14_Grammar.j9 kq a0 x5_41 x5_4 x5_21 = some (r1, r2, r3)) ∧ Aside0 (kq ≤ kj34) ∧ Drawn0 w wc)
                                        case first =>
                                          have H := HC42.out
                                          clear HC42
                                          by_cases c43 : x97_34 = true
                                          · subst c43
                                            have H1 : (rubricatorref14_Grammar.j9 kj34 a0 (wrap64 ((wrap64 (x5_21 + 1)) + 1)) x5_4 x5_21) = some (r1, r2, r3) := by rw [if_pos rfl] at H; exact H
                                            clear H
                                            have H := H1
                                            clear H1
                                            have H' := Aside0.mk H
                                            clear H
                                            go_wp2
                                            go_meet
                                            case rel => exact ⟨_, (wrap64 ((wrap64 (x5_21 + 1)) + 1)), (by first | rfl | (simp; done) | (simp [*]; done) | (simp [wrap64]; done)), (by first | exact H' | (rw [hji37]; exact H')), ⟨by have := HJ1.out; have := HJ4.out; have := HJ6.out; have := HK4.out; have := HJ17.out; have := HJ21.out; have := HJ27.out; have := HJ34.out; first | omega | exact Nat.le_refl _⟩, by repeat (first | exact Drawn0.refl _ | apply Drawn0.step)⟩
                                          · replace c43 := Bool.eq_false_iff.mpr c43
                                            subst c43
                                            have H1 : (rubricatorref14_Grammar.j9 kj34 a0 (wrap64 (x5_21 + 1)) x5_4 x5_21) = some (r1, r2, r3) := by rw [if_neg (show ¬ (false = true) by decide)] at H; exact H
                                            clear H
                                            have H := H1
                                            clear H1
                                            have H' := Aside0.mk H
                                            clear H
                                            go_wp2
                                            go_meet
                                            case rel => exact ⟨_, ((wrap64 (x5_21 + 1))), (by first | rfl | (simp; done) | (simp [*]; done) | (simp [wrap64]; done)), (by first | exact H' | (rw [hji37]; exact H')), ⟨by have := HJ1.out; have := HJ4.out; have := HJ6.out; have := HK4.out; have := HJ17.out; have := HJ21.out; have := HJ27.out; have := HJ34.out; first | omega | exact Nat.le_refl _⟩, by repeat (first | exact Drawn0.refl _ | apply Drawn0.step)⟩
                                        case rest =>
                                          clear HC42
                                          try clear c1
                                          try clear p1
                                          try clear q1
                                          try clear hx1
                                          try clear c2
                                          try clear p2
                                          try clear q2
                                          try clear hx2
                                          try clear c3
                                          try clear c3b0
                                          try clear c3b1
                                          try clear p3
                                          try clear q3
                                          try clear hx3
                                          try clear c4
                                          try clear p4
                                          try clear q4
                                          try clear hx4
                                          try clear qi4
                                          try clear c6
                                          try clear p6
                                          try clear c9
                                          try clear c10
                                          try clear c10b0
                                          try clear c11
                                          try clear c11b0
                                          try clear p12
                                          try clear q12
                                          try clear hx12
                                          try clear c13
                                          try clear c13b0
                                          try clear c13b1
                                          try clear c15
                                          try clear c17
                                          try clear c19
                                          try clear c19b0
                                          try clear c20
                                          try clear c20b0
                                          try clear c21
                                          try clear p21
                                          try clear q21
                                          try clear hx21
                                          try clear c23
                                          try clear c25
                                          try clear c27
                                          try clear c29
                                          try clear c29b0
                                          try clear c30
                                          try clear c30b0
                                          try clear p31
                                          try clear q31
                                          try clear hx31
                                          try clear c32
                                          try clear c32b0
                                          try clear c32b1
                                          try clear p33
                                          try clear q33
                                          try clear hx33
                                          try clear c34
                                          try clear c36
                                          try clear c36b0
                                          try clear c38
                                          try clear c38b0
                                          try clear p39
                                          try clear q39
                                          try clear hx39
                                          try clear c40
                                          try clear c40b0
                                          try clear c40b1
                                          try clear p41
                                          try clear q41
                                          try clear hx41
                                          try clear c43
                                          try clear p1
                                          try clear p12
                                          try clear p2
                                          try clear p21
                                          try clear p3
                                          try clear p31
                                          try clear p33
                                          try clear p39
                                          try clear p4
                                          try clear p41
                                          try clear p6
                                          try clear q1
                                          try clear q12
                                          try clear q2
                                          try clear q21
                                          try clear q3
                                          try clear q31
                                          try clear q33
                                          try clear q39
                                          try clear q4
                                          try clear q41
                                          obtain ⟨kq, x5_41, rfl, HA, HJ41, ⟨mc41, rfl⟩⟩ := hcut
                                          cases kq with
                                          | zero => exact absurd HA.out (by simp [rubricatorref14_Grammar.j9])
                                          | succ kj41 =>
                                            have H := HA.out
                                            clear HA
                                            simp only [rubricatorref14_Grammar.j9] at H
                                            replace H := Option.bind_eq_some_iff.mp H
                                            obtain ⟨t132, A440, H⟩ := H
                                            replace H : (if t132 = true then (rubricatorref14_Grammar.l2 kj41 a0 x5_41 x5_4 x5_21) else (some (false, 0, 0))) = some (r1, r2, r3) := H
                                            have A44 := Aside0.mk A440
                                            clear A440
                                            by_cases c45 : t132 = true
                                            · subst c45
                                              have H1 : (rubricatorref14_Grammar.l2 kj41 a0 x5_41 x5_4 x5_21) = some (r1, r2, r3) := by rw [if_pos rfl] at H; exact H
                                              clear H
                                              have H := H1
                                              clear H1
                                              have H' := Aside0.mk H
                                              clear H
                                              go_wp2_with (first | ((with_reducible refine gate_callee (f := 32) rfl ?_); refine goesL_ (some 102) rfl rfl Tryd.func32 (by kernel_rfl) rfl #[.string a0, .int .i64 x5_41] rfl (by (try simp only [List.map_toArray, List.map_cons, List.map_nil]); first | done | rfl | (simp only [List.length_drop, List.length_take]; rfl)) ?_; (with_reducible refine (rubricatorref14_digit.calls a0 x5_41 true _ A44.out).mono ?_); rintro e w' ⟨rfl, ⟨nd, rfl⟩⟩; refine ⟨_, rfl, ?_⟩))
                                              go_loopg [5] kj41 (fun kq v5 w' => ∃ (x5_10 : Int), v5 = .int .i64 x5_10 ∧ Aside0 (rubricatorref14_Grammar.l2 kq a0 x5_10 x5_4 x5_21 = some (r1, r2, r3)) ∧ Aside0 (kq ≤ kj41) ∧ Drawn0 w w')
                                              case atStart => exact ⟨(x5_41), (by first | rfl | (simp; done) | (simp [*]; done) | (simp [wrap64]; done)), H', ⟨Nat.le_refl _⟩, by repeat (first | exact Drawn0.refl _ | apply Drawn0.step)⟩
                                              case round =>
                                                clear H'
                                                try clear c1
                                                try clear p1
                                                try clear q1
                                                try clear hx1
                                                try clear c2
                                                try clear p2
                                                try clear q2
                                                try clear hx2
                                                try clear c3
                                                try clear c3b0
                                                try clear c3b1
                                                try clear p3
                                                try clear q3
                                                try clear hx3
                                                try clear c4
                                                try clear p4
                                                try clear q4
                                                try clear hx4
                                                try clear qi4
                                                try clear c6
                                                try clear p6
                                                try clear c9
                                                try clear c10
                                                try clear c10b0
                                                try clear c11
                                                try clear c11b0
                                                try clear p12
                                                try clear q12
                                                try clear hx12
                                                try clear c13
                                                try clear c13b0
                                                try clear c13b1
                                                try clear c15
                                                try clear c17
                                                try clear c19
                                                try clear c19b0
                                                try clear c20
                                                try clear c20b0
                                                try clear c21
                                                try clear p21
                                                try clear q21
                                                try clear hx21
                                                try clear c23
                                                try clear c25
                                                try clear c27
                                                try clear c29
                                                try clear c29b0
                                                try clear c30
                                                try clear c30b0
                                                try clear p31
                                                try clear q31
                                                try clear hx31
                                                try clear c32
                                                try clear c32b0
                                                try clear c32b1
                                                try clear p33
                                                try clear q33
                                                try clear hx33
                                                try clear c34
                                                try clear c36
                                                try clear c36b0
                                                try clear c38
                                                try clear c38b0
                                                try clear p39
                                                try clear q39
                                                try clear hx39
                                                try clear c40
                                                try clear c40b0
                                                try clear c40b1
                                                try clear c41
                                                try clear p41
                                                try clear q41
                                                try clear hx41
                                                try clear c43
                                                try clear c45
                                                try clear p1
                                                try clear p12
                                                try clear p2
                                                try clear p21
                                                try clear p3
                                                try clear p31
                                                try clear p33
                                                try clear p39
                                                try clear p4
                                                try clear p41
                                                try clear p6
                                                try clear q1
                                                try clear q12
                                                try clear q2
                                                try clear q21
                                                try clear q3
                                                try clear q31
                                                try clear q33
                                                try clear q39
                                                try clear q4
                                                try clear q41
                                                obtain ⟨x5_10, rfl, HA, HK10, ⟨m10, rfl⟩⟩ := hrel
                                                cases gk with
                                                | zero => exact absurd HA.out (by simp [rubricatorref14_Grammar.l2])
                                                | succ k10 =>
                                                  have H := HA.out
                                                  clear HA
                                                  simp only [rubricatorref14_Grammar.l2] at H
                                                  replace H := Option.bind_eq_some_iff.mp H
                                                  obtain ⟨t133, A460, H⟩ := H
                                                  replace H : (if t133 = true then (rubricatorref14_Grammar.l2 k10 a0 (wrap64 (x5_10 + 1)) x5_4 x5_21) else (some ((x5_10 == (a0.size : Int)), x5_4, x5_21))) = some (r1, r2, r3) := H
                                                  have A46 := Aside0.mk A460
                                                  clear A460
                                                  by_cases c47 : t133 = true
                                                  · subst c47
                                                    have H1 : (rubricatorref14_Grammar.l2 k10 a0 (wrap64 (x5_10 + 1)) x5_4 x5_21) = some (r1, r2, r3) := by rw [if_pos rfl] at H; exact H
                                                    clear H
                                                    have H := H1
                                                    clear H1
                                                    have H' := Aside0.mk H
                                                    clear H
                                                    go_wp2_with (first | ((with_reducible refine gate_callee (f := 32) rfl ?_); refine goesL_ (some 106) rfl rfl Tryd.func32 (by kernel_rfl) rfl #[.string a0, .int .i64 x5_10] rfl (by (try simp only [List.map_toArray, List.map_cons, List.map_nil]); first | done | rfl | (simp only [List.length_drop, List.length_take]; rfl)) ?_; (with_reducible refine (rubricatorref14_digit.calls a0 x5_10 true _ A46.out).mono ?_); rintro e w' ⟨rfl, ⟨nd, rfl⟩⟩; refine ⟨_, rfl, ?_⟩))
                                                    go_roundg k10
                                                    case measure => have := HJ1.out; have := HJ4.out; have := HJ6.out; have := HK4.out; have := HJ17.out; have := HJ21.out; have := HJ27.out; have := HJ34.out; have := HJ41.out; have := HK10.out; omega
                                                    case rel => exact ⟨(wrap64 (x5_10 + 1)), (by first | rfl | (simp; done) | (simp [*]; done) | (simp [wrap64]; done)), (by first | exact H' | (rw [hji37]; exact H')), ⟨by have := HJ1.out; have := HJ4.out; have := HJ6.out; have := HK4.out; have := HJ17.out; have := HJ21.out; have := HJ27.out; have := HJ34.out; have := HJ41.out; have := HK10.out; omega⟩, by repeat (first | exact Drawn0.refl _ | apply Drawn0.step)⟩
                                                  · replace c47 := Bool.eq_false_iff.mpr c47
                                                    subst c47
                                                    have H1 : (some ((x5_10 == (a0.size : Int)), x5_4, x5_21)) = some (r1, r2, r3) := by rw [if_neg (show ¬ (false = true) by decide)] at H; exact H
                                                    clear H
                                                    have H := H1
                                                    clear H1
                                                    simp only [Option.some.injEq, Prod.mk.injEq] at H
                                                    obtain ⟨rfl, rfl, rfl⟩ := H
                                                    go_wp2_with (first | ((with_reducible refine gate_callee (f := 32) rfl ?_); refine goesL_ (some 106) rfl rfl Tryd.func32 (by kernel_rfl) rfl #[.string a0, .int .i64 x5_10] rfl (by (try simp only [List.map_toArray, List.map_cons, List.map_nil]); first | done | rfl | (simp only [List.length_drop, List.length_take]; rfl)) ?_; (with_reducible refine (rubricatorref14_digit.calls a0 x5_10 false _ A46.out).mono ?_); rintro e w' ⟨rfl, ⟨nd, rfl⟩⟩; refine ⟨_, rfl, ?_⟩))
                                                    go_ret3
                                                    try simp only [beq_nil_isEmpty, bytesLess_gtr]
                                                    exact ⟨by first | rfl | (simp; done) | (simp [*]; done), by repeat (first | exact Drawn0.refl _ | apply Drawn0.step)⟩
                                            · replace c45 := Bool.eq_false_iff.mpr c45
                                              subst c45
                                              have H1 : (some (false, 0, 0)) = some (r1, r2, r3) := by rw [if_neg (show ¬ (false = true) by decide)] at H; exact H
                                              clear H
                                              have H := H1
                                              clear H1
                                              simp only [Option.some.injEq, Prod.mk.injEq] at H
                                              obtain ⟨rfl, rfl, rfl⟩ := H
                                              go_wp2_with (first | ((with_reducible refine gate_callee (f := 32) rfl ?_); refine goesL_ (some 102) rfl rfl Tryd.func32 (by kernel_rfl) rfl #[.string a0, .int .i64 x5_41] rfl (by (try simp only [List.map_toArray, List.map_cons, List.map_nil]); first | done | rfl | (simp only [List.length_drop, List.length_take]; rfl)) ?_; (with_reducible refine (rubricatorref14_digit.calls a0 x5_41 false _ A44.out).mono ?_); rintro e w' ⟨rfl, ⟨nd, rfl⟩⟩; refine ⟨_, rfl, ?_⟩))
                                              go_ret3
                                              try simp only [beq_nil_isEmpty, bytesLess_gtr]
                                              exact ⟨by first | rfl | (simp; done) | (simp [*]; done), by repeat (first | exact Drawn0.refl _ | apply Drawn0.step)⟩
                                  · replace c34 := Bool.eq_false_iff.mpr c34
                                    subst c34
                                    have H1 : (some ((x5_21 == (a0.size : Int)), x5_4, x5_21)) = some (r1, r2, r3) := by rw [if_neg (show ¬ (false = true) by decide)] at H; exact H
                                    clear H
                                    have H := H1
                                    clear H1
                                    simp only [Option.some.injEq, Prod.mk.injEq] at H
                                    obtain ⟨rfl, rfl, rfl⟩ := H
                                    go_wp2
                                    go_ret3
                                    try simp only [beq_nil_isEmpty, bytesLess_gtr]
                                    exact ⟨by first | rfl | (simp; done) | (simp [*]; done), by repeat (first | exact Drawn0.refl _ | apply Drawn0.step)⟩

end Go.Proofs.YtbgigckmehgcpaaDoor.Pr
