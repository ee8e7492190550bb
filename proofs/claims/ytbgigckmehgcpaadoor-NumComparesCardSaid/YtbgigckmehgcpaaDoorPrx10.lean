-- written by a program of this session (xprint.py)
import Derived.Test.YtbgigckmehgcpaaDoorPrx0
import Derived.Test.YtbgigckmehgcpaaDoorPrx9
namespace Go.Proofs.YtbgigckmehgcpaaDoor.Pr
open Go.RowKit Go.Proofs.YtbgigckmehgcpaaDoorW.PrintWords Go.Proofs.YtbgigckmehgcpaaDoorW.PrintLast Go.Proofs.YtbgigckmehgcpaaDoorW.PrintMore
attribute [local go_sem] max2_int min2_int max_two min_two max_three min_three max_four min_four   -- for this text's walks alone
set_option linter.unusedVariables false
set_option linter.unusedSimpArgs false

/-! ### rubricatorref14_Compare: function 19 -/
mutual
def rubricatorref14_Compare.j0 : Nat → ByteArray → ByteArray → Bool → ByteArray → Int → Bool → ByteArray → Int → Option (Int)
  | 0, _, _, _, _, _, _, _, _ => none
  | k + 1, x5, x6, x164000, x164001, x164002, x165000, x165001, x165002 => if x165001.toList = ([] : List UInt8) then (rubricatorref14_Compare.j1 k x5 (⟨#[]⟩ : ByteArray) x164000 x164001 x164002 x165000 x165001 x165002) else (rubricatorref14_Compare.j1 k x5 x6 x164000 x164001 x164002 x165000 x165001 x165002)
def rubricatorref14_Compare.j1 : Nat → ByteArray → ByteArray → Bool → ByteArray → Int → Bool → ByteArray → Int → Option (Int)
  | 0, _, _, _, _, _, _, _, _ => none
  | k + 1, x5, x6, x164000, x164001, x164002, x165000, x165001, x165002 => if x164000 = true then (if x165000 = true then ((rubricatorref14_greater.f x5 x6).bind fun t167 => (rubricatorref14_Compare.j2 k x5 x6 t167 x164000 x164001 x164002 x165000 x165001 x165002)) else (rubricatorref14_Compare.j2 k x5 x6 false x164000 x164001 x164002 x165000 x165001 x165002)) else (rubricatorref14_Compare.j2 k x5 x6 false x164000 x164001 x164002 x165000 x165001 x165002)
def rubricatorref14_Compare.j2 : Nat → ByteArray → ByteArray → Bool → Bool → ByteArray → Int → Bool → ByteArray → Int → Option (Int)
  | 0, _, _, _, _, _, _, _, _, _ => none
  | k + 1, x5, x6, x37, x164000, x164001, x164002, x165000, x165001, x165002 => if x37 = true then (some (-1)) else (if x164000 = true then (if x165000 = true then ((rubricatorref14_greater.f x6 x5).bind fun t168 => (rubricatorref14_Compare.j3 k x5 x6 t168 x164000 x164001 x164002 x165000 x165001 x165002)) else (rubricatorref14_Compare.j3 k x5 x6 false x164000 x164001 x164002 x165000 x165001 x165002)) else (rubricatorref14_Compare.j3 k x5 x6 false x164000 x164001 x164002 x165000 x165001 x165002))
def rubricatorref14_Compare.j3 : Nat → ByteArray → ByteArray → Bool → Bool → ByteArray → Int → Bool → ByteArray → Int → Option (Int)
  | 0, _, _, _, _, _, _, _, _, _ => none
  | k + 1, x5, x6, x49, x164000, x164001, x164002, x165000, x165001, x165002 => if x49 = true then (some 1) else (if x164000 = true then (rubricatorref14_Compare.j4 k x5 x6 x165000 x164000 x164001 x164002 x165000 x165001 x165002) else (rubricatorref14_Compare.j4 k x5 x6 false x164000 x164001 x164002 x165000 x165001 x165002))
def rubricatorref14_Compare.j4 : Nat → ByteArray → ByteArray → Bool → Bool → ByteArray → Int → Bool → ByteArray → Int → Option (Int)
  | 0, _, _, _, _, _, _, _, _, _ => none
  | k + 1, x5, x6, x61, x164000, x164001, x164002, x165000, x165001, x165002 => if x61 = true then (some 0) else (if x164000 = true then (some (-1)) else (if x165000 = true then (rubricatorref14_Compare.j5 k x5 x6 true) else ((rubricatorref14_greater.f x5 x6).bind fun t169 => (rubricatorref14_Compare.j5 k x5 x6 t169))))
def rubricatorref14_Compare.j5 : Nat → ByteArray → ByteArray → Bool → Option (Int)
  | 0, _, _, _ => none
  | k + 1, x5, x6, x71 => if x71 = true then (some 1) else ((rubricatorref14_greater.f x6 x5).bind fun t170 => (if t170 = true then (some (-1)) else (some 0)))
end
def rubricatorref14_Compare.f (k : Nat) (a0_0 : Bool) (a0_1 : ByteArray) (a0_2 : Int) (a1_0 : Bool) (a1_1 : ByteArray) (a1_2 : Int) : Option (Int) := (rubricatorref14_noughts.f k (wrap64 (a0_2 - (mn a0_2 a1_2)))).bind fun t165 => (if a0_1.size + t165.size ≤ 9223372036854775807 then ((rubricatorref14_noughts.f k (wrap64 (a1_2 - (mn a0_2 a1_2)))).bind fun t166 => (if a1_1.size + t166.size ≤ 9223372036854775807 then (if a0_1.toList = ([] : List UInt8) then (rubricatorref14_Compare.j0 k (⟨#[]⟩ : ByteArray) (a1_1 ++ t166) a0_0 a0_1 a0_2 a1_0 a1_1 a1_2) else (rubricatorref14_Compare.j0 k (a0_1 ++ t165) (a1_1 ++ t166) a0_0 a0_1 a0_2 a1_0 a1_1 a1_2)) else (none))) else (none))
theorem rubricatorref14_Compare.mono_l : ∀ k, (∀ y0 y1 y2 y3 y4 y5 y6 y7, LeO (rubricatorref14_Compare.j0 k y0 y1 y2 y3 y4 y5 y6 y7) (rubricatorref14_Compare.j0 (k + 1) y0 y1 y2 y3 y4 y5 y6 y7)) ∧ (∀ y0 y1 y2 y3 y4 y5 y6 y7, LeO (rubricatorref14_Compare.j1 k y0 y1 y2 y3 y4 y5 y6 y7) (rubricatorref14_Compare.j1 (k + 1) y0 y1 y2 y3 y4 y5 y6 y7)) ∧ (∀ y0 y1 y2 y3 y4 y5 y6 y7 y8, LeO (rubricatorref14_Compare.j2 k y0 y1 y2 y3 y4 y5 y6 y7 y8) (rubricatorref14_Compare.j2 (k + 1) y0 y1 y2 y3 y4 y5 y6 y7 y8)) ∧ (∀ y0 y1 y2 y3 y4 y5 y6 y7 y8, LeO (rubricatorref14_Compare.j3 k y0 y1 y2 y3 y4 y5 y6 y7 y8) (rubricatorref14_Compare.j3 (k + 1) y0 y1 y2 y3 y4 y5 y6 y7 y8)) ∧ (∀ y0 y1 y2 y3 y4 y5 y6 y7 y8, LeO (rubricatorref14_Compare.j4 k y0 y1 y2 y3 y4 y5 y6 y7 y8) (rubricatorref14_Compare.j4 (k + 1) y0 y1 y2 y3 y4 y5 y6 y7 y8)) ∧ (∀ y0 y1 y2, LeO (rubricatorref14_Compare.j5 k y0 y1 y2) (rubricatorref14_Compare.j5 (k + 1) y0 y1 y2))
  | 0 => ⟨fun _ _ _ _ _ _ _ _ r h => by simp [rubricatorref14_Compare.j0] at h, fun _ _ _ _ _ _ _ _ r h => by simp [rubricatorref14_Compare.j1] at h, fun _ _ _ _ _ _ _ _ _ r h => by simp [rubricatorref14_Compare.j2] at h, fun _ _ _ _ _ _ _ _ _ r h => by simp [rubricatorref14_Compare.j3] at h, fun _ _ _ _ _ _ _ _ _ r h => by simp [rubricatorref14_Compare.j4] at h, fun _ _ _ r h => by simp [rubricatorref14_Compare.j5] at h⟩
  | k + 1 => by
    obtain ⟨ih0, ih1, ih2, ih3, ih4, ih5⟩ := rubricatorref14_Compare.mono_l k
    refine ⟨?_, ?_, ?_, ?_, ?_, ?_⟩
    · intro y0 y1 y2 y3 y4 y5 y6 y7
      unfold rubricatorref14_Compare.j0
      repeat' first
      | (with_reducible exact ih0 _ _ _ _ _ _ _ _)
      | (with_reducible exact ih1 _ _ _ _ _ _ _ _)
      | (with_reducible exact ih2 _ _ _ _ _ _ _ _ _)
      | (with_reducible exact ih3 _ _ _ _ _ _ _ _ _)
      | (with_reducible exact ih4 _ _ _ _ _ _ _ _ _)
      | (with_reducible exact ih5 _ _ _)
      | (with_reducible exact rubricatorref14_noughts.mono _ _)
      | (with_reducible exact LeO.refl _)
      | (with_reducible exact LeO.none _)
      | (with_reducible refine LeO.ite ?_ ?_)
      | (with_reducible refine LeO.bind ?_ (fun _ => ?_))
      | exact ih0 _ _ _ _ _ _ _ _
      | exact ih1 _ _ _ _ _ _ _ _
      | exact ih2 _ _ _ _ _ _ _ _ _
      | exact ih3 _ _ _ _ _ _ _ _ _
      | exact ih4 _ _ _ _ _ _ _ _ _
      | exact ih5 _ _ _
      | exact rubricatorref14_noughts.mono _ _
      | exact LeO.none _
      | refine LeO.ite ?_ ?_
      | refine LeO.bind ?_ (fun _ => ?_)
    · intro y0 y1 y2 y3 y4 y5 y6 y7
      unfold rubricatorref14_Compare.j1
      repeat' first
      | (with_reducible exact ih0 _ _ _ _ _ _ _ _)
      | (with_reducible exact ih1 _ _ _ _ _ _ _ _)
      | (with_reducible exact ih2 _ _ _ _ _ _ _ _ _)
      | (with_reducible exact ih3 _ _ _ _ _ _ _ _ _)
      | (with_reducible exact ih4 _ _ _ _ _ _ _ _ _)
      | (with_reducible exact ih5 _ _ _)
      | (with_reducible exact rubricatorref14_noughts.mono _ _)
      | (with_reducible exact LeO.refl _)
      | (with_reducible exact LeO.none _)
      | (with_reducible refine LeO.ite ?_ ?_)
      | (with_reducible refine LeO.bind ?_ (fun _ => ?_))
      | exact ih0 _ _ _ _ _ _ _ _
      | exact ih1 _ _ _ _ _ _ _ _
      | exact ih2 _ _ _ _ _ _ _ _ _
      | exact ih3 _ _ _ _ _ _ _ _ _
      | exact ih4 _ _ _ _ _ _ _ _ _
      | exact ih5 _ _ _
      | exact rubricatorref14_noughts.mono _ _
      | exact LeO.none _
      | refine LeO.ite ?_ ?_
      | refine LeO.bind ?_ (fun _ => ?_)
    · intro y0 y1 y2 y3 y4 y5 y6 y7 y8
      unfold rubricatorref14_Compare.j2
      repeat' first
      | (with_reducible exact ih0 _ _ _ _ _ _ _ _)
      | (with_reducible exact ih1 _ _ _ _ _ _ _ _)
      | (with_reducible exact ih2 _ _ _ _ _ _ _ _ _)
      | (with_reducible exact ih3 _ _ _ _ _ _ _ _ _)
      | (with_reducible exact ih4 _ _ _ _ _ _ _ _ _)
      | (with_reducible exact ih5 _ _ _)
      | (with_reducible exact rubricatorref14_noughts.mono _ _)
      | (with_reducible exact LeO.refl _)
      | (with_reducible exact LeO.none _)
      | (with_reducible refine LeO.ite ?_ ?_)
      | (with_reducible refine LeO.bind ?_ (fun _ => ?_))
      | exact ih0 _ _ _ _ _ _ _ _
      | exact ih1 _ _ _ _ _ _ _ _
      | exact ih2 _ _ _ _ _ _ _ _ _
      | exact ih3 _ _ _ _ _ _ _ _ _
      | exact ih4 _ _ _ _ _ _ _ _ _
      | exact ih5 _ _ _
      | exact rubricatorref14_noughts.mono _ _
      | exact LeO.none _
      | refine LeO.ite ?_ ?_
      | refine LeO.bind ?_ (fun _ => ?_)
    · intro y0 y1 y2 y3 y4 y5 y6 y7 y8
      unfold rubricatorref14_Compare.j3
      repeat' first
      | (with_reducible exact ih0 _ _ _ _ _ _ _ _)
      | (with_reducible exact ih1 _ _ _ _ _ _ _ _)
      | (with_reducible exact ih2 _ _ _ _ _ _ _ _ _)
      | (with_reducible exact ih3 _ _ _ _ _ _ _ _ _)
      | (with_reducible exact ih4 _ _ _ _ _ _ _ _ _)
      | (with_reducible exact ih5 _ _ _)
      | (with_reducible exact rubricatorref14_noughts.mono _ _)
      | (with_reducible exact LeO.refl _)
      | (with_reducible exact LeO.none _)
      | (with_reducible refine LeO.ite ?_ ?_)
      | (with_reducible refine LeO.bind ?_ (fun _ => ?_))
      | exact ih0 _ _ _ _ _ _ _ _
      | exact ih1 _ _ _ _ _ _ _ _
      | exact ih2 _ _ _ _ _ _ _ _ _
      | exact ih3 _ _ _ _ _ _ _ _ _
      | exact ih4 _ _ _ _ _ _ _ _ _
      | exact ih5 _ _ _
      | exact rubricatorref14_noughts.mono _ _
      | exact LeO.none _
      | refine LeO.ite ?_ ?_
      | refine LeO.bind ?_ (fun _ => ?_)
    · intro y0 y1 y2 y3 y4 y5 y6 y7 y8
      unfold rubricatorref14_Compare.j4
      repeat' first
      | (with_reducible exact ih0 _ _ _ _ _ _ _ _)
      | (with_reducible exact ih1 _ _ _ _ _ _ _ _)
      | (with_reducible exact ih2 _ _ _ _ _ _ _ _ _)
      | (with_reducible exact ih3 _ _ _ _ _ _ _ _ _)
      | (with_reducible exact ih4 _ _ _ _ _ _ _ _ _)
      | (with_reducible exact ih5 _ _ _)
      | (with_reducible exact rubricatorref14_noughts.mono _ _)
      | (with_reducible exact LeO.refl _)
      | (with_reducible exact LeO.none _)
      | (with_reducible refine LeO.ite ?_ ?_)
      | (with_reducible refine LeO.bind ?_ (fun _ => ?_))
      | exact ih0 _ _ _ _ _ _ _ _
      | exact ih1 _ _ _ _ _ _ _ _
      | exact ih2 _ _ _ _ _ _ _ _ _
      | exact ih3 _ _ _ _ _ _ _ _ _
      | exact ih4 _ _ _ _ _ _ _ _ _
      | exact ih5 _ _ _
      | exact rubricatorref14_noughts.mono _ _
      | exact LeO.none _
      | refine LeO.ite ?_ ?_
      | refine LeO.bind ?_ (fun _ => ?_)
    · intro y0 y1 y2
      unfold rubricatorref14_Compare.j5
      repeat' first
      | (with_reducible exact ih0 _ _ _ _ _ _ _ _)
      | (with_reducible exact ih1 _ _ _ _ _ _ _ _)
      | (with_reducible exact ih2 _ _ _ _ _ _ _ _ _)
      | (with_reducible exact ih3 _ _ _ _ _ _ _ _ _)
      | (with_reducible exact ih4 _ _ _ _ _ _ _ _ _)
      | (with_reducible exact ih5 _ _ _)
      | (with_reducible exact rubricatorref14_noughts.mono _ _)
      | (with_reducible exact LeO.refl _)
      | (with_reducible exact LeO.none _)
      | (with_reducible refine LeO.ite ?_ ?_)
      | (with_reducible refine LeO.bind ?_ (fun _ => ?_))
      | exact ih0 _ _ _ _ _ _ _ _
      | exact ih1 _ _ _ _ _ _ _ _
      | exact ih2 _ _ _ _ _ _ _ _ _
      | exact ih3 _ _ _ _ _ _ _ _ _
      | exact ih4 _ _ _ _ _ _ _ _ _
      | exact ih5 _ _ _
      | exact rubricatorref14_noughts.mono _ _
      | exact LeO.none _
      | refine LeO.ite ?_ ?_
      | refine LeO.bind ?_ (fun _ => ?_)
theorem rubricatorref14_Compare.mono : ∀ a0 a1 a2 a3 a4 a5 k, LeO (rubricatorref14_Compare.f k a0 a1 a2 a3 a4 a5) (rubricatorref14_Compare.f (k + 1) a0 a1 a2 a3 a4 a5) := by
  intro a0 a1 a2 a3 a4 a5 k
  obtain ⟨ih0, ih1, ih2, ih3, ih4, ih5⟩ := rubricatorref14_Compare.mono_l k
  unfold rubricatorref14_Compare.f
  repeat' first
      | (with_reducible exact ih0 _ _ _ _ _ _ _ _)
      | (with_reducible exact ih1 _ _ _ _ _ _ _ _)
      | (with_reducible exact ih2 _ _ _ _ _ _ _ _ _)
      | (with_reducible exact ih3 _ _ _ _ _ _ _ _ _)
      | (with_reducible exact ih4 _ _ _ _ _ _ _ _ _)
      | (with_reducible exact ih5 _ _ _)
      | (with_reducible exact rubricatorref14_noughts.mono _ _)
      | (with_reducible exact LeO.refl _)
      | (with_reducible exact LeO.none _)
      | (with_reducible refine LeO.ite ?_ ?_)
      | (with_reducible refine LeO.bind ?_ (fun _ => ?_))
      | exact ih0 _ _ _ _ _ _ _ _
      | exact ih1 _ _ _ _ _ _ _ _
      | exact ih2 _ _ _ _ _ _ _ _ _
      | exact ih3 _ _ _ _ _ _ _ _ _
      | exact ih4 _ _ _ _ _ _ _ _ _
      | exact ih5 _ _ _
      | exact rubricatorref14_noughts.mono _ _
      | exact LeO.none _
      | refine LeO.ite ?_ ?_
      | refine LeO.bind ?_ (fun _ => ?_)
set_option maxHeartbeats 8000000 in
set_option maxRecDepth 100000 in
theorem rubricatorref14_Compare.calls (k : Nat) (a0_0 : Bool) (a0_1 : ByteArray) (a0_2 : Int) (a1_0 : Bool) (a1_1 : ByteArray) (a1_2 : Int) (r : Int) (w : World) (h : rubricatorref14_Compare.f k a0_0 a0_1 a0_2 a1_0 a1_1 a1_2 = some r) :
    Calls Tryd.prog 19 #[.agg #[.bool a0_0, .string a0_1, .int .i64 a0_2], .agg #[.bool a1_0, .string a1_1, .int .i64 a1_2]] w fun e w' => e = .returned (.int .i64 r) ∧ Below w.heap.size w w' := by
  have hu28 := Tryd.underlying28
  have HB := Aside0.mk (Below.refl w.heap.size w)
  have H : ((rubricatorref14_noughts.f k (wrap64 (a0_2 - (mn a0_2 a1_2)))).bind fun t165 => (if a0_1.size + t165.size ≤ 9223372036854775807 then ((rubricatorref14_noughts.f k (wrap64 (a1_2 - (mn a0_2 a1_2)))).bind fun t166 => (if a1_1.size + t166.size ≤ 9223372036854775807 then (if a0_1.toList = ([] : List UInt8) then (rubricatorref14_Compare.j0 k (⟨#[]⟩ : ByteArray) (a1_1 ++ t166) a0_0 a0_1 a0_2 a1_0 a1_1 a1_2) else (rubricatorref14_Compare.j0 k (a0_1 ++ t165) (a1_1 ++ t166) a0_0 a0_1 a0_2 a1_0 a1_1 a1_2)) else (none))) else (none))) = some r := h
  clear h
  obtain ⟨ji3, hji3⟩ : ∃ j_ : Int, (mn a0_2 a1_2) = j_ := ⟨_, rfl⟩
  replace H : ((rubricatorref14_noughts.f k (wrap64 (a0_2 - (ji3)))).bind fun t165 => (if a0_1.size + t165.size ≤ 9223372036854775807 then ((rubricatorref14_noughts.f k (wrap64 (a1_2 - (ji3)))).bind fun t166 => (if a1_1.size + t166.size ≤ 9223372036854775807 then (if a0_1.toList = ([] : List UInt8) then (rubricatorref14_Compare.j0 k (⟨#[]⟩ : ByteArray) (a1_1 ++ t166) a0_0 a0_1 a0_2 a1_0 a1_1 a1_2) else (rubricatorref14_Compare.j0 k (a0_1 ++ t165) (a1_1 ++ t166) a0_0 a0_1 a0_2 a1_0 a1_1 a1_2)) else (none))) else (none))) = some r := by first | (rw [hji3] at H; exact H) | (simp only [hji3] at H ⊢; exact H)
  have hji3_ : (if a1_2 < a0_2 then a1_2 else a0_2) = ji3 := hji3
  replace H := Option.bind_eq_some_iff.mp H
  obtain ⟨t165, A40, H⟩ := H
  replace H : (if a0_1.size + t165.size ≤ 9223372036854775807 then ((rubricatorref14_noughts.f k (wrap64 (a1_2 - (ji3)))).bind fun t166 => (if a1_1.size + t166.size ≤ 9223372036854775807 then (if a0_1.toList = ([] : List UInt8) then (rubricatorref14_Compare.j0 k (⟨#[]⟩ : ByteArray) (a1_1 ++ t166) a0_0 a0_1 a0_2 a1_0 a1_1 a1_2) else (rubricatorref14_Compare.j0 k (a0_1 ++ t165) (a1_1 ++ t166) a0_0 a0_1 a0_2 a1_0 a1_1 a1_2)) else (none))) else (none)) = some r := H
  have A4 := Aside0.mk A40
  clear A40
  by_cases c5 : a0_1.size + t165.size ≤ 9223372036854775807
  · rw [if_pos c5] at H
    have c5b0 := eq_true c5
    have c5b1 : decide (a0_1.size + t165.size ≤ 9223372036854775807) = true := decide_eq_true c5
    try have c5b2 : (9223372036854775807 < a0_1.size + t165.size) = False := eq_false (Nat.not_lt.2 c5)
    replace H := Option.bind_eq_some_iff.mp H
    obtain ⟨t166, A70, H⟩ := H
    replace H : (if a1_1.size + t166.size ≤ 9223372036854775807 then (if a0_1.toList = ([] : List UInt8) then (rubricatorref14_Compare.j0 k (⟨#[]⟩ : ByteArray) (a1_1 ++ t166) a0_0 a0_1 a0_2 a1_0 a1_1 a1_2) else (rubricatorref14_Compare.j0 k (a0_1 ++ t165) (a1_1 ++ t166) a0_0 a0_1 a0_2 a1_0 a1_1 a1_2)) else (none)) = some r := H
    have A7 := Aside0.mk A70
    clear A70
    by_cases c8 : a1_1.size + t166.size ≤ 9223372036854775807
    · rw [if_pos c8] at H
      have c8b0 := eq_true c8
      have c8b1 : decide (a1_1.size + t166.size ≤ 9223372036854775807) = true := decide_eq_true c8
      try have c8b2 : (9223372036854775807 < a1_1.size + t166.size) = False := eq_false (Nat.not_lt.2 c8)
      have HC9 := Aside0.mk H
      clear H
      go_enter Tryd.func19, Tryd.ntmps19
      go_upto_if 33 with (first | ((with_reducible refine gate_dst (N := 2) rfl ?_); refine box_event ?hg (N := 2) ?hd (cs := #[.bool a0_0, .string a0_1, .int .i64 a0_2]) (t := 28) ?hr ?_; (case hd => rfl); (case hg => rfl); (case hr => first | (go_simp; done) | (go_simp; rfl)); intro gb163 hg w10 hbox hb; have n0_ := Aside0.mk (below_step (by repeat (first | (with_reducible first | exact HB.out | apply below_alloc | apply pw_below_drewN | apply below_drew1) | exact HB.out)) hb); have n1_ := Aside0.mk (hbox); have n2_ := Aside0.mk ((by rw [hg]; exact (below_size (by repeat (first | (with_reducible first | exact HB.out | apply below_alloc | apply pw_below_drewN | apply below_drew1) | exact HB.out))) : w.heap.size ≤ gb163)); have n3_ := Aside0.mk ((by rw [hg]; exact (below_size (by repeat (first | (with_reducible first | exact HB.out | apply below_alloc | apply pw_below_drewN | apply below_drew1) | exact HB.out))) : w.heap.size ≤ gb163)); clear HB; have HB := n0_; have BK163 := n1_; have GW163 := n2_; have GE163 := n3_; clear n0_ n1_ n2_ n3_; clear hb hbox hg) | ((with_reducible refine gate_dst (N := 3) rfl ?_); refine box_event ?hg (N := 3) ?hd (cs := #[.bool a1_0, .string a1_1, .int .i64 a1_2]) (t := 28) ?hr ?_; (case hd => rfl); (case hg => rfl); (case hr => first | (go_simp; done) | (go_simp; rfl)); intro gb164 hg w11 hbox hb; have n0_ := Aside0.mk (blk_below (g := gb163) (o := .cells #[.bool a0_0, .string a0_1, .int .i64 a0_2] 28 (0, 0)) (by (with_reducible repeat (first | refine blk_drewN ?_ _ | refine blk_drew ?_ | refine blk_alloc ?_ _)); exact BK163.out) hb); have n1_ := Aside0.mk (below_step (by repeat (first | (with_reducible first | exact HB.out | apply below_alloc | apply pw_below_drewN | apply below_drew1 | refine below_set ?_ GE163.out) | exact HB.out)) hb); have n2_ := Aside0.mk (hbox); have n3_ := Aside0.mk ((by rw [hg]; exact (below_size (by repeat (first | (with_reducible first | exact HB.out | apply below_alloc | apply pw_below_drewN | apply below_drew1 | refine below_set ?_ GE163.out) | exact HB.out))) : w.heap.size ≤ gb164)); have n4_ := Aside0.mk ((by rw [hg]; exact (below_size (by repeat (first | (with_reducible first | exact HB.out | apply below_alloc | apply pw_below_drewN | apply below_drew1 | refine below_set ?_ GE163.out) | exact HB.out))) : w.heap.size ≤ gb164)); have n5_ := Aside0.mk ((by rw [hg]; exact Nat.ne_of_lt (blk_lt (g := gb163) (o := .cells #[.bool a0_0, .string a0_1, .int .i64 a0_2] 28 (0, 0)) (by (with_reducible repeat (first | refine blk_drewN ?_ _ | refine blk_drew ?_ | refine blk_alloc ?_ _)); exact BK163.out)) : gb163 ≠ gb164)); have n6_ := Aside0.mk ((by rw [hg]; exact Nat.ne_of_gt (blk_lt (g := gb163) (o := .cells #[.bool a0_0, .string a0_1, .int .i64 a0_2] 28 (0, 0)) (by (with_reducible repeat (first | refine blk_drewN ?_ _ | refine blk_drew ?_ | refine blk_alloc ?_ _)); exact BK163.out)) : gb164 ≠ gb163)); clear BK163; clear HB; have BK163 := n0_; have HB := n1_; have BK164 := n2_; have GW164 := n3_; have GE164 := n4_; have NB163_164 := n5_; have NB164_163 := n6_; clear n0_ n1_ n2_ n3_ n4_ n5_ n6_; clear hb hbox hg; have hnb12 := NB163_164.out; have hnc12 := NB164_163.out; have hcz13_0 : w11.cell? ⟨gb163, 0, none⟩ = some (.bool a0_0) := (blk_cell BK163.out 0).trans rfl; have hcz13_1 : w11.cell? ⟨gb163, 1, none⟩ = some (.string a0_1) := (blk_cell BK163.out 1).trans rfl; have hcz13_2 : w11.cell? ⟨gb163, 2, none⟩ = some (.int .i64 a0_2) := (blk_cell BK163.out 2).trans rfl; have hfz13_0 := blk_frozen BK163.out 0; have hfz13_1 := blk_frozen BK163.out 1; have hfz13_2 := blk_frozen BK163.out 2; have hcz14_0 : w11.cell? ⟨gb164, 0, none⟩ = some (.bool a1_0) := (blk_cell BK164.out 0).trans rfl; have hcz14_1 : w11.cell? ⟨gb164, 1, none⟩ = some (.string a1_1) := (blk_cell BK164.out 1).trans rfl; have hcz14_2 : w11.cell? ⟨gb164, 2, none⟩ = some (.int .i64 a1_2) := (blk_cell BK164.out 2).trans rfl; have hfz14_0 := blk_frozen BK164.out 0; have hfz14_1 := blk_frozen BK164.out 1; have hfz14_2 := blk_frozen BK164.out 2) | (go_at_call 37; (with_reducible refine (rubricatorref14_noughts.calls k (wrap64 (a0_2 - (ji3))) t165 _ A4.out).mono ?_); rintro e w' ⟨rfl, ⟨nd, rfl⟩⟩; (try first | exact ⟨rfl, _, World.drewN_drewN _ _ _⟩ | exact ⟨rfl, _, Eq.trans (World.drewN_drewN _ _ _) (congrArg (World.drewN _) (Nat.add_assoc _ _ _))⟩)) | (go_at_call 37; (with_reducible refine (rubricatorref14_noughts.calls k (wrap64 (a1_2 - (ji3))) t166 _ A7.out).mono ?_); rintro e w' ⟨rfl, ⟨nd, rfl⟩⟩; (try first | exact ⟨rfl, _, World.drewN_drewN _ _ _⟩ | exact ⟨rfl, _, Eq.trans (World.drewN_drewN _ _ _) (congrArg (World.drewN _) (Nat.add_assoc _ _ _))⟩)))
      repeat (go_quiet (first | ((with_reducible refine gate_dst (N := 2) rfl ?_); refine box_event ?hg (N := 2) ?hd (cs := #[.bool a0_0, .string a0_1, .int .i64 a0_2]) (t := 28) ?hr ?_; (case hd => rfl); (case hg => rfl); (case hr => first | (go_simp; done) | (go_simp; rfl)); intro gb163 hg w10 hbox hb; have n0_ := Aside0.mk (below_step (by repeat (first | (with_reducible first | exact HB.out | apply below_alloc | apply pw_below_drewN | apply below_drew1) | exact HB.out)) hb); have n1_ := Aside0.mk (hbox); have n2_ := Aside0.mk ((by rw [hg]; exact (below_size (by repeat (first | (with_reducible first | exact HB.out | apply below_alloc | apply pw_below_drewN | apply below_drew1) | exact HB.out))) : w.heap.size ≤ gb163)); have n3_ := Aside0.mk ((by rw [hg]; exact (below_size (by repeat (first | (with_reducible first | exact HB.out | apply below_alloc | apply pw_below_drewN | apply below_drew1) | exact HB.out))) : w.heap.size ≤ gb163)); clear HB; have HB := n0_; have BK163 := n1_; have GW163 := n2_; have GE163 := n3_; clear n0_ n1_ n2_ n3_; clear hb hbox hg) | ((with_reducible refine gate_dst (N := 3) rfl ?_); refine box_event ?hg (N := 3) ?hd (cs := #[.bool a1_0, .string a1_1, .int .i64 a1_2]) (t := 28) ?hr ?_; (case hd => rfl); (case hg => rfl); (case hr => first | (go_simp; done) | (go_simp; rfl)); intro gb164 hg w11 hbox hb; have n0_ := Aside0.mk (blk_below (g := gb163) (o := .cells #[.bool a0_0, .string a0_1, .int .i64 a0_2] 28 (0, 0)) (by (with_reducible repeat (first | refine blk_drewN ?_ _ | refine blk_drew ?_ | refine blk_alloc ?_ _)); exact BK163.out) hb); have n1_ := Aside0.mk (below_step (by repeat (first | (with_reducible first | exact HB.out | apply below_alloc | apply pw_below_drewN | apply below_drew1 | refine below_set ?_ GE163.out) | exact HB.out)) hb); have n2_ := Aside0.mk (hbox); have n3_ := Aside0.mk ((by rw [hg]; exact (below_size (by repeat (first | (with_reducible first | exact HB.out | apply below_alloc | apply pw_below_drewN | apply below_drew1 | refine below_set ?_ GE163.out) | exact HB.out))) : w.heap.size ≤ gb164)); have n4_ := Aside0.mk ((by rw [hg]; exact (below_size (by repeat (first | (with_reducible first | exact HB.out | apply below_alloc | apply pw_below_drewN | apply below_drew1 | refine below_set ?_ GE163.out) | exact HB.out))) : w.heap.size ≤ gb164)); have n5_ := Aside0.mk ((by rw [hg]; exact Nat.ne_of_lt (blk_lt (g := gb163) (o := .cells #[.bool a0_0, .string a0_1, .int .i64 a0_2] 28 (0, 0)) (by (with_reducible repeat (first | refine blk_drewN ?_ _ | refine blk_drew ?_ | refine blk_alloc ?_ _)); exact BK163.out)) : gb163 ≠ gb164)); have n6_ := Aside0.mk ((by rw [hg]; exact Nat.ne_of_gt (blk_lt (g := gb163) (o := .cells #[.bool a0_0, .string a0_1, .int .i64 a0_2] 28 (0, 0)) (by (with_reducible repeat (first | refine blk_drewN ?_ _ | refine blk_drew ?_ | refine blk_alloc ?_ _)); exact BK163.out)) : gb164 ≠ gb163)); clear BK163; clear HB; have BK163 := n0_; have HB := n1_; have BK164 := n2_; have GW164 := n3_; have GE164 := n4_; have NB163_164 := n5_; have NB164_163 := n6_; clear n0_ n1_ n2_ n3_ n4_ n5_ n6_; clear hb hbox hg; have hnb12 := NB163_164.out; have hnc12 := NB164_163.out; have hcz13_0 : w11.cell? ⟨gb163, 0, none⟩ = some (.bool a0_0) := (blk_cell BK163.out 0).trans rfl; have hcz13_1 : w11.cell? ⟨gb163, 1, none⟩ = some (.string a0_1) := (blk_cell BK163.out 1).trans rfl; have hcz13_2 : w11.cell? ⟨gb163, 2, none⟩ = some (.int .i64 a0_2) := (blk_cell BK163.out 2).trans rfl; have hfz13_0 := blk_frozen BK163.out 0; have hfz13_1 := blk_frozen BK163.out 1; have hfz13_2 := blk_frozen BK163.out 2; have hcz14_0 : w11.cell? ⟨gb164, 0, none⟩ = some (.bool a1_0) := (blk_cell BK164.out 0).trans rfl; have hcz14_1 : w11.cell? ⟨gb164, 1, none⟩ = some (.string a1_1) := (blk_cell BK164.out 1).trans rfl; have hcz14_2 : w11.cell? ⟨gb164, 2, none⟩ = some (.int .i64 a1_2) := (blk_cell BK164.out 2).trans rfl; have hfz14_0 := blk_frozen BK164.out 0; have hfz14_1 := blk_frozen BK164.out 1; have hfz14_2 := blk_frozen BK164.out 2) | (go_at_call 37; (with_reducible refine (rubricatorref14_noughts.calls k (wrap64 (a0_2 - (ji3))) t165 _ A4.out).mono ?_); rintro e w' ⟨rfl, ⟨nd, rfl⟩⟩; (try first | exact ⟨rfl, _, World.drewN_drewN _ _ _⟩ | exact ⟨rfl, _, Eq.trans (World.drewN_drewN _ _ _) (congrArg (World.drewN _) (Nat.add_assoc _ _ _))⟩)) | (go_at_call 37; (with_reducible refine (rubricatorref14_noughts.calls k (wrap64 (a1_2 - (ji3))) t166 _ A7.out).mono ?_); rintro e w' ⟨rfl, ⟨nd, rfl⟩⟩; (try first | exact ⟨rfl, _, World.drewN_drewN _ _ _⟩ | exact ⟨rfl, _, Eq.trans (World.drewN_drewN _ _ _) (congrArg (World.drewN _) (Nat.add_assoc _ _ _))⟩))); go_upto_if 33 with (first | ((with_reducible refine gate_dst (N := 2) rfl ?_); refine box_event ?hg (N := 2) ?hd (cs := #[.bool a0_0, .string a0_1, .int .i64 a0_2]) (t := 28) ?hr ?_; (case hd => rfl); (case hg => rfl); (case hr => first | (go_simp; done) | (go_simp; rfl)); intro gb163 hg w10 hbox hb; have n0_ := Aside0.mk (below_step (by repeat (first | (with_reducible first | exact HB.out | apply below_alloc | apply pw_below_drewN | apply below_drew1) | exact HB.out)) hb); have n1_ := Aside0.mk (hbox); have n2_ := Aside0.mk ((by rw [hg]; exact (below_size (by repeat (first | (with_reducible first | exact HB.out | apply below_alloc | apply pw_below_drewN | apply below_drew1) | exact HB.out))) : w.heap.size ≤ gb163)); have n3_ := Aside0.mk ((by rw [hg]; exact (below_size (by repeat (first | (with_reducible first | exact HB.out | apply below_alloc | apply pw_below_drewN | apply below_drew1) | exact HB.out))) : w.heap.size ≤ gb163)); clear HB; have HB := n0_; have BK163 := n1_; have GW163 := n2_; have GE163 := n3_; clear n0_ n1_ n2_ n3_; clear hb hbox hg) | ((with_reducible refine gate_dst (N := 3) rfl ?_); refine box_event ?hg (N := 3) ?hd (cs := #[.bool a1_0, .string a1_1, .int .i64 a1_2]) (t := 28) ?hr ?_; (case hd => rfl); (case hg => rfl); (case hr => first | (go_simp; done) | (go_simp; rfl)); intro gb164 hg w11 hbox hb; have n0_ := Aside0.mk (blk_below (g := gb163) (o := .cells #[.bool a0_0, .string a0_1, .int .i64 a0_2] 28 (0, 0)) (by (with_reducible repeat (first | refine blk_drewN ?_ _ | refine blk_drew ?_ | refine blk_alloc ?_ _)); exact BK163.out) hb); have n1_ := Aside0.mk (below_step (by repeat (first | (with_reducible first | exact HB.out | apply below_alloc | apply pw_below_drewN | apply below_drew1 | refine below_set ?_ GE163.out) | exact HB.out)) hb); have n2_ := Aside0.mk (hbox); have n3_ := Aside0.mk ((by rw [hg]; exact (below_size (by repeat (first | (with_reducible first | exact HB.out | apply below_alloc | apply pw_below_drewN | apply below_drew1 | refine below_set ?_ GE163.out) | exact HB.out))) : w.heap.size ≤ gb164)); have n4_ := Aside0.mk ((by rw [hg]; exact (below_size (by repeat (first | (with_reducible first | exact HB.out | apply below_alloc | apply pw_below_drewN | apply below_drew1 | refine below_set ?_ GE163.out) | exact HB.out))) : w.heap.size ≤ gb164)); have n5_ := Aside0.mk ((by rw [hg]; exact Nat.ne_of_lt (blk_lt (g := gb163) (o := .cells #[.bool a0_0, .string a0_1, .int .i64 a0_2] 28 (0, 0)) (by (with_reducible repeat (first | refine blk_drewN ?_ _ | refine blk_drew ?_ | refine blk_alloc ?_ _)); exact BK163.out)) : gb163 ≠ gb164)); have n6_ := Aside0.mk ((by rw [hg]; exact Nat.ne_of_gt (blk_lt (g := gb163) (o := .cells #[.bool a0_0, .string a0_1, .int .i64 a0_2] 28 (0, 0)) (by (with_reducible repeat (first | refine blk_drewN ?_ _ | refine blk_drew ?_ | refine blk_alloc ?_ _)); exact BK163.out)) : gb164 ≠ gb163)); clear BK163; clear HB; have BK163 := n0_; have HB := n1_; have BK164 := n2_; have GW164 := n3_; have GE164 := n4_; have NB163_164 := n5_; have NB164_163 := n6_; clear n0_ n1_ n2_ n3_ n4_ n5_ n6_; clear hb hbox hg; have hnb12 := NB163_164.out; have hnc12 := NB164_163.out; have hcz13_0 : w11.cell? ⟨gb163, 0, none⟩ = some (.bool a0_0) := (blk_cell BK163.out 0).trans rfl; have hcz13_1 : w11.cell? ⟨gb163, 1, none⟩ = some (.string a0_1) := (blk_cell BK163.out 1).trans rfl; have hcz13_2 : w11.cell? ⟨gb163, 2, none⟩ = some (.int .i64 a0_2) := (blk_cell BK163.out 2).trans rfl; have hfz13_0 := blk_frozen BK163.out 0; have hfz13_1 := blk_frozen BK163.out 1; have hfz13_2 := blk_frozen BK163.out 2; have hcz14_0 : w11.cell? ⟨gb164, 0, none⟩ = some (.bool a1_0) := (blk_cell BK164.out 0).trans rfl; have hcz14_1 : w11.cell? ⟨gb164, 1, none⟩ = some (.string a1_1) := (blk_cell BK164.out 1).trans rfl; have hcz14_2 : w11.cell? ⟨gb164, 2, none⟩ = some (.int .i64 a1_2) := (blk_cell BK164.out 2).trans rfl; have hfz14_0 := blk_frozen BK164.out 0; have hfz14_1 := blk_frozen BK164.out 1; have hfz14_2 := blk_frozen BK164.out 2) | (go_at_call 37; (with_reducible refine (rubricatorref14_noughts.calls k (wrap64 (a0_2 - (ji3))) t165 _ A4.out).mono ?_); rintro e w' ⟨rfl, ⟨nd, rfl⟩⟩; (try first | exact ⟨rfl, _, World.drewN_drewN _ _ _⟩ | exact ⟨rfl, _, Eq.trans (World.drewN_drewN _ _ _) (congrArg (World.drewN _) (Nat.add_assoc _ _ _))⟩)) | (go_at_call 37; (with_reducible refine (rubricatorref14_noughts.calls k (wrap64 (a1_2 - (ji3))) t166 _ A7.out).mono ?_); rintro e w' ⟨rfl, ⟨nd, rfl⟩⟩; (try first | exact ⟨rfl, _, World.drewN_drewN _ _ _⟩ | exact ⟨rfl, _, Eq.trans (World.drewN_drewN _ _ _) (congrArg (World.drewN _) (Nat.add_assoc _ _ _))⟩))))
      (try simp only [Act.put, List.setIfInBounds_toArray, List.set_cons_zero, List.set_cons_succ])
      go_cut [5] (fun v5 wc => ∃ (kq : Nat) (x5_8 : ByteArray), v5 = .string x5_8 ∧ Aside0 (rubricatorref14_Compare.j0 kq x5_8 (a1_1 ++ t166) a0_0 a0_1 a0_2 a1_0 a1_1 a1_2 = some r) ∧ Aside0 (kq ≤ k) ∧ Aside0 (wc.heap[gb163]? = some (.cells #[.bool a0_0, .string a0_1, .int .i64 a0_2] 28 (0, 0))) ∧ Aside0 (wc.heap[gb164]? = some (.cells #[.bool a1_0, .string a1_1, .int .i64 a1_2] 28 (0, 0))) ∧ Aside0 (Below w.heap.size w wc))
      case first =>
        have H := HC9.out
        clear HC9
        by_cases c15 : a0_1.toList = ([] : List UInt8)
        · rw [if_pos c15] at H
          have c15b0 : (a0_1.toList == ([] : List UInt8)) = true := beq_iff_eq.mpr c15
          have c15b7 : a0_1.toList.isEmpty = true := by rw [← beq_nil_isEmpty]; exact c15b0
          have c15b1 : (a0_1.toList != ([] : List UInt8)) = false := bne_eq_false_iff_eq.mpr c15
          clear c15
          (first | rw [c15b7] | rw [c15b0] | (simp only [i64_w, i32_w]; rw [c15b0]) | skip)
          have H' := Aside0.mk H
          clear H
          go_wp2
          repeat (go_quiet (fail); try go_wp2)
          go_meet
          case rel => exact ⟨_, ((⟨#[]⟩ : ByteArray)), (by first | rfl | (simp; done) | (simp [*]; done) | (simp [wrap64]; done)), (by first | exact H' | (rw [hji3]; exact H')), ⟨by first | omega | exact Nat.le_refl _⟩, ⟨by (with_reducible repeat (first | refine blk_drewN ?_ _ | refine blk_drew ?_ | refine blk_alloc ?_ _)); exact BK163.out⟩, ⟨by (with_reducible repeat (first | refine blk_drewN ?_ _ | refine blk_drew ?_ | refine blk_alloc ?_ _)); exact BK164.out⟩, ⟨by repeat (first | (with_reducible first | exact HB.out | apply below_alloc | apply pw_below_drewN | apply below_drew1 | refine below_set ?_ GE163.out | refine below_set ?_ GE164.out) | exact HB.out)⟩⟩
        · rw [if_neg c15] at H
          have c15b0 : (a0_1.toList == ([] : List UInt8)) = false := beq_eq_false_iff_ne.mpr c15
          have c15b7 : a0_1.toList.isEmpty = false := by rw [← beq_nil_isEmpty]; exact c15b0
          have c15b1 : (a0_1.toList != ([] : List UInt8)) = true := bne_iff_ne.mpr c15
          (first | rw [c15b7] | rw [c15b0] | (simp only [i64_w, i32_w]; rw [c15b0]) | skip)
          have H' := Aside0.mk H
          clear H
          go_wp2
          repeat (go_quiet (fail); try go_wp2)
          go_meet
          case rel => exact ⟨_, (a0_1 ++ t165), (by first | rfl | (simp; done) | (simp [*]; done) | (simp [wrap64]; done)), (by first | exact H' | (rw [hji3]; exact H')), ⟨by first | omega | exact Nat.le_refl _⟩, ⟨by (with_reducible repeat (first | refine blk_drewN ?_ _ | refine blk_drew ?_ | refine blk_alloc ?_ _)); exact BK163.out⟩, ⟨by (with_reducible repeat (first | refine blk_drewN ?_ _ | refine blk_drew ?_ | refine blk_alloc ?_ _)); exact BK164.out⟩, ⟨by repeat (first | (with_reducible first | exact HB.out | apply below_alloc | apply pw_below_drewN | apply below_drew1 | refine below_set ?_ GE163.out | refine below_set ?_ GE164.out) | exact HB.out)⟩⟩
      case rest =>
        clear HC9
        try clear c1
        try clear p2
        try clear c5
        try clear c5b0
        try clear c5b1
        try clear c5b2
        try clear c6
        try clear c6b0
        try clear p6
        try clear c8
        try clear c8b0
        try clear c8b1
        try clear c8b2
        try clear c12
        try clear c15
        try clear c15b0
        try clear c15b1
        try clear hcz13_0
        try clear hcz13_1
        try clear hcz13_2
        try clear hcz14_0
        try clear hcz14_1
        try clear hcz14_2
        try clear hfz13_0
        try clear hfz13_1
        try clear hfz13_2
        try clear hfz14_0
        try clear hfz14_1
        try clear hfz14_2
        obtain ⟨kq, x5_8, rfl, HA, HJ8, BK163, BK164, HB⟩ := hcut
        cases kq with
        | zero => exact absurd HA.out (by simp [rubricatorref14_Compare.j0])
        | succ kj8 =>
          have H := HA.out
          clear HA
          simp only [rubricatorref14_Compare.j0] at H
          have HC16 := Aside0.mk H
          clear H
          have hnb17 := NB164_163.out
          have hnc17 := NB163_164.out
          have hcz18_0 : wc.cell? ⟨gb164, 0, none⟩ = some (.bool a1_0) := (blk_cell BK164.out 0).trans rfl
          have hcz18_1 : wc.cell? ⟨gb164, 1, none⟩ = some (.string a1_1) := (blk_cell BK164.out 1).trans rfl
          have hcz18_2 : wc.cell? ⟨gb164, 2, none⟩ = some (.int .i64 a1_2) := (blk_cell BK164.out 2).trans rfl
          have hfz18_0 := blk_frozen BK164.out 0
          have hfz18_1 := blk_frozen BK164.out 1
          have hfz18_2 := blk_frozen BK164.out 2
          go_upto_if 36 with (fail)
          repeat (go_quiet (fail); go_upto_if 36 with (fail))
          go_cut [6] (fun v6 wc => ∃ (kq : Nat) (x6_15 : ByteArray), v6 = .string x6_15 ∧ Aside0 (rubricatorref14_Compare.j1 kq x5_8 x6_15 a0_0 a0_1 a0_2 a1_0 a1_1 a1_2 = some r) ∧ Aside0 (kq ≤ kj8) ∧ Aside0 (wc.heap[gb163]? = some (.cells #[.bool a0_0, .string a0_1, .int .i64 a0_2] 28 (0, 0))) ∧ Aside0 (wc.heap[gb164]? = some (.cells #[.bool a1_0, .string a1_1, .int .i64 a1_2] 28 (0, 0))) ∧ Aside0 (Below w.heap.size w wc))
          case first =>
            have H := HC16.out
            clear HC16
            by_cases c19 : a1_1.toList = ([] : List UInt8)
            · rw [if_pos c19] at H
              have c19b0 : (a1_1.toList == ([] : List UInt8)) = true := beq_iff_eq.mpr c19
              have c19b7 : a1_1.toList.isEmpty = true := by rw [← beq_nil_isEmpty]; exact c19b0
              have c19b1 : (a1_1.toList != ([] : List UInt8)) = false := bne_eq_false_iff_eq.mpr c19
              clear c19
              (first | rw [c19b7] | rw [c19b0] | (simp only [i64_w, i32_w]; rw [c19b0]) | skip)
              have H' := Aside0.mk H
              clear H
              go_wp2
              repeat (go_quiet (fail); try go_wp2)
              go_meet
              case rel => exact ⟨_, ((⟨#[]⟩ : ByteArray)), (by first | rfl | (simp; done) | (simp [*]; done) | (simp [wrap64]; done)), (by first | exact H' | (rw [hji3]; exact H')), ⟨by have := HJ8.out; first | omega | exact Nat.le_refl _⟩, ⟨by (with_reducible repeat (first | refine blk_drewN ?_ _ | refine blk_drew ?_ | refine blk_alloc ?_ _)); exact BK163.out⟩, ⟨by (with_reducible repeat (first | refine blk_drewN ?_ _ | refine blk_drew ?_ | refine blk_alloc ?_ _)); exact BK164.out⟩, ⟨by repeat (first | (with_reducible first | exact HB.out | apply below_alloc | apply pw_below_drewN | apply below_drew1 | refine below_set ?_ GE163.out | refine below_set ?_ GE164.out) | exact HB.out)⟩⟩
            · rw [if_neg c19] at H
              have c19b0 : (a1_1.toList == ([] : List UInt8)) = false := beq_eq_false_iff_ne.mpr c19
              have c19b7 : a1_1.toList.isEmpty = false := by rw [← beq_nil_isEmpty]; exact c19b0
              have c19b1 : (a1_1.toList != ([] : List UInt8)) = true := bne_iff_ne.mpr c19
              (first | rw [c19b7] | rw [c19b0] | (simp only [i64_w, i32_w]; rw [c19b0]) | skip)
              have H' := Aside0.mk H
              clear H
              go_wp2
              repeat (go_quiet (fail); try go_wp2)
              go_meet
              case rel => exact ⟨_, ((a1_1 ++ t166)), (by first | rfl | (simp; done) | (simp [*]; done) | (simp [wrap64]; done)), (by first | exact H' | (rw [hji3]; exact H')), ⟨by have := HJ8.out; first | omega | exact Nat.le_refl _⟩, ⟨by (with_reducible repeat (first | refine blk_drewN ?_ _ | refine blk_drew ?_ | refine blk_alloc ?_ _)); exact BK163.out⟩, ⟨by (with_reducible repeat (first | refine blk_drewN ?_ _ | refine blk_drew ?_ | refine blk_alloc ?_ _)); exact BK164.out⟩, ⟨by repeat (first | (with_reducible first | exact HB.out | apply below_alloc | apply pw_below_drewN | apply below_drew1 | refine below_set ?_ GE163.out | refine below_set ?_ GE164.out) | exact HB.out)⟩⟩
          case rest =>
            clear HC16
            try clear c1
            try clear p2
            try clear c5
            try clear c5b0
            try clear c5b1
            try clear c5b2
            try clear c6
            try clear c6b0
            try clear p6
            try clear c8
            try clear c8b0
            try clear c8b1
            try clear c8b2
            try clear c12
            try clear c15
            try clear c15b0
            try clear c15b1
            try clear c17
            try clear c19
            try clear c19b0
            try clear c19b1
            try clear hcz13_0
            try clear hcz13_1
            try clear hcz13_2
            try clear hcz14_0
            try clear hcz14_1
            try clear hcz14_2
            try clear hcz18_0
            try clear hcz18_1
            try clear hcz18_2
            try clear hfz13_0
            try clear hfz13_1
            try clear hfz13_2
            try clear hfz14_0
            try clear hfz14_1
            try clear hfz14_2
            try clear hfz18_0
            try clear hfz18_1
            try clear hfz18_2
            try clear p2
            try clear p6
            obtain ⟨kq, x6_15, rfl, HA, HJ15, BK163, BK164, HB⟩ := hcut
            cases kq with
            | zero => exact absurd HA.out (by simp [rubricatorref14_Compare.j1])
            | succ kj15 =>
              have H := HA.out
              clear HA
              simp only [rubricatorref14_Compare.j1] at H
              have HC20 := Aside0.mk H
              clear H
              go_upto_region 7 with (fail)
              repeat (go_quiet (fail); go_upto_region 7 with (fail))
              go_cut [37] (fun v37 wc => ∃ (kq : Nat) (x37_19 : Bool), v37 = .bool x37_19 ∧ Aside0 (rubricatorref14_Compare.j2 kq x5_8 x6_15 x37_19 a0_0 a0_1 a0_2 a1_0 a1_1 a1_2 = some r) ∧ Aside0 (kq ≤ kj15) ∧ Aside0 (wc.heap[gb163]? = some (.cells #[.bool a0_0, .string a0_1, .int .i64 a0_2] 28 (0, 0))) ∧ Aside0 (wc.heap[gb164]? = some (.cells #[.bool a1_0, .string a1_1, .int .i64 a1_2] 28 (0, 0))) ∧ Aside0 (Below w.heap.size w wc))
              case first =>
                have H := HC20.out
                clear HC20
                by_cases c21 : a0_0 = true
                · subst c21
                  have H1 : (if a1_0 = true then ((rubricatorref14_greater.f x5_8 x6_15).bind fun t167 => (rubricatorref14_Compare.j2 kj15 x5_8 x6_15 t167 true a0_1 a0_2 a1_0 a1_1 a1_2)) else (rubricatorref14_Compare.j2 kj15 x5_8 x6_15 false true a0_1 a0_2 a1_0 a1_1 a1_2)) = some r := by rw [if_pos rfl] at H; exact H
                  clear H
                  have H := H1
                  clear H1
                  by_cases c22 : a1_0 = true
                  · subst c22
                    have H1 : ((rubricatorref14_greater.f x5_8 x6_15).bind fun t167 => (rubricatorref14_Compare.j2 kj15 x5_8 x6_15 t167 true a0_1 a0_2 true a1_1 a1_2)) = some r := by rw [if_pos rfl] at H; exact H
                    clear H
                    have H := H1
                    clear H1
                    replace H := Option.bind_eq_some_iff.mp H
                    obtain ⟨t167, A230, H⟩ := H
                    replace H : (rubricatorref14_Compare.j2 kj15 x5_8 x6_15 t167 true a0_1 a0_2 true a1_1 a1_2) = some r := H
                    have A23 := Aside0.mk A230
                    clear A230
                    have H' := Aside0.mk H
                    clear H
                    have hnb24 := NB163_164.out
                    have hnc24 := NB164_163.out
                    have hcz25_0 : wc.cell? ⟨gb163, 0, none⟩ = some (.bool true) := (blk_cell BK163.out 0).trans rfl
                    have hcz25_1 : wc.cell? ⟨gb163, 1, none⟩ = some (.string a0_1) := (blk_cell BK163.out 1).trans rfl
                    have hcz25_2 : wc.cell? ⟨gb163, 2, none⟩ = some (.int .i64 a0_2) := (blk_cell BK163.out 2).trans rfl
                    have hfz25_0 := blk_frozen BK163.out 0
                    have hfz25_1 := blk_frozen BK163.out 1
                    have hfz25_2 := blk_frozen BK163.out 2
                    have hcz26_0 : wc.cell? ⟨gb164, 0, none⟩ = some (.bool true) := (blk_cell BK164.out 0).trans rfl
                    have hcz26_1 : wc.cell? ⟨gb164, 1, none⟩ = some (.string a1_1) := (blk_cell BK164.out 1).trans rfl
                    have hcz26_2 : wc.cell? ⟨gb164, 2, none⟩ = some (.int .i64 a1_2) := (blk_cell BK164.out 2).trans rfl
                    have hfz26_0 := blk_frozen BK164.out 0
                    have hfz26_1 := blk_frozen BK164.out 1
                    have hfz26_2 := blk_frozen BK164.out 2
                    go_wp2_with (first | (go_at_call 38; (with_reducible refine (rubricatorref14_greater.calls x5_8 x6_15 t167 _ A23.out).mono ?_); rintro e w' ⟨rfl, ⟨nd, rfl⟩⟩; (try first | exact ⟨rfl, _, World.drewN_drewN _ _ _⟩ | exact ⟨rfl, _, Eq.trans (World.drewN_drewN _ _ _) (congrArg (World.drewN _) (Nat.add_assoc _ _ _))⟩)))
                    repeat (go_quiet (first | (go_at_call 38; (with_reducible refine (rubricatorref14_greater.calls x5_8 x6_15 t167 _ A23.out).mono ?_); rintro e w' ⟨rfl, ⟨nd, rfl⟩⟩; (try first | exact ⟨rfl, _, World.drewN_drewN _ _ _⟩ | exact ⟨rfl, _, Eq.trans (World.drewN_drewN _ _ _) (congrArg (World.drewN _) (Nat.add_assoc _ _ _))⟩))); try go_wp2_with (first | (go_at_call 38; (with_reducible refine (rubricatorref14_greater.calls x5_8 x6_15 t167 _ A23.out).mono ?_); rintro e w' ⟨rfl, ⟨nd, rfl⟩⟩; (try first | exact ⟨rfl, _, World.drewN_drewN _ _ _⟩ | exact ⟨rfl, _, Eq.trans (World.drewN_drewN _ _ _) (congrArg (World.drewN _) (Nat.add_assoc _ _ _))⟩))))
                    go_meet
                    case rel => exact ⟨_, (t167), (by first | rfl | (simp; done) | (simp [*]; done) | (simp [wrap64]; done)), (by first | exact H' | (rw [hji3]; exact H')), ⟨by have := HJ8.out; have := HJ15.out; first | omega | exact Nat.le_refl _⟩, ⟨by (with_reducible repeat (first | refine blk_drewN ?_ _ | refine blk_drew ?_ | refine blk_alloc ?_ _)); exact BK163.out⟩, ⟨by (with_reducible repeat (first | refine blk_drewN ?_ _ | refine blk_drew ?_ | refine blk_alloc ?_ _)); exact BK164.out⟩, ⟨by repeat (first | (with_reducible first | exact HB.out | apply below_alloc | apply pw_below_drewN | apply below_drew1 | refine below_set ?_ GE163.out | refine below_set ?_ GE164.out) | exact HB.out)⟩⟩
                  · replace c22 := Bool.eq_false_iff.mpr c22
                    subst c22
                    have H1 : (rubricatorref14_Compare.j2 kj15 x5_8 x6_15 false true a0_1 a0_2 false a1_1 a1_2) = some r := by rw [if_neg (show ¬ (false = true) by decide)] at H; exact H
                    clear H
                    have H := H1
                    clear H1
                    have H' := Aside0.mk H
                    clear H
                    have hnb27 := NB163_164.out
                    have hnc27 := NB164_163.out
                    have hcz28_0 : wc.cell? ⟨gb163, 0, none⟩ = some (.bool true) := (blk_cell BK163.out 0).trans rfl
                    have hcz28_1 : wc.cell? ⟨gb163, 1, none⟩ = some (.string a0_1) := (blk_cell BK163.out 1).trans rfl
                    have hcz28_2 : wc.cell? ⟨gb163, 2, none⟩ = some (.int .i64 a0_2) := (blk_cell BK163.out 2).trans rfl
                    have hfz28_0 := blk_frozen BK163.out 0
                    have hfz28_1 := blk_frozen BK163.out 1
                    have hfz28_2 := blk_frozen BK163.out 2
                    have hcz29_0 : wc.cell? ⟨gb164, 0, none⟩ = some (.bool false) := (blk_cell BK164.out 0).trans rfl
                    have hcz29_1 : wc.cell? ⟨gb164, 1, none⟩ = some (.string a1_1) := (blk_cell BK164.out 1).trans rfl
                    have hcz29_2 : wc.cell? ⟨gb164, 2, none⟩ = some (.int .i64 a1_2) := (blk_cell BK164.out 2).trans rfl
                    have hfz29_0 := blk_frozen BK164.out 0
                    have hfz29_1 := blk_frozen BK164.out 1
                    have hfz29_2 := blk_frozen BK164.out 2
                    go_wp2
                    repeat (go_quiet (fail); try go_wp2)
                    go_meet
                    case rel => exact ⟨_, (false), (by first | rfl | (simp; done) | (simp [*]; done) | (simp [wrap64]; done)), (by first | exact H' | (rw [hji3]; exact H')), ⟨by have := HJ8.out; have := HJ15.out; first | omega | exact Nat.le_refl _⟩, ⟨by (with_reducible repeat (first | refine blk_drewN ?_ _ | refine blk_drew ?_ | refine blk_alloc ?_ _)); exact BK163.out⟩, ⟨by (with_reducible repeat (first | refine blk_drewN ?_ _ | refine blk_drew ?_ | refine blk_alloc ?_ _)); exact BK164.out⟩, ⟨by repeat (first | (with_reducible first | exact HB.out | apply below_alloc | apply pw_below_drewN | apply below_drew1 | refine below_set ?_ GE163.out | refine below_set ?_ GE164.out) | exact HB.out)⟩⟩
                · replace c21 := Bool.eq_false_iff.mpr c21
                  subst c21
                  have H1 : (rubricatorref14_Compare.j2 kj15 x5_8 x6_15 false false a0_1 a0_2 a1_0 a1_1 a1_2) = some r := by rw [if_neg (show ¬ (false = true) by decide)] at H; exact H
                  clear H
                  have H := H1
                  clear H1
                  have H' := Aside0.mk H
                  clear H
                  have hnb30 := NB163_164.out
                  have hnc30 := NB164_163.out
                  have hcz31_0 : wc.cell? ⟨gb163, 0, none⟩ = some (.bool false) := (blk_cell BK163.out 0).trans rfl
                  have hcz31_1 : wc.cell? ⟨gb163, 1, none⟩ = some (.string a0_1) := (blk_cell BK163.out 1).trans rfl
                  have hcz31_2 : wc.cell? ⟨gb163, 2, none⟩ = some (.int .i64 a0_2) := (blk_cell BK163.out 2).trans rfl
                  have hfz31_0 := blk_frozen BK163.out 0
                  have hfz31_1 := blk_frozen BK163.out 1
                  have hfz31_2 := blk_frozen BK163.out 2
                  go_wp2
                  repeat (go_quiet (fail); try go_wp2)
                  go_meet
                  case rel => exact ⟨_, (false), (by first | rfl | (simp; done) | (simp [*]; done) | (simp [wrap64]; done)), (by first | exact H' | (rw [hji3]; exact H')), ⟨by have := HJ8.out; have := HJ15.out; first | omega | exact Nat.le_refl _⟩, ⟨by (with_reducible repeat (first | refine blk_drewN ?_ _ | refine blk_drew ?_ | refine blk_alloc ?_ _)); exact BK163.out⟩, ⟨by (with_reducible repeat (first | refine blk_drewN ?_ _ | refine blk_drew ?_ | refine blk_alloc ?_ _)); exact BK164.out⟩, ⟨by repeat (first | (with_reducible first | exact HB.out | apply below_alloc | apply pw_below_drewN | apply below_drew1 | refine below_set ?_ GE163.out | refine below_set ?_ GE164.out) | exact HB.out)⟩⟩
              case rest =>
                clear HC20
                try clear c1
                try clear c2
                try clear p2
                try clear c3
                try clear c5
                try clear c5b0
                try clear c5b1
                try clear c5b2
                try clear c6
                try clear c6b0
                try clear p6
                try clear c8
                try clear c8b0
                try clear c8b1
                try clear c8b2
                try clear c12
                try clear c15
                try clear c15b0
                try clear c15b1
                try clear c17
                try clear c19
                try clear c19b0
                try clear c19b1
                try clear c21
                try clear c22
                try clear c24
                try clear c27
                try clear c30
                try clear hcz13_0
                try clear hcz13_1
                try clear hcz13_2
                try clear hcz14_0
                try clear hcz14_1
                try clear hcz14_2
                try clear hcz18_0
                try clear hcz18_1
                try clear hcz18_2
                try clear hcz25_0
                try clear hcz25_1
                try clear hcz25_2
                try clear hcz26_0
                try clear hcz26_1
                try clear hcz26_2
                try clear hcz28_0
                try clear hcz28_1
                try clear hcz28_2
                try clear hcz29_0
                try clear hcz29_1
                try clear hcz29_2
                try clear hcz31_0
                try clear hcz31_1
                try clear hcz31_2
                try clear hfz13_0
                try clear hfz13_1
                try clear hfz13_2
                try clear hfz14_0
                try clear hfz14_1
                try clear hfz14_2
                try clear hfz18_0
                try clear hfz18_1
                try clear hfz18_2
                try clear hfz25_0
                try clear hfz25_1
                try clear hfz25_2
                try clear hfz26_0
                try clear hfz26_1
                try clear hfz26_2
                try clear hfz28_0
                try clear hfz28_1
                try clear hfz28_2
                try clear hfz29_0
                try clear hfz29_1
                try clear hfz29_2
                try clear hfz31_0
                try clear hfz31_1
                try clear hfz31_2
                try clear p2
                try clear p6
                obtain ⟨kq, x37_19, rfl, HA, HJ19, BK163, BK164, HB⟩ := hcut
                cases kq with
                | zero => exact absurd HA.out (by simp [rubricatorref14_Compare.j2])
                | succ kj19 =>
                  have H := HA.out
                  clear HA
                  simp only [rubricatorref14_Compare.j2] at H
                  by_cases c32 : x37_19 = true
                  · subst c32
                    have H1 : (some (-1)) = some r := by rw [if_pos rfl] at H; exact H
                    clear H
                    have H := H1
                    clear H1
                    obtain rfl := Option.some.inj H
                    go_wp2
                    repeat (go_quiet (fail); try go_wp2)
                    go_ret
                    try simp only [beq_nil_isEmpty, bytesLess_gtr]
                    exact ⟨by first | rfl | (simp [errW_none, errW_some] <;> rfl) | (simp only [← hji3]; first | rfl | (simp [errW_none, errW_some] <;> rfl)) | (simp [*, errW_none, errW_some] <;> rfl), by repeat (first | (with_reducible first | exact HB.out | apply below_alloc | apply pw_below_drewN | apply below_drew1 | refine below_set ?_ GE163.out | refine below_set ?_ GE164.out) | exact HB.out)⟩
                  · replace c32 := Bool.eq_false_iff.mpr c32
                    subst c32
                    have H1 : (if a0_0 = true then (if a1_0 = true then ((rubricatorref14_greater.f x6_15 x5_8).bind fun t168 => (rubricatorref14_Compare.j3 kj19 x5_8 x6_15 t168 a0_0 a0_1 a0_2 a1_0 a1_1 a1_2)) else (rubricatorref14_Compare.j3 kj19 x5_8 x6_15 false a0_0 a0_1 a0_2 a1_0 a1_1 a1_2)) else (rubricatorref14_Compare.j3 kj19 x5_8 x6_15 false a0_0 a0_1 a0_2 a1_0 a1_1 a1_2)) = some r := by rw [if_neg (show ¬ (false = true) by decide)] at H; exact H
                    clear H
                    have H := H1
                    clear H1
                    have HC33 := Aside0.mk H
                    clear H
                    go_upto_region 9 with (fail)
                    repeat (go_quiet (fail); go_upto_region 9 with (fail))
                    go_cut [49] (fun v49 wc => ∃ (kq : Nat) (x49_32 : Bool), v49 = .bool x49_32 ∧ Aside0 (rubricatorref14_Compare.j3 kq x5_8 x6_15 x49_32 a0_0 a0_1 a0_2 a1_0 a1_1 a1_2 = some r) ∧ Aside0 (kq ≤ kj19) ∧ Aside0 (wc.heap[gb163]? = some (.cells #[.bool a0_0, .string a0_1, .int .i64 a0_2] 28 (0, 0))) ∧ Aside0 (wc.heap[gb164]? = some (.cells #[.bool a1_0, .string a1_1, .int .i64 a1_2] 28 (0, 0))) ∧ Aside0 (Below w.heap.size w wc))
                    case first =>
                      have H := HC33.out
                      clear HC33
                      by_cases c34 : a0_0 = true
                      · subst c34
                        have H1 : (if a1_0 = true then ((rubricatorref14_greater.f x6_15 x5_8).bind fun t168 => (rubricatorref14_Compare.j3 kj19 x5_8 x6_15 t168 true a0_1 a0_2 a1_0 a1_1 a1_2)) else (rubricatorref14_Compare.j3 kj19 x5_8 x6_15 false true a0_1 a0_2 a1_0 a1_1 a1_2)) = some r := by rw [if_pos rfl] at H; exact H
                        clear H
                        have H := H1
                        clear H1
                        by_cases c35 : a1_0 = true
                        · subst c35
                          have H1 : ((rubricatorref14_greater.f x6_15 x5_8).bind fun t168 => (rubricatorref14_Compare.j3 kj19 x5_8 x6_15 t168 true a0_1 a0_2 true a1_1 a1_2)) = some r := by rw [if_pos rfl] at H; exact H
                          clear H
                          have H := H1
                          clear H1
                          replace H := Option.bind_eq_some_iff.mp H
                          obtain ⟨t168, A360, H⟩ := H
                          replace H : (rubricatorref14_Compare.j3 kj19 x5_8 x6_15 t168 true a0_1 a0_2 true a1_1 a1_2) = some r := H
                          have A36 := Aside0.mk A360
                          clear A360
                          have H' := Aside0.mk H
                          clear H
                          have hnb37 := NB163_164.out
                          have hnc37 := NB164_163.out
                          have hcz38_0 : wc.cell? ⟨gb163, 0, none⟩ = some (.bool true) := (blk_cell BK163.out 0).trans rfl
                          have hcz38_1 : wc.cell? ⟨gb163, 1, none⟩ = some (.string a0_1) := (blk_cell BK163.out 1).trans rfl
                          have hcz38_2 : wc.cell? ⟨gb163, 2, none⟩ = some (.int .i64 a0_2) := (blk_cell BK163.out 2).trans rfl
                          have hfz38_0 := blk_frozen BK163.out 0
                          have hfz38_1 := blk_frozen BK163.out 1
                          have hfz38_2 := blk_frozen BK163.out 2
                          have hcz39_0 : wc.cell? ⟨gb164, 0, none⟩ = some (.bool true) := (blk_cell BK164.out 0).trans rfl
                          have hcz39_1 : wc.cell? ⟨gb164, 1, none⟩ = some (.string a1_1) := (blk_cell BK164.out 1).trans rfl
                          have hcz39_2 : wc.cell? ⟨gb164, 2, none⟩ = some (.int .i64 a1_2) := (blk_cell BK164.out 2).trans rfl
                          have hfz39_0 := blk_frozen BK164.out 0
                          have hfz39_1 := blk_frozen BK164.out 1
                          have hfz39_2 := blk_frozen BK164.out 2
                          go_wp2_with (first | (go_at_call 38; (with_reducible refine (rubricatorref14_greater.calls x6_15 x5_8 t168 _ A36.out).mono ?_); rintro e w' ⟨rfl, ⟨nd, rfl⟩⟩; (try first | exact ⟨rfl, _, World.drewN_drewN _ _ _⟩ | exact ⟨rfl, _, Eq.trans (World.drewN_drewN _ _ _) (congrArg (World.drewN _) (Nat.add_assoc _ _ _))⟩)))
                          repeat (go_quiet (first | (go_at_call 38; (with_reducible refine (rubricatorref14_greater.calls x6_15 x5_8 t168 _ A36.out).mono ?_); rintro e w' ⟨rfl, ⟨nd, rfl⟩⟩; (try first | exact ⟨rfl, _, World.drewN_drewN _ _ _⟩ | exact ⟨rfl, _, Eq.trans (World.drewN_drewN _ _ _) (congrArg (World.drewN _) (Nat.add_assoc _ _ _))⟩))); try go_wp2_with (first | (go_at_call 38; (with_reducible refine (rubricatorref14_greater.calls x6_15 x5_8 t168 _ A36.out).mono ?_); rintro e w' ⟨rfl, ⟨nd, rfl⟩⟩; (try first | exact ⟨rfl, _, World.drewN_drewN _ _ _⟩ | exact ⟨rfl, _, Eq.trans (World.drewN_drewN _ _ _) (congrArg (World.drewN _) (Nat.add_assoc _ _ _))⟩))))
                          go_meet
                          case rel => exact ⟨_, (t168), (by first | rfl | (simp; done) | (simp [*]; done) | (simp [wrap64]; done)), (by first | exact H' | (rw [hji3]; exact H')), ⟨by have := HJ8.out; have := HJ15.out; have := HJ19.out; first | omega | exact Nat.le_refl _⟩, ⟨by (with_reducible repeat (first | refine blk_drewN ?_ _ | refine blk_drew ?_ | refine blk_alloc ?_ _)); exact BK163.out⟩, ⟨by (with_reducible repeat (first | refine blk_drewN ?_ _ | refine blk_drew ?_ | refine blk_alloc ?_ _)); exact BK164.out⟩, ⟨by repeat (first | (with_reducible first | exact HB.out | apply below_alloc | apply pw_below_drewN | apply below_drew1 | refine below_set ?_ GE163.out | refine below_set ?_ GE164.out) | exact HB.out)⟩⟩
                        · replace c35 := Bool.eq_false_iff.mpr c35
                          subst c35
                          have H1 : (rubricatorref14_Compare.j3 kj19 x5_8 x6_15 false true a0_1 a0_2 false a1_1 a1_2) = some r := by rw [if_neg (show ¬ (false = true) by decide)] at H; exact H
                          clear H
                          have H := H1
                          clear H1
                          have H' := Aside0.mk H
                          clear H
                          have hnb40 := NB163_164.out
                          have hnc40 := NB164_163.out
                          have hcz41_0 : wc.cell? ⟨gb163, 0, none⟩ = some (.bool true) := (blk_cell BK163.out 0).trans rfl
                          have hcz41_1 : wc.cell? ⟨gb163, 1, none⟩ = some (.string a0_1) := (blk_cell BK163.out 1).trans rfl
                          have hcz41_2 : wc.cell? ⟨gb163, 2, none⟩ = some (.int .i64 a0_2) := (blk_cell BK163.out 2).trans rfl
                          have hfz41_0 := blk_frozen BK163.out 0
                          have hfz41_1 := blk_frozen BK163.out 1
                          have hfz41_2 := blk_frozen BK163.out 2
                          have hcz42_0 : wc.cell? ⟨gb164, 0, none⟩ = some (.bool false) := (blk_cell BK164.out 0).trans rfl
                          have hcz42_1 : wc.cell? ⟨gb164, 1, none⟩ = some (.string a1_1) := (blk_cell BK164.out 1).trans rfl
                          have hcz42_2 : wc.cell? ⟨gb164, 2, none⟩ = some (.int .i64 a1_2) := (blk_cell BK164.out 2).trans rfl
                          have hfz42_0 := blk_frozen BK164.out 0
                          have hfz42_1 := blk_frozen BK164.out 1
                          have hfz42_2 := blk_frozen BK164.out 2
                          go_wp2
                          repeat (go_quiet (fail); try go_wp2)
                          go_meet
                          case rel => exact ⟨_, (false), (by first | rfl | (simp; done) | (simp [*]; done) | (simp [wrap64]; done)), (by first | exact H' | (rw [hji3]; exact H')), ⟨by have := HJ8.out; have := HJ15.out; have := HJ19.out; first | omega | exact Nat.le_refl _⟩, ⟨by (with_reducible repeat (first | refine blk_drewN ?_ _ | refine blk_drew ?_ | refine blk_alloc ?_ _)); exact BK163.out⟩, ⟨by (with_reducible repeat (first | refine blk_drewN ?_ _ | refine blk_drew ?_ | refine blk_alloc ?_ _)); exact BK164.out⟩, ⟨by repeat (first | (with_reducible first | exact HB.out | apply below_alloc | apply pw_below_drewN | apply below_drew1 | refine below_set ?_ GE163.out | refine below_set ?_ GE164.out) | exact HB.out)⟩⟩
                      · replace c34 := Bool.eq_false_iff.mpr c34
                        subst c34
                        have H1 : (rubricatorref14_Compare.j3 kj19 x5_8 x6_15 false false a0_1 a0_2 a1_0 a1_1 a1_2) = some r := by rw [if_neg (show ¬ (false = true) by decide)] at H; exact H
                        clear H
                        have H := H1
                        clear H1
                        have H' := Aside0.mk H
                        clear H
                        have hnb43 := NB163_164.out
                        have hnc43 := NB164_163.out
                        have hcz44_0 : wc.cell? ⟨gb163, 0, none⟩ = some (.bool false) := (blk_cell BK163.out 0).trans rfl
                        have hcz44_1 : wc.cell? ⟨gb163, 1, none⟩ = some (.string a0_1) := (blk_cell BK163.out 1).trans rfl
                        have hcz44_2 : wc.cell? ⟨gb163, 2, none⟩ = some (.int .i64 a0_2) := (blk_cell BK163.out 2).trans rfl
                        have hfz44_0 := blk_frozen BK163.out 0
                        have hfz44_1 := blk_frozen BK163.out 1
                        have hfz44_2 := blk_frozen BK163.out 2
                        go_wp2
                        repeat (go_quiet (fail); try go_wp2)
                        go_meet
                        case rel => exact ⟨_, (false), (by first | rfl | (simp; done) | (simp [*]; done) | (simp [wrap64]; done)), (by first | exact H' | (rw [hji3]; exact H')), ⟨by have := HJ8.out; have := HJ15.out; have := HJ19.out; first | omega | exact Nat.le_refl _⟩, ⟨by (with_reducible repeat (first | refine blk_drewN ?_ _ | refine blk_drew ?_ | refine blk_alloc ?_ _)); exact BK163.out⟩, ⟨by (with_reducible repeat (first | refine blk_drewN ?_ _ | refine blk_drew ?_ | refine blk_alloc ?_ _)); exact BK164.out⟩, ⟨by repeat (first | (with_reducible first | exact HB.out | apply below_alloc | apply pw_below_drewN | apply below_drew1 | refine below_set ?_ GE163.out | refine below_set ?_ GE164.out) | exact HB.out)⟩⟩
                    case rest =>
                      clear HC33
                      try clear c1
                      try clear c2
                      try clear p2
                      try clear c3
                      try clear c4
                      try clear c5
                      try clear c5b0
                      try clear c5b1
                      try clear c5b2
                      try clear c6
                      try clear c6b0
                      try clear p6
                      try clear c8
                      try clear c8b0
                      try clear c8b1
                      try clear c8b2
                      try clear c12
                      try clear c15
                      try clear c15b0
                      try clear c15b1
                      try clear c17
                      try clear c19
                      try clear c19b0
                      try clear c19b1
                      try clear c21
                      try clear c22
                      try clear c24
                      try clear c27
                      try clear c30
                      try clear c32
                      try clear c34
                      try clear c35
                      try clear c37
                      try clear c40
                      try clear c43
                      try clear hcz13_0
                      try clear hcz13_1
                      try clear hcz13_2
                      try clear hcz14_0
                      try clear hcz14_1
                      try clear hcz14_2
                      try clear hcz18_0
                      try clear hcz18_1
                      try clear hcz18_2
                      try clear hcz25_0
                      try clear hcz25_1
                      try clear hcz25_2
                      try clear hcz26_0
                      try clear hcz26_1
                      try clear hcz26_2
                      try clear hcz28_0
                      try clear hcz28_1
                      try clear hcz28_2
                      try clear hcz29_0
                      try clear hcz29_1
                      try clear hcz29_2
                      try clear hcz31_0
                      try clear hcz31_1
                      try clear hcz31_2
                      try clear hcz38_0
                      try clear hcz38_1
                      try clear hcz38_2
                      try clear hcz39_0
                      try clear hcz39_1
                      try clear hcz39_2
                      try clear hcz41_0
                      try clear hcz41_1
                      try clear hcz41_2
                      try clear hcz42_0
                      try clear hcz42_1
                      try clear hcz42_2
                      try clear hcz44_0
                      try clear hcz44_1
                      try clear hcz44_2
                      try clear hfz13_0
                      try clear hfz13_1
                      try clear hfz13_2
                      try clear hfz14_0
                      try clear hfz14_1
                      try clear hfz14_2
                      try clear hfz18_0
                      try clear hfz18_1
                      try clear hfz18_2
                      try clear hfz25_0
                      try clear hfz25_1
                      try clear hfz25_2
                      try clear hfz26_0
                      try clear hfz26_1
                      try clear hfz26_2
                      try clear hfz28_0
                      try clear hfz28_1
                      try clear hfz28_2
                      try clear hfz29_0
                      try clear hfz29_1
                      try clear hfz29_2
                      try clear hfz31_0
                      try clear hfz31_1
                      try clear hfz31_2
                      try clear hfz38_0
                      try clear hfz38_1
                      try clear hfz38_2
                      try clear hfz39_0
                      try clear hfz39_1
                      try clear hfz39_2
                      try clear hfz41_0
                      try clear hfz41_1
                      try clear hfz41_2
                      try clear hfz42_0
                      try clear hfz42_1
                      try clear hfz42_2
                      try clear hfz44_0
                      try clear hfz44_1
                      try clear hfz44_2
                      try clear p2
                      try clear p6
                      obtain ⟨kq, x49_32, rfl, HA, HJ32, BK163, BK164, HB⟩ := hcut
                      cases kq with
                      | zero => exact absurd HA.out (by simp [rubricatorref14_Compare.j3])
                      | succ kj32 =>
                        have H := HA.out
                        clear HA
                        simp only [rubricatorref14_Compare.j3] at H
                        by_cases c45 : x49_32 = true
                        · subst c45
                          have H1 : (some 1) = some r := by rw [if_pos rfl] at H; exact H
                          clear H
                          have H := H1
                          clear H1
                          obtain rfl := Option.some.inj H
                          go_wp2
                          repeat (go_quiet (fail); try go_wp2)
                          go_ret
                          try simp only [beq_nil_isEmpty, bytesLess_gtr]
                          exact ⟨by first | rfl | (simp [errW_none, errW_some] <;> rfl) | (simp only [← hji3]; first | rfl | (simp [errW_none, errW_some] <;> rfl)) | (simp [*, errW_none, errW_some] <;> rfl), by repeat (first | (with_reducible first | exact HB.out | apply below_alloc | apply pw_below_drewN | apply below_drew1 | refine below_set ?_ GE163.out | refine below_set ?_ GE164.out) | exact HB.out)⟩
                        · replace c45 := Bool.eq_false_iff.mpr c45
                          subst c45
                          have H1 : (if a0_0 = true then (rubricatorref14_Compare.j4 kj32 x5_8 x6_15 a1_0 a0_0 a0_1 a0_2 a1_0 a1_1 a1_2) else (rubricatorref14_Compare.j4 kj32 x5_8 x6_15 false a0_0 a0_1 a0_2 a1_0 a1_1 a1_2)) = some r := by rw [if_neg (show ¬ (false = true) by decide)] at H; exact H
                          clear H
                          have H := H1
                          clear H1
                          have HC46 := Aside0.mk H
                          clear H
                          go_upto_region 11 with (fail)
                          repeat (go_quiet (fail); go_upto_region 11 with (fail))
                          go_cut [61] (fun v61 wc => ∃ (kq : Nat) (x61_45 : Bool), v61 = .bool x61_45 ∧ Aside0 (rubricatorref14_Compare.j4 kq x5_8 x6_15 x61_45 a0_0 a0_1 a0_2 a1_0 a1_1 a1_2 = some r) ∧ Aside0 (kq ≤ kj32) ∧ Aside0 (wc.heap[gb163]? = some (.cells #[.bool a0_0, .string a0_1, .int .i64 a0_2] 28 (0, 0))) ∧ Aside0 (wc.heap[gb164]? = some (.cells #[.bool a1_0, .string a1_1, .int .i64 a1_2] 28 (0, 0))) ∧ Aside0 (Below w.heap.size w wc))
                          case first =>
                            have H := HC46.out
                            clear HC46
                            by_cases c47 : a0_0 = true
                            · subst c47
                              have H1 : (rubricatorref14_Compare.j4 kj32 x5_8 x6_15 a1_0 true a0_1 a0_2 a1_0 a1_1 a1_2) = some r := by rw [if_pos rfl] at H; exact H
                              clear H
                              have H := H1
                              clear H1
                              have H' := Aside0.mk H
                              clear H
                              have hnb48 := NB163_164.out
                              have hnc48 := NB164_163.out
                              have hcz49_0 : wc.cell? ⟨gb163, 0, none⟩ = some (.bool true) := (blk_cell BK163.out 0).trans rfl
                              have hcz49_1 : wc.cell? ⟨gb163, 1, none⟩ = some (.string a0_1) := (blk_cell BK163.out 1).trans rfl
                              have hcz49_2 : wc.cell? ⟨gb163, 2, none⟩ = some (.int .i64 a0_2) := (blk_cell BK163.out 2).trans rfl
                              have hfz49_0 := blk_frozen BK163.out 0
                              have hfz49_1 := blk_frozen BK163.out 1
                              have hfz49_2 := blk_frozen BK163.out 2
                              have hcz50_0 : wc.cell? ⟨gb164, 0, none⟩ = some (.bool a1_0) := (blk_cell BK164.out 0).trans rfl
                              have hcz50_1 : wc.cell? ⟨gb164, 1, none⟩ = some (.string a1_1) := (blk_cell BK164.out 1).trans rfl
                              have hcz50_2 : wc.cell? ⟨gb164, 2, none⟩ = some (.int .i64 a1_2) := (blk_cell BK164.out 2).trans rfl
                              have hfz50_0 := blk_frozen BK164.out 0
                              have hfz50_1 := blk_frozen BK164.out 1
                              have hfz50_2 := blk_frozen BK164.out 2
                              go_wp2
                              repeat (go_quiet (fail); try go_wp2)
                              go_meet
                              case rel => exact ⟨_, (a1_0), (by first | rfl | (simp; done) | (simp [*]; done) | (simp [wrap64]; done)), (by first | exact H' | (rw [hji3]; exact H')), ⟨by have := HJ8.out; have := HJ15.out; have := HJ19.out; have := HJ32.out; first | omega | exact Nat.le_refl _⟩, ⟨by (with_reducible repeat (first | refine blk_drewN ?_ _ | refine blk_drew ?_ | refine blk_alloc ?_ _)); exact BK163.out⟩, ⟨by (with_reducible repeat (first | refine blk_drewN ?_ _ | refine blk_drew ?_ | refine blk_alloc ?_ _)); exact BK164.out⟩, ⟨by repeat (first | (with_reducible first | exact HB.out | apply below_alloc | apply pw_below_drewN | apply below_drew1 | refine below_set ?_ GE163.out | refine below_set ?_ GE164.out) | exact HB.out)⟩⟩
                            · replace c47 := Bool.eq_false_iff.mpr c47
                              subst c47
                              have H1 : (rubricatorref14_Compare.j4 kj32 x5_8 x6_15 false false a0_1 a0_2 a1_0 a1_1 a1_2) = some r := by rw [if_neg (show ¬ (false = true) by decide)] at H; exact H
                              clear H
                              have H := H1
                              clear H1
                              have H' := Aside0.mk H
                              clear H
                              have hnb51 := NB163_164.out
                              have hnc51 := NB164_163.out
                              have hcz52_0 : wc.cell? ⟨gb163, 0, none⟩ = some (.bool false) := (blk_cell BK163.out 0).trans rfl
                              have hcz52_1 : wc.cell? ⟨gb163, 1, none⟩ = some (.string a0_1) := (blk_cell BK163.out 1).trans rfl
                              have hcz52_2 : wc.cell? ⟨gb163, 2, none⟩ = some (.int .i64 a0_2) := (blk_cell BK163.out 2).trans rfl
                              have hfz52_0 := blk_frozen BK163.out 0
                              have hfz52_1 := blk_frozen BK163.out 1
                              have hfz52_2 := blk_frozen BK163.out 2
                              go_wp2
                              repeat (go_quiet (fail); try go_wp2)
                              go_meet
                              case rel => exact ⟨_, (false), (by first | rfl | (simp; done) | (simp [*]; done) | (simp [wrap64]; done)), (by first | exact H' | (rw [hji3]; exact H')), ⟨by have := HJ8.out; have := HJ15.out; have := HJ19.out; have := HJ32.out; first | omega | exact Nat.le_refl _⟩, ⟨by (with_reducible repeat (first | refine blk_drewN ?_ _ | refine blk_drew ?_ | refine blk_alloc ?_ _)); exact BK163.out⟩, ⟨by (with_reducible repeat (first | refine blk_drewN ?_ _ | refine blk_drew ?_ | refine blk_alloc ?_ _)); exact BK164.out⟩, ⟨by repeat (first | (with_reducible first | exact HB.out | apply below_alloc | apply pw_below_drewN | apply below_drew1 | refine below_set ?_ GE163.out | refine below_set ?_ GE164.out) | exact HB.out)⟩⟩
                          case rest =>
                            clear HC46
                            try clear c1
                            try clear c2
                            try clear p2
                            try clear c3
                            try clear c4
                            try clear c5
                            try clear c5b0
                            try clear c5b1
                            try clear c5b2
                            try clear c6
                            try clear c6b0
                            try clear p6
                            try clear c8
                            try clear c8b0
                            try clear c8b1
                            try clear c8b2
                            try clear c12
                            try clear c15
                            try clear c15b0
                            try clear c15b1
                            try clear c17
                            try clear c19
                            try clear c19b0
                            try clear c19b1
                            try clear c21
                            try clear c22
                            try clear c24
                            try clear c27
                            try clear c30
                            try clear c32
                            try clear c34
                            try clear c35
                            try clear c37
                            try clear c40
                            try clear c43
                            try clear c45
                            try clear c47
                            try clear c48
                            try clear c51
                            try clear hcz13_0
                            try clear hcz13_1
                            try clear hcz13_2
                            try clear hcz14_0
                            try clear hcz14_1
                            try clear hcz14_2
                            try clear hcz18_0
                            try clear hcz18_1
                            try clear hcz18_2
                            try clear hcz25_0
                            try clear hcz25_1
                            try clear hcz25_2
                            try clear hcz26_0
                            try clear hcz26_1
                            try clear hcz26_2
                            try clear hcz28_0
                            try clear hcz28_1
                            try clear hcz28_2
                            try clear hcz29_0
                            try clear hcz29_1
                            try clear hcz29_2
                            try clear hcz31_0
                            try clear hcz31_1
                            try clear hcz31_2
                            try clear hcz38_0
                            try clear hcz38_1
                            try clear hcz38_2
                            try clear hcz39_0
                            try clear hcz39_1
                            try clear hcz39_2
                            try clear hcz41_0
                            try clear hcz41_1
                            try clear hcz41_2
                            try clear hcz42_0
                            try clear hcz42_1
                            try clear hcz42_2
                            try clear hcz44_0
                            try clear hcz44_1
                            try clear hcz44_2
                            try clear hcz49_0
                            try clear hcz49_1
                            try clear hcz49_2
                            try clear hcz50_0
                            try clear hcz50_1
                            try clear hcz50_2
                            try clear hcz52_0
                            try clear hcz52_1
                            try clear hcz52_2
                            try clear hfz13_0
                            try clear hfz13_1
                            try clear hfz13_2
                            try clear hfz14_0
                            try clear hfz14_1
                            try clear hfz14_2
                            try clear hfz18_0
                            try clear hfz18_1
                            try clear hfz18_2
                            try clear hfz25_0
                            try clear hfz25_1
                            try clear hfz25_2
                            try clear hfz26_0
                            try clear hfz26_1
                            try clear hfz26_2
                            try clear hfz28_0
                            try clear hfz28_1
                            try clear hfz28_2
                            try clear hfz29_0
                            try clear hfz29_1
                            try clear hfz29_2
                            try clear hfz31_0
                            try clear hfz31_1
                            try clear hfz31_2
                            try clear hfz38_0
                            try clear hfz38_1
                            try clear hfz38_2
                            try clear hfz39_0
                            try clear hfz39_1
                            try clear hfz39_2
                            try clear hfz41_0
                            try clear hfz41_1
                            try clear hfz41_2
                            try clear hfz42_0
                            try clear hfz42_1
                            try clear hfz42_2
                            try clear hfz44_0
                            try clear hfz44_1
                            try clear hfz44_2
                            try clear hfz49_0
                            try clear hfz49_1
                            try clear hfz49_2
                            try clear hfz50_0
                            try clear hfz50_1
                            try clear hfz50_2
                            try clear hfz52_0
                            try clear hfz52_1
                            try clear hfz52_2
                            try clear p2
                            try clear p6
                            obtain ⟨kq, x61_45, rfl, HA, HJ45, BK163, BK164, HB⟩ := hcut
                            cases kq with
                            | zero => exact absurd HA.out (by simp [rubricatorref14_Compare.j4])
                            | succ kj45 =>
                              have H := HA.out
                              clear HA
                              simp only [rubricatorref14_Compare.j4] at H
                              by_cases c53 : x61_45 = true
                              · subst c53
                                have H1 : (some 0) = some r := by rw [if_pos rfl] at H; exact H
                                clear H
                                have H := H1
                                clear H1
                                obtain rfl := Option.some.inj H
                                go_wp2
                                repeat (go_quiet (fail); try go_wp2)
                                go_ret
                                try simp only [beq_nil_isEmpty, bytesLess_gtr]
                                exact ⟨by first | rfl | (simp [errW_none, errW_some] <;> rfl) | (simp only [← hji3]; first | rfl | (simp [errW_none, errW_some] <;> rfl)) | (simp [*, errW_none, errW_some] <;> rfl), by repeat (first | (with_reducible first | exact HB.out | apply below_alloc | apply pw_below_drewN | apply below_drew1 | refine below_set ?_ GE163.out | refine below_set ?_ GE164.out) | exact HB.out)⟩
                              · replace c53 := Bool.eq_false_iff.mpr c53
                                subst c53
                                have H1 : (if a0_0 = true then (some (-1)) else (if a1_0 = true then (rubricatorref14_Compare.j5 kj45 x5_8 x6_15 true) else ((rubricatorref14_greater.f x5_8 x6_15).bind fun t169 => (rubricatorref14_Compare.j5 kj45 x5_8 x6_15 t169)))) = some r := by rw [if_neg (show ¬ (false = true) by decide)] at H; exact H
                                clear H
                                have H := H1
                                clear H1
                                by_cases c54 : a0_0 = true
                                · subst c54
                                  have H1 : (some (-1)) = some r := by rw [if_pos rfl] at H; exact H
                                  clear H
                                  have H := H1
                                  clear H1
                                  obtain rfl := Option.some.inj H
                                  have hnb55 := NB163_164.out
                                  have hnc55 := NB164_163.out
                                  have hcz56_0 : wc.cell? ⟨gb163, 0, none⟩ = some (.bool true) := (blk_cell BK163.out 0).trans rfl
                                  have hcz56_1 : wc.cell? ⟨gb163, 1, none⟩ = some (.string a0_1) := (blk_cell BK163.out 1).trans rfl
                                  have hcz56_2 : wc.cell? ⟨gb163, 2, none⟩ = some (.int .i64 a0_2) := (blk_cell BK163.out 2).trans rfl
                                  have hfz56_0 := blk_frozen BK163.out 0
                                  have hfz56_1 := blk_frozen BK163.out 1
                                  have hfz56_2 := blk_frozen BK163.out 2
                                  go_wp2
                                  repeat (go_quiet (fail); try go_wp2)
                                  go_ret
                                  try simp only [beq_nil_isEmpty, bytesLess_gtr]
                                  exact ⟨by first | rfl | (simp [errW_none, errW_some] <;> rfl) | (simp only [← hji3]; first | rfl | (simp [errW_none, errW_some] <;> rfl)) | (simp [*, errW_none, errW_some] <;> rfl), by repeat (first | (with_reducible first | exact HB.out | apply below_alloc | apply pw_below_drewN | apply below_drew1 | refine below_set ?_ GE163.out | refine below_set ?_ GE164.out) | exact HB.out)⟩
                                · replace c54 := Bool.eq_false_iff.mpr c54
                                  subst c54
                                  have H1 : (if a1_0 = true then (rubricatorref14_Compare.j5 kj45 x5_8 x6_15 true) else ((rubricatorref14_greater.f x5_8 x6_15).bind fun t169 => (rubricatorref14_Compare.j5 kj45 x5_8 x6_15 t169))) = some r := by rw [if_neg (show ¬ (false = true) by decide)] at H; exact H
                                  clear H
                                  have H := H1
                                  clear H1
                                  have HC57 := Aside0.mk H
                                  clear H
                                  have hnb58 := NB163_164.out
                                  have hnc58 := NB164_163.out
                                  have hcz59_0 : wc.cell? ⟨gb163, 0, none⟩ = some (.bool false) := (blk_cell BK163.out 0).trans rfl
                                  have hcz59_1 : wc.cell? ⟨gb163, 1, none⟩ = some (.string a0_1) := (blk_cell BK163.out 1).trans rfl
                                  have hcz59_2 : wc.cell? ⟨gb163, 2, none⟩ = some (.int .i64 a0_2) := (blk_cell BK163.out 2).trans rfl
                                  have hfz59_0 := blk_frozen BK163.out 0
                                  have hfz59_1 := blk_frozen BK163.out 1
                                  have hfz59_2 := blk_frozen BK163.out 2
                                  go_upto_region 15 with (fail)
                                  repeat (go_quiet (fail); go_upto_region 15 with (fail))
                                  go_cut [71] (fun v71 wc => ∃ (kq : Nat) (x71_56 : Bool), v71 = .bool x71_56 ∧ Aside0 (rubricatorref14_Compare.j5 kq x5_8 x6_15 x71_56 = some r) ∧ Aside0 (kq ≤ kj45) ∧ Aside0 (wc.heap[gb163]? = some (.cells #[.bool false, .string a0_1, .int .i64 a0_2] 28 (0, 0))) ∧ Aside0 (wc.heap[gb164]? = some (.cells #[.bool a1_0, .string a1_1, .int .i64 a1_2] 28 (0, 0))) ∧ Aside0 (Below w.heap.size w wc))
                                  case first =>
                                    have H := HC57.out
                                    clear HC57
                                    by_cases c60 : a1_0 = true
                                    · subst c60
                                      have H1 : (rubricatorref14_Compare.j5 kj45 x5_8 x6_15 true) = some r := by rw [if_pos rfl] at H; exact H
                                      clear H
                                      have H := H1
                                      clear H1
                                      have H' := Aside0.mk H
                                      clear H
                                      have hnb61 := NB164_163.out
                                      have hnc61 := NB163_164.out
                                      have hcz62_0 : wc.cell? ⟨gb164, 0, none⟩ = some (.bool true) := (blk_cell BK164.out 0).trans rfl
                                      have hcz62_1 : wc.cell? ⟨gb164, 1, none⟩ = some (.string a1_1) := (blk_cell BK164.out 1).trans rfl
                                      have hcz62_2 : wc.cell? ⟨gb164, 2, none⟩ = some (.int .i64 a1_2) := (blk_cell BK164.out 2).trans rfl
                                      have hfz62_0 := blk_frozen BK164.out 0
                                      have hfz62_1 := blk_frozen BK164.out 1
                                      have hfz62_2 := blk_frozen BK164.out 2
                                      go_wp2
                                      repeat (go_quiet (fail); try go_wp2)
                                      go_meet
                                      case rel => exact ⟨_, (true), (by first | rfl | (simp; done) | (simp [*]; done) | (simp [wrap64]; done)), (by first | exact H' | (rw [hji3]; exact H')), ⟨by have := HJ8.out; have := HJ15.out; have := HJ19.out; have := HJ32.out; have := HJ45.out; first | omega | exact Nat.le_refl _⟩, ⟨by (with_reducible repeat (first | refine blk_drewN ?_ _ | refine blk_drew ?_ | refine blk_alloc ?_ _)); exact BK163.out⟩, ⟨by (with_reducible repeat (first | refine blk_drewN ?_ _ | refine blk_drew ?_ | refine blk_alloc ?_ _)); exact BK164.out⟩, ⟨by repeat (first | (with_reducible first | exact HB.out | apply below_alloc | apply pw_below_drewN | apply below_drew1 | refine below_set ?_ GE163.out | refine below_set ?_ GE164.out) | exact HB.out)⟩⟩
                                    · replace c60 := Bool.eq_false_iff.mpr c60
                                      subst c60
                                      have H1 : ((rubricatorref14_greater.f x5_8 x6_15).bind fun t169 => (rubricatorref14_Compare.j5 kj45 x5_8 x6_15 t169)) = some r := by rw [if_neg (show ¬ (false = true) by decide)] at H; exact H
                                      clear H
                                      have H := H1
                                      clear H1
                                      replace H := Option.bind_eq_some_iff.mp H
                                      obtain ⟨t169, A630, H⟩ := H
                                      replace H : (rubricatorref14_Compare.j5 kj45 x5_8 x6_15 t169) = some r := H
                                      have A63 := Aside0.mk A630
                                      clear A630
                                      have H' := Aside0.mk H
                                      clear H
                                      have hnb64 := NB164_163.out
                                      have hnc64 := NB163_164.out
                                      have hcz65_0 : wc.cell? ⟨gb164, 0, none⟩ = some (.bool false) := (blk_cell BK164.out 0).trans rfl
                                      have hcz65_1 : wc.cell? ⟨gb164, 1, none⟩ = some (.string a1_1) := (blk_cell BK164.out 1).trans rfl
                                      have hcz65_2 : wc.cell? ⟨gb164, 2, none⟩ = some (.int .i64 a1_2) := (blk_cell BK164.out 2).trans rfl
                                      have hfz65_0 := blk_frozen BK164.out 0
                                      have hfz65_1 := blk_frozen BK164.out 1
                                      have hfz65_2 := blk_frozen BK164.out 2
                                      go_wp2_with (first | (go_at_call 38; (with_reducible refine (rubricatorref14_greater.calls x5_8 x6_15 t169 _ A63.out).mono ?_); rintro e w' ⟨rfl, ⟨nd, rfl⟩⟩; (try first | exact ⟨rfl, _, World.drewN_drewN _ _ _⟩ | exact ⟨rfl, _, Eq.trans (World.drewN_drewN _ _ _) (congrArg (World.drewN _) (Nat.add_assoc _ _ _))⟩)))
                                      repeat (go_quiet (first | (go_at_call 38; (with_reducible refine (rubricatorref14_greater.calls x5_8 x6_15 t169 _ A63.out).mono ?_); rintro e w' ⟨rfl, ⟨nd, rfl⟩⟩; (try first | exact ⟨rfl, _, World.drewN_drewN _ _ _⟩ | exact ⟨rfl, _, Eq.trans (World.drewN_drewN _ _ _) (congrArg (World.drewN _) (Nat.add_assoc _ _ _))⟩))); try go_wp2_with (first | (go_at_call 38; (with_reducible refine (rubricatorref14_greater.calls x5_8 x6_15 t169 _ A63.out).mono ?_); rintro e w' ⟨rfl, ⟨nd, rfl⟩⟩; (try first | exact ⟨rfl, _, World.drewN_drewN _ _ _⟩ | exact ⟨rfl, _, Eq.trans (World.drewN_drewN _ _ _) (congrArg (World.drewN _) (Nat.add_assoc _ _ _))⟩))))
                                      go_meet
                                      case rel => exact ⟨_, (t169), (by first | rfl | (simp; done) | (simp [*]; done) | (simp [wrap64]; done)), (by first | exact H' | (rw [hji3]; exact H')), ⟨by have := HJ8.out; have := HJ15.out; have := HJ19.out; have := HJ32.out; have := HJ45.out; first | omega | exact Nat.le_refl _⟩, ⟨by (with_reducible repeat (first | refine blk_drewN ?_ _ | refine blk_drew ?_ | refine blk_alloc ?_ _)); exact BK163.out⟩, ⟨by (with_reducible repeat (first | refine blk_drewN ?_ _ | refine blk_drew ?_ | refine blk_alloc ?_ _)); exact BK164.out⟩, ⟨by repeat (first | (with_reducible first | exact HB.out | apply below_alloc | apply pw_below_drewN | apply below_drew1 | refine below_set ?_ GE163.out | refine below_set ?_ GE164.out) | exact HB.out)⟩⟩
                                  case rest =>
                                    clear HC57
                                    try clear c1
                                    try clear c2
                                    try clear p2
                                    try clear c3
                                    try clear c4
                                    try clear c5
                                    try clear c5b0
                                    try clear c5b1
                                    try clear c5b2
                                    try clear c6
                                    try clear c6b0
                                    try clear p6
                                    try clear c8
                                    try clear c8b0
                                    try clear c8b1
                                    try clear c8b2
                                    try clear c12
                                    try clear c15
                                    try clear c15b0
                                    try clear c15b1
                                    try clear c17
                                    try clear c19
                                    try clear c19b0
                                    try clear c19b1
                                    try clear c21
                                    try clear c22
                                    try clear c24
                                    try clear c27
                                    try clear c30
                                    try clear c32
                                    try clear c34
                                    try clear c35
                                    try clear c37
                                    try clear c40
                                    try clear c43
                                    try clear c45
                                    try clear c47
                                    try clear c48
                                    try clear c51
                                    try clear c53
                                    try clear c54
                                    try clear c55
                                    try clear c58
                                    try clear c60
                                    try clear c61
                                    try clear c64
                                    try clear hcz13_0
                                    try clear hcz13_1
                                    try clear hcz13_2
                                    try clear hcz14_0
                                    try clear hcz14_1
                                    try clear hcz14_2
                                    try clear hcz18_0
                                    try clear hcz18_1
                                    try clear hcz18_2
                                    try clear hcz25_0
                                    try clear hcz25_1
                                    try clear hcz25_2
                                    try clear hcz26_0
                                    try clear hcz26_1
                                    try clear hcz26_2
                                    try clear hcz28_0
                                    try clear hcz28_1
                                    try clear hcz28_2
                                    try clear hcz29_0
                                    try clear hcz29_1
                                    try clear hcz29_2
                                    try clear hcz31_0
                                    try clear hcz31_1
                                    try clear hcz31_2
                                    try clear hcz38_0
                                    try clear hcz38_1
                                    try clear hcz38_2
                                    try clear hcz39_0
                                    try clear hcz39_1
                                    try clear hcz39_2
                                    try clear hcz41_0
                                    try clear hcz41_1
                                    try clear hcz41_2
                                    try clear hcz42_0
                                    try clear hcz42_1
                                    try clear hcz42_2
                                    try clear hcz44_0
                                    try clear hcz44_1
                                    try clear hcz44_2
                                    try clear hcz49_0
                                    try clear hcz49_1
                                    try clear hcz49_2
                                    try clear hcz50_0
                                    try clear hcz50_1
                                    try clear hcz50_2
                                    try clear hcz52_0
                                    try clear hcz52_1
                                    try clear hcz52_2
                                    try clear hcz56_0
                                    try clear hcz56_1
                                    try clear hcz56_2
                                    try clear hcz59_0
                                    try clear hcz59_1
                                    try clear hcz59_2
                                    try clear hcz62_0
                                    try clear hcz62_1
                                    try clear hcz62_2
                                    try clear hcz65_0
                                    try clear hcz65_1
                                    try clear hcz65_2
                                    try clear hfz13_0
                                    try clear hfz13_1
                                    try clear hfz13_2
                                    try clear hfz14_0
                                    try clear hfz14_1
                                    try clear hfz14_2
                                    try clear hfz18_0
                                    try clear hfz18_1
                                    try clear hfz18_2
                                    try clear hfz25_0
                                    try clear hfz25_1
                                    try clear hfz25_2
                                    try clear hfz26_0
                                    try clear hfz26_1
                                    try clear hfz26_2
                                    try clear hfz28_0
                                    try clear hfz28_1
                                    try clear hfz28_2
                                    try clear hfz29_0
                                    try clear hfz29_1
                                    try clear hfz29_2
                                    try clear hfz31_0
                                    try clear hfz31_1
                                    try clear hfz31_2
                                    try clear hfz38_0
                                    try clear hfz38_1
                                    try clear hfz38_2
                                    try clear hfz39_0
                                    try clear hfz39_1
                                    try clear hfz39_2
                                    try clear hfz41_0
                                    try clear hfz41_1
                                    try clear hfz41_2
                                    try clear hfz42_0
                                    try clear hfz42_1
                                    try clear hfz42_2
                                    try clear hfz44_0
                                    try clear hfz44_1
                                    try clear hfz44_2
                                    try clear hfz49_0
                                    try clear hfz49_1
                                    try clear hfz49_2
                                    try clear hfz50_0
                                    try clear hfz50_1
                                    try clear hfz50_2
                                    try clear hfz52_0
                                    try clear hfz52_1
                                    try clear hfz52_2
                                    try clear hfz56_0
                                    try clear hfz56_1
                                    try clear hfz56_2
                                    try clear hfz59_0
                                    try clear hfz59_1
                                    try clear hfz59_2
                                    try clear hfz62_0
                                    try clear hfz62_1
                                    try clear hfz62_2
                                    try clear hfz65_0
                                    try clear hfz65_1
                                    try clear hfz65_2
                                    try clear p2
                                    try clear p6
                                    obtain ⟨kq, x71_56, rfl, HA, HJ56, BK163, BK164, HB⟩ := hcut
                                    cases kq with
                                    | zero => exact absurd HA.out (by simp [rubricatorref14_Compare.j5])
                                    | succ kj56 =>
                                      have H := HA.out
                                      clear HA
                                      simp only [rubricatorref14_Compare.j5] at H
                                      by_cases c66 : x71_56 = true
                                      · subst c66
                                        have H1 : (some 1) = some r := by rw [if_pos rfl] at H; exact H
                                        clear H
                                        have H := H1
                                        clear H1
                                        obtain rfl := Option.some.inj H
                                        go_wp2
                                        repeat (go_quiet (fail); try go_wp2)
                                        go_ret
                                        try simp only [beq_nil_isEmpty, bytesLess_gtr]
                                        exact ⟨by first | rfl | (simp [errW_none, errW_some] <;> rfl) | (simp only [← hji3]; first | rfl | (simp [errW_none, errW_some] <;> rfl)) | (simp [*, errW_none, errW_some] <;> rfl), by repeat (first | (with_reducible first | exact HB.out | apply below_alloc | apply pw_below_drewN | apply below_drew1 | refine below_set ?_ GE163.out | refine below_set ?_ GE164.out) | exact HB.out)⟩
                                      · replace c66 := Bool.eq_false_iff.mpr c66
                                        subst c66
                                        have H1 : ((rubricatorref14_greater.f x6_15 x5_8).bind fun t170 => (if t170 = true then (some (-1)) else (some 0))) = some r := by rw [if_neg (show ¬ (false = true) by decide)] at H; exact H
                                        clear H
                                        have H := H1
                                        clear H1
                                        replace H := Option.bind_eq_some_iff.mp H
                                        obtain ⟨t170, A670, H⟩ := H
                                        replace H : (if t170 = true then (some (-1)) else (some 0)) = some r := H
                                        have A67 := Aside0.mk A670
                                        clear A670
                                        by_cases c68 : t170 = true
                                        · subst c68
                                          have H1 : (some (-1)) = some r := by rw [if_pos rfl] at H; exact H
                                          clear H
                                          have H := H1
                                          clear H1
                                          obtain rfl := Option.some.inj H
                                          go_wp2_with (first | (go_at_call 38; (with_reducible refine (rubricatorref14_greater.calls x6_15 x5_8 true _ A67.out).mono ?_); rintro e w' ⟨rfl, ⟨nd, rfl⟩⟩; (try first | exact ⟨rfl, _, World.drewN_drewN _ _ _⟩ | exact ⟨rfl, _, Eq.trans (World.drewN_drewN _ _ _) (congrArg (World.drewN _) (Nat.add_assoc _ _ _))⟩)))
                                          repeat (go_quiet (first | (go_at_call 38; (with_reducible refine (rubricatorref14_greater.calls x6_15 x5_8 true _ A67.out).mono ?_); rintro e w' ⟨rfl, ⟨nd, rfl⟩⟩; (try first | exact ⟨rfl, _, World.drewN_drewN _ _ _⟩ | exact ⟨rfl, _, Eq.trans (World.drewN_drewN _ _ _) (congrArg (World.drewN _) (Nat.add_assoc _ _ _))⟩))); try go_wp2_with (first | (go_at_call 38; (with_reducible refine (rubricatorref14_greater.calls x6_15 x5_8 true _ A67.out).mono ?_); rintro e w' ⟨rfl, ⟨nd, rfl⟩⟩; (try first | exact ⟨rfl, _, World.drewN_drewN _ _ _⟩ | exact ⟨rfl, _, Eq.trans (World.drewN_drewN _ _ _) (congrArg (World.drewN _) (Nat.add_assoc _ _ _))⟩))))
                                          go_ret
                                          try simp only [beq_nil_isEmpty, bytesLess_gtr]
                                          exact ⟨by first | rfl | (simp [errW_none, errW_some] <;> rfl) | (simp only [← hji3]; first | rfl | (simp [errW_none, errW_some] <;> rfl)) | (simp [*, errW_none, errW_some] <;> rfl), by repeat (first | (with_reducible first | exact HB.out | apply below_alloc | apply pw_below_drewN | apply below_drew1 | refine below_set ?_ GE163.out | refine below_set ?_ GE164.out) | exact HB.out)⟩
                                        · replace c68 := Bool.eq_false_iff.mpr c68
                                          subst c68
                                          have H1 : (some 0) = some r := by rw [if_neg (show ¬ (false = true) by decide)] at H; exact H
                                          clear H
                                          have H := H1
                                          clear H1
                                          obtain rfl := Option.some.inj H
                                          go_wp2_with (first | (go_at_call 38; (with_reducible refine (rubricatorref14_greater.calls x6_15 x5_8 false _ A67.out).mono ?_); rintro e w' ⟨rfl, ⟨nd, rfl⟩⟩; (try first | exact ⟨rfl, _, World.drewN_drewN _ _ _⟩ | exact ⟨rfl, _, Eq.trans (World.drewN_drewN _ _ _) (congrArg (World.drewN _) (Nat.add_assoc _ _ _))⟩)))
                                          repeat (go_quiet (first | (go_at_call 38; (with_reducible refine (rubricatorref14_greater.calls x6_15 x5_8 false _ A67.out).mono ?_); rintro e w' ⟨rfl, ⟨nd, rfl⟩⟩; (try first | exact ⟨rfl, _, World.drewN_drewN _ _ _⟩ | exact ⟨rfl, _, Eq.trans (World.drewN_drewN _ _ _) (congrArg (World.drewN _) (Nat.add_assoc _ _ _))⟩))); try go_wp2_with (first | (go_at_call 38; (with_reducible refine (rubricatorref14_greater.calls x6_15 x5_8 false _ A67.out).mono ?_); rintro e w' ⟨rfl, ⟨nd, rfl⟩⟩; (try first | exact ⟨rfl, _, World.drewN_drewN _ _ _⟩ | exact ⟨rfl, _, Eq.trans (World.drewN_drewN _ _ _) (congrArg (World.drewN _) (Nat.add_assoc _ _ _))⟩))))
                                          go_ret
                                          try simp only [beq_nil_isEmpty, bytesLess_gtr]
                                          exact ⟨by first | rfl | (simp [errW_none, errW_some] <;> rfl) | (simp only [← hji3]; first | rfl | (simp [errW_none, errW_some] <;> rfl)) | (simp [*, errW_none, errW_some] <;> rfl), by repeat (first | (with_reducible first | exact HB.out | apply below_alloc | apply pw_below_drewN | apply below_drew1 | refine below_set ?_ GE163.out | refine below_set ?_ GE164.out) | exact HB.out)⟩
    · rw [if_neg c8] at H
      exact absurd H (by simp)
  · rw [if_neg c5] at H
    exact absurd H (by simp)

end Go.Proofs.YtbgigckmehgcpaaDoor.Pr
