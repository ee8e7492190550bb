/- What the law rests on, part 3: joined by a program of this session (claimx.py). -/
import Derived.Test.YtapcpndplnkfjaaGreatDoorJsonOrdersB
namespace Go.Proofs.YtapcpndplnkfjaaGreatDoor.Pr
open Go.RowKit Go.Proofs.YtapcpndplnkfjaaGreatDoorW.PrintWords Go.Proofs.YtapcpndplnkfjaaGreatDoorW.PrintLast Go.Proofs.YtapcpndplnkfjaaGreatDoorW.PrintMore
attribute [local go_sem] max2_int min2_int max_two min_two max_three min_three max_four min_four
set_option linter.unusedVariables false
set_option linter.unusedSimpArgs false
def cmp_isNaN_int.f (a0 : Int) : Option (Bool) := some (a0 != a0)
set_option maxHeartbeats 8000000 in
set_option maxRecDepth 100000 in
theorem cmp_isNaN_int.calls (a0 : Int) (r : Bool) (w : World) (h : cmp_isNaN_int.f a0 = some r) :
    Calls Tryz.prog 80 #[.int .i64 a0] w fun e w' => e = .returned (.bool r) ∧ Drawn0 w w' := by
  have H : (some (a0 != a0)) = some r := h
  clear h
  obtain rfl := Option.some.inj H
  go_enter Tryz.func80, Tryz.ntmps80
  go_wp2
  go_ret
  try simp only [beq_nil_isEmpty, bytesLess_gtr]
  exact ⟨by first | rfl | (simp; done) | (simp [*]; done), by repeat (first | exact Drawn0.refl _ | apply Drawn0.step)⟩
def cmp_Compare_int.f (a0 : Int) (a1 : Int) : Option (Int) := (cmp_isNaN_int.f a0).bind fun t101 => ((cmp_isNaN_int.f a1).bind fun t102 => (if t101 = true then (if t102 = true then (some 0) else (some (-1))) else (if t102 = true then (some 1) else (if a0 < a1 then (some (-1)) else (if a0 > a1 then (some 1) else (some 0))))))
set_option maxHeartbeats 8000000 in
set_option maxRecDepth 100000 in
theorem cmp_Compare_int.calls (a0 : Int) (a1 : Int) (r : Int) (w : World) (h : cmp_Compare_int.f a0 a1 = some r) :
    Calls Tryz.prog 50 #[.int .i64 a0, .int .i64 a1] w fun e w' => e = .returned (.int .i64 r) ∧ Drawn0 w w' := by
  have H : ((cmp_isNaN_int.f a0).bind fun t101 => ((cmp_isNaN_int.f a1).bind fun t102 => (if t101 = true then (if t102 = true then (some 0) else (some (-1))) else (if t102 = true then (some 1) else (if a0 < a1 then (some (-1)) else (if a0 > a1 then (some 1) else (some 0))))))) = some r := h
  clear h
  replace H := Option.bind_eq_some_iff.mp H
  obtain ⟨t101, A30, H⟩ := H
  replace H : ((cmp_isNaN_int.f a1).bind fun t102 => (if t101 = true then (if t102 = true then (some 0) else (some (-1))) else (if t102 = true then (some 1) else (if a0 < a1 then (some (-1)) else (if a0 > a1 then (some 1) else (some 0)))))) = some r := H
  have A3 := Aside0.mk A30
  clear A30
  replace H := Option.bind_eq_some_iff.mp H
  obtain ⟨t102, A40, H⟩ := H
  replace H : (if t101 = true then (if t102 = true then (some 0) else (some (-1))) else (if t102 = true then (some 1) else (if a0 < a1 then (some (-1)) else (if a0 > a1 then (some 1) else (some 0))))) = some r := H
  have A4 := Aside0.mk A40
  clear A40
  by_cases c5 : t101 = true
  · subst c5
    have H1 : (if t102 = true then (some 0) else (some (-1))) = some r := by rw [if_pos rfl] at H; exact H
    clear H
    have H := H1
    clear H1
    by_cases c6 : t102 = true
    · subst c6
      have H1 : (some 0) = some r := by rw [if_pos rfl] at H; exact H
      clear H
      have H := H1
      clear H1
      obtain rfl := Option.some.inj H
      go_enter Tryz.func50, Tryz.ntmps50
      go_wp2_with (first | ((with_reducible refine gate_callee (f := 80) rfl ?_); refine goesL_ (some 8) rfl rfl Tryz.func80 (by kernel_rfl) rfl #[.int .i64 a0] rfl (by (try simp only [List.map_toArray, List.map_cons, List.map_nil]); first | done | rfl | (simp only [List.length_drop, List.length_take]; rfl)) ?_; (with_reducible refine (cmp_isNaN_int.calls a0 true _ A3.out).mono ?_); rintro e w' ⟨rfl, ⟨nd, rfl⟩⟩; refine ⟨_, rfl, ?_⟩) | ((with_reducible refine gate_callee (f := 80) rfl ?_); refine goesL_ (some 10) rfl rfl Tryz.func80 (by kernel_rfl) rfl #[.int .i64 a1] rfl (by (try simp only [List.map_toArray, List.map_cons, List.map_nil]); first | done | rfl | (simp only [List.length_drop, List.length_take]; rfl)) ?_; (with_reducible refine (cmp_isNaN_int.calls a1 true _ A4.out).mono ?_); rintro e w' ⟨rfl, ⟨nd, rfl⟩⟩; refine ⟨_, rfl, ?_⟩))
      go_ret
      try simp only [beq_nil_isEmpty, bytesLess_gtr]
      exact ⟨by first | rfl | (simp; done) | (simp [*]; done), by repeat (first | exact Drawn0.refl _ | apply Drawn0.step)⟩
    · replace c6 := Bool.eq_false_iff.mpr c6
      subst c6
      have H1 : (some (-1)) = some r := by rw [if_neg (show ¬ (false = true) by decide)] at H; exact H
      clear H
      have H := H1
      clear H1
      obtain rfl := Option.some.inj H
      go_enter Tryz.func50, Tryz.ntmps50
      go_wp2_with (first | ((with_reducible refine gate_callee (f := 80) rfl ?_); refine goesL_ (some 8) rfl rfl Tryz.func80 (by kernel_rfl) rfl #[.int .i64 a0] rfl (by (try simp only [List.map_toArray, List.map_cons, List.map_nil]); first | done | rfl | (simp only [List.length_drop, List.length_take]; rfl)) ?_; (with_reducible refine (cmp_isNaN_int.calls a0 true _ A3.out).mono ?_); rintro e w' ⟨rfl, ⟨nd, rfl⟩⟩; refine ⟨_, rfl, ?_⟩) | ((with_reducible refine gate_callee (f := 80) rfl ?_); refine goesL_ (some 10) rfl rfl Tryz.func80 (by kernel_rfl) rfl #[.int .i64 a1] rfl (by (try simp only [List.map_toArray, List.map_cons, List.map_nil]); first | done | rfl | (simp only [List.length_drop, List.length_take]; rfl)) ?_; (with_reducible refine (cmp_isNaN_int.calls a1 false _ A4.out).mono ?_); rintro e w' ⟨rfl, ⟨nd, rfl⟩⟩; refine ⟨_, rfl, ?_⟩))
      go_ret
      try simp only [beq_nil_isEmpty, bytesLess_gtr]
      exact ⟨by first | rfl | (simp; done) | (simp [*]; done), by repeat (first | exact Drawn0.refl _ | apply Drawn0.step)⟩
  · replace c5 := Bool.eq_false_iff.mpr c5
    subst c5
    have H1 : (if t102 = true then (some 1) else (if a0 < a1 then (some (-1)) else (if a0 > a1 then (some 1) else (some 0)))) = some r := by rw [if_neg (show ¬ (false = true) by decide)] at H; exact H
    clear H
    have H := H1
    clear H1
    by_cases c7 : t102 = true
    · subst c7
      have H1 : (some 1) = some r := by rw [if_pos rfl] at H; exact H
      clear H
      have H := H1
      clear H1
      obtain rfl := Option.some.inj H
      go_enter Tryz.func50, Tryz.ntmps50
      go_wp2_with (first | ((with_reducible refine gate_callee (f := 80) rfl ?_); refine goesL_ (some 8) rfl rfl Tryz.func80 (by kernel_rfl) rfl #[.int .i64 a0] rfl (by (try simp only [List.map_toArray, List.map_cons, List.map_nil]); first | done | rfl | (simp only [List.length_drop, List.length_take]; rfl)) ?_; (with_reducible refine (cmp_isNaN_int.calls a0 false _ A3.out).mono ?_); rintro e w' ⟨rfl, ⟨nd, rfl⟩⟩; refine ⟨_, rfl, ?_⟩) | ((with_reducible refine gate_callee (f := 80) rfl ?_); refine goesL_ (some 10) rfl rfl Tryz.func80 (by kernel_rfl) rfl #[.int .i64 a1] rfl (by (try simp only [List.map_toArray, List.map_cons, List.map_nil]); first | done | rfl | (simp only [List.length_drop, List.length_take]; rfl)) ?_; (with_reducible refine (cmp_isNaN_int.calls a1 true _ A4.out).mono ?_); rintro e w' ⟨rfl, ⟨nd, rfl⟩⟩; refine ⟨_, rfl, ?_⟩))
      go_ret
      try simp only [beq_nil_isEmpty, bytesLess_gtr]
      exact ⟨by first | rfl | (simp; done) | (simp [*]; done), by repeat (first | exact Drawn0.refl _ | apply Drawn0.step)⟩
    · replace c7 := Bool.eq_false_iff.mpr c7
      subst c7
      have H1 : (if a0 < a1 then (some (-1)) else (if a0 > a1 then (some 1) else (some 0))) = some r := by rw [if_neg (show ¬ (false = true) by decide)] at H; exact H
      clear H
      have H := H1
      clear H1
      by_cases c8 : a0 < a1
      · rw [if_pos c8] at H
        have c8b0 : decide (a0 < a1) = true := decide_eq_true c8
        clear c8
        obtain rfl := Option.some.inj H
        go_enter Tryz.func50, Tryz.ntmps50
        go_wp2_with (first | ((with_reducible refine gate_callee (f := 80) rfl ?_); refine goesL_ (some 8) rfl rfl Tryz.func80 (by kernel_rfl) rfl #[.int .i64 a0] rfl (by (try simp only [List.map_toArray, List.map_cons, List.map_nil]); first | done | rfl | (simp only [List.length_drop, List.length_take]; rfl)) ?_; (with_reducible refine (cmp_isNaN_int.calls a0 false _ A3.out).mono ?_); rintro e w' ⟨rfl, ⟨nd, rfl⟩⟩; refine ⟨_, rfl, ?_⟩) | ((with_reducible refine gate_callee (f := 80) rfl ?_); refine goesL_ (some 10) rfl rfl Tryz.func80 (by kernel_rfl) rfl #[.int .i64 a1] rfl (by (try simp only [List.map_toArray, List.map_cons, List.map_nil]); first | done | rfl | (simp only [List.length_drop, List.length_take]; rfl)) ?_; (with_reducible refine (cmp_isNaN_int.calls a1 false _ A4.out).mono ?_); rintro e w' ⟨rfl, ⟨nd, rfl⟩⟩; refine ⟨_, rfl, ?_⟩))
        go_ret
        try simp only [beq_nil_isEmpty, bytesLess_gtr]
        exact ⟨by first | rfl | (simp; done) | (simp [*]; done), by repeat (first | exact Drawn0.refl _ | apply Drawn0.step)⟩
      · rw [if_neg c8] at H
        have c8b0 : decide (a0 < a1) = false := decide_eq_false c8
        clear c8
        by_cases c9 : a0 > a1
        · rw [if_pos c9] at H
          have c9b0 : decide (a1 < a0) = true := decide_eq_true c9
          clear c9
          obtain rfl := Option.some.inj H
          go_enter Tryz.func50, Tryz.ntmps50
          go_wp2_with (first | ((with_reducible refine gate_callee (f := 80) rfl ?_); refine goesL_ (some 8) rfl rfl Tryz.func80 (by kernel_rfl) rfl #[.int .i64 a0] rfl (by (try simp only [List.map_toArray, List.map_cons, List.map_nil]); first | done | rfl | (simp only [List.length_drop, List.length_take]; rfl)) ?_; (with_reducible refine (cmp_isNaN_int.calls a0 false _ A3.out).mono ?_); rintro e w' ⟨rfl, ⟨nd, rfl⟩⟩; refine ⟨_, rfl, ?_⟩) | ((with_reducible refine gate_callee (f := 80) rfl ?_); refine goesL_ (some 10) rfl rfl Tryz.func80 (by kernel_rfl) rfl #[.int .i64 a1] rfl (by (try simp only [List.map_toArray, List.map_cons, List.map_nil]); first | done | rfl | (simp only [List.length_drop, List.length_take]; rfl)) ?_; (with_reducible refine (cmp_isNaN_int.calls a1 false _ A4.out).mono ?_); rintro e w' ⟨rfl, ⟨nd, rfl⟩⟩; refine ⟨_, rfl, ?_⟩))
          go_ret
          try simp only [beq_nil_isEmpty, bytesLess_gtr]
          exact ⟨by first | rfl | (simp; done) | (simp [*]; done), by repeat (first | exact Drawn0.refl _ | apply Drawn0.step)⟩
        · rw [if_neg c9] at H
          have c9b0 : decide (a1 < a0) = false := decide_eq_false c9
          clear c9
          obtain rfl := Option.some.inj H
          go_enter Tryz.func50, Tryz.ntmps50
          go_wp2_with (first | ((with_reducible refine gate_callee (f := 80) rfl ?_); refine goesL_ (some 8) rfl rfl Tryz.func80 (by kernel_rfl) rfl #[.int .i64 a0] rfl (by (try simp only [List.map_toArray, List.map_cons, List.map_nil]); first | done | rfl | (simp only [List.length_drop, List.length_take]; rfl)) ?_; (with_reducible refine (cmp_isNaN_int.calls a0 false _ A3.out).mono ?_); rintro e w' ⟨rfl, ⟨nd, rfl⟩⟩; refine ⟨_, rfl, ?_⟩) | ((with_reducible refine gate_callee (f := 80) rfl ?_); refine goesL_ (some 10) rfl rfl Tryz.func80 (by kernel_rfl) rfl #[.int .i64 a1] rfl (by (try simp only [List.map_toArray, List.map_cons, List.map_nil]); first | done | rfl | (simp only [List.length_drop, List.length_take]; rfl)) ?_; (with_reducible refine (cmp_isNaN_int.calls a1 false _ A4.out).mono ?_); rintro e w' ⟨rfl, ⟨nd, rfl⟩⟩; refine ⟨_, rfl, ?_⟩))
          go_ret
          try simp only [beq_nil_isEmpty, bytesLess_gtr]
          exact ⟨by first | rfl | (simp; done) | (simp [*]; done), by repeat (first | exact Drawn0.refl _ | apply Drawn0.step)⟩
def cmp_Or_int.l0 : Nat → Int → List Int → Int → Int → Option (Int)
  | 0, _, _, _, _ => none
  | k + 1, x3, x6, x7, x8 => if x8 < x7 then (if 0 ≤ x8 then (if x8 < (x6.length : Int) then (if (rd x6 x8) = x3 then (cmp_Or_int.l0 k x3 x6 x7 (wrap64 (x8 + 1))) else (some (rd x6 x8))) else (none)) else (none)) else (some x3)
def cmp_Or_int.f (k : Nat) (l0 : List Int) : Option (Int) := cmp_Or_int.l0 k 0 l0 (l0.length : Int) 0
theorem cmp_Or_int.mono_l : ∀ k, (∀ y0 y1 y2 y3, LeO (cmp_Or_int.l0 k y0 y1 y2 y3) (cmp_Or_int.l0 (k + 1) y0 y1 y2 y3))
  | 0 => fun _ _ _ _ r h => by simp [cmp_Or_int.l0] at h
  | k + 1 => by
    have ih0 := cmp_Or_int.mono_l k
    · intro y0 y1 y2 y3
      unfold cmp_Or_int.l0
      repeat' first
      | (with_reducible exact ih0 _ _ _ _)
      | (with_reducible exact LeO.refl _)
      | (with_reducible exact LeO.none _)
      | (with_reducible refine LeO.ite ?_ ?_)
      | (with_reducible refine LeO.bind ?_ (fun _ => ?_))
      | exact ih0 _ _ _ _
      | exact LeO.none _
      | refine LeO.ite ?_ ?_
      | refine LeO.bind ?_ (fun _ => ?_)
theorem cmp_Or_int.mono : ∀ a0 k, LeO (cmp_Or_int.f k a0) (cmp_Or_int.f (k + 1) a0) := by
  intro a0 k
  have ih0 := cmp_Or_int.mono_l k
  unfold cmp_Or_int.f
  repeat' first
      | (with_reducible exact ih0 _ _ _ _)
      | (with_reducible exact LeO.refl _)
      | (with_reducible exact LeO.none _)
      | (with_reducible refine LeO.ite ?_ ?_)
      | (with_reducible refine LeO.bind ?_ (fun _ => ?_))
      | exact ih0 _ _ _ _
      | exact LeO.none _
      | refine LeO.ite ?_ ?_
      | refine LeO.bind ?_ (fun _ => ?_)
set_option maxHeartbeats 8000000 in
set_option maxRecDepth 100000 in
theorem cmp_Or_int.calls (k : Nat) (A0 : Option Addr) (c0 : Nat) (l0 : List Int) (r : Int) (w : World) (hr0 : Kd.C (Kd.int .i64) w A0 l0.length l0) (hc0 : l0.length ≤ c0) (h : cmp_Or_int.f k l0 = some r) :
    Calls Tryz.prog 55 #[.slice A0 l0.length c0] w fun e w' => e = .returned (.int .i64 r) ∧ Drawn0 w w' := by
  have HR0 := Aside0.mk hr0
  have HC0 := Aside0.mk hc0
  clear hr0 hc0
  have H : (cmp_Or_int.l0 k 0 l0 (l0.length : Int) 0) = some r := h
  clear h
  have H' := Aside0.mk H
  clear H
  go_enter Tryz.func55, Tryz.ntmps55
  go_wp2
  go_loopg [8] k (fun kq v8 w' => ∃ (x8_1 : Int), v8 = .int .i64 x8_1 ∧ Aside0 (cmp_Or_int.l0 kq 0 l0 (l0.length : Int) x8_1 = some r) ∧ Aside0 (kq ≤ k) ∧ Drawn0 w w')
  case atStart => exact ⟨(0), (by first | rfl | (simp; done) | (simp [*]; done) | (simp [wrap64]; done)), H', ⟨Nat.le_refl _⟩, by repeat (first | exact Drawn0.refl _ | apply Drawn0.step)⟩
  case round =>
    clear H'
    obtain ⟨x8_1, rfl, HA, HK1, ⟨m1, rfl⟩⟩ := hrel
    cases gk with
    | zero => exact absurd HA.out (by simp [cmp_Or_int.l0])
    | succ k1 =>
      have H := HA.out
      clear HA
      simp only [cmp_Or_int.l0] at H
      by_cases c2 : x8_1 < (l0.length : Int)
      · rw [if_pos c2] at H
        have c2b0 : decide (x8_1 < (l0.length : Int)) = true := decide_eq_true c2
        clear c2
        by_cases c3 : 0 ≤ x8_1
        · rw [if_pos c3] at H
          have c3b0 : decide (0 ≤ x8_1) = true := decide_eq_true c3
          clear c3
          by_cases c4 : x8_1 < (l0.length : Int)
          · rw [if_pos c4] at H
            have c4b0 : decide (x8_1 < (l0.length : Int)) = true := decide_eq_true c4
            clear c4
            by_cases c5 : (rd l0 x8_1) = 0
            · rw [if_pos c5] at H
              have c5b0 : ((rd l0 x8_1) == 0) = true := beq_iff_eq.mpr c5
              have c5b1 : ((rd l0 x8_1) != 0) = false := bne_eq_false_iff_eq.mpr c5
              clear c5
              have H' := Aside0.mk H
              clear H
              have p103 : 0 ≤ (x8_1 : Int) := of_decide_eq_true (by first | (with_reducible assumption) | assumption)
              have q103 : x8_1 < (l0.length : Int) := of_decide_eq_true (by first | (with_reducible assumption) | assumption)
              obtain ⟨ad103, e103, hx103_0⟩ := Kd.at_int HR0.out x8_1 p103 q103
              cases e103
              replace p103 := eq_true p103
              replace q103 := eq_true q103
              go_wp2
              go_roundg k1
              case measure => have := HK1.out; omega
              case rel => exact ⟨(wrap64 (x8_1 + 1)), (by first | rfl | (simp; done) | (simp [*]; done) | (simp [wrap64]; done)), H', ⟨by have := HK1.out; omega⟩, by repeat (first | exact Drawn0.refl _ | apply Drawn0.step)⟩
            · rw [if_neg c5] at H
              have c5b0 : ((rd l0 x8_1) == 0) = false := beq_eq_false_iff_ne.mpr c5
              have c5b1 : ((rd l0 x8_1) != 0) = true := bne_iff_ne.mpr c5
              obtain rfl := Option.some.inj H
              have p103 : 0 ≤ (x8_1 : Int) := of_decide_eq_true (by first | (with_reducible assumption) | assumption)
              have q103 : x8_1 < (l0.length : Int) := of_decide_eq_true (by first | (with_reducible assumption) | assumption)
              obtain ⟨ad103, e103, hx103_0⟩ := Kd.at_int HR0.out x8_1 p103 q103
              cases e103
              replace p103 := eq_true p103
              replace q103 := eq_true q103
              go_wp2
              go_ret
              try simp only [beq_nil_isEmpty, bytesLess_gtr]
              exact ⟨by first | rfl | (simp; done) | (simp [*]; done), by repeat (first | exact Drawn0.refl _ | apply Drawn0.step)⟩
          · rw [if_neg c4] at H
            exact absurd H (by simp)
        · rw [if_neg c3] at H
          exact absurd H (by simp)
      · rw [if_neg c2] at H
        have c2b0 : decide (x8_1 < (l0.length : Int)) = false := decide_eq_false c2
        clear c2
        obtain rfl := Option.some.inj H
        go_wp2
        go_ret
        try simp only [beq_nil_isEmpty, bytesLess_gtr]
        exact ⟨by first | rfl | (simp; done) | (simp [*]; done), by repeat (first | exact Drawn0.refl _ | apply Drawn0.step)⟩
def num_Num_side.f (a0_0 : Bool) (a0_1 : ByteArray) (a0_2 : Int) : Option (Int) := if a0_1.toList = ([] : List UInt8) then (some 0) else (if a0_0 = true then (some (-1)) else (some 1))
set_option maxHeartbeats 8000000 in
set_option maxRecDepth 100000 in
theorem num_Num_side.calls (a0_0 : Bool) (a0_1 : ByteArray) (a0_2 : Int) (r : Int) (w : World) (h : num_Num_side.f a0_0 a0_1 a0_2 = some r) :
    Calls Tryz.prog 81 #[.agg #[.bool a0_0, .string a0_1, .int .i64 a0_2]] w fun e w' => e = .returned (.int .i64 r) ∧ Below w.heap.size w w' := by
  have hu24 := Tryz.underlying24
  have HB := Aside0.mk (Below.refl w.heap.size w)
  have H : (if a0_1.toList = ([] : List UInt8) then (some 0) else (if a0_0 = true then (some (-1)) else (some 1))) = some r := h
  clear h
  by_cases c2 : a0_1.toList = ([] : List UInt8)
  · rw [if_pos c2] at H
    have c2b0 : (a0_1.toList == ([] : List UInt8)) = true := beq_iff_eq.mpr c2
    have c2b7 : a0_1.toList.isEmpty = true := by rw [← beq_nil_isEmpty]; exact c2b0
    have c2b1 : (a0_1.toList != ([] : List UInt8)) = false := bne_eq_false_iff_eq.mpr c2
    clear c2
    obtain rfl := Option.some.inj H
    go_enter Tryz.func81, Tryz.ntmps81
    go_wp2_with (first | ((with_reducible refine gate_dst (N := 1) rfl ?_); refine box_event ?hg (N := 1) ?hd (cs := #[.bool a0_0, .string a0_1, .int .i64 a0_2]) (t := 24) ?hr ?_; (case hd => rfl); (case hg => rfl); (case hr => first | (go_simp; done) | (go_simp; rfl)); intro gb104 hg w3 hbox hb; have n0_ := Aside0.mk (below_step (by repeat (first | (with_reducible first | exact HB.out | apply below_alloc | apply pw_below_drewN | apply below_drew1) | exact HB.out)) hb); have n1_ := Aside0.mk (hbox); have n2_ := Aside0.mk ((by rw [hg]; exact (below_size (by repeat (first | (with_reducible first | exact HB.out | apply below_alloc | apply pw_below_drewN | apply below_drew1) | exact HB.out))) : w.heap.size ≤ gb104)); have n3_ := Aside0.mk ((by rw [hg]; exact (below_size (by repeat (first | (with_reducible first | exact HB.out | apply below_alloc | apply pw_below_drewN | apply below_drew1) | exact HB.out))) : w.heap.size ≤ gb104)); clear HB; have HB := n0_; have BK104 := n1_; have GW104 := n2_; have GE104 := n3_; clear n0_ n1_ n2_ n3_; clear hb hbox hg; have hcz4_0 : w3.cell? ⟨gb104, 0, none⟩ = some (.bool a0_0) := (blk_cell BK104.out 0).trans rfl; have hcz4_1 : w3.cell? ⟨gb104, 1, none⟩ = some (.string a0_1) := (blk_cell BK104.out 1).trans rfl; have hcz4_2 : w3.cell? ⟨gb104, 2, none⟩ = some (.int .i64 a0_2) := (blk_cell BK104.out 2).trans rfl; have hfz4_0 := blk_frozen BK104.out 0; have hfz4_1 := blk_frozen BK104.out 1; have hfz4_2 := blk_frozen BK104.out 2))
    go_ret
    try simp only [beq_nil_isEmpty, bytesLess_gtr]
    exact ⟨by first | rfl | (simp [errW_none, errW_some] <;> rfl) | (simp [*, errW_none, errW_some] <;> rfl), by repeat (first | (with_reducible first | exact HB.out | apply below_alloc | apply pw_below_drewN | apply below_drew1 | refine below_set ?_ GE104.out) | exact HB.out)⟩
  · rw [if_neg c2] at H
    have c2b0 : (a0_1.toList == ([] : List UInt8)) = false := beq_eq_false_iff_ne.mpr c2
    have c2b7 : a0_1.toList.isEmpty = false := by rw [← beq_nil_isEmpty]; exact c2b0
    have c2b1 : (a0_1.toList != ([] : List UInt8)) = true := bne_iff_ne.mpr c2
    by_cases c5 : a0_0 = true
    · subst c5
      have H1 : (some (-1)) = some r := by rw [if_pos rfl] at H; exact H
      clear H
      have H := H1
      clear H1
      obtain rfl := Option.some.inj H
      go_enter Tryz.func81, Tryz.ntmps81
      go_wp2_with (first | ((with_reducible refine gate_dst (N := 1) rfl ?_); refine box_event ?hg (N := 1) ?hd (cs := #[.bool true, .string a0_1, .int .i64 a0_2]) (t := 24) ?hr ?_; (case hd => rfl); (case hg => rfl); (case hr => first | (go_simp; done) | (go_simp; rfl)); intro gb104 hg w6 hbox hb; have n0_ := Aside0.mk (below_step (by repeat (first | (with_reducible first | exact HB.out | apply below_alloc | apply pw_below_drewN | apply below_drew1) | exact HB.out)) hb); have n1_ := Aside0.mk (hbox); have n2_ := Aside0.mk ((by rw [hg]; exact (below_size (by repeat (first | (with_reducible first | exact HB.out | apply below_alloc | apply pw_below_drewN | apply below_drew1) | exact HB.out))) : w.heap.size ≤ gb104)); have n3_ := Aside0.mk ((by rw [hg]; exact (below_size (by repeat (first | (with_reducible first | exact HB.out | apply below_alloc | apply pw_below_drewN | apply below_drew1) | exact HB.out))) : w.heap.size ≤ gb104)); clear HB; have HB := n0_; have BK104 := n1_; have GW104 := n2_; have GE104 := n3_; clear n0_ n1_ n2_ n3_; clear hb hbox hg; have hcz7_0 : w6.cell? ⟨gb104, 0, none⟩ = some (.bool true) := (blk_cell BK104.out 0).trans rfl; have hcz7_1 : w6.cell? ⟨gb104, 1, none⟩ = some (.string a0_1) := (blk_cell BK104.out 1).trans rfl; have hcz7_2 : w6.cell? ⟨gb104, 2, none⟩ = some (.int .i64 a0_2) := (blk_cell BK104.out 2).trans rfl; have hfz7_0 := blk_frozen BK104.out 0; have hfz7_1 := blk_frozen BK104.out 1; have hfz7_2 := blk_frozen BK104.out 2))
      go_ret
      try simp only [beq_nil_isEmpty, bytesLess_gtr]
      exact ⟨by first | rfl | (simp [errW_none, errW_some] <;> rfl) | (simp [*, errW_none, errW_some] <;> rfl), by repeat (first | (with_reducible first | exact HB.out | apply below_alloc | apply pw_below_drewN | apply below_drew1 | refine below_set ?_ GE104.out) | exact HB.out)⟩
    · replace c5 := Bool.eq_false_iff.mpr c5
      subst c5
      have H1 : (some 1) = some r := by rw [if_neg (show ¬ (false = true) by decide)] at H; exact H
      clear H
      have H := H1
      clear H1
      obtain rfl := Option.some.inj H
      go_enter Tryz.func81, Tryz.ntmps81
      go_wp2_with (first | ((with_reducible refine gate_dst (N := 1) rfl ?_); refine box_event ?hg (N := 1) ?hd (cs := #[.bool false, .string a0_1, .int .i64 a0_2]) (t := 24) ?hr ?_; (case hd => rfl); (case hg => rfl); (case hr => first | (go_simp; done) | (go_simp; rfl)); intro gb104 hg w8 hbox hb; have n0_ := Aside0.mk (below_step (by repeat (first | (with_reducible first | exact HB.out | apply below_alloc | apply pw_below_drewN | apply below_drew1) | exact HB.out)) hb); have n1_ := Aside0.mk (hbox); have n2_ := Aside0.mk ((by rw [hg]; exact (below_size (by repeat (first | (with_reducible first | exact HB.out | apply below_alloc | apply pw_below_drewN | apply below_drew1) | exact HB.out))) : w.heap.size ≤ gb104)); have n3_ := Aside0.mk ((by rw [hg]; exact (below_size (by repeat (first | (with_reducible first | exact HB.out | apply below_alloc | apply pw_below_drewN | apply below_drew1) | exact HB.out))) : w.heap.size ≤ gb104)); clear HB; have HB := n0_; have BK104 := n1_; have GW104 := n2_; have GE104 := n3_; clear n0_ n1_ n2_ n3_; clear hb hbox hg; have hcz9_0 : w8.cell? ⟨gb104, 0, none⟩ = some (.bool false) := (blk_cell BK104.out 0).trans rfl; have hcz9_1 : w8.cell? ⟨gb104, 1, none⟩ = some (.string a0_1) := (blk_cell BK104.out 1).trans rfl; have hcz9_2 : w8.cell? ⟨gb104, 2, none⟩ = some (.int .i64 a0_2) := (blk_cell BK104.out 2).trans rfl; have hfz9_0 := blk_frozen BK104.out 0; have hfz9_1 := blk_frozen BK104.out 1; have hfz9_2 := blk_frozen BK104.out 2))
      go_ret
      try simp only [beq_nil_isEmpty, bytesLess_gtr]
      exact ⟨by first | rfl | (simp [errW_none, errW_some] <;> rfl) | (simp [*, errW_none, errW_some] <;> rfl), by repeat (first | (with_reducible first | exact HB.out | apply below_alloc | apply pw_below_drewN | apply below_drew1 | refine below_set ?_ GE104.out) | exact HB.out)⟩
def num_Compare.j0 : Nat → Int → Bool → Bool → ByteArray → Int → Bool → ByteArray → Int → Option (Int)
  | 0, _, _, _, _, _, _, _, _ => none
  | k + 1, x5, x18, x106000, x106001, x106002, x107000, x107001, x107002 => if x18 = true then (some x5) else ((cmp_Compare_int.f (wrap64 ((x106001.size : Int) + x106002)) (wrap64 ((x107001.size : Int) + x107002))).bind fun t111 => ((num_Num_side.f x106000 x106001 x106002).bind fun t112 => ((strings_Compare.f x106001 x107001).bind fun t113 => ((cmp_Or_int.f k (([t111, t113] : List Int))).bind fun t117 => (some (wrap64 (t112 * t117)))))))
def num_Compare.f (k : Nat) (a0_0 : Bool) (a0_1 : ByteArray) (a0_2 : Int) (a1_0 : Bool) (a1_1 : ByteArray) (a1_2 : Int) : Option (Int) := (num_Num_side.f a0_0 a0_1 a0_2).bind fun t107 => ((num_Num_side.f a1_0 a1_1 a1_2).bind fun t108 => ((cmp_Compare_int.f t107 t108).bind fun t109 => (if t109 = 0 then ((num_Num_side.f a0_0 a0_1 a0_2).bind fun t110 => (num_Compare.j0 k t109 (t110 == 0) a0_0 a0_1 a0_2 a1_0 a1_1 a1_2)) else (num_Compare.j0 k t109 true a0_0 a0_1 a0_2 a1_0 a1_1 a1_2))))
theorem num_Compare.mono_l : ∀ k, (∀ y0 y1 y2 y3 y4 y5 y6 y7, LeO (num_Compare.j0 k y0 y1 y2 y3 y4 y5 y6 y7) (num_Compare.j0 (k + 1) y0 y1 y2 y3 y4 y5 y6 y7))
  | 0 => fun _ _ _ _ _ _ _ _ r h => by simp [num_Compare.j0] at h
  | k + 1 => by
    have ih0 := num_Compare.mono_l k
    · intro y0 y1 y2 y3 y4 y5 y6 y7
      unfold num_Compare.j0
      repeat' first
      | (with_reducible exact ih0 _ _ _ _ _ _ _ _)
      | (with_reducible exact cmp_Or_int.mono _ _)
      | (with_reducible exact LeO.refl _)
      | (with_reducible exact LeO.none _)
      | (with_reducible refine LeO.ite ?_ ?_)
      | (with_reducible refine LeO.bind ?_ (fun _ => ?_))
      | exact ih0 _ _ _ _ _ _ _ _
      | exact cmp_Or_int.mono _ _
      | exact LeO.none _
      | refine LeO.ite ?_ ?_
      | refine LeO.bind ?_ (fun _ => ?_)
theorem num_Compare.mono : ∀ a0 a1 a2 a3 a4 a5 k, LeO (num_Compare.f k a0 a1 a2 a3 a4 a5) (num_Compare.f (k + 1) a0 a1 a2 a3 a4 a5) := by
  intro a0 a1 a2 a3 a4 a5 k
  have ih0 := num_Compare.mono_l k
  unfold num_Compare.f
  repeat' first
      | (with_reducible exact ih0 _ _ _ _ _ _ _ _)
      | (with_reducible exact cmp_Or_int.mono _ _)
      | (with_reducible exact LeO.refl _)
      | (with_reducible exact LeO.none _)
      | (with_reducible refine LeO.ite ?_ ?_)
      | (with_reducible refine LeO.bind ?_ (fun _ => ?_))
      | exact ih0 _ _ _ _ _ _ _ _
      | exact cmp_Or_int.mono _ _
      | exact LeO.none _
      | refine LeO.ite ?_ ?_
      | refine LeO.bind ?_ (fun _ => ?_)
def num_Compare.T5 : Bool × List (List Nat × List Nat) := (true, [([], []), ([0], [0]), ([], []), ([], []), ([3], [3]), ([], []), ([5], [5]), ([4, 6, 1], [4, 6]), ([2, 7], [2, 7]), ([8, 7], [8]), ([1, 9], [1, 9]), ([10, 9, 0, 1, 2, 3, 4, 5, 6, 7, 8, 9, 10], [10])])
def num_Compare.B5 : List Nat := [0, 1, 0, 0, 8, 0, 32, 123, 255, 511, 1023, 2047]
theorem num_Compare.tab5 : rtab .any (opsOf Tryz.f52 5) = num_Compare.T5 := by kernel_rfl
theorem num_Compare.bits5 : waitsOk num_Compare.T5.2 num_Compare.B5 = true := by kernel_rfl
set_option maxHeartbeats 8000000 in
set_option maxRecDepth 100000 in
theorem num_Compare.calls (k : Nat) (a0_0 : Bool) (a0_1 : ByteArray) (a0_2 : Int) (a1_0 : Bool) (a1_1 : ByteArray) (a1_2 : Int) (r : Int) (w : World) (h : num_Compare.f k a0_0 a0_1 a0_2 a1_0 a1_1 a1_2 = some r) :
    Calls Tryz.prog 52 #[.agg #[.bool a0_0, .string a0_1, .int .i64 a0_2], .agg #[.bool a1_0, .string a1_1, .int .i64 a1_2]] w fun e w' => e = .returned (.int .i64 r) ∧ Below w.heap.size w w' := by
  have hu24 := Tryz.underlying24
  have HB := Aside0.mk (Below.refl w.heap.size w)
  have H : ((num_Num_side.f a0_0 a0_1 a0_2).bind fun t107 => ((num_Num_side.f a1_0 a1_1 a1_2).bind fun t108 => ((cmp_Compare_int.f t107 t108).bind fun t109 => (if t109 = 0 then ((num_Num_side.f a0_0 a0_1 a0_2).bind fun t110 => (num_Compare.j0 k t109 (t110 == 0) a0_0 a0_1 a0_2 a1_0 a1_1 a1_2)) else (num_Compare.j0 k t109 true a0_0 a0_1 a0_2 a1_0 a1_1 a1_2))))) = some r := h
  clear h
  replace H := Option.bind_eq_some_iff.mp H
  obtain ⟨t107, A30, H⟩ := H
  replace H : ((num_Num_side.f a1_0 a1_1 a1_2).bind fun t108 => ((cmp_Compare_int.f t107 t108).bind fun t109 => (if t109 = 0 then ((num_Num_side.f a0_0 a0_1 a0_2).bind fun t110 => (num_Compare.j0 k t109 (t110 == 0) a0_0 a0_1 a0_2 a1_0 a1_1 a1_2)) else (num_Compare.j0 k t109 true a0_0 a0_1 a0_2 a1_0 a1_1 a1_2)))) = some r := H
  have A3 := Aside0.mk A30
  clear A30
  replace H := Option.bind_eq_some_iff.mp H
  obtain ⟨t108, A40, H⟩ := H
  replace H : ((cmp_Compare_int.f t107 t108).bind fun t109 => (if t109 = 0 then ((num_Num_side.f a0_0 a0_1 a0_2).bind fun t110 => (num_Compare.j0 k t109 (t110 == 0) a0_0 a0_1 a0_2 a1_0 a1_1 a1_2)) else (num_Compare.j0 k t109 true a0_0 a0_1 a0_2 a1_0 a1_1 a1_2))) = some r := H
  have A4 := Aside0.mk A40
  clear A40
  replace H := Option.bind_eq_some_iff.mp H
  obtain ⟨t109, A50, H⟩ := H
  replace H : (if t109 = 0 then ((num_Num_side.f a0_0 a0_1 a0_2).bind fun t110 => (num_Compare.j0 k t109 (t110 == 0) a0_0 a0_1 a0_2 a1_0 a1_1 a1_2)) else (num_Compare.j0 k t109 true a0_0 a0_1 a0_2 a1_0 a1_1 a1_2)) = some r := H
  have A5 := Aside0.mk A50
  clear A50
  have HC6 := Aside0.mk H
  clear H
  go_enter Tryz.func52, Tryz.ntmps52
  try go_wp2_with (first | ((with_reducible refine gate_dst (N := 2) rfl ?_); refine box_event ?hg (N := 2) ?hd (cs := #[.bool a0_0, .string a0_1, .int .i64 a0_2]) (t := 24) ?hr ?_; (case hd => rfl); (case hg => rfl); (case hr => first | (go_simp; done) | (go_simp; rfl)); intro gb105 hg w7 hbox hb; have n0_ := Aside0.mk (below_step (by repeat (first | (with_reducible first | exact HB.out | apply below_alloc | apply pw_below_drewN | apply below_drew1) | exact HB.out)) hb); have n1_ := Aside0.mk (hbox); have n2_ := Aside0.mk ((by rw [hg]; exact (below_size (by repeat (first | (with_reducible first | exact HB.out | apply below_alloc | apply pw_below_drewN | apply below_drew1) | exact HB.out))) : w.heap.size ≤ gb105)); have n3_ := Aside0.mk ((by rw [hg]; exact (below_size (by repeat (first | (with_reducible first | exact HB.out | apply below_alloc | apply pw_below_drewN | apply below_drew1) | exact HB.out))) : w.heap.size ≤ gb105)); clear HB; have HB := n0_; have BK105 := n1_; have GW105 := n2_; have GE105 := n3_; clear n0_ n1_ n2_ n3_; clear hb hbox hg) | ((with_reducible refine gate_dst (N := 3) rfl ?_); refine box_event ?hg (N := 3) ?hd (cs := #[.bool a1_0, .string a1_1, .int .i64 a1_2]) (t := 24) ?hr ?_; (case hd => rfl); (case hg => rfl); (case hr => first | (go_simp; done) | (go_simp; rfl)); intro gb106 hg w8 hbox hb; have n0_ := Aside0.mk (blk_below (g := gb105) (o := .cells #[.bool a0_0, .string a0_1, .int .i64 a0_2] 24 (0, 0)) (by (with_reducible repeat (first | refine blk_drewN ?_ _ | refine blk_drew ?_ | refine blk_alloc ?_ _)); exact BK105.out) hb); have n1_ := Aside0.mk (below_step (by repeat (first | (with_reducible first | exact HB.out | apply below_alloc | apply pw_below_drewN | apply below_drew1 | refine below_set ?_ GE105.out) | exact HB.out)) hb); have n2_ := Aside0.mk (hbox); have n3_ := Aside0.mk ((by rw [hg]; exact (below_size (by repeat (first | (with_reducible first | exact HB.out | apply below_alloc | apply pw_below_drewN | apply below_drew1 | refine below_set ?_ GE105.out) | exact HB.out))) : w.heap.size ≤ gb106)); have n4_ := Aside0.mk ((by rw [hg]; exact (below_size (by repeat (first | (with_reducible first | exact HB.out | apply below_alloc | apply pw_below_drewN | apply below_drew1 | refine below_set ?_ GE105.out) | exact HB.out))) : w.heap.size ≤ gb106)); have n5_ := Aside0.mk ((by rw [hg]; exact Nat.ne_of_lt (blk_lt (g := gb105) (o := .cells #[.bool a0_0, .string a0_1, .int .i64 a0_2] 24 (0, 0)) (by (with_reducible repeat (first | refine blk_drewN ?_ _ | refine blk_drew ?_ | refine blk_alloc ?_ _)); exact BK105.out)) : gb105 ≠ gb106)); have n6_ := Aside0.mk ((by rw [hg]; exact Nat.ne_of_gt (blk_lt (g := gb105) (o := .cells #[.bool a0_0, .string a0_1, .int .i64 a0_2] 24 (0, 0)) (by (with_reducible repeat (first | refine blk_drewN ?_ _ | refine blk_drew ?_ | refine blk_alloc ?_ _)); exact BK105.out)) : gb106 ≠ gb105)); clear BK105; clear HB; have BK105 := n0_; have HB := n1_; have BK106 := n2_; have GW106 := n3_; have GE106 := n4_; have NB105_106 := n5_; have NB106_105 := n6_; clear n0_ n1_ n2_ n3_ n4_ n5_ n6_; clear hb hbox hg))
  have n0_ := Aside0.mk (blk_drew BK105.out)
  have n1_ := Aside0.mk (blk_drew BK106.out)
  have n2_ := Aside0.mk (below_drew1 HB.out)
  clear BK105
  clear BK106
  clear HB
  have BK105 := n0_
  have BK106 := n1_
  have HB := n2_
  clear n0_ n1_ n2_
  refine start_ (n := 6) (S := fun w' => w'.cell? ⟨gb105, 0, none⟩ = some (.bool a0_0) ∧ w'.cell? ⟨gb105, 1, none⟩ = some (.string a0_1) ∧ w'.cell? ⟨gb105, 2, none⟩ = some (.int .i64 a0_2) ∧ w'.cell? ⟨gb106, 0, none⟩ = some (.bool a1_0) ∧ w'.cell? ⟨gb106, 1, none⟩ = some (.string a1_1) ∧ w'.cell? ⟨gb106, 2, none⟩ = some (.int .i64 a1_2)) (ds := []) #[false, false, false, false, false, false] (by kernel_rfl) rfl rfl ⟨(blk_cell BK105.out 0).trans rfl, (blk_cell BK105.out 1).trans rfl, (blk_cell BK105.out 2).trans rfl, (blk_cell BK106.out 0).trans rfl, (blk_cell BK106.out 1).trans rfl, (blk_cell BK106.out 2).trans rfl⟩ (fun hHeld => ?_)
  generalize w8.drew = w9 at BK105 BK106 HB hHeld ⊢
  refine take_ (i := 0) (N := some 7) (v := ?_) (a' := ?_) #[true, false, false, false, false, false] rfl rfl (by kernel_rfl) (fun _ _ _ h => h) (Or.inl ⟨by rfl, ?_⟩) hHeld ?_ ?_
  rotate_left
  · rintro w' ⟨s0, s1, s2, s3, s4, s5⟩
    go_simp
    with_reducible rfl
  rotate_left
  · simp only [Act.put, List.setIfInBounds_toArray, List.set_cons_zero, List.set_cons_succ, i64_w, i32_w]
    rfl
  refine take_ (i := 2) (N := some 9) (v := ?_) (a' := ?_) #[true, false, true, false, false, false] rfl rfl (by kernel_rfl) (fun _ _ _ h => h) (Or.inl ⟨by rfl, ?_⟩) hHeld ?_ ?_
  rotate_left
  · rintro w' ⟨s0, s1, s2, s3, s4, s5⟩
    go_simp
    with_reducible rfl
  rotate_left
  · simp only [Act.put, List.setIfInBounds_toArray, List.set_cons_zero, List.set_cons_succ, i64_w, i32_w]
    rfl
  refine one_ (i := 1) (N := some 8) #[true, true, true, false, false, false] rfl rfl (by kernel_rfl) (by decide) (fun K hK => ?_)
  refine goes_ Tryz.func81 (by kernel_rfl) rfl #[.agg #[.bool a0_0, .string a0_1, .int .i64 a0_2]] (by rfl) rfl rfl (by (try simp only [List.map_toArray, List.map_cons, List.map_nil]); first | done | rfl | (simp only [List.length_drop, List.length_take]; rfl)) ?_
  with_reducible refine (num_Num_side.calls a0_0 a0_1 a0_2 t107 _ A3.out).mono ?_
  rintro e w10 ⟨rfl, hb⟩
  refine ⟨_, rfl, ?_⟩
  have n0_ := Aside0.mk (blk_below (g := gb105) (o := .cells #[.bool a0_0, .string a0_1, .int .i64 a0_2] 24 (0, 0)) (by (with_reducible repeat (first | refine blk_drewN ?_ _ | refine blk_drew ?_ | refine blk_alloc ?_ _)); exact BK105.out) hb)
  have n1_ := Aside0.mk (blk_below (g := gb106) (o := .cells #[.bool a1_0, .string a1_1, .int .i64 a1_2] 24 (0, 0)) (by (with_reducible repeat (first | refine blk_drewN ?_ _ | refine blk_drew ?_ | refine blk_alloc ?_ _)); exact BK106.out) hb)
  have n2_ := Aside0.mk (below_step (by repeat (first | (with_reducible first | exact HB.out | apply below_alloc | apply pw_below_drewN | apply below_drew1 | refine below_set ?_ GE105.out | refine below_set ?_ GE106.out) | exact HB.out)) hb)
  clear BK105
  clear BK106
  clear HB
  have BK105 := n0_
  have BK106 := n1_
  have HB := n2_
  clear n0_ n1_ n2_
  (try clear hb)
  (try clear hb2)
  (try clear hk)
  (try clear hi)
  refine hK.out _ _ ⟨(blk_cell BK105.out 0).trans rfl, (blk_cell BK105.out 1).trans rfl, (blk_cell BK105.out 2).trans rfl, (blk_cell BK106.out 0).trans rfl, (blk_cell BK106.out 1).trans rfl, (blk_cell BK106.out 2).trans rfl⟩ (fun hHeld => ?_)
  clear hK K
  refine norm_ (a' := ?_) ?_ ?_
  rotate_left
  · show Act.put _ (some 8) _ = _
    simp only [Act.put, List.setIfInBounds_toArray, List.set_cons_zero, List.set_cons_succ, i64_w, i32_w]
    rfl
  refine one_ (i := 3) (N := some 10) #[true, true, true, true, false, false] rfl rfl (by kernel_rfl) (by decide) (fun K hK => ?_)
  refine goes_ Tryz.func81 (by kernel_rfl) rfl #[.agg #[.bool a1_0, .string a1_1, .int .i64 a1_2]] (by rfl) rfl rfl (by (try simp only [List.map_toArray, List.map_cons, List.map_nil]); first | done | rfl | (simp only [List.length_drop, List.length_take]; rfl)) ?_
  with_reducible refine (num_Num_side.calls a1_0 a1_1 a1_2 t108 _ A4.out).mono ?_
  rintro e w11 ⟨rfl, hb⟩
  refine ⟨_, rfl, ?_⟩
  have n0_ := Aside0.mk (blk_below (g := gb105) (o := .cells #[.bool a0_0, .string a0_1, .int .i64 a0_2] 24 (0, 0)) (by (with_reducible repeat (first | refine blk_drewN ?_ _ | refine blk_drew ?_ | refine blk_alloc ?_ _)); exact BK105.out) hb)
  have n1_ := Aside0.mk (blk_below (g := gb106) (o := .cells #[.bool a1_0, .string a1_1, .int .i64 a1_2] 24 (0, 0)) (by (with_reducible repeat (first | refine blk_drewN ?_ _ | refine blk_drew ?_ | refine blk_alloc ?_ _)); exact BK106.out) hb)
  have n2_ := Aside0.mk (below_step (by repeat (first | (with_reducible first | exact HB.out | apply below_alloc | apply pw_below_drewN | apply below_drew1 | refine below_set ?_ GE105.out | refine below_set ?_ GE106.out) | exact HB.out)) hb)
  clear BK105
  clear BK106
  clear HB
  have BK105 := n0_
  have BK106 := n1_
  have HB := n2_
  clear n0_ n1_ n2_
  (try clear hb)
  (try clear hb2)
  (try clear hk)
  (try clear hi)
  refine hK.out _ _ ⟨(blk_cell BK105.out 0).trans rfl, (blk_cell BK105.out 1).trans rfl, (blk_cell BK105.out 2).trans rfl, (blk_cell BK106.out 0).trans rfl, (blk_cell BK106.out 1).trans rfl, (blk_cell BK106.out 2).trans rfl⟩ (fun hHeld => ?_)
  clear hK K
  refine norm_ (a' := ?_) ?_ ?_
  rotate_left
  · show Act.put _ (some 10) _ = _
    simp only [Act.put, List.setIfInBounds_toArray, List.set_cons_zero, List.set_cons_succ, i64_w, i32_w]
    rfl
  refine one_ (i := 4) (N := some 11) #[true, true, true, true, true, false] rfl rfl (by kernel_rfl) (by decide) (fun K hK => ?_)
  refine goes_ Tryz.func50 (by kernel_rfl) rfl #[.int .i64 t107, .int .i64 t108] (by rfl) rfl rfl (by (try simp only [List.map_toArray, List.map_cons, List.map_nil]); first | done | rfl | (simp only [List.length_drop, List.length_take]; rfl)) ?_
  with_reducible refine (cmp_Compare_int.calls t107 t108 t109 _ A5.out).mono ?_
  rintro e w' ⟨rfl, ⟨nd, rfl⟩⟩
  refine ⟨_, rfl, ?_⟩
  refine hK.out _ _ ⟨(blk_cell BK105.out 0).trans rfl, (blk_cell BK105.out 1).trans rfl, (blk_cell BK105.out 2).trans rfl, (blk_cell BK106.out 0).trans rfl, (blk_cell BK106.out 1).trans rfl, (blk_cell BK106.out 2).trans rfl⟩ (fun hHeld => ?_)
  clear hK K
  refine norm_ (a' := ?_) ?_ ?_
  rotate_left
  · show Act.put _ (some 11) _ = _
    simp only [Act.put, List.setIfInBounds_toArray, List.set_cons_zero, List.set_cons_succ, i64_w, i32_w]
    rfl
  refine pure_ (i := 5) (N := some 5) (v := ?_) (a' := ?_) #[true, true, true, true, true, true] rfl rfl (by kernel_rfl) (fun _ _ _ h => h) (Or.inl ⟨by rfl, ?_⟩) ?_ ?_
  rotate_left
  · intro w'
    go_simp
    with_reducible rfl
  rotate_left
  · simp only [Act.put, List.setIfInBounds_toArray, List.set_cons_zero, List.set_cons_succ, i64_w, i32_w]
    rfl
  refine done_ (by kernel_rfl) ?_
  go_upto_region 2 with (fail)
  go_cut [18] (fun v18 wc => ∃ (kq : Nat) (x18_5 : Bool), v18 = .bool x18_5 ∧ Aside0 (num_Compare.j0 kq t109 x18_5 a0_0 a0_1 a0_2 a1_0 a1_1 a1_2 = some r) ∧ Aside0 (kq ≤ k) ∧ Aside0 (wc.heap[gb105]? = some (.cells #[.bool a0_0, .string a0_1, .int .i64 a0_2] 24 (0, 0))) ∧ Aside0 (wc.heap[gb106]? = some (.cells #[.bool a1_0, .string a1_1, .int .i64 a1_2] 24 (0, 0))) ∧ Aside0 (Below w.heap.size w wc))
  case first =>
    have H := HC6.out
    clear HC6
    by_cases c12 : t109 = 0
    · rw [if_pos c12] at H
      have c12b0 : (t109 == 0) = true := beq_iff_eq.mpr c12
      have c12b1 : (t109 != 0) = false := bne_eq_false_iff_eq.mpr c12
      clear c12
      (first | rw [c12b0] | (simp only [i64_w, i32_w]; rw [c12b0]) | skip)
      replace H := Option.bind_eq_some_iff.mp H
      obtain ⟨t110, A130, H⟩ := H
      replace H : (num_Compare.j0 k t109 (t110 == 0) a0_0 a0_1 a0_2 a1_0 a1_1 a1_2) = some r := H
      have A13 := Aside0.mk A130
      clear A130
      have H' := Aside0.mk H
      clear H
      have hnb14 := NB105_106.out
      have hnc14 := NB106_105.out
      have hcz15_0 : w11.cell? ⟨gb105, 0, none⟩ = some (.bool a0_0) := (blk_cell BK105.out 0).trans rfl
      have hcz15_1 : w11.cell? ⟨gb105, 1, none⟩ = some (.string a0_1) := (blk_cell BK105.out 1).trans rfl
      have hcz15_2 : w11.cell? ⟨gb105, 2, none⟩ = some (.int .i64 a0_2) := (blk_cell BK105.out 2).trans rfl
      have hfz15_0 := blk_frozen BK105.out 0
      have hfz15_1 := blk_frozen BK105.out 1
      have hfz15_2 := blk_frozen BK105.out 2
      go_wp2_with (first | (go_at_call 81; (with_reducible refine (num_Num_side.calls a0_0 a0_1 a0_2 t110 _ A13.out).mono ?_); rintro e w16 ⟨rfl, hb⟩; have n0_ := Aside0.mk (blk_below (g := gb105) (o := .cells #[.bool a0_0, .string a0_1, .int .i64 a0_2] 24 (0, 0)) (by (with_reducible repeat (first | refine blk_drewN ?_ _ | refine blk_drew ?_ | refine blk_alloc ?_ _)); exact BK105.out) hb); have n1_ := Aside0.mk (blk_below (g := gb106) (o := .cells #[.bool a1_0, .string a1_1, .int .i64 a1_2] 24 (0, 0)) (by (with_reducible repeat (first | refine blk_drewN ?_ _ | refine blk_drew ?_ | refine blk_alloc ?_ _)); exact BK106.out) hb); have n2_ := Aside0.mk (below_step (by repeat (first | (with_reducible first | exact HB.out | apply below_alloc | apply pw_below_drewN | apply below_drew1 | refine below_set ?_ GE105.out | refine below_set ?_ GE106.out) | exact HB.out)) hb); clear BK105; clear BK106; clear HB; have BK105 := n0_; have BK106 := n1_; have HB := n2_; clear n0_ n1_ n2_; (try clear hb); (try clear hb2); (try clear hk); (try clear hi)))
      go_meet
      case rel => exact ⟨_, ((t110 == 0)), (by first | rfl | (simp; done) | (simp [*]; done) | (simp [wrap64]; done)), H', ⟨by first | omega | exact Nat.le_refl _⟩, ⟨by (with_reducible repeat (first | refine blk_drewN ?_ _ | refine blk_drew ?_ | refine blk_alloc ?_ _)); exact BK105.out⟩, ⟨by (with_reducible repeat (first | refine blk_drewN ?_ _ | refine blk_drew ?_ | refine blk_alloc ?_ _)); exact BK106.out⟩, ⟨by repeat (first | (with_reducible first | exact HB.out | apply below_alloc | apply pw_below_drewN | apply below_drew1 | refine below_set ?_ GE105.out | refine below_set ?_ GE106.out) | exact HB.out)⟩⟩
    · rw [if_neg c12] at H
      have c12b0 : (t109 == 0) = false := beq_eq_false_iff_ne.mpr c12
      have c12b1 : (t109 != 0) = true := bne_iff_ne.mpr c12
      (first | rw [c12b0] | (simp only [i64_w, i32_w]; rw [c12b0]) | skip)
      have H' := Aside0.mk H
      clear H
      go_wp2
      go_meet
      case rel => exact ⟨_, (true), (by first | rfl | (simp; done) | (simp [*]; done) | (simp [wrap64]; done)), H', ⟨by first | omega | exact Nat.le_refl _⟩, ⟨by (with_reducible repeat (first | refine blk_drewN ?_ _ | refine blk_drew ?_ | refine blk_alloc ?_ _)); exact BK105.out⟩, ⟨by (with_reducible repeat (first | refine blk_drewN ?_ _ | refine blk_drew ?_ | refine blk_alloc ?_ _)); exact BK106.out⟩, ⟨by repeat (first | (with_reducible first | exact HB.out | apply below_alloc | apply pw_below_drewN | apply below_drew1 | refine below_set ?_ GE105.out | refine below_set ?_ GE106.out) | exact HB.out)⟩⟩
  case rest =>
    clear HC6
    try clear c1
    try clear p2
    try clear c5
    try clear c8
    try clear c12
    try clear c12b0
    try clear c12b1
    try clear c14
    try clear hcz15_0
    try clear hcz15_1
    try clear hcz15_2
    try clear hfz15_0
    try clear hfz15_1
    try clear hfz15_2
    obtain ⟨kq, x18_5, rfl, HA, HJ5, BK105, BK106, HB⟩ := hcut
    cases kq with
    | zero => exact absurd HA.out (by simp [num_Compare.j0])
    | succ kj5 =>
      have H := HA.out
      clear HA
      simp only [num_Compare.j0] at H
      by_cases c17 : x18_5 = true
      · subst c17
        have H1 : (some t109) = some r := by rw [if_pos rfl] at H; exact H
        clear H
        have H := H1
        clear H1
        obtain rfl := Option.some.inj H
        go_wp2
        go_ret
        try simp only [beq_nil_isEmpty, bytesLess_gtr]
        exact ⟨by first | rfl | (simp [errW_none, errW_some] <;> rfl) | (simp [*, errW_none, errW_some] <;> rfl), by repeat (first | (with_reducible first | exact HB.out | apply below_alloc | apply pw_below_drewN | apply below_drew1 | refine below_set ?_ GE105.out | refine below_set ?_ GE106.out) | exact HB.out)⟩
      · replace c17 := Bool.eq_false_iff.mpr c17
        subst c17
        have H1 : ((cmp_Compare_int.f (wrap64 ((a0_1.size : Int) + a0_2)) (wrap64 ((a1_1.size : Int) + a1_2))).bind fun t111 => ((num_Num_side.f a0_0 a0_1 a0_2).bind fun t112 => ((strings_Compare.f a0_1 a1_1).bind fun t113 => ((cmp_Or_int.f kj5 (([t111, t113] : List Int))).bind fun t117 => (some (wrap64 (t112 * t117))))))) = some r := by rw [if_neg (show ¬ (false = true) by decide)] at H; exact H
        clear H
        have H := H1
        clear H1
        replace H := Option.bind_eq_some_iff.mp H
        obtain ⟨t111, A180, H⟩ := H
        replace H : ((num_Num_side.f a0_0 a0_1 a0_2).bind fun t112 => ((strings_Compare.f a0_1 a1_1).bind fun t113 => ((cmp_Or_int.f kj5 (([t111, t113] : List Int))).bind fun t117 => (some (wrap64 (t112 * t117)))))) = some r := H
        have A18 := Aside0.mk A180
        clear A180
        replace H := Option.bind_eq_some_iff.mp H
        obtain ⟨t112, A190, H⟩ := H
        replace H : ((strings_Compare.f a0_1 a1_1).bind fun t113 => ((cmp_Or_int.f kj5 (([t111, t113] : List Int))).bind fun t117 => (some (wrap64 (t112 * t117))))) = some r := H
        have A19 := Aside0.mk A190
        clear A190
        replace H := Option.bind_eq_some_iff.mp H
        obtain ⟨t113, A200, H⟩ := H
        replace H : ((cmp_Or_int.f kj5 (([t111, t113] : List Int))).bind fun t117 => (some (wrap64 (t112 * t117)))) = some r := H
        have A20 := Aside0.mk A200
        clear A200
        obtain ⟨y114, hy114⟩ : ∃ y_ : List Int, y_ = (([t111, t113] : List Int)) := ⟨_, rfl⟩
        replace H : ((cmp_Or_int.f kj5 y114).bind fun t117 => (some (wrap64 (t112 * t117)))) = some r := by first | (rw [hy114]; with_reducible exact H) | (have H2_ := (Option.bind_some _ _).symm.trans H; rw [hy114]; with_reducible exact H2_) | (have H2_ := (Option.bind_some _ _).symm.trans H; with_reducible exact H2_) | with_reducible exact H | (rw [hy114]; exact H) | exact H
        have Ny114 := Aside0.mk hy114
        clear hy114
        replace H := Option.bind_eq_some_iff.mp H
        obtain ⟨t117, A210, H⟩ := H
        replace H : (some (wrap64 (t112 * t117))) = some r := H
        have A21 := Aside0.mk A210
        clear A210
        obtain rfl := Option.some.inj H
        have hnb22 := NB105_106.out
        have hnc22 := NB106_105.out
        have hcz23_0 : wc.cell? ⟨gb105, 0, none⟩ = some (.bool a0_0) := (blk_cell BK105.out 0).trans rfl
        have hcz23_1 : wc.cell? ⟨gb105, 1, none⟩ = some (.string a0_1) := (blk_cell BK105.out 1).trans rfl
        have hcz23_2 : wc.cell? ⟨gb105, 2, none⟩ = some (.int .i64 a0_2) := (blk_cell BK105.out 2).trans rfl
        have hfz23_0 := blk_frozen BK105.out 0
        have hfz23_1 := blk_frozen BK105.out 1
        have hfz23_2 := blk_frozen BK105.out 2
        have hcz24_0 : wc.cell? ⟨gb106, 0, none⟩ = some (.bool a1_0) := (blk_cell BK106.out 0).trans rfl
        have hcz24_1 : wc.cell? ⟨gb106, 1, none⟩ = some (.string a1_1) := (blk_cell BK106.out 1).trans rfl
        have hcz24_2 : wc.cell? ⟨gb106, 2, none⟩ = some (.int .i64 a1_2) := (blk_cell BK106.out 2).trans rfl
        have hfz24_0 := blk_frozen BK106.out 0
        have hfz24_1 := blk_frozen BK106.out 1
        have hfz24_2 := blk_frozen BK106.out 2
        try go_wp2_with (first | ((with_reducible refine gate_callee (f := 50) rfl ?_); refine goesL_ (some 32) rfl rfl Tryz.func50 (by kernel_rfl) rfl #[.int .i64 (wrap64 ((a0_1.size : Int) + a0_2)), .int .i64 (wrap64 ((a1_1.size : Int) + a1_2))] rfl (by (try simp only [List.map_toArray, List.map_cons, List.map_nil]); first | done | rfl | (simp only [List.length_drop, List.length_take]; rfl)) ?_; (with_reducible refine (cmp_Compare_int.calls (wrap64 ((a0_1.size : Int) + a0_2)) (wrap64 ((a1_1.size : Int) + a1_2)) t111 _ A18.out).mono ?_); rintro e w' ⟨rfl, ⟨nd, rfl⟩⟩; refine ⟨_, rfl, ?_⟩))
        (try (rw [drewN_self wc]; generalize hq_ : World.drewN wc _ = wc; have n0_ : Aside0 (wc.heap[gb105]? = some (.cells #[.bool a0_0, .string a0_1, .int .i64 a0_2] 24 (0, 0))) := ⟨by rw [← hq_]; exact (by (with_reducible repeat (first | refine blk_drewN ?_ _ | refine blk_drew ?_ | refine blk_alloc ?_ _)); exact BK105.out)⟩; have n1_ : Aside0 (wc.heap[gb106]? = some (.cells #[.bool a1_0, .string a1_1, .int .i64 a1_2] 24 (0, 0))) := ⟨by rw [← hq_]; exact (by (with_reducible repeat (first | refine blk_drewN ?_ _ | refine blk_drew ?_ | refine blk_alloc ?_ _)); exact BK106.out)⟩; have n2_ : Aside0 (Below w.heap.size w wc) := ⟨by rw [← hq_]; exact (by repeat (first | (with_reducible first | exact HB.out | apply below_alloc | apply pw_below_drewN | apply below_drew1 | refine below_set ?_ GE105.out | refine below_set ?_ GE106.out) | exact HB.out))⟩; clear BK105 BK106 HB hq_; have BK105 := n0_; have BK106 := n1_; have HB := n2_; clear n0_ n1_ n2_))
        have n0_ := Aside0.mk (blk_drew BK105.out)
        have n1_ := Aside0.mk (blk_drew BK106.out)
        have n2_ := Aside0.mk (below_drew1 HB.out)
        clear BK105
        clear BK106
        clear HB
        have BK105 := n0_
        have BK106 := n1_
        have HB := n2_
        clear n0_ n1_ n2_
        refine start_ (n := 12) (S := fun w' => w'.cell? ⟨gb105, 0, none⟩ = some (.bool a0_0) ∧ w'.cell? ⟨gb105, 1, none⟩ = some (.string a0_1) ∧ w'.cell? ⟨gb105, 2, none⟩ = some (.int .i64 a0_2) ∧ w'.cell? ⟨gb106, 0, none⟩ = some (.bool a1_0) ∧ w'.cell? ⟨gb106, 1, none⟩ = some (.string a1_1) ∧ w'.cell? ⟨gb106, 2, none⟩ = some (.int .i64 a1_2)) (ds := []) #[false, false, false, false, false, false, false, false, false, false, false, false] (by kernel_rfl) rfl rfl ⟨(blk_cell BK105.out 0).trans rfl, (blk_cell BK105.out 1).trans rfl, (blk_cell BK105.out 2).trans rfl, (blk_cell BK106.out 0).trans rfl, (blk_cell BK106.out 1).trans rfl, (blk_cell BK106.out 2).trans rfl⟩ (fun hHeld => ?_); refine with_tabW num_Compare.tab5 num_Compare.bits5 (fun HT_ HW_ => ?_)
        generalize wc.drew = w25 at BK105 BK106 HB hHeld ⊢
        refine pure_ (i := 2) (N := some 35) (v := ?_) (a' := ?_) #[false, false, true, false, false, false, false, false, false, false, false, false] rfl rfl (any_of HT_.out (by kernel_rfl)) (fun _ _ _ h => h) (Or.inl ⟨by rfl, ?_⟩) ?_ ?_
        rotate_left
        · intro w'
          go_simp
          with_reducible rfl
        rotate_left
        · simp only [Act.put, List.setIfInBounds_toArray, List.set_cons_zero, List.set_cons_succ, i64_w, i32_w]
          rfl
        refine pure_ (i := 3) (N := some 36) (v := ?_) (a' := ?_) #[false, false, true, true, false, false, false, false, false, false, false, false] rfl rfl (any_of HT_.out (by kernel_rfl)) (fun _ _ _ h => h) (Or.inl ⟨by rfl, ?_⟩) ?_ ?_
        rotate_left
        · intro w'
          go_simp
          with_reducible rfl
        rotate_left
        · simp only [Act.put, List.setIfInBounds_toArray, List.set_cons_zero, List.set_cons_succ, i64_w, i32_w]
          rfl
        refine pure_ (i := 5) (N := some 38) (v := ?_) (a' := ?_) #[false, false, true, true, false, true, false, false, false, false, false, false] rfl rfl (any_of HT_.out (by kernel_rfl)) (fun _ _ _ h => h) (Or.inl ⟨by rfl, ?_⟩) ?_ ?_
        rotate_left
        · intro w'
          go_simp
          with_reducible rfl
        rotate_left
        · simp only [Act.put, List.setIfInBounds_toArray, List.set_cons_zero, List.set_cons_succ, i64_w, i32_w]
          rfl
        refine take_ (i := 0) (N := some 33) (v := ?_) (a' := ?_) #[true, false, true, true, false, true, false, false, false, false, false, false] rfl rfl (take_ofW HT_.out HW_.out (by kernel_rfl)) (fun _ _ _ h => h) (Or.inl ⟨by rfl, ?_⟩) hHeld ?_ ?_
        rotate_left
        · rintro w' ⟨s0, s1, s2, s3, s4, s5⟩
          go_simp
          with_reducible rfl
        rotate_left
        · simp only [Act.put, List.setIfInBounds_toArray, List.set_cons_zero, List.set_cons_succ, i64_w, i32_w]
          rfl
        refine take_ (i := 4) (N := some 37) (v := ?_) (a' := ?_) #[true, false, true, true, true, true, false, false, false, false, false, false] rfl rfl (take_ofW HT_.out HW_.out (by kernel_rfl)) (fun _ _ _ h => h) (Or.inl ⟨by rfl, ?_⟩) hHeld ?_ ?_
        rotate_left
        · rintro w' ⟨s0, s1, s2, s3, s4, s5⟩
          go_simp
          with_reducible rfl
        rotate_left
        · simp only [Act.put, List.setIfInBounds_toArray, List.set_cons_zero, List.set_cons_succ, i64_w, i32_w]
          rfl
        refine take_ (i := 6) (N := some 39) (v := ?_) (a' := ?_) #[true, false, true, true, true, true, true, false, false, false, false, false] rfl rfl (take_ofW HT_.out HW_.out (by kernel_rfl)) (fun _ _ _ h => h) (Or.inl ⟨by rfl, ?_⟩) hHeld ?_ ?_
        rotate_left
        · rintro w' ⟨s0, s1, s2, s3, s4, s5⟩
          go_simp
          with_reducible rfl
        rotate_left
        · simp only [Act.put, List.setIfInBounds_toArray, List.set_cons_zero, List.set_cons_succ, i64_w, i32_w]
          rfl
        refine one_ (i := 1) (N := some 34) #[true, true, true, true, true, true, true, false, false, false, false, false] rfl rfl (one_of HT_.out (by kernel_rfl)) (by decide) (fun K hK => ?_)
        refine goes_ Tryz.func81 (by kernel_rfl) rfl #[.agg #[.bool a0_0, .string a0_1, .int .i64 a0_2]] (by rfl) rfl rfl (by (try simp only [List.map_toArray, List.map_cons, List.map_nil]); first | done | rfl | (simp only [List.length_drop, List.length_take]; rfl)) ?_
        with_reducible refine (num_Num_side.calls a0_0 a0_1 a0_2 t112 _ A19.out).mono ?_
        rintro e w26 ⟨rfl, hb⟩
        refine ⟨_, rfl, ?_⟩
        have n0_ := Aside0.mk (blk_below (g := gb105) (o := .cells #[.bool a0_0, .string a0_1, .int .i64 a0_2] 24 (0, 0)) (by (with_reducible repeat (first | refine blk_drewN ?_ _ | refine blk_drew ?_ | refine blk_alloc ?_ _)); exact BK105.out) hb)
        have n1_ := Aside0.mk (blk_below (g := gb106) (o := .cells #[.bool a1_0, .string a1_1, .int .i64 a1_2] 24 (0, 0)) (by (with_reducible repeat (first | refine blk_drewN ?_ _ | refine blk_drew ?_ | refine blk_alloc ?_ _)); exact BK106.out) hb)
        have n2_ := Aside0.mk (below_step (by repeat (first | (with_reducible first | exact HB.out | apply below_alloc | apply pw_below_drewN | apply below_drew1 | refine below_set ?_ GE105.out | refine below_set ?_ GE106.out) | exact HB.out)) hb)
        clear BK105
        clear BK106
        clear HB
        have BK105 := n0_
        have BK106 := n1_
        have HB := n2_
        clear n0_ n1_ n2_
        (try clear hb)
        (try clear hb2)
        (try clear hk)
        (try clear hi)
        refine hK.out _ _ ⟨(blk_cell BK105.out 0).trans rfl, (blk_cell BK105.out 1).trans rfl, (blk_cell BK105.out 2).trans rfl, (blk_cell BK106.out 0).trans rfl, (blk_cell BK106.out 1).trans rfl, (blk_cell BK106.out 2).trans rfl⟩ (fun hHeld => ?_)
        clear hK K
        refine norm_ (a' := ?_) ?_ ?_
        rotate_left
        · show Act.put _ (some 34) _ = _
          simp only [Act.put, List.setIfInBounds_toArray, List.set_cons_zero, List.set_cons_succ, i64_w, i32_w]
          rfl
        refine one_ (i := 7) (N := some 40) #[true, true, true, true, true, true, true, true, false, false, false, false] rfl rfl (one_of HT_.out (by kernel_rfl)) (by decide) (fun K hK => ?_)
        refine goes_ Tryz.func53 (by kernel_rfl) rfl #[.string a0_1, .string a1_1] (by rfl) rfl rfl (by (try simp only [List.map_toArray, List.map_cons, List.map_nil]); first | done | rfl | (simp only [List.length_drop, List.length_take]; rfl)) ?_
        with_reducible refine (strings_Compare.calls a0_1 a1_1 t113 _ A20.out).mono ?_
        rintro e w' ⟨rfl, ⟨nd, rfl⟩⟩
        refine ⟨_, rfl, ?_⟩
        refine hK.out _ _ ⟨(blk_cell BK105.out 0).trans rfl, (blk_cell BK105.out 1).trans rfl, (blk_cell BK105.out 2).trans rfl, (blk_cell BK106.out 0).trans rfl, (blk_cell BK106.out 1).trans rfl, (blk_cell BK106.out 2).trans rfl⟩ (fun hHeld => ?_)
        clear hK K
        refine norm_ (a' := ?_) ?_ ?_
        rotate_left
        · show Act.put _ (some 40) _ = _
          simp only [Act.put, List.setIfInBounds_toArray, List.set_cons_zero, List.set_cons_succ, i64_w, i32_w]
          rfl
        refine one_ (i := 8) (N := some 41) #[true, true, true, true, true, true, true, true, true, false, false, false] rfl rfl (one_of HT_.out (by kernel_rfl)) (by decide) (fun K hK => ?_)
        refine Kd.R_lit_step (Kd.int .i64) _ 3 ?hg (N := 41) ?hd (xs := ([t111, t113] : List Int)) (inner := [.int .i64 t111, .int .i64 t113]) (ok := fun _ => True) (okp := fun _ => True) ?hr ?hp (fun _ hk => hk) trivial (Below.refl _ _) (Nat.le_refl _) (by simp) ?_; (case hd => rfl); (case hg => rfl); (case hr => first | (go_simp; done) | (go_simp; rfl)); (case hp => exact (Reps.one (show Kd.M (Kd.int .i64) _ _ _ t111 [.int .i64 t111] from rfl) (Reps.one (show Kd.M (Kd.int .i64) _ _ _ t113 [.int .i64 t113] from rfl) (Reps.none _ _))))
        intro v115 w27 ho28 hb hg_ hnew_
        clear hg_ hnew_
        (first | rw [← Ny114.out] at ho28 | (simp only [Int.reduceToNat] at ho28; rw [← Ny114.out] at ho28))
        have n0_ := Aside0.mk (Kd.R_lower ho28 (below_size (by repeat (first | (with_reducible first | exact HB.out | apply below_alloc | apply pw_below_drewN | apply below_drew1 | refine below_set ?_ GE105.out | refine below_set ?_ GE106.out) | exact HB.out))))
        have n1_ := Aside0.mk (blk_below (g := gb105) (o := .cells #[.bool a0_0, .string a0_1, .int .i64 a0_2] 24 (0, 0)) (by (with_reducible repeat (first | refine blk_drewN ?_ _ | refine blk_drew ?_ | refine blk_alloc ?_ _)); exact BK105.out) hb)
        have n2_ := Aside0.mk (blk_below (g := gb106) (o := .cells #[.bool a1_0, .string a1_1, .int .i64 a1_2] 24 (0, 0)) (by (with_reducible repeat (first | refine blk_drewN ?_ _ | refine blk_drew ?_ | refine blk_alloc ?_ _)); exact BK106.out) hb)
        have n3_ := Aside0.mk (below_step (by repeat (first | (with_reducible first | exact HB.out | apply below_alloc | apply pw_below_drewN | apply below_drew1 | refine below_set ?_ GE105.out | refine below_set ?_ GE106.out) | exact HB.out)) hb)
        clear BK105
        clear BK106
        clear HB
        have HO116 := n0_
        have BK105 := n1_
        have BK106 := n2_
        have HB := n3_
        clear n0_ n1_ n2_ n3_
        clear hb ho28
        obtain ⟨Ao29, co29, eo29⟩ := Kd.R_slice HO116.out
        (first | subst eo29 | (injection eo29 with f1_ f2_ f3_; have f4_ := f1_.symm; have f5_ := f3_.symm; clear f1_ f2_ f3_; subst f4_; subst f5_))
        refine hK.out _ _ ⟨(blk_cell BK105.out 0).trans rfl, (blk_cell BK105.out 1).trans rfl, (blk_cell BK105.out 2).trans rfl, (blk_cell BK106.out 0).trans rfl, (blk_cell BK106.out 1).trans rfl, (blk_cell BK106.out 2).trans rfl⟩ (fun hHeld => ?_)
        clear hK K
        refine norm_ (a' := ?_) ?_ ?_
        rotate_left
        · show Act.put _ (some 41) _ = _
          simp only [Act.put, List.setIfInBounds_toArray, List.set_cons_zero, List.set_cons_succ, i64_w, i32_w]
          rfl
        refine one_ (i := 9) (N := some 42) #[true, true, true, true, true, true, true, true, true, true, false, false] rfl rfl (one_of HT_.out (by kernel_rfl)) (by decide) (fun K hK => ?_)
        refine goes_ Tryz.func55 (by kernel_rfl) rfl #[.slice Ao29 y114.length co29] (by rfl) rfl rfl (by (try simp only [List.map_toArray, List.map_cons, List.map_nil]); first | done | rfl | (simp only [List.length_drop, List.length_take]; rfl)) ?_
        with_reducible refine (cmp_Or_int.calls kj5 _ _ y114 t117 _ ?side1 ?side2 A21.out).mono ?_
        (case side1 => repeat (first | exact (Kd.R_reads' HO116.out).2.2 | (with_reducible refine Kd.C_alloc ?_ _) | (with_reducible refine Kd.C_drewN ?_ _) | (with_reducible refine Kd.C_drew ?_)))
        (case side2 => exact (Kd.R_reads' HO116.out).2.1)
        rintro e w' ⟨rfl, ⟨nd, rfl⟩⟩
        refine ⟨_, rfl, ?_⟩
        refine hK.out _ _ ⟨(blk_cell BK105.out 0).trans rfl, (blk_cell BK105.out 1).trans rfl, (blk_cell BK105.out 2).trans rfl, (blk_cell BK106.out 0).trans rfl, (blk_cell BK106.out 1).trans rfl, (blk_cell BK106.out 2).trans rfl⟩ (fun hHeld => ?_)
        clear hK K
        refine norm_ (a' := ?_) ?_ ?_
        rotate_left
        · show Act.put _ (some 42) _ = _
          simp only [Act.put, List.setIfInBounds_toArray, List.set_cons_zero, List.set_cons_succ, i64_w, i32_w]
          rfl
        refine pure_ (i := 10) (N := some 43) (v := ?_) (a' := ?_) #[true, true, true, true, true, true, true, true, true, true, true, false] rfl rfl (any_of HT_.out (by kernel_rfl)) (fun _ _ _ h => h) (Or.inl ⟨by rfl, ?_⟩) ?_ ?_
        rotate_left
        · intro w'
          go_simp
          with_reducible rfl
        rotate_left
        · simp only [Act.put, List.setIfInBounds_toArray, List.set_cons_zero, List.set_cons_succ, i64_w, i32_w]
          rfl
        refine pure_ (i := 11) (N := some 4) (v := ?_) (a' := ?_) #[true, true, true, true, true, true, true, true, true, true, true, true] rfl rfl (any_of HT_.out (by kernel_rfl)) (fun _ _ _ h => h) (Or.inl ⟨by rfl, ?_⟩) ?_ ?_
        rotate_left
        · intro w'
          go_simp
          with_reducible rfl
        rotate_left
        · simp only [Act.put, List.setIfInBounds_toArray, List.set_cons_zero, List.set_cons_succ, i64_w, i32_w]
          rfl
        refine done_ (done_of HT_.out (by kernel_rfl)) ?_
        try go_wp2
        go_ret
        try simp only [beq_nil_isEmpty, bytesLess_gtr]
        exact ⟨by first | rfl | (simp [errW_none, errW_some] <;> rfl) | (simp [*, errW_none, errW_some] <;> rfl), by repeat (first | (with_reducible first | exact HB.out | apply below_alloc | apply pw_below_drewN | apply below_drew1 | refine below_set ?_ GE105.out | refine below_set ?_ GE106.out) | exact HB.out)⟩
def num_Text.f (a0_0 : Bool) (a0_1 : ByteArray) (a0_2 : Int) : Option (ByteArray) := if a0_1.toList = ([] : List UInt8) then (some (⟨#[48]⟩ : ByteArray)) else (if a0_0 = true then (if 1 + a0_1.size ≤ 9223372036854775807 then (if a0_2 = 0 then (some ((⟨#[45]⟩ : ByteArray) ++ a0_1)) else ((strconv_Itoa_83.f a0_2).bind fun t119 => (if 1 + t119.size ≤ 9223372036854775807 then (if ((⟨#[45]⟩ : ByteArray) ++ a0_1).size + ((⟨#[101]⟩ : ByteArray) ++ t119).size ≤ 9223372036854775807 then (some (((⟨#[45]⟩ : ByteArray) ++ a0_1) ++ ((⟨#[101]⟩ : ByteArray) ++ t119))) else (none)) else (none)))) else (none)) else (if a0_2 = 0 then (some a0_1) else ((strconv_Itoa_83.f a0_2).bind fun t120 => (if 1 + t120.size ≤ 9223372036854775807 then (if a0_1.size + ((⟨#[101]⟩ : ByteArray) ++ t120).size ≤ 9223372036854775807 then (some (a0_1 ++ ((⟨#[101]⟩ : ByteArray) ++ t120))) else (none)) else (none)))))
set_option maxHeartbeats 8000000 in
set_option maxRecDepth 100000 in
theorem num_Text.calls (a0_0 : Bool) (a0_1 : ByteArray) (a0_2 : Int) (r : ByteArray) (w : World) (hT : PTabs w) (h : num_Text.f a0_0 a0_1 a0_2 = some r) :
    Calls Tryz.prog 56 #[.agg #[.bool a0_0, .string a0_1, .int .i64 a0_2]] w fun e w' => e = .returned (.string r) ∧ Below w.heap.size w w' := by
  have HT := Aside0.mk hT
  clear hT
  have hu24 := Tryz.underlying24
  have HB := Aside0.mk (Below.refl w.heap.size w)
  have H : (if a0_1.toList = ([] : List UInt8) then (some (⟨#[48]⟩ : ByteArray)) else (if a0_0 = true then (if 1 + a0_1.size ≤ 9223372036854775807 then (if a0_2 = 0 then (some ((⟨#[45]⟩ : ByteArray) ++ a0_1)) else ((strconv_Itoa_83.f a0_2).bind fun t119 => (if 1 + t119.size ≤ 9223372036854775807 then (if ((⟨#[45]⟩ : ByteArray) ++ a0_1).size + ((⟨#[101]⟩ : ByteArray) ++ t119).size ≤ 9223372036854775807 then (some (((⟨#[45]⟩ : ByteArray) ++ a0_1) ++ ((⟨#[101]⟩ : ByteArray) ++ t119))) else (none)) else (none)))) else (none)) else (if a0_2 = 0 then (some a0_1) else ((strconv_Itoa_83.f a0_2).bind fun t120 => (if 1 + t120.size ≤ 9223372036854775807 then (if a0_1.size + ((⟨#[101]⟩ : ByteArray) ++ t120).size ≤ 9223372036854775807 then (some (a0_1 ++ ((⟨#[101]⟩ : ByteArray) ++ t120))) else (none)) else (none)))))) = some r := h
  clear h
  by_cases c2 : a0_1.toList = ([] : List UInt8)
  · rw [if_pos c2] at H
    have c2b0 : (a0_1.toList == ([] : List UInt8)) = true := beq_iff_eq.mpr c2
    have c2b7 : a0_1.toList.isEmpty = true := by rw [← beq_nil_isEmpty]; exact c2b0
    have c2b1 : (a0_1.toList != ([] : List UInt8)) = false := bne_eq_false_iff_eq.mpr c2
    clear c2
    obtain rfl := Option.some.inj H
    go_enter Tryz.func56, Tryz.ntmps56
    go_wp2_with (first | ((with_reducible refine gate_dst (N := 1) rfl ?_); refine box_event ?hg (N := 1) ?hd (cs := #[.bool a0_0, .string a0_1, .int .i64 a0_2]) (t := 24) ?hr ?_; (case hd => rfl); (case hg => rfl); (case hr => first | (go_simp; done) | (go_simp; rfl)); intro gb118 hg w3 hbox hb; have n0_ := Aside0.mk (below_step (by repeat (first | (with_reducible first | exact HB.out | apply below_alloc | apply pw_below_drewN | apply below_drew1) | exact HB.out)) hb); have n1_ := Aside0.mk (hbox); have n2_ := Aside0.mk ((by rw [hg]; exact (below_size (by repeat (first | (with_reducible first | exact HB.out | apply below_alloc | apply pw_below_drewN | apply below_drew1) | exact HB.out))) : w.heap.size ≤ gb118)); have n3_ := Aside0.mk ((by rw [hg]; exact (below_size (by repeat (first | (with_reducible first | exact HB.out | apply below_alloc | apply pw_below_drewN | apply below_drew1) | exact HB.out))) : w.heap.size ≤ gb118)); clear HB; have HB := n0_; have BK118 := n1_; have GW118 := n2_; have GE118 := n3_; clear n0_ n1_ n2_ n3_; clear hb hbox hg; have hcz4_0 : w3.cell? ⟨gb118, 0, none⟩ = some (.bool a0_0) := (blk_cell BK118.out 0).trans rfl; have hcz4_1 : w3.cell? ⟨gb118, 1, none⟩ = some (.string a0_1) := (blk_cell BK118.out 1).trans rfl; have hcz4_2 : w3.cell? ⟨gb118, 2, none⟩ = some (.int .i64 a0_2) := (blk_cell BK118.out 2).trans rfl; have hfz4_0 := blk_frozen BK118.out 0; have hfz4_1 := blk_frozen BK118.out 1; have hfz4_2 := blk_frozen BK118.out 2))
    go_ret
    try simp only [beq_nil_isEmpty, bytesLess_gtr]
    exact ⟨by first | rfl | (simp [errW_none, errW_some] <;> rfl) | (simp [*, errW_none, errW_some] <;> rfl), by repeat (first | (with_reducible first | exact HB.out | apply below_alloc | apply pw_below_drewN | apply below_drew1 | refine below_set ?_ GE118.out) | exact HB.out)⟩
  · rw [if_neg c2] at H
    have c2b0 : (a0_1.toList == ([] : List UInt8)) = false := beq_eq_false_iff_ne.mpr c2
    have c2b7 : a0_1.toList.isEmpty = false := by rw [← beq_nil_isEmpty]; exact c2b0
    have c2b1 : (a0_1.toList != ([] : List UInt8)) = true := bne_iff_ne.mpr c2
    by_cases c5 : a0_0 = true
    · subst c5
      have H1 : (if 1 + a0_1.size ≤ 9223372036854775807 then (if a0_2 = 0 then (some ((⟨#[45]⟩ : ByteArray) ++ a0_1)) else ((strconv_Itoa_83.f a0_2).bind fun t119 => (if 1 + t119.size ≤ 9223372036854775807 then (if ((⟨#[45]⟩ : ByteArray) ++ a0_1).size + ((⟨#[101]⟩ : ByteArray) ++ t119).size ≤ 9223372036854775807 then (some (((⟨#[45]⟩ : ByteArray) ++ a0_1) ++ ((⟨#[101]⟩ : ByteArray) ++ t119))) else (none)) else (none)))) else (none)) = some r := by rw [if_pos rfl] at H; exact H
      clear H
      have H := H1
      clear H1
      by_cases c6 : 1 + a0_1.size ≤ 9223372036854775807
      · rw [if_pos c6] at H
        have c6b0 := eq_true c6
        have c6b1 : decide (1 + a0_1.size ≤ 9223372036854775807) = true := decide_eq_true c6
        try have c6b2 : (9223372036854775807 < 1 + a0_1.size) = False := eq_false (Nat.not_lt.2 c6)
        by_cases c7 : a0_2 = 0
        · rw [if_pos c7] at H
          have c7b0 : (a0_2 == 0) = true := beq_iff_eq.mpr c7
          have c7b1 : (a0_2 != 0) = false := bne_eq_false_iff_eq.mpr c7
          clear c7
          obtain rfl := Option.some.inj H
          go_enter Tryz.func56, Tryz.ntmps56
          go_wp2_with (first | ((with_reducible refine gate_dst (N := 1) rfl ?_); refine box_event ?hg (N := 1) ?hd (cs := #[.bool true, .string a0_1, .int .i64 a0_2]) (t := 24) ?hr ?_; (case hd => rfl); (case hg => rfl); (case hr => first | (go_simp; done) | (go_simp; rfl)); intro gb118 hg w8 hbox hb; have n0_ := Aside0.mk (below_step (by repeat (first | (with_reducible first | exact HB.out | apply below_alloc | apply pw_below_drewN | apply below_drew1) | exact HB.out)) hb); have n1_ := Aside0.mk (hbox); have n2_ := Aside0.mk ((by rw [hg]; exact (below_size (by repeat (first | (with_reducible first | exact HB.out | apply below_alloc | apply pw_below_drewN | apply below_drew1) | exact HB.out))) : w.heap.size ≤ gb118)); have n3_ := Aside0.mk ((by rw [hg]; exact (below_size (by repeat (first | (with_reducible first | exact HB.out | apply below_alloc | apply pw_below_drewN | apply below_drew1) | exact HB.out))) : w.heap.size ≤ gb118)); clear HB; have HB := n0_; have BK118 := n1_; have GW118 := n2_; have GE118 := n3_; clear n0_ n1_ n2_ n3_; clear hb hbox hg; have hcz9_0 : w8.cell? ⟨gb118, 0, none⟩ = some (.bool true) := (blk_cell BK118.out 0).trans rfl; have hcz9_1 : w8.cell? ⟨gb118, 1, none⟩ = some (.string a0_1) := (blk_cell BK118.out 1).trans rfl; have hcz9_2 : w8.cell? ⟨gb118, 2, none⟩ = some (.int .i64 a0_2) := (blk_cell BK118.out 2).trans rfl; have hfz9_0 := blk_frozen BK118.out 0; have hfz9_1 := blk_frozen BK118.out 1; have hfz9_2 := blk_frozen BK118.out 2))
          go_ret
          try simp only [beq_nil_isEmpty, bytesLess_gtr]
          exact ⟨by first | rfl | (simp [errW_none, errW_some] <;> rfl) | (simp [*, errW_none, errW_some] <;> rfl), by repeat (first | (with_reducible first | exact HB.out | apply below_alloc | apply pw_below_drewN | apply below_drew1 | refine below_set ?_ GE118.out) | exact HB.out)⟩
        · rw [if_neg c7] at H
          have c7b0 : (a0_2 == 0) = false := beq_eq_false_iff_ne.mpr c7
          have c7b1 : (a0_2 != 0) = true := bne_iff_ne.mpr c7
          replace H := Option.bind_eq_some_iff.mp H
          obtain ⟨t119, A100, H⟩ := H
          replace H : (if 1 + t119.size ≤ 9223372036854775807 then (if ((⟨#[45]⟩ : ByteArray) ++ a0_1).size + ((⟨#[101]⟩ : ByteArray) ++ t119).size ≤ 9223372036854775807 then (some (((⟨#[45]⟩ : ByteArray) ++ a0_1) ++ ((⟨#[101]⟩ : ByteArray) ++ t119))) else (none)) else (none)) = some r := H
          have A10 := Aside0.mk A100
          clear A100
          by_cases c11 : 1 + t119.size ≤ 9223372036854775807
          · rw [if_pos c11] at H
            have c11b0 := eq_true c11
            have c11b1 : decide (1 + t119.size ≤ 9223372036854775807) = true := decide_eq_true c11
            try have c11b2 : (9223372036854775807 < 1 + t119.size) = False := eq_false (Nat.not_lt.2 c11)
            by_cases c12 : ((⟨#[45]⟩ : ByteArray) ++ a0_1).size + ((⟨#[101]⟩ : ByteArray) ++ t119).size ≤ 9223372036854775807
            · rw [if_pos c12] at H
              have c12b0 := eq_true c12
              have c12b1 : decide (((⟨#[45]⟩ : ByteArray) ++ a0_1).size + ((⟨#[101]⟩ : ByteArray) ++ t119).size ≤ 9223372036854775807) = true := decide_eq_true c12
              try have c12b2 : (9223372036854775807 < ((⟨#[45]⟩ : ByteArray) ++ a0_1).size + ((⟨#[101]⟩ : ByteArray) ++ t119).size) = False := eq_false (Nat.not_lt.2 c12)
              obtain rfl := Option.some.inj H
              go_enter Tryz.func56, Tryz.ntmps56
              go_wp2_with (first | ((with_reducible refine gate_dst (N := 1) rfl ?_); refine box_event ?hg (N := 1) ?hd (cs := #[.bool true, .string a0_1, .int .i64 a0_2]) (t := 24) ?hr ?_; (case hd => rfl); (case hg => rfl); (case hr => first | (go_simp; done) | (go_simp; rfl)); intro gb118 hg w13 hbox hb; have n0_ := Aside0.mk (below_step (by repeat (first | (with_reducible first | exact HB.out | apply below_alloc | apply pw_below_drewN | apply below_drew1) | exact HB.out)) hb); have n1_ := Aside0.mk (hbox); have n2_ := Aside0.mk ((by rw [hg]; exact (below_size (by repeat (first | (with_reducible first | exact HB.out | apply below_alloc | apply pw_below_drewN | apply below_drew1) | exact HB.out))) : w.heap.size ≤ gb118)); have n3_ := Aside0.mk ((by rw [hg]; exact (below_size (by repeat (first | (with_reducible first | exact HB.out | apply below_alloc | apply pw_below_drewN | apply below_drew1) | exact HB.out))) : w.heap.size ≤ gb118)); clear HB; have HB := n0_; have BK118 := n1_; have GW118 := n2_; have GE118 := n3_; clear n0_ n1_ n2_ n3_; clear hb hbox hg; have hcz14_0 : w13.cell? ⟨gb118, 0, none⟩ = some (.bool true) := (blk_cell BK118.out 0).trans rfl; have hcz14_1 : w13.cell? ⟨gb118, 1, none⟩ = some (.string a0_1) := (blk_cell BK118.out 1).trans rfl; have hcz14_2 : w13.cell? ⟨gb118, 2, none⟩ = some (.int .i64 a0_2) := (blk_cell BK118.out 2).trans rfl; have hfz14_0 := blk_frozen BK118.out 0; have hfz14_1 := blk_frozen BK118.out 1; have hfz14_2 := blk_frozen BK118.out 2) | ((with_reducible refine gate_callee (f := 83) rfl ?_); refine goesL_ (some 19) rfl rfl Tryz.func83 (by kernel_rfl) rfl #[.int .i64 a0_2] rfl (by (try simp only [List.map_toArray, List.map_cons, List.map_nil]); first | done | rfl | (simp only [List.length_drop, List.length_take]; rfl)) ?_; (with_reducible refine (strconv_Itoa_83.calls a0_2 t119 _ (PTabs.below HT.out (by repeat (first | (with_reducible first | exact HB.out | apply below_alloc | apply pw_below_drewN | apply below_drew1 | refine below_set ?_ GE118.out) | exact HB.out))) A10.out).mono ?_); rintro e w15 ⟨rfl, hb⟩; refine ⟨_, rfl, ?_⟩; have n0_ := Aside0.mk (blk_below (g := gb118) (o := .cells #[.bool true, .string a0_1, .int .i64 a0_2] 24 (0, 0)) (by (with_reducible repeat (first | refine blk_drewN ?_ _ | refine blk_drew ?_ | refine blk_alloc ?_ _)); exact BK118.out) hb); have n1_ := Aside0.mk (below_step (by repeat (first | (with_reducible first | exact HB.out | apply below_alloc | apply pw_below_drewN | apply below_drew1 | refine below_set ?_ GE118.out) | exact HB.out)) hb); clear BK118; clear HB; have BK118 := n0_; have HB := n1_; clear n0_ n1_; (try clear hb); (try clear hb2); (try clear hk); (try clear hi)))
              go_ret
              try simp only [beq_nil_isEmpty, bytesLess_gtr]
              exact ⟨by first | rfl | (simp [errW_none, errW_some] <;> rfl) | (simp [*, errW_none, errW_some] <;> rfl), by repeat (first | (with_reducible first | exact HB.out | apply below_alloc | apply pw_below_drewN | apply below_drew1 | refine below_set ?_ GE118.out) | exact HB.out)⟩
            · rw [if_neg c12] at H
              exact absurd H (by simp)
          · rw [if_neg c11] at H
            exact absurd H (by simp)
      · rw [if_neg c6] at H
        exact absurd H (by simp)
    · replace c5 := Bool.eq_false_iff.mpr c5
      subst c5
      have H1 : (if a0_2 = 0 then (some a0_1) else ((strconv_Itoa_83.f a0_2).bind fun t120 => (if 1 + t120.size ≤ 9223372036854775807 then (if a0_1.size + ((⟨#[101]⟩ : ByteArray) ++ t120).size ≤ 9223372036854775807 then (some (a0_1 ++ ((⟨#[101]⟩ : ByteArray) ++ t120))) else (none)) else (none)))) = some r := by rw [if_neg (show ¬ (false = true) by decide)] at H; exact H
      clear H
      have H := H1
      clear H1
      by_cases c16 : a0_2 = 0
      · rw [if_pos c16] at H
        have c16b0 : (a0_2 == 0) = true := beq_iff_eq.mpr c16
        have c16b1 : (a0_2 != 0) = false := bne_eq_false_iff_eq.mpr c16
        clear c16
        obtain rfl := Option.some.inj H
        go_enter Tryz.func56, Tryz.ntmps56
        go_wp2_with (first | ((with_reducible refine gate_dst (N := 1) rfl ?_); refine box_event ?hg (N := 1) ?hd (cs := #[.bool false, .string a0_1, .int .i64 a0_2]) (t := 24) ?hr ?_; (case hd => rfl); (case hg => rfl); (case hr => first | (go_simp; done) | (go_simp; rfl)); intro gb118 hg w17 hbox hb; have n0_ := Aside0.mk (below_step (by repeat (first | (with_reducible first | exact HB.out | apply below_alloc | apply pw_below_drewN | apply below_drew1) | exact HB.out)) hb); have n1_ := Aside0.mk (hbox); have n2_ := Aside0.mk ((by rw [hg]; exact (below_size (by repeat (first | (with_reducible first | exact HB.out | apply below_alloc | apply pw_below_drewN | apply below_drew1) | exact HB.out))) : w.heap.size ≤ gb118)); have n3_ := Aside0.mk ((by rw [hg]; exact (below_size (by repeat (first | (with_reducible first | exact HB.out | apply below_alloc | apply pw_below_drewN | apply below_drew1) | exact HB.out))) : w.heap.size ≤ gb118)); clear HB; have HB := n0_; have BK118 := n1_; have GW118 := n2_; have GE118 := n3_; clear n0_ n1_ n2_ n3_; clear hb hbox hg; have hcz18_0 : w17.cell? ⟨gb118, 0, none⟩ = some (.bool false) := (blk_cell BK118.out 0).trans rfl; have hcz18_1 : w17.cell? ⟨gb118, 1, none⟩ = some (.string a0_1) := (blk_cell BK118.out 1).trans rfl; have hcz18_2 : w17.cell? ⟨gb118, 2, none⟩ = some (.int .i64 a0_2) := (blk_cell BK118.out 2).trans rfl; have hfz18_0 := blk_frozen BK118.out 0; have hfz18_1 := blk_frozen BK118.out 1; have hfz18_2 := blk_frozen BK118.out 2))
        go_ret
        try simp only [beq_nil_isEmpty, bytesLess_gtr]
        exact ⟨by first | rfl | (simp [errW_none, errW_some] <;> rfl) | (simp [*, errW_none, errW_some] <;> rfl), by repeat (first | (with_reducible first | exact HB.out | apply below_alloc | apply pw_below_drewN | apply below_drew1 | refine below_set ?_ GE118.out) | exact HB.out)⟩
      · rw [if_neg c16] at H
        have c16b0 : (a0_2 == 0) = false := beq_eq_false_iff_ne.mpr c16
        have c16b1 : (a0_2 != 0) = true := bne_iff_ne.mpr c16
        replace H := Option.bind_eq_some_iff.mp H
        obtain ⟨t120, A190, H⟩ := H
        replace H : (if 1 + t120.size ≤ 9223372036854775807 then (if a0_1.size + ((⟨#[101]⟩ : ByteArray) ++ t120).size ≤ 9223372036854775807 then (some (a0_1 ++ ((⟨#[101]⟩ : ByteArray) ++ t120))) else (none)) else (none)) = some r := H
        have A19 := Aside0.mk A190
        clear A190
        by_cases c20 : 1 + t120.size ≤ 9223372036854775807
        · rw [if_pos c20] at H
          have c20b0 := eq_true c20
          have c20b1 : decide (1 + t120.size ≤ 9223372036854775807) = true := decide_eq_true c20
          try have c20b2 : (9223372036854775807 < 1 + t120.size) = False := eq_false (Nat.not_lt.2 c20)
          by_cases c21 : a0_1.size + ((⟨#[101]⟩ : ByteArray) ++ t120).size ≤ 9223372036854775807
          · rw [if_pos c21] at H
            have c21b0 := eq_true c21
            have c21b1 : decide (a0_1.size + ((⟨#[101]⟩ : ByteArray) ++ t120).size ≤ 9223372036854775807) = true := decide_eq_true c21
            try have c21b2 : (9223372036854775807 < a0_1.size + ((⟨#[101]⟩ : ByteArray) ++ t120).size) = False := eq_false (Nat.not_lt.2 c21)
            obtain rfl := Option.some.inj H
            go_enter Tryz.func56, Tryz.ntmps56
            go_wp2_with (first | ((with_reducible refine gate_dst (N := 1) rfl ?_); refine box_event ?hg (N := 1) ?hd (cs := #[.bool false, .string a0_1, .int .i64 a0_2]) (t := 24) ?hr ?_; (case hd => rfl); (case hg => rfl); (case hr => first | (go_simp; done) | (go_simp; rfl)); intro gb118 hg w22 hbox hb; have n0_ := Aside0.mk (below_step (by repeat (first | (with_reducible first | exact HB.out | apply below_alloc | apply pw_below_drewN | apply below_drew1) | exact HB.out)) hb); have n1_ := Aside0.mk (hbox); have n2_ := Aside0.mk ((by rw [hg]; exact (below_size (by repeat (first | (with_reducible first | exact HB.out | apply below_alloc | apply pw_below_drewN | apply below_drew1) | exact HB.out))) : w.heap.size ≤ gb118)); have n3_ := Aside0.mk ((by rw [hg]; exact (below_size (by repeat (first | (with_reducible first | exact HB.out | apply below_alloc | apply pw_below_drewN | apply below_drew1) | exact HB.out))) : w.heap.size ≤ gb118)); clear HB; have HB := n0_; have BK118 := n1_; have GW118 := n2_; have GE118 := n3_; clear n0_ n1_ n2_ n3_; clear hb hbox hg; have hcz23_0 : w22.cell? ⟨gb118, 0, none⟩ = some (.bool false) := (blk_cell BK118.out 0).trans rfl; have hcz23_1 : w22.cell? ⟨gb118, 1, none⟩ = some (.string a0_1) := (blk_cell BK118.out 1).trans rfl; have hcz23_2 : w22.cell? ⟨gb118, 2, none⟩ = some (.int .i64 a0_2) := (blk_cell BK118.out 2).trans rfl; have hfz23_0 := blk_frozen BK118.out 0; have hfz23_1 := blk_frozen BK118.out 1; have hfz23_2 := blk_frozen BK118.out 2) | ((with_reducible refine gate_callee (f := 83) rfl ?_); refine goesL_ (some 19) rfl rfl Tryz.func83 (by kernel_rfl) rfl #[.int .i64 a0_2] rfl (by (try simp only [List.map_toArray, List.map_cons, List.map_nil]); first | done | rfl | (simp only [List.length_drop, List.length_take]; rfl)) ?_; (with_reducible refine (strconv_Itoa_83.calls a0_2 t120 _ (PTabs.below HT.out (by repeat (first | (with_reducible first | exact HB.out | apply below_alloc | apply pw_below_drewN | apply below_drew1 | refine below_set ?_ GE118.out) | exact HB.out))) A19.out).mono ?_); rintro e w24 ⟨rfl, hb⟩; refine ⟨_, rfl, ?_⟩; have n0_ := Aside0.mk (blk_below (g := gb118) (o := .cells #[.bool false, .string a0_1, .int .i64 a0_2] 24 (0, 0)) (by (with_reducible repeat (first | refine blk_drewN ?_ _ | refine blk_drew ?_ | refine blk_alloc ?_ _)); exact BK118.out) hb); have n1_ := Aside0.mk (below_step (by repeat (first | (with_reducible first | exact HB.out | apply below_alloc | apply pw_below_drewN | apply below_drew1 | refine below_set ?_ GE118.out) | exact HB.out)) hb); clear BK118; clear HB; have BK118 := n0_; have HB := n1_; clear n0_ n1_; (try clear hb); (try clear hb2); (try clear hk); (try clear hi)))
            go_ret
            try simp only [beq_nil_isEmpty, bytesLess_gtr]
            exact ⟨by first | rfl | (simp [errW_none, errW_some] <;> rfl) | (simp [*, errW_none, errW_some] <;> rfl), by repeat (first | (with_reducible first | exact HB.out | apply below_alloc | apply pw_below_drewN | apply below_drew1 | refine below_set ?_ GE118.out) | exact HB.out)⟩
          · rw [if_neg c21] at H
            exact absurd H (by simp)
        · rw [if_neg c20] at H
          exact absurd H (by simp)
end Go.Proofs.YtapcpndplnkfjaaGreatDoor.Pr
namespace Go.Proofs.YtapcpndplnkfjaaGreatDoor
open Go.RowKit Go.Proofs.YtapcpndplnkfjaaGreatDoorW.PrintWords Go.Proofs.YtapcpndplnkfjaaGreatDoorW.PrintLast Go.Proofs.YtapcpndplnkfjaaGreatDoorW.PrintMore
set_option linter.unusedVariables false
set_option linter.unusedSimpArgs false
namespace Js
def itemsF (f : S28 → Option (List UInt8)) : List S28 → Option (List (List UInt8))
  | [] => some []
  | x :: t => (f x).bind fun a => (itemsF f t).bind fun r => some (a :: r)
def pairsF (f : S28 → Option (List UInt8)) : List S28 → List ByteArray → Option (List (List UInt8))
  | [], _ => some []
  | x :: t, k :: u => if k.data.toList.length ≤ 1000000 then (f x).bind fun a => if a.length ≤ 1000000000 then (pairsF f t u).bind fun r => some ((quoteL k.data.toList ++ [58] ++ a) :: r) else none else none
  | _ :: _, [] => none
def wrapF (a b : UInt8) (l : List (List UInt8)) : Option (List UInt8) := if l.length ≤ 1000000 ∧ (Lib.join l [44]).length ≤ 1000000000 then some (a :: Lib.join l [44] ++ [b]) else none
def txF : Nat → S28 → Option (List UInt8)
  | 0, _ => none
  | n + 1, x =>
    if x.f0 = 1 then some (if x.f1 = true then [116, 114, 117, 101] else [102, 97, 108, 115, 101])
    else if x.f0 = 2 then (Pr.num_Text.f x.f2.f0 x.f2.f1 x.f2.f2).bind fun b => some b.data.toList
    else if x.f0 = 3 then (if x.f3.data.toList.length ≤ 1000000 then some (quoteL x.f3.data.toList) else none)
    else if x.f0 = 4 then (itemsF (txF n) x.f4).bind (wrapF 91 93)
    else if x.f0 = 5 then (pairsF (txF n) x.f4 x.f5).bind (wrapF 123 125)
    else some [110, 117, 108, 108]
theorem items_len {f : S28 → Option (List UInt8)} : ∀ {xs l}, itemsF f xs = some l → l.length = xs.length
  | [], l, h => by simp [itemsF] at h; subst h; rfl
  | x :: t, l, h => by
    simp only [itemsF, Option.bind_eq_some_iff] at h
    obtain ⟨a, _, r, hr, h⟩ := h
    obtain rfl : a :: r = l := by simpa using h
    simp [items_len hr]
theorem items_at {f : S28 → Option (List UInt8)} : ∀ {xs l}, itemsF f xs = some l → ∀ i, i < xs.length → f (xs.getD i z28) = some (l.getD i [])
  | [], l, h, i, hi => by simp at hi
  | x :: t, l, h, i, hi => by
    simp only [itemsF, Option.bind_eq_some_iff] at h
    obtain ⟨a, ha, r, hr, h⟩ := h
    obtain rfl : a :: r = l := by simpa using h
    match i, hi with
    | 0, _ => simpa using ha
    | i + 1, hi => simpa using items_at hr i (by simpa using hi)
theorem pairs_len {f : S28 → Option (List UInt8)} : ∀ {xs ks l}, pairsF f xs ks = some l → l.length = xs.length
  | [], _, l, h => by simp [pairsF] at h; subst h; rfl
  | _ :: _, [], l, h => by simp [pairsF] at h
  | x :: t, k :: u, l, h => by
    simp only [pairsF] at h
    split at h
    case isFalse => simp at h
    rw [Option.bind_eq_some_iff] at h
    obtain ⟨a, _, h⟩ := h
    split at h
    case isFalse => simp at h
    rw [Option.bind_eq_some_iff] at h
    obtain ⟨r, hr, h⟩ := h
    obtain rfl : _ = l := by simpa using h
    simp [pairs_len hr]
theorem pairs_at {f : S28 → Option (List UInt8)} : ∀ {xs ks l}, pairsF f xs ks = some l → ∀ i, i < xs.length → ∃ a, f (xs.getD i z28) = some a ∧ a.length ≤ 1000000000 ∧ i < ks.length ∧ (ks.getD i ⟨#[]⟩).data.toList.length ≤ 1000000 ∧ quoteL (ks.getD i ⟨#[]⟩).data.toList ++ [58] ++ a = l.getD i []
  | [], _, l, h, i, hi => by simp at hi
  | _ :: _, [], l, h, i, hi => by simp [pairsF] at h
  | x :: t, k :: u, l, h, i, hi => by
    simp only [pairsF] at h
    split at h
    case isFalse => simp at h
    next hk =>
    rw [Option.bind_eq_some_iff] at h
    obtain ⟨a, ha, h⟩ := h
    split at h
    case isFalse => simp at h
    next hl =>
    rw [Option.bind_eq_some_iff] at h
    obtain ⟨r, hr, h⟩ := h
    obtain rfl : _ = l := by simpa using h
    match i, hi with
    | 0, _ => exact ⟨a, by simpa using ha, hl, by simp, hk, by simp⟩
    | i + 1, hi =>
      obtain ⟨b, h1, h2, h3, h4, h5⟩ := pairs_at hr i (by simpa using hi)
      exact ⟨b, by simpa using h1, h2, by simpa using h3, by simpa using h4, by simpa using h5⟩
structure TI (w wr : World) (base : Nat) (v : Value) (l : List (List UInt8)) : Prop where
  r : Kd.R Kd.string 9 wr base (fun _ => True) v (l.map ofL)
  bel : Below base w wr
theorem map_join (l : List (List UInt8)) : ((l.map ofL).map (·.data.toList)) = l := by
  rw [List.map_map]
  conv => rhs; rw [← List.map_id l]
  exact List.map_congr_left (fun x _ => rfl)
theorem join_calls (l : List (List UInt8)) (base : Nat) (v : Value) (w : World) (hR : Kd.R Kd.string 9 w base (fun _ => True) v (l.map ofL)) (hl : l.length ≤ 1000000) (hj : (Lib.join l [44]).length ≤ 1000000000) :
    Calls Tryz.prog 58 #[v, .string ⟨#[44]⟩] w fun e w' => e = .returned (.string (ofL (Lib.join l [44]))) ∧ Below w.heap.size w w' := by
  by_cases hn : l = []
  · subst hn
    obtain ⟨A, c, rfl⟩ := Kd.R_slice hR
    exact (Tryz.strings_Join_none A c ⟨#[44]⟩ w).mono fun e w' ⟨h1, h2⟩ => ⟨by rw [h1]; rfl, h2 ▸ Below.refl _ _⟩
  · obtain ⟨A, c, rfl, hlc, hC⟩ := Kd.R_reads hR
    obtain ⟨g, cap, e, hg0, hg1, cells, hcells⟩ := Kd.R_form hR (by rw [List.length_map]; exact List.length_pos_iff.2 hn)
    injection e with e1 e2 e3
    subst e1
    have := Tryz.strings_Join g 0 c (l.map ofL) ⟨#[44]⟩ w (fun j x hj => by
      have hjl : j < (l.map ofL).length := (List.getElem?_eq_some_iff.1 hj).1
      obtain ⟨ad, cs, ea, _, hK, hc0⟩ := Kd.C_get hC (⟨#[]⟩ : ByteArray) (j : Int) (by omega) (by omega)
      injection ea with ea
      subst ea
      obtain rfl : cs = [.string ((l.map ofL).getD j ⟨#[]⟩)] := hK
      have := hc0 0 _ rfl
      rw [List.getD_eq_getElem?_getD, hj] at this
      have e0 : (⟨g, 0, none⟩ : Addr).add ((j : Int).toNat * Kd.string.sz + 0) = ⟨g, 0 + j, none⟩ := by show Addr.add _ (j * 1 + 0) = _; simp [Addr.add]; omega
      rw [e0] at this
      simpa using this) hg1 (by simp; omega) hlc (by rw [map_join]; exact Nat.le_trans hj (by decide))
    refine this.mono fun e w' ⟨h1, h2⟩ => ⟨?_, h2⟩
    rw [h1, map_join]
    rfl
set_option maxRecDepth 100000 in
set_option maxHeartbeats 2000000 in
theorem jtext_calls : ∀ (n : Nat) (x : S28) (r : List UInt8), txF n x = some r → ∀ (A B : Option Addr) (c c' : Nat) (w : World), PTabs w → JC w x A x.f4.length c B x.f5.length c' →
    Calls Tryz.prog 30 #[.agg #[.int .i64 x.f0, .bool x.f1, .bool x.f2.f0, .string x.f2.f1, .int .i64 x.f2.f2, .string x.f3, .slice A x.f4.length c, .slice B x.f5.length c']] w fun e w' => e = .returned (.string (ofL r)) ∧ Below w.heap.size w w'
  | 0, x, r, h => by simp [txF] at h
  | n + 1, x, r, h => by
    intro A B c c' w hT hJ
    have IH := Lib.hid (jtext_calls n)
    have HT := Lib.hid hT
    have HJ := Lib.hid hJ
    have hal := fun o => below_alloc (Below.refl w.heap.size w) o
    have HA := Lib.hid hal
    unfold txF at h
    clear hT hJ hal
    by_cases h1 : x.f0 = 1
    · rw [if_pos h1] at h
      cases hb : x.f1 with
      | true =>
        rw [hb] at h
        obtain rfl : [116, 114, 117, 101] = r := by simpa using h
        clear h
        go_enter Tryz.func30, Tryz.ntmps30
        go_wp2_with fail
        go_ret
        exact ⟨rfl, HA.out _⟩
      | false =>
        rw [hb] at h
        obtain rfl : [102, 97, 108, 115, 101] = r := by simpa using h
        clear h
        go_enter Tryz.func30, Tryz.ntmps30
        go_wp2_with fail
        go_ret
        exact ⟨rfl, HA.out _⟩
    rw [if_neg h1] at h
    have h1' : (x.f0 == 1) = false := by simpa using h1
    by_cases h2 : x.f0 = 2
    · rw [if_pos h2, Option.bind_eq_some_iff] at h
      obtain ⟨b, hb, h⟩ := h
      obtain rfl : b.data.toList = r := by simpa using h
      have HB := Lib.hid hb
      clear h hb h1
      go_enter Tryz.func30, Tryz.ntmps30
      go_wp2_with fail
      refine (Pr.num_Text.calls _ _ _ b _ (HT.out.below (HA.out _)) HB.out).mono ?_
      rintro E w1 ⟨rfl, hB⟩
      have HB1 := Lib.hid ((HA.out _).trans (hB.mono (HA.out _).size))
      go_wp2_with fail
      go_ret
      exact ⟨by rw [ofL_of]; rfl, HB1.out⟩
    rw [if_neg h2] at h
    have h2' : (x.f0 == 2) = false := by simpa using h2
    by_cases h3 : x.f0 = 3
    · rw [if_pos h3] at h
      split at h
      case isFalse => simp at h
      next hl =>
      obtain rfl : quoteL x.f3.data.toList = r := by simpa using h
      have HL := Lib.hid hl
      have HS := Lib.hid (quote_calls x.f3.data.toList hl)
      rw [ofL_of] at HS
      clear h h1 h2 hl
      go_enter Tryz.func30, Tryz.ntmps30
      go_wp2_with fail
      refine (HS.out _).mono ?_
      rintro E w1 ⟨rfl, hB⟩
      have HB1 := Lib.hid ((HA.out _).trans (hB.mono (HA.out _).size))
      go_wp2_with fail
      go_ret
      exact ⟨rfl, HB1.out⟩
    rw [if_neg h3] at h
    have h3' : (x.f0 == 3) = false := by simpa using h3
    by_cases h4 : x.f0 = 4
    · rw [if_pos h4, Option.bind_eq_some_iff] at h
      obtain ⟨l, hit, h⟩ := h
      unfold wrapF at h
      split at h
      case isFalse => simp at h
      next hl =>
      obtain rfl : 91 :: Lib.join l [44] ++ [93] = r := by simpa using h
      have HL := Lib.hid hl
      have HLEN := Lib.hid (items_len hit)
      have HAT := Lib.hid (items_at hit)
      have hn : x.f4.length ≤ 1000000 := by rw [← items_len hit]; exact hl.1
      have h4b : (x.f0 == 4) = true := by simp [h4]
      clear h h1 h2 h3 hl hit h4
      go_enter Tryz.func30, Tryz.ntmps30
      go_wp2_with fail
      have hb0 := HA.out (.cells #[.int .i64 x.f0, .bool x.f1, .bool x.f2.f0, .string x.f2.f1, .int .i64 x.f2.f2, .string x.f3, .slice A x.f4.length c, .slice B x.f5.length c'] 28)
      obtain ⟨w0, hw0⟩ : ∃ w0, w0 = w.alloc (.cells #[.int .i64 x.f0, .bool x.f1, .bool x.f2.f0, .string x.f2.f1, .int .i64 x.f2.f2, .string x.f3, .slice A x.f4.length c, .slice B x.f5.length c'] 28) := ⟨_, rfl⟩
      rw [← hw0] at hb0 ⊢
      have HB0 := Lib.hid hb0
      clear hb0 hw0
      go_loopw [3, 29] (fun v3 vi wr => ∃ (k : Nat) (u : Value), k ≤ x.f4.length ∧ u = v3 ∧ vi = .int .i64 k ∧ Hid (TI w0 wr w0.heap.size u (l.take k))) (fun v3 vi _ => x.f4.length - (intOf vi).toNat)
      case atStart => exact ⟨0, _, by omega, rfl, rfl, Lib.hid ⟨Kd.R_nil _ _ _ _ _, Below.refl _ _⟩⟩
      case round =>
        obtain ⟨k, v3, hk, hu, rfl, HI⟩ := hrel
        subst hu
        have HBW := Lib.hid (HB0.out.trans (HI.out.bel.mono HB0.out.size))
        by_cases hkl : k < x.f4.length
        · obtain ⟨ad, A6, c6, A7, c7, rfl, q0, q1, q2, q3, q4, q5, q6, q7, l6, g6, l7, g7⟩ := at_T28 (Kd.C_below HJ.out.i HBW.out) (k : Int) (by omega) (by omega)
          have hy := HAT.out k hkl
          simp only [rd_T28, Int.toNat_natCast] at q0 q1 q2 q3 q4 q5 q6 q7 l6 g6 l7 g7
          obtain ⟨y, hyy⟩ : ∃ y, y = x.f4.getD k z28 := ⟨_, rfl⟩
          obtain ⟨t, ht⟩ : ∃ t, t = l.getD k [] := ⟨_, rfl⟩
          rw [← hyy] at q0 q1 q2 q3 q4 q5 q6 q7 l6 g6 l7 g7 hy
          rw [← ht] at hy
          have HY := Lib.hid hy
          have HJY := Lib.hid (JC.mk (w := wr) (x := y) (A := A6) (n := y.f4.length) (c := c6) (B := A7) (m := y.f5.length) (c' := c7) rfl l6 g6 rfl l7 g7)
          have HTK : Hid ((l.take (k + 1)).map ofL = (l.take k).map ofL ++ [ofL t]) := Lib.hid (by
            have hkl2 : k < l.length := by rw [HLEN.out]; exact hkl
            rw [List.take_succ_eq_append_getElem hkl2, List.map_append, ht]; simp [hkl2])
          have HLN : Hid ((((l.take k).map ofL).length + 1) * 16 ≤ 140737488355328) := Lib.hid (by have := HL.out.1; simp; omega)
          clear hyy ht hy l6 g6 l7 g7
          have hal := fun o => below_alloc (Below.refl wr.heap.size wr) o
          have HAL := Lib.hid hal
          clear hal
          go_wp2_with fail
          refine (IH.out y t HY.out A6 A7 c6 c7 _ (HT.out.below (HBW.out.trans ((HAL.out _).mono HBW.out.size))) (HJY.out.below (HAL.out _))).mono ?_
          rintro E w1 ⟨rfl, hB⟩
          have hb1 := (HAL.out (.cells #[.int .i64 y.f0, .bool y.f1, .bool y.f2.f0, .string y.f2.f1, .int .i64 y.f2.f2, .string y.f3, .slice A6 y.f4.length c6, .slice A7 y.f5.length c7] 28)).trans (hB.mono (HAL.out _).size)
          have HR1 := Lib.hid (Kd.R_below HI.out.r hb1)
          have HB1 := Lib.hid (HI.out.bel.trans (hb1.mono HI.out.bel.size))
          clear hB hb1 q0 q1 q2 q3 q4 q5 q6 q7
          go_wp2_with (first | ((with_reducible refine gate_builtin (b := .append) (xs := #[.tmp 33, .tmp 36]) rfl ?_); at_builtin; refine Kd.R_append Kd.string (w0 := w0) w0.heap.size rfl (.tmp 33) (.tmp 36) 26 9 (.string ⟨#[]⟩) 16 rfl Tryz.underlying26 info9 rfl (by decide) (by decide) v3 _ (ofL t) [.string (ofL t)] (fun _ => True) (fun _ => False) rfl rfl rfl (fun _ hk => hk.elim) (fun _ _ => trivial) HR1.out HB1.out HB1.out.size HLN.out ?_; intro v9 wa hR9 hB9 hga hat))
          exact ⟨⟨k + 1, _, by omega, rfl, by simp, Lib.hid ⟨by rw [HTK.out]; exact hR9, hB9⟩⟩, by simp [intOf]; omega⟩
        · have : k = x.f4.length := by omega
          subst this
          have HR : Hid (Kd.R Kd.string 9 wr w0.heap.size (fun _ => True) v3 (l.map ofL)) := Lib.hid (by have := HI.out.r; rwa [← HLEN.out, List.take_length] at this)
          go_wp2_with fail
          refine (join_calls l _ v3 wr HR.out HL.out.1 HL.out.2).mono ?_
          rintro E w2 ⟨rfl, hB⟩
          have HB2 := Lib.hid (HBW.out.trans (hB.mono HBW.out.size))
          have HJL := Lib.hid HL.out.2
          obtain ⟨J, hJ⟩ : ∃ J, J = Lib.join l [44] := ⟨_, rfl⟩
          rw [← hJ] at HJL ⊢
          have hz1 : (ofL J).size = J.length := ofL_size J
          have hz2 : (ofL (91 :: J)).size = J.length + 1 := ofL_size _
          have hz3 : J.length ≤ 1000000000 := HJL.out
          have hS1 : (⟨#[91]⟩ : ByteArray) ++ ofL J = ofL (91 :: J) := ofL_app [91] J
          have hS2 : ofL (91 :: J) ++ (⟨#[93]⟩ : ByteArray) = ofL (91 :: J ++ [93]) := ofL_app (91 :: J) [93]
          have HJJ := Lib.hid hJ
          clear hJ hB
          go_wp2_with fail
          go_ret
          rw [← HJJ.out]
          exact ⟨rfl, HB2.out⟩
    rw [if_neg h4] at h
    have h4' : (x.f0 == 4) = false := by simpa using h4
    by_cases h5 : x.f0 = 5
    · rw [if_pos h5, Option.bind_eq_some_iff] at h
      obtain ⟨l, hit, h⟩ := h
      unfold wrapF at h
      split at h
      case isFalse => simp at h
      next hl =>
      obtain rfl : 123 :: Lib.join l [44] ++ [125] = r := by simpa using h
      have HL := Lib.hid hl
      have HLEN := Lib.hid (pairs_len hit)
      have HAT := Lib.hid (pairs_at hit)
      have hn : x.f4.length ≤ 1000000 := by rw [← pairs_len hit]; exact hl.1
      have h5b : (x.f0 == 5) = true := by simp [h5]
      clear h h1 h2 h3 hl hit h4 h5
      go_enter Tryz.func30, Tryz.ntmps30
      go_wp2_with fail
      have hb0 := HA.out (.cells #[.int .i64 x.f0, .bool x.f1, .bool x.f2.f0, .string x.f2.f1, .int .i64 x.f2.f2, .string x.f3, .slice A x.f4.length c, .slice B x.f5.length c'] 28)
      have hk0 := blk_new w (.cells #[.int .i64 x.f0, .bool x.f1, .bool x.f2.f0, .string x.f2.f1, .int .i64 x.f2.f2, .string x.f3, .slice A x.f4.length c, .slice B x.f5.length c'] 28)
      have hs0 : w.heap.size < (w.alloc (.cells #[.int .i64 x.f0, .bool x.f1, .bool x.f2.f0, .string x.f2.f1, .int .i64 x.f2.f2, .string x.f3, .slice A x.f4.length c, .slice B x.f5.length c'] 28)).heap.size := by simp
      obtain ⟨w0, hw0⟩ : ∃ w0, w0 = w.alloc (.cells #[.int .i64 x.f0, .bool x.f1, .bool x.f2.f0, .string x.f2.f1, .int .i64 x.f2.f2, .string x.f3, .slice A x.f4.length c, .slice B x.f5.length c'] 28) := ⟨_, rfl⟩
      rw [← hw0] at hb0 hk0 hs0 ⊢
      have HB0 := Lib.hid hb0
      have HK0 := Lib.hid hk0
      clear hb0 hw0 hk0 hs0
      go_loopw [3, 48] (fun v3 vi wr => ∃ (k : Nat) (u : Value), k ≤ x.f4.length ∧ u = v3 ∧ vi = .int .i64 k ∧ Hid (TI w0 wr w0.heap.size u (l.take k))) (fun v3 vi _ => x.f4.length - (intOf vi).toNat)
      case atStart => exact ⟨0, _, by omega, rfl, rfl, Lib.hid ⟨Kd.R_nil _ _ _ _ _, Below.refl _ _⟩⟩
      case round =>
        obtain ⟨k, v3, hk, hu, rfl, HI⟩ := hrel
        subst hu
        have HBW := Lib.hid (HB0.out.trans (HI.out.bel.mono HB0.out.size))
        by_cases hkl : k < x.f4.length
        · obtain ⟨ad, A6, c6, A7, c7, rfl, q0, q1, q2, q3, q4, q5, q6, q7, l6, g6, l7, g7⟩ := at_T28 (Kd.C_below HJ.out.i HBW.out) (k : Int) (by omega) (by omega)
          obtain ⟨t, hy, htl, hkk, hkey, hlk⟩ := HAT.out k hkl
          simp only [rd_T28, Int.toNat_natCast] at q0 q1 q2 q3 q4 q5 q6 q7 l6 g6 l7 g7
          obtain ⟨bd, cs, rfl, _, hcs, hbd⟩ := Kd.C_get (Kd.C_below HJ.out.s HBW.out) (⟨#[]⟩ : ByteArray) (k : Int) (by omega) (by omega)
          obtain rfl : cs = [.string (x.f5.getD k ⟨#[]⟩)] := hcs
          have hbd : wr.cell? (bd.add k) = some (.string (x.f5.getD k ⟨#[]⟩)) := by have := hbd 0 _ rfl; rwa [show (k : Int).toNat * Kd.string.sz + 0 = k by show k * 1 + 0 = k; omega] at this
          obtain ⟨y, hyy⟩ : ∃ y, y = x.f4.getD k z28 := ⟨_, rfl⟩
          obtain ⟨key, hke⟩ : ∃ key, key = (x.f5.getD k ⟨#[]⟩).data.toList := ⟨_, rfl⟩
          have hkf : x.f5.getD k ⟨#[]⟩ = ofL key := by rw [hke, ofL_of]
          rw [← hyy] at q0 q1 q2 q3 q4 q5 q6 q7 l6 g6 l7 g7 hy
          rw [hkf] at hbd
          rw [← hke] at hkey hlk
          have HQ := Lib.hid (quote_calls key hkey)
          obtain ⟨Q, hQ⟩ : ∃ Q, Q = quoteL key := ⟨_, rfl⟩
          have hQl : Q.length ≤ 6000002 := by rw [hQ]; unfold quoteL; have := quoteF_len key; simp only [List.length_append, List.length_cons, List.length_nil]; omega
          rw [← hQ] at HQ hlk
          have HY := Lib.hid hy
          have HJY0 := JC.mk (w := wr) (x := y) (A := A6) (n := y.f4.length) (c := c6) (B := A7) (m := y.f5.length) (c' := c7) rfl l6 g6 rfl l7 g7
          have HTK : Hid ((l.take (k + 1)).map ofL = (l.take k).map ofL ++ [ofL (Q ++ [58] ++ t)]) := Lib.hid (by
            have hkl2 : k < l.length := by rw [HLEN.out]; exact hkl
            rw [List.take_succ_eq_append_getElem hkl2, List.map_append, hlk]; simp [hkl2])
          have HLN : Hid ((((l.take k).map ofL).length + 1) * 16 ≤ 140737488355328) := Lib.hid (by have := HL.out.1; simp; omega)
          have hal := fun o => below_alloc (Below.refl wr.heap.size wr) o
          have hWk := blk_new wr (.cells #[.int .i64 y.f0, .bool y.f1, .bool y.f2.f0, .string y.f2.f1, .int .i64 y.f2.f2, .string y.f3, .slice A6 y.f4.length c6, .slice A7 y.f5.length c7] 28)
          have hWs : (wr.alloc (.cells #[.int .i64 y.f0, .bool y.f1, .bool y.f2.f0, .string y.f2.f1, .int .i64 y.f2.f2, .string y.f3, .slice A6 y.f4.length c6, .slice A7 y.f5.length c7] 28)).heap.size = wr.heap.size + 1 := by simp
          have hgW : w.heap.size < wr.heap.size := Nat.lt_of_lt_of_le (blk_lt HK0.out) HI.out.bel.size
          have hk7 : wr.cell? ⟨w.heap.size, 7, none⟩ = some (.slice (some bd) x.f5.length c') := (blk_cell (thru HK0.out HI.out.bel) 7).trans rfl
          have HNE : Hid (some wr.heap.size ≠ v3.ownBlock) := Lib.hid (fun h0 => by
            have := (Kd.R_bound HI.out.r).1 wr.heap.size h0.symm
            omega)
          have HKD : Hid (∀ wa : World, Below w.heap.size w wa → wa.cell? (bd.add k) = some (.string (ofL key))) := Lib.hid (fun wa hb => by
            obtain ⟨bd', cs', e', _, hcs', hbd'⟩ := Kd.C_get (Kd.C_below HJ.out.s hb) (⟨#[]⟩ : ByteArray) (k : Int) (by omega) (by omega)
            injection e' with e'
            subst e'
            obtain rfl : cs' = [.string (x.f5.getD k ⟨#[]⟩)] := hcs'
            have := hbd' 0 _ rfl
            rw [show (k : Int).toNat * Kd.string.sz + 0 = k by show k * 1 + 0 = k; omega, hkf] at this
            exact this)
          have hall : ∀ w' : World, Below (wr.alloc (.cells #[.int .i64 y.f0, .bool y.f1, .bool y.f2.f0, .string y.f2.f1, .int .i64 y.f2.f2, .string y.f3, .slice A6 y.f4.length c6, .slice A7 y.f5.length c7] 28)).heap.size (wr.alloc (.cells #[.int .i64 y.f0, .bool y.f1, .bool y.f2.f0, .string y.f2.f1, .int .i64 y.f2.f2, .string y.f3, .slice A6 y.f4.length c6, .slice A7 y.f5.length c7] 28)) w' → w'.cell? ⟨w.heap.size, 7, none⟩ = some (.slice (some bd) x.f5.length c') ∧ w'.cell? (bd.add k) = some (.string (ofL key)) ∧ w'.cell? ⟨wr.heap.size, 0, none⟩ = some (.int .i64 y.f0) ∧ w'.cell? ⟨wr.heap.size, 1, none⟩ = some (.bool y.f1) ∧ w'.cell? ⟨wr.heap.size, 2, none⟩ = some (.bool y.f2.f0) ∧ w'.cell? ⟨wr.heap.size, 3, none⟩ = some (.string y.f2.f1) ∧ w'.cell? ⟨wr.heap.size, 4, none⟩ = some (.int .i64 y.f2.f2) ∧ w'.cell? ⟨wr.heap.size, 5, none⟩ = some (.string y.f3) ∧ w'.cell? ⟨wr.heap.size, 6, none⟩ = some (.slice A6 y.f4.length c6) ∧ w'.cell? ⟨wr.heap.size, 7, none⟩ = some (.slice A7 y.f5.length c7) := fun w' hb => by
            have h1 := (hal (.cells #[.int .i64 y.f0, .bool y.f1, .bool y.f2.f0, .string y.f2.f1, .int .i64 y.f2.f2, .string y.f3, .slice A6 y.f4.length c6, .slice A7 y.f5.length c7] 28)).trans (hb.mono (hal _).size)
            have h2 := thru hWk hb
            exact ⟨pw_cell_below h1 hk7, pw_cell_below h1 hbd, (blk_cell h2 0).trans rfl, (blk_cell h2 1).trans rfl, (blk_cell h2 2).trans rfl, (blk_cell h2 3).trans rfl, (blk_cell h2 4).trans rfl, (blk_cell h2 5).trans rfl, (blk_cell h2 6).trans rfl, (blk_cell h2 7).trans rfl⟩
          have hst := hall _ (below_drew1 (Below.refl _ _))
          have HSB0 := Lib.hid hall
          have HAL := Lib.hid hal
          have HKB := Lib.hid (And.intro hk7 (And.intro hbd (And.intro hWk hgW)))
          have hz1 : (ofL Q).size = Q.length := ofL_size _
          have hz2 : (ofL (Q ++ [58])).size = Q.length + 1 := by rw [ofL_size]; simp
          have hz3 : (ofL t).size = t.length := ofL_size _
          have hz4 : ¬ (9223372036854775807 < Q.length + 1) := by omega
          have hz5 : ¬ (9223372036854775807 < Q.length + 1 + t.length) := by omega
          have hS1 : ofL Q ++ (⟨#[58]⟩ : ByteArray) = ofL (Q ++ [58]) := ofL_app Q [58]
          have hS2 : ofL (Q ++ [58]) ++ ofL t = ofL (Q ++ [58] ++ t) := ofL_app _ _
          clear hyy hke hkf hQ hy hbd l6 g6 l7 g7 hal hWk hWs hgW hk7 hall hlk hkey htl
          go_upto_region 22 with fail
          refine start_ (n := 14) (S := fun w' => w'.cell? ⟨w.heap.size, 7, none⟩ = some (.slice (some bd) x.f5.length c') ∧ w'.cell? (bd.add k) = some (.string (ofL key)) ∧ w'.cell? ⟨wr.heap.size, 0, none⟩ = some (.int .i64 y.f0) ∧ w'.cell? ⟨wr.heap.size, 1, none⟩ = some (.bool y.f1) ∧ w'.cell? ⟨wr.heap.size, 2, none⟩ = some (.bool y.f2.f0) ∧ w'.cell? ⟨wr.heap.size, 3, none⟩ = some (.string y.f2.f1) ∧ w'.cell? ⟨wr.heap.size, 4, none⟩ = some (.int .i64 y.f2.f2) ∧ w'.cell? ⟨wr.heap.size, 5, none⟩ = some (.string y.f3) ∧ w'.cell? ⟨wr.heap.size, 6, none⟩ = some (.slice A6 y.f4.length c6) ∧ w'.cell? ⟨wr.heap.size, 7, none⟩ = some (.slice A7 y.f5.length c7)) (ds := []) #[false, false, false, false, false, false, false, false, false, false, false, false, false, false] (by kernel_rfl) rfl rfl hst (fun hHeld => ?_)
          have hWd := (HAL.out (.cells #[.int .i64 y.f0, .bool y.f1, .bool y.f2.f0, .string y.f2.f1, .int .i64 y.f2.f2, .string y.f3, .slice A6 y.f4.length c6, .slice A7 y.f5.length c7] 28)).trans ((below_drew1 (Below.refl (wr.alloc (.cells #[.int .i64 y.f0, .bool y.f1, .bool y.f2.f0, .string y.f2.f1, .int .i64 y.f2.f2, .string y.f3, .slice A6 y.f4.length c6, .slice A7 y.f5.length c7] 28)).heap.size (wr.alloc (.cells #[.int .i64 y.f0, .bool y.f1, .bool y.f2.f0, .string y.f2.f1, .int .i64 y.f2.f2, .string y.f3, .slice A6 y.f4.length c6, .slice A7 y.f5.length c7] 28)))).mono (HAL.out _).size)
          have hSd : ∀ w', Below (wr.alloc (.cells #[.int .i64 y.f0, .bool y.f1, .bool y.f2.f0, .string y.f2.f1, .int .i64 y.f2.f2, .string y.f3, .slice A6 y.f4.length c6, .slice A7 y.f5.length c7] 28)).drew.heap.size (wr.alloc (.cells #[.int .i64 y.f0, .bool y.f1, .bool y.f2.f0, .string y.f2.f1, .int .i64 y.f2.f2, .string y.f3, .slice A6 y.f4.length c6, .slice A7 y.f5.length c7] 28)).drew w' → w'.cell? ⟨w.heap.size, 7, none⟩ = some (.slice (some bd) x.f5.length c') ∧ w'.cell? (bd.add k) = some (.string (ofL key)) ∧ w'.cell? ⟨wr.heap.size, 0, none⟩ = some (.int .i64 y.f0) ∧ w'.cell? ⟨wr.heap.size, 1, none⟩ = some (.bool y.f1) ∧ w'.cell? ⟨wr.heap.size, 2, none⟩ = some (.bool y.f2.f0) ∧ w'.cell? ⟨wr.heap.size, 3, none⟩ = some (.string y.f2.f1) ∧ w'.cell? ⟨wr.heap.size, 4, none⟩ = some (.int .i64 y.f2.f2) ∧ w'.cell? ⟨wr.heap.size, 5, none⟩ = some (.string y.f3) ∧ w'.cell? ⟨wr.heap.size, 6, none⟩ = some (.slice A6 y.f4.length c6) ∧ w'.cell? ⟨wr.heap.size, 7, none⟩ = some (.slice A7 y.f5.length c7) := fun w' hb => HSB0.out w' ((below_drew1 (Below.refl _ _)).trans (hb.mono (Nat.le_refl _)))
          have hEd : (wr.alloc (.cells #[.int .i64 y.f0, .bool y.f1, .bool y.f2.f0, .string y.f2.f1, .int .i64 y.f2.f2, .string y.f3, .slice A6 y.f4.length c6, .slice A7 y.f5.length c7] 28)).drew.heap[wr.heap.size]? = some (.cells #[.int .i64 y.f0, .bool y.f1, .bool y.f2.f0, .string y.f2.f1, .int .i64 y.f2.f2, .string y.f3, .slice A6 y.f4.length c6, .slice A7 y.f5.length c7] 28 (0, 0)) := blk_drew HKB.out.2.2.1
          generalize (wr.alloc (.cells #[.int .i64 y.f0, .bool y.f1, .bool y.f2.f0, .string y.f2.f1, .int .i64 y.f2.f2, .string y.f3, .slice A6 y.f4.length c6, .slice A7 y.f5.length c7] 28)).drew = wd at hWd hSd hEd hHeld ⊢
          have HBX : Hid (∀ w', Below wd.heap.size wd w' → Below w.heap.size w w') := Lib.hid (fun w' hb => HBW.out.trans ((hWd.trans (hb.mono hWd.size)).mono HBW.out.size))
          have HSB := Lib.hid hSd
          have HJY := Lib.hid (HJY0.below hWd)
          have HI : Hid (TI w0 wd w0.heap.size v3 (l.take k)) := Lib.hid ⟨Kd.R_below HI.out.r hWd, HI.out.bel.trans (hWd.mono HI.out.bel.size)⟩
          have HBd := Lib.hid (Below.refl wd.heap.size wd)
          have HSG : Hid (∀ w2 wa : World, Below wd.heap.size wd w2 → Below w0.heap.size w0 wa → w2.grownBy wa v3.ownBlock → (fun w' : World => w'.cell? ⟨w.heap.size, 7, none⟩ = some (.slice (some bd) x.f5.length c') ∧ w'.cell? (bd.add k) = some (.string (ofL key)) ∧ w'.cell? ⟨wr.heap.size, 0, none⟩ = some (.int .i64 y.f0) ∧ w'.cell? ⟨wr.heap.size, 1, none⟩ = some (.bool y.f1) ∧ w'.cell? ⟨wr.heap.size, 2, none⟩ = some (.bool y.f2.f0) ∧ w'.cell? ⟨wr.heap.size, 3, none⟩ = some (.string y.f2.f1) ∧ w'.cell? ⟨wr.heap.size, 4, none⟩ = some (.int .i64 y.f2.f2) ∧ w'.cell? ⟨wr.heap.size, 5, none⟩ = some (.string y.f3) ∧ w'.cell? ⟨wr.heap.size, 6, none⟩ = some (.slice A6 y.f4.length c6) ∧ w'.cell? ⟨wr.heap.size, 7, none⟩ = some (.slice A7 y.f5.length c7)) wa) := Lib.hid (fun w2 wa hb hB9 hga => by
            have h2 := thru hEd hb
            have h3 : wa.heap[wr.heap.size]? = some (.cells #[.int .i64 y.f0, .bool y.f1, .bool y.f2.f0, .string y.f2.f1, .int .i64 y.f2.f2, .string y.f3, .slice A6 y.f4.length c6, .slice A7 y.f5.length c7] 28 (0, 0)) := (hga.block wr.heap.size (blk_lt h2) HNE.out).trans h2
            have h4 := thru HK0.out hB9
            exact ⟨(blk_cell h4 7).trans rfl, HKD.out wa (HB0.out.trans (hB9.mono HB0.out.size)), (blk_cell h3 0).trans rfl, (blk_cell h3 1).trans rfl, (blk_cell h3 2).trans rfl, (blk_cell h3 3).trans rfl, (blk_cell h3 4).trans rfl, (blk_cell h3 5).trans rfl, (blk_cell h3 6).trans rfl, (blk_cell h3 7).trans rfl⟩)
          clear hWd hSd hEd hst HSB0 HAL HKB HJY0
          refine pure_ (i := 0) (N := some 53) (v := ?_) (a' := ?_) #[true, false, false, false, false, false, false, false, false, false, false, false, false, false] rfl rfl (by kernel_rfl) (fun _ _ _ h => h) (Or.inl ⟨by rfl, ?_⟩) ?_ ?_
          rotate_left
          · intro w'
            go_simp
            with_reducible rfl
          rotate_left
          · simp only [Act.put, List.setIfInBounds_toArray, List.set_cons_zero, List.set_cons_succ, i64_w, i32_w]
            rfl
          refine pure_ (i := 1) (N := some 54) (v := ?_) (a' := ?_) #[true, true, false, false, false, false, false, false, false, false, false, false, false, false] rfl rfl (by kernel_rfl) (fun _ _ _ h => h) (Or.inl ⟨by rfl, ?_⟩) ?_ ?_
          rotate_left
          · intro w'
            go_simp
            with_reducible rfl
          rotate_left
          · simp only [Act.put, List.setIfInBounds_toArray, List.set_cons_zero, List.set_cons_succ, i64_w, i32_w]
            rfl
          refine take_ (i := 2) (N := some 55) (v := ?_) (a' := ?_) #[true, true, true, false, false, false, false, false, false, false, false, false, false, false] rfl rfl (by kernel_rfl) (fun _ _ _ h => h) (Or.inl ⟨by rfl, ?_⟩) hHeld ?_ ?_
          rotate_left
          · rintro w' ⟨s0, s1, s2, s3, s4, s5, s6, s7, s8, s9⟩
            go_simp
            with_reducible rfl
          rotate_left
          · simp only [Act.put, List.setIfInBounds_toArray, List.set_cons_zero, List.set_cons_succ, i64_w, i32_w]
            rfl
          refine pure_ (i := 3) (N := some 56) (v := ?_) (a' := ?_) #[true, true, true, true, false, false, false, false, false, false, false, false, false, false] rfl rfl (by kernel_rfl) (fun _ _ _ h => h) (Or.inl ⟨by rfl, ?_⟩) ?_ ?_
          rotate_left
          · intro w'
            go_simp
            with_reducible rfl
          rotate_left
          · simp only [Act.put, List.setIfInBounds_toArray, List.set_cons_zero, List.set_cons_succ, i64_w, i32_w]
            rfl
          refine pure_ (i := 4) (N := some 57) (v := ?_) (a' := ?_) #[true, true, true, true, true, false, false, false, false, false, false, false, false, false] rfl rfl (by kernel_rfl) (fun _ _ _ h => h) (Or.inl ⟨by rfl, ?_⟩) ?_ ?_
          rotate_left
          · intro w'
            go_simp
            with_reducible rfl
          rotate_left
          · simp only [Act.put, List.setIfInBounds_toArray, List.set_cons_zero, List.set_cons_succ, i64_w, i32_w]
            rfl
          refine take_ (i := 5) (N := some 58) (v := ?_) (a' := ?_) #[true, true, true, true, true, true, false, false, false, false, false, false, false, false] rfl rfl (by kernel_rfl) (fun _ _ _ h => h) (Or.inl ⟨by rfl, ?_⟩) hHeld ?_ ?_
          rotate_left
          · rintro w' ⟨s0, s1, s2, s3, s4, s5, s6, s7, s8, s9⟩
            go_simp
            with_reducible rfl
          rotate_left
          · simp only [Act.put, List.setIfInBounds_toArray, List.set_cons_zero, List.set_cons_succ, i64_w, i32_w]
            rfl
          refine take_ (i := 8) (N := some 61) (v := ?_) (a' := ?_) #[true, true, true, true, true, true, false, false, true, false, false, false, false, false] rfl rfl (by kernel_rfl) (fun _ _ _ h => h) (Or.inl ⟨by rfl, ?_⟩) hHeld ?_ ?_
          rotate_left
          · rintro w' ⟨s0, s1, s2, s3, s4, s5, s6, s7, s8, s9⟩
            go_simp
            with_reducible rfl
          rotate_left
          · simp only [Act.put, List.setIfInBounds_toArray, List.set_cons_zero, List.set_cons_succ, i64_w, i32_w]
            rfl
          refine one_ (i := 6) (N := some 59) #[true, true, true, true, true, true, true, false, true, false, false, false, false, false] rfl rfl (by kernel_rfl) (by decide) (fun K hK => ?_)
          refine call_ 57 #[.string (ofL key)] (by rfl) rfl ?_ ?_
          · go_simp
          refine (HQ.out wd).mono ?_
          rintro E w1 ⟨rfl, hB⟩
          have HB1 := Lib.hid (HBd.out.trans (hB.mono HBd.out.size))
          refine ⟨_, rfl, hK.out _ _ (HSB.out _ HB1.out) (fun hHeld => ?_)⟩
          clear hK K hB
          refine norm_ (a' := ?_) ?_ ?_
          rotate_left
          · show Act.put _ (some 59) _ = _
            simp only [Act.put, List.setIfInBounds_toArray, List.set_cons_zero, List.set_cons_succ, i64_w, i32_w]
            rfl
          refine pure_ (i := 7) (N := some 60) (v := ?_) (a' := ?_) #[true, true, true, true, true, true, true, true, true, false, false, false, false, false] rfl rfl (by kernel_rfl) (fun _ _ _ h => h) (Or.inl ⟨by rfl, ?_⟩) ?_ ?_
          rotate_left
          · intro w'
            go_simp
            with_reducible rfl
          rotate_left
          · simp only [Act.put, List.setIfInBounds_toArray, List.set_cons_zero, List.set_cons_succ, i64_w, i32_w]
            rfl
          refine one_ (i := 9) (N := some 62) #[true, true, true, true, true, true, true, true, true, true, false, false, false, false] rfl rfl (by kernel_rfl) (by decide) (fun K hK => ?_)
          refine call_ 30 #[.agg #[.int .i64 y.f0, .bool y.f1, .bool y.f2.f0, .string y.f2.f1, .int .i64 y.f2.f2, .string y.f3, .slice A6 y.f4.length c6, .slice A7 y.f5.length c7]] (by rfl) rfl ?_ ?_
          · go_simp
          refine (IH.out y t HY.out A6 A7 c6 c7 w1 (HT.out.below (HBX.out _ HB1.out)) (HJY.out.below HB1.out)).mono ?_
          rintro E w2 ⟨rfl, hB⟩
          have HB2 := Lib.hid (HB1.out.trans (hB.mono HB1.out.size))
          refine ⟨_, rfl, hK.out _ _ (HSB.out _ HB2.out) (fun hHeld => ?_)⟩
          clear hK K hB
          refine norm_ (a' := ?_) ?_ ?_
          rotate_left
          · show Act.put _ (some 62) _ = _
            simp only [Act.put, List.setIfInBounds_toArray, List.set_cons_zero, List.set_cons_succ, i64_w, i32_w]
            rfl
          refine pure_ (i := 10) (N := some 63) (v := ?_) (a' := ?_) #[true, true, true, true, true, true, true, true, true, true, true, false, false, false] rfl rfl (by kernel_rfl) (fun _ _ _ h => h) (Or.inl ⟨by rfl, ?_⟩) ?_ ?_
          rotate_left
          · intro w'
            go_simp
            with_reducible rfl
          rotate_left
          · simp only [Act.put, List.setIfInBounds_toArray, List.set_cons_zero, List.set_cons_succ, i64_w, i32_w]
            rfl
          refine one_ (i := 11) (N := some 64) #[true, true, true, true, true, true, true, true, true, true, true, true, false, false] rfl rfl (by kernel_rfl) (by decide) (fun K hK => ?_)
          refine value_ (v := .slice (some ⟨w2.heap.size, 0, none⟩) 1 1) (w1 := w2.alloc (.cells #[.string (ofL (Q ++ [58] ++ t))] 9)) (by rfl) rfl ?_ ?_
          · go_simp
          refine hK.out _ _ (HSB.out _ (below_alloc HB2.out _)) (fun hHeld => ?_)
          clear hK K
          refine norm_ (a' := ?_) ?_ ?_
          rotate_left
          · show Act.put _ (some 64) _ = _
            simp only [Act.put, List.setIfInBounds_toArray, List.set_cons_zero, List.set_cons_succ, i64_w, i32_w]
            rfl
          refine one_ (i := 12) (N := some 65) #[true, true, true, true, true, true, true, true, true, true, true, true, true, false] rfl rfl (by kernel_rfl) (by decide) (fun K hK => ?_)
          refine Kd.R_append_step Kd.string (w0 := w0) w0.heap.size (by rfl) (.tmp 53) (.tmp 64) 26 9 (.string ⟨#[]⟩) 16 rfl Tryz.underlying26 info9 rfl (by decide) (by decide) v3 _ (ofL (Q ++ [58] ++ t)) [.string (ofL (Q ++ [58] ++ t))] (fun _ => True) (fun _ => False) rfl rfl rfl (fun _ hk => hk.elim) (fun _ _ => trivial) (Kd.R_below HI.out.r HB2.out) (HI.out.bel.trans (HB2.out.mono HI.out.bel.size)) (Nat.le_trans HI.out.bel.size HB2.out.size) HLN.out ?_
          intro v9 wa hR9 hB9 hga hat
          refine hK.out _ _ (HSG.out _ _ HB2.out hB9 hga) (fun hHeld => ?_)
          clear hK K
          refine norm_ (a' := ?_) ?_ ?_
          rotate_left
          · show Act.put _ (some 65) _ = _
            simp only [Act.put, List.setIfInBounds_toArray, List.set_cons_zero, List.set_cons_succ, i64_w, i32_w]
            rfl
          refine pure_ (i := 13) (N := some 3) (v := ?_) (a' := ?_) #[true, true, true, true, true, true, true, true, true, true, true, true, true, true] rfl rfl (by kernel_rfl) (fun _ _ _ h => h) (Or.inl ⟨by rfl, ?_⟩) ?_ ?_
          rotate_left
          · intro w'
            go_simp
            with_reducible rfl
          rotate_left
          · simp only [Act.put, List.setIfInBounds_toArray, List.set_cons_zero, List.set_cons_succ, i64_w, i32_w]
            rfl
          refine done_ (by kernel_rfl) ?_
          clear hz1 hz2 hz3 hz4 hz5 hS1 hS2
          go_wp2_with fail
          exact ⟨⟨k + 1, _, by omega, rfl, by simp, Lib.hid ⟨by rw [HTK.out]; exact hR9, hB9⟩⟩, by simp [intOf]; omega⟩
        · have : k = x.f4.length := by omega
          subst this
          have HR : Hid (Kd.R Kd.string 9 wr w0.heap.size (fun _ => True) v3 (l.map ofL)) := Lib.hid (by have := HI.out.r; rwa [← HLEN.out, List.take_length] at this)
          go_wp2_with fail
          refine (join_calls l _ v3 wr HR.out HL.out.1 HL.out.2).mono ?_
          rintro E w2 ⟨rfl, hB⟩
          have HB2 := Lib.hid (HBW.out.trans (hB.mono HBW.out.size))
          have HJL := Lib.hid HL.out.2
          obtain ⟨J, hJ⟩ : ∃ J, J = Lib.join l [44] := ⟨_, rfl⟩
          rw [← hJ] at HJL ⊢
          have hz1 : (ofL J).size = J.length := ofL_size J
          have hz2 : (ofL (123 :: J)).size = J.length + 1 := ofL_size _
          have hz3 : J.length ≤ 1000000000 := HJL.out
          have hS1 : (⟨#[123]⟩ : ByteArray) ++ ofL J = ofL (123 :: J) := ofL_app [123] J
          have hS2 : ofL (123 :: J) ++ (⟨#[125]⟩ : ByteArray) = ofL (123 :: J ++ [125]) := ofL_app (123 :: J) [125]
          have HJJ := Lib.hid hJ
          clear hJ hB
          go_wp2_with fail
          go_ret
          rw [← HJJ.out]
          exact ⟨rfl, HB2.out⟩
    rw [if_neg h5] at h
    have h5' : (x.f0 == 5) = false := by simpa using h5
    obtain rfl : [110, 117, 108, 108] = r := by simpa using h
    clear h h1 h2 h3 h4 h5
    go_enter Tryz.func30, Tryz.ntmps30
    go_wp2_with fail
    go_ret
    exact ⟨rfl, HA.out _⟩
end Js
end Go.Proofs.YtapcpndplnkfjaaGreatDoor
namespace Go.Proofs.YtapcpndplnkfjaaGreatDoor
open Go.RowKit Go.Proofs.YtapcpndplnkfjaaGreatDoorW.PrintWords Go.Proofs.YtapcpndplnkfjaaGreatDoorW.PrintLast Go.Proofs.YtapcpndplnkfjaaGreatDoorW.PrintMore
set_option linter.unusedVariables false
set_option linter.unusedSimpArgs false
namespace Js
theorem jparseR (s : List UInt8) (w : World) (hT : Tabs w) (x : S28) (e : Int) (h : pv s = (x, e)) :
    Calls Tryz.prog 16 #[.string (ofL s)] w fun E w' => ∃ A c B c', E = .returned (.tuple #[.agg #[.int .i64 x.f0, .bool x.f1, .bool x.f2.f0, .string x.f2.f1, .int .i64 x.f2.f2, .string x.f3, .slice A x.f4.length c, .slice B x.f5.length c'], .int .i64 e]) ∧
      JC w' x A x.f4.length c B x.f5.length c' ∧ Kd.string.R 9 w' w.heap.size (fun _ => True) (.slice B x.f5.length c') x.f5 ∧ Below w.heap.size w w' := by
  have hx : x = (parseV (fvN 17) s).1 := by rw [show parseV (fvN 17) s = (x, e) from h]
  have he : e = (parseV (fvN 17) s).2 := by rw [show parseV (fvN 17) s = (x, e) from h]
  subst hx he
  refine (json_calls s w hT).mono fun E w' ⟨v, h1, ⟨cs, h2, h3⟩, h4⟩ => ?_
  obtain ⟨v6, v7, rfl, g6, g7⟩ := k28_openM h3
  obtain ⟨A, c, rfl, hl6, h6⟩ := Kd.R_reads g6
  obtain ⟨B, c', rfl, hl7, h7⟩ := Kd.R_reads g7
  exact ⟨A, c, B, c', by rw [h1, h2], ⟨rfl, hl6, h6, rfl, hl7, h7⟩, Kd.R_mono g7 (fun _ _ => trivial), h4⟩
theorem find_calls (x : S28) (key : ByteArray) (h5 : x.f0 = 5) (v6 v7 : Value) (base : Nat) (w : World) (hR : Kd.string.R 9 w base (fun _ => True) v7 x.f5) (hl : x.f5.length ≤ 1000000) :
    Calls Tryz.prog 33 #[.agg #[.int .i64 x.f0, .bool x.f1, .bool x.f2.f0, .string x.f2.f1, .int .i64 x.f2.f2, .string x.f3, v6, v7], .string key] w fun e w' => e = .returned (.tuple #[.int .i64 (pos x.f5 key : Nat), .bool (has x.f5 key)]) ∧ Below w.heap.size w w' := by
  have h5b : (x.f0 != 5) = false := by simp [h5]
  have hal := fun o => below_alloc (Below.refl w.heap.size w) o
  have HA := Lib.hid hal
  have HS := Lib.hid (fun o => search_calls key (Kd.R_below hR (hal o)) hl)
  obtain ⟨A, c, rfl⟩ := Kd.R_slice hR
  clear hR hal h5 hl
  go_enter Tryz.func33, Tryz.ntmps33
  go_wp2_with fail
  refine (HS.out _).mono ?_
  rintro E w1 ⟨rfl, q, rfl⟩
  go_wp2_with fail
  go_ret2
  exact ⟨rfl, pw_below_drewN (HA.out _) _⟩
end Js
end Go.Proofs.YtapcpndplnkfjaaGreatDoor
namespace Go.Proofs.YtapcpndplnkfjaaGreatDoor.Pr
open Go.RowKit Go.Proofs.YtapcpndplnkfjaaGreatDoorW.PrintWords Go.Proofs.YtapcpndplnkfjaaGreatDoorW.PrintLast Go.Proofs.YtapcpndplnkfjaaGreatDoorW.PrintMore
attribute [local go_sem] max2_int min2_int max_two min_two max_three min_three max_four min_four
set_option linter.unusedVariables false
set_option linter.unusedSimpArgs false
end Go.Proofs.YtapcpndplnkfjaaGreatDoor.Pr
namespace Go.Proofs.YtapcpndplnkfjaaGreatDoor.Pr
open Go.RowKit Go.Proofs.YtapcpndplnkfjaaGreatDoorW.PrintWords Go.Proofs.YtapcpndplnkfjaaGreatDoorW.PrintLast Go.Proofs.YtapcpndplnkfjaaGreatDoorW.PrintMore
attribute [local go_sem] max2_int min2_int max_two min_two max_three min_three max_four min_four
set_option linter.unusedVariables false
set_option linter.unusedSimpArgs false
end Go.Proofs.YtapcpndplnkfjaaGreatDoor.Pr
namespace Go.Proofs.YtapcpndplnkfjaaGreatDoor.Pr
open Go.RowKit Go.Proofs.YtapcpndplnkfjaaGreatDoorW.PrintWords Go.Proofs.YtapcpndplnkfjaaGreatDoorW.PrintLast Go.Proofs.YtapcpndplnkfjaaGreatDoorW.PrintMore
attribute [local go_sem] max2_int min2_int max_two min_two max_three min_three max_four min_four
set_option linter.unusedVariables false
set_option linter.unusedSimpArgs false
end Go.Proofs.YtapcpndplnkfjaaGreatDoor.Pr
namespace Go.Proofs.YtapcpndplnkfjaaGreatDoor.Pr
open Go.RowKit Go.Proofs.YtapcpndplnkfjaaGreatDoorW.PrintWords Go.Proofs.YtapcpndplnkfjaaGreatDoorW.PrintLast Go.Proofs.YtapcpndplnkfjaaGreatDoorW.PrintMore
attribute [local go_sem] max2_int min2_int max_two min_two max_three min_three max_four min_four
set_option linter.unusedVariables false
set_option linter.unusedSimpArgs false
end Go.Proofs.YtapcpndplnkfjaaGreatDoor.Pr
namespace Go.Proofs.YtapcpndplnkfjaaGreatDoor
open Go.RowKit Go.Proofs.YtapcpndplnkfjaaGreatDoorW.PrintWords Pr
theorem w1 (i n : Nat) (h : i ≤ n) (hn : n ≤ 1000000000000000000) : wrap64 ((i : Int) + 1) = ((i + 1 : Nat) : Int) := by unfold wrap64; omega
end Go.Proofs.YtapcpndplnkfjaaGreatDoor
namespace Go.Proofs.YtapcpndplnkfjaaGreatDoor
open Go.RowKit Go.Proofs.YtapcpndplnkfjaaGreatDoorW.PrintWords Pr
def sideP (n : NumP.NumV) : Int := if n.2.1 = [] then 0 else if n.1 = true then -1 else 1
def cmpI (a b : Int) : Int := if a < b then -1 else if a > b then 1 else 0
def cmpA (a b : NumP.NumV) : Int := if cmpI ((a.2.1.length : Int) + a.2.2) ((b.2.1.length : Int) + b.2.2) = 0 then Lib.compareBytes a.2.1 b.2.1 else cmpI ((a.2.1.length : Int) + a.2.2) ((b.2.1.length : Int) + b.2.2)
def cmpP (a b : NumP.NumV) : Int := if cmpI (sideP a) (sideP b) ≠ 0 ∨ sideP a = 0 then cmpI (sideP a) (sideP b) else sideP a * cmpA a b
theorem side_f (d : Bool) (D : List UInt8) (e : Int) : num_Num_side.f d (ofL D) e = some (sideP (d, D, e)) := by
  unfold num_Num_side.f sideP
  rw [ofL_toList]
  by_cases h : D = []
  · rw [if_pos h, if_pos h]
  · rw [if_neg h, if_neg h]; cases d <;> rfl
theorem cmpI_f (a b : Int) : cmp_Compare_int.f a b = some (cmpI a b) := by
  unfold cmp_Compare_int.f cmp_isNaN_int.f cmpI
  simp only [Option.bind_some, bne_self_eq_false, Bool.false_eq_true, if_false]
  by_cases h : a < b
  · rw [if_pos h, if_pos h]
  · rw [if_neg h, if_neg h]; by_cases h2 : a > b
    · rw [if_pos h2, if_pos h2]
    · rw [if_neg h2, if_neg h2]
theorem or_ev (a b : Int) : Ev (fun k => cmp_Or_int.f k [a, b]) (if a = 0 then b else a) := by
  refine Ev.of (fun k => cmp_Or_int.mono _ k) (k := 3) ?_
  unfold cmp_Or_int.f
  simp only [cmp_Or_int.l0, List.length_cons, List.length_nil]
  have w1 : wrap64 (0 + 1) = 1 := by unfold wrap64; omega
  have w2 : wrap64 (1 + 1) = 2 := by unfold wrap64; omega
  simp only [w1, w2, rd]
  by_cases h : a = 0
  · subst h; by_cases h2 : b = 0 <;> simp [h2]
  · simp [h]
theorem compare_bd (a b : List UInt8) : -1 ≤ Lib.compareBytes a b ∧ Lib.compareBytes a b ≤ 1 := by
  induction a generalizing b with
  | nil => cases b <;> simp [Lib.compareBytes]
  | cons x t ih =>
    cases b with
    | nil => simp [Lib.compareBytes]
    | cons y u =>
      simp only [Lib.compareBytes]
      split
      · omega
      · split
        · omega
        · exact ih u
theorem cmpA_bd (a b : NumP.NumV) : -1 ≤ cmpA a b ∧ cmpA a b ≤ 1 := by
  have := compare_bd a.2.1 b.2.1
  unfold cmpA
  by_cases h : cmpI ((a.2.1.length : Int) + a.2.2) ((b.2.1.length : Int) + b.2.2) = 0
  · rw [if_pos h]; exact this
  · rw [if_neg h]; unfold cmpI; split
    · omega
    · split <;> omega
theorem compare_ev (a b : NumP.NumV) (ha : a.2.1.length ≤ 1000000000000000000 ∧ -1000000000000000000 ≤ a.2.2 ∧ a.2.2 ≤ 1000000000000000000) (hb : b.2.1.length ≤ 1000000000000000000 ∧ -1000000000000000000 ≤ b.2.2 ∧ b.2.2 ≤ 1000000000000000000) :
    Ev (fun k => num_Compare.f k a.1 (ofL a.2.1) a.2.2 b.1 (ofL b.2.1) b.2.2) (cmpP a b) := by
  have sa := side_f a.1 a.2.1 a.2.2
  have sb := side_f b.1 b.2.1 b.2.2
  unfold cmpP
  by_cases hc : cmpI (sideP a) (sideP b) = 0
  · by_cases h0 : sideP a = 0
    · rw [if_pos (.inr h0)]
      refine Ev.congr (f := fun k => num_Compare.j0 k (cmpI (sideP a) (sideP b)) true a.1 (ofL a.2.1) a.2.2 b.1 (ofL b.2.1) b.2.2) (fun k => ?_) (Ev.step (f := fun _ => some (cmpI (sideP a) (sideP b))) (fun k => by simp only [num_Compare.j0, if_true]) (Ev.now _))
      unfold num_Compare.f
      rw [sa, sb]; simp only [Option.bind_some]; rw [cmpI_f]; simp only [Option.bind_some]
      rw [if_pos hc, show (sideP (a.1, a.2.1, a.2.2) == 0) = true by simpa using h0]
    · rw [if_neg (by rintro (h | h); exact h hc; exact h0 h)]
      refine Ev.congr (f := fun k => num_Compare.j0 k (cmpI (sideP a) (sideP b)) false a.1 (ofL a.2.1) a.2.2 b.1 (ofL b.2.1) b.2.2) (fun k => ?_) ?_
      · unfold num_Compare.f
        rw [sa, sb]; simp only [Option.bind_some]; rw [cmpI_f]; simp only [Option.bind_some]
        rw [if_pos hc, show (sideP (a.1, a.2.1, a.2.2) == 0) = false by simpa using h0]
      · have hor := or_ev (cmpI ((a.2.1.length : Int) + a.2.2) ((b.2.1.length : Int) + b.2.2)) (Lib.compareBytes a.2.1 b.2.1)
        refine Ev.step (f := fun k => (cmp_Or_int.f k [cmpI ((a.2.1.length : Int) + a.2.2) ((b.2.1.length : Int) + b.2.2), Lib.compareBytes a.2.1 b.2.1]).bind fun t => some (wrap64 (sideP a * t))) (fun k => ?_) (Ev.bind hor ?_)
        · simp only [num_Compare.j0, ofL_size]
          rw [if_neg (by simp), show wrap64 ((a.2.1.length : Int) + a.2.2) = (a.2.1.length : Int) + a.2.2 by unfold wrap64; omega, show wrap64 ((b.2.1.length : Int) + b.2.2) = (b.2.1.length : Int) + b.2.2 by unfold wrap64; omega, cmpI_f]
          simp only [Option.bind_some]
          rw [sa]; simp only [Option.bind_some]
          rfl
        · refine Ev.congr (fun k => ?_) (Ev.now _)
          have hbd := cmpA_bd a b
          have hs : sideP a = 1 ∨ sideP a = -1 := by
            unfold sideP at h0 ⊢
            split at h0
            · exact absurd rfl h0
            · rename_i h; rw [if_neg h]; split <;> simp
          change some (wrap64 (sideP a * cmpA a b)) = _
          rcases hs with h | h <;> rw [h] <;> congr 1 <;> unfold wrap64 <;> omega
  · rw [if_pos (.inl hc)]
    refine Ev.congr (f := fun k => num_Compare.j0 k (cmpI (sideP a) (sideP b)) true a.1 (ofL a.2.1) a.2.2 b.1 (ofL b.2.1) b.2.2) (fun k => ?_) (Ev.step (f := fun _ => some (cmpI (sideP a) (sideP b))) (fun k => by simp only [num_Compare.j0, if_true]) (Ev.now _))
    unfold num_Compare.f
    rw [sa, sb]; simp only [Option.bind_some]; rw [cmpI_f]; simp only [Option.bind_some]
    rw [if_neg hc]
def NumP.text (n : NumP.NumV) : List UInt8 := if n.2.1 = [] then [48] else NumP.sgn n.1 ++ n.2.1 ++ (if n.2.2 = 0 then [] else 101 :: Lib.itoa n.2.2)
theorem right_parts {d : Bool} {D : List UInt8} {e : Int} (h : NumP.right (d, D, e) = true) (h0 : D ≠ []) : D.all NumP.isD = true ∧ D.head? ≠ some 48 ∧ D.getLast? ≠ some 48 ∧ D.length ≤ 40 ∧ -999 ≤ e ∧ e ≤ 999 := by
  unfold NumP.right at h
  rw [if_neg h0] at h
  simp only [Bool.and_eq_true, decide_eq_true_eq, bne_iff_ne, ne_eq] at h
  exact ⟨h.1.1.1.1.1, h.1.1.1.1.2, h.1.1.1.2, h.1.1.2, h.1.2, h.2⟩
theorem text_f' (d : Bool) (D : List UInt8) (e : Int) (hD : D.length ≤ 1000000) (he : -1000000 ≤ e ∧ e ≤ 1000000) : num_Text.f d (ofL D) e = some (ofL (NumP.text (d, D, e))) := by
  unfold num_Text.f NumP.text
  have hl : (Lib.itoa e).length ≤ 21 := Lib.itoa_length_le e (by omega) (by omega)
  have hi : strconv_Itoa_83.f e = some (ofL (Lib.itoa e)) := by unfold strconv_Itoa_83.f; rw [if_pos (by omega)]; rfl
  have h45 : (⟨#[45]⟩ : ByteArray) = ofL [45] := rfl
  have h101 : (⟨#[101]⟩ : ByteArray) = ofL [101] := rfl
  by_cases h0 : D = []
  · subst h0; rw [if_pos (ofL_toList []), if_pos rfl]; rfl
  · rw [if_neg (by rw [ofL_toList]; exact h0), if_neg h0]
    simp only [h45, h101, ofL_app, hi, Option.bind_some, ofL_size]
    cases d with
    | true =>
      rw [if_pos rfl, if_pos (by omega)]
      by_cases he0 : e = 0
      · rw [if_pos he0, if_pos he0]; simp [NumP.sgn]
      · rw [if_neg he0, if_neg he0, if_pos (by omega), if_pos (by simp; omega)]; simp [NumP.sgn]
    | false =>
      rw [if_neg (by simp)]
      by_cases he0 : e = 0
      · rw [if_pos he0, if_pos he0]; simp [NumP.sgn]
      · rw [if_neg he0, if_neg he0, if_pos (by omega), if_pos (by simp; omega)]; simp [NumP.sgn]
theorem right_bd' {d : Bool} {D : List UInt8} {e : Int} (h : NumP.right (d, D, e) = true) : D.length ≤ 40 ∧ -999 ≤ e ∧ e ≤ 999 := by
  by_cases h0 : D = []
  · subst h0
    unfold NumP.right at h
    rw [if_pos rfl] at h
    simp only [Bool.and_eq_true, beq_iff_eq] at h
    exact ⟨by decide, by omega, by omega⟩
  · obtain ⟨-, -, -, a, b, c⟩ := right_parts h h0
    exact ⟨a, b, c⟩
end Go.Proofs.YtapcpndplnkfjaaGreatDoor
namespace Go.Proofs.YtapcpndplnkfjaaGreatDoor
open Go.RowKit Go.Proofs.YtapcpndplnkfjaaGreatDoorW.PrintWords Pr
theorem cmpI_anti (a b : Int) : cmpI a b = - cmpI b a := by unfold cmpI; (repeat' split) <;> omega
theorem cmpI_vals (a b : Int) : (a < b ∧ cmpI a b = -1) ∨ (a = b ∧ cmpI a b = 0) ∨ (a > b ∧ cmpI a b = 1) := by unfold cmpI; (repeat' split) <;> omega
theorem cmpB_anti : ∀ a b : List UInt8, Lib.compareBytes a b = - Lib.compareBytes b a
  | [], [] => rfl
  | [], _ :: _ => rfl
  | _ :: _, [] => rfl
  | x :: a, y :: b => by
    simp only [Lib.compareBytes]
    by_cases h : x < y
    · have h2 : ¬ y < x := by rw [UInt8.lt_iff_toNat_lt] at *; omega
      simp [h, h2]
    · by_cases h2 : y < x
      · simp [h, h2]
      · simp only [h, h2, if_false]; exact cmpB_anti a b
theorem cmpB_trans : ∀ a b c : List UInt8, Lib.compareBytes a b ≤ 0 → Lib.compareBytes b c ≤ 0 → Lib.compareBytes a c ≤ 0
  | [], _, [], _, _ => by simp [Lib.compareBytes]
  | [], _, _ :: _, _, _ => by simp [Lib.compareBytes]
  | _ :: _, [], _, h, _ => by simp [Lib.compareBytes] at h
  | _ :: _, _ :: _, [], _, h => by simp [Lib.compareBytes] at h
  | x :: a, y :: b, z :: c, h1, h2 => by
    simp only [Lib.compareBytes] at *
    by_cases p : x < y
    · by_cases q : y < z
      · have : x < z := by rw [UInt8.lt_iff_toNat_lt] at *; omega
        simp [this]
      · by_cases q2 : z < y
        · simp [q, q2] at h2
        · have : x < z := by rw [UInt8.lt_iff_toNat_lt] at *; omega
          simp [this]
    · by_cases p2 : y < x
      · simp [p, p2] at h1
      · have exy : x = y := by rw [← UInt8.toNat_inj]; rw [UInt8.lt_iff_toNat_lt] at *; omega
        subst exy
        simp only [p, if_false] at h1
        by_cases q : x < z
        · simp [q]
        · by_cases q2 : z < x
          · simp [q, q2] at h2
          · simp only [q, q2, if_false] at h2 ⊢
            exact cmpB_trans a b c h1 h2
theorem cmpA_anti (a b : NumP.NumV) : cmpA a b = - cmpA b a := by
  unfold cmpA
  have h := cmpI_anti ((a.2.1.length : Int) + a.2.2) ((b.2.1.length : Int) + b.2.2)
  have h2 := cmpB_anti a.2.1 b.2.1
  split <;> split <;> omega
theorem cmpA_trans (a b c : NumP.NumV) (h1 : cmpA a b ≤ 0) (h2 : cmpA b c ≤ 0) : cmpA a c ≤ 0 := by
  unfold cmpA at *
  have t := cmpB_trans a.2.1 b.2.1 c.2.1
  generalize (a.2.1.length : Int) + a.2.2 = x at *
  generalize (b.2.1.length : Int) + b.2.2 = y at *
  generalize (c.2.1.length : Int) + c.2.2 = z at *
  rcases cmpI_vals x y with ⟨p, q⟩ | ⟨p, q⟩ | ⟨p, q⟩ <;> rcases cmpI_vals y z with ⟨p', q'⟩ | ⟨p', q'⟩ | ⟨p', q'⟩ <;> rcases cmpI_vals x z with ⟨p'', q''⟩ | ⟨p'', q''⟩ | ⟨p'', q''⟩ <;> rw [q] at h1 <;> rw [q'] at h2 <;> rw [q''] <;> simp at h1 h2 ⊢ <;> first | omega | exact t h1 h2
theorem side_vals (a : NumP.NumV) : (sideP a = 0 ∧ a.2.1 = []) ∨ (sideP a = -1 ∧ a.2.1 ≠ [] ∧ a.1 = true) ∨ (sideP a = 1 ∧ a.2.1 ≠ [] ∧ a.1 = false) := by
  unfold sideP
  by_cases h : a.2.1 = []
  · left; exact ⟨if_pos h, h⟩
  · right; rw [if_neg h]
    cases a.1 with
    | true => left; exact ⟨rfl, h, rfl⟩
    | false => right; exact ⟨rfl, h, rfl⟩
theorem cmpP_cases (a b : NumP.NumV) : cmpP a b = if sideP a < sideP b then -1 else if sideP a > sideP b then 1 else sideP a * cmpA a b := by
  unfold cmpP
  rcases cmpI_vals (sideP a) (sideP b) with ⟨p, q⟩ | ⟨p, q⟩ | ⟨p, q⟩
  · rw [q, if_pos (.inl (by omega)), if_pos p]
  · rw [q]
    by_cases h : sideP a = 0
    · rw [if_pos (.inr h), if_neg (by omega), if_neg (by omega), h]; omega
    · rw [if_neg (by rintro (z | z); exact z rfl; exact h z), if_neg (by omega), if_neg (by omega)]
  · rw [q, if_pos (.inl (by omega)), if_neg (by omega), if_pos p]
theorem cmpP_anti (a b : NumP.NumV) : cmpP a b = - cmpP b a := by
  rw [cmpP_cases, cmpP_cases, cmpA_anti a b]
  rcases side_vals a with ⟨h, -⟩ | ⟨h, -⟩ | ⟨h, -⟩ <;> rcases side_vals b with ⟨h', -⟩ | ⟨h', -⟩ | ⟨h', -⟩ <;> rw [h, h'] <;> simp
theorem cmpP_trans (a b c : NumP.NumV) (h1 : cmpP a b ≤ 0) (h2 : cmpP b c ≤ 0) : cmpP a c ≤ 0 := by
  rw [cmpP_cases] at *
  have t := cmpA_trans a b c
  have t' := cmpA_trans c b a
  have a1 := cmpA_anti a b
  have a2 := cmpA_anti b c
  have a3 := cmpA_anti a c
  rcases side_vals a with ⟨h, -⟩ | ⟨h, -⟩ | ⟨h, -⟩ <;> rcases side_vals b with ⟨h', -⟩ | ⟨h', -⟩ | ⟨h', -⟩ <;> rcases side_vals c with ⟨h'', -⟩ | ⟨h'', -⟩ | ⟨h'', -⟩ <;> rw [h, h'] at h1 <;> rw [h', h''] at h2 <;> rw [h, h''] <;> simp at h1 h2 ⊢ <;> first | omega | exact t h1 h2 | (have := t' (by omega) (by omega); omega)
theorem cmpP_bd (a b : NumP.NumV) : -1 ≤ cmpP a b ∧ cmpP a b ≤ 1 := by
  have := cmpA_bd a b
  rw [cmpP_cases]
  rcases side_vals a with ⟨h, -⟩ | ⟨h, -⟩ | ⟨h, -⟩ <;> rcases side_vals b with ⟨h', -⟩ | ⟨h', -⟩ | ⟨h', -⟩ <;> rw [h, h'] <;> simp <;> omega
end Go.Proofs.YtapcpndplnkfjaaGreatDoor
namespace Go.Proofs.YtapcpndplnkfjaaGreatDoor
open Go.RowKit Go.Proofs.YtapcpndplnkfjaaGreatDoorW.PrintWords Go.Proofs.YtapcpndplnkfjaaGreatDoorW.PrintLast Go.Proofs.YtapcpndplnkfjaaGreatDoorW.PrintMore
set_option linter.unusedVariables false
set_option linter.unusedSimpArgs false
namespace Js
def nv (n : S24) : NumP.NumV := (n.f0, n.f1.data.toList, n.f2)
def told (b : Bool) : Int := if b = true then 1 else 0
def cmpFlat (x y : S28) : Int :=
  if x.f0 = y.f0 then
    if x.f0 = 1 then told x.f1 - told y.f1 else
    if x.f0 = 2 then cmpP (nv x.f2) (nv y.f2) else
    if x.f0 = 3 then Lib.compareBytes x.f3.data.toList y.f3.data.toList else 0
  else Lib.compareInt x.f0 y.f0
theorem told_calls (b : Bool) (w : World) : Calls Tryz.prog 51 #[.bool b] w fun e w' => e = .returned (.int .i64 (told b)) ∧ w' = w := by
  cases b
  · go_enter Tryz.func51, Tryz.ntmps51
    go_wp2
    go_ret
    exact ⟨rfl, rfl⟩
  · go_enter Tryz.func51, Tryz.ntmps51
    go_wp2
    go_ret
    exact ⟨rfl, rfl⟩
theorem compare_ne (x y : S28) (hne : x.f0 ≠ y.f0) (A A' B B' : Option Addr) (n n' m m' c c' d d' : Nat) (w : World) :
    Calls Tryz.prog 28 #[.agg #[.int .i64 x.f0, .bool x.f1, .bool x.f2.f0, .string x.f2.f1, .int .i64 x.f2.f2, .string x.f3, .slice A n c, .slice B m d], .agg #[.int .i64 y.f0, .bool y.f1, .bool y.f2.f0, .string y.f2.f1, .int .i64 y.f2.f2, .string y.f3, .slice A' n' c', .slice B' m' d']] w
      fun e w' => e = .returned (.int .i64 (Lib.compareInt x.f0 y.f0)) ∧ Below w.heap.size w w' := by
  have h1 : (x.f0 != y.f0) = true := by simpa using hne
  have h2 : (x.f0 == y.f0) = false := by simpa using hne
  clear hne
  go_enter Tryz.func28, Tryz.ntmps28
  go_wp2_with fail
  refine (Tryz.cmp_Compare_int _ _ _).mono ?_
  rintro E w1 ⟨rfl, rfl⟩
  go_wp2_with fail
  go_ret
  exact ⟨rfl, below_alloc (below_alloc (Below.refl _ _) _) _⟩
set_option maxRecDepth 100000 in
set_option maxHeartbeats 4000000 in
theorem compare_flat (x y : S28) (he : x.f0 = y.f0) (hk : 0 ≤ x.f0 ∧ x.f0 ≤ 3) (hx : okNum x.f2) (hy : okNum y.f2) (A A' B B' : Option Addr) (n n' m m' c c' d d' : Nat) (w : World) :
    Calls Tryz.prog 28 #[.agg #[.int .i64 x.f0, .bool x.f1, .bool x.f2.f0, .string x.f2.f1, .int .i64 x.f2.f2, .string x.f3, .slice A n c, .slice B m d], .agg #[.int .i64 y.f0, .bool y.f1, .bool y.f2.f0, .string y.f2.f1, .int .i64 y.f2.f2, .string y.f3, .slice A' n' c', .slice B' m' d']] w
      fun e w' => e = .returned (.int .i64 (cmpFlat x y)) ∧ Below w.heap.size w w' := by
  obtain ⟨k, bx, ⟨dx, Dx, ex⟩, tx, ix, nx⟩ := x
  obtain ⟨k', by', ⟨dy, Dy, ey⟩, ty, iy, ny⟩ := y
  simp only at he hk
  subst he
  have HX := Lib.hid hx
  have HY := Lib.hid hy
  clear hx hy
  obtain ⟨h0, h3⟩ := hk
  have hc : k = 0 ∨ k = 1 ∨ k = 2 ∨ k = 3 := by omega
  have HB : ∀ o p, Below w.heap.size w ((w.alloc o).alloc p) := fun o p => below_alloc (below_alloc (Below.refl _ _) _) _
  have HB := Lib.hid HB
  clear h0 h3
  rcases hc with rfl | rfl | rfl | rfl
  · go_enter Tryz.func28, Tryz.ntmps28
    go_wp2_with fail
    go_ret
    exact ⟨rfl, HB.out _ _⟩
  · cases bx <;> cases by'
    all_goals
      go_enter Tryz.func28, Tryz.ntmps28
      go_wp2_with fail
      go_quiet ((go_at_call 51; exact Calls.quiet_of_same (told_calls _ _)))
      go_wp2_with fail
      go_ret
      refine ⟨?_, by first | exact pw_below_drewN (HB.out _ _) _ | exact HB.out _ _⟩
      first | rfl | (exact congrArg (fun z => Ending.returned (Value.int .i64 z)) (by decide +kernel : wrap64 (told false - told true) = told false - told true)) | (exact congrArg (fun z => Ending.returned (Value.int .i64 z)) (by decide +kernel : wrap64 (told true - told false) = told true - told false))
  · have hc : Ev (fun k => Pr.num_Compare.f k dx Dx ex dy Dy ey) (cmpP (dx, Dx.data.toList, ex) (dy, Dy.data.toList, ey)) := by
      have := compare_ev (dx, Dx.data.toList, ex) (dy, Dy.data.toList, ey) ⟨by have := HX.out.1; simp only at *; omega, by have := HX.out.2.2; simp only at *; omega, by have := HX.out.2.2; simp only at *; omega⟩ ⟨by have := HY.out.1; simp only at *; omega, by have := HY.out.2.2; simp only at *; omega, by have := HY.out.2.2; simp only at *; omega⟩
      exact this
    obtain ⟨K, hK⟩ := hc
    have HK := Lib.hid (hK K (Nat.le_refl _))
    clear hK
    go_enter Tryz.func28, Tryz.ntmps28
    go_wp2_with fail
    refine (Pr.num_Compare.calls K _ _ _ _ _ _ _ _ HK.out).mono ?_
    rintro E w1 ⟨rfl, hB⟩
    go_wp2_with fail
    go_ret
    exact ⟨rfl, (HB.out _ _).trans (hB.mono (HB.out _ _).size)⟩
  · go_enter Tryz.func28, Tryz.ntmps28
    go_wp2_with fail
    refine (strings_Compare.calls tx ty _ _ rfl).mono ?_
    rintro E w1 ⟨rfl, ⟨q, rfl⟩⟩
    go_wp2_with fail
    go_ret
    exact ⟨rfl, pw_below_drewN (HB.out _ _) _⟩
end Js
end Go.Proofs.YtapcpndplnkfjaaGreatDoor
namespace Go.Proofs.YtapcpndplnkfjaaGreatDoor
open Go.RowKit Go.Proofs.YtapcpndplnkfjaaGreatDoorW.PrintWords Go.Proofs.YtapcpndplnkfjaaGreatDoorW.PrintLast Go.Proofs.YtapcpndplnkfjaaGreatDoorW.PrintMore
set_option linter.unusedVariables false
set_option linter.unusedSimpArgs false
namespace Js
structure JTabs (w : World) : Prop where
  t : Tabs w
  p : PTabs w
theorem JTabs.below {w w' : World} (h : JTabs w) (hb : Below w.heap.size w w') : JTabs w' := ⟨h.t.below hb, h.p.below hb⟩
def A1 : List UInt8 := [32, 123, 34, 98, 34, 58, 49, 46, 48, 44, 32, 34, 97, 34, 58, 91, 93, 125]
def A2 : List UInt8 := [34, 92, 117, 48, 48, 101, 57, 92, 117, 100, 56, 51, 100, 92, 117, 100, 101, 48, 48, 92, 110, 34]
def A3 : List UInt8 := [91, 49, 44, 93]
def A4 : List UInt8 := [123, 34, 97, 34, 58, 49, 44, 34, 97, 34, 58, 50, 125]
theorem e1_ : (pv A1).2 = 0 := by decide +kernel
theorem k1_ : (pv A1).1.f0 = 5 := by decide +kernel
theorem t1_ : txF 3 (pv A1).1 = some [123, 34, 97, 34, 58, 91, 93, 44, 34, 98, 34, 58, 49, 125] := by decide +kernel
theorem f1_ : pos (pv A1).1.f5 ⟨#[98]⟩ = 1 ∧ has (pv A1).1.f5 ⟨#[98]⟩ = true ∧ (pv A1).1.f5.length ≤ 1000000 := by decide +kernel
theorem e2_ : (pv A2).2 = 0 := by decide +kernel
theorem k2_ : (pv A2).1.f0 = 3 ∧ (pv A2).1.f3.data.toList = [195, 169, 240, 159, 152, 128, 10] := by decide +kernel
theorem t2_ : txF 3 (pv A2).1 = some [34, 195, 169, 240, 159, 152, 128, 92, 117, 48, 48, 48, 97, 34] := by decide +kernel
theorem e3_ : (pv A3).2 = 11 := by decide +kernel
theorem e4_ : (pv A4).2 = 31 := by decide +kernel
set_option maxRecDepth 100000 in
set_option maxHeartbeats 4000000 in
theorem awake15_calls (w : World) (hT : JTabs w) : Calls Tryz.prog 29 #[] w fun e w' => e = .returned (.bool true) ∧ Below w.heap.size w w' := by
  have HT := Lib.hid hT
  obtain ⟨X, hX⟩ : ∃ X, X = (pv A1).1 := ⟨_, rfl⟩
  obtain ⟨Y, hY⟩ : ∃ Y, Y = (pv A2).1 := ⟨_, rfl⟩
  obtain ⟨Z, hZ⟩ : ∃ Z, Z = (pv A3).1 := ⟨_, rfl⟩
  obtain ⟨V, hV⟩ : ∃ V, V = (pv A4).1 := ⟨_, rfl⟩
  have H1 : Hid (pv A1 = (X, 0)) := Lib.hid (by rw [hX, ← e1_])
  have H2 : Hid (pv A2 = (Y, 0)) := Lib.hid (by rw [hY, ← e2_])
  have H3 : Hid (pv A3 = (Z, 11)) := Lib.hid (by rw [hZ, ← e3_])
  have H4 : Hid (pv A4 = (V, 31)) := Lib.hid (by rw [hV, ← e4_])
  have HX5 : Hid (X.f0 = 5) := Lib.hid (by rw [hX]; exact k1_)
  have HXT : Hid (txF 3 X = some [123, 34, 97, 34, 58, 91, 93, 44, 34, 98, 34, 58, 49, 125]) := Lib.hid (by rw [hX]; exact t1_)
  have HXF : Hid (pos X.f5 ⟨#[98]⟩ = 1 ∧ has X.f5 ⟨#[98]⟩ = true ∧ X.f5.length ≤ 1000000) := Lib.hid (by rw [hX]; exact f1_)
  have HY3 : Hid (Y.f0 = 3 ∧ Y.f3.data.toList = [195, 169, 240, 159, 152, 128, 10]) := Lib.hid (by rw [hY]; exact k2_)
  have HYT : Hid (txF 3 Y = some [34, 195, 169, 240, 159, 152, 128, 92, 117, 48, 48, 48, 97, 34]) := Lib.hid (by rw [hY]; exact t2_)
  clear hT hX hY hZ hV
  go_enter Tryz.func29, Tryz.ntmps29
  go_wp2_with fail
  refine (jparseR A1 w HT.out.t X 0 H1.out).mono ?_
  rintro E w1 ⟨A, c, B, c', rfl, hJ, hR, hB⟩
  have HJ := Lib.hid hJ
  have HR := Lib.hid hR
  have HB1 := Lib.hid (below_alloc hB (.cells #[.int .i64 X.f0, .bool X.f1, .bool X.f2.f0, .string X.f2.f1, .int .i64 X.f2.f2, .string X.f3, .slice A X.f4.length c, .slice B X.f5.length c'] 28))
  have HK1 := Lib.hid (blk_new w1 (.cells #[.int .i64 X.f0, .bool X.f1, .bool X.f2.f0, .string X.f2.f1, .int .i64 X.f2.f2, .string X.f3, .slice A X.f4.length c, .slice B X.f5.length c'] 28))
  have HW1 := Lib.hid (below_alloc (Below.refl w1.heap.size w1) (.cells #[.int .i64 X.f0, .bool X.f1, .bool X.f2.f0, .string X.f2.f1, .int .i64 X.f2.f2, .string X.f3, .slice A X.f4.length c, .slice B X.f5.length c'] 28))
  clear hJ hR hB
  go_wp2_with fail
  refine (jparseR A2 _ (HT.out.below HB1.out).t Y 0 H2.out).mono ?_
  rintro E w2 ⟨A', d, B', d', rfl, hJ, hR, hB⟩
  have HJY := Lib.hid hJ
  have HB2 := Lib.hid (below_alloc (HB1.out.trans (hB.mono HB1.out.size)) (.cells #[.int .i64 Y.f0, .bool Y.f1, .bool Y.f2.f0, .string Y.f2.f1, .int .i64 Y.f2.f2, .string Y.f3, .slice A' Y.f4.length d, .slice B' Y.f5.length d'] 28))
  have HK2 := Lib.hid (blk_new w2 (.cells #[.int .i64 Y.f0, .bool Y.f1, .bool Y.f2.f0, .string Y.f2.f1, .int .i64 Y.f2.f2, .string Y.f3, .slice A' Y.f4.length d, .slice B' Y.f5.length d'] 28))
  have HK1 := Lib.hid (blk_alloc (thru HK1.out hB) (.cells #[.int .i64 Y.f0, .bool Y.f1, .bool Y.f2.f0, .string Y.f2.f1, .int .i64 Y.f2.f2, .string Y.f3, .slice A' Y.f4.length d, .slice B' Y.f5.length d'] 28))
  have hw12 := HW1.out.trans (hB.mono HW1.out.size)
  have HW1 := Lib.hid (hw12.trans ((below_alloc (Below.refl w2.heap.size w2) (.cells #[.int .i64 Y.f0, .bool Y.f1, .bool Y.f2.f0, .string Y.f2.f1, .int .i64 Y.f2.f2, .string Y.f3, .slice A' Y.f4.length d, .slice B' Y.f5.length d'] 28)).mono hw12.size))
  have HW2 := Lib.hid (below_alloc (Below.refl w2.heap.size w2) (.cells #[.int .i64 Y.f0, .bool Y.f1, .bool Y.f2.f0, .string Y.f2.f1, .int .i64 Y.f2.f2, .string Y.f3, .slice A' Y.f4.length d, .slice B' Y.f5.length d'] 28))
  clear hJ hR hB hw12
  go_wp2_with fail
  refine (jparseR A3 _ (HT.out.below HB2.out).t Z 11 H3.out).mono ?_
  rintro E w3 ⟨A3', d3, B3', d3', rfl, hJ, hR, hB⟩
  have HB3 := Lib.hid (HB2.out.trans (hB.mono HB2.out.size))
  have HK1 := Lib.hid (thru HK1.out hB)
  have HK2 := Lib.hid (thru HK2.out hB)
  have HW1 := Lib.hid (HW1.out.trans (hB.mono HW1.out.size))
  have HW2 := Lib.hid (HW2.out.trans (hB.mono HW2.out.size))
  clear hJ hR hB
  go_wp2_with fail
  have ha3 := fun o => below_alloc (Below.refl w3.heap.size w3) o
  have HA3 := Lib.hid ha3
  clear ha3
  refine (jparseR A4 _ (HT.out.below (HB3.out.trans ((HA3.out _).mono HB3.out.size))).t V 31 H4.out).mono ?_
  rintro E w4 ⟨A4', d4, B4', d4', rfl, hJ, hR, hB⟩
  have hB := (HA3.out _).trans (hB.mono (HA3.out _).size)
  have HB4 := Lib.hid (HB3.out.trans (hB.mono HB3.out.size))
  have HK1 := Lib.hid (thru HK1.out hB)
  have HK2 := Lib.hid (thru HK2.out hB)
  have HW1 := Lib.hid (HW1.out.trans (hB.mono HW1.out.size))
  have HW2 := Lib.hid (HW2.out.trans (hB.mono HW2.out.size))
  clear hJ hR hB HA3
  have ha4 := fun o => below_alloc (Below.refl w4.heap.size w4) o
  have HA4 := Lib.hid ha4
  obtain ⟨p0, p1, p2, p3, p4, p5, p6, p7⟩ := eight (HK1.out)
  have hlt1 : w1.heap.size < w4.heap.size := blk_lt HK1.out
  clear ha4
  go_wp2_with fail
  have hR5 := Kd.R_below HR.out (HW1.out.trans ((HA4.out (.cells #[.int .i64 V.f0, .bool V.f1, .bool V.f2.f0, .string V.f2.f1, .int .i64 V.f2.f2, .string V.f3, .slice A4' V.f4.length d4, .slice B4' V.f5.length d4'] 28)).mono HW1.out.size))
  refine (find_calls X ⟨#[98]⟩ HX5.out _ _ _ _ hR5 HXF.out.2.2).mono ?_
  rintro E w5 ⟨rfl, hB⟩
  rw [HXF.out.1, HXF.out.2.1]
  have hB := (HA4.out _).trans (hB.mono (HA4.out _).size)
  have HB5 := Lib.hid (HB4.out.trans (hB.mono HB4.out.size))
  have HK1 := Lib.hid (thru HK1.out hB)
  have HK2 := Lib.hid (thru HK2.out hB)
  have HW1 := Lib.hid (HW1.out.trans (hB.mono HW1.out.size))
  have HW2 := Lib.hid (HW2.out.trans (hB.mono HW2.out.size))
  clear hB hR5 HA4 p0 p1 p2 p3 p4 p5 p6 p7 hlt1
  obtain ⟨p0, p1, p2, p3, p4, p5, p6, p7⟩ := eight (HK1.out)
  go_wp2_with fail
  refine (jtext_calls 3 X _ HXT.out A B c c' w5 (HT.out.below HB5.out).p (HJ.out.below HW1.out)).mono ?_
  rintro E w6 ⟨rfl, hB⟩
  have HB6 := Lib.hid (HB5.out.trans (hB.mono HB5.out.size))
  have HK1 := Lib.hid (thru HK1.out hB)
  have HK2 := Lib.hid (thru HK2.out hB)
  have HW1 := Lib.hid (HW1.out.trans (hB.mono HW1.out.size))
  have HW2 := Lib.hid (HW2.out.trans (hB.mono HW2.out.size))
  clear hB p0 p1 p2 p3 p4 p5 p6 p7
  obtain ⟨p0, p1, p2, p3, p4, p5, p6, p7⟩ := eight (HK2.out)
  have hg1 : ((ofL [123, 34, 97, 34, 58, 91, 93, 44, 34, 98, 34, 58, 49, 125]).toList == [123, 34, 97, 34, 58, 91, 93, 44, 34, 98, 34, 58, 49, 125]) = true := by rw [ofL_toList]; exact beq_self_eq_true _
  have hg2 : (Y.f3.toList == [195, 169, 240, 159, 152, 128, 10]) = true := by rw [ByteArray.toList_eq, HY3.out.2]; exact beq_self_eq_true _
  go_wp2_with fail
  refine (jtext_calls 3 Y _ HYT.out A' B' d d' w6 (HT.out.below HB6.out).p (HJY.out.below HW2.out)).mono ?_
  rintro E w7 ⟨rfl, hB⟩
  have HB7 := Lib.hid (HB6.out.trans (hB.mono HB6.out.size))
  have HK1 := Lib.hid (thru HK1.out hB)
  have HK2 := Lib.hid (thru HK2.out hB)
  have hg4 : ((ofL [34, 195, 169, 240, 159, 152, 128, 92, 117, 48, 48, 48, 97, 34]).toList == [34, 195, 169, 240, 159, 152, 128, 92, 117, 48, 48, 48, 97, 34]) = true := by rw [ofL_toList]; exact beq_self_eq_true _
  clear hB p0 p1 p2 p3 p4 p5 p6 p7 hg1 hg2
  obtain ⟨p0, p1, p2, p3, p4, p5, p6, p7⟩ := eight (HK1.out)
  obtain ⟨q0, q1, q2, q3, q4, q5, q6, q7⟩ := eight (HK2.out)
  go_wp2_with fail
  refine (compare_ne X Y (by rw [HX5.out, HY3.out.1]; decide) A A' B B' _ _ _ _ c d c' d' w7).mono ?_
  rintro E w8 ⟨rfl, hB⟩
  have HB8 := Lib.hid (HB7.out.trans (hB.mono HB7.out.size))
  rw [show Lib.compareInt X.f0 Y.f0 = 1 by rw [HX5.out, HY3.out.1]; rfl]
  clear hB p0 p1 p2 p3 p4 p5 p6 p7 q0 q1 q2 q3 q4 q5 q6 q7
  go_wp2_with fail
  go_ret
  exact ⟨rfl, HB8.out⟩
end Js
end Go.Proofs.YtapcpndplnkfjaaGreatDoor
namespace Go.Proofs.YtapcpndplnkfjaaGreatDoor
open Go.ChangeShapes Go.WideShapes Go.ChangeAt Go.RowKit Go.Lib
namespace Frame
theorem own : ownKnob Tryz.prog.godebug = none := by kernel_rfl
theorem plainLaid {W : World} {l : List (String × DataW Unit)} (h : laidMetH Tryz.prog l W) (hh : (l.all fun x => x.2.handleName?.isNone) = true) : laidMet Tryz.prog l W := by
  have h1 := (laidMetH_iff.1 h).1
  rwa [List.filter_eq_self.2 (fun x hx => List.all_eq_true.1 hh x hx)] at h1
theorem tabsOf {W : World} {l : List (String × DataW Unit)} (h : laidMet Tryz.prog l W) (h1 : ("unicode/utf8.first", Rows.laid_unicode_utf8_first) ∈ l) (h2 : ("unicode/utf8.acceptRanges", Rows.laid_unicode_utf8_acceptRanges) ∈ l) (h3 : ("unicode.CaseRanges", Rows.laid_unicode_CaseRanges) ∈ l) : Js.Tabs W := by
  have e1 : Rows.laid_unicode_utf8_first = firstData := Pinned.utf8First_eq
  have e3 : Rows.laid_unicode_CaseRanges = caseData := Pinned.caseRanges_eq
  have e2 : (Rows.laid_unicode_utf8_acceptRanges : DataW Unit) = acceptData := by kernel_rfl
  rw [e1] at h1
  rw [e2] at h2
  rw [e3] at h3
  exact ⟨utf8Tabs_of_reads Tryz.lays260 ⟨by kernel_rfl, by kernel_rfl, by kernel_rfl, by kernel_rfl, by kernel_rfl, by kernel_rfl, by kernel_rfl⟩ (laidMet.reads h h1) (laidMet.reads h h2),
    caseVar_of_reads (ρ := Tryz.lays159_ren) { Tryz.lays159 with } (by kernel_rfl) ⟨by kernel_rfl, by kernel_rfl, by kernel_rfl, by kernel_rfl, by kernel_rfl, by kernel_rfl⟩ (laidMet.reads h h3)⟩
theorem gPow : (Tryz.prog.globals[4]?).map (·.type) = some 195 := by kernel_rfl
theorem cArr : Tryz.prog.cellsOf 195 = 20 := by kernel_rfl
theorem cElt : Tryz.prog.cellsOf 89 = 1 := by kernel_rfl
theorem tabs {W : World} (h : laidMetH Tryz.prog Rows.jsonDeepRow.laid W) : Js.JTabs W := by
  have h2 := plainLaid h (by kernel_rfl)
  exact ⟨tabsOf h2 (.tail _ (.tail _ (.tail _ (.tail _ (.tail _ (.head _)))))) (.tail _ (.tail _ (.tail _ (.head _)))) (.tail _ (.tail _ (.tail _ (.tail _ (.head _))))),
    Lib.tabIs_of_head (name := "internal/strconv.uint64pow10") (k := .u64) (zs := Lib.pow10Tab) (g := 4) (t := 195) (e := 89) (n := 20) gPow10 gPow Tryz.underlying195 Tryz.underlying89 cElt cArr (laidMet.tail (laidMet.tail h2))⟩
noncomputable def laidWorld (os : Os) : World := World.laidAll Tryz.prog os Rows.jsonDeepRow.laid
theorem met (os : Os) (args : Array Value) : laidMet Tryz.prog Rows.jsonDeepRow.laid ((laidWorld os).forCall (fun _ _ => 0) ⟨#[], args, []⟩).memory :=
  laidMet_laidAll _ (by kernel_rfl) (by kernel_rfl)
theorem shaped (os : Os) (args : Array Value) : ((laidWorld os).forCall (fun _ _ => 0) ⟨#[], args, []⟩).Shaped Tryz.checked.prog := World.shaped_of_ZipB (by kernel_rfl) (by kernel_rfl)
theorem witness {H : Type} {enc : TypeId × Value → H} {os : Os} {f : FuncId} {fn : Func} {s : OpenSpec} {conds : List PathCond} {apart : Bool} {laid : List (String × DataW Unit)} (modest : Bool) (args : Array Value)
    (hok : Input.okWideB Tryz.checked.prog ((laidWorld os).forCall (fun _ _ => 0) ⟨#[], args, []⟩) f ⟨#[], args, []⟩ = true)
    (hrow : s.preRow enc Tryz.checked.prog fn conds apart laid ((laidWorld os).forCall (fun _ _ => 0) ⟨#[], args, []⟩).memory args) :
    ∃ (w : World) (tape : Tape) (i : Input), w.os = os ∧ (w.forCall tape i).Shaped Tryz.checked.prog ∧ i.vars = [] ∧ Input.okWide Tryz.checked.prog (w.forCall tape i) .any w.heap.size f i ∧
      s.preRow enc Tryz.checked.prog fn conds apart laid (w.forCall tape i).memory i.args ∧ ({ modest := modest } : Assume).holds Tryz.checked.prog (lone (Go.Frame.enter Tryz.checked.prog f i.args .normal) [] (w.forCall tape i)) :=
  ⟨laidWorld os, fun _ _ => 0, ⟨#[], args, []⟩, World.laidAll_os _ _ _, shaped os args, (Input.okWide_of_okWideB (base := 0) hok).1, (Input.okWide_of_okWideB hok).2, hrow, by
    simp only [Assume.holds]
    exact ⟨by simp, by simp, fun _ => Modest.zero, by simp, by simp⟩⟩
end Frame
end Go.Proofs.YtapcpndplnkfjaaGreatDoor
namespace Go.Proofs.YtapcpndplnkfjaaGreatDoor
open Go.RowKit Go.Proofs.YtapcpndplnkfjaaGreatDoorW.PrintWords Go.Proofs.YtapcpndplnkfjaaGreatDoorW.PrintLast Go.Proofs.YtapcpndplnkfjaaGreatDoorW.PrintMore
set_option linter.unusedVariables false
set_option linter.unusedSimpArgs false
namespace Js
theorem fail_e {a : S} (h : a.e ≠ 0) (x : Int) : (a.fail x).e = a.e := by unfold S.fail; simp [h]
theorem fail_e0 {a : S} (h : a.e = 0) (x : Int) : (a.fail x).e = x := by unfold S.fail; simp [h]
theorem take_e (a : S) (p : List UInt8) : (a.take p).e = a.e := by unfold S.take; split <;> rfl
theorem took_bad {a : S} (h : a.e ≠ 0) (p : List UInt8) : a.took p = false := by unfold S.took; simp [h]
theorem take_no {a : S} {p : List UInt8} (h : a.took p = false) : a.take p = a.skip := by unfold S.take; simp [h]
theorem take_yes {a : S} {p : List UInt8} (h : a.took p = true) : a.take p = ⟨Lib.trimPrefix a.skip.s p, a.o, a.e⟩ := by unfold S.take; rw [if_pos h]; rfl
theorem need_e {a : S} (h : a.e ≠ 0) (p : List UInt8) : (a.need p).e = a.e := by
  unfold S.need
  split
  · exact take_e a p
  · exact (fail_e (by rw [take_e]; exact h) 11).trans (take_e a p)
theorem st_bad {a : S} (h : a.e ≠ 0) : a.st = ([], a.tl) := by
  unfold S.st S.str
  rw [strLoop, if_pos (show a.tl.e ≠ 0 from h)]
def gv : Nat → S → S28 × S
  | 0, a => (z28, if a.e = 0 then a.skip.fail 11 else a.skip)
  | n + 1, a => S.value textV (S.arr (gv n)) (S.obj (gv n)) a
theorem gv_bad {a : S} (h : a.e ≠ 0) : ∀ n, gv n a = (z28, a.skip)
  | 0 => by unfold gv; rw [if_neg h]
  | n + 1 => by
    show S.value _ _ _ a = _
    unfold S.value S.value1
    rw [if_pos (show a.skip.e ≠ 0 from h)]
theorem keeps_gv : ∀ n a, Keeps a (gv n a).2
  | 0, a => by
    unfold gv
    split
    · exact (keeps_skip a).trans (keeps_fail _ 11 (by decide))
    · exact keeps_skip a
  | n + 1, a => keeps_value (ft := textV) (fa := S.arr (gv n)) (fo := S.obj (gv n)) (fun a => keeps_st a) (fun a => keeps_list (st := arrT (gv n)) (fun x a => keeps_gv n a) [93] [] a) (fun a => keeps_list (st := objT (gv n)) (fun x a => by
      unfold objT
      split
      · exact (keeps_skip a).trans (keeps_fail _ 11 (by decide))
      · exact (keeps_objA _ a).trans (keeps_gv n _)) [125] ([], []) a) a
theorem loop_congr {σ : Type} {st st' : σ → S → σ × S} {P : S → Prop} (hP : ∀ x a, P a → st x a = st' x a) (hn : ∀ x a, P a → P (st x a).2) (ht : ∀ a p, P a → P (a.take p)) :
    ∀ n x a, P a → listLoop st n x a = listLoop st' n x a
  | 0, x, a, h => rfl
  | n + 1, x, a, h => by
    unfold listLoop
    split
    · have h1 := ht a [44] h
      rw [← hP x _ h1]
      exact loop_congr hP hn ht n _ _ (hn x _ h1)
    · rfl
theorem list_congr {σ : Type} {st st' : σ → S → σ × S} {P : S → Prop} (hP : ∀ x a, P a → st x a = st' x a) (hn : ∀ x a, P a → P (st x a).2) (ht : ∀ a p, P a → P (a.take p)) (p : List UInt8) (x : σ) (a : S) (h : P a.enter) :
    listF st p x a = listF st' p x a := by
  unfold listF
  split
  · rfl
  · have h1 := ht a.enter p h
    rw [← hP x _ h1]
    simp only []
    rw [loop_congr hP hn ht _ _ _ (hn x _ h1)]
theorem gv_eq : ∀ n a, Qn n a → fvN n a = gv n a
  | 0, a, h => by unfold gv fvN; rw [if_neg (h.2.2.1 rfl)]
  | n + 1, a, h => by
    have hs : Qn n a.skip.enter := (h.keeps (keeps_skip a)).enter
    have ha : S.arr (fvN n) a.skip = S.arr (gv n) a.skip := by
      unfold S.arr
      rw [list_congr (st' := arrT (gv n)) (P := Qn n) (fun x b hb => by unfold arrT; rw [gv_eq n b hb]) (fun x b hb => hb.keeps (keeps_fv n b)) (fun b p hb => hb.keeps (keeps_take b p)) [93] [] a.skip hs]
    have ho : S.obj (fvN n) a.skip = S.obj (gv n) a.skip := by
      unfold S.obj
      rw [list_congr (st' := objT (gv n)) (P := Qn n) (fun x b hb => by unfold objT; rw [gv_eq n _ (hb.keeps (keeps_objA x.2 b))]) (fun x b hb => by
        unfold objT
        split
        · exact hb.keeps ((keeps_skip b).trans (keeps_fail _ 11 (by decide)))
        · exact (hb.keeps (keeps_objA _ b)).keeps (keeps_fv n _)) (fun b p hb => hb.keeps (keeps_take b p)) [125] ([], []) a.skip hs]
    show S.value _ _ _ a = S.value _ _ _ a
    unfold S.value S.value1
    rw [ha, ho]
theorem numS_e {a : S} (h : a.e ≠ 0) : a.numS.e = a.e := by
  unfold S.numS
  simp only []
  split
  · rfl
  · exact fail_e h _
theorem twice_e {a : S} (h : a.e ≠ 0) (b : Bool) : (a.twice b).e = a.e := by
  unfold S.twice; split
  · exact fail_e h _
  · rfl
theorem objA_e {a : S} (h : a.e ≠ 0) (ns : List ByteArray) : (objA ns a).e = a.e := by
  unfold objA
  have h1 : a.skip.st.2 = a.skip.tl := by rw [st_bad (show a.skip.e ≠ 0 from h)]
  have h2 : a.skip.st.2.e = a.e := by rw [h1]; rfl
  have h3 : (S.twice a.skip.st.2 (has ns (objN a))).e = a.e := (twice_e (by rw [h2]; exact h) _).trans h2
  exact (need_e (by rw [h3]; exact h) _).trans h3
theorem objT_e {a : S} (h : a.e ≠ 0) (n : Nat) (p : List S28 × List ByteArray) : (objT (gv n) p a).2.e = a.e := by
  unfold objT
  split
  · exact fail_e (a := a.skip) h _
  · have h1 := objA_e h p.2
    rw [gv_bad (by rw [h1]; exact h)]
    exact h1
theorem arrT_e {a : S} (h : a.e ≠ 0) (n : Nat) (p : List S28) : (arrT (gv n) p a).2.e = a.e := by
  unfold arrT
  rw [gv_bad h]; rfl
theorem loop_bad {σ : Type} (st : σ → S → σ × S) {a : S} (h : a.e ≠ 0) : ∀ n x, (listLoop st n x a).2.e = a.e
  | 0, x => rfl
  | n + 1, x => by
    unfold listLoop
    rw [took_bad h]
    exact take_e a _
def listG {σ : Type} (st : σ → S → σ × S) (p : List UInt8) (x : σ) (a : S) : σ × S :=
  if a.took p = true then (x, (a.take p).left) else
  ((listLoop st ((st x (a.take p)).2.s.length + 1) (st x (a.take p)).1 (st x (a.take p)).2).1, ((listLoop st ((st x (a.take p)).2.s.length + 1) (st x (a.take p)).1 (st x (a.take p)).2).2.need p).left)
theorem listF_G {σ : Type} (st : σ → S → σ × S) (p : List UInt8) (x : σ) (a : S) : listF st p x a = listG st p x a.enter := rfl
theorem listG_e {σ : Type} {st : σ → S → σ × S} (hst : ∀ x a, a.e ≠ 0 → (st x a).2.e = a.e) (p : List UInt8) (x : σ) {a : S} (h : a.e ≠ 0) : (listG st p x a).2.e = a.e := by
  unfold listG
  rw [took_bad h]
  have h1 : (a.take p).e ≠ 0 := by rw [take_e]; exact h
  have h2 := hst x _ h1
  have h3 := loop_bad st (by rw [h2]; exact h1) ((st x (a.take p)).2.s.length + 1) (st x (a.take p)).1
  have h4 := need_e (by rw [h3, h2]; exact h1) p
  show ((listLoop st _ _ _).2.need p).e = a.e
  rw [h4, h3, h2, take_e]
def stop (t : List UInt8) : Prop := ∀ c ∈ t.head?, [32, 9, 10, 13, 44, 93, 125].contains c = true
def Ext (t : List UInt8) (a b : S) : Prop := (a.e ≠ 0 ∧ a.e ≠ 35) ∨ (a.e = 35 ∧ b.e = 35) ∨ (a.e = 0 ∧ b = ⟨a.s ++ t, a.o, 0⟩)
def Dry (a : S) : Prop := a.e = 0 ∧ a.skip.s = []
def Ext' (t : List UInt8) (a b : S) : Prop := Ext t a b ∨ Dry a
def ExtV {σ : Type} (t : List UInt8) (p q : σ × S) : Prop := Ext t p.2 q.2 ∧ (p.2.e = 0 → q.1 = p.1)
theorem Ext.bad {t : List UInt8} {a b : S} (h1 : a.e ≠ 0) (h2 : a.e ≠ 35) : Ext t a b := .inl ⟨h1, h2⟩
theorem Ext.ok (t s : List UInt8) (o : Int) : Ext t ⟨s, o, 0⟩ ⟨s ++ t, o, 0⟩ := .inr (.inr ⟨rfl, rfl⟩)
theorem Ext.fail0 (t s : List UInt8) (o x : Int) (hx : x ≠ 0) (b : S) (hb : b.e = 0) : Ext t (S.fail ⟨s, o, 0⟩ x) (b.fail x) := by
  by_cases h : x = 35
  · subst h; exact .inr (.inl ⟨rfl, fail_e0 hb _⟩)
  · exact .inl ⟨hx, h⟩
theorem Ext.fail {t : List UInt8} {a b : S} (h : Ext t a b) (x : Int) (hx : x ≠ 0) : Ext t (a.fail x) (b.fail x) := by
  rcases h with h | h | h
  · have := fail_e h.1 x; exact .inl (by rw [this]; exact h)
  · have h1 := fail_e (a := a) (by rw [h.1]; decide) x
    have h2 := fail_e (a := b) (by rw [h.2]; decide) x
    exact .inr (.inl ⟨h1.trans h.1, h2.trans h.2⟩)
  · obtain ⟨s, o, e⟩ := a
    obtain ⟨h1, h2⟩ := h
    simp only at h1; subst h1
    exact Ext.fail0 t s o x hx b (by rw [h2])
theorem trim_app (s t cs : List UInt8) (h : Lib.trimLeftS s cs ≠ []) : Lib.trimLeftS (s ++ t) cs = Lib.trimLeftS s cs ++ t := by
  unfold Lib.trimLeftS at *
  rw [List.dropWhile_append]
  rw [if_neg (by simpa using h)]
theorem trim_app2 (s t cs : List UInt8) (h : ∀ c ∈ t.head?, cs.contains c = false) : Lib.trimLeftS (s ++ t) cs = Lib.trimLeftS s cs ++ t := by
  unfold Lib.trimLeftS at *
  rw [List.dropWhile_append]
  split
  · rename_i h1
    have : List.dropWhile (fun x => cs.contains x) s = [] := by simpa using h1
    rw [this, List.nil_append]
    cases t with
    | nil => rfl
    | cons c l => rw [List.dropWhile_cons, h c (by simp)]; rfl
  · rfl
theorem pref_app {s p : List UInt8} (t : List UInt8) (h : Lib.hasPrefix s p = true) : Lib.hasPrefix (s ++ t) p = true := by
  unfold Lib.hasPrefix at *
  rw [List.isPrefixOf_iff_prefix] at *
  exact h.trans (List.prefix_append _ _)
theorem pref_one (c d : UInt8) (l : List UInt8) : Lib.hasPrefix (c :: l) [d] = (d == c) := by
  unfold Lib.hasPrefix; simp [List.isPrefixOf]
theorem trimP_app {s p : List UInt8} (t : List UInt8) (h : Lib.hasPrefix s p = true) : Lib.trimPrefix (s ++ t) p = Lib.trimPrefix s p ++ t := by
  unfold Lib.trimPrefix
  rw [if_pos h, if_pos (pref_app t h)]
  unfold Lib.hasPrefix at h
  rw [List.isPrefixOf_iff_prefix] at h
  exact List.drop_append_of_le_length h.length_le
theorem Ext'.cases {t : List UInt8} {a b : S} (h : Ext' t a b) : (a.e ≠ 0 ∧ a.e ≠ 35) ∨ (a.e = 35 ∧ b.e = 35) ∨ (a.e = 0 ∧ a.skip.s = []) ∨
    ∃ c l, a.e = 0 ∧ b.e = 0 ∧ b.o = a.o ∧ a.skip = ⟨c :: l, a.o, 0⟩ ∧ b.skip = ⟨c :: (l ++ t), a.o, 0⟩ := by
  rcases h with (h | h | h) | h
  · exact .inl h
  · exact .inr (.inl h)
  · by_cases h0 : a.skip.s = []
    · exact .inr (.inr (.inl ⟨h.1, h0⟩))
    · refine .inr (.inr (.inr ?_))
      obtain ⟨s, o, e⟩ := a
      obtain ⟨h1, h2⟩ := h
      simp only at h1; subst h1
      have h3 : Lib.trimLeftS s [32, 9, 10, 13] ≠ [] := h0
      have h4 := trim_app s t [32, 9, 10, 13] h3
      obtain ⟨c, l, hc⟩ : ∃ c l, Lib.trimLeftS s [32, 9, 10, 13] = c :: l := List.exists_cons_of_ne_nil h3
      refine ⟨c, l, rfl, by rw [h2], by rw [h2], ?_, ?_⟩
      · show S.mk _ _ _ = _; rw [hc]
      · rw [h2]; show S.mk (Lib.trimLeftS (s ++ t) _) o 0 = _; rw [h4, hc]; rfl
  · exact .inr (.inr (.inl h))
theorem dry_took {a : S} (h : a.skip.s = []) (p : List UInt8) (hp : p ≠ []) : a.took p = false := by
  unfold S.took
  rw [h]
  cases p with
  | nil => exact absurd rfl hp
  | cons c l => rfl
theorem dry_need {a : S} (he : a.e = 0) (h : a.skip.s = []) (p : List UInt8) (hp : p ≠ []) : (a.need p).e = 11 := by
  unfold S.need
  rw [dry_took h p hp, if_neg (by decide)]
  exact fail_e0 (by rw [take_e]; exact he) _
theorem Ext'.need {t : List UInt8} {a b : S} (h : Ext' t a b) (p : List UInt8) (hp : p ≠ []) : Ext t (a.need p) (b.need p) := by
  rcases h.cases with h | h | h | ⟨c, l, h1, h2, h3, h4, h5⟩
  · have := need_e h.1 p; exact .inl (by rw [this]; exact h)
  · have h1 := need_e (a := a) (by rw [h.1]; decide) p
    have h2 := need_e (a := b) (by rw [h.2]; decide) p
    exact .inr (.inl ⟨h1.trans h.1, h2.trans h.2⟩)
  · exact .inl (by rw [dry_need h.1 h.2 p hp]; decide)
  · cases ht : a.took p with
    | false =>
      refine .inl ?_
      have : (a.need p).e = 11 := by
        unfold S.need; rw [ht, if_neg (by decide)]; exact fail_e0 (by rw [take_e]; exact h1) _
      rw [this]; decide
    | true =>
      have hp1 : Lib.hasPrefix (c :: l) p = true := by unfold S.took at ht; rw [h4] at ht; simp at ht; exact ht.1
      have hb : b.took p = true := by
        unfold S.took; rw [h5, h2]
        have := pref_app t hp1
        simp only [List.cons_append] at this
        simp [this]
      unfold S.need
      rw [if_pos ht, if_pos hb, take_yes ht, take_yes hb, h4, h5, h1, h2, h3]
      have := trimP_app t hp1
      simp only [List.cons_append] at this
      refine .inr (.inr ⟨rfl, ?_⟩)
      show S.mk _ _ _ = _
      rw [this]
theorem took_one {a b : S} {t l : List UInt8} {c : UInt8} (h1 : a.e = 0) (h2 : b.e = 0) (h3 : b.o = a.o) (h4 : a.skip = ⟨c :: l, a.o, 0⟩) (h5 : b.skip = ⟨c :: (l ++ t), a.o, 0⟩) (d : UInt8) :
    (a.took [d] = (d == c) ∧ b.took [d] = (d == c)) ∧ (d = c → a.take [d] = ⟨l, a.o, 0⟩ ∧ b.take [d] = ⟨l ++ t, a.o, 0⟩) ∧ (d ≠ c → a.take [d] = ⟨c :: l, a.o, 0⟩ ∧ b.take [d] = ⟨c :: (l ++ t), a.o, 0⟩) := by
  have k1 : a.took [d] = (d == c) := by unfold S.took; rw [h4, h1, pref_one]; simp
  have k2 : b.took [d] = (d == c) := by unfold S.took; rw [h5, h2, pref_one]; simp
  refine ⟨⟨k1, k2⟩, fun e => ?_, fun e => ?_⟩
  · subst e
    have q : Lib.hasPrefix (d :: l) [d] = true := by rw [pref_one]; simp
    have q2 : Lib.hasPrefix (d :: (l ++ t)) [d] = true := by rw [pref_one]; simp
    rw [take_yes (by rw [k1]; simp), take_yes (by rw [k2]; simp), h4, h5, h1, h2, h3]
    unfold Lib.trimPrefix
    rw [if_pos q, if_pos q2]
    exact ⟨rfl, rfl⟩
  · rw [take_no (by rw [k1]; simpa using e), take_no (by rw [k2]; simpa using e), h4, h5]
    exact ⟨rfl, rfl⟩
end Js
end Go.Proofs.YtapcpndplnkfjaaGreatDoor
namespace Go.Proofs.YtapcpndplnkfjaaGreatDoor
open Go.RowKit Go.Proofs.YtapcpndplnkfjaaGreatDoorW.PrintWords Go.Proofs.YtapcpndplnkfjaaGreatDoorW.PrintLast Go.Proofs.YtapcpndplnkfjaaGreatDoorW.PrintMore
set_option linter.unusedVariables false
set_option linter.unusedSimpArgs false
namespace Js
theorem decN_more (n n' b0 b1 b2 b3 c1 c2 c3 : Nat) (hnn : n ≤ n') (h1 : 1 < n → c1 = b1) (h2 : 2 < n → c2 = b2) (h3 : 3 < n → c3 = b3)
    (hw : ¬ ((Lib.decodeN n b0 b1 b2 b3).1 = 65533 ∧ (Lib.decodeN n b0 b1 b2 b3).2 = 1)) : Lib.decodeN n' b0 c1 c2 c3 = Lib.decodeN n b0 b1 b2 b3 := by
  have e2 : ∀ (k m : Nat) (x y : Nat), n ≤ n' → (k < n → y = x) → (k < n ∧ x / 64 = m) → (k < n' ∧ y / 64 = m) := fun k m x y hn hy h => ⟨by omega, by rw [hy h.1]; exact h.2⟩
  unfold Lib.decodeN at hw ⊢
  by_cases g0 : b0 < 128
  · rw [if_pos g0, if_pos g0]
  rw [if_neg g0] at hw ⊢
  rw [if_neg g0]
  by_cases g1 : b0 / 32 = 6 ∧ (1 < n ∧ b1 / 64 = 2)
  · have := h1 g1.2.1
    subst this
    rw [if_pos g1, if_pos ⟨g1.1, by omega, g1.2.2⟩]
  rw [if_neg g1] at hw ⊢
  by_cases g2 : b0 / 16 = 14 ∧ (1 < n ∧ b1 / 64 = 2) ∧ (2 < n ∧ b2 / 64 = 2)
  · have k1 := h1 g2.2.1.1
    have k2 := h2 g2.2.2.1
    subst k1 k2
    rw [if_neg (by omega), if_pos ⟨g2.1, ⟨by omega, g2.2.1.2⟩, ⟨by omega, g2.2.2.2⟩⟩, if_pos g2]
  rw [if_neg g2] at hw ⊢
  by_cases g3 : b0 / 8 = 30 ∧ (1 < n ∧ b1 / 64 = 2) ∧ (2 < n ∧ b2 / 64 = 2) ∧ (3 < n ∧ b3 / 64 = 2)
  · have k1 := h1 g3.2.1.1
    have k2 := h2 g3.2.2.1.1
    have k3 := h3 g3.2.2.2.1
    subst k1 k2 k3
    rw [if_neg (by omega), if_neg (by omega), if_pos ⟨g3.1, ⟨by omega, g3.2.1.2⟩, ⟨by omega, g3.2.2.1.2⟩, ⟨by omega, g3.2.2.2.2⟩⟩, if_pos g3]
  rw [if_neg g3] at hw
  exact absurd ⟨rfl, rfl⟩ hw
theorem getD_app (s t : List UInt8) (k : Nat) (h : k < s.length) : (s ++ t).getD k 0 = s.getD k 0 := by
  simp [List.getD, List.getElem?_append_left h]
theorem dec_more (s t : List UInt8) (k : Nat) (hk : k < s.length) (hw : ¬ ((Utf8.decode (ofL s) k).1 = 65533 ∧ (Utf8.decode (ofL s) k).2 = 1)) :
    Utf8.decode (ofL (s ++ t)) k = Utf8.decode (ofL s) k := by
  rw [Lib.decode_N] at hw
  rw [Lib.decode_N, Lib.decode_N]
  rw [ofL_data] at hw
  rw [ofL_data, ofL_data, getD_app s t k hk]
  refine decN_more _ _ _ _ _ _ _ _ _ (by simp; omega) (fun h => ?_) (fun h => ?_) (fun h => ?_) hw
  · rw [getD_app s t _ (by omega)]
  · rw [getD_app s t _ (by omega)]
  · rw [getD_app s t _ (by omega)]
theorem plainF_app (s t : List UInt8) : ∀ n m k, s.length < n + k → s.length + t.length < m + k → 1 ≤ n → 1 ≤ m → (plainF (ofL s) n k).2 = true →
    plainF (ofL (s ++ t)) m k = plainF (ofL s) n k
  | 0, _, _, _, _, h, _, _ => absurd h (by decide)
  | _, 0, _, _, _, _, h, _ => absurd h (by decide)
  | n + 1, m + 1, k, hn, hm, _, _, h => by
    rw [plainF] at h ⊢
    rw [plainF]
    rw [ofL_size] at h ⊢
    rw [ofL_size]
    by_cases hk : k < s.length
    · rw [if_pos hk] at h ⊢
      rw [if_pos (by simp; omega)]
      have hg : (Lib.decodeGo ((ofL s).extract k s.length)).2 = (Utf8.decode (ofL s) k).2 := by
        have := Lib.decodeGo_extract (ofL s) k (by rw [ofL_size]; exact hk)
        rw [ofL_size] at this
        rw [this]
      have hadv := decode_adv (ofL s) k
      by_cases hbad : (Utf8.decode (ofL s) k).1 = 65533 ∧ (Utf8.decode (ofL s) k).2 = 1
      · rw [if_neg (by omega), if_neg (by omega), if_pos ⟨hbad.1, by rw [hg, hbad.2]; decide⟩] at h
        cases h
      · have hd := dec_more s t k hk hbad
        rw [hd]
        have hg2 : (Lib.decodeGo ((ofL (s ++ t)).extract k (s ++ t).length)).2 = (Utf8.decode (ofL s) k).2 := by
          have := Lib.decodeGo_extract (ofL (s ++ t)) k (by rw [ofL_size]; simp; omega)
          rw [ofL_size] at this
          rw [this, hd]
        rw [hg2, hg]
        split
        · rfl
        split
        · rfl
        split
        · rfl
        · rename_i h1 h2 h3
          rw [if_neg h1, if_neg h2, if_neg (by rw [hg]; exact h3)] at h
          refine plainF_app s t n m _ (by omega) (by omega) ?_ ?_ h
          · cases n with
            | zero => exact absurd h (by simp [plainF])
            | succ n => omega
          · by_cases hm0 : 1 ≤ m
            · exact hm0
            · exfalso
              omega
    · rw [if_neg hk] at h
      cases h
theorem plain_app (s t : List UInt8) (o e o' e' : Int) (h : (S.plain ⟨s, o, e⟩).2 = true) : S.plain ⟨s ++ t, o', e'⟩ = S.plain ⟨s, o, e⟩ := by
  unfold S.plain at *
  exact plainF_app s t _ _ 0 (by rw [ofL_size]; show s.length < s.length + 1 + 0; omega) (by rw [ofL_size]; show s.length + t.length < (s ++ t).length + 1 + 0; simp) (by omega) (by omega) h
theorem four_ext (t s : List UInt8) (o : Int) : ExtV t (S.four ⟨s, o, 0⟩) (S.four ⟨s ++ t, o, 0⟩) := by
  unfold S.four
  by_cases h : s.length < 4
  · rw [if_pos h]
    exact ⟨.inl ⟨by show (11 : Int) ≠ 0; decide, by show (11 : Int) ≠ 35; decide⟩, fun e => absurd e (by show (11 : Int) ≠ 0; decide)⟩
  · rw [if_neg h, if_neg (by simp; omega)]
    have hl : S.low ⟨s ++ t, o, 0⟩ = S.low ⟨s, o, 0⟩ := by
      unfold S.low
      rw [List.take_append_of_le_length (by omega)]
    rw [hl]
    cases fourLoop (S.low ⟨s, o, 0⟩) ((S.low ⟨s, o, 0⟩).size + 1) 0 0 with
    | none => exact ⟨.inl ⟨by show (11 : Int) ≠ 0; decide, by show (11 : Int) ≠ 35; decide⟩, fun _ => rfl⟩
    | some x =>
      refine ⟨.inr (.inr ⟨rfl, ?_⟩), fun _ => rfl⟩
      show S.mk ((s ++ t).drop 4) o 0 = S.mk (s.drop 4 ++ t) o 0
      rw [List.drop_append_of_le_length (by omega)]
theorem four_e (a : S) : a.e ≠ 0 → (a.four).2.e = a.e := by
  intro h
  unfold S.four
  split
  · exact fail_e h _
  · unfold fourV; split
    · exact fail_e h _
    · rfl
theorem ExtV.cases {σ : Type} {t : List UInt8} {p q : σ × S} (h : ExtV t p q) : (p.2.e ≠ 0 ∧ p.2.e ≠ 35) ∨ (p.2.e = 35 ∧ q.2.e = 35) ∨
    ∃ x s o, p = (x, ⟨s, o, 0⟩) ∧ q = (x, ⟨s ++ t, o, 0⟩) := by
  obtain ⟨x, s, o, e⟩ := p
  obtain ⟨y, b⟩ := q
  obtain ⟨h, hv⟩ := h
  rcases h with h | h | h
  · exact .inl h
  · exact .inr (.inl h)
  · obtain ⟨h1, h2⟩ := h
    simp only at h1 h2 hv
    subst h1 h2
    exact .inr (.inr ⟨x, s, o, rfl, by rw [hv rfl]⟩)
theorem sign_ext (t s : List UInt8) (o : Int) : ExtV t (S.sign ⟨s, o, 0⟩) (S.sign ⟨s ++ t, o, 0⟩) := by
  rcases (four_ext t s o).cases with h | h | ⟨x, s1, o1, hx, hy⟩
  · have he := four_e (S.four ⟨s, o, 0⟩).2
    have hb : (S.sign ⟨s, o, 0⟩).2.e = (S.four ⟨s, o, 0⟩).2.e := by
      unfold S.sign
      split
      · rfl
      split
      · exact fail_e h.1 _
      · have hp : (S.four ⟨s, o, 0⟩).2.pre.e = (S.four ⟨s, o, 0⟩).2.e := rfl
        have h5 := four_e (S.four ⟨s, o, 0⟩).2.pre (by rw [hp]; exact h.1)
        unfold S.sgn
        simp only []
        split
        · exact (fail_e (by rw [h5, hp]; exact h.1) _).trans (h5.trans hp)
        · exact h5.trans hp
    exact ⟨.inl (by rw [hb]; exact h), fun e => absurd e (by rw [hb]; exact h.1)⟩
  · exfalso
    have : ∀ (a : S), a.e = 0 → (S.four a).2.e = 0 ∨ (S.four a).2.e = 11 := fun a ha => by
      unfold S.four
      split
      · exact .inr (fail_e0 ha _)
      · unfold fourV; split
        · exact .inr (fail_e0 ha _)
        · exact .inl ha
    rcases this ⟨s, o, 0⟩ rfl with k | k <;> rw [k] at h <;> exact absurd h.1 (by decide)
  · unfold S.sign
    rw [hx, hy]
    simp only []
    split
    · exact ⟨Ext.ok _ _ _, fun _ => rfl⟩
    · by_cases hp : Lib.hasPrefix s1 [92, 117] = true
      · have hp2 := pref_app t hp
        rw [hp, hp2]
        split
        · exact ⟨.inl ⟨by show (11 : Int) ≠ 0; decide, by show (11 : Int) ≠ 35; decide⟩, fun e => absurd e (by show (11 : Int) ≠ 0; decide)⟩
        · unfold S.sgn
          have hpre : S.pre ⟨s1 ++ t, o1, 0⟩ = ⟨(S.pre ⟨s1, o1, 0⟩).s ++ t, o1, 0⟩ := by
            unfold S.pre; simp only []; rw [trimP_app t hp]
          rw [hpre]
          have hpre2 : S.pre ⟨s1, o1, 0⟩ = ⟨(S.pre ⟨s1, o1, 0⟩).s, o1, 0⟩ := rfl
          rw [hpre2]
          generalize (S.pre ⟨s1, o1, 0⟩).s = s2
          have hf := four_ext t s2 o1
          have hf0 := hf
          rcases hf0.cases with h | h | ⟨y, s3, o3, h6, h7⟩
          · refine ⟨.inl ?_, fun e => ?_⟩
            · simp only []
              split
              · rw [fail_e h.1]; exact h
              · exact h
            · exfalso
              simp only [] at e
              split at e
              · rw [fail_e h.1] at e; exact h.1 e
              · exact h.1 e
          · refine ⟨.inr (.inl ⟨?_, ?_⟩), fun e => ?_⟩
            · simp only []
              split
              · rw [fail_e (by rw [h.1]; decide)]; exact h.1
              · exact h.1
            · simp only []
              split
              · rw [fail_e (by rw [h.2]; decide)]; exact h.2
              · exact h.2
            · exfalso
              simp only [] at e
              split at e
              · rw [fail_e (by rw [h.1]; decide), h.1] at e; exact absurd e (by decide)
              · rw [h.1] at e; exact absurd e (by decide)
          · rw [h6, h7]
            simp only []
            refine ⟨?_, fun _ => rfl⟩
            split
            · exact Ext.fail0 t s3 o3 11 (by decide) _ rfl
            · exact Ext.ok _ _ _
      · have hp' : Lib.hasPrefix s1 [92, 117] = false := by simpa using hp
        rw [if_pos (.inr hp')]
        exact ⟨.inl ⟨by show (11 : Int) ≠ 0; decide, by show (11 : Int) ≠ 35; decide⟩, fun e => absurd e (by show (11 : Int) ≠ 0; decide)⟩
theorem esc_ext (t s : List UInt8) (o : Int) : ExtV t (S.esc ⟨s, o, 0⟩) (S.esc ⟨s ++ t, o, 0⟩) := by
  cases s with
  | nil => exact ⟨.inl ⟨by show (11 : Int) ≠ 0; decide, by show (11 : Int) ≠ 35; decide⟩, fun e => absurd e (by show (11 : Int) ≠ 0; decide)⟩
  | cons c l =>
    show ExtV t (S.escT c ⟨l, o, 0⟩) (S.escT c ⟨l ++ t, o, 0⟩)
    unfold S.escT
    split
    · exact sign_ext t l o
    split
    · exact ⟨Ext.fail0 t l o 11 (by decide) _ rfl, fun _ => rfl⟩
    · exact ⟨Ext.ok _ _ _, fun _ => rfl⟩
theorem strLoop_bad (esc : S → List UInt8 × S) (n : Nat) (out : List UInt8) {a : S} (h : a.e ≠ 0) : strLoop esc n out a = (out, a) := by
  cases n with
  | zero => rfl
  | succ n => rw [strLoop, if_pos h]
theorem strLoop_ok (esc : S → List UInt8 × S) (n : Nat) (out s : List UInt8) (o : Int) : strLoop esc (n + 1) out ⟨s, o, 0⟩ =
    if (S.plain ⟨s, o, 0⟩).2 = false then (out ++ s.take (S.plain ⟨s, o, 0⟩).1, S.fail ⟨s, o, 0⟩ 11) else
    if s.getD (S.plain ⟨s, o, 0⟩).1 0 = 34 then (out ++ s.take (S.plain ⟨s, o, 0⟩).1, S.cut ⟨s, o, 0⟩) else
    strLoop esc n (out ++ s.take (S.plain ⟨s, o, 0⟩).1 ++ (esc (S.cut ⟨s, o, 0⟩)).1) (esc (S.cut ⟨s, o, 0⟩)).2 := by
  rw [strLoop, if_neg (show ¬ (S.mk s o 0).e ≠ 0 from fun h => h rfl)]
theorem strLoop_ext (t : List UInt8) : ∀ (n m : Nat) (out s : List UInt8) (o : Int), s.length < n → s.length + t.length < m →
    ExtV t (strLoop S.esc n out ⟨s, o, 0⟩) (strLoop S.esc m out ⟨s ++ t, o, 0⟩)
  | 0, _, _, _, _, h, _ => absurd h (by omega)
  | _, 0, _, _, _, _, h => absurd h (by omega)
  | n + 1, m + 1, out, s, o, hn, hm => by
    rw [strLoop_ok, strLoop_ok]
    cases hp : (S.plain ⟨s, o, 0⟩).2 with
    | false =>
      rw [if_pos rfl]
      exact ⟨.inl ⟨by show (11 : Int) ≠ 0; decide, by show (11 : Int) ≠ 35; decide⟩, fun e => absurd e (by show (11 : Int) ≠ 0; decide)⟩
    | true =>
      have hq := plain_app s t o 0 o 0 hp
      have hlt := (plain_le ⟨s, o, 0⟩).2 hp
      have htf : ¬ (true = false) := by decide
      rw [hq, hp, if_neg htf, if_neg htf]
      have hlt' : (S.plain ⟨s, o, 0⟩).1 < s.length := hlt
      have hc : S.cut ⟨s ++ t, o, 0⟩ = ⟨(S.cut ⟨s, o, 0⟩).s ++ t, o, 0⟩ := by
        unfold S.cut
        rw [hq]
        simp only []
        rw [List.drop_append_of_le_length (by omega)]
      have hc2 : S.cut ⟨s, o, 0⟩ = ⟨(S.cut ⟨s, o, 0⟩).s, o, 0⟩ := rfl
      have hcl : (S.cut ⟨s, o, 0⟩).s.length < s.length := by unfold S.cut; simp; omega
      rw [getD_app s t _ hlt', List.take_append_of_le_length (by omega), hc]
      by_cases h34 : s.getD (S.plain ⟨s, o, 0⟩).1 0 = 34
      · rw [if_pos h34, if_pos h34, hc2]; exact ⟨Ext.ok _ _ _, fun _ => rfl⟩
      · rw [if_neg h34, if_neg h34, hc2]
        generalize (S.cut ⟨s, o, 0⟩).s = s1 at hcl
        have hl := (esc_len ⟨s1, o, 0⟩).1
        rcases (esc_ext t s1 o).cases with h | h | ⟨x, s2, o2, h6, h7⟩
        · rw [strLoop_bad _ _ _ h.1]; exact ⟨.inl h, fun e => absurd e h.1⟩
        · rw [strLoop_bad _ _ _ (by rw [h.1]; decide), strLoop_bad _ _ _ (by rw [h.2]; decide)]
          exact ⟨.inr (.inl h), fun e => absurd (h.1.symm.trans e) (by decide)⟩
        · rw [h6] at hl
          rw [h6, h7]
          have hl2 : s2.length ≤ s1.length := hl
          exact strLoop_ext t n m _ s2 o2 (by omega) (by omega)
theorem st_ext (t s : List UInt8) (o : Int) (hs : s ≠ []) : ExtV t (S.st ⟨s, o, 0⟩) (S.st ⟨s ++ t, o, 0⟩) := by
  cases s with
  | nil => exact absurd rfl hs
  | cons c l =>
    unfold S.st S.str
    show ExtV t (strLoop S.esc ((c :: l).length + 1) [] ⟨l, o, 0⟩) (strLoop S.esc ((c :: l ++ t).length + 1) [] ⟨l ++ t, o, 0⟩)
    exact strLoop_ext t _ _ _ _ _ (by simp; omega) (by simp; omega)
theorem num_ext (t s : List UInt8) (o : Int) (ht : stop t) : Ext t (S.numS ⟨s, o, 0⟩) (S.numS ⟨s ++ t, o, 0⟩) ∧ S.numV ⟨s ++ t, o, 0⟩ = S.numV ⟨s, o, 0⟩ := by
  have hR : S.numR ⟨s ++ t, o, 0⟩ = S.numR ⟨s, o, 0⟩ ++ t := by
    unfold S.numR
    refine trim_app2 _ _ _ (fun c hc => ?_)
    have := ht c hc
    simp at this ⊢
    rcases this with h | h | h | h | h | h | h <;> subst h <;> decide
  have hL : S.numL ⟨s ++ t, o, 0⟩ = S.numL ⟨s, o, 0⟩ := by
    unfold S.numL
    rw [hR]
    have : (S.numR ⟨s, o, 0⟩).length ≤ s.length := numR_le ⟨s, o, 0⟩
    simp only []
    rw [List.length_append, List.length_append, show s.length + t.length - ((S.numR ⟨s, o, 0⟩).length + t.length) = s.length - (S.numR ⟨s, o, 0⟩).length by omega, List.take_append_of_le_length (by omega)]
  refine ⟨?_, by unfold S.numV; rw [hL]⟩
  unfold S.numS
  rw [hR, hL]
  simp only []
  split
  · exact Ext.ok _ _ _
  · rename_i h
    by_cases h35 : (NumP.parse (S.numL ⟨s, o, 0⟩)).2 = 35
    · exact .inr (.inl ⟨h35, by show (S.fail ⟨s ++ t, o, 0⟩ _).e = 35; rw [fail_e0 rfl]; exact h35⟩)
    · exact .inl ⟨h, h35⟩
end Js
end Go.Proofs.YtapcpndplnkfjaaGreatDoor
namespace Go.Proofs.YtapcpndplnkfjaaGreatDoor
open Go.RowKit Go.Proofs.YtapcpndplnkfjaaGreatDoorW.PrintWords Go.Proofs.YtapcpndplnkfjaaGreatDoorW.PrintLast Go.Proofs.YtapcpndplnkfjaaGreatDoorW.PrintMore
set_option linter.unusedVariables false
set_option linter.unusedSimpArgs false
namespace Js
variable {σ : Type}
theorem ExtV.bad {t : List UInt8} {p q : σ × S} (h1 : p.2.e ≠ 0) (h2 : p.2.e ≠ 35) : ExtV t p q := ⟨.inl ⟨h1, h2⟩, fun e => absurd e h1⟩
theorem ExtV.deep {t : List UInt8} {p q : σ × S} (h1 : p.2.e = 35) (h2 : q.2.e = 35) : ExtV t p q := ⟨.inr (.inl ⟨h1, h2⟩), fun e => absurd (h1.symm.trans e) (by decide)⟩
theorem ExtV.b11 {t : List UInt8} {p q : σ × S} (h1 : p.2.e = 11) : ExtV t p q := ExtV.bad (by rw [h1]; decide) (by rw [h1]; decide)
theorem Dry.skip {a : S} (h : Dry a) : Dry a.skip := ⟨h.1, by show Lib.trimLeftS a.skip.s _ = _; rw [h.2]; rfl⟩
structure Far (t : List UInt8) (st : σ → S → σ × S) : Prop where
  e : ∀ x a, a.e ≠ 0 → (st x a).2.e = a.e
  ext : ∀ x a b, Ext' t a b → ExtV t (st x a) (st x b)
  dry : ∀ x a, Dry a → (st x a).2.e = 11
  len : ∀ x a, (st x a).2.s.length ≤ a.s.length
theorem ExtV.look {t : List UInt8} {p q : σ × S} (h : ExtV t p q) : (p.2.e ≠ 0 ∧ p.2.e ≠ 35) ∨ (p.2.e = 35 ∧ q.2.e = 35) ∨ (p.2.e = 0 ∧ q.1 = p.1 ∧ Ext t p.2 q.2) := by
  rcases h.1 with k | k | k
  · exact .inl k
  · exact .inr (.inl k)
  · exact .inr (.inr ⟨k.1, h.2 k.1, h.1⟩)
theorem loop_ext {t : List UInt8} {st : σ → S → σ × S} (hs : Far t st) : ∀ (n m : Nat) (x : σ) (a b : S), a.s.length < n → b.s.length < m → Ext t a b →
    ExtV t (listLoop st n x a) (listLoop st m x b) ∨ Dry (listLoop st n x a).2
  | 0, _, _, _, _, h, _, _ => absurd h (by omega)
  | _, 0, _, _, _, _, h, _ => absurd h (by omega)
  | n + 1, m + 1, x, a, b, hn, hm, h => by
    rcases (show Ext' t a b from .inl h).cases with h | h | h | ⟨c, l, h1, h2, h3, h4, h5⟩
    · have := loop_bad st h.1 (n + 1) x
      exact .inl (ExtV.bad (by rw [this]; exact h.1) (by rw [this]; exact h.2))
    · have k1 := loop_bad st (a := a) (by rw [h.1]; decide) (n + 1) x
      have k2 := loop_bad st (a := b) (by rw [h.2]; decide) (m + 1) x
      exact .inl (ExtV.deep (k1.trans h.1) (k2.trans h.2))
    · right
      have k := dry_took h.2 [44] (by simp)
      unfold listLoop
      rw [k, if_neg (by decide), take_no k]
      exact Dry.skip h
    · have k := took_one h1 h2 h3 h4 h5 44
      by_cases hc : 44 = c
      · have k2 := k.2.1 hc
        have t1 : a.took [44] = true := by rw [k.1.1]; simpa using hc
        have t2 : b.took [44] = true := by rw [k.1.2]; simpa using hc
        have l1 := took_lt a 44 t1
        have l2 := took_lt b 44 t2
        unfold listLoop
        rw [if_pos t1, if_pos t2]
        have he : Ext' t (a.take [44]) (b.take [44]) := .inl (by rw [k2.1, k2.2]; exact Ext.ok _ _ _)
        have e1 := hs.ext x _ _ he
        have g1 := hs.len x (a.take [44])
        have g2 := hs.len x (b.take [44])
        rcases e1.look with h | h | h
        · have := loop_bad st h.1 n (st x (a.take [44])).1
          exact .inl (ExtV.bad (by rw [this]; exact h.1) (by rw [this]; exact h.2))
        · have k1 := loop_bad st (a := (st x (a.take [44])).2) (by rw [h.1]; decide) n (st x (a.take [44])).1
          have k2 := loop_bad st (a := (st x (b.take [44])).2) (by rw [h.2]; decide) m (st x (b.take [44])).1
          exact .inl (ExtV.deep (k1.trans h.1) (k2.trans h.2))
        · rw [h.2.1]
          exact loop_ext hs n m _ _ _ (by omega) (by omega) h.2.2
      · have k2 := k.2.2 hc
        have t1 : a.took [44] = false := by rw [k.1.1]; simpa using hc
        have t2 : b.took [44] = false := by rw [k.1.2]; simpa using hc
        unfold listLoop
        rw [t1, t2, if_neg (by decide), if_neg (by decide)]
        left
        rw [k2.1, k2.2]
        exact ⟨Ext.ok _ _ _, fun _ => rfl⟩
theorem Ext.left {t : List UInt8} {a b : S} (h : Ext t a b) : Ext t a.left b.left := by
  rcases h with h | h | h
  · exact .inl h
  · exact .inr (.inl h)
  · exact .inr (.inr ⟨h.1, by rw [h.2]; rfl⟩)
theorem tail_ext {t : List UInt8} {st : σ → S → σ × S} (hs : Far t st) (c : UInt8) (x : σ) {a b : S} (h : Ext t a b) :
    ExtV t ((listLoop st (a.s.length + 1) x a).1, ((listLoop st (a.s.length + 1) x a).2.need [c]).left) ((listLoop st (b.s.length + 1) x b).1, ((listLoop st (b.s.length + 1) x b).2.need [c]).left) := by
  have hk : ∀ d : S, (d.need [c]).left.e = 0 → d.e = 0 := fun d hd => by
    by_cases h0 : d.e = 0
    · exact h0
    · have := need_e h0 [c]
      exact absurd (this.symm.trans hd) h0
  rcases loop_ext hs (a.s.length + 1) (b.s.length + 1) x a b (by omega) (by omega) h with h | h
  · refine ⟨(Ext'.need (.inl h.1) [c] (by simp)).left, fun e => h.2 (hk _ e)⟩
  · exact ExtV.b11 (dry_need h.1 h.2 [c] (by simp))
theorem listG_ext {t : List UInt8} {st : σ → S → σ × S} (hs : Far t st) (d : UInt8) (x : σ) {a b : S} (h : Ext' t a b) : ExtV t (listG st [d] x a) (listG st [d] x b) := by
  rcases h.cases with h | h | h | ⟨c, l, h1, h2, h3, h4, h5⟩
  · have := listG_e hs.e [d] x h.1
    exact ExtV.bad (by rw [this]; exact h.1) (by rw [this]; exact h.2)
  · have k1 := listG_e hs.e [d] x (a := a) (by rw [h.1]; decide)
    have k2 := listG_e hs.e [d] x (a := b) (by rw [h.2]; decide)
    exact ExtV.deep (k1.trans h.1) (k2.trans h.2)
  · refine ExtV.b11 ?_
    have k := dry_took h.2 [d] (by simp)
    have k0 : Dry (a.take [d]) := by rw [take_no k]; exact Dry.skip h
    have k1 := hs.dry x _ k0
    have k2 := loop_bad st (a := (st x (a.take [d])).2) (by rw [k1]; decide) ((st x (a.take [d])).2.s.length + 1) (st x (a.take [d])).1
    have k3 := need_e (a := (listLoop st ((st x (a.take [d])).2.s.length + 1) (st x (a.take [d])).1 (st x (a.take [d])).2).2) (by rw [k2, k1]; decide) [d]
    unfold listG
    rw [k, if_neg (by decide)]
    exact k3.trans (k2.trans k1)
  · have k := took_one h1 h2 h3 h4 h5 d
    by_cases hc : d = c
    · have k2 := k.2.1 hc
      have t1 : a.took [d] = true := by rw [k.1.1]; simpa using hc
      have t2 : b.took [d] = true := by rw [k.1.2]; simpa using hc
      unfold listG
      rw [if_pos t1, if_pos t2, k2.1, k2.2]
      exact ⟨(Ext.ok _ _ _).left, fun _ => rfl⟩
    · have k2 := k.2.2 hc
      have t1 : a.took [d] = false := by rw [k.1.1]; simpa using hc
      have t2 : b.took [d] = false := by rw [k.1.2]; simpa using hc
      unfold listG
      rw [t1, t2, if_neg (by decide), if_neg (by decide), k2.1, k2.2]
      have e1 := hs.ext x _ _ (.inl (Ext.ok t (c :: l) a.o))
      simp only [List.cons_append] at e1
      rcases e1.look with h | h | h
      · have q2 := loop_bad st h.1 ((st x ⟨c :: l, a.o, 0⟩).2.s.length + 1) (st x ⟨c :: l, a.o, 0⟩).1
        have q3 := need_e (by rw [q2]; exact h.1) [d]
        exact ExtV.bad (by show (S.need _ _).e ≠ 0; rw [q3, q2]; exact h.1) (by show (S.need _ _).e ≠ 35; rw [q3, q2]; exact h.2)
      · have q2 := loop_bad st (a := (st x ⟨c :: l, a.o, 0⟩).2) (by rw [h.1]; decide) ((st x ⟨c :: l, a.o, 0⟩).2.s.length + 1) (st x ⟨c :: l, a.o, 0⟩).1
        have q3 := need_e (by rw [q2, h.1]; decide) [d]
        have r2 := loop_bad st (a := (st x ⟨c :: (l ++ t), a.o, 0⟩).2) (by rw [h.2]; decide) ((st x ⟨c :: (l ++ t), a.o, 0⟩).2.s.length + 1) (st x ⟨c :: (l ++ t), a.o, 0⟩).1
        have r3 := need_e (by rw [r2, h.2]; decide) [d]
        exact ExtV.deep (q3.trans (q2.trans h.1)) (r3.trans (r2.trans h.2))
      · rw [h.2.1]
        exact tail_ext hs d _ h.2.2
theorem enter_ext {t : List UInt8} (s : List UInt8) (o : Int) (hs : s ≠ []) : Ext t (S.enter ⟨s, o, 0⟩) (S.enter ⟨s ++ t, o, 0⟩) := by
  unfold S.enter
  by_cases h : o = 16
  · have h1 : S.enter0 ⟨s, o, 0⟩ = ⟨s, o, 35⟩ := by unfold S.enter0; rw [if_pos h]; rfl
    have h2 : S.enter0 ⟨s ++ t, o, 0⟩ = ⟨s ++ t, o, 35⟩ := by unfold S.enter0; rw [if_pos h]; rfl
    rw [h1, h2]
    exact .inr (.inl ⟨rfl, rfl⟩)
  · have h1 : S.enter0 ⟨s, o, 0⟩ = ⟨s, o, 0⟩ := by unfold S.enter0; rw [if_neg h]
    have h2 : S.enter0 ⟨s ++ t, o, 0⟩ = ⟨s ++ t, o, 0⟩ := by unfold S.enter0; rw [if_neg h]
    rw [h1, h2]
    unfold S.enter1
    rw [if_pos rfl, if_pos rfl]
    refine .inr (.inr ⟨rfl, ?_⟩)
    cases s with
    | nil => exact absurd rfl hs
    | cons c l => rfl
theorem value_ext {t : List UInt8} (ht : stop t) {ft fa fo : S → S28 × S} (h1 : ∀ s o, s ≠ [] → ExtV t (ft ⟨s, o, 0⟩) (ft ⟨s ++ t, o, 0⟩)) (h2 : ∀ s o, s ≠ [] → ExtV t (fa ⟨s, o, 0⟩) (fa ⟨s ++ t, o, 0⟩)) (h3 : ∀ s o, s ≠ [] → ExtV t (fo ⟨s, o, 0⟩) (fo ⟨s ++ t, o, 0⟩))
    {a b : S} (h : Ext' t a b) : ExtV t (S.value ft fa fo a) (S.value ft fa fo b) := by
  unfold S.value
  rcases h.cases with h | h | h | ⟨c, l, e1, e2, e3, e4, e5⟩
  · have k : S.value1 ft fa fo a.skip = (z28, a.skip) := by unfold S.value1; rw [if_pos (show a.skip.e ≠ 0 from h.1)]
    rw [k]
    exact ExtV.bad h.1 h.2
  · have k : S.value1 ft fa fo a.skip = (z28, a.skip) := by unfold S.value1; rw [if_pos (show a.skip.e ≠ 0 from by show a.e ≠ 0; rw [h.1]; decide)]
    have k2 : S.value1 ft fa fo b.skip = (z28, b.skip) := by unfold S.value1; rw [if_pos (show b.skip.e ≠ 0 from by show b.e ≠ 0; rw [h.2]; decide)]
    rw [k, k2]
    exact ExtV.deep h.1 h.2
  · refine ExtV.b11 ?_
    unfold S.value1
    rw [if_neg (by show ¬ a.e ≠ 0; rw [h.1]; decide), h.2]
    exact fail_e0 (a := a.skip) h.1 _
  · rw [e4, e5]
    have hne : c :: l ≠ [] := by simp
    have nd : ∀ p : List UInt8, p ≠ [] → Ext t (S.need ⟨c :: l, a.o, 0⟩ p) (S.need ⟨c :: (l ++ t), a.o, 0⟩ p) := fun p hp => Ext'.need (.inl (Ext.ok t (c :: l) a.o)) p hp
    unfold S.value1
    rw [if_neg (show ¬ (S.mk (c :: l) a.o 0).e ≠ 0 from fun h => h rfl), if_neg (show ¬ (S.mk (c :: (l ++ t)) a.o 0).e ≠ 0 from fun h => h rfl)]
    simp only []
    split
    · exact ⟨nd _ (by simp), fun _ => rfl⟩
    split
    · exact ⟨nd _ (by simp), fun _ => rfl⟩
    split
    · exact ⟨nd _ (by simp), fun _ => rfl⟩
    split
    · exact h1 _ _ hne
    split
    · exact h2 _ _ hne
    split
    · exact h3 _ _ hne
    split
    · have := num_ext t (c :: l) a.o ht
      exact ⟨this.1, fun _ => this.2⟩
    · exact ⟨Ext.fail0 t (c :: l) a.o 11 (by decide) _ rfl, fun _ => rfl⟩
theorem objA_ext {t : List UInt8} (ns : List ByteArray) {a b : S} {l : List UInt8} {c : UInt8} (h4 : a.skip = ⟨c :: l, a.o, 0⟩) (h5 : b.skip = ⟨c :: (l ++ t), a.o, 0⟩) :
    Ext t (objA ns a) (objA ns b) ∧ ((objA ns a).e = 0 → objN b = objN a) := by
  unfold objA objN
  rw [h4, h5]
  rcases (st_ext t (c :: l) a.o (by simp)).cases with h | h | ⟨x, s2, o2, h6, h7⟩
  · have k1 := twice_e h.1 (has ns (ofL (S.st ⟨c :: l, a.o, 0⟩).1))
    have k2 := need_e (by rw [k1]; exact h.1) [58]
    have k3 := k2.trans k1
    exact ⟨.inl (by rw [k3]; exact h), fun e => absurd (k3.symm.trans e) h.1⟩
  · have n1 : (S.st ⟨c :: l, a.o, 0⟩).2.e ≠ 0 := by rw [h.1]; decide
    have n2 : (S.st ⟨c :: l ++ t, a.o, 0⟩).2.e ≠ 0 := by rw [h.2]; decide
    have k1 := twice_e n1 (has ns (ofL (S.st ⟨c :: l, a.o, 0⟩).1))
    have k2 := need_e (by rw [k1]; exact n1) [58]
    have k3 := k2.trans k1
    have q1 := twice_e n2 (has ns (ofL (S.st ⟨c :: l ++ t, a.o, 0⟩).1))
    have q2 := need_e (by rw [q1]; exact n2) [58]
    have q3 := q2.trans q1
    exact ⟨.inr (.inl ⟨k3.trans h.1, q3.trans h.2⟩), fun e => absurd (k3.symm.trans e) n1⟩
  · simp only [List.cons_append] at h7
    rw [h6, h7]
    refine ⟨?_, fun _ => rfl⟩
    refine Ext'.need (.inl ?_) [58] (by simp)
    show Ext t (S.twice ⟨s2, o2, 0⟩ (has ns (ofL x))) (S.twice ⟨s2 ++ t, o2, 0⟩ (has ns (ofL x)))
    unfold S.twice
    split
    · exact Ext.fail0 t s2 o2 31 (by decide) _ rfl
    · exact Ext.ok _ _ _
theorem arr_far {t : List UInt8} {n : Nat} (h1 : ∀ a b, Ext' t a b → ExtV t (gv n a) (gv n b)) (h2 : ∀ a, Dry a → (gv n a).2.e = 11) : Far t (arrT (gv n)) where
  e := fun x a h => arrT_e h n x
  ext := fun x a b h => ⟨(h1 a b h).1, fun e => by unfold arrT at *; rw [(h1 a b h).2 e]⟩
  dry := fun x a h => h2 a h
  len := fun x a => (keeps_gv n a).len
theorem obj_far {t : List UInt8} {n : Nat} (h1 : ∀ a b, Ext' t a b → ExtV t (gv n a) (gv n b)) (h2 : ∀ a, Dry a → (gv n a).2.e = 11) : Far t (objT (gv n)) where
  e := fun x a h => objT_e h n x
  len := fun x a => by
    unfold objT
    split
    · exact ((keeps_skip a).trans (keeps_fail _ 11 (by decide))).len
    · exact ((keeps_objA _ a).trans (keeps_gv n _)).len
  dry := fun x a h => by
    unfold objT
    rw [h.2]
    rw [if_pos (by rfl)]
    exact fail_e0 (a := a.skip) h.1 _
  ext := fun x a b h => by
    rcases h.cases with h | h | h | ⟨c, l, e1, e2, e3, e4, e5⟩
    · have := objT_e h.1 n x
      exact ExtV.bad (by rw [this]; exact h.1) (by rw [this]; exact h.2)
    · have k1 := objT_e (a := a) (by rw [h.1]; decide) n x
      have k2 := objT_e (a := b) (by rw [h.2]; decide) n x
      exact ExtV.deep (k1.trans h.1) (k2.trans h.2)
    · refine ExtV.b11 ?_
      unfold objT
      rw [h.2]
      rw [if_pos (by rfl)]
      exact fail_e0 (a := a.skip) h.1 _
    · have ho := objA_ext x.2 e4 e5
      unfold objT
      rw [e4, e5, pref_one, pref_one]
      split
      · exact ⟨Ext.fail0 t (c :: l) a.o 11 (by decide) _ rfl, fun _ => rfl⟩
      · have hv := h1 _ _ (.inl ho.1)
        refine ⟨hv.1, fun e => ?_⟩
        have e0 : (objA x.2 a).e = 0 := by
          by_cases h0 : (objA x.2 a).e = 0
          · exact h0
          · have := gv_bad h0 n
            simp only [] at e
            rw [this] at e
            exact absurd e h0
        simp only []
        rw [ho.2 e0, hv.2 e]
theorem gv_dry : ∀ n a, Dry a → (gv n a).2.e = 11
  | 0, a, h => by unfold gv; rw [if_pos h.1]; exact fail_e0 (a := a.skip) h.1 _
  | n + 1, a, h => by
    show (S.value _ _ _ a).2.e = 11
    unfold S.value S.value1
    rw [if_neg (by show ¬ a.e ≠ 0; rw [h.1]; decide), h.2]
    exact fail_e0 (a := a.skip) h.1 _
theorem gv_ext {t : List UInt8} (ht : stop t) : ∀ (n : Nat) (a b : S), Ext' t a b → ExtV t (gv n a) (gv n b)
  | 0, a, b, h => by
    rcases h.cases with h | h | h | ⟨c, l, e1, e2, e3, e4, e5⟩
    · rw [gv_bad h.1]; exact ExtV.bad h.1 h.2
    · rw [gv_bad (a := a) (by rw [h.1]; decide), gv_bad (a := b) (by rw [h.2]; decide)]; exact ExtV.deep h.1 h.2
    · exact ExtV.b11 (gv_dry 0 a h)
    · refine ExtV.b11 ?_
      unfold gv; rw [if_pos e1]; exact fail_e0 (a := a.skip) e1 _
  | n + 1, a, b, h => by
    have ih := gv_ext ht n
    refine value_ext ht (fun s o hs => ?_) (fun s o hs => ?_) (fun s o hs => ?_) h
    · have := st_ext t s o hs
      exact ⟨this.1, fun e => by unfold textV at *; rw [this.2 e]⟩
    · have := listG_ext (arr_far ih (gv_dry n)) 93 [] (.inl (enter_ext (t := t) s o hs))
      unfold S.arr
      rw [listF_G, listF_G]
      exact ⟨this.1, fun e => by simp only []; rw [this.2 e]⟩
    · have := listG_ext (obj_far ih (gv_dry n)) 125 ([], []) (.inl (enter_ext (t := t) s o hs))
      unfold S.obj
      rw [listF_G, listF_G]
      exact ⟨this.1, fun e => by simp only []; rw [this.2 e]⟩
end Js
end Go.Proofs.YtapcpndplnkfjaaGreatDoor
namespace Go.Proofs.YtapcpndplnkfjaaGreatDoor
open Go.RowKit Go.Proofs.YtapcpndplnkfjaaGreatDoorW.PrintWords Go.Proofs.YtapcpndplnkfjaaGreatDoorW.PrintLast Go.Proofs.YtapcpndplnkfjaaGreatDoorW.PrintMore
set_option linter.unusedVariables false
set_option linter.unusedSimpArgs false
namespace Js
variable {σ : Type}
def S.up (a : S) : S := ⟨a.s, a.o + 1, a.e⟩
theorem up_fail (a : S) (x : Int) : a.up.fail x = (a.fail x).up := rfl
theorem up_took (a : S) (p : List UInt8) : a.up.took p = a.took p := rfl
theorem up_take (a : S) (p : List UInt8) : a.up.take p = (a.take p).up := by
  unfold S.take
  rw [up_took]
  split <;> rfl
theorem up_need (a : S) (p : List UInt8) : a.up.need p = (a.need p).up := by
  unfold S.need
  rw [up_took, up_take]
  split
  · rfl
  · exact up_fail _ _
theorem up_four (a : S) : a.up.four = (a.four.1, a.four.2.up) := by
  unfold S.four
  show (if a.s.length < 4 then _ else _) = _
  split
  · rfl
  · show fourV a.up (fourLoop a.low (a.low.size + 1) 0 0) = _
    cases fourLoop a.low (a.low.size + 1) 0 0 <;> rfl
theorem up_sgn (x : Int) (c : S) : S.sgn x c.up = ((S.sgn x c).1, (S.sgn x c).2.up) := by
  unfold S.sgn
  rw [up_four]
  simp only []
  split
  · rw [up_fail]
  · rfl
theorem up_sign (a : S) : a.up.sign = (a.sign.1, a.sign.2.up) := by
  unfold S.sign
  rw [up_four]
  simp only []
  split
  · rfl
  show (if 56320 ≤ a.four.1 ∨ Lib.hasPrefix a.four.2.s [92, 117] = false then _ else _) = _
  split
  · rfl
  · show S.sgn a.four.1 a.four.2.pre.up = _
    exact up_sgn _ _
theorem up_esc (a : S) : a.up.esc = (a.esc.1, a.esc.2.up) := by
  obtain ⟨s, o, e⟩ := a
  cases s with
  | nil => rfl
  | cons c l =>
    show S.escT c (S.up ⟨l, o, e⟩) = ((S.escT c ⟨l, o, e⟩).1, (S.escT c ⟨l, o, e⟩).2.up)
    unfold S.escT
    split
    · exact up_sign _
    split <;> rfl
theorem up_loop : ∀ (n : Nat) (out : List UInt8) (a : S), strLoop S.esc n out a.up = ((strLoop S.esc n out a).1, (strLoop S.esc n out a).2.up)
  | 0, out, a => rfl
  | n + 1, out, a => by
    rw [strLoop, strLoop]
    show (if a.e ≠ 0 then _ else if a.plain.2 = false then _ else if a.s.getD a.plain.1 0 = 34 then _ else _) = _
    split
    · rfl
    split
    · rfl
    split
    · rfl
    · show strLoop S.esc n (out ++ a.s.take a.plain.1 ++ (a.cut.up.esc).1) (a.cut.up.esc).2 = _
      rw [up_esc]
      exact up_loop n _ _
theorem up_st (a : S) : a.up.st = (a.st.1, a.st.2.up) := by
  show strLoop S.esc (a.s.length + 1) [] a.tl.up = _
  exact up_loop _ _ _
theorem up_num (a : S) : a.up.numS = a.numS.up ∧ a.up.numV = a.numV := by
  refine ⟨?_, rfl⟩
  unfold S.numS
  show S.mk _ _ _ = S.up _
  simp only []
  show S.mk a.numR (if (NumP.parse a.numL).2 = 0 then a.up else a.up.fail (NumP.parse a.numL).2).o (if (NumP.parse a.numL).2 = 0 then a.up else a.up.fail (NumP.parse a.numL).2).e = _
  split <;> rfl
def Dp (n : Nat) (a b : S) : Prop := b.e = 35 ∨ (b = a.up ∧ a.o + 1 + n = 17 ∧ (n = 0 → a.e ≠ 0))
def DpV (n : Nat) (p q : σ × S) : Prop := Dp n p.2 q.2 ∧ (q.2.e ≠ 35 → q.1 = p.1)
theorem Dp.map {n : Nat} {a b : S} {f : S → S} (h : Dp n a b) (hu : f a.up = (f a).up) (he : ∀ c : S, c.e ≠ 0 → (f c).e = c.e) (ho : (f a).o = a.o) : Dp n (f a) (f b) := by
  rcases h with h | ⟨h1, h2, h3⟩
  · exact .inl ((he b (by rw [h]; decide)).trans h)
  · exact .inr ⟨by rw [h1, hu], by rw [ho]; exact h2, fun e => by rw [he a (h3 e)]; exact h3 e⟩
theorem Dp.take {n : Nat} {a b : S} (h : Dp n a b) (p : List UInt8) : Dp n (a.take p) (b.take p) := h.map (f := fun c => c.take p) (up_take a p) (fun c _ => take_e c p) (take_o a p)
theorem Dp.need {n : Nat} {a b : S} (h : Dp n a b) (p : List UInt8) : Dp n (a.need p) (b.need p) := h.map (f := fun c => c.need p) (up_need a p) (fun c hc => need_e hc p) (need_o a p)
theorem Dp.skip {n : Nat} {a b : S} (h : Dp n a b) : Dp n a.skip b.skip := h.map (f := fun c => c.skip) rfl (fun c _ => rfl) rfl
theorem Dp.fail {n : Nat} {a b : S} (h : Dp n a b) (x : Int) : Dp n (a.fail x) (b.fail x) := h.map (f := fun c => c.fail x) rfl (fun c hc => fail_e hc x) (fail_o a x)
theorem DpV.deep {n : Nat} {p q : σ × S} (h : q.2.e = 35) : DpV n p q := ⟨.inl h, fun e => absurd h e⟩
theorem loop_dp {n : Nat} {st st' : σ → S → σ × S} (h1 : ∀ x a b, Dp n a b → DpV n (st x a) (st' x b)) :
    ∀ (k m : Nat) (x : σ) (a b : S), (b.e ≠ 35 → m = k) → Dp n a b → DpV n (listLoop st k x a) (listLoop st' m x b) := by
  intro k
  induction k with
  | zero =>
    intro m x a b hm h
    rcases h with h | h
    · have := loop_bad st' (a := b) (by rw [h]; decide) m x
      exact DpV.deep (this.trans h)
    · by_cases hb : b.e = 35
      · have := loop_bad st' (a := b) (by rw [hb]; decide) m x
        exact DpV.deep (this.trans hb)
      · have := hm hb; subst this
        exact ⟨.inr h, fun _ => rfl⟩
  | succ k ih =>
    intro m x a b hm h
    by_cases hb : b.e = 35
    · have := loop_bad st' (a := b) (by rw [hb]; decide) m x
      exact DpV.deep (this.trans hb)
    · have := hm hb; subst this
      rcases h with h | h
      · exact absurd h hb
      · have ht : b.took [44] = a.took [44] := by rw [h.1]; rfl
        unfold listLoop
        rw [ht]
        have hk := (show Dp n a b from .inr h).take [44]
        split
        · have h2 := h1 x _ _ hk
          by_cases hq : (st' x (b.take [44])).2.e = 35
          · have := loop_bad st' (a := (st' x (b.take [44])).2) (by rw [hq]; decide) k (st' x (b.take [44])).1
            exact DpV.deep (this.trans hq)
          · rw [h2.2 hq]
            exact ih k _ _ _ (fun _ => rfl) h2.1
        · exact ⟨hk, fun _ => rfl⟩
theorem Dp.left {n : Nat} {a b : S} (h : Dp n a b) : Dp (n + 1) a.left b.left := by
  rcases h with h | ⟨h1, h2, h3⟩
  · exact .inl h
  · refine .inr ⟨?_, ?_, fun e => by cases e⟩
    · rw [h1]; show S.mk _ _ _ = S.mk _ _ _; congr 1
      show a.o + 1 - 1 = a.o - 1 + 1; omega
    · show a.o - 1 + 1 + ((n + 1 : Nat) : Int) = 17; push_cast; omega
theorem listG_dp {n : Nat} {st st' : σ → S → σ × S} (he : ∀ x a, a.e ≠ 0 → (st' x a).2.e = a.e) (h1 : ∀ x a b, Dp n a b → DpV n (st x a) (st' x b)) (p : List UInt8) (x : σ) {a b : S} (h : Dp n a b) :
    DpV (n + 1) (listG st p x a) (listG st' p x b) := by
  by_cases hb : b.e = 35
  · exact DpV.deep ((listG_e he p x (by rw [hb]; decide)).trans hb)
  · rcases h with h | h
    · exact absurd h hb
    · have ht : b.took p = a.took p := by rw [h.1]; rfl
      have hk := (show Dp n a b from .inr h).take p
      unfold listG
      rw [ht]
      split
      · exact ⟨hk.left, fun _ => rfl⟩
      · have h2 := h1 x _ _ hk
        have hl := loop_dp h1 ((st x (a.take p)).2.s.length + 1) ((st' x (b.take p)).2.s.length + 1) (st x (a.take p)).1 (st x (a.take p)).2 (st' x (b.take p)).2 (fun hq => by
          rcases h2.1 with k | k
          · exact absurd k hq
          · rw [k.1]; rfl) h2.1
        refine ⟨?_, fun hq => ?_⟩
        · by_cases hq : (st' x (b.take p)).2.e = 35
          · have k1 := loop_bad st' (a := (st' x (b.take p)).2) (by rw [hq]; decide) ((st' x (b.take p)).2.s.length + 1) (st' x (b.take p)).1
            have k2 := need_e (by rw [k1, hq]; decide) p
            exact .inl (k2.trans (k1.trans hq))
          · rw [h2.2 hq]
            exact (hl.1.need p).left
        · by_cases hq2 : (st' x (b.take p)).2.e = 35
          · have k1 := loop_bad st' (a := (st' x (b.take p)).2) (by rw [hq2]; decide) ((st' x (b.take p)).2.s.length + 1) (st' x (b.take p)).1
            have k2 := need_e (by rw [k1, hq2]; decide) p
            exact absurd (k2.trans (k1.trans hq2)) hq
          · simp only [] at hq ⊢
            rw [h2.2 hq2] at hq ⊢
            refine hl.2 (fun e => ?_)
            have k2 := need_e (a := (listLoop st' ((st' x (b.take p)).2.s.length + 1) (st x (a.take p)).1 (st' x (b.take p)).2).2) (by rw [e]; decide) p
            exact hq (k2.trans e)
theorem enter_dp {n : Nat} {a : S} (he : a.e = 0) (ho : a.o + 1 + (n + 1) = 17) : Dp n a.enter a.up.enter := by
  have h0 : a.enter0 = a := by unfold S.enter0; rw [if_neg (by omega)]
  unfold S.enter
  rw [h0]
  by_cases h1 : a.o = 15
  · have h2 : a.up.enter0 = ⟨a.s, a.o + 1, 35⟩ := by
      unfold S.enter0
      rw [if_pos (by show a.o + 1 = 16; omega)]
      unfold S.fail S.up
      rw [he]; rfl
    rw [h2]
    exact .inl rfl
  · have h2 : a.up.enter0 = a.up := by unfold S.enter0; rw [if_neg (by show a.o + 1 ≠ 16; omega)]
    rw [h2]
    unfold S.enter1
    rw [if_pos he, if_pos (show a.up.e = 0 from he)]
    exact .inr ⟨rfl, by show a.o + 1 + 1 + (n : Int) = 17; omega, fun e => by subst e; exact absurd ho (by push_cast; omega)⟩
theorem objA_dp {n : Nat} (ns : List ByteArray) {a b : S} (h : Dp n a b) : Dp n (objA ns a) (objA ns b) ∧ (b.e ≠ 35 → objN b = objN a) := by
  refine ⟨h.map (f := objA ns) ?_ (fun c hc => objA_e hc ns) ?_, fun hb => ?_⟩
  · unfold objA objN
    show S.need (S.twice a.skip.up.st.2 (has ns (ofL a.skip.up.st.1))) [58] = _
    rw [up_st]
    show S.need (S.twice a.skip.st.2.up (has ns (ofL a.skip.st.1))) [58] = _
    have : ∀ (c : S) (q : Bool), S.twice c.up q = (S.twice c q).up := fun c q => by unfold S.twice; split <;> rfl
    rw [this, up_need]
  · exact (keeps_objA ns a).o
  · rcases h with h | h
    · exact absurd h hb
    · unfold objN
      rw [h.1]
      show ofL a.skip.up.st.1 = _
      rw [up_st]
theorem gv_dp : ∀ (n : Nat) (a b : S), Dp n a b → DpV n (gv (n + 1) a) (gv n b) := by
  intro n
  induction n with
  | zero =>
    intro a b h
    by_cases hb : b.e = 35
    · rw [gv_bad (a := b) (by rw [hb]; decide)]; exact DpV.deep hb
    · rcases h with h | h
      · exact absurd h hb
      · have ha := h.2.2 rfl
        rw [gv_bad (a := a) ha, gv_bad (a := b) (by rw [h.1]; exact ha)]
        exact ⟨(show Dp 0 a b from .inr h).skip, fun _ => rfl⟩
  | succ n ih =>
    intro a b h
    by_cases hb : b.e = 35
    · rw [gv_bad (a := b) (by rw [hb]; decide)]; exact DpV.deep hb
    · rcases h with h | h
      · exact absurd h hb
      · by_cases ha : a.e = 0
        · have hk := (show Dp (n + 1) a b from .inr h).skip
          obtain ⟨h1, h2, -⟩ := h
          subst h1
          show DpV (n + 1) (S.value1 textV (S.arr (gv (n + 1))) (S.obj (gv (n + 1))) a.skip) (S.value1 textV (S.arr (gv n)) (S.obj (gv n)) a.skip.up)
          rw [show a.up.skip = a.skip.up from rfl] at hk
          have hc2 : a.skip.o + 1 + ((n : Int) + 1) = 17 := by show a.o + 1 + _ = _; push_cast at h2; omega
          have hce : a.skip.e = 0 := ha
          generalize a.skip = c at *
          have hen := enter_dp hce hc2
          unfold S.value1
          rw [if_neg (fun h => h hce), if_neg (show ¬ c.up.e ≠ 0 from fun h => h hce)]
          have hs : c.up.s = c.s := rfl
          rw [hs]
          cases hl : c.s with
          | nil => exact ⟨hk.fail 11, fun _ => rfl⟩
          | cons d l =>
            simp only []
            split
            · exact ⟨hk.need _, fun _ => rfl⟩
            split
            · exact ⟨hk.need _, fun _ => rfl⟩
            split
            · exact ⟨hk.need _, fun _ => rfl⟩
            split
            · refine ⟨?_, fun _ => ?_⟩
              · exact hk.map (f := fun a => a.st.2) (by show (c.up.st).2 = _; rw [up_st]) (fun c hc => by rw [st_bad hc]; rfl) (keeps_st c).o
              · unfold textV; rw [up_st]
            split
            · have := listG_dp (st := arrT (gv (n + 1))) (st' := arrT (gv n)) (fun x a h => arrT_e h n x) (fun x a b h => ⟨(ih a b h).1, fun e => by unfold arrT at *; rw [(ih a b h).2 e]⟩) [93] [] hen
              unfold S.arr
              rw [listF_G, listF_G]
              exact ⟨this.1, fun e => by simp only []; rw [this.2 e]⟩
            split
            · have := listG_dp (st := objT (gv (n + 1))) (st' := objT (gv n)) (fun x a h => objT_e h n x) (fun x a b h => by
                by_cases hb : b.e = 35
                · exact DpV.deep ((objT_e (by rw [hb]; decide) n x).trans hb)
                · have ho := objA_dp x.2 h
                  have hpp : Lib.hasPrefix b.skip.s [34] = Lib.hasPrefix a.skip.s [34] := by
                    rcases h with h | h
                    · exact absurd h hb
                    · rw [h.1]; rfl
                  unfold objT
                  rw [hpp]
                  split
                  · exact ⟨h.skip.fail 11, fun _ => rfl⟩
                  · have hv := ih _ _ ho.1
                    refine ⟨hv.1, fun e => ?_⟩
                    simp only []
                    rw [ho.2 hb, hv.2 e]) [125] ([], []) hen
              unfold S.obj
              rw [listF_G, listF_G]
              exact ⟨this.1, fun e => by simp only []; rw [this.2 e]⟩
            split
            · exact ⟨hk.map (f := fun a => a.numS) (up_num c).1 (fun c hc => numS_e hc) (keeps_num c).o, fun _ => (up_num c).2⟩
            · exact ⟨hk.fail 11, fun _ => rfl⟩
        · rw [gv_bad (a := a) ha, gv_bad (a := b) (by rw [h.1]; exact ha)]
          exact ⟨(show Dp (n + 1) a b from .inr h).skip, fun _ => rfl⟩
theorem fail_ne (a : S) (x : Int) (hx : x ≠ 0) : (a.fail x).e ≠ 0 := by
  by_cases h : a.e = 0
  · rw [fail_e0 h]; exact hx
  · rw [fail_e h]; exact h
theorem pv_gv (s : List UInt8) (hl : s.length ≤ 4096) : pv s = if (gv 17 ⟨s, 0, 0⟩).2.ended.e = 0 then ((gv 17 ⟨s, 0, 0⟩).1, 0) else (z28, (gv 17 ⟨s, 0, 0⟩).2.ended.e) := by
  unfold pv parseV
  rw [if_neg (by omega), gv_eq 17 _ ⟨by show s.length ≤ 900000; omega, rfl, (fun e => absurd e (by decide)), Nat.le_refl _⟩]
theorem pv_ok {s : List UInt8} {x : S28} (h : pv s = (x, 0)) : s.length ≤ 4096 ∧ ∃ r, gv 17 ⟨s, 0, 0⟩ = (x, ⟨r, 0, 0⟩) ∧ Lib.trimLeftS r [32, 9, 10, 13] = [] := by
  by_cases hl : s.length ≤ 4096
  · refine ⟨hl, ?_⟩
    rw [pv_gv s hl] at h
    have hk := (keeps_gv 17 ⟨s, 0, 0⟩).o
    generalize gv 17 ⟨s, 0, 0⟩ = q at hk h ⊢
    obtain ⟨y, r, o, e⟩ := q
    simp only [] at hk h
    subst hk
    split at h
    · rename_i h1
      refine ⟨r, ?_, ?_⟩
      · have hy : y = x := congrArg Prod.fst h
        have he : e = 0 := by
          by_cases h0 : e = 0
          · exact h0
          · exfalso
            unfold S.ended at h1
            split at h1
            · exact h0 h1
            · exact fail_ne _ 11 (by decide) h1
        rw [hy, he]
      · unfold S.ended at h1
        split at h1
        · rename_i h2; exact h2
        · exact absurd h1 (fail_ne _ 11 (by decide))
    · rename_i h1
      exact absurd (congrArg Prod.snd h) h1
  · unfold pv parseV at h
    rw [if_pos (by omega)] at h
    exact absurd (show (13 : Int) = 0 from congrArg Prod.snd h) (by decide)
theorem pv_of {s r : List UInt8} {x : S28} (hl : s.length ≤ 4096) (h : gv 17 ⟨s, 0, 0⟩ = (x, ⟨r, 0, 0⟩)) (hr : Lib.trimLeftS r [32, 9, 10, 13] = []) : pv s = (x, 0) := by
  rw [pv_gv s hl, h]
  have : (S.ended ⟨r, 0, 0⟩).e = 0 := by unfold S.ended; rw [if_pos (show (S.skip ⟨r, 0, 0⟩).s = [] from hr)]; rfl
  simp only []
  rw [if_pos this]
theorem pv_bad {s : List UInt8} {x : S28} {b : S} {e : Int} (hl : s.length ≤ 4096) (h : gv 17 ⟨s, 0, 0⟩ = (x, b)) (hb : b.e = e) (he : e ≠ 0) : pv s = (z28, e) := by
  rw [pv_gv s hl, h]
  have : b.ended.e = e := by
    unfold S.ended
    split
    · exact hb
    · exact (fail_e (a := b.skip) (by show b.e ≠ 0; rw [hb]; exact he) _).trans hb
  simp only []
  rw [this, if_neg he]
structure Reads (s : List UInt8) (x : S28) (r : List UInt8) : Prop where
  at0 : ∀ t, stop t → gv 17 ⟨s ++ t, 0, 0⟩ = (x, ⟨r ++ t, 0, 0⟩)
  dry : Lib.trimLeftS r [32, 9, 10, 13] = []
  at1 : (∀ t, stop t → gv 16 ⟨s ++ t, 1, 0⟩ = (x, ⟨r ++ t, 1, 0⟩)) ∨ (∀ t, stop t → (gv 16 ⟨s ++ t, 1, 0⟩).2.e = 35)
theorem ExtV.at {t : List UInt8} {p q : S28 × S} {x : S28} {r : List UInt8} {o : Int} (h : ExtV t p q) (hp : p = (x, ⟨r, o, 0⟩)) : q = (x, ⟨r ++ t, o, 0⟩) := by
  subst hp
  obtain ⟨y, b⟩ := q
  obtain ⟨h1, h2⟩ := h
  have h3 : y = x := h2 rfl
  rcases h1 with h | h | h
  · exact absurd rfl h.1
  · exact absurd (show (0 : Int) = 35 from h.1) (by decide)
  · rw [h3, show b = _ from h.2]
theorem reads {s : List UInt8} {x : S28} (h : pv s = (x, 0)) : ∃ r, Reads s x r := by
  obtain ⟨hl, r, hg, hr⟩ := pv_ok h
  refine ⟨r, fun t ht => ?_, hr, ?_⟩
  · exact (gv_ext ht 17 ⟨s, 0, 0⟩ ⟨s ++ t, 0, 0⟩ (.inl (Ext.ok _ _ _))).at hg
  · have hd := gv_dp 16 ⟨s, 0, 0⟩ ⟨s, 1, 0⟩ (.inr ⟨rfl, (show (0 : Int) + 1 + ((16 : Nat) : Int) = 17 by decide), fun e => absurd e (by decide)⟩)
    rw [hg] at hd
    by_cases hb : (gv 16 ⟨s, 1, 0⟩).2.e = 35
    · right
      intro t ht
      have := gv_ext ht 16 ⟨s, 1, 0⟩ ⟨s ++ t, 1, 0⟩ (.inl (Ext.ok _ _ _))
      rcases this.1 with h | h | h
      · exact absurd hb h.2
      · exact h.2
      · exact absurd (h.1.symm.trans hb) (by decide)
    · left
      intro t ht
      refine (gv_ext ht 16 ⟨s, 1, 0⟩ ⟨s ++ t, 1, 0⟩ (.inl (Ext.ok _ _ _))).at ?_
      have h2 := hd.2 hb
      rcases hd.1 with h | h
      · exact absurd h hb
      · have h3 := h.1
        generalize gv 16 ⟨s, 1, 0⟩ = q at *
        obtain ⟨y, b⟩ := q
        simp only [] at h2 h3
        rw [h2, h3]; rfl
end Js
end Go.Proofs.YtapcpndplnkfjaaGreatDoor
namespace Go.Proofs.YtapcpndplnkfjaaGreatDoor
open Go.RowKit Go.Proofs.YtapcpndplnkfjaaGreatDoorW.PrintWords Go.Proofs.YtapcpndplnkfjaaGreatDoorW.PrintLast Go.Proofs.YtapcpndplnkfjaaGreatDoorW.PrintMore
set_option linter.unusedVariables false
set_option linter.unusedSimpArgs false
namespace Js
def bl (B : List UInt8) : Prop := ∀ c ∈ B, [32, 9, 10, 13].contains c = true
theorem trim_bl {B : List UInt8} (h : bl B) (l : List UInt8) : Lib.trimLeftS (B ++ l) [32, 9, 10, 13] = Lib.trimLeftS l [32, 9, 10, 13] := by
  induction B with
  | nil => rfl
  | cons c B ih =>
    have h1 := h c (by simp)
    have h2 := ih (fun d hd => h d (by simp [hd]))
    unfold Lib.trimLeftS at *
    rw [List.cons_append, List.dropWhile_cons, h1]
    exact h2
theorem trim_dry {r : List UInt8} (h : Lib.trimLeftS r [32, 9, 10, 13] = []) (l : List UInt8) : Lib.trimLeftS (r ++ l) [32, 9, 10, 13] = Lib.trimLeftS l [32, 9, 10, 13] := by
  unfold Lib.trimLeftS at *
  rw [List.dropWhile_append, if_pos (by simpa using h)]
theorem trim_cons {c : UInt8} (h : [32, 9, 10, 13].contains c = false) (l : List UInt8) : Lib.trimLeftS (c :: l) [32, 9, 10, 13] = c :: l := by
  unfold Lib.trimLeftS
  rw [List.dropWhile_cons, h]; rfl
theorem stop_cons (c : UInt8) (l : List UInt8) (h : [32, 9, 10, 13, 44, 93, 125].contains c = true) : stop (c :: l) := fun d hd => by simp at hd; subst hd; exact h
theorem gv_skip : ∀ (n : Nat) (a b : S), a.skip = b.skip → gv n a = gv n b
  | 0, a, b, h => by
    have he : a.e = b.e := show a.skip.e = b.skip.e from congrArg S.e h
    unfold gv; rw [h, he]
  | n + 1, a, b, h => by
    show S.value1 _ _ _ a.skip = S.value1 _ _ _ b.skip
    rw [h]
theorem skip_of {u : List UInt8} (o : Int) : S.skip ⟨u, o, 0⟩ = ⟨Lib.trimLeftS u [32, 9, 10, 13], o, 0⟩ := rfl
theorem took_of {u l : List UInt8} {c : UInt8} (o : Int) (h : Lib.trimLeftS u [32, 9, 10, 13] = c :: l) (d : UInt8) : S.took ⟨u, o, 0⟩ [d] = (d == c) := by
  unfold S.took
  rw [skip_of, h]
  simp only []
  rw [pref_one]; simp
theorem take_is {u l : List UInt8} {c : UInt8} (o : Int) (h : Lib.trimLeftS u [32, 9, 10, 13] = c :: l) : S.take ⟨u, o, 0⟩ [c] = ⟨l, o, 0⟩ := by
  rw [take_yes (by rw [took_of o h]; simp), skip_of, h]
  unfold Lib.trimPrefix
  rw [if_pos (show Lib.hasPrefix (c :: l) [c] = true by rw [pref_one]; simp)]
  rfl
theorem take_not {u l : List UInt8} {c : UInt8} (o : Int) (h : Lib.trimLeftS u [32, 9, 10, 13] = c :: l) {d : UInt8} (hd : d ≠ c) : S.take ⟨u, o, 0⟩ [d] = ⟨c :: l, o, 0⟩ := by
  rw [take_no (by rw [took_of o h]; simpa using hd), skip_of, h]
theorem need_is {u l : List UInt8} {c : UInt8} (o : Int) (h : Lib.trimLeftS u [32, 9, 10, 13] = c :: l) : S.need ⟨u, o, 0⟩ [c] = ⟨l, o, 0⟩ := by
  unfold S.need
  rw [if_pos (by rw [took_of o h]; simp), take_is o h]
theorem item {s r : List UInt8} {x : S28} (h : Reads s x r) : (∀ u B V, bl B → stop V → Lib.trimLeftS u [32, 9, 10, 13] = Lib.trimLeftS (B ++ (s ++ V)) [32, 9, 10, 13] → gv 16 ⟨u, 1, 0⟩ = (x, ⟨r ++ V, 1, 0⟩)) ∨
    (∀ u B V, bl B → stop V → Lib.trimLeftS u [32, 9, 10, 13] = Lib.trimLeftS (B ++ (s ++ V)) [32, 9, 10, 13] → (gv 16 ⟨u, 1, 0⟩).2.e = 35) := by
  have hs : ∀ u B V, bl B → Lib.trimLeftS u [32, 9, 10, 13] = Lib.trimLeftS (B ++ (s ++ V)) [32, 9, 10, 13] → gv 16 ⟨u, 1, 0⟩ = gv 16 ⟨s ++ V, 1, 0⟩ := fun u B V hB hu =>
    gv_skip 16 _ _ (by rw [skip_of, skip_of, hu, trim_bl hB])
  rcases h.at1 with k | k
  · exact .inl fun u B V hB hV hu => by rw [hs u B V hB hu]; exact k V hV
  · exact .inr fun u B V hB hV hu => by rw [hs u B V hB hu]; exact k V hV
theorem gv_obj {u U : List UInt8} (h : Lib.trimLeftS u [32, 9, 10, 13] = 123 :: U) : gv 17 ⟨u, 0, 0⟩ = (⟨5, false, z24, ⟨#[]⟩, (listG (objT (gv 16)) [125] ([], []) ⟨U, 1, 0⟩).1.1, (listG (objT (gv 16)) [125] ([], []) ⟨U, 1, 0⟩).1.2⟩, (listG (objT (gv 16)) [125] ([], []) ⟨U, 1, 0⟩).2) := by
  show S.value1 textV (S.arr (gv 16)) (S.obj (gv 16)) (S.skip ⟨u, 0, 0⟩) = _
  rw [skip_of, h]
  rfl
theorem listG_bad {σ : Type} {st : σ → S → σ × S} {p : List UInt8} {x : σ} {a : S} {e : Int} (ht : a.took p = false) (hb : (st x (a.take p)).2.e = e) (he : e ≠ 0) : (listG st p x a).2.e = e := by
  unfold listG
  rw [ht, if_neg (by decide)]
  have k1 := loop_bad st (a := (st x (a.take p)).2) (by rw [hb]; exact he) ((st x (a.take p)).2.s.length + 1) (st x (a.take p)).1
  have k2 := need_e (a := (listLoop st ((st x (a.take p)).2.s.length + 1) (st x (a.take p)).1 (st x (a.take p)).2).2) (by rw [k1, hb]; exact he) p
  exact k2.trans (k1.trans hb)
theorem listG_go {σ : Type} {st : σ → S → σ × S} {p : List UInt8} {x y : σ} {a b : S} (ht : a.took p = false) (hb : st x (a.take p) = (y, b)) : listG st p x a = ((listLoop st (b.s.length + 1) y b).1, ((listLoop st (b.s.length + 1) y b).2.need p).left) := by
  unfold listG
  rw [ht, if_neg (by decide), hb]
theorem loop_more {σ : Type} {st : σ → S → σ × S} {n : Nat} {x y : σ} {u l : List UInt8} {o : Int} {b : S} (h : Lib.trimLeftS u [32, 9, 10, 13] = 44 :: l) (hb : st x ⟨l, o, 0⟩ = (y, b)) : listLoop st (n + 1) x ⟨u, o, 0⟩ = listLoop st n y b := by
  conv => lhs; unfold listLoop
  rw [if_pos (by rw [took_of o h]; rfl), take_is o h, hb]
theorem loop_end {σ : Type} (st : σ → S → σ × S) (n : Nat) (x : σ) {u l : List UInt8} {c : UInt8} {o : Int} (h : Lib.trimLeftS u [32, 9, 10, 13] = c :: l) (hc : 44 ≠ c) (hw : [32, 9, 10, 13].contains c = false) (hn : n ≠ 0) : listLoop st n x ⟨u, o, 0⟩ = (x, ⟨c :: l, o, 0⟩) := by
  obtain ⟨k, rfl⟩ : ∃ k, n = k + 1 := ⟨n - 1, by omega⟩
  unfold listLoop
  rw [if_neg (by rw [took_of o h]; simpa using hc), take_not o h hc]
theorem dec_ascii (l : List UInt8) (k : Nat) (c : UInt8) (h : l.getD k 0 = c) (hc : c.toNat < 128) : Utf8.decode (ofL l) k = (c.toNat, 1) := by
  rw [Lib.decode_N, ofL_data, h]
  unfold Lib.decodeN
  rw [if_pos hc]
theorem st_one (c : UInt8) (rest : List UInt8) (o : Int) (h1 : 32 ≤ c.toNat) (h2 : c.toNat < 128) (h3 : c ≠ 34) (h4 : c ≠ 92) : S.st ⟨34 :: c :: 34 :: rest, o, 0⟩ = ([c], ⟨rest, o, 0⟩) := by
  show strLoop S.esc ((34 :: c :: 34 :: rest).length + 1) [] ⟨c :: 34 :: rest, o, 0⟩ = _
  have hp : S.plain ⟨c :: 34 :: rest, o, 0⟩ = (1, true) := by
    show plainF (ofL (c :: 34 :: rest)) ((ofL (c :: 34 :: rest)).size + 1) 0 = _
    have d0 := dec_ascii (c :: 34 :: rest) 0 c rfl h2
    have d1 := dec_ascii (c :: 34 :: rest) 1 34 rfl (by decide)
    have n3 : c.toNat ≠ 34 := fun e => h3 (UInt8.toNat_inj.1 e)
    have n4 : c.toNat ≠ 92 := fun e => h4 (UInt8.toNat_inj.1 e)
    rw [ofL_size]
    show plainF (ofL (c :: 34 :: rest)) (((rest.length + 1) + 1) + 1) 0 = _
    rw [plainF, if_pos (by rw [ofL_size]; simp), d0, if_neg (by simp only []; omega), if_neg (by simp only []; omega), if_neg (by simp only []; omega)]
    show plainF (ofL (c :: 34 :: rest)) ((rest.length + 1) + 1) 1 = _
    rw [plainF, if_pos (by rw [ofL_size]; simp), d1, if_pos (.inl rfl)]
  rw [strLoop, if_neg (by simp), hp]
  simp only []
  rw [if_neg (by decide), if_pos (by rfl)]
  have hcut : S.cut ⟨c :: 34 :: rest, o, 0⟩ = ⟨rest, o, 0⟩ := by unfold S.cut; rw [hp]; rfl
  rw [hcut]
  rfl
theorem objT_one {u : List UInt8} {c : UInt8} {B1 Q : List UInt8} (p : List S28 × List ByteArray) (hu : Lib.trimLeftS u [32, 9, 10, 13] = 34 :: c :: 34 :: (B1 ++ 58 :: Q)) (hB1 : bl B1) (h1 : 32 ≤ c.toNat) (h2 : c.toNat < 128) (h3 : c ≠ 34) (h4 : c ≠ 92) (hn : has p.2 (ofL [c]) = false) :
    objT (gv 16) p ⟨u, 1, 0⟩ = ((put p.1 (pos p.2 (ofL [c])) (gv 16 ⟨Q, 1, 0⟩).1, put p.2 (pos p.2 (ofL [c])) (ofL [c])), (gv 16 ⟨Q, 1, 0⟩).2) := by
  have hN : objN ⟨u, 1, 0⟩ = ofL [c] := by unfold objN; rw [skip_of, hu, st_one c _ 1 h1 h2 h3 h4]
  have hA : objA p.2 ⟨u, 1, 0⟩ = ⟨Q, 1, 0⟩ := by
    unfold objA
    rw [hN, hn, skip_of, hu, st_one c _ 1 h1 h2 h3 h4]
    show S.need ⟨B1 ++ 58 :: Q, 1, 0⟩ [58] = _
    exact need_is 1 (by rw [trim_bl hB1, trim_cons (by decide)])
  unfold objT
  rw [hN, hA, skip_of, hu, pref_one, if_neg (by decide)]
end Js
end Go.Proofs.YtapcpndplnkfjaaGreatDoor
namespace Go.Proofs.YtapcpndplnkfjaaGreatDoor
open Go.RowKit Go.Proofs.YtapcpndplnkfjaaGreatDoorW.PrintWords Go.Proofs.YtapcpndplnkfjaaGreatDoorW.PrintLast Go.Proofs.YtapcpndplnkfjaaGreatDoorW.PrintMore
set_option linter.unusedVariables false
set_option linter.unusedSimpArgs false
namespace Js
def Fits (s : List UInt8) (x : S28) (r : List UInt8) : Prop := ∀ u B V, bl B → stop V → Lib.trimLeftS u [32, 9, 10, 13] = Lib.trimLeftS (B ++ (s ++ V)) [32, 9, 10, 13] → gv 16 ⟨u, 1, 0⟩ = (x, ⟨r ++ V, 1, 0⟩)
def Deep (s : List UInt8) : Prop := ∀ u B V, bl B → stop V → Lib.trimLeftS u [32, 9, 10, 13] = Lib.trimLeftS (B ++ (s ++ V)) [32, 9, 10, 13] → (gv 16 ⟨u, 1, 0⟩).2.e = 35
theorem item' {s r : List UInt8} {x : S28} (h : Reads s x r) : Fits s x r ∨ Deep s := item h
theorem bl_nil : bl [] := fun c hc => by cases hc
def sg (c : UInt8) : Prop := 32 ≤ c.toNat ∧ c.toNat < 128 ∧ c ≠ 34 ∧ c ≠ 92
def mem (c : UInt8) (Q : List UInt8) : List UInt8 := 34 :: c :: 34 :: 58 :: Q
def put2 (p : List S28 × List ByteArray) (c : UInt8) (x : S28) : List S28 × List ByteArray := (put p.1 (pos p.2 (ofL [c])) x, put p.2 (pos p.2 (ofL [c])) (ofL [c]))
theorem mem_fits {c : UInt8} (hc : sg c) {u s r V : List UInt8} {x : S28} (p : List S28 × List ByteArray) (hp : has p.2 (ofL [c]) = false) (hu : Lib.trimLeftS u [32, 9, 10, 13] = mem c (s ++ V)) (h : Fits s x r) (hV : stop V) :
    objT (gv 16) p ⟨u, 1, 0⟩ = (put2 p c x, ⟨r ++ V, 1, 0⟩) := by
  rw [objT_one (B1 := []) p hu bl_nil hc.1 hc.2.1 hc.2.2.1 hc.2.2.2 hp, h (s ++ V) [] V bl_nil hV rfl]
  rfl
theorem mem_deep {c : UInt8} (hc : sg c) {u s V : List UInt8} (p : List S28 × List ByteArray) (hp : has p.2 (ofL [c]) = false) (hu : Lib.trimLeftS u [32, 9, 10, 13] = mem c (s ++ V)) (h : Deep s) (hV : stop V) :
    (objT (gv 16) p ⟨u, 1, 0⟩).2.e = 35 := by
  rw [objT_one (B1 := []) p hu bl_nil hc.1 hc.2.1 hc.2.2.1 hc.2.2.2 hp]
  exact h (s ++ V) [] V bl_nil hV rfl
theorem trim_mem (c : UInt8) (Q : List UInt8) : Lib.trimLeftS (mem c Q) [32, 9, 10, 13] = mem c Q := trim_cons (by decide) _
def three (c1 c2 c3 : UInt8) (s t u : List UInt8) : List UInt8 := 123 :: mem c1 (s ++ 44 :: mem c2 (t ++ 44 :: mem c3 (u ++ [125])))
theorem stop44 (l : List UInt8) : stop (44 :: l) := stop_cons _ _ (by decide)
theorem stop125 : stop [125] := stop_cons _ _ (by decide)
theorem three_ok {c1 c2 c3 : UInt8} (h1 : sg c1) (h2 : sg c2) (h3 : sg c3) {s t u rs rt ru : List UInt8} {x y z : S28} (hs : Fits s x rs) (ht : Fits t y rt) (hu : Fits u z ru) (es : Lib.trimLeftS rs [32, 9, 10, 13] = []) (et : Lib.trimLeftS rt [32, 9, 10, 13] = []) (eu : Lib.trimLeftS ru [32, 9, 10, 13] = [])
    (k1 : has [] (ofL [c1]) = false) (k2 : has (put2 ([], []) c1 x).2 (ofL [c2]) = false) (k3 : has (put2 (put2 ([], []) c1 x) c2 y).2 (ofL [c3]) = false) (hl : (three c1 c2 c3 s t u).length ≤ 4096) :
    pv (three c1 c2 c3 s t u) = (⟨5, false, z24, ⟨#[]⟩, (put2 (put2 (put2 ([], []) c1 x) c2 y) c3 z).1, (put2 (put2 (put2 ([], []) c1 x) c2 y) c3 z).2⟩, 0) := by
  refine pv_of (r := []) hl ?_ rfl
  rw [gv_obj (show Lib.trimLeftS (three c1 c2 c3 s t u) _ = 123 :: mem c1 (s ++ 44 :: mem c2 (t ++ 44 :: mem c3 (u ++ [125]))) from trim_cons (by decide) _)]
  have q1 := trim_mem c1 (s ++ 44 :: mem c2 (t ++ 44 :: mem c3 (u ++ [125])))
  have e1 : objT (gv 16) ([], []) (S.take ⟨mem c1 (s ++ 44 :: mem c2 (t ++ 44 :: mem c3 (u ++ [125]))), 1, 0⟩ [125]) = (put2 ([], []) c1 x, ⟨rs ++ 44 :: mem c2 (t ++ 44 :: mem c3 (u ++ [125])), 1, 0⟩) := by
    rw [take_not 1 q1 (by decide)]
    exact mem_fits h1 ([], []) k1 q1 hs (stop44 _)
  rw [listG_go (by rw [took_of 1 q1]; rfl) e1]
  have e2 := mem_fits h2 (put2 ([], []) c1 x) k2 (trim_mem c2 (t ++ 44 :: mem c3 (u ++ [125]))) ht (stop44 _)
  have e3 := mem_fits h3 (put2 (put2 ([], []) c1 x) c2 y) k3 (trim_mem c3 (u ++ [125])) hu stop125
  have l2 : Lib.trimLeftS (rs ++ 44 :: mem c2 (t ++ 44 :: mem c3 (u ++ [125]))) [32, 9, 10, 13] = 44 :: mem c2 (t ++ 44 :: mem c3 (u ++ [125])) := by rw [trim_dry es, trim_cons (by decide)]
  have l3 : Lib.trimLeftS (rt ++ 44 :: mem c3 (u ++ [125])) [32, 9, 10, 13] = 44 :: mem c3 (u ++ [125]) := by rw [trim_dry et, trim_cons (by decide)]
  have l4 : Lib.trimLeftS (ru ++ [125]) [32, 9, 10, 13] = 125 :: [] := by rw [trim_dry eu, trim_cons (by decide)]
  rw [loop_more l2 e2]
  obtain ⟨n, hn⟩ : ∃ n, (rs ++ 44 :: mem c2 (t ++ 44 :: mem c3 (u ++ [125]))).length = n + 1 + 1 := ⟨(rs ++ (34 :: c2 :: 34 :: 58 :: (t ++ 44 :: mem c3 (u ++ [125])))).length - 1, by unfold mem; simp; omega⟩
  simp only [] at hn ⊢
  rw [hn, loop_more l3 e3, loop_end _ _ _ l4 (by decide) (by decide) (by omega)]
  simp only []
  rw [need_is 1 (trim_cons (by decide) [])]
  rfl
theorem obj_bad {s : List UInt8} {U : List UInt8} (h : Lib.trimLeftS s [32, 9, 10, 13] = 123 :: U) (hl : s.length ≤ 4096) (hb : (listG (objT (gv 16)) [125] ([], []) ⟨U, 1, 0⟩).2.e = 35) : pv s = (z28, 35) :=
  pv_bad hl (gv_obj h) hb (by decide)
theorem three_d1 {c1 c2 c3 : UInt8} (h1 : sg c1) {s t u : List UInt8} (hs : Deep s) (k1 : has [] (ofL [c1]) = false) (hl : (three c1 c2 c3 s t u).length ≤ 4096) : pv (three c1 c2 c3 s t u) = (z28, 35) := by
  have q1 := trim_mem c1 (s ++ 44 :: mem c2 (t ++ 44 :: mem c3 (u ++ [125])))
  refine obj_bad (U := mem c1 (s ++ 44 :: mem c2 (t ++ 44 :: mem c3 (u ++ [125])))) (trim_cons (by decide) _) hl (listG_bad (by rw [took_of 1 q1]; rfl) ?_ (by decide))
  rw [take_not 1 q1 (by decide)]
  exact mem_deep h1 ([], []) k1 q1 hs (stop44 _)
theorem loop_bad2 {st : (List S28 × List ByteArray) → S → (List S28 × List ByteArray) × S} {n : Nat} {x : List S28 × List ByteArray} {u l : List UInt8} {o : Int} (h : Lib.trimLeftS u [32, 9, 10, 13] = 44 :: l) (hb : (st x ⟨l, o, 0⟩).2.e = 35) : (listLoop st (n + 1) x ⟨u, o, 0⟩).2.e = 35 := by
  rw [loop_more (y := (st x ⟨l, o, 0⟩).1) (b := (st x ⟨l, o, 0⟩).2) h rfl]
  exact (loop_bad st (by rw [hb]; decide) n _).trans hb
theorem tail_bad {σ : Type} {q : σ × S} {p : List UInt8} (h : q.2.e = 35) : ((q.2.need p).left).e = 35 := (need_e (by rw [h]; decide) p).trans h
theorem three_d2 {c1 c2 c3 : UInt8} (h1 : sg c1) (h2 : sg c2) {s t u rs : List UInt8} {x : S28} (hs : Fits s x rs) (ht : Deep t) (es : Lib.trimLeftS rs [32, 9, 10, 13] = []) (k1 : has [] (ofL [c1]) = false) (k2 : has (put2 ([], []) c1 x).2 (ofL [c2]) = false) (hl : (three c1 c2 c3 s t u).length ≤ 4096) :
    pv (three c1 c2 c3 s t u) = (z28, 35) := by
  have q1 := trim_mem c1 (s ++ 44 :: mem c2 (t ++ 44 :: mem c3 (u ++ [125])))
  refine obj_bad (U := mem c1 (s ++ 44 :: mem c2 (t ++ 44 :: mem c3 (u ++ [125])))) (trim_cons (by decide) _) hl ?_
  have e1 : objT (gv 16) ([], []) (S.take ⟨mem c1 (s ++ 44 :: mem c2 (t ++ 44 :: mem c3 (u ++ [125]))), 1, 0⟩ [125]) = (put2 ([], []) c1 x, ⟨rs ++ 44 :: mem c2 (t ++ 44 :: mem c3 (u ++ [125])), 1, 0⟩) := by
    rw [take_not 1 q1 (by decide)]
    exact mem_fits h1 ([], []) k1 q1 hs (stop44 _)
  rw [listG_go (by rw [took_of 1 q1]; rfl) e1]
  have e2 := mem_deep h2 (put2 ([], []) c1 x) k2 (trim_mem c2 (t ++ 44 :: mem c3 (u ++ [125]))) ht (stop44 _)
  have l2 : Lib.trimLeftS (rs ++ 44 :: mem c2 (t ++ 44 :: mem c3 (u ++ [125]))) [32, 9, 10, 13] = 44 :: mem c2 (t ++ 44 :: mem c3 (u ++ [125])) := by rw [trim_dry es, trim_cons (by decide)]
  exact tail_bad (loop_bad2 l2 e2)
theorem three_d3 {c1 c2 c3 : UInt8} (h1 : sg c1) (h2 : sg c2) (h3 : sg c3) {s t u rs rt : List UInt8} {x y : S28} (hs : Fits s x rs) (ht : Fits t y rt) (hu : Deep u) (es : Lib.trimLeftS rs [32, 9, 10, 13] = []) (et : Lib.trimLeftS rt [32, 9, 10, 13] = [])
    (k1 : has [] (ofL [c1]) = false) (k2 : has (put2 ([], []) c1 x).2 (ofL [c2]) = false) (k3 : has (put2 (put2 ([], []) c1 x) c2 y).2 (ofL [c3]) = false) (hl : (three c1 c2 c3 s t u).length ≤ 4096) :
    pv (three c1 c2 c3 s t u) = (z28, 35) := by
  have q1 := trim_mem c1 (s ++ 44 :: mem c2 (t ++ 44 :: mem c3 (u ++ [125])))
  refine obj_bad (U := mem c1 (s ++ 44 :: mem c2 (t ++ 44 :: mem c3 (u ++ [125])))) (trim_cons (by decide) _) hl ?_
  have e1 : objT (gv 16) ([], []) (S.take ⟨mem c1 (s ++ 44 :: mem c2 (t ++ 44 :: mem c3 (u ++ [125]))), 1, 0⟩ [125]) = (put2 ([], []) c1 x, ⟨rs ++ 44 :: mem c2 (t ++ 44 :: mem c3 (u ++ [125])), 1, 0⟩) := by
    rw [take_not 1 q1 (by decide)]
    exact mem_fits h1 ([], []) k1 q1 hs (stop44 _)
  rw [listG_go (by rw [took_of 1 q1]; rfl) e1]
  have e2 := mem_fits h2 (put2 ([], []) c1 x) k2 (trim_mem c2 (t ++ 44 :: mem c3 (u ++ [125]))) ht (stop44 _)
  have e3 := mem_deep h3 (put2 (put2 ([], []) c1 x) c2 y) k3 (trim_mem c3 (u ++ [125])) hu stop125
  have l2 : Lib.trimLeftS (rs ++ 44 :: mem c2 (t ++ 44 :: mem c3 (u ++ [125]))) [32, 9, 10, 13] = 44 :: mem c2 (t ++ 44 :: mem c3 (u ++ [125])) := by rw [trim_dry es, trim_cons (by decide)]
  have l3 : Lib.trimLeftS (rt ++ 44 :: mem c3 (u ++ [125])) [32, 9, 10, 13] = 44 :: mem c3 (u ++ [125]) := by rw [trim_dry et, trim_cons (by decide)]
  rw [loop_more l2 e2]
  obtain ⟨n, hn⟩ : ∃ n, (rs ++ 44 :: mem c2 (t ++ 44 :: mem c3 (u ++ [125]))).length = n + 1 := ⟨(rs ++ (mem c2 (t ++ 44 :: mem c3 (u ++ [125])))).length, by simp; omega⟩
  simp only [] at hn ⊢
  rw [hn]
  exact tail_bad (loop_bad2 l3 e3)
theorem orders {s t u : List UInt8} {x y z : S28} (hs : pv s = (x, 0)) (ht : pv t = (y, 0)) (hu : pv u = (z, 0)) (h1 : s.length ≤ 300) (h2 : t.length ≤ 300) (h3 : u.length ≤ 300) :
    pv (three 122 107 97 u s t) = pv (three 107 97 122 s t u) := by
  obtain ⟨rs, hrs⟩ := reads hs
  obtain ⟨rt, hrt⟩ := reads ht
  obtain ⟨ru, hru⟩ := reads hu
  have l1 : (three 107 97 122 s t u).length ≤ 4096 := by unfold three mem; simp; omega
  have l2 : (three 122 107 97 u s t).length ≤ 4096 := by unfold three mem; simp; omega
  have gk : sg 107 := ⟨by decide, by decide, by decide, by decide⟩
  have ga : sg 97 := ⟨by decide, by decide, by decide, by decide⟩
  have gz : sg 122 := ⟨by decide, by decide, by decide, by decide⟩
  have p1 : pos [] (ofL [107]) = 0 := by decide +kernel
  have p2 : pos [ofL [107]] (ofL [97]) = 0 := by decide +kernel
  have p3 : pos [ofL [97], ofL [107]] (ofL [122]) = 2 := by decide +kernel
  have q1 : pos [] (ofL [122]) = 0 := by decide +kernel
  have q2 : pos [ofL [122]] (ofL [107]) = 0 := by decide +kernel
  have q3 : pos [ofL [107], ofL [122]] (ofL [97]) = 0 := by decide +kernel
  have a1 : put2 ([], []) 107 x = ([x], [ofL [107]]) := by unfold put2; simp only []; rw [p1]; rfl
  have a2 : put2 ([x], [ofL [107]]) 97 y = ([y, x], [ofL [97], ofL [107]]) := by unfold put2; simp only []; rw [p2]; rfl
  have a3 : put2 ([y, x], [ofL [97], ofL [107]]) 122 z = ([y, x, z], [ofL [97], ofL [107], ofL [122]]) := by unfold put2; simp only []; rw [p3]; rfl
  have b1 : put2 ([], []) 122 z = ([z], [ofL [122]]) := by unfold put2; simp only []; rw [q1]; rfl
  have b2 : put2 ([z], [ofL [122]]) 107 x = ([x, z], [ofL [107], ofL [122]]) := by unfold put2; simp only []; rw [q2]; rfl
  have b3 : put2 ([x, z], [ofL [107], ofL [122]]) 97 y = ([y, x, z], [ofL [97], ofL [107], ofL [122]]) := by unfold put2; simp only []; rw [q3]; rfl
  have n1 : has [] (ofL [107]) = false := by decide +kernel
  have n2 : has [ofL [107]] (ofL [97]) = false := by decide +kernel
  have n3 : has [ofL [97], ofL [107]] (ofL [122]) = false := by decide +kernel
  have m1 : has [] (ofL [122]) = false := by decide +kernel
  have m2 : has [ofL [122]] (ofL [107]) = false := by decide +kernel
  have m3 : has [ofL [107], ofL [122]] (ofL [97]) = false := by decide +kernel
  have ds := hrs.dry
  have dt := hrt.dry
  have du := hru.dry
  rcases item' hrs with fs | fs <;> rcases item' hrt with ft | ft <;> rcases item' hru with fu | fu
  · rw [three_ok gz gk ga fu fs ft du ds dt m1 (by rw [b1]; exact m2) (by rw [b1, b2]; exact m3) l2, three_ok gk ga gz fs ft fu ds dt du n1 (by rw [a1]; exact n2) (by rw [a1, a2]; exact n3) l1, a1, a2, a3, b1, b2, b3]
  · rw [three_d1 gz fu m1 l2, three_d3 gk ga gz fs ft fu ds dt n1 (by rw [a1]; exact n2) (by rw [a1, a2]; exact n3) l1]
  · rw [three_d3 gz gk ga fu fs ft du ds m1 (by rw [b1]; exact m2) (by rw [b1, b2]; exact m3) l2, three_d2 gk ga fs ft ds n1 (by rw [a1]; exact n2) l1]
  · rw [three_d1 gz fu m1 l2, three_d2 gk ga fs ft ds n1 (by rw [a1]; exact n2) l1]
  · rw [three_d2 gz gk fu fs du m1 (by rw [b1]; exact m2) l2, three_d1 gk fs n1 l1]
  · rw [three_d1 gz fu m1 l2, three_d1 gk fs n1 l1]
  · rw [three_d2 gz gk fu fs du m1 (by rw [b1]; exact m2) l2, three_d1 gk fs n1 l1]
  · rw [three_d1 gz fu m1 l2, three_d1 gk fs n1 l1]
end Js
end Go.Proofs.YtapcpndplnkfjaaGreatDoor
