/- What the law rests on, part 4: joined by a program of this session (claimx.py). -/
import Derived.Test.YtapcpndplnkfjaaGreatDoorJsonParsesC
set_option linter.unusedVariables false
set_option linter.unusedSimpArgs false
namespace Go.Proofs.YtapcpndplnkfjaaGreatDoor
open Go.RowKit Go.Proofs.YtapcpndplnkfjaaGreatDoorW.PrintWords Go.Proofs.YtapcpndplnkfjaaGreatDoorW.PrintLast Go.Proofs.YtapcpndplnkfjaaGreatDoorW.PrintMore
attribute [local go_sem] max2_int min2_int max_two min_two max_three min_three max_four min_four
mutual
def R4Grammar.j0 : Nat → ByteArray → Int → Bool → Option (Bool × Int × Int)
 | 0, _, _, _ => none
 | k + 1, x0, x5, x17 => if x17 = true then (R4Grammar.j1 k x0 (wrap64 (x5 + 1))) else (R4Grammar.j1 k x0 x5)
def R4Grammar.j1 : Nat → ByteArray → Int → Option (Bool × Int × Int)
 | 0, _, _ => none
 | k + 1, x0, x5 => (R4digit.f x0 x5).bind fun t196 => (if t196 = true then (if 0 ≤ x5 then (if x5 < (x0.size : Int) then (if (bt x0 x5) = 48 then ((R4digit.f x0 (wrap64 (x5 + 1))).bind fun t197 => (R4Grammar.j2 k x0 x5 t197)) else (R4Grammar.j2 k x0 x5 false)) else (none)) else (none)) else (R4Grammar.j2 k x0 x5 true))
def R4Grammar.j2 : Nat → ByteArray → Int → Bool → Option (Bool × Int × Int)
 | 0, _, _, _ => none
 | k + 1, x0, x5, x35 => if x35 = true then (some (false, 0, 0)) else (R4Grammar.l0 k x0 x5)
def R4Grammar.l0 : Nat → ByteArray → Int → Option (Bool × Int × Int)
 | 0, _, _ => none
 | k + 1, x0, x5 => (R4digit.f x0 x5).bind fun t198 => (if t198 = true then (R4Grammar.l0 k x0 (wrap64 (x5 + 1))) else (if x5 < (x0.size : Int) then (if 0 ≤ x5 then (R4Grammar.j4 k x0 x5 x5 ((bt x0 x5) == 46)) else (none)) else (R4Grammar.j4 k x0 x5 x5 false)))
def R4Grammar.j4 : Nat → ByteArray → Int → Int → Bool → Option (Bool × Int × Int)
 | 0, _, _, _, _ => none
 | k + 1, x0, x5, x6, x51 => if x51 = true then ((R4digit.f x0 (wrap64 (x5 + 1))).bind fun t199 => (if t199 = true then (R4Grammar.l1 k x0 (wrap64 (x5 + 1)) x6) else (some (false, 0, 0)))) else (R4Grammar.j6 k x0 x5 x6)
def R4Grammar.j6 : Nat → ByteArray → Int → Int → Option (Bool × Int × Int)
 | 0, _, _, _ => none
 | k + 1, x0, x5, x6 => if x5 < (x0.size : Int) then (if 0 ≤ x5 then (if (bt x0 x5) = 101 then (R4Grammar.j7 k x0 x5 x6 x5 true) else (R4Grammar.j7 k x0 x5 x6 x5 ((bt x0 x5) == 69))) else (none)) else (R4Grammar.j7 k x0 x5 x6 x5 false)
def R4Grammar.j7 : Nat → ByteArray → Int → Int → Int → Bool → Option (Bool × Int × Int)
 | 0, _, _, _, _, _ => none
 | k + 1, x0, x5, x6, x7, x79 => if x79 = true then (if (wrap64 (x5 + 1)) < (x0.size : Int) then (if 0 ≤ (wrap64 (x5 + 1)) then (if (bt x0 (wrap64 (x5 + 1))) = 43 then (R4Grammar.j8 k x0 (wrap64 (x5 + 1)) x6 x7 true) else (R4Grammar.j8 k x0 (wrap64 (x5 + 1)) x6 x7 ((bt x0 (wrap64 (x5 + 1))) == 45))) else (none)) else (R4Grammar.j8 k x0 (wrap64 (x5 + 1)) x6 x7 false)) else (some ((x5 == (x0.size : Int)), x6, x7))
def R4Grammar.j8 : Nat → ByteArray → Int → Int → Int → Bool → Option (Bool × Int × Int)
 | 0, _, _, _, _, _ => none
 | k + 1, x0, x5, x6, x7, x97 => if x97 = true then (R4Grammar.j9 k x0 (wrap64 (x5 + 1)) x6 x7) else (R4Grammar.j9 k x0 x5 x6 x7)
def R4Grammar.j9 : Nat → ByteArray → Int → Int → Int → Option (Bool × Int × Int)
 | 0, _, _, _, _ => none
 | k + 1, x0, x5, x6, x7 => (R4digit.f x0 x5).bind fun t201 => (if t201 = true then (R4Grammar.l2 k x0 x5 x6 x7) else (some (false, 0, 0)))
def R4Grammar.l2 : Nat → ByteArray → Int → Int → Int → Option (Bool × Int × Int)
 | 0, _, _, _, _ => none
 | k + 1, x0, x5, x6, x7 => (R4digit.f x0 x5).bind fun t202 => (if t202 = true then (R4Grammar.l2 k x0 (wrap64 (x5 + 1)) x6 x7) else (some ((x5 == (x0.size : Int)), x6, x7)))
def R4Grammar.l1 : Nat → ByteArray → Int → Int → Option (Bool × Int × Int)
 | 0, _, _, _ => none
 | k + 1, x0, x5, x6 => (R4digit.f x0 x5).bind fun t200 => (if t200 = true then (R4Grammar.l1 k x0 (wrap64 (x5 + 1)) x6) else (R4Grammar.j6 k x0 x5 x6))
end
def R4Grammar.f (k : Nat) (a0 : ByteArray) : Option (Bool × Int × Int) := if 0 < (a0.size : Int) then (R4Grammar.j0 k a0 0 ((bt a0 0) == 45)) else (R4Grammar.j0 k a0 0 false)
set_option maxHeartbeats 8000000 in
set_option maxRecDepth 100000 in
theorem R4Grammar.calls (k : Nat) (a0 : ByteArray) (r1 : Bool) (r2 : Int) (r3 : Int) (w : World) (h : R4Grammar.f k a0 = some (r1, r2, r3)) :
    Calls Tryz.prog 140 #[.string a0] w fun e w' => e = .returned (.tuple #[.bool r1, .int .i64 r2, .int .i64 r3]) ∧ Drawn0 w w' := by
 have H : (if 0 < (a0.size : Int) then (R4Grammar.j0 k a0 0 ((bt a0 0) == 45)) else (R4Grammar.j0 k a0 0 false)) = some (r1, r2, r3) := h
 clear h
 have HC2 := Aside0.mk H
 clear H
 go_enter Tryz.func140, Tryz.ntmps140
 go_upto_region 2 with (fail)
 go_cut [17] (fun v17 wc => ∃ (kq : Nat) (x17_1 : Bool), v17 = .bool x17_1 ∧ Aside0 (R4Grammar.j0 kq a0 0 x17_1 = some (r1, r2, r3)) ∧ Aside0 (kq ≤ k) ∧ Drawn0 w wc)
 case first =>
  have H := HC2.out
  clear HC2
  by_cases c3 : 0 < (a0.size : Int)
  · rw [if_pos c3] at H
    have c3b0 : decide (0 < (a0.size : Int)) = true := decide_eq_true c3
    have c3b1 : decide (0 < a0.size) = true := decide_eq_true (by omega)
    clear c3
    (skip)
    have H' := Aside0.mk H
    clear H
    have p4 : 0 ≤ (0 : Int) := (by omega)
    have q4 : 0 < a0.size := (by have : (0 : Int) < (a0.size : Int) := of_decide_eq_true (by (with_reducible assumption)); omega)
    have hx4 : ∀ h : 0 < a0.size, ((a0[0]'h).toNat : Int) = bt a0 0 := bt_at a0 0
    clear p4
    have qi4 : (0 < (a0.size : Int)) = True := eq_true (of_decide_eq_true (by (with_reducible assumption)))
    replace q4 := eq_true q4
    go_wp2
    go_meet
    case rel => exact ⟨_, (((bt a0 0) == 45)), (by (rfl)), (by (exact H')), ⟨by (omega)⟩, by repeat (exact Drawn0.refl _)⟩
  rw [if_neg c3] at H
  have c3b0 : decide (0 < (a0.size : Int)) = false := decide_eq_false c3
  have c3b1 : decide (0 < a0.size) = false := decide_eq_false (by omega)
  clear c3
  (skip)
  have H' := Aside0.mk H
  clear H
  go_wp2
  go_meet
  case rel => exact ⟨_, (false), (by (rfl)), (by (exact H')), ⟨by (omega)⟩, by repeat (exact Drawn0.refl _)⟩
 case rest =>
  clear HC2
  obtain ⟨kq, x17_1, rfl, HA, HJ1, ⟨mc1, rfl⟩⟩ := hcut
  cases kq with
  | zero => exact absurd HA.out (by simp [R4Grammar.j0])
  | succ kj1 =>
   have H := HA.out
   clear HA
   simp only [R4Grammar.j0] at H
   have HC5 := Aside0.mk H
   clear H
   go_upto_if 17 with (fail)
   go_cut [5] (fun v5 wc => ∃ (kq : Nat) (x5_4 : Int), v5 = .int .i64 x5_4 ∧ Aside0 (R4Grammar.j1 kq a0 x5_4 = some (r1, r2, r3)) ∧ Aside0 (kq ≤ kj1) ∧ Drawn0 w wc)
   case first =>
    have H := HC5.out
    clear HC5
    by_cases c6 : x17_1 = true
    · subst c6
      have H1 : (R4Grammar.j1 kj1 a0 (wrap64 (0 + 1))) = some (r1, r2, r3) := by rw [if_pos rfl] at H; exact H
      clear H
      have H := H1
      clear H1
      have H' := Aside0.mk H
      clear H
      go_wp2
      go_meet
      case rel => exact ⟨_, (wrap64 (0 + 1)), (by (simp [wrap64]; done)), (by (exact H')), ⟨by have := HJ1.out; (omega)⟩, by repeat (first | exact Drawn0.refl _ | apply Drawn0.step)⟩
    replace c6 := Bool.eq_false_iff.mpr c6
    subst c6
    have H1 : (R4Grammar.j1 kj1 a0 0) = some (r1, r2, r3) := by rw [if_neg (show ¬ (false = true) by decide)] at H; exact H
    clear H
    have H := H1
    clear H1
    have H' := Aside0.mk H
    clear H
    go_wp2
    go_meet
    case rel => exact ⟨_, (0), (by (rfl)), (by (exact H')), ⟨by have := HJ1.out; (omega)⟩, by repeat (first | exact Drawn0.refl _ | apply Drawn0.step)⟩
   case rest =>
    clear HC5
    obtain ⟨kq, x5_4, rfl, HA, HJ4, ⟨mc4, rfl⟩⟩ := hcut
    cases kq with
    | zero => exact absurd HA.out (by simp [R4Grammar.j1])
    | succ kj4 =>
     have H := HA.out
     clear HA
     simp only [R4Grammar.j1] at H
     have HC7 := Aside0.mk H
     clear H
     go_upto_region 4 with (fail)
     go_cut [35] (fun v35 wc => ∃ (kq : Nat) (x35_6 : Bool), v35 = .bool x35_6 ∧ Aside0 (R4Grammar.j2 kq a0 x5_4 x35_6 = some (r1, r2, r3)) ∧ Aside0 (kq ≤ kj4) ∧ Drawn0 w wc)
     case first =>
      have H := HC7.out
      clear HC7
      replace H := Option.bind_eq_some_iff.mp H
      obtain ⟨t196, A80, H⟩ := H
      replace H : (if t196 = true then (if 0 ≤ x5_4 then (if x5_4 < (a0.size : Int) then (if (bt a0 x5_4) = 48 then ((R4digit.f a0 (wrap64 (x5_4 + 1))).bind fun t197 => (R4Grammar.j2 kj4 a0 x5_4 t197)) else (R4Grammar.j2 kj4 a0 x5_4 false)) else (none)) else (none)) else (R4Grammar.j2 kj4 a0 x5_4 true)) = some (r1, r2, r3) := H
      have A8 := Aside0.mk A80
      clear A80
      by_cases c9 : t196 = true
      · subst c9
        have H1 : (if 0 ≤ x5_4 then (if x5_4 < (a0.size : Int) then (if (bt a0 x5_4) = 48 then ((R4digit.f a0 (wrap64 (x5_4 + 1))).bind fun t197 => (R4Grammar.j2 kj4 a0 x5_4 t197)) else (R4Grammar.j2 kj4 a0 x5_4 false)) else (none)) else (none)) = some (r1, r2, r3) := by rw [if_pos rfl] at H; exact H
        clear H
        have H := H1
        clear H1
        by_cases c10 : 0 ≤ x5_4
        · rw [if_pos c10] at H
          have c10b0 : decide (0 ≤ x5_4) = true := decide_eq_true c10
          clear c10
          (skip)
          by_cases c11 : x5_4 < (a0.size : Int)
          · rw [if_pos c11] at H
            have c11b0 : decide (x5_4 < (a0.size : Int)) = true := decide_eq_true c11
            clear c11
            by_cases c13 : (bt a0 x5_4) = 48
            · rw [if_pos c13] at H
              have c13b0 : ((bt a0 x5_4) == 48) = true := beq_iff_eq.mpr c13
              have c13b1 : ((bt a0 x5_4) != 48) = false := bne_eq_false_iff_eq.mpr c13
              clear c13
              replace H := Option.bind_eq_some_iff.mp H
              obtain ⟨t197, A140, H⟩ := H
              replace H : (R4Grammar.j2 kj4 a0 x5_4 t197) = some (r1, r2, r3) := H
              have A14 := Aside0.mk A140
              clear A140
              have H' := Aside0.mk H
              clear H
              go_wp2_with (first | ((with_reducible refine gate_callee (f := 155) rfl ?_); refine goesL_ (some 22) rfl rfl Tryz.func155 (by kernel_rfl) rfl #[.string a0, .int .i64 x5_4] rfl (by (try simp only [List.map_toArray, List.map_cons, List.map_nil]); (rfl)) ?_; (with_reducible refine (R4digit.calls a0 x5_4 true _ A8.out).mono ?_); rintro e w' ⟨rfl, ⟨nd, rfl⟩⟩; refine ⟨_, rfl, ?_⟩; have p12 : 0 ≤ (x5_4 : Int) := of_decide_eq_true (by (with_reducible assumption)); have q12 : x5_4 < (a0.size : Int) := of_decide_eq_true (by (with_reducible assumption)); have hx12 := bt_at a0 x5_4; replace p12 := eq_true p12; replace q12 := eq_true q12) | (go_at_call 155; (with_reducible refine (R4digit.calls a0 (wrap64 (x5_4 + 1)) t197 _ A14.out).mono ?_); rintro e w' ⟨rfl, ⟨nd, rfl⟩⟩))
              go_meet
              case rel => exact ⟨_, (t197), (by (rfl)), (by (exact H')), ⟨by have := HJ1.out; have := HJ4.out; (omega)⟩, by repeat (first | exact Drawn0.refl _ | apply Drawn0.step)⟩
            rw [if_neg c13] at H
            have c13b0 : ((bt a0 x5_4) == 48) = false := beq_eq_false_iff_ne.mpr c13
            have c13b1 : ((bt a0 x5_4) != 48) = true := bne_iff_ne.mpr c13
            have H' := Aside0.mk H
            clear H
            go_wp2_with (((with_reducible refine gate_callee (f := 155) rfl ?_); refine goesL_ (some 22) rfl rfl Tryz.func155 (by kernel_rfl) rfl #[.string a0, .int .i64 x5_4] rfl (by (try simp only [List.map_toArray, List.map_cons, List.map_nil]); (rfl)) ?_; (with_reducible refine (R4digit.calls a0 x5_4 true _ A8.out).mono ?_); rintro e w' ⟨rfl, ⟨nd, rfl⟩⟩; refine ⟨_, rfl, ?_⟩; have p12 : 0 ≤ (x5_4 : Int) := of_decide_eq_true (by (with_reducible assumption)); have q12 : x5_4 < (a0.size : Int) := of_decide_eq_true (by (with_reducible assumption)); have hx12 := bt_at a0 x5_4; replace p12 := eq_true p12; replace q12 := eq_true q12))
            go_meet
            case rel => exact ⟨_, (false), (by (rfl)), (by (exact H')), ⟨by have := HJ1.out; have := HJ4.out; (omega)⟩, by repeat (first | exact Drawn0.refl _ | apply Drawn0.step)⟩
          rw [if_neg c11] at H
          exact absurd H (by simp)
        rw [if_neg c10] at H
        exact absurd H (by simp)
      replace c9 := Bool.eq_false_iff.mpr c9
      subst c9
      have H1 : (R4Grammar.j2 kj4 a0 x5_4 true) = some (r1, r2, r3) := by rw [if_neg (show ¬ (false = true) by decide)] at H; exact H
      clear H
      have H := H1
      clear H1
      have H' := Aside0.mk H
      clear H
      go_wp2_with (((with_reducible refine gate_callee (f := 155) rfl ?_); refine goesL_ (some 22) rfl rfl Tryz.func155 (by kernel_rfl) rfl #[.string a0, .int .i64 x5_4] rfl (by (try simp only [List.map_toArray, List.map_cons, List.map_nil]); (rfl)) ?_; (with_reducible refine (R4digit.calls a0 x5_4 false _ A8.out).mono ?_); rintro e w' ⟨rfl, ⟨nd, rfl⟩⟩; refine ⟨_, rfl, ?_⟩))
      go_meet
      case rel => exact ⟨_, (true), (by (rfl)), (by (exact H')), ⟨by have := HJ1.out; have := HJ4.out; (omega)⟩, by repeat (first | exact Drawn0.refl _ | apply Drawn0.step)⟩
     case rest =>
      clear HC7
      obtain ⟨kq, x35_6, rfl, HA, HJ6, ⟨mc6, rfl⟩⟩ := hcut
      cases kq with
      | zero => exact absurd HA.out (by simp [R4Grammar.j2])
      | succ kj6 =>
       have H := HA.out
       clear HA
       simp only [R4Grammar.j2] at H
       by_cases c15 : x35_6 = true
       · subst c15
         have H1 : (some (false, 0, 0)) = some (r1, r2, r3) := by rw [if_pos rfl] at H; exact H
         clear H
         have H := H1
         clear H1
         simp only [Option.some.injEq, Prod.mk.injEq] at H
         obtain ⟨rfl, rfl, rfl⟩ := H
         go_wp2
         go_ret3
         try simp only [beq_nil_isEmpty, bytesLess_gtr]
         exact ⟨by (rfl), by repeat (first | exact Drawn0.refl _ | apply Drawn0.step)⟩
       replace c15 := Bool.eq_false_iff.mpr c15
       subst c15
       have H1 : (R4Grammar.l0 kj6 a0 x5_4) = some (r1, r2, r3) := by rw [if_neg (show ¬ (false = true) by decide)] at H; exact H
       clear H
       have H := H1
       clear H1
       have H' := Aside0.mk H
       clear H
       go_wp2
       go_loopg [5] kj6 (fun kq v5 w' => ∃ (x5_4 : Int), v5 = .int .i64 x5_4 ∧ Aside0 (R4Grammar.l0 kq a0 x5_4 = some (r1, r2, r3)) ∧ Aside0 (kq ≤ kj6) ∧ Drawn0 w w')
       case atStart => exact ⟨(x5_4), (by (rfl)), H', ⟨Nat.le_refl _⟩, by repeat (first | exact Drawn0.refl _ | apply Drawn0.step)⟩
       case round =>
        clear H'
        obtain ⟨x5_4, rfl, HA, HK4, ⟨m4, rfl⟩⟩ := hrel
        cases gk with
        | zero => exact absurd HA.out (by simp [R4Grammar.l0])
        | succ k4 =>
         have H := HA.out
         clear HA
         simp only [R4Grammar.l0] at H
         replace H := Option.bind_eq_some_iff.mp H
         obtain ⟨t198, A160, H⟩ := H
         replace H : (if t198 = true then (R4Grammar.l0 k4 a0 (wrap64 (x5_4 + 1))) else (if x5_4 < (a0.size : Int) then (if 0 ≤ x5_4 then (R4Grammar.j4 k4 a0 x5_4 x5_4 ((bt a0 x5_4) == 46)) else (none)) else (R4Grammar.j4 k4 a0 x5_4 x5_4 false))) = some (r1, r2, r3) := H
         have A16 := Aside0.mk A160
         clear A160
         by_cases c17 : t198 = true
         · subst c17
           have H1 : (R4Grammar.l0 k4 a0 (wrap64 (x5_4 + 1))) = some (r1, r2, r3) := by rw [if_pos rfl] at H; exact H
           clear H
           have H := H1
           clear H1
           have H' := Aside0.mk H
           clear H
           go_wp2_with (((with_reducible refine gate_callee (f := 155) rfl ?_); refine goesL_ (some 38) rfl rfl Tryz.func155 (by kernel_rfl) rfl #[.string a0, .int .i64 x5_4] rfl (by (try simp only [List.map_toArray, List.map_cons, List.map_nil]); (rfl)) ?_; (with_reducible refine (R4digit.calls a0 x5_4 true _ A16.out).mono ?_); rintro e w' ⟨rfl, ⟨nd, rfl⟩⟩; refine ⟨_, rfl, ?_⟩))
           go_roundg k4
           case measure => have := HJ1.out; have := HJ4.out; have := HJ6.out; have := HK4.out; omega
           case rel => exact ⟨(wrap64 (x5_4 + 1)), (by (rfl)), (by (exact H')), ⟨by have := HJ1.out; have := HJ4.out; have := HJ6.out; have := HK4.out; omega⟩, by repeat (first | exact Drawn0.refl _ | apply Drawn0.step)⟩
         replace c17 := Bool.eq_false_iff.mpr c17
         subst c17
         have H1 : (if x5_4 < (a0.size : Int) then (if 0 ≤ x5_4 then (R4Grammar.j4 k4 a0 x5_4 x5_4 ((bt a0 x5_4) == 46)) else (none)) else (R4Grammar.j4 k4 a0 x5_4 x5_4 false)) = some (r1, r2, r3) := by rw [if_neg (show ¬ (false = true) by decide)] at H; exact H
         clear H
         have H := H1
         clear H1
         have HC18 := Aside0.mk H
         clear H
         go_upto_region 9 with (((with_reducible refine gate_callee (f := 155) rfl ?_); refine goesL_ (some 38) rfl rfl Tryz.func155 (by kernel_rfl) rfl #[.string a0, .int .i64 x5_4] rfl (by (try simp only [List.map_toArray, List.map_cons, List.map_nil]); (rfl)) ?_; (with_reducible refine (R4digit.calls a0 x5_4 false _ A16.out).mono ?_); rintro e w' ⟨rfl, ⟨nd, rfl⟩⟩; refine ⟨_, rfl, ?_⟩))
         (skip)
         go_cut [51] (fun v51 wc => ∃ (kq : Nat) (x51_17 : Bool), v51 = .bool x51_17 ∧ Aside0 (R4Grammar.j4 kq a0 x5_4 x5_4 x51_17 = some (r1, r2, r3)) ∧ Aside0 (kq ≤ k4) ∧ Drawn0 w wc)
         case first =>
          have H := HC18.out
          clear HC18
          by_cases c19 : x5_4 < (a0.size : Int)
          · rw [if_pos c19] at H
            have c19b0 : decide (x5_4 < (a0.size : Int)) = true := decide_eq_true c19
            clear c19
            (skip)
            by_cases c20 : 0 ≤ x5_4
            · rw [if_pos c20] at H
              have c20b0 : decide (0 ≤ x5_4) = true := decide_eq_true c20
              clear c20
              have H' := Aside0.mk H
              clear H
              have p21 : 0 ≤ (x5_4 : Int) := of_decide_eq_true (by (with_reducible assumption))
              have q21 : x5_4 < (a0.size : Int) := of_decide_eq_true (by (with_reducible assumption))
              have hx21 := bt_at a0 x5_4
              replace p21 := eq_true p21
              replace q21 := eq_true q21
              go_wp2
              go_meet
              case rel => exact ⟨_, (((bt a0 x5_4) == 46)), (by (rfl)), (by (exact H')), ⟨by have := HJ1.out; have := HJ4.out; have := HJ6.out; have := HK4.out; (omega)⟩, by repeat (first | exact Drawn0.refl _ | apply Drawn0.step)⟩
            rw [if_neg c20] at H
            exact absurd H (by simp)
          rw [if_neg c19] at H
          have c19b0 : decide (x5_4 < (a0.size : Int)) = false := decide_eq_false c19
          clear c19
          (skip)
          have H' := Aside0.mk H
          clear H
          go_wp2
          go_meet
          case rel => exact ⟨_, (false), (by (rfl)), (by (exact H')), ⟨by have := HJ1.out; have := HJ4.out; have := HJ6.out; have := HK4.out; (omega)⟩, by repeat (first | exact Drawn0.refl _ | apply Drawn0.step)⟩
         case rest =>
          clear HC18
          obtain ⟨kq, x51_17, rfl, HA, HJ17, ⟨mc17, rfl⟩⟩ := hcut
          cases kq with
          | zero => exact absurd HA.out (by simp [R4Grammar.j4])
          | succ kj17 =>
           have H := HA.out
           clear HA
           simp only [R4Grammar.j4] at H
           have HC22 := Aside0.mk H
           clear H
           go_upto_if 51 with (fail)
           go_cut [5] (fun v5 wc => ∃ (kq : Nat) (x5_21 : Int), v5 = .int .i64 x5_21 ∧ Aside0 (R4Grammar.j6 kq a0 x5_21 x5_4 = some (r1, r2, r3)) ∧ Aside0 (kq ≤ kj17) ∧ Drawn0 w wc)
           case first =>
            have H := HC22.out
            clear HC22
            by_cases c23 : x51_17 = true
            · subst c23
              have H1 : ((R4digit.f a0 (wrap64 (x5_4 + 1))).bind fun t199 => (if t199 = true then (R4Grammar.l1 kj17 a0 (wrap64 (x5_4 + 1)) x5_4) else (some (false, 0, 0)))) = some (r1, r2, r3) := by rw [if_pos rfl] at H; exact H
              clear H
              have H := H1
              clear H1
              replace H := Option.bind_eq_some_iff.mp H
              obtain ⟨t199, A240, H⟩ := H
              replace H : (if t199 = true then (R4Grammar.l1 kj17 a0 (wrap64 (x5_4 + 1)) x5_4) else (some (false, 0, 0))) = some (r1, r2, r3) := H
              have A24 := Aside0.mk A240
              clear A240
              by_cases c25 : t199 = true
              · subst c25
                have H1 : (R4Grammar.l1 kj17 a0 (wrap64 (x5_4 + 1)) x5_4) = some (r1, r2, r3) := by rw [if_pos rfl] at H; exact H
                clear H
                have H := H1
                clear H1
                have H' := Aside0.mk H
                clear H
                go_wp2_with (((with_reducible refine gate_callee (f := 155) rfl ?_); refine goesL_ (some 56) rfl rfl Tryz.func155 (by kernel_rfl) rfl #[.string a0, .int .i64 (wrap64 (x5_4 + 1))] rfl (by (try simp only [List.map_toArray, List.map_cons, List.map_nil]); (rfl)) ?_; (with_reducible refine (R4digit.calls a0 (wrap64 (x5_4 + 1)) true _ A24.out).mono ?_); rintro e w' ⟨rfl, ⟨nd, rfl⟩⟩; refine ⟨_, rfl, ?_⟩))
                go_loopg [5] kj17 (fun kq v5 w' => ∃ (x5_6 : Int), v5 = .int .i64 x5_6 ∧ Aside0 (R4Grammar.l1 kq a0 x5_6 x5_4 = some (r1, r2, r3)) ∧ Aside0 (kq ≤ kj17) ∧ Drawn0 w w')
                case atStart => exact ⟨(wrap64 (x5_4 + 1)), (by (rfl)), H', ⟨Nat.le_refl _⟩, by repeat (first | exact Drawn0.refl _ | apply Drawn0.step)⟩
                case round =>
                 clear H'
                 obtain ⟨x5_6, rfl, HA, HK6, ⟨m6, rfl⟩⟩ := hrel
                 cases gk with
                 | zero => exact absurd HA.out (by simp [R4Grammar.l1])
                 | succ k6 =>
                  have H := HA.out
                  clear HA
                  simp only [R4Grammar.l1] at H
                  replace H := Option.bind_eq_some_iff.mp H
                  obtain ⟨t200, A260, H⟩ := H
                  replace H : (if t200 = true then (R4Grammar.l1 k6 a0 (wrap64 (x5_6 + 1)) x5_4) else (R4Grammar.j6 k6 a0 x5_6 x5_4)) = some (r1, r2, r3) := H
                  have A26 := Aside0.mk A260
                  clear A260
                  by_cases c27 : t200 = true
                  · subst c27
                    have H1 : (R4Grammar.l1 k6 a0 (wrap64 (x5_6 + 1)) x5_4) = some (r1, r2, r3) := by rw [if_pos rfl] at H; exact H
                    clear H
                    have H := H1
                    clear H1
                    have H' := Aside0.mk H
                    clear H
                    go_wp2_with (((with_reducible refine gate_callee (f := 155) rfl ?_); refine goesL_ (some 60) rfl rfl Tryz.func155 (by kernel_rfl) rfl #[.string a0, .int .i64 x5_6] rfl (by (try simp only [List.map_toArray, List.map_cons, List.map_nil]); (rfl)) ?_; (with_reducible refine (R4digit.calls a0 x5_6 true _ A26.out).mono ?_); rintro e w' ⟨rfl, ⟨nd, rfl⟩⟩; refine ⟨_, rfl, ?_⟩))
                    go_roundg k6
                    case measure => have := HJ1.out; have := HJ4.out; have := HJ6.out; have := HK4.out; have := HJ17.out; have := HK6.out; omega
                    case rel => exact ⟨(wrap64 (x5_6 + 1)), (by (rfl)), (by (exact H')), ⟨by have := HJ1.out; have := HJ4.out; have := HJ6.out; have := HK4.out; have := HJ17.out; have := HK6.out; omega⟩, by repeat (first | exact Drawn0.refl _ | apply Drawn0.step)⟩
                  replace c27 := Bool.eq_false_iff.mpr c27
                  subst c27
                  have H1 : (R4Grammar.j6 k6 a0 x5_6 x5_4) = some (r1, r2, r3) := by rw [if_neg (show ¬ (false = true) by decide)] at H; exact H
                  clear H
                  have H := H1
                  clear H1
                  have H' := Aside0.mk H
                  clear H
                  go_wp2_with (((with_reducible refine gate_callee (f := 155) rfl ?_); refine goesL_ (some 60) rfl rfl Tryz.func155 (by kernel_rfl) rfl #[.string a0, .int .i64 x5_6] rfl (by (try simp only [List.map_toArray, List.map_cons, List.map_nil]); (rfl)) ?_; (with_reducible refine (R4digit.calls a0 x5_6 false _ A26.out).mono ?_); rintro e w' ⟨rfl, ⟨nd, rfl⟩⟩; refine ⟨_, rfl, ?_⟩))
                  go_meet
                  case rel => exact ⟨_, (x5_6), (by (rfl)), (by (exact H')), ⟨by have := HJ1.out; have := HJ4.out; have := HJ6.out; have := HK4.out; have := HJ17.out; have := HK6.out; (omega)⟩, by repeat (first | exact Drawn0.refl _ | apply Drawn0.step)⟩
              replace c25 := Bool.eq_false_iff.mpr c25
              subst c25
              have H1 : (some (false, 0, 0)) = some (r1, r2, r3) := by rw [if_neg (show ¬ (false = true) by decide)] at H; exact H
              clear H
              have H := H1
              clear H1
              simp only [Option.some.injEq, Prod.mk.injEq] at H
              obtain ⟨rfl, rfl, rfl⟩ := H
              go_wp2_with (((with_reducible refine gate_callee (f := 155) rfl ?_); refine goesL_ (some 56) rfl rfl Tryz.func155 (by kernel_rfl) rfl #[.string a0, .int .i64 (wrap64 (x5_4 + 1))] rfl (by (try simp only [List.map_toArray, List.map_cons, List.map_nil]); (rfl)) ?_; (with_reducible refine (R4digit.calls a0 (wrap64 (x5_4 + 1)) false _ A24.out).mono ?_); rintro e w' ⟨rfl, ⟨nd, rfl⟩⟩; refine ⟨_, rfl, ?_⟩))
              go_ret3
              try simp only [beq_nil_isEmpty, bytesLess_gtr]
              exact ⟨by (rfl), by repeat (first | exact Drawn0.refl _ | apply Drawn0.step)⟩
            replace c23 := Bool.eq_false_iff.mpr c23
            subst c23
            have H1 : (R4Grammar.j6 kj17 a0 x5_4 x5_4) = some (r1, r2, r3) := by rw [if_neg (show ¬ (false = true) by decide)] at H; exact H
            clear H
            have H := H1
            clear H1
            have H' := Aside0.mk H
            clear H
            go_wp2
            go_meet
            case rel => exact ⟨_, (x5_4), (by (rfl)), (by (exact H')), ⟨by have := HJ1.out; have := HJ4.out; have := HJ6.out; have := HK4.out; have := HJ17.out; (omega)⟩, by repeat (first | exact Drawn0.refl _ | apply Drawn0.step)⟩
           case rest =>
            clear HC22
            obtain ⟨kq, x5_21, rfl, HA, HJ21, ⟨mc21, rfl⟩⟩ := hcut
            cases kq with
            | zero => exact absurd HA.out (by simp [R4Grammar.j6])
            | succ kj21 =>
             have H := HA.out
             clear HA
             simp only [R4Grammar.j6] at H
             have HC28 := Aside0.mk H
             clear H
             go_upto_region 16 with (fail)
             go_cut [79] (fun v79 wc => ∃ (kq : Nat) (x79_27 : Bool), v79 = .bool x79_27 ∧ Aside0 (R4Grammar.j7 kq a0 x5_21 x5_4 x5_21 x79_27 = some (r1, r2, r3)) ∧ Aside0 (kq ≤ kj21) ∧ Drawn0 w wc)
             case first =>
              have H := HC28.out
              clear HC28
              by_cases c29 : x5_21 < (a0.size : Int)
              · rw [if_pos c29] at H
                have c29b0 : decide (x5_21 < (a0.size : Int)) = true := decide_eq_true c29
                clear c29
                (skip)
                by_cases c30 : 0 ≤ x5_21
                · rw [if_pos c30] at H
                  have c30b0 : decide (0 ≤ x5_21) = true := decide_eq_true c30
                  clear c30
                  by_cases c32 : (bt a0 x5_21) = 101
                  · rw [if_pos c32] at H
                    have c32b0 : ((bt a0 x5_21) == 101) = true := beq_iff_eq.mpr c32
                    have c32b1 : ((bt a0 x5_21) != 101) = false := bne_eq_false_iff_eq.mpr c32
                    clear c32
                    have H' := Aside0.mk H
                    clear H
                    have p31 : 0 ≤ (x5_21 : Int) := of_decide_eq_true (by (with_reducible assumption))
                    have q31 : x5_21 < (a0.size : Int) := of_decide_eq_true (by (with_reducible assumption))
                    have hx31 := bt_at a0 x5_21
                    replace p31 := eq_true p31
                    replace q31 := eq_true q31
                    go_wp2
                    go_meet
                    case rel => exact ⟨_, (true), (by (rfl)), (by (exact H')), ⟨by have := HJ1.out; have := HJ4.out; have := HJ6.out; have := HK4.out; have := HJ17.out; have := HJ21.out; (omega)⟩, by repeat (first | exact Drawn0.refl _ | apply Drawn0.step)⟩
                  rw [if_neg c32] at H
                  have c32b0 : ((bt a0 x5_21) == 101) = false := beq_eq_false_iff_ne.mpr c32
                  have c32b1 : ((bt a0 x5_21) != 101) = true := bne_iff_ne.mpr c32
                  have H' := Aside0.mk H
                  clear H
                  have p31 : 0 ≤ (x5_21 : Int) := of_decide_eq_true (by (with_reducible assumption))
                  have q31 : x5_21 < (a0.size : Int) := of_decide_eq_true (by (with_reducible assumption))
                  have hx31 := bt_at a0 x5_21
                  replace p31 := eq_true p31
                  replace q31 := eq_true q31
                  have p33 : 0 ≤ (x5_21 : Int) := of_decide_eq_true (by (with_reducible assumption))
                  have q33 : x5_21 < (a0.size : Int) := of_decide_eq_true (by (with_reducible assumption))
                  have hx33 := bt_at a0 x5_21
                  replace p33 := eq_true p33
                  replace q33 := eq_true q33
                  go_wp2
                  go_meet
                  case rel => exact ⟨_, (((bt a0 x5_21) == 69)), (by (rfl)), (by (exact H')), ⟨by have := HJ1.out; have := HJ4.out; have := HJ6.out; have := HK4.out; have := HJ17.out; have := HJ21.out; (omega)⟩, by repeat (first | exact Drawn0.refl _ | apply Drawn0.step)⟩
                rw [if_neg c30] at H
                exact absurd H (by simp)
              rw [if_neg c29] at H
              have c29b0 : decide (x5_21 < (a0.size : Int)) = false := decide_eq_false c29
              clear c29
              (skip)
              have H' := Aside0.mk H
              clear H
              go_wp2
              go_meet
              case rel => exact ⟨_, (false), (by (rfl)), (by (exact H')), ⟨by have := HJ1.out; have := HJ4.out; have := HJ6.out; have := HK4.out; have := HJ17.out; have := HJ21.out; (omega)⟩, by repeat (first | exact Drawn0.refl _ | apply Drawn0.step)⟩
             case rest =>
              clear HC28
              obtain ⟨kq, x79_27, rfl, HA, HJ27, ⟨mc27, rfl⟩⟩ := hcut
              cases kq with
              | zero => exact absurd HA.out (by simp [R4Grammar.j7])
              | succ kj27 =>
               have H := HA.out
               clear HA
               simp only [R4Grammar.j7] at H
               by_cases c34 : x79_27 = true
               · subst c34
                 have H1 : (if (wrap64 (x5_21 + 1)) < (a0.size : Int) then (if 0 ≤ (wrap64 (x5_21 + 1)) then (if (bt a0 (wrap64 (x5_21 + 1))) = 43 then (R4Grammar.j8 kj27 a0 (wrap64 (x5_21 + 1)) x5_4 x5_21 true) else (R4Grammar.j8 kj27 a0 (wrap64 (x5_21 + 1)) x5_4 x5_21 ((bt a0 (wrap64 (x5_21 + 1))) == 45))) else (none)) else (R4Grammar.j8 kj27 a0 (wrap64 (x5_21 + 1)) x5_4 x5_21 false)) = some (r1, r2, r3) := by rw [if_pos rfl] at H; exact H
                 clear H
                 have H := H1
                 clear H1
                 have HC35 := Aside0.mk H
                 clear H
                 go_upto_region 18 with (fail)
                 go_cut [97] (fun v97 wc => ∃ (kq : Nat) (x97_34 : Bool), v97 = .bool x97_34 ∧ Aside0 (R4Grammar.j8 kq a0 (wrap64 (x5_21 + 1)) x5_4 x5_21 x97_34 = some (r1, r2, r3)) ∧ Aside0 (kq ≤ kj27) ∧ Drawn0 w wc)
                 case first =>
                  have H := HC35.out
                  clear HC35
                  by_cases c36 : (wrap64 (x5_21 + 1)) < (a0.size : Int)
                  · rw [if_pos c36] at H
                    have c36b0 : decide ((wrap64 (x5_21 + 1)) < (a0.size : Int)) = true := decide_eq_true c36
                    clear c36
                    (skip)
                    obtain ⟨ji37, hji37⟩ : ∃ j_ : Int, (wrap64 (x5_21 + 1)) = j_ := ⟨_, rfl⟩
                    replace H : (if 0 ≤ (ji37) then (if (bt a0 (ji37)) = 43 then (R4Grammar.j8 kj27 a0 ji37 x5_4 x5_21 true) else (R4Grammar.j8 kj27 a0 ji37 x5_4 x5_21 ((bt a0 (ji37)) == 45))) else (none)) = some (r1, r2, r3) := by (rw [hji37] at H; exact H)
                    (try rw [hji37] at c36b0)
                    have hji37w : (IntKind.i64.wrap (x5_21 + 1)) = ji37 := (i64_w _).trans hji37
                    by_cases c38 : 0 ≤ (ji37)
                    · rw [if_pos c38] at H
                      have c38b0 : decide (0 ≤ (ji37)) = true := decide_eq_true c38
                      clear c38
                      by_cases c40 : (bt a0 (ji37)) = 43
                      · rw [if_pos c40] at H
                        have c40b0 : ((bt a0 (ji37)) == 43) = true := beq_iff_eq.mpr c40
                        have c40b1 : ((bt a0 (ji37)) != 43) = false := bne_eq_false_iff_eq.mpr c40
                        clear c40
                        have H' := Aside0.mk H
                        clear H
                        have p39 : 0 ≤ ((ji37) : Int) := of_decide_eq_true (by (with_reducible assumption))
                        have q39 : (ji37) < (a0.size : Int) := of_decide_eq_true (by (with_reducible assumption))
                        have hx39 := bt_at a0 (ji37)
                        replace p39 := eq_true p39
                        replace q39 := eq_true q39
                        go_wp2
                        go_meet
                        case rel => exact ⟨_, (true), (by (rfl)), (by (rw [hji37]; exact H')), ⟨by have := HJ1.out; have := HJ4.out; have := HJ6.out; have := HK4.out; have := HJ17.out; have := HJ21.out; have := HJ27.out; (omega)⟩, by repeat (first | exact Drawn0.refl _ | apply Drawn0.step)⟩
                      rw [if_neg c40] at H
                      have c40b0 : ((bt a0 (ji37)) == 43) = false := beq_eq_false_iff_ne.mpr c40
                      have c40b1 : ((bt a0 (ji37)) != 43) = true := bne_iff_ne.mpr c40
                      have H' := Aside0.mk H
                      clear H
                      have p39 : 0 ≤ ((ji37) : Int) := of_decide_eq_true (by (with_reducible assumption))
                      have q39 : (ji37) < (a0.size : Int) := of_decide_eq_true (by (with_reducible assumption))
                      have hx39 := bt_at a0 (ji37)
                      replace p39 := eq_true p39
                      replace q39 := eq_true q39
                      have p41 : 0 ≤ ((ji37) : Int) := of_decide_eq_true (by (with_reducible assumption))
                      have q41 : (ji37) < (a0.size : Int) := of_decide_eq_true (by (with_reducible assumption))
                      have hx41 := bt_at a0 (ji37)
                      replace p41 := eq_true p41
                      replace q41 := eq_true q41
                      go_wp2
                      go_meet
                      case rel => exact ⟨_, (((bt a0 (ji37)) == 45)), (by (rfl)), (by (rw [hji37]; exact H')), ⟨by have := HJ1.out; have := HJ4.out; have := HJ6.out; have := HK4.out; have := HJ17.out; have := HJ21.out; have := HJ27.out; (omega)⟩, by repeat (first | exact Drawn0.refl _ | apply Drawn0.step)⟩
                    rw [if_neg c38] at H
                    exact absurd H (by simp)
                  rw [if_neg c36] at H
                  have c36b0 : decide ((wrap64 (x5_21 + 1)) < (a0.size : Int)) = false := decide_eq_false c36
                  clear c36
                  (skip)
                  have H' := Aside0.mk H
                  clear H
                  go_wp2
                  go_meet
                  case rel => exact ⟨_, (false), (by (rfl)), (by (exact H')), ⟨by have := HJ1.out; have := HJ4.out; have := HJ6.out; have := HK4.out; have := HJ17.out; have := HJ21.out; have := HJ27.out; (omega)⟩, by repeat (first | exact Drawn0.refl _ | apply Drawn0.step)⟩
                 case rest =>
                  clear HC35
                  obtain ⟨kq, x97_34, rfl, HA, HJ34, ⟨mc34, rfl⟩⟩ := hcut
                  cases kq with
                  | zero => exact absurd HA.out (by simp [R4Grammar.j8])
                  | succ kj34 =>
                   have H := HA.out
                   clear HA
                   simp only [R4Grammar.j8] at H
                   have HC42 := Aside0.mk H
                   clear H
                   go_upto_if 97 with (fail)
                   go_cut [5] (fun v5 wc => ∃ (kq : Nat) (x5_41 : Int), v5 = .int .i64 x5_41 ∧ Aside0 (R4Grammar.j9 kq a0 x5_41 x5_4 x5_21 = some (r1, r2, r3)) ∧ Aside0 (kq ≤ kj34) ∧ Drawn0 w wc)
                   case first =>
                    have H := HC42.out
                    clear HC42
                    by_cases c43 : x97_34 = true
                    · subst c43
                      have H1 : (R4Grammar.j9 kj34 a0 (wrap64 ((wrap64 (x5_21 + 1)) + 1)) x5_4 x5_21) = some (r1, r2, r3) := by rw [if_pos rfl] at H; exact H
                      clear H
                      have H := H1
                      clear H1
                      have H' := Aside0.mk H
                      clear H
                      go_wp2
                      go_meet
                      case rel => exact ⟨_, (wrap64 ((wrap64 (x5_21 + 1)) + 1)), (by (rfl)), (by (exact H')), ⟨by have := HJ1.out; have := HJ4.out; have := HJ6.out; have := HK4.out; have := HJ17.out; have := HJ21.out; have := HJ27.out; have := HJ34.out; (omega)⟩, by repeat (first | exact Drawn0.refl _ | apply Drawn0.step)⟩
                    replace c43 := Bool.eq_false_iff.mpr c43
                    subst c43
                    have H1 : (R4Grammar.j9 kj34 a0 (wrap64 (x5_21 + 1)) x5_4 x5_21) = some (r1, r2, r3) := by rw [if_neg (show ¬ (false = true) by decide)] at H; exact H
                    clear H
                    have H := H1
                    clear H1
                    have H' := Aside0.mk H
                    clear H
                    go_wp2
                    go_meet
                    case rel => exact ⟨_, ((wrap64 (x5_21 + 1))), (by (rfl)), (by (exact H')), ⟨by have := HJ1.out; have := HJ4.out; have := HJ6.out; have := HK4.out; have := HJ17.out; have := HJ21.out; have := HJ27.out; have := HJ34.out; (omega)⟩, by repeat (first | exact Drawn0.refl _ | apply Drawn0.step)⟩
                   case rest =>
                    clear HC42
                    obtain ⟨kq, x5_41, rfl, HA, HJ41, ⟨mc41, rfl⟩⟩ := hcut
                    cases kq with
                    | zero => exact absurd HA.out (by simp [R4Grammar.j9])
                    | succ kj41 =>
                     have H := HA.out
                     clear HA
                     simp only [R4Grammar.j9] at H
                     replace H := Option.bind_eq_some_iff.mp H
                     obtain ⟨t201, A440, H⟩ := H
                     replace H : (if t201 = true then (R4Grammar.l2 kj41 a0 x5_41 x5_4 x5_21) else (some (false, 0, 0))) = some (r1, r2, r3) := H
                     have A44 := Aside0.mk A440
                     clear A440
                     by_cases c45 : t201 = true
                     · subst c45
                       have H1 : (R4Grammar.l2 kj41 a0 x5_41 x5_4 x5_21) = some (r1, r2, r3) := by rw [if_pos rfl] at H; exact H
                       clear H
                       have H := H1
                       clear H1
                       have H' := Aside0.mk H
                       clear H
                       go_wp2_with (((with_reducible refine gate_callee (f := 155) rfl ?_); refine goesL_ (some 102) rfl rfl Tryz.func155 (by kernel_rfl) rfl #[.string a0, .int .i64 x5_41] rfl (by (try simp only [List.map_toArray, List.map_cons, List.map_nil]); (rfl)) ?_; (with_reducible refine (R4digit.calls a0 x5_41 true _ A44.out).mono ?_); rintro e w' ⟨rfl, ⟨nd, rfl⟩⟩; refine ⟨_, rfl, ?_⟩))
                       go_loopg [5] kj41 (fun kq v5 w' => ∃ (x5_10 : Int), v5 = .int .i64 x5_10 ∧ Aside0 (R4Grammar.l2 kq a0 x5_10 x5_4 x5_21 = some (r1, r2, r3)) ∧ Aside0 (kq ≤ kj41) ∧ Drawn0 w w')
                       case atStart => exact ⟨(x5_41), (by (rfl)), H', ⟨Nat.le_refl _⟩, by repeat (first | exact Drawn0.refl _ | apply Drawn0.step)⟩
                       case round =>
                        clear H'
                        obtain ⟨x5_10, rfl, HA, HK10, ⟨m10, rfl⟩⟩ := hrel
                        cases gk with
                        | zero => exact absurd HA.out (by simp [R4Grammar.l2])
                        | succ k10 =>
                         have H := HA.out
                         clear HA
                         simp only [R4Grammar.l2] at H
                         replace H := Option.bind_eq_some_iff.mp H
                         obtain ⟨t202, A460, H⟩ := H
                         replace H : (if t202 = true then (R4Grammar.l2 k10 a0 (wrap64 (x5_10 + 1)) x5_4 x5_21) else (some ((x5_10 == (a0.size : Int)), x5_4, x5_21))) = some (r1, r2, r3) := H
                         have A46 := Aside0.mk A460
                         clear A460
                         by_cases c47 : t202 = true
                         · subst c47
                           have H1 : (R4Grammar.l2 k10 a0 (wrap64 (x5_10 + 1)) x5_4 x5_21) = some (r1, r2, r3) := by rw [if_pos rfl] at H; exact H
                           clear H
                           have H := H1
                           clear H1
                           have H' := Aside0.mk H
                           clear H
                           go_wp2_with (((with_reducible refine gate_callee (f := 155) rfl ?_); refine goesL_ (some 106) rfl rfl Tryz.func155 (by kernel_rfl) rfl #[.string a0, .int .i64 x5_10] rfl (by (try simp only [List.map_toArray, List.map_cons, List.map_nil]); (rfl)) ?_; (with_reducible refine (R4digit.calls a0 x5_10 true _ A46.out).mono ?_); rintro e w' ⟨rfl, ⟨nd, rfl⟩⟩; refine ⟨_, rfl, ?_⟩))
                           go_roundg k10
                           case measure => have := HJ1.out; have := HJ4.out; have := HJ6.out; have := HK4.out; have := HJ17.out; have := HJ21.out; have := HJ27.out; have := HJ34.out; have := HJ41.out; have := HK10.out; omega
                           case rel => exact ⟨(wrap64 (x5_10 + 1)), (by (rfl)), (by (exact H')), ⟨by have := HJ1.out; have := HJ4.out; have := HJ6.out; have := HK4.out; have := HJ17.out; have := HJ21.out; have := HJ27.out; have := HJ34.out; have := HJ41.out; have := HK10.out; omega⟩, by repeat (first | exact Drawn0.refl _ | apply Drawn0.step)⟩
                         replace c47 := Bool.eq_false_iff.mpr c47
                         subst c47
                         have H1 : (some ((x5_10 == (a0.size : Int)), x5_4, x5_21)) = some (r1, r2, r3) := by rw [if_neg (show ¬ (false = true) by decide)] at H; exact H
                         clear H
                         have H := H1
                         clear H1
                         simp only [Option.some.injEq, Prod.mk.injEq] at H
                         obtain ⟨rfl, rfl, rfl⟩ := H
                         go_wp2_with (((with_reducible refine gate_callee (f := 155) rfl ?_); refine goesL_ (some 106) rfl rfl Tryz.func155 (by kernel_rfl) rfl #[.string a0, .int .i64 x5_10] rfl (by (try simp only [List.map_toArray, List.map_cons, List.map_nil]); (rfl)) ?_; (with_reducible refine (R4digit.calls a0 x5_10 false _ A46.out).mono ?_); rintro e w' ⟨rfl, ⟨nd, rfl⟩⟩; refine ⟨_, rfl, ?_⟩))
                         go_ret3
                         try simp only [beq_nil_isEmpty, bytesLess_gtr]
                         exact ⟨by (rfl), by repeat (first | exact Drawn0.refl _ | apply Drawn0.step)⟩
                     replace c45 := Bool.eq_false_iff.mpr c45
                     subst c45
                     have H1 : (some (false, 0, 0)) = some (r1, r2, r3) := by rw [if_neg (show ¬ (false = true) by decide)] at H; exact H
                     clear H
                     have H := H1
                     clear H1
                     simp only [Option.some.injEq, Prod.mk.injEq] at H
                     obtain ⟨rfl, rfl, rfl⟩ := H
                     go_wp2_with (((with_reducible refine gate_callee (f := 155) rfl ?_); refine goesL_ (some 102) rfl rfl Tryz.func155 (by kernel_rfl) rfl #[.string a0, .int .i64 x5_41] rfl (by (try simp only [List.map_toArray, List.map_cons, List.map_nil]); (rfl)) ?_; (with_reducible refine (R4digit.calls a0 x5_41 false _ A44.out).mono ?_); rintro e w' ⟨rfl, ⟨nd, rfl⟩⟩; refine ⟨_, rfl, ?_⟩))
                     go_ret3
                     try simp only [beq_nil_isEmpty, bytesLess_gtr]
                     exact ⟨by (rfl), by repeat (first | exact Drawn0.refl _ | apply Drawn0.step)⟩
               replace c34 := Bool.eq_false_iff.mpr c34
               subst c34
               have H1 : (some ((x5_21 == (a0.size : Int)), x5_4, x5_21)) = some (r1, r2, r3) := by rw [if_neg (show ¬ (false = true) by decide)] at H; exact H
               clear H
               have H := H1
               clear H1
               simp only [Option.some.injEq, Prod.mk.injEq] at H
               obtain ⟨rfl, rfl, rfl⟩ := H
               go_wp2
               go_ret3
               try simp only [beq_nil_isEmpty, bytesLess_gtr]
               exact ⟨by (rfl), by repeat (first | exact Drawn0.refl _ | apply Drawn0.step)⟩
def R4Right.l0 : Nat → Int → Bool → ByteArray → Int → Option (Bool)
 | 0, _, _, _, _ => none
 | k + 1, x3, x204000, x204001, x204002 => if x3 < (x204001.size : Int) then ((R4digit.f x204001 x3).bind fun t204 => (if t204 = true then (R4Right.l0 k (wrap64 (x3 + 1)) x204000 x204001 x204002) else (some false))) else (if (x204001.size : Int) ≤ 40 then (if 0 < (x204001.size : Int) then (if (bt x204001 0) = 48 then (some false) else (if 0 ≤ (wrap64 ((x204001.size : Int) - 1)) then (if (wrap64 ((x204001.size : Int) - 1)) < (x204001.size : Int) then (if (bt x204001 (wrap64 ((x204001.size : Int) - 1))) = 48 then (some false) else (if x204002 > (-1000) then (some (decide (x204002 < 1000))) else (some false))) else (none)) else (none))) else (none)) else (some false))
def R4Right.f (k : Nat) (a0_0 : Bool) (a0_1 : ByteArray) (a0_2 : Int) : Option (Bool) := if a0_1.toList = ([] : List UInt8) then (if a0_0 = true then (some false) else (some (a0_2 == 0))) else (R4Right.l0 k 0 a0_0 a0_1 a0_2)
set_option maxHeartbeats 8000000 in
set_option maxRecDepth 100000 in
theorem R4Right.calls (k : Nat) (a0_0 : Bool) (a0_1 : ByteArray) (a0_2 : Int) (r : Bool) (w : World) (h : R4Right.f k a0_0 a0_1 a0_2 = some r) :
    Calls Tryz.prog 141 #[.agg #[.bool a0_0, .string a0_1, .int .i64 a0_2]] w fun e w' => e = .returned (.bool r) ∧ Below w.heap.size w w' := by
 have hu32 := Tryz.underlying32
 have HB := Aside0.mk (Below.refl w.heap.size w)
 have H : (if a0_1.toList = ([] : List UInt8) then (if a0_0 = true then (some false) else (some (a0_2 == 0))) else (R4Right.l0 k 0 a0_0 a0_1 a0_2)) = some r := h
 clear h
 by_cases c2 : a0_1.toList = ([] : List UInt8)
 · rw [if_pos c2] at H
   have c2b0 : (a0_1.toList == ([] : List UInt8)) = true := beq_iff_eq.mpr c2
   by_cases c3 : a0_0 = true
   · subst c3
     have H1 : (some false) = some r := by rw [if_pos rfl] at H; exact H
     clear H
     have H := H1
     clear H1
     obtain rfl := Option.some.inj H
     go_enter Tryz.func141, Tryz.ntmps141
     go_wp2_with (((with_reducible refine gate_dst (N := 1) rfl ?_); (try (refine gate_guard (by rfl) ?_; dsimp only)); refine box_event ?hg (N := 1) ?hd (cs := #[.bool true, .string a0_1, .int .i64 a0_2]) (t := 32) ?hr ?_; (case hd => rfl); (case hg => rfl); (case hr => (go_simp; done)); intro gb203 hg w4 hbox hb; have n0_ := Aside0.mk (below_step (by repeat ((with_reducible (exact HB.out)))) hb); have n1_ := Aside0.mk (hbox); have n2_ := Aside0.mk ((by rw [hg]; exact (below_size (by repeat ((with_reducible (exact HB.out))))) : w.heap.size ≤ gb203)); have n3_ := Aside0.mk ((by rw [hg]; exact (below_size (by repeat ((with_reducible (exact HB.out))))) : w.heap.size ≤ gb203)); clear HB; have HB := n0_; have BK203 := n1_; have GW203 := n2_; have GE203 := n3_; clear n0_ n1_ n2_ n3_; clear hb hbox hg; have hcz5_0 : w4.cell? ⟨gb203, 0, none⟩ = some (.bool true) := (blk_cell BK203.out 0).trans rfl; have hcz5_1 : w4.cell? ⟨gb203, 1, none⟩ = some (.string a0_1) := (blk_cell BK203.out 1).trans rfl; have hcz5_2 : w4.cell? ⟨gb203, 2, none⟩ = some (.int .i64 a0_2) := (blk_cell BK203.out 2).trans rfl; have hfz5_0 := blk_frozen BK203.out 0; have hfz5_1 := blk_frozen BK203.out 1; have hfz5_2 := blk_frozen BK203.out 2))
     go_ret
     exact ⟨by (rfl), by repeat ((with_reducible (exact HB.out)))⟩
   replace c3 := Bool.eq_false_iff.mpr c3
   subst c3
   have H1 : (some (a0_2 == 0)) = some r := by rw [if_neg (show ¬ (false = true) by decide)] at H; exact H
   clear H
   have H := H1
   clear H1
   obtain rfl := Option.some.inj H
   go_enter Tryz.func141, Tryz.ntmps141
   go_wp2_with (((with_reducible refine gate_dst (N := 1) rfl ?_); (try (refine gate_guard (by rfl) ?_; dsimp only)); refine box_event ?hg (N := 1) ?hd (cs := #[.bool false, .string a0_1, .int .i64 a0_2]) (t := 32) ?hr ?_; (case hd => rfl); (case hg => rfl); (case hr => (go_simp; done)); intro gb203 hg w6 hbox hb; have n0_ := Aside0.mk (below_step (by repeat ((with_reducible (exact HB.out)))) hb); have n1_ := Aside0.mk (hbox); have n2_ := Aside0.mk ((by rw [hg]; exact (below_size (by repeat ((with_reducible (exact HB.out))))) : w.heap.size ≤ gb203)); have n3_ := Aside0.mk ((by rw [hg]; exact (below_size (by repeat ((with_reducible (exact HB.out))))) : w.heap.size ≤ gb203)); clear HB; have HB := n0_; have BK203 := n1_; have GW203 := n2_; have GE203 := n3_; clear n0_ n1_ n2_ n3_; clear hb hbox hg; have hcz7_0 : w6.cell? ⟨gb203, 0, none⟩ = some (.bool false) := (blk_cell BK203.out 0).trans rfl; have hcz7_1 : w6.cell? ⟨gb203, 1, none⟩ = some (.string a0_1) := (blk_cell BK203.out 1).trans rfl; have hcz7_2 : w6.cell? ⟨gb203, 2, none⟩ = some (.int .i64 a0_2) := (blk_cell BK203.out 2).trans rfl; have hfz7_0 := blk_frozen BK203.out 0; have hfz7_1 := blk_frozen BK203.out 1; have hfz7_2 := blk_frozen BK203.out 2))
   go_ret
   exact ⟨by (rfl), by repeat ((with_reducible (exact HB.out)))⟩
 · rw [if_neg c2] at H
   have c2b0 : (a0_1.toList == ([] : List UInt8)) = false := beq_eq_false_iff_ne.mpr c2
   have H' := Aside0.mk H
   clear H
   go_enter Tryz.func141, Tryz.ntmps141
   go_wp2_with (((with_reducible refine gate_dst (N := 1) rfl ?_); (try (refine gate_guard (by rfl) ?_; dsimp only)); refine box_event ?hg (N := 1) ?hd (cs := #[.bool a0_0, .string a0_1, .int .i64 a0_2]) (t := 32) ?hr ?_; (case hd => rfl); (case hg => rfl); (case hr => (go_simp; done)); intro gb203 hg w8 hbox hb; have n0_ := Aside0.mk (below_step (by repeat ((with_reducible (exact HB.out)))) hb); have n1_ := Aside0.mk (hbox); have n2_ := Aside0.mk ((by rw [hg]; exact (below_size (by repeat ((with_reducible (exact HB.out))))) : w.heap.size ≤ gb203)); have n3_ := Aside0.mk ((by rw [hg]; exact (below_size (by repeat ((with_reducible (exact HB.out))))) : w.heap.size ≤ gb203)); clear HB; have HB := n0_; have BK203 := n1_; have GW203 := n2_; have GE203 := n3_; clear n0_ n1_ n2_ n3_; clear hb hbox hg; have hcz9_0 : w8.cell? ⟨gb203, 0, none⟩ = some (.bool a0_0) := (blk_cell BK203.out 0).trans rfl; have hcz9_1 : w8.cell? ⟨gb203, 1, none⟩ = some (.string a0_1) := (blk_cell BK203.out 1).trans rfl; have hcz9_2 : w8.cell? ⟨gb203, 2, none⟩ = some (.int .i64 a0_2) := (blk_cell BK203.out 2).trans rfl; have hfz9_0 := blk_frozen BK203.out 0; have hfz9_1 := blk_frozen BK203.out 1; have hfz9_2 := blk_frozen BK203.out 2))
   go_loopg [3] k (fun kq v3 w' => ∃ (x3_1 : Int), v3 = .int .i64 x3_1 ∧ Aside0 (R4Right.l0 kq x3_1 a0_0 a0_1 a0_2 = some r) ∧ Aside0 (kq ≤ k) ∧ Aside0 (w'.heap[gb203]? = some (.cells #[.bool a0_0, .string a0_1, .int .i64 a0_2] 32 (0, 0))) ∧ Aside0 (Below w.heap.size w w'))
   case atStart => exact ⟨(0), (by (rfl)), H', ⟨Nat.le_refl _⟩, ⟨by (with_reducible repeat (first | refine blk_drewN ?_ _ | refine blk_drew ?_ | refine blk_alloc ?_ _)); exact BK203.out⟩, ⟨by repeat ((with_reducible (exact HB.out)))⟩⟩
   case round =>
    clear H'
    try clear c2
    try clear c2b0
    try clear c2b1
    try clear hcz9_0
    try clear hcz9_1
    try clear hcz9_2
    try clear hfz9_0
    try clear hfz9_1
    try clear hfz9_2
    obtain ⟨x3_1, rfl, HA, HK1, BK203, HB⟩ := hrel
    cases gk with
    | zero => exact absurd HA.out (by simp [R4Right.l0])
    | succ k1 =>
     have H := HA.out
     clear HA
     simp only [R4Right.l0] at H
     by_cases c10 : x3_1 < (a0_1.size : Int)
     · rw [if_pos c10] at H
       have c10b0 : decide (x3_1 < (a0_1.size : Int)) = true := decide_eq_true c10
       replace H := Option.bind_eq_some_iff.mp H
       obtain ⟨t204, A110, H⟩ := H
       have A11 := Aside0.mk A110
       clear A110
       by_cases c12 : t204 = true
       · subst c12
         have H1 : (R4Right.l0 k1 (wrap64 (x3_1 + 1)) a0_0 a0_1 a0_2) = some r := by rw [if_pos rfl] at H; exact H
         clear H
         have H := H1
         clear H1
         have H' := Aside0.mk H
         clear H
         have hcz13_0 : wr.cell? ⟨gb203, 0, none⟩ = some (.bool a0_0) := (blk_cell BK203.out 0).trans rfl
         have hcz13_1 : wr.cell? ⟨gb203, 1, none⟩ = some (.string a0_1) := (blk_cell BK203.out 1).trans rfl
         have hcz13_2 : wr.cell? ⟨gb203, 2, none⟩ = some (.int .i64 a0_2) := (blk_cell BK203.out 2).trans rfl
         go_wp2_with (((with_reducible refine gate_callee (f := 155) rfl ?_); refine goesL_ (some 25) rfl rfl Tryz.func155 (by kernel_rfl) rfl #[.string a0_1, .int .i64 x3_1] rfl (by (try simp only [List.map_toArray, List.map_cons, List.map_nil]); (rfl)) ?_; (with_reducible refine (R4digit.calls a0_1 x3_1 true _ A11.out).mono ?_); rintro e w' ⟨rfl, ⟨nd, rfl⟩⟩; refine ⟨_, rfl, ?_⟩))
         go_roundg k1
         case measure => have := HK1.out; omega
         case rel => exact ⟨(wrap64 (x3_1 + 1)), (by (rfl)), (by (exact H')), ⟨by have := HK1.out; omega⟩, ⟨by (with_reducible repeat (refine blk_drewN ?_ _)); exact BK203.out⟩, ⟨by repeat ((with_reducible first | exact HB.out | apply pw_below_drewN ))⟩⟩
       replace c12 := Bool.eq_false_iff.mpr c12
       subst c12
       have H1 : (some false) = some r := by rw [if_neg (show ¬ (false = true) by decide)] at H; exact H
       clear H
       have H := H1
       clear H1
       obtain rfl := Option.some.inj H
       have hcz14_0 : wr.cell? ⟨gb203, 0, none⟩ = some (.bool a0_0) := (blk_cell BK203.out 0).trans rfl
       have hcz14_1 : wr.cell? ⟨gb203, 1, none⟩ = some (.string a0_1) := (blk_cell BK203.out 1).trans rfl
       have hcz14_2 : wr.cell? ⟨gb203, 2, none⟩ = some (.int .i64 a0_2) := (blk_cell BK203.out 2).trans rfl
       go_wp2_with (((with_reducible refine gate_callee (f := 155) rfl ?_); refine goesL_ (some 25) rfl rfl Tryz.func155 (by kernel_rfl) rfl #[.string a0_1, .int .i64 x3_1] rfl (by (try simp only [List.map_toArray, List.map_cons, List.map_nil]); (rfl)) ?_; (with_reducible refine (R4digit.calls a0_1 x3_1 false _ A11.out).mono ?_); rintro e w' ⟨rfl, ⟨nd, rfl⟩⟩; refine ⟨_, rfl, ?_⟩))
       go_ret
       exact ⟨by (rfl), by repeat ((with_reducible first | exact HB.out | apply pw_below_drewN ))⟩
     rw [if_neg c10] at H
     have c10b0 : decide (x3_1 < (a0_1.size : Int)) = false := decide_eq_false c10
     by_cases c15 : (a0_1.size : Int) ≤ 40
     · rw [if_pos c15] at H
       have c15b0 : decide ((a0_1.size : Int) ≤ 40) = true := decide_eq_true c15
       have c15b1 : decide (a0_1.size ≤ 40) = true := decide_eq_true (by omega)
       by_cases c16 : 0 < (a0_1.size : Int)
       · rw [if_pos c16] at H
         have c16b0 : decide (0 < (a0_1.size : Int)) = true := decide_eq_true c16
         have c16b1 : decide (0 < a0_1.size) = true := decide_eq_true (by omega)
         by_cases c18 : (bt a0_1 0) = 48
         · rw [if_pos c18] at H
           have c18b0 : ((bt a0_1 0) == 48) = true := beq_iff_eq.mpr c18
           have c18b1 : ((bt a0_1 0) != 48) = false := bne_eq_false_iff_eq.mpr c18
           obtain rfl := Option.some.inj H
           have hcz19_0 : wr.cell? ⟨gb203, 0, none⟩ = some (.bool a0_0) := (blk_cell BK203.out 0).trans rfl
           have hcz19_1 : wr.cell? ⟨gb203, 1, none⟩ = some (.string a0_1) := (blk_cell BK203.out 1).trans rfl
           have hcz19_2 : wr.cell? ⟨gb203, 2, none⟩ = some (.int .i64 a0_2) := (blk_cell BK203.out 2).trans rfl
           have p17 : 0 ≤ (0 : Int) := (by omega)
           have q17 : 0 < a0_1.size := (by have : (0 : Int) < (a0_1.size : Int) := of_decide_eq_true (by (with_reducible assumption)); omega)
           have hx17 : ∀ h : 0 < a0_1.size, ((a0_1[0]'h).toNat : Int) = bt a0_1 0 := bt_at a0_1 0
           clear p17
           go_wp2
           go_ret
           exact ⟨by (rfl), by repeat ((with_reducible (exact HB.out)))⟩
         rw [if_neg c18] at H
         have c18b0 : ((bt a0_1 0) == 48) = false := beq_eq_false_iff_ne.mpr c18
         have c18b1 : ((bt a0_1 0) != 48) = true := bne_iff_ne.mpr c18
         obtain ⟨ji20, hji20⟩ : ∃ j_ : Int, (wrap64 ((a0_1.size : Int) - 1)) = j_ := ⟨_, rfl⟩
         replace H : (if 0 ≤ (ji20) then (if (ji20) < (a0_1.size : Int) then (if (bt a0_1 (ji20)) = 48 then (some false) else (if a0_2 > (-1000) then (some (decide (a0_2 < 1000))) else (some false))) else (none)) else (none)) = some r := by (rw [hji20] at H; exact H)
         have hji20w : (IntKind.i64.wrap ((a0_1.size : Int) - 1)) = ji20 := (i64_w _).trans hji20
         by_cases c21 : 0 ≤ (ji20)
         · rw [if_pos c21] at H
           have c21b0 : decide (0 ≤ (ji20)) = true := decide_eq_true c21
           by_cases c22 : (ji20) < (a0_1.size : Int)
           · rw [if_pos c22] at H
             have c22b0 : decide ((ji20) < (a0_1.size : Int)) = true := decide_eq_true c22
             by_cases c24 : (bt a0_1 (ji20)) = 48
             · rw [if_pos c24] at H
               have c24b0 : ((bt a0_1 (ji20)) == 48) = true := beq_iff_eq.mpr c24
               have c24b1 : ((bt a0_1 (ji20)) != 48) = false := bne_eq_false_iff_eq.mpr c24
               obtain rfl := Option.some.inj H
               have hcz25_0 : wr.cell? ⟨gb203, 0, none⟩ = some (.bool a0_0) := (blk_cell BK203.out 0).trans rfl
               have hcz25_1 : wr.cell? ⟨gb203, 1, none⟩ = some (.string a0_1) := (blk_cell BK203.out 1).trans rfl
               have hcz25_2 : wr.cell? ⟨gb203, 2, none⟩ = some (.int .i64 a0_2) := (blk_cell BK203.out 2).trans rfl
               have p17 : 0 ≤ (0 : Int) := (by omega)
               have q17 : 0 < a0_1.size := (by have : (0 : Int) < (a0_1.size : Int) := of_decide_eq_true (by (with_reducible assumption)); omega)
               have hx17 : ∀ h : 0 < a0_1.size, ((a0_1[0]'h).toNat : Int) = bt a0_1 0 := bt_at a0_1 0
               clear p17
               have p23 : 0 ≤ ((ji20) : Int) := of_decide_eq_true (by (with_reducible assumption))
               have q23 : (ji20) < (a0_1.size : Int) := of_decide_eq_true (by (with_reducible assumption))
               have hx23 := bt_at a0_1 (ji20)
               replace p23 := eq_true p23
               go_wp2
               go_ret
               exact ⟨by (rfl), by repeat ((with_reducible (exact HB.out)))⟩
             rw [if_neg c24] at H
             have c24b0 : ((bt a0_1 (ji20)) == 48) = false := beq_eq_false_iff_ne.mpr c24
             have c24b1 : ((bt a0_1 (ji20)) != 48) = true := bne_iff_ne.mpr c24
             by_cases c26 : a0_2 > (-1000)
             · rw [if_pos c26] at H
               have c26b0 : decide ((-1000) < a0_2) = true := decide_eq_true c26
               obtain rfl := Option.some.inj H
               have hcz27_0 : wr.cell? ⟨gb203, 0, none⟩ = some (.bool a0_0) := (blk_cell BK203.out 0).trans rfl
               have hcz27_1 : wr.cell? ⟨gb203, 1, none⟩ = some (.string a0_1) := (blk_cell BK203.out 1).trans rfl
               have hcz27_2 : wr.cell? ⟨gb203, 2, none⟩ = some (.int .i64 a0_2) := (blk_cell BK203.out 2).trans rfl
               have p17 : 0 ≤ (0 : Int) := (by omega)
               have q17 : 0 < a0_1.size := (by have : (0 : Int) < (a0_1.size : Int) := of_decide_eq_true (by (with_reducible assumption)); omega)
               have hx17 : ∀ h : 0 < a0_1.size, ((a0_1[0]'h).toNat : Int) = bt a0_1 0 := bt_at a0_1 0
               clear p17
               have p23 : 0 ≤ ((ji20) : Int) := of_decide_eq_true (by (with_reducible assumption))
               have q23 : (ji20) < (a0_1.size : Int) := of_decide_eq_true (by (with_reducible assumption))
               have hx23 := bt_at a0_1 (ji20)
               replace p23 := eq_true p23
               go_wp2
               go_ret
               exact ⟨by (rfl), by repeat ((with_reducible (exact HB.out)))⟩
             rw [if_neg c26] at H
             have c26b0 : decide ((-1000) < a0_2) = false := decide_eq_false c26
             obtain rfl := Option.some.inj H
             have hcz28_0 : wr.cell? ⟨gb203, 0, none⟩ = some (.bool a0_0) := (blk_cell BK203.out 0).trans rfl
             have hcz28_1 : wr.cell? ⟨gb203, 1, none⟩ = some (.string a0_1) := (blk_cell BK203.out 1).trans rfl
             have hcz28_2 : wr.cell? ⟨gb203, 2, none⟩ = some (.int .i64 a0_2) := (blk_cell BK203.out 2).trans rfl
             have p17 : 0 ≤ (0 : Int) := (by omega)
             have q17 : 0 < a0_1.size := (by have : (0 : Int) < (a0_1.size : Int) := of_decide_eq_true (by (with_reducible assumption)); omega)
             have hx17 : ∀ h : 0 < a0_1.size, ((a0_1[0]'h).toNat : Int) = bt a0_1 0 := bt_at a0_1 0
             clear p17
             have p23 : 0 ≤ ((ji20) : Int) := of_decide_eq_true (by (with_reducible assumption))
             have q23 : (ji20) < (a0_1.size : Int) := of_decide_eq_true (by (with_reducible assumption))
             have hx23 := bt_at a0_1 (ji20)
             replace p23 := eq_true p23
             go_wp2
             go_ret
             exact ⟨by (rfl), by repeat ((with_reducible (exact HB.out)))⟩
           rw [if_neg c22] at H
           exact absurd H (by simp)
         rw [if_neg c21] at H
         exact absurd H (by simp)
       rw [if_neg c16] at H
       exact absurd H (by simp)
     rw [if_neg c15] at H
     have c15b0 : decide ((a0_1.size : Int) ≤ 40) = false := decide_eq_false c15
     have c15b1 : decide (a0_1.size ≤ 40) = false := decide_eq_false (by omega)
     obtain rfl := Option.some.inj H
     have hcz29_0 : wr.cell? ⟨gb203, 0, none⟩ = some (.bool a0_0) := (blk_cell BK203.out 0).trans rfl
     have hcz29_1 : wr.cell? ⟨gb203, 1, none⟩ = some (.string a0_1) := (blk_cell BK203.out 1).trans rfl
     have hcz29_2 : wr.cell? ⟨gb203, 2, none⟩ = some (.int .i64 a0_2) := (blk_cell BK203.out 2).trans rfl
     go_wp2
     go_ret
     exact ⟨by (rfl), by repeat ((with_reducible (exact HB.out)))⟩
mutual
def R4Parse.l0 : Nat → ByteArray → Int → Int → Int → Bool → ByteArray → Int → Option (Bool × ByteArray × Int × Int)
 | 0, _, _, _, _, _, _, _ => none
 | k + 1, x0, x5, x6, x8, x210000, x210001, x210002 => if x8 < x6 then (if 0 ≤ x8 then (if x8 < (x0.size : Int) then (if (bt x0 x8) = 45 then (R4Parse.l0 k x0 x5 x6 (wrap64 (x8 + 1)) true x210001 x210002) else (if (bt x0 x8) = 46 then (R4Parse.l0 k x0 x5 x6 (wrap64 (x8 + 1)) x210000 x210001 x210002) else (if x210001.toList = ([] : List UInt8) then (if (bt x0 x8) = 48 then (R4Parse.l0 k x0 x5 x6 (wrap64 (x8 + 1)) x210000 x210001 x210002) else (if x8 ≤ (wrap64 (x8 + 1)) then (if (wrap64 (x8 + 1)) ≤ (x0.size : Int) then (if x210001.size + (x0.extract (x8 : Int).toNat ((wrap64 (x8 + 1)) : Int).toNat).size ≤ 9223372036854775807 then (R4Parse.l0 k x0 x5 x6 (wrap64 (x8 + 1)) x210000 (x210001 ++ (x0.extract (x8 : Int).toNat ((wrap64 (x8 + 1)) : Int).toNat)) x210002) else (none)) else (none)) else (none))) else (if x8 ≤ (wrap64 (x8 + 1)) then (if (wrap64 (x8 + 1)) ≤ (x0.size : Int) then (if x210001.size + (x0.extract (x8 : Int).toNat ((wrap64 (x8 + 1)) : Int).toNat).size ≤ 9223372036854775807 then (R4Parse.l0 k x0 x5 x6 (wrap64 (x8 + 1)) x210000 (x210001 ++ (x0.extract (x8 : Int).toNat ((wrap64 (x8 + 1)) : Int).toNat)) x210002) else (none)) else (none)) else (none))))) else (none)) else (none)) else (if x6 > x5 then (R4Parse.j1 k x0 x6 x210000 x210001 (wrap64 ((wrap64 (x5 + 1)) - x6))) else (R4Parse.j1 k x0 x6 x210000 x210001 x210002))
def R4Parse.j1 : Nat → ByteArray → Int → Bool → ByteArray → Int → Option (Bool × ByteArray × Int × Int)
 | 0, _, _, _, _, _ => none
 | k + 1, x0, x6, x210000, x210001, x210002 => R4Parse.l1 k x0 0 false (wrap64 (x6 + 1)) x210000 x210001 x210002
def R4Parse.l1 : Nat → ByteArray → Int → Bool → Int → Bool → ByteArray → Int → Option (Bool × ByteArray × Int × Int)
 | 0, _, _, _, _, _, _, _ => none
 | k + 1, x0, x9, x10, x11, x210000, x210001, x210002 => if x11 < (x0.size : Int) then (if 0 ≤ x11 then (if (bt x0 x11) = 45 then (R4Parse.l1 k x0 x9 true (wrap64 (x11 + 1)) x210000 x210001 x210002) else (if (bt x0 x11) = 43 then (R4Parse.l1 k x0 x9 x10 (wrap64 (x11 + 1)) x210000 x210001 x210002) else (R4Parse.l1 k x0 (mn (wrap64 ((wrap64 ((wrap64 (10 * x9)) + (wrap64 (bt x0 x11)))) - 48)) 1000000) x10 (wrap64 (x11 + 1)) x210000 x210001 x210002))) else (none)) else (if x10 = true then (R4Parse.j3 k (wrap64 (-x9)) x210000 x210001 x210002) else (R4Parse.j3 k x9 x210000 x210001 x210002))
def R4Parse.j3 : Nat → Int → Bool → ByteArray → Int → Option (Bool × ByteArray × Int × Int)
 | 0, _, _, _, _ => none
 | k + 1, x9, x210000, x210001, x210002 => R4Parse.l2 k x210000 x210001 (wrap64 (x210002 + x9))
def R4Parse.j5 : Nat → Bool → ByteArray → Int → Option (Bool × ByteArray × Int × Int)
 | 0, _, _, _ => none
 | k + 1, x210000, x210001, x210002 => if x210001.toList = ([] : List UInt8) then (some (false, (⟨#[]⟩ : ByteArray), 0, 0)) else ((R4Right.f k x210000 x210001 x210002).bind fun t210 => (if t210 = true then (some (x210000, x210001, x210002, 0)) else (some (false, (⟨#[]⟩ : ByteArray), 0, 13))))
def R4Parse.l2 : Nat → Bool → ByteArray → Int → Option (Bool × ByteArray × Int × Int)
 | 0, _, _, _ => none
 | k + 1, x210000, x210001, x210002 => if (x210001.size : Int) > 0 then (if 0 ≤ (wrap64 ((x210001.size : Int) - 1)) then (if (wrap64 ((x210001.size : Int) - 1)) < (x210001.size : Int) then (if (bt x210001 (wrap64 ((x210001.size : Int) - 1))) = 48 then (if (wrap64 ((x210001.size : Int) - 1)) ≤ (x210001.size : Int) then (R4Parse.l2 k x210000 (x210001.extract 0 ((wrap64 ((x210001.size : Int) - 1)) : Int).toNat) (wrap64 (x210002 + 1))) else (none)) else (R4Parse.j5 k x210000 x210001 x210002)) else (none)) else (none)) else (R4Parse.j5 k x210000 x210001 x210002)
end
def R4Parse.f (k : Nat) (a0 : ByteArray) : Option (Bool × ByteArray × Int × Int) := (R4Grammar.f k a0).bind fun bt206 => (if bt206.1 = true then (R4Parse.l0 k a0 bt206.2.1 bt206.2.2 0 false (⟨#[]⟩ : ByteArray) 0) else (some (false, (⟨#[]⟩ : ByteArray), 0, 11)))
def R4Parse.T11 : Bool × List (List Nat × List Nat) := (true, [([], []), ([0], [0]), ([], []), ([], []), ([], []), ([4], [4]), ([2, 3, 5], [2, 3, 5]), ([1, 6], [1, 6]), ([0, 1, 2, 3, 4, 5, 6, 7], []), ([8, 7, 0, 1, 2, 3, 4, 5, 6, 7], [7, 8])])
def R4Parse.B11 : List Nat := [0, 1, 0, 0, 0, 16, 60, 127, 255, 511]
theorem R4Parse.tab11 : rtab .any (opsOf Tryz.f110 11) = R4Parse.T11 := by kernel_rfl
theorem R4Parse.bits11 : waitsOk R4Parse.T11.2 R4Parse.B11 = true := by kernel_rfl
set_option maxHeartbeats 8000000 in
set_option maxRecDepth 100000 in
theorem R4Parse.calls (k : Nat) (a0 : ByteArray) (r1 : Bool) (r2 : ByteArray) (r3 : Int) (r4 : Int) (w : World) (h : R4Parse.f k a0 = some (r1, r2, r3, r4)) :
    Calls Tryz.prog 110 #[.string a0] w fun e w' => e = .returned (.tuple #[.agg #[.bool r1, .string r2, .int .i64 r3], .int .i64 r4]) ∧ Below w.heap.size w w' := by
 have hu32 := Tryz.underlying32
 have HB := Aside0.mk (Below.refl w.heap.size w)
 have H : ((R4Grammar.f k a0).bind fun bt206 => (if bt206.1 = true then (R4Parse.l0 k a0 bt206.2.1 bt206.2.2 0 false (⟨#[]⟩ : ByteArray) 0) else (some (false, (⟨#[]⟩ : ByteArray), 0, 11)))) = some (r1, r2, r3, r4) := h
 clear h
 replace H := Option.bind_eq_some_iff.mp H
 obtain ⟨⟨t206, t207, t208⟩, A20, H⟩ := H
 replace H : (if t206 = true then (R4Parse.l0 k a0 t207 t208 0 false (⟨#[]⟩ : ByteArray) 0) else (some (false, (⟨#[]⟩ : ByteArray), 0, 11))) = some (r1, r2, r3, r4) := H
 have A2 := Aside0.mk A20
 clear A20
 by_cases c3 : t206 = true
 · subst c3
   have H1 : (R4Parse.l0 k a0 t207 t208 0 false (⟨#[]⟩ : ByteArray) 0) = some (r1, r2, r3, r4) := by rw [if_pos rfl] at H; exact H
   clear H
   have H := H1
   clear H1
   have H' := Aside0.mk H
   clear H
   go_enter Tryz.func110, Tryz.ntmps110
   go_wp2_with (first | ((with_reducible refine gate_dst (N := 2) rfl ?_); (try (refine gate_guard (by rfl) ?_; dsimp only)); refine box_event ?hg (N := 2) ?hd (cs := #[.bool false, .string (⟨#[]⟩ : ByteArray), .int .i64 0]) (t := 32) ?hr ?_; (case hd => rfl); (case hg => rfl); (case hr => (go_simp; done)); intro gb205 hg w4 hbox hb; have n0_ := Aside0.mk (below_step (by repeat ((with_reducible (exact HB.out)))) hb); have n1_ := Aside0.mk (hbox); have n2_ := Aside0.mk ((by rw [hg]; exact (below_size (by repeat ((with_reducible (exact HB.out))))) : w.heap.size ≤ gb205)); have n3_ := Aside0.mk ((by rw [hg]; exact (below_size (by repeat ((with_reducible (exact HB.out))))) : w.heap.size ≤ gb205)); clear HB; have HB := n0_; have BK205 := n1_; have GW205 := n2_; have GE205 := n3_; clear n0_ n1_ n2_ n3_; clear hb hbox hg) | ((with_reducible refine gate_callee (f := 140) rfl ?_); refine goesL_ (some 15) rfl rfl Tryz.func140 (by kernel_rfl) rfl #[.string a0] rfl (by (try simp only [List.map_toArray, List.map_cons, List.map_nil]); (rfl)) ?_; (with_reducible refine (R4Grammar.calls k a0 true t207 t208 _ A2.out).mono ?_); rintro e w' ⟨rfl, ⟨nd, rfl⟩⟩; refine ⟨_, rfl, ?_⟩; (try (rw [drewN_self w4]; generalize hq_ : World.drewN w4 _ = w4; have n0_ : Aside0 (w4.heap[gb205]? = some (.cells #[.bool false, .string (⟨#[]⟩ : ByteArray), .int .i64 0] 32 (0, 0))) := ⟨by rw [← hq_]; exact (by (with_reducible repeat (refine blk_drewN ?_ _)); exact BK205.out)⟩; have n1_ : Aside0 (Below w.heap.size w w4) := ⟨by rw [← hq_]; exact (by repeat ((with_reducible first | exact HB.out | apply pw_below_drewN )))⟩; clear BK205 HB hq_; have BK205 := n0_; have HB := n1_; clear n0_ n1_))) | ((with_reducible refine gate_dst (N := 7) rfl ?_); (try (refine gate_guard (by rfl) ?_; dsimp only)); refine box_event ?hg (N := 7) ?hd (cs := #[.bool false, .string (⟨#[]⟩ : ByteArray), .int .i64 0]) (t := 32) ?hr ?_; (case hd => rfl); (case hg => rfl); (case hr => (go_simp; done)); intro gb209 hg w5 hbox hb; have n0_ := Aside0.mk (blk_below (g := gb205) (o := .cells #[.bool false, .string (⟨#[]⟩ : ByteArray), .int .i64 0] 32 (0, 0)) (by (with_reducible repeat (first | refine blk_drewN ?_ _ | refine blk_drew ?_ | refine blk_alloc ?_ _)); exact BK205.out) hb); have n1_ := Aside0.mk (below_step (by repeat ((with_reducible (exact HB.out)))) hb); have n2_ := Aside0.mk (hbox); have n3_ := Aside0.mk ((by rw [hg]; exact (below_size (by repeat ((with_reducible (exact HB.out))))) : w.heap.size ≤ gb209)); have n4_ := Aside0.mk ((by rw [hg]; exact (below_size (by repeat ((with_reducible (exact HB.out))))) : w.heap.size ≤ gb209)); have n5_ := Aside0.mk ((by rw [hg]; exact Nat.ne_of_lt (blk_lt (g := gb205) (o := .cells #[.bool false, .string (⟨#[]⟩ : ByteArray), .int .i64 0] 32 (0, 0)) (by (with_reducible repeat (first | refine blk_drewN ?_ _ | refine blk_drew ?_ | refine blk_alloc ?_ _)); exact BK205.out)) : gb205 ≠ gb209)); have n6_ := Aside0.mk ((by rw [hg]; exact Nat.ne_of_gt (blk_lt (g := gb205) (o := .cells #[.bool false, .string (⟨#[]⟩ : ByteArray), .int .i64 0] 32 (0, 0)) (by (with_reducible repeat (first | refine blk_drewN ?_ _ | refine blk_drew ?_ | refine blk_alloc ?_ _)); exact BK205.out)) : gb209 ≠ gb205)); clear BK205; clear HB; have BK205 := n0_; have HB := n1_; have BK209 := n2_; have GW209 := n3_; have GE209 := n4_; have NB205_209 := n5_; have NB209_205 := n6_; clear n0_ n1_ n2_ n3_ n4_ n5_ n6_; clear hb hbox hg; have hnb6 := NB209_205.out; have hnc6 := NB205_209.out; have hcz7_0 : w5.cell? ⟨gb209, 0, none⟩ = some (.bool false) := (blk_cell BK209.out 0).trans rfl; have hcz7_1 : w5.cell? ⟨gb209, 1, none⟩ = some (.string (⟨#[]⟩ : ByteArray)) := (blk_cell BK209.out 1).trans rfl; have hcz7_2 : w5.cell? ⟨gb209, 2, none⟩ = some (.int .i64 0) := (blk_cell BK209.out 2).trans rfl; have hfz7_0 := blk_frozen BK209.out 0; have hfz7_1 := blk_frozen BK209.out 1; have hfz7_2 := blk_frozen BK209.out 2))
   go_loopg [8] k (fun kq v8 w' => ∃ (x8_1 : Int) (x210000_1 : Bool) (x210001_1 : ByteArray), v8 = .int .i64 x8_1 ∧ Aside0 (R4Parse.l0 kq a0 t207 t208 x8_1 x210000_1 x210001_1 0 = some (r1, r2, r3, r4)) ∧ Aside0 (kq ≤ k) ∧ Aside0 (w'.heap[gb205]? = some (.cells #[.bool false, .string (⟨#[]⟩ : ByteArray), .int .i64 0] 32 (0, 0))) ∧ Aside0 (w'.heap[gb209]? = some (.cells #[.bool x210000_1, .string x210001_1, .int .i64 0] 32 (0, 0))) ∧ Aside0 (Below w.heap.size w w'))
   case atStart => exact ⟨(0), (false), ((⟨#[]⟩ : ByteArray)), (by (rfl)), H', ⟨Nat.le_refl _⟩, ⟨by (with_reducible repeat (first | refine blk_drewN ?_ _ | refine blk_drew ?_ | refine blk_alloc ?_ _)); refine blk_far ?_ NB205_209.out _; (with_reducible repeat (first | refine blk_drewN ?_ _ | refine blk_drew ?_ | refine blk_alloc ?_ _)); refine blk_far ?_ NB205_209.out _; (with_reducible repeat (first | refine blk_drewN ?_ _ | refine blk_drew ?_ | refine blk_alloc ?_ _)); refine blk_far ?_ NB205_209.out _; (with_reducible repeat (first | refine blk_drewN ?_ _ | refine blk_drew ?_ | refine blk_alloc ?_ _)); exact BK205.out⟩, ⟨by (with_reducible repeat (first | refine blk_drewN ?_ _ | refine blk_drew ?_ | refine blk_alloc ?_ _)); refine blk_put (cs := #[.bool false, .string (⟨#[]⟩ : ByteArray), .int .i64 0]) ?_ 2 _ rfl; (with_reducible repeat (first | refine blk_drewN ?_ _ | refine blk_drew ?_ | refine blk_alloc ?_ _)); refine blk_put (cs := #[.bool false, .string (⟨#[]⟩ : ByteArray), .int .i64 0]) ?_ 1 _ rfl; (with_reducible repeat (first | refine blk_drewN ?_ _ | refine blk_drew ?_ | refine blk_alloc ?_ _)); refine blk_put (cs := #[.bool false, .string (⟨#[]⟩ : ByteArray), .int .i64 0]) ?_ 0 _ rfl; (with_reducible repeat (first | refine blk_drewN ?_ _ | refine blk_drew ?_ | refine blk_alloc ?_ _)); exact BK209.out⟩, ⟨by repeat ((with_reducible first | exact HB.out | refine below_set ?_ GE209.out))⟩⟩
   case round =>
    clear H'
    try clear hcz7_0
    try clear hcz7_1
    try clear hcz7_2
    try clear hfz7_0
    try clear hfz7_1
    try clear hfz7_2
    obtain ⟨x8_1, x210000_1, x210001_1, rfl, HA, HK1, BK205, BK209, HB⟩ := hrel
    cases gk with
    | zero => exact absurd HA.out (by simp [R4Parse.l0])
    | succ k1 =>
     have H := HA.out
     clear HA
     simp only [R4Parse.l0] at H
     by_cases c8 : x8_1 < t208
     · rw [if_pos c8] at H
       have c8b0 : decide (x8_1 < t208) = true := decide_eq_true c8
       clear c8
       by_cases c9 : 0 ≤ x8_1
       · rw [if_pos c9] at H
         have c9b0 : decide (0 ≤ x8_1) = true := decide_eq_true c9
         clear c9
         by_cases c10 : x8_1 < (a0.size : Int)
         · rw [if_pos c10] at H
           have c10b0 : decide (x8_1 < (a0.size : Int)) = true := decide_eq_true c10
           clear c10
           by_cases c12 : (bt a0 x8_1) = 45
           · rw [if_pos c12] at H
             have c12b0 : ((bt a0 x8_1) == 45) = true := beq_iff_eq.mpr c12
             have c12b1 : ((bt a0 x8_1) != 45) = false := bne_eq_false_iff_eq.mpr c12
             clear c12
             have H' := Aside0.mk H
             clear H
             have p11 : 0 ≤ (x8_1 : Int) := of_decide_eq_true (by (with_reducible assumption))
             have q11 : x8_1 < (a0.size : Int) := of_decide_eq_true (by (with_reducible assumption))
             have hx11 := bt_at a0 x8_1
             replace p11 := eq_true p11
             replace q11 := eq_true q11
             have hnb13 := NB209_205.out
             have hnc13 := NB205_209.out
             have hcz14_0 : wr.cell? ⟨gb209, 0, none⟩ = some (.bool x210000_1) := (blk_cell BK209.out 0).trans rfl
             have hcz14_1 : wr.cell? ⟨gb209, 1, none⟩ = some (.string x210001_1) := (blk_cell BK209.out 1).trans rfl
             have hcz14_2 : wr.cell? ⟨gb209, 2, none⟩ = some (.int .i64 0) := (blk_cell BK209.out 2).trans rfl
             have hfz14_0 := blk_frozen BK209.out 0
             have hfz14_1 := blk_frozen BK209.out 1
             have hfz14_2 := blk_frozen BK209.out 2
             go_wp2
             go_roundg k1
             case measure => have := HK1.out; omega
             case rel => exact ⟨(wrap64 (x8_1 + 1)), (true), (x210001_1), (by (rfl)), (by (exact H')), ⟨by have := HK1.out; omega⟩, ⟨by (with_reducible repeat (first | refine blk_drewN ?_ _ | refine blk_drew ?_ | refine blk_alloc ?_ _)); refine blk_far ?_ NB205_209.out _; (with_reducible repeat (first | refine blk_drewN ?_ _ | refine blk_drew ?_ | refine blk_alloc ?_ _)); exact BK205.out⟩, ⟨by (with_reducible repeat (first | refine blk_drewN ?_ _ | refine blk_drew ?_ | refine blk_alloc ?_ _)); refine blk_put (cs := #[.bool x210000_1, .string x210001_1, .int .i64 0]) ?_ 0 _ rfl; (with_reducible repeat (first | refine blk_drewN ?_ _ | refine blk_drew ?_ | refine blk_alloc ?_ _)); exact BK209.out⟩, ⟨by repeat ((with_reducible first | exact HB.out | refine below_set ?_ GE209.out))⟩⟩
           rw [if_neg c12] at H
           have c12b0 : ((bt a0 x8_1) == 45) = false := beq_eq_false_iff_ne.mpr c12
           have c12b1 : ((bt a0 x8_1) != 45) = true := bne_iff_ne.mpr c12
           by_cases c16 : (bt a0 x8_1) = 46
           · rw [if_pos c16] at H
             have c16b0 : ((bt a0 x8_1) == 46) = true := beq_iff_eq.mpr c16
             have c16b1 : ((bt a0 x8_1) != 46) = false := bne_eq_false_iff_eq.mpr c16
             clear c16
             have H' := Aside0.mk H
             clear H
             have p11 : 0 ≤ (x8_1 : Int) := of_decide_eq_true (by (with_reducible assumption))
             have q11 : x8_1 < (a0.size : Int) := of_decide_eq_true (by (with_reducible assumption))
             have hx11 := bt_at a0 x8_1
             replace p11 := eq_true p11
             replace q11 := eq_true q11
             have p15 : 0 ≤ (x8_1 : Int) := of_decide_eq_true (by (with_reducible assumption))
             have q15 : x8_1 < (a0.size : Int) := of_decide_eq_true (by (with_reducible assumption))
             have hx15 := bt_at a0 x8_1
             replace p15 := eq_true p15
             replace q15 := eq_true q15
             go_wp2
             go_roundg k1
             case measure => have := HK1.out; omega
             case rel => exact ⟨(wrap64 (x8_1 + 1)), (x210000_1), (x210001_1), (by (rfl)), (by (exact H')), ⟨by have := HK1.out; omega⟩, ⟨by (with_reducible repeat (first | refine blk_drewN ?_ _ | refine blk_drew ?_ | refine blk_alloc ?_ _)); exact BK205.out⟩, ⟨by (with_reducible repeat (first | refine blk_drewN ?_ _ | refine blk_drew ?_ | refine blk_alloc ?_ _)); exact BK209.out⟩, ⟨by repeat ((with_reducible (exact HB.out)))⟩⟩
           rw [if_neg c16] at H
           have c16b0 : ((bt a0 x8_1) == 46) = false := beq_eq_false_iff_ne.mpr c16
           have c16b1 : ((bt a0 x8_1) != 46) = true := bne_iff_ne.mpr c16
           by_cases c17 : x210001_1.toList = ([] : List UInt8)
           · rw [if_pos c17] at H
             have c17b0 : (x210001_1.toList == ([] : List UInt8)) = true := beq_iff_eq.mpr c17
             have c17b7 : x210001_1.toList.isEmpty = true := by rw [← beq_nil_isEmpty]; exact c17b0
             have c17b1 : (x210001_1.toList != ([] : List UInt8)) = false := bne_eq_false_iff_eq.mpr c17
             clear c17
             by_cases c19 : (bt a0 x8_1) = 48
             · rw [if_pos c19] at H
               have c19b0 : ((bt a0 x8_1) == 48) = true := beq_iff_eq.mpr c19
               have c19b1 : ((bt a0 x8_1) != 48) = false := bne_eq_false_iff_eq.mpr c19
               clear c19
               have H' := Aside0.mk H
               clear H
               have p11 : 0 ≤ (x8_1 : Int) := of_decide_eq_true (by (with_reducible assumption))
               have q11 : x8_1 < (a0.size : Int) := of_decide_eq_true (by (with_reducible assumption))
               have hx11 := bt_at a0 x8_1
               replace p11 := eq_true p11
               replace q11 := eq_true q11
               have p15 : 0 ≤ (x8_1 : Int) := of_decide_eq_true (by (with_reducible assumption))
               have q15 : x8_1 < (a0.size : Int) := of_decide_eq_true (by (with_reducible assumption))
               have hx15 := bt_at a0 x8_1
               replace p15 := eq_true p15
               replace q15 := eq_true q15
               have hnb20 := NB209_205.out
               have hnc20 := NB205_209.out
               have hcz21_0 : wr.cell? ⟨gb209, 0, none⟩ = some (.bool x210000_1) := (blk_cell BK209.out 0).trans rfl
               have hcz21_1 : wr.cell? ⟨gb209, 1, none⟩ = some (.string x210001_1) := (blk_cell BK209.out 1).trans rfl
               have hcz21_2 : wr.cell? ⟨gb209, 2, none⟩ = some (.int .i64 0) := (blk_cell BK209.out 2).trans rfl
               have hfz21_0 := blk_frozen BK209.out 0
               have hfz21_1 := blk_frozen BK209.out 1
               have hfz21_2 := blk_frozen BK209.out 2
               have p18 : 0 ≤ (x8_1 : Int) := of_decide_eq_true (by (with_reducible assumption))
               have q18 : x8_1 < (a0.size : Int) := of_decide_eq_true (by (with_reducible assumption))
               have hx18 := bt_at a0 x8_1
               replace p18 := eq_true p18
               replace q18 := eq_true q18
               go_wp2
               go_roundg k1
               case measure => have := HK1.out; omega
               case rel => exact ⟨(wrap64 (x8_1 + 1)), (x210000_1), (x210001_1), (by (rfl)), (by (exact H')), ⟨by have := HK1.out; omega⟩, ⟨by (with_reducible repeat (first | refine blk_drewN ?_ _ | refine blk_drew ?_ | refine blk_alloc ?_ _)); exact BK205.out⟩, ⟨by (with_reducible repeat (first | refine blk_drewN ?_ _ | refine blk_drew ?_ | refine blk_alloc ?_ _)); exact BK209.out⟩, ⟨by repeat ((with_reducible (exact HB.out)))⟩⟩
             rw [if_neg c19] at H
             have c19b0 : ((bt a0 x8_1) == 48) = false := beq_eq_false_iff_ne.mpr c19
             have c19b1 : ((bt a0 x8_1) != 48) = true := bne_iff_ne.mpr c19
             have c22b0 := eq_true (of_decide_eq_true (by (with_reducible assumption)) : 0 ≤ x8_1)
             by_cases c23 : x8_1 ≤ (wrap64 (x8_1 + 1))
             · rw [if_pos c23] at H
               have c23b0 := eq_true c23
               have c23b1 : decide (x8_1 ≤ (wrap64 (x8_1 + 1))) = true := decide_eq_true c23
               by_cases c24 : (wrap64 (x8_1 + 1)) ≤ (a0.size : Int)
               · rw [if_pos c24] at H
                 have c24b0 := eq_true c24
                 have c24b1 : decide ((wrap64 (x8_1 + 1)) ≤ (a0.size : Int)) = true := decide_eq_true c24
                 by_cases c25 : x210001_1.size + (a0.extract (x8_1 : Int).toNat ((wrap64 (x8_1 + 1)) : Int).toNat).size ≤ 9223372036854775807
                 · rw [if_pos c25] at H
                   have c25b0 := eq_true c25
                   try have c25b8 : (9223372036854775807 < x210001_1.size + ((wrap64 (x8_1 + 1)).toNat - x8_1.toNat)) = False := eq_false (Nat.not_lt.2 (by have h_ := c25; have g0_ : (wrap64 (x8_1 + 1) : Int) ≤ (a0.size : Int) := of_decide_eq_true (by (with_reducible assumption)); simp only [ByteArray.size_extract, ByteArray.size_append] at h_; omega))
                   have c25b1 : decide (x210001_1.size + (a0.extract (x8_1 : Int).toNat ((wrap64 (x8_1 + 1)) : Int).toNat).size ≤ 9223372036854775807) = true := decide_eq_true c25
                   try have c25b2 : (9223372036854775807 < x210001_1.size + (a0.extract (x8_1 : Int).toNat ((wrap64 (x8_1 + 1)) : Int).toNat).size) = False := eq_false (Nat.not_lt.2 c25)
                   have H' := Aside0.mk H
                   clear H
                   have p11 : 0 ≤ (x8_1 : Int) := of_decide_eq_true (by (with_reducible assumption))
                   have q11 : x8_1 < (a0.size : Int) := of_decide_eq_true (by (with_reducible assumption))
                   have hx11 := bt_at a0 x8_1
                   replace p11 := eq_true p11
                   replace q11 := eq_true q11
                   have p15 : 0 ≤ (x8_1 : Int) := of_decide_eq_true (by (with_reducible assumption))
                   have q15 : x8_1 < (a0.size : Int) := of_decide_eq_true (by (with_reducible assumption))
                   have hx15 := bt_at a0 x8_1
                   replace p15 := eq_true p15
                   replace q15 := eq_true q15
                   have hnb26 := NB209_205.out
                   have hnc26 := NB205_209.out
                   have hcz27_0 : wr.cell? ⟨gb209, 0, none⟩ = some (.bool x210000_1) := (blk_cell BK209.out 0).trans rfl
                   have hcz27_1 : wr.cell? ⟨gb209, 1, none⟩ = some (.string x210001_1) := (blk_cell BK209.out 1).trans rfl
                   have hcz27_2 : wr.cell? ⟨gb209, 2, none⟩ = some (.int .i64 0) := (blk_cell BK209.out 2).trans rfl
                   have hfz27_0 := blk_frozen BK209.out 0
                   have hfz27_1 := blk_frozen BK209.out 1
                   have hfz27_2 := blk_frozen BK209.out 2
                   have p18 : 0 ≤ (x8_1 : Int) := of_decide_eq_true (by (with_reducible assumption))
                   have q18 : x8_1 < (a0.size : Int) := of_decide_eq_true (by (with_reducible assumption))
                   have hx18 := bt_at a0 x8_1
                   replace p18 := eq_true p18
                   replace q18 := eq_true q18
                   try go_wp2
                   have n0_ := Aside0.mk (blk_drew BK205.out)
                   have n1_ := Aside0.mk (blk_drew BK209.out)
                   have n2_ := Aside0.mk (below_drew1 HB.out)
                   clear BK205
                   clear BK209
                   clear HB
                   have BK205 := n0_
                   have BK209 := n1_
                   have HB := n2_
                   clear n0_ n1_ n2_
                   refine start_ (n := 10) (S := fun w' => w'.cell? ⟨gb209, 0, none⟩ = some (.bool x210000_1) ∧ w'.cell? ⟨gb209, 1, none⟩ = some (.string x210001_1) ∧ w'.cell? ⟨gb209, 2, none⟩ = some (.int .i64 0)) (ds := [9]) #[false, false, false, false, false, false, false, false, false, false] (by kernel_rfl) rfl rfl ⟨(blk_cell BK209.out 0).trans rfl, (blk_cell BK209.out 1).trans rfl, (blk_cell BK209.out 2).trans rfl⟩ (fun hHeld => ?_); refine with_tabW R4Parse.tab11 R4Parse.bits11 (fun HT_ HW_ => ?_)
                   generalize wr.drew = w28 at BK205 BK209 HB hHeld ⊢
                   refine pure_ (i := 0) (N := some 48) (v := ?_) (a' := ?_) #[true, false, false, false, false, false, false, false, false, false] rfl rfl (any_of HT_.out (by kernel_rfl)) (fun _ _ _ h => h) (Or.inl ⟨by rfl, ?_⟩) ?_ ?_
                   rotate_left
                   · intro w'
                     go_simp
                     with_reducible rfl
                   rotate_left
                   · simp only [Act.put, List.setIfInBounds_toArray, List.set_cons_zero, List.set_cons_succ, i64_w, i32_w]
                     rfl
                   refine pure_ (i := 2) (N := some 50) (v := ?_) (a' := ?_) #[true, false, true, false, false, false, false, false, false, false] rfl rfl (any_of HT_.out (by kernel_rfl)) (fun _ _ _ h => h) (Or.inl ⟨by rfl, ?_⟩) ?_ ?_
                   rotate_left
                   · intro w'
                     go_simp
                     with_reducible rfl
                   rotate_left
                   · simp only [Act.put, List.setIfInBounds_toArray, List.set_cons_zero, List.set_cons_succ, i64_w, i32_w]
                     rfl
                   refine pure_ (i := 3) (N := some 51) (v := ?_) (a' := ?_) #[true, false, true, true, false, false, false, false, false, false] rfl rfl (any_of HT_.out (by kernel_rfl)) (fun _ _ _ h => h) (Or.inl ⟨by rfl, ?_⟩) ?_ ?_
                   rotate_left
                   · intro w'
                     go_simp
                     with_reducible rfl
                   rotate_left
                   · simp only [Act.put, List.setIfInBounds_toArray, List.set_cons_zero, List.set_cons_succ, i64_w, i32_w]
                     rfl
                   refine pure_ (i := 4) (N := some 52) (v := ?_) (a' := ?_) #[true, false, true, true, true, false, false, false, false, false] rfl rfl (any_of HT_.out (by kernel_rfl)) (fun _ _ _ h => h) (Or.inl ⟨by rfl, ?_⟩) ?_ ?_
                   rotate_left
                   · intro w'
                     go_simp
                     with_reducible rfl
                   rotate_left
                   · simp only [Act.put, List.setIfInBounds_toArray, List.set_cons_zero, List.set_cons_succ, i64_w, i32_w]
                     rfl
                   refine pure_ (i := 5) (N := some 53) (v := ?_) (a' := ?_) #[true, false, true, true, true, true, false, false, false, false] rfl rfl (any_of HT_.out (by kernel_rfl)) (fun _ _ _ h => h) (Or.inl ⟨by rfl, ?_⟩) ?_ ?_
                   rotate_left
                   · intro w'
                     go_simp
                     with_reducible rfl
                   rotate_left
                   · simp only [Act.put, List.setIfInBounds_toArray, List.set_cons_zero, List.set_cons_succ, i64_w, i32_w]
                     rfl
                   refine pure_ (i := 6) (N := some 54) (v := ?_) (a' := ?_) #[true, false, true, true, true, true, true, false, false, false] rfl rfl (any_of HT_.out (by kernel_rfl)) (fun _ _ _ h => h) (Or.inl ⟨by rfl, ?_⟩) ?_ ?_
                   rotate_left
                   · intro w'
                     go_simp
                     with_reducible rfl
                   rotate_left
                   · simp only [Act.put, List.setIfInBounds_toArray, List.set_cons_zero, List.set_cons_succ, i64_w, i32_w]
                     rfl
                   refine take_ (i := 1) (N := some 49) (v := ?_) (a' := ?_) #[true, true, true, true, true, true, true, false, false, false] rfl rfl (take_ofW HT_.out HW_.out (by kernel_rfl)) (fun _ _ _ h => h) (Or.inl ⟨by rfl, ?_⟩) hHeld ?_ ?_
                   rotate_left
                   · rintro w' ⟨s0, s1, s2⟩
                     go_simp
                     with_reducible rfl
                   rotate_left
                   · simp only [Act.put, List.setIfInBounds_toArray, List.set_cons_zero, List.set_cons_succ, i64_w, i32_w]
                     rfl
                   refine pure_ (i := 7) (N := some 55) (v := ?_) (a' := ?_) #[true, true, true, true, true, true, true, true, false, false] rfl rfl (any_of HT_.out (by kernel_rfl)) (fun _ _ _ h => h) (Or.inl ⟨by rfl, ?_⟩) ?_ ?_
                   rotate_left
                   · intro w'
                     go_simp
                     with_reducible rfl
                   rotate_left
                   · simp only [Act.put, List.setIfInBounds_toArray, List.set_cons_zero, List.set_cons_succ, i64_w, i32_w]
                     rfl
                   refine pure_ (i := 8) (N := some 56) (v := ?_) (a' := ?_) #[true, true, true, true, true, true, true, true, true, false] rfl rfl (any_of HT_.out (by kernel_rfl)) (fun _ _ _ h => h) (Or.inl ⟨by rfl, ?_⟩) ?_ ?_
                   rotate_left
                   · intro w'
                     go_simp
                     with_reducible rfl
                   rotate_left
                   · simp only [Act.put, List.setIfInBounds_toArray, List.set_cons_zero, List.set_cons_succ, i64_w, i32_w]
                     rfl
                   refine last_ (i := 9) (N := none) #[true, true, true, true, true, true, true, true, true, true] rfl rfl (one_of HT_.out (by kernel_rfl)) (by decide) (fun K hK => ?_)
                   have hs29 : w28.cell? ⟨gb209, 1, none⟩ = some (.string x210001_1) := (blk_cell BK209.out 1).trans rfl
                   have hfs29 := blk_frozen BK209.out 1
                   have hns29_0 := NB205_209.out
                   have hms29_0 := NB209_205.out
                   refine skip_ (w1 := ?_) (by rfl) rfl ?_ ?_
                   rotate_left
                   · go_simp
                     rfl
                   refine hK.out _ _ ?_
                   clear hK K
                   refine done_ (done_of HT_.out (by kernel_rfl)) ?_
                   try go_wp2
                   go_roundg k1
                   case measure => have := HK1.out; omega
                   case rel => exact ⟨(wrap64 (x8_1 + 1)), (x210000_1), (x210001_1 ++ (a0.extract (x8_1 : Int).toNat ((wrap64 (x8_1 + 1)) : Int).toNat)), (by (rfl)), (by (exact H')), ⟨by have := HK1.out; omega⟩, ⟨by (with_reducible repeat (first | refine blk_drewN ?_ _ | refine blk_drew ?_ | refine blk_alloc ?_ _)); refine blk_far ?_ NB205_209.out _; (with_reducible repeat (first | refine blk_drewN ?_ _ | refine blk_drew ?_ | refine blk_alloc ?_ _)); exact BK205.out⟩, ⟨by (with_reducible repeat (first | refine blk_drewN ?_ _ | refine blk_drew ?_ | refine blk_alloc ?_ _)); refine blk_put (cs := #[.bool x210000_1, .string x210001_1, .int .i64 0]) ?_ 1 _ rfl; (with_reducible repeat (first | refine blk_drewN ?_ _ | refine blk_drew ?_ | refine blk_alloc ?_ _)); exact BK209.out⟩, ⟨by repeat ((with_reducible first | exact HB.out | refine below_set ?_ GE209.out))⟩⟩
                 rw [if_neg c25] at H
                 exact absurd H (by simp)
               rw [if_neg c24] at H
               exact absurd H (by simp)
             rw [if_neg c23] at H
             exact absurd H (by simp)
           rw [if_neg c17] at H
           have c17b0 : (x210001_1.toList == ([] : List UInt8)) = false := beq_eq_false_iff_ne.mpr c17
           have c17b7 : x210001_1.toList.isEmpty = false := by rw [← beq_nil_isEmpty]; exact c17b0
           have c17b1 : (x210001_1.toList != ([] : List UInt8)) = true := bne_iff_ne.mpr c17
           have c30b0 := eq_true (of_decide_eq_true (by (with_reducible assumption)) : 0 ≤ x8_1)
           by_cases c31 : x8_1 ≤ (wrap64 (x8_1 + 1))
           · rw [if_pos c31] at H
             have c31b0 := eq_true c31
             have c31b1 : decide (x8_1 ≤ (wrap64 (x8_1 + 1))) = true := decide_eq_true c31
             by_cases c32 : (wrap64 (x8_1 + 1)) ≤ (a0.size : Int)
             · rw [if_pos c32] at H
               have c32b0 := eq_true c32
               have c32b1 : decide ((wrap64 (x8_1 + 1)) ≤ (a0.size : Int)) = true := decide_eq_true c32
               by_cases c33 : x210001_1.size + (a0.extract (x8_1 : Int).toNat ((wrap64 (x8_1 + 1)) : Int).toNat).size ≤ 9223372036854775807
               · rw [if_pos c33] at H
                 have c33b0 := eq_true c33
                 try have c33b8 : (9223372036854775807 < x210001_1.size + ((wrap64 (x8_1 + 1)).toNat - x8_1.toNat)) = False := eq_false (Nat.not_lt.2 (by have h_ := c33; have g0_ : (wrap64 (x8_1 + 1) : Int) ≤ (a0.size : Int) := of_decide_eq_true (by (with_reducible assumption)); simp only [ByteArray.size_extract, ByteArray.size_append] at h_; omega))
                 have c33b1 : decide (x210001_1.size + (a0.extract (x8_1 : Int).toNat ((wrap64 (x8_1 + 1)) : Int).toNat).size ≤ 9223372036854775807) = true := decide_eq_true c33
                 try have c33b2 : (9223372036854775807 < x210001_1.size + (a0.extract (x8_1 : Int).toNat ((wrap64 (x8_1 + 1)) : Int).toNat).size) = False := eq_false (Nat.not_lt.2 c33)
                 have H' := Aside0.mk H
                 clear H
                 have p11 : 0 ≤ (x8_1 : Int) := of_decide_eq_true (by (with_reducible assumption))
                 have q11 : x8_1 < (a0.size : Int) := of_decide_eq_true (by (with_reducible assumption))
                 have hx11 := bt_at a0 x8_1
                 replace p11 := eq_true p11
                 replace q11 := eq_true q11
                 have p15 : 0 ≤ (x8_1 : Int) := of_decide_eq_true (by (with_reducible assumption))
                 have q15 : x8_1 < (a0.size : Int) := of_decide_eq_true (by (with_reducible assumption))
                 have hx15 := bt_at a0 x8_1
                 replace p15 := eq_true p15
                 replace q15 := eq_true q15
                 have hnb34 := NB209_205.out
                 have hnc34 := NB205_209.out
                 have hcz35_0 : wr.cell? ⟨gb209, 0, none⟩ = some (.bool x210000_1) := (blk_cell BK209.out 0).trans rfl
                 have hcz35_1 : wr.cell? ⟨gb209, 1, none⟩ = some (.string x210001_1) := (blk_cell BK209.out 1).trans rfl
                 have hcz35_2 : wr.cell? ⟨gb209, 2, none⟩ = some (.int .i64 0) := (blk_cell BK209.out 2).trans rfl
                 have hfz35_0 := blk_frozen BK209.out 0
                 have hfz35_1 := blk_frozen BK209.out 1
                 have hfz35_2 := blk_frozen BK209.out 2
                 try go_wp2
                 have n0_ := Aside0.mk (blk_drew BK205.out)
                 have n1_ := Aside0.mk (blk_drew BK209.out)
                 have n2_ := Aside0.mk (below_drew1 HB.out)
                 clear BK205
                 clear BK209
                 clear HB
                 have BK205 := n0_
                 have BK209 := n1_
                 have HB := n2_
                 clear n0_ n1_ n2_
                 refine start_ (n := 10) (S := fun w' => w'.cell? ⟨gb209, 0, none⟩ = some (.bool x210000_1) ∧ w'.cell? ⟨gb209, 1, none⟩ = some (.string x210001_1) ∧ w'.cell? ⟨gb209, 2, none⟩ = some (.int .i64 0)) (ds := [9]) #[false, false, false, false, false, false, false, false, false, false] (by kernel_rfl) rfl rfl ⟨(blk_cell BK209.out 0).trans rfl, (blk_cell BK209.out 1).trans rfl, (blk_cell BK209.out 2).trans rfl⟩ (fun hHeld => ?_); refine with_tabW R4Parse.tab11 R4Parse.bits11 (fun HT_ HW_ => ?_)
                 generalize wr.drew = w36 at BK205 BK209 HB hHeld ⊢
                 refine pure_ (i := 0) (N := some 48) (v := ?_) (a' := ?_) #[true, false, false, false, false, false, false, false, false, false] rfl rfl (any_of HT_.out (by kernel_rfl)) (fun _ _ _ h => h) (Or.inl ⟨by rfl, ?_⟩) ?_ ?_
                 rotate_left
                 · intro w'
                   go_simp
                   with_reducible rfl
                 rotate_left
                 · simp only [Act.put, List.setIfInBounds_toArray, List.set_cons_zero, List.set_cons_succ, i64_w, i32_w]
                   rfl
                 refine pure_ (i := 2) (N := some 50) (v := ?_) (a' := ?_) #[true, false, true, false, false, false, false, false, false, false] rfl rfl (any_of HT_.out (by kernel_rfl)) (fun _ _ _ h => h) (Or.inl ⟨by rfl, ?_⟩) ?_ ?_
                 rotate_left
                 · intro w'
                   go_simp
                   with_reducible rfl
                 rotate_left
                 · simp only [Act.put, List.setIfInBounds_toArray, List.set_cons_zero, List.set_cons_succ, i64_w, i32_w]
                   rfl
                 refine pure_ (i := 3) (N := some 51) (v := ?_) (a' := ?_) #[true, false, true, true, false, false, false, false, false, false] rfl rfl (any_of HT_.out (by kernel_rfl)) (fun _ _ _ h => h) (Or.inl ⟨by rfl, ?_⟩) ?_ ?_
                 rotate_left
                 · intro w'
                   go_simp
                   with_reducible rfl
                 rotate_left
                 · simp only [Act.put, List.setIfInBounds_toArray, List.set_cons_zero, List.set_cons_succ, i64_w, i32_w]
                   rfl
                 refine pure_ (i := 4) (N := some 52) (v := ?_) (a' := ?_) #[true, false, true, true, true, false, false, false, false, false] rfl rfl (any_of HT_.out (by kernel_rfl)) (fun _ _ _ h => h) (Or.inl ⟨by rfl, ?_⟩) ?_ ?_
                 rotate_left
                 · intro w'
                   go_simp
                   with_reducible rfl
                 rotate_left
                 · simp only [Act.put, List.setIfInBounds_toArray, List.set_cons_zero, List.set_cons_succ, i64_w, i32_w]
                   rfl
                 refine pure_ (i := 5) (N := some 53) (v := ?_) (a' := ?_) #[true, false, true, true, true, true, false, false, false, false] rfl rfl (any_of HT_.out (by kernel_rfl)) (fun _ _ _ h => h) (Or.inl ⟨by rfl, ?_⟩) ?_ ?_
                 rotate_left
                 · intro w'
                   go_simp
                   with_reducible rfl
                 rotate_left
                 · simp only [Act.put, List.setIfInBounds_toArray, List.set_cons_zero, List.set_cons_succ, i64_w, i32_w]
                   rfl
                 refine pure_ (i := 6) (N := some 54) (v := ?_) (a' := ?_) #[true, false, true, true, true, true, true, false, false, false] rfl rfl (any_of HT_.out (by kernel_rfl)) (fun _ _ _ h => h) (Or.inl ⟨by rfl, ?_⟩) ?_ ?_
                 rotate_left
                 · intro w'
                   go_simp
                   with_reducible rfl
                 rotate_left
                 · simp only [Act.put, List.setIfInBounds_toArray, List.set_cons_zero, List.set_cons_succ, i64_w, i32_w]
                   rfl
                 refine take_ (i := 1) (N := some 49) (v := ?_) (a' := ?_) #[true, true, true, true, true, true, true, false, false, false] rfl rfl (take_ofW HT_.out HW_.out (by kernel_rfl)) (fun _ _ _ h => h) (Or.inl ⟨by rfl, ?_⟩) hHeld ?_ ?_
                 rotate_left
                 · rintro w' ⟨s0, s1, s2⟩
                   go_simp
                   with_reducible rfl
                 rotate_left
                 · simp only [Act.put, List.setIfInBounds_toArray, List.set_cons_zero, List.set_cons_succ, i64_w, i32_w]
                   rfl
                 refine pure_ (i := 7) (N := some 55) (v := ?_) (a' := ?_) #[true, true, true, true, true, true, true, true, false, false] rfl rfl (any_of HT_.out (by kernel_rfl)) (fun _ _ _ h => h) (Or.inl ⟨by rfl, ?_⟩) ?_ ?_
                 rotate_left
                 · intro w'
                   go_simp
                   with_reducible rfl
                 rotate_left
                 · simp only [Act.put, List.setIfInBounds_toArray, List.set_cons_zero, List.set_cons_succ, i64_w, i32_w]
                   rfl
                 refine pure_ (i := 8) (N := some 56) (v := ?_) (a' := ?_) #[true, true, true, true, true, true, true, true, true, false] rfl rfl (any_of HT_.out (by kernel_rfl)) (fun _ _ _ h => h) (Or.inl ⟨by rfl, ?_⟩) ?_ ?_
                 rotate_left
                 · intro w'
                   go_simp
                   with_reducible rfl
                 rotate_left
                 · simp only [Act.put, List.setIfInBounds_toArray, List.set_cons_zero, List.set_cons_succ, i64_w, i32_w]
                   rfl
                 refine last_ (i := 9) (N := none) #[true, true, true, true, true, true, true, true, true, true] rfl rfl (one_of HT_.out (by kernel_rfl)) (by decide) (fun K hK => ?_)
                 have hs37 : w36.cell? ⟨gb209, 1, none⟩ = some (.string x210001_1) := (blk_cell BK209.out 1).trans rfl
                 have hfs37 := blk_frozen BK209.out 1
                 have hns37_0 := NB205_209.out
                 have hms37_0 := NB209_205.out
                 refine skip_ (w1 := ?_) (by rfl) rfl ?_ ?_
                 rotate_left
                 · go_simp
                   rfl
                 refine hK.out _ _ ?_
                 clear hK K
                 refine done_ (done_of HT_.out (by kernel_rfl)) ?_
                 try go_wp2
                 go_roundg k1
                 case measure => have := HK1.out; omega
                 case rel => exact ⟨(wrap64 (x8_1 + 1)), (x210000_1), (x210001_1 ++ (a0.extract (x8_1 : Int).toNat ((wrap64 (x8_1 + 1)) : Int).toNat)), (by (rfl)), (by (exact H')), ⟨by have := HK1.out; omega⟩, ⟨by (with_reducible repeat (first | refine blk_drewN ?_ _ | refine blk_drew ?_ | refine blk_alloc ?_ _)); refine blk_far ?_ NB205_209.out _; (with_reducible repeat (first | refine blk_drewN ?_ _ | refine blk_drew ?_ | refine blk_alloc ?_ _)); exact BK205.out⟩, ⟨by (with_reducible repeat (first | refine blk_drewN ?_ _ | refine blk_drew ?_ | refine blk_alloc ?_ _)); refine blk_put (cs := #[.bool x210000_1, .string x210001_1, .int .i64 0]) ?_ 1 _ rfl; (with_reducible repeat (first | refine blk_drewN ?_ _ | refine blk_drew ?_ | refine blk_alloc ?_ _)); exact BK209.out⟩, ⟨by repeat ((with_reducible first | exact HB.out | refine below_set ?_ GE209.out))⟩⟩
               rw [if_neg c33] at H
               exact absurd H (by simp)
             rw [if_neg c32] at H
             exact absurd H (by simp)
           rw [if_neg c31] at H
           exact absurd H (by simp)
         rw [if_neg c10] at H
         exact absurd H (by simp)
       rw [if_neg c9] at H
       exact absurd H (by simp)
     rw [if_neg c8] at H
     have c8b0 : decide (x8_1 < t208) = false := decide_eq_false c8
     clear c8
     have HC38 := Aside0.mk H
     clear H
     go_upto_if 59 with (fail)
     go_cut [] (fun wc => ∃ (kq : Nat) (x210002_37 : Int), Aside0 (R4Parse.j1 kq a0 t208 x210000_1 x210001_1 x210002_37 = some (r1, r2, r3, r4)) ∧ Aside0 (kq ≤ k1) ∧ Aside0 (wc.heap[gb205]? = some (.cells #[.bool false, .string (⟨#[]⟩ : ByteArray), .int .i64 0] 32 (0, 0))) ∧ Aside0 (wc.heap[gb209]? = some (.cells #[.bool x210000_1, .string x210001_1, .int .i64 x210002_37] 32 (0, 0))) ∧ Aside0 (Below w.heap.size w wc))
     case first =>
      have H := HC38.out
      clear HC38
      by_cases c39 : t208 > t207
      · rw [if_pos c39] at H
        have c39b0 : decide (t207 < t208) = true := decide_eq_true c39
        clear c39
        (rw [c39b0])
        have H' := Aside0.mk H
        clear H
        have hnb40 := NB209_205.out
        have hnc40 := NB205_209.out
        have hcz41_0 : wr.cell? ⟨gb209, 0, none⟩ = some (.bool x210000_1) := (blk_cell BK209.out 0).trans rfl
        have hcz41_1 : wr.cell? ⟨gb209, 1, none⟩ = some (.string x210001_1) := (blk_cell BK209.out 1).trans rfl
        have hcz41_2 : wr.cell? ⟨gb209, 2, none⟩ = some (.int .i64 0) := (blk_cell BK209.out 2).trans rfl
        have hfz41_0 := blk_frozen BK209.out 0
        have hfz41_1 := blk_frozen BK209.out 1
        have hfz41_2 := blk_frozen BK209.out 2
        go_wp2
        go_meet
        case rel => exact ⟨_, (wrap64 ((wrap64 (t207 + 1)) - t208)), (by (exact H')), ⟨by have := HK1.out; (omega)⟩, ⟨by (with_reducible repeat (first | refine blk_drewN ?_ _ | refine blk_drew ?_ | refine blk_alloc ?_ _)); refine blk_far ?_ NB205_209.out _; (with_reducible repeat (first | refine blk_drewN ?_ _ | refine blk_drew ?_ | refine blk_alloc ?_ _)); exact BK205.out⟩, ⟨by (with_reducible repeat (first | refine blk_drewN ?_ _ | refine blk_drew ?_ | refine blk_alloc ?_ _)); refine blk_put (cs := #[.bool x210000_1, .string x210001_1, .int .i64 0]) ?_ 2 _ rfl; (with_reducible repeat (first | refine blk_drewN ?_ _ | refine blk_drew ?_ | refine blk_alloc ?_ _)); exact BK209.out⟩, ⟨by repeat ((with_reducible first | exact HB.out | refine below_set ?_ GE209.out))⟩⟩
      rw [if_neg c39] at H
      have c39b0 : decide (t207 < t208) = false := decide_eq_false c39
      clear c39
      (rw [c39b0])
      have H' := Aside0.mk H
      clear H
      go_wp2
      go_meet
      case rel => exact ⟨_, (0), (by (exact H')), ⟨by have := HK1.out; (omega)⟩, ⟨by (with_reducible repeat (first | refine blk_drewN ?_ _ | refine blk_drew ?_ | refine blk_alloc ?_ _)); exact BK205.out⟩, ⟨by (with_reducible repeat (first | refine blk_drewN ?_ _ | refine blk_drew ?_ | refine blk_alloc ?_ _)); exact BK209.out⟩, ⟨by repeat ((with_reducible (exact HB.out)))⟩⟩
     case rest =>
      clear HC38
      try clear c8b0
      obtain ⟨kq, x210002_37, HA, HJ37, BK205, BK209, HB⟩ := hcut
      cases kq with
      | zero => exact absurd HA.out (by simp [R4Parse.j1])
      | succ kj37 =>
       have H := HA.out
       clear HA
       simp only [R4Parse.j1] at H
       have H' := Aside0.mk H
       clear H
       go_wp2
       go_loopg [9, 10, 11] kj37 (fun kq v9 v10 v11 w' => ∃ (x9_3 : Int) (x10_3 : Bool) (x11_3 : Int), v9 = .int .i64 x9_3 ∧ v10 = .bool x10_3 ∧ v11 = .int .i64 x11_3 ∧ Aside0 (R4Parse.l1 kq a0 x9_3 x10_3 x11_3 x210000_1 x210001_1 x210002_37 = some (r1, r2, r3, r4)) ∧ Aside0 (kq ≤ kj37) ∧ Aside0 (w'.heap[gb205]? = some (.cells #[.bool false, .string (⟨#[]⟩ : ByteArray), .int .i64 0] 32 (0, 0))) ∧ Aside0 (w'.heap[gb209]? = some (.cells #[.bool x210000_1, .string x210001_1, .int .i64 x210002_37] 32 (0, 0))) ∧ Aside0 (Below w.heap.size w w'))
       case atStart => exact ⟨(0), (false), (wrap64 (t208 + 1)), (by (rfl)), (by (rfl)), (by (rfl)), H', ⟨Nat.le_refl _⟩, ⟨by (with_reducible repeat (first | refine blk_drewN ?_ _ | refine blk_drew ?_ | refine blk_alloc ?_ _)); exact BK205.out⟩, ⟨by (with_reducible repeat (first | refine blk_drewN ?_ _ | refine blk_drew ?_ | refine blk_alloc ?_ _)); exact BK209.out⟩, ⟨by repeat ((with_reducible (exact HB.out)))⟩⟩
       case round =>
        clear H'
        obtain ⟨x9_3, x10_3, x11_3, rfl, rfl, rfl, HA, HK3, BK205, BK209, HB⟩ := hrel
        cases gk with
        | zero => exact absurd HA.out (by simp [R4Parse.l1])
        | succ k3 =>
         have H := HA.out
         clear HA
         simp only [R4Parse.l1] at H
         by_cases c42 : x11_3 < (a0.size : Int)
         · rw [if_pos c42] at H
           have c42b0 : decide (x11_3 < (a0.size : Int)) = true := decide_eq_true c42
           clear c42
           by_cases c43 : 0 ≤ x11_3
           · rw [if_pos c43] at H
             have c43b0 : decide (0 ≤ x11_3) = true := decide_eq_true c43
             clear c43
             by_cases c45 : (bt a0 x11_3) = 45
             · rw [if_pos c45] at H
               have c45b0 : ((bt a0 x11_3) == 45) = true := beq_iff_eq.mpr c45
               have c45b1 : ((bt a0 x11_3) != 45) = false := bne_eq_false_iff_eq.mpr c45
               clear c45
               have H' := Aside0.mk H
               clear H
               have p44 : 0 ≤ (x11_3 : Int) := of_decide_eq_true (by (with_reducible assumption))
               have q44 : x11_3 < (a0.size : Int) := of_decide_eq_true (by (with_reducible assumption))
               have hx44 := bt_at a0 x11_3
               replace p44 := eq_true p44
               replace q44 := eq_true q44
               go_wp2
               go_roundg k3
               case measure => have := HK1.out; have := HJ37.out; have := HK3.out; omega
               case rel => exact ⟨(x9_3), (true), (wrap64 (x11_3 + 1)), (by (rfl)), (by (rfl)), (by (rfl)), (by (exact H')), ⟨by have := HK1.out; have := HJ37.out; have := HK3.out; omega⟩, ⟨by (with_reducible repeat (first | refine blk_drewN ?_ _ | refine blk_drew ?_ | refine blk_alloc ?_ _)); exact BK205.out⟩, ⟨by (with_reducible repeat (first | refine blk_drewN ?_ _ | refine blk_drew ?_ | refine blk_alloc ?_ _)); exact BK209.out⟩, ⟨by repeat ((with_reducible (exact HB.out)))⟩⟩
             rw [if_neg c45] at H
             have c45b0 : ((bt a0 x11_3) == 45) = false := beq_eq_false_iff_ne.mpr c45
             have c45b1 : ((bt a0 x11_3) != 45) = true := bne_iff_ne.mpr c45
             by_cases c47 : (bt a0 x11_3) = 43
             · rw [if_pos c47] at H
               have c47b0 : ((bt a0 x11_3) == 43) = true := beq_iff_eq.mpr c47
               have c47b1 : ((bt a0 x11_3) != 43) = false := bne_eq_false_iff_eq.mpr c47
               clear c47
               have H' := Aside0.mk H
               clear H
               have p44 : 0 ≤ (x11_3 : Int) := of_decide_eq_true (by (with_reducible assumption))
               have q44 : x11_3 < (a0.size : Int) := of_decide_eq_true (by (with_reducible assumption))
               have hx44 := bt_at a0 x11_3
               replace p44 := eq_true p44
               replace q44 := eq_true q44
               have p46 : 0 ≤ (x11_3 : Int) := of_decide_eq_true (by (with_reducible assumption))
               have q46 : x11_3 < (a0.size : Int) := of_decide_eq_true (by (with_reducible assumption))
               have hx46 := bt_at a0 x11_3
               replace p46 := eq_true p46
               replace q46 := eq_true q46
               go_wp2
               go_roundg k3
               case measure => have := HK1.out; have := HJ37.out; have := HK3.out; omega
               case rel => exact ⟨(x9_3), (x10_3), (wrap64 (x11_3 + 1)), (by (rfl)), (by (rfl)), (by (rfl)), (by (exact H')), ⟨by have := HK1.out; have := HJ37.out; have := HK3.out; omega⟩, ⟨by (with_reducible repeat (first | refine blk_drewN ?_ _ | refine blk_drew ?_ | refine blk_alloc ?_ _)); exact BK205.out⟩, ⟨by (with_reducible repeat (first | refine blk_drewN ?_ _ | refine blk_drew ?_ | refine blk_alloc ?_ _)); exact BK209.out⟩, ⟨by repeat ((with_reducible (exact HB.out)))⟩⟩
             rw [if_neg c47] at H
             have c47b0 : ((bt a0 x11_3) == 43) = false := beq_eq_false_iff_ne.mpr c47
             have c47b1 : ((bt a0 x11_3) != 43) = true := bne_iff_ne.mpr c47
             obtain ⟨ji49, hji49⟩ : ∃ j_ : Int, (mn (wrap64 ((wrap64 ((wrap64 (10 * x9_3)) + (wrap64 (bt a0 x11_3)))) - 48)) 1000000) = j_ := ⟨_, rfl⟩
             replace H : (R4Parse.l1 k3 a0 ji49 x10_3 (wrap64 (x11_3 + 1)) x210000_1 x210001_1 x210002_37) = some (r1, r2, r3, r4) := by (rw [hji49] at H; exact H)
             have hji49_ : (if 1000000 < (wrap64 ((wrap64 ((wrap64 (10 * x9_3)) + (wrap64 (bt a0 x11_3)))) - 48)) then 1000000 else (wrap64 ((wrap64 ((wrap64 (10 * x9_3)) + (wrap64 (bt a0 x11_3)))) - 48))) = ji49 := hji49
             have H' := Aside0.mk H
             clear H
             have p44 : 0 ≤ (x11_3 : Int) := of_decide_eq_true (by (with_reducible assumption))
             have q44 : x11_3 < (a0.size : Int) := of_decide_eq_true (by (with_reducible assumption))
             have hx44 := bt_at a0 x11_3
             replace p44 := eq_true p44
             replace q44 := eq_true q44
             have p46 : 0 ≤ (x11_3 : Int) := of_decide_eq_true (by (with_reducible assumption))
             have q46 : x11_3 < (a0.size : Int) := of_decide_eq_true (by (with_reducible assumption))
             have hx46 := bt_at a0 x11_3
             replace p46 := eq_true p46
             replace q46 := eq_true q46
             have p48 : 0 ≤ (x11_3 : Int) := of_decide_eq_true (by (with_reducible assumption))
             have q48 : x11_3 < (a0.size : Int) := of_decide_eq_true (by (with_reducible assumption))
             have hx48 := bt_at a0 x11_3
             replace p48 := eq_true p48
             replace q48 := eq_true q48
             go_wp2
             go_roundg k3
             case measure => have := HK1.out; have := HJ37.out; have := HK3.out; omega
             case rel => exact ⟨(ji49), (x10_3), (wrap64 (x11_3 + 1)), (by (rfl)), (by (rfl)), (by (rfl)), (by (exact H')), ⟨by have := HK1.out; have := HJ37.out; have := HK3.out; omega⟩, ⟨by (with_reducible repeat (first | refine blk_drewN ?_ _ | refine blk_drew ?_ | refine blk_alloc ?_ _)); exact BK205.out⟩, ⟨by (with_reducible repeat (first | refine blk_drewN ?_ _ | refine blk_drew ?_ | refine blk_alloc ?_ _)); exact BK209.out⟩, ⟨by repeat ((with_reducible (exact HB.out)))⟩⟩
           rw [if_neg c43] at H
           exact absurd H (by simp)
         rw [if_neg c42] at H
         have c42b0 : decide (x11_3 < (a0.size : Int)) = false := decide_eq_false c42
         clear c42
         have HC50 := Aside0.mk H
         clear H
         go_upto_if 90 with (fail)
         go_cut [9] (fun v9 wc => ∃ (kq : Nat) (x9_49 : Int), v9 = .int .i64 x9_49 ∧ Aside0 (R4Parse.j3 kq x9_49 x210000_1 x210001_1 x210002_37 = some (r1, r2, r3, r4)) ∧ Aside0 (kq ≤ k3) ∧ Aside0 (wc.heap[gb205]? = some (.cells #[.bool false, .string (⟨#[]⟩ : ByteArray), .int .i64 0] 32 (0, 0))) ∧ Aside0 (wc.heap[gb209]? = some (.cells #[.bool x210000_1, .string x210001_1, .int .i64 x210002_37] 32 (0, 0))) ∧ Aside0 (Below w.heap.size w wc))
         case first =>
          have H := HC50.out
          clear HC50
          by_cases c51 : x10_3 = true
          · subst c51
            have H1 : (R4Parse.j3 k3 (wrap64 (-x9_3)) x210000_1 x210001_1 x210002_37) = some (r1, r2, r3, r4) := by rw [if_pos rfl] at H; exact H
            clear H
            have H := H1
            clear H1
            have H' := Aside0.mk H
            clear H
            go_wp2
            go_meet
            case rel => exact ⟨_, (wrap64 (-x9_3)), (by (rfl)), (by (exact H')), ⟨by have := HK1.out; have := HJ37.out; have := HK3.out; (omega)⟩, ⟨by (with_reducible repeat (first | refine blk_drewN ?_ _ | refine blk_drew ?_ | refine blk_alloc ?_ _)); exact BK205.out⟩, ⟨by (with_reducible repeat (first | refine blk_drewN ?_ _ | refine blk_drew ?_ | refine blk_alloc ?_ _)); exact BK209.out⟩, ⟨by repeat ((with_reducible (exact HB.out)))⟩⟩
          replace c51 := Bool.eq_false_iff.mpr c51
          subst c51
          have H1 : (R4Parse.j3 k3 x9_3 x210000_1 x210001_1 x210002_37) = some (r1, r2, r3, r4) := by rw [if_neg (show ¬ (false = true) by decide)] at H; exact H
          clear H
          have H := H1
          clear H1
          have H' := Aside0.mk H
          clear H
          go_wp2
          go_meet
          case rel => exact ⟨_, (x9_3), (by (rfl)), (by (exact H')), ⟨by have := HK1.out; have := HJ37.out; have := HK3.out; (omega)⟩, ⟨by (with_reducible repeat (first | refine blk_drewN ?_ _ | refine blk_drew ?_ | refine blk_alloc ?_ _)); exact BK205.out⟩, ⟨by (with_reducible repeat (first | refine blk_drewN ?_ _ | refine blk_drew ?_ | refine blk_alloc ?_ _)); exact BK209.out⟩, ⟨by repeat ((with_reducible (exact HB.out)))⟩⟩
         case rest =>
          clear HC50
          try clear c42b0
          obtain ⟨kq, x9_49, rfl, HA, HJ49, BK205, BK209, HB⟩ := hcut
          cases kq with
          | zero => exact absurd HA.out (by simp [R4Parse.j3])
          | succ kj49 =>
           have H := HA.out
           clear HA
           simp only [R4Parse.j3] at H
           have HC52 := Aside0.mk H
           clear H
           have hnb53 := NB209_205.out
           have hnc53 := NB205_209.out
           have hcz54_0 : wc.cell? ⟨gb209, 0, none⟩ = some (.bool x210000_1) := (blk_cell BK209.out 0).trans rfl
           have hcz54_1 : wc.cell? ⟨gb209, 1, none⟩ = some (.string x210001_1) := (blk_cell BK209.out 1).trans rfl
           have hcz54_2 : wc.cell? ⟨gb209, 2, none⟩ = some (.int .i64 x210002_37) := (blk_cell BK209.out 2).trans rfl
           have hfz54_0 := blk_frozen BK209.out 0
           have hfz54_1 := blk_frozen BK209.out 1
           have hfz54_2 := blk_frozen BK209.out 2
           go_upto_block 4 with (fail)
           go_cut [] (fun wc => ∃ (kq : Nat) (x210001_51 : ByteArray) (x210002_51 : Int), Aside0 (R4Parse.j5 kq x210000_1 x210001_51 x210002_51 = some (r1, r2, r3, r4)) ∧ Aside0 (kq ≤ kj49) ∧ Aside0 (wc.heap[gb205]? = some (.cells #[.bool false, .string (⟨#[]⟩ : ByteArray), .int .i64 0] 32 (0, 0))) ∧ Aside0 (wc.heap[gb209]? = some (.cells #[.bool x210000_1, .string x210001_51, .int .i64 x210002_51] 32 (0, 0))) ∧ Aside0 (Below w.heap.size w wc))
           case first =>
            have H := HC52.out
            clear HC52
            have H' := Aside0.mk H
            clear H
            go_wp2
            go_loopg [] kj49 (fun kq w' => ∃ (x210001_5 : ByteArray) (x210002_5 : Int), Aside0 (R4Parse.l2 kq x210000_1 x210001_5 x210002_5 = some (r1, r2, r3, r4)) ∧ Aside0 (kq ≤ kj49) ∧ Aside0 (w'.heap[gb205]? = some (.cells #[.bool false, .string (⟨#[]⟩ : ByteArray), .int .i64 0] 32 (0, 0))) ∧ Aside0 (w'.heap[gb209]? = some (.cells #[.bool x210000_1, .string x210001_5, .int .i64 x210002_5] 32 (0, 0))) ∧ Aside0 (Below w.heap.size w w'))
            case atStart => exact ⟨(x210001_1), (wrap64 (x210002_37 + x9_49)), H', ⟨Nat.le_refl _⟩, ⟨by (with_reducible repeat (first | refine blk_drewN ?_ _ | refine blk_drew ?_ | refine blk_alloc ?_ _)); refine blk_far ?_ NB205_209.out _; (with_reducible repeat (first | refine blk_drewN ?_ _ | refine blk_drew ?_ | refine blk_alloc ?_ _)); exact BK205.out⟩, ⟨by (with_reducible repeat (first | refine blk_drewN ?_ _ | refine blk_drew ?_ | refine blk_alloc ?_ _)); refine blk_put (cs := #[.bool x210000_1, .string x210001_1, .int .i64 x210002_37]) ?_ 2 _ rfl; (with_reducible repeat (first | refine blk_drewN ?_ _ | refine blk_drew ?_ | refine blk_alloc ?_ _)); exact BK209.out⟩, ⟨by repeat ((with_reducible first | exact HB.out | refine below_set ?_ GE209.out))⟩⟩
            case round =>
             clear H'
             try clear hcz54_0
             try clear hcz54_1
             try clear hcz54_2
             try clear hfz54_0
             try clear hfz54_1
             try clear hfz54_2
             obtain ⟨x210001_5, x210002_5, HA, HK5, BK205, BK209, HB⟩ := hrel
             cases gk with
             | zero => exact absurd HA.out (by simp [R4Parse.l2])
             | succ k5 =>
              have H := HA.out
              clear HA
              simp only [R4Parse.l2] at H
              by_cases c55 : (x210001_5.size : Int) > 0
              · rw [if_pos c55] at H
                have c55b0 : decide (0 < (x210001_5.size : Int)) = true := decide_eq_true c55
                have c55b1 : decide (0 < x210001_5.size) = true := decide_eq_true (by omega)
                clear c55
                (skip)
                obtain ⟨ji56, hji56⟩ : ∃ j_ : Int, (wrap64 ((x210001_5.size : Int) - 1)) = j_ := ⟨_, rfl⟩
                replace H : (if 0 ≤ (ji56) then (if (ji56) < (x210001_5.size : Int) then (if (bt x210001_5 (ji56)) = 48 then (if (ji56) ≤ (x210001_5.size : Int) then (R4Parse.l2 k5 x210000_1 (x210001_5.extract 0 ((ji56) : Int).toNat) (wrap64 (x210002_5 + 1))) else (none)) else (R4Parse.j5 k5 x210000_1 x210001_5 x210002_5)) else (none)) else (none)) = some (r1, r2, r3, r4) := by (rw [hji56] at H; exact H)
                have hji56w : (IntKind.i64.wrap ((x210001_5.size : Int) - 1)) = ji56 := (i64_w _).trans hji56
                by_cases c57 : 0 ≤ (ji56)
                · rw [if_pos c57] at H
                  have c57b0 : decide (0 ≤ (ji56)) = true := decide_eq_true c57
                  clear c57
                  by_cases c58 : (ji56) < (x210001_5.size : Int)
                  · rw [if_pos c58] at H
                    have c58b0 : decide ((ji56) < (x210001_5.size : Int)) = true := decide_eq_true c58
                    clear c58
                    by_cases c60 : (bt x210001_5 (ji56)) = 48
                    · rw [if_pos c60] at H
                      have c60b0 : ((bt x210001_5 (ji56)) == 48) = true := beq_iff_eq.mpr c60
                      have c60b1 : ((bt x210001_5 (ji56)) != 48) = false := bne_eq_false_iff_eq.mpr c60
                      clear c60
                      have c61b0 := eq_true (of_decide_eq_true (by (with_reducible assumption)) : 0 ≤ (ji56))
                      by_cases c62 : (ji56) ≤ (x210001_5.size : Int)
                      · rw [if_pos c62] at H
                        have c62b0 := eq_true c62
                        have c62b1 : decide ((ji56) ≤ (x210001_5.size : Int)) = true := decide_eq_true c62
                        clear c62
                        have H' := Aside0.mk H
                        clear H
                        have hnb63 := NB209_205.out
                        have hnc63 := NB205_209.out
                        have hcz64_0 : wr.cell? ⟨gb209, 0, none⟩ = some (.bool x210000_1) := (blk_cell BK209.out 0).trans rfl
                        have hcz64_1 : wr.cell? ⟨gb209, 1, none⟩ = some (.string x210001_5) := (blk_cell BK209.out 1).trans rfl
                        have hcz64_2 : wr.cell? ⟨gb209, 2, none⟩ = some (.int .i64 x210002_5) := (blk_cell BK209.out 2).trans rfl
                        have hfz64_0 := blk_frozen BK209.out 0
                        have hfz64_1 := blk_frozen BK209.out 1
                        have hfz64_2 := blk_frozen BK209.out 2
                        have p59 : 0 ≤ ((ji56) : Int) := of_decide_eq_true (by (with_reducible assumption))
                        have q59 : (ji56) < (x210001_5.size : Int) := of_decide_eq_true (by (with_reducible assumption))
                        have hx59 := bt_at x210001_5 (ji56)
                        replace p59 := eq_true p59
                        replace q59 := eq_true q59
                        go_wp2
                        go_roundg k5
                        case measure => have := HK1.out; have := HJ37.out; have := HK3.out; have := HJ49.out; have := HK5.out; omega
                        case rel => exact ⟨(x210001_5.extract 0 ((ji56) : Int).toNat), (wrap64 (x210002_5 + 1)), (by (exact H')), ⟨by have := HK1.out; have := HJ37.out; have := HK3.out; have := HJ49.out; have := HK5.out; omega⟩, ⟨by (with_reducible repeat (first | refine blk_drewN ?_ _ | refine blk_drew ?_ | refine blk_alloc ?_ _)); refine blk_far ?_ NB205_209.out _; (with_reducible repeat (first | refine blk_drewN ?_ _ | refine blk_drew ?_ | refine blk_alloc ?_ _)); refine blk_far ?_ NB205_209.out _; (with_reducible repeat (first | refine blk_drewN ?_ _ | refine blk_drew ?_ | refine blk_alloc ?_ _)); exact BK205.out⟩, ⟨by (with_reducible repeat (first | refine blk_drewN ?_ _ | refine blk_drew ?_ | refine blk_alloc ?_ _)); refine blk_put (cs := #[.bool x210000_1, .string (x210001_5.extract 0 ((ji56) : Int).toNat), .int .i64 x210002_5]) ?_ 2 _ rfl; (with_reducible repeat (first | refine blk_drewN ?_ _ | refine blk_drew ?_ | refine blk_alloc ?_ _)); refine blk_put (cs := #[.bool x210000_1, .string x210001_5, .int .i64 x210002_5]) ?_ 1 _ rfl; (with_reducible repeat (first | refine blk_drewN ?_ _ | refine blk_drew ?_ | refine blk_alloc ?_ _)); exact BK209.out⟩, ⟨by repeat ((with_reducible first | exact HB.out | refine below_set ?_ GE209.out))⟩⟩
                      rw [if_neg c62] at H
                      exact absurd H (by simp)
                    rw [if_neg c60] at H
                    have c60b0 : ((bt x210001_5 (ji56)) == 48) = false := beq_eq_false_iff_ne.mpr c60
                    have c60b1 : ((bt x210001_5 (ji56)) != 48) = true := bne_iff_ne.mpr c60
                    have H' := Aside0.mk H
                    clear H
                    have hnb65 := NB209_205.out
                    have hnc65 := NB205_209.out
                    have hcz66_0 : wr.cell? ⟨gb209, 0, none⟩ = some (.bool x210000_1) := (blk_cell BK209.out 0).trans rfl
                    have hcz66_1 : wr.cell? ⟨gb209, 1, none⟩ = some (.string x210001_5) := (blk_cell BK209.out 1).trans rfl
                    have hcz66_2 : wr.cell? ⟨gb209, 2, none⟩ = some (.int .i64 x210002_5) := (blk_cell BK209.out 2).trans rfl
                    have hfz66_0 := blk_frozen BK209.out 0
                    have hfz66_1 := blk_frozen BK209.out 1
                    have hfz66_2 := blk_frozen BK209.out 2
                    have p59 : 0 ≤ ((ji56) : Int) := of_decide_eq_true (by (with_reducible assumption))
                    have q59 : (ji56) < (x210001_5.size : Int) := of_decide_eq_true (by (with_reducible assumption))
                    have hx59 := bt_at x210001_5 (ji56)
                    replace p59 := eq_true p59
                    replace q59 := eq_true q59
                    go_wp2
                    go_meet
                    case rel => exact ⟨_, (x210001_5), (x210002_5), (by (exact H')), ⟨by have := HK1.out; have := HJ37.out; have := HK3.out; have := HJ49.out; have := HK5.out; (omega)⟩, ⟨by (with_reducible repeat (first | refine blk_drewN ?_ _ | refine blk_drew ?_ | refine blk_alloc ?_ _)); exact BK205.out⟩, ⟨by (with_reducible repeat (first | refine blk_drewN ?_ _ | refine blk_drew ?_ | refine blk_alloc ?_ _)); exact BK209.out⟩, ⟨by repeat ((with_reducible (exact HB.out)))⟩⟩
                  rw [if_neg c58] at H
                  exact absurd H (by simp)
                rw [if_neg c57] at H
                exact absurd H (by simp)
              rw [if_neg c55] at H
              have c55b0 : decide (0 < (x210001_5.size : Int)) = false := decide_eq_false c55
              have c55b1 : decide (0 < x210001_5.size) = false := decide_eq_false (by omega)
              clear c55
              (skip)
              have H' := Aside0.mk H
              clear H
              have hnb67 := NB209_205.out
              have hnc67 := NB205_209.out
              have hcz68_0 : wr.cell? ⟨gb209, 0, none⟩ = some (.bool x210000_1) := (blk_cell BK209.out 0).trans rfl
              have hcz68_1 : wr.cell? ⟨gb209, 1, none⟩ = some (.string x210001_5) := (blk_cell BK209.out 1).trans rfl
              have hcz68_2 : wr.cell? ⟨gb209, 2, none⟩ = some (.int .i64 x210002_5) := (blk_cell BK209.out 2).trans rfl
              have hfz68_0 := blk_frozen BK209.out 0
              have hfz68_1 := blk_frozen BK209.out 1
              have hfz68_2 := blk_frozen BK209.out 2
              go_wp2
              go_meet
              case rel => exact ⟨_, (x210001_5), (x210002_5), (by (exact H')), ⟨by have := HK1.out; have := HJ37.out; have := HK3.out; have := HJ49.out; have := HK5.out; (omega)⟩, ⟨by (with_reducible repeat (first | refine blk_drewN ?_ _ | refine blk_drew ?_ | refine blk_alloc ?_ _)); exact BK205.out⟩, ⟨by (with_reducible repeat (first | refine blk_drewN ?_ _ | refine blk_drew ?_ | refine blk_alloc ?_ _)); exact BK209.out⟩, ⟨by repeat ((with_reducible (exact HB.out)))⟩⟩
           case rest =>
            clear HC52
            try clear hcz54_0
            try clear hcz54_1
            try clear hcz54_2
            try clear hfz54_0
            try clear hfz54_1
            try clear hfz54_2
            obtain ⟨kq, x210001_51, x210002_51, HA, HJ51, BK205, BK209, HB⟩ := hcut
            cases kq with
            | zero => exact absurd HA.out (by simp [R4Parse.j5])
            | succ kj51 =>
             have H := HA.out
             clear HA
             simp only [R4Parse.j5] at H
             by_cases c69 : x210001_51.toList = ([] : List UInt8)
             · rw [if_pos c69] at H
               have c69b0 : (x210001_51.toList == ([] : List UInt8)) = true := beq_iff_eq.mpr c69
               have c69b7 : x210001_51.toList.isEmpty = true := by rw [← beq_nil_isEmpty]; exact c69b0
               have c69b1 : (x210001_51.toList != ([] : List UInt8)) = false := bne_eq_false_iff_eq.mpr c69
               clear c69
               simp only [Option.some.injEq, Prod.mk.injEq] at H
               obtain ⟨rfl, rfl, rfl, rfl⟩ := H
               have hnb70 := NB209_205.out
               have hnc70 := NB205_209.out
               have hcz71_0 : wc.cell? ⟨gb209, 0, none⟩ = some (.bool x210000_1) := (blk_cell BK209.out 0).trans rfl
               have hcz71_1 : wc.cell? ⟨gb209, 1, none⟩ = some (.string x210001_51) := (blk_cell BK209.out 1).trans rfl
               have hcz71_2 : wc.cell? ⟨gb209, 2, none⟩ = some (.int .i64 x210002_51) := (blk_cell BK209.out 2).trans rfl
               have hfz71_0 := blk_frozen BK209.out 0
               have hfz71_1 := blk_frozen BK209.out 1
               have hfz71_2 := blk_frozen BK209.out 2
               have hcz72_0 : wc.cell? ⟨gb205, 0, none⟩ = some (.bool false) := (blk_cell BK205.out 0).trans rfl
               have hcz72_1 : wc.cell? ⟨gb205, 1, none⟩ = some (.string (⟨#[]⟩ : ByteArray)) := (blk_cell BK205.out 1).trans rfl
               have hcz72_2 : wc.cell? ⟨gb205, 2, none⟩ = some (.int .i64 0) := (blk_cell BK205.out 2).trans rfl
               have hfz72_0 := blk_frozen BK205.out 0
               have hfz72_1 := blk_frozen BK205.out 1
               have hfz72_2 := blk_frozen BK205.out 2
               go_wp2
               refine bodyPost_ret (results_ct rfl _ _ gb205 32 #[.bool false, .string (⟨#[]⟩ : ByteArray), .int .i64 0] (0, 0) _ rfl (by (with_reducible repeat (first | refine blk_drewN ?_ _ | refine blk_drew ?_ | refine blk_alloc ?_ _)); refine blk_put (cs := #[.bool false, .string (⟨#[]⟩ : ByteArray), .int .i64 0]) ?_ 2 _ rfl; (with_reducible repeat (first | refine blk_drewN ?_ _ | refine blk_drew ?_ | refine blk_alloc ?_ _)); refine blk_put (cs := #[.bool false, .string (⟨#[]⟩ : ByteArray), .int .i64 0]) ?_ 1 _ rfl; (with_reducible repeat (first | refine blk_drewN ?_ _ | refine blk_drew ?_ | refine blk_alloc ?_ _)); refine blk_put (cs := #[.bool false, .string (⟨#[]⟩ : ByteArray), .int .i64 0]) ?_ 0 _ rfl; (with_reducible repeat (first | refine blk_drewN ?_ _ | refine blk_drew ?_ | refine blk_alloc ?_ _)); exact BK205.out) Tryz.underlying32 rfl (by kernel_rfl)) rfl ?_
               try simp only [beq_nil_isEmpty, bytesLess_gtr]
               exact ⟨by (rfl), by repeat ((with_reducible first | exact HB.out | refine below_set ?_ GE205.out ))⟩
             rw [if_neg c69] at H
             have c69b0 : (x210001_51.toList == ([] : List UInt8)) = false := beq_eq_false_iff_ne.mpr c69
             have c69b7 : x210001_51.toList.isEmpty = false := by rw [← beq_nil_isEmpty]; exact c69b0
             have c69b1 : (x210001_51.toList != ([] : List UInt8)) = true := bne_iff_ne.mpr c69
             replace H := Option.bind_eq_some_iff.mp H
             obtain ⟨t210, A730, H⟩ := H
             replace H : (if t210 = true then (some (x210000_1, x210001_51, x210002_51, 0)) else (some (false, (⟨#[]⟩ : ByteArray), 0, 13))) = some (r1, r2, r3, r4) := H
             have A73 := Aside0.mk A730
             clear A730
             by_cases c74 : t210 = true
             · subst c74
               have H1 : (some (x210000_1, x210001_51, x210002_51, 0)) = some (r1, r2, r3, r4) := by rw [if_pos rfl] at H; exact H
               clear H
               have H := H1
               clear H1
               simp only [Option.some.injEq, Prod.mk.injEq] at H
               obtain ⟨rfl, rfl, rfl, rfl⟩ := H
               have hnb75 := NB209_205.out
               have hnc75 := NB205_209.out
               have hcz76_0 : wc.cell? ⟨gb209, 0, none⟩ = some (.bool x210000_1) := (blk_cell BK209.out 0).trans rfl
               have hcz76_1 : wc.cell? ⟨gb209, 1, none⟩ = some (.string x210001_51) := (blk_cell BK209.out 1).trans rfl
               have hcz76_2 : wc.cell? ⟨gb209, 2, none⟩ = some (.int .i64 x210002_51) := (blk_cell BK209.out 2).trans rfl
               have hfz76_0 := blk_frozen BK209.out 0
               have hfz76_1 := blk_frozen BK209.out 1
               have hfz76_2 := blk_frozen BK209.out 2
               go_wp2_with (((with_reducible refine gate_callee (f := 141) rfl ?_); refine goesL_ (some 129) rfl rfl Tryz.func141 (by kernel_rfl) rfl #[.agg #[.bool x210000_1, .string x210001_51, .int .i64 x210002_51]] rfl (by (try simp only [List.map_toArray, List.map_cons, List.map_nil]); (rfl)) ?_; (with_reducible refine (R4Right.calls kj51 x210000_1 x210001_51 x210002_51 true _ A73.out).mono ?_); rintro e w77 ⟨rfl, hb⟩; refine ⟨_, rfl, ?_⟩; have n0_ := Aside0.mk (blk_below (g := gb205) (o := .cells #[.bool false, .string (⟨#[]⟩ : ByteArray), .int .i64 0] 32 (0, 0)) (by (with_reducible repeat (first | refine blk_drewN ?_ _ | refine blk_drew ?_ | refine blk_alloc ?_ _)); exact BK205.out) hb); have n1_ := Aside0.mk (blk_below (g := gb209) (o := .cells #[.bool x210000_1, .string x210001_51, .int .i64 x210002_51] 32 (0, 0)) (by (with_reducible repeat (first | refine blk_drewN ?_ _ | refine blk_drew ?_ | refine blk_alloc ?_ _)); exact BK209.out) hb); have n2_ := Aside0.mk (below_step (by repeat ((with_reducible (exact HB.out)))) hb); clear BK205; clear BK209; clear HB; have BK205 := n0_; have BK209 := n1_; have HB := n2_; clear n0_ n1_ n2_; (try clear hb); have hcz78_0 : w77.cell? ⟨gb209, 0, none⟩ = some (.bool x210000_1) := (blk_cell BK209.out 0).trans rfl; have hcz78_1 : w77.cell? ⟨gb209, 1, none⟩ = some (.string x210001_51) := (blk_cell BK209.out 1).trans rfl; have hcz78_2 : w77.cell? ⟨gb209, 2, none⟩ = some (.int .i64 x210002_51) := (blk_cell BK209.out 2).trans rfl; have hfz78_0 := blk_frozen BK209.out 0; have hfz78_1 := blk_frozen BK209.out 1; have hfz78_2 := blk_frozen BK209.out 2; have hcz79_0 : w77.cell? ⟨gb205, 0, none⟩ = some (.bool false) := (blk_cell BK205.out 0).trans rfl; have hcz79_1 : w77.cell? ⟨gb205, 1, none⟩ = some (.string (⟨#[]⟩ : ByteArray)) := (blk_cell BK205.out 1).trans rfl; have hcz79_2 : w77.cell? ⟨gb205, 2, none⟩ = some (.int .i64 0) := (blk_cell BK205.out 2).trans rfl; have hfz79_0 := blk_frozen BK205.out 0; have hfz79_1 := blk_frozen BK205.out 1; have hfz79_2 := blk_frozen BK205.out 2))
               refine bodyPost_ret (results_ct rfl _ _ gb205 32 #[.bool x210000_1, .string x210001_51, .int .i64 x210002_51] (0, 0) _ rfl (by (with_reducible repeat (first | refine blk_drewN ?_ _ | refine blk_drew ?_ | refine blk_alloc ?_ _)); refine blk_put (cs := #[.bool x210000_1, .string x210001_51, .int .i64 0]) ?_ 2 _ rfl; (with_reducible repeat (first | refine blk_drewN ?_ _ | refine blk_drew ?_ | refine blk_alloc ?_ _)); refine blk_put (cs := #[.bool x210000_1, .string (⟨#[]⟩ : ByteArray), .int .i64 0]) ?_ 1 _ rfl; (with_reducible repeat (first | refine blk_drewN ?_ _ | refine blk_drew ?_ | refine blk_alloc ?_ _)); refine blk_put (cs := #[.bool false, .string (⟨#[]⟩ : ByteArray), .int .i64 0]) ?_ 0 _ rfl; (with_reducible repeat (first | refine blk_drewN ?_ _ | refine blk_drew ?_ | refine blk_alloc ?_ _)); exact BK205.out) Tryz.underlying32 rfl (by kernel_rfl)) rfl ?_
               try simp only [beq_nil_isEmpty, bytesLess_gtr]
               exact ⟨by (rfl), by repeat ((with_reducible first | exact HB.out | refine below_set ?_ GE205.out ))⟩
             replace c74 := Bool.eq_false_iff.mpr c74
             subst c74
             have H1 : (some (false, (⟨#[]⟩ : ByteArray), 0, 13)) = some (r1, r2, r3, r4) := by rw [if_neg (show ¬ (false = true) by decide)] at H; exact H
             clear H
             have H := H1
             clear H1
             simp only [Option.some.injEq, Prod.mk.injEq] at H
             obtain ⟨rfl, rfl, rfl, rfl⟩ := H
             have hnb80 := NB209_205.out
             have hnc80 := NB205_209.out
             have hcz81_0 : wc.cell? ⟨gb209, 0, none⟩ = some (.bool x210000_1) := (blk_cell BK209.out 0).trans rfl
             have hcz81_1 : wc.cell? ⟨gb209, 1, none⟩ = some (.string x210001_51) := (blk_cell BK209.out 1).trans rfl
             have hcz81_2 : wc.cell? ⟨gb209, 2, none⟩ = some (.int .i64 x210002_51) := (blk_cell BK209.out 2).trans rfl
             have hfz81_0 := blk_frozen BK209.out 0
             have hfz81_1 := blk_frozen BK209.out 1
             have hfz81_2 := blk_frozen BK209.out 2
             go_wp2_with (((with_reducible refine gate_callee (f := 141) rfl ?_); refine goesL_ (some 129) rfl rfl Tryz.func141 (by kernel_rfl) rfl #[.agg #[.bool x210000_1, .string x210001_51, .int .i64 x210002_51]] rfl (by (try simp only [List.map_toArray, List.map_cons, List.map_nil]); (rfl)) ?_; (with_reducible refine (R4Right.calls kj51 x210000_1 x210001_51 x210002_51 false _ A73.out).mono ?_); rintro e w82 ⟨rfl, hb⟩; refine ⟨_, rfl, ?_⟩; have n0_ := Aside0.mk (blk_below (g := gb205) (o := .cells #[.bool false, .string (⟨#[]⟩ : ByteArray), .int .i64 0] 32 (0, 0)) (by (with_reducible repeat (first | refine blk_drewN ?_ _ | refine blk_drew ?_ | refine blk_alloc ?_ _)); exact BK205.out) hb); have n1_ := Aside0.mk (blk_below (g := gb209) (o := .cells #[.bool x210000_1, .string x210001_51, .int .i64 x210002_51] 32 (0, 0)) (by (with_reducible repeat (first | refine blk_drewN ?_ _ | refine blk_drew ?_ | refine blk_alloc ?_ _)); exact BK209.out) hb); have n2_ := Aside0.mk (below_step (by repeat ((with_reducible (exact HB.out)))) hb); clear BK205; clear BK209; clear HB; have BK205 := n0_; have BK209 := n1_; have HB := n2_; clear n0_ n1_ n2_; (try clear hb); have hcz83_0 : w82.cell? ⟨gb205, 0, none⟩ = some (.bool false) := (blk_cell BK205.out 0).trans rfl; have hcz83_1 : w82.cell? ⟨gb205, 1, none⟩ = some (.string (⟨#[]⟩ : ByteArray)) := (blk_cell BK205.out 1).trans rfl; have hcz83_2 : w82.cell? ⟨gb205, 2, none⟩ = some (.int .i64 0) := (blk_cell BK205.out 2).trans rfl; have hfz83_0 := blk_frozen BK205.out 0; have hfz83_1 := blk_frozen BK205.out 1; have hfz83_2 := blk_frozen BK205.out 2))
             refine bodyPost_ret (results_ct rfl _ _ gb205 32 #[.bool false, .string (⟨#[]⟩ : ByteArray), .int .i64 0] (0, 0) _ rfl (by (with_reducible repeat (first | refine blk_drewN ?_ _ | refine blk_drew ?_ | refine blk_alloc ?_ _)); refine blk_put (cs := #[.bool false, .string (⟨#[]⟩ : ByteArray), .int .i64 0]) ?_ 2 _ rfl; (with_reducible repeat (first | refine blk_drewN ?_ _ | refine blk_drew ?_ | refine blk_alloc ?_ _)); refine blk_put (cs := #[.bool false, .string (⟨#[]⟩ : ByteArray), .int .i64 0]) ?_ 1 _ rfl; (with_reducible repeat (first | refine blk_drewN ?_ _ | refine blk_drew ?_ | refine blk_alloc ?_ _)); refine blk_put (cs := #[.bool false, .string (⟨#[]⟩ : ByteArray), .int .i64 0]) ?_ 0 _ rfl; (with_reducible repeat (first | refine blk_drewN ?_ _ | refine blk_drew ?_ | refine blk_alloc ?_ _)); exact BK205.out) Tryz.underlying32 rfl (by kernel_rfl)) rfl ?_
             try simp only [beq_nil_isEmpty, bytesLess_gtr]
             exact ⟨by (rfl), by repeat ((with_reducible first | exact HB.out | refine below_set ?_ GE205.out ))⟩
 · replace c3 := Bool.eq_false_iff.mpr c3
   subst c3
   have H1 : (some (false, (⟨#[]⟩ : ByteArray), 0, 11)) = some (r1, r2, r3, r4) := by rw [if_neg (show ¬ (false = true) by decide)] at H; exact H
   clear H
   have H := H1
   clear H1
   simp only [Option.some.injEq, Prod.mk.injEq] at H
   obtain ⟨rfl, rfl, rfl, rfl⟩ := H
   go_enter Tryz.func110, Tryz.ntmps110
   go_wp2_with (first | ((with_reducible refine gate_dst (N := 2) rfl ?_); (try (refine gate_guard (by rfl) ?_; dsimp only)); refine box_event ?hg (N := 2) ?hd (cs := #[.bool false, .string (⟨#[]⟩ : ByteArray), .int .i64 0]) (t := 32) ?hr ?_; (case hd => rfl); (case hg => rfl); (case hr => (go_simp; done)); intro gb205 hg w84 hbox hb; have n0_ := Aside0.mk (below_step (by repeat ((with_reducible (exact HB.out)))) hb); have n1_ := Aside0.mk (hbox); have n2_ := Aside0.mk ((by rw [hg]; exact (below_size (by repeat ((with_reducible (exact HB.out))))) : w.heap.size ≤ gb205)); have n3_ := Aside0.mk ((by rw [hg]; exact (below_size (by repeat ((with_reducible (exact HB.out))))) : w.heap.size ≤ gb205)); clear HB; have HB := n0_; have BK205 := n1_; have GW205 := n2_; have GE205 := n3_; clear n0_ n1_ n2_ n3_; clear hb hbox hg) | ((with_reducible refine gate_callee (f := 140) rfl ?_); refine goesL_ (some 15) rfl rfl Tryz.func140 (by kernel_rfl) rfl #[.string a0] rfl (by (try simp only [List.map_toArray, List.map_cons, List.map_nil]); (rfl)) ?_; (with_reducible refine (R4Grammar.calls k a0 false t207 t208 _ A2.out).mono ?_); rintro e w' ⟨rfl, ⟨nd, rfl⟩⟩; refine ⟨_, rfl, ?_⟩; (try (rw [drewN_self w84]; generalize hq_ : World.drewN w84 _ = w84; have n0_ : Aside0 (w84.heap[gb205]? = some (.cells #[.bool false, .string (⟨#[]⟩ : ByteArray), .int .i64 0] 32 (0, 0))) := ⟨by rw [← hq_]; exact (by (with_reducible repeat (refine blk_drewN ?_ _)); exact BK205.out)⟩; have n1_ : Aside0 (Below w.heap.size w w84) := ⟨by rw [← hq_]; exact (by repeat ((with_reducible first | exact HB.out | apply pw_below_drewN )))⟩; clear BK205 HB hq_; have BK205 := n0_; have HB := n1_; clear n0_ n1_)); have hcz85_0 : w84.cell? ⟨gb205, 0, none⟩ = some (.bool false) := (blk_cell BK205.out 0).trans rfl; have hcz85_1 : w84.cell? ⟨gb205, 1, none⟩ = some (.string (⟨#[]⟩ : ByteArray)) := (blk_cell BK205.out 1).trans rfl; have hcz85_2 : w84.cell? ⟨gb205, 2, none⟩ = some (.int .i64 0) := (blk_cell BK205.out 2).trans rfl; have hfz85_0 := blk_frozen BK205.out 0; have hfz85_1 := blk_frozen BK205.out 1; have hfz85_2 := blk_frozen BK205.out 2))
   refine bodyPost_ret (results_ct rfl _ _ gb205 32 #[.bool false, .string (⟨#[]⟩ : ByteArray), .int .i64 0] (0, 0) _ rfl (by (with_reducible repeat (first | refine blk_drewN ?_ _ | refine blk_drew ?_ | refine blk_alloc ?_ _)); refine blk_put (cs := #[.bool false, .string (⟨#[]⟩ : ByteArray), .int .i64 0]) ?_ 2 _ rfl; (with_reducible repeat (first | refine blk_drewN ?_ _ | refine blk_drew ?_ | refine blk_alloc ?_ _)); refine blk_put (cs := #[.bool false, .string (⟨#[]⟩ : ByteArray), .int .i64 0]) ?_ 1 _ rfl; (with_reducible repeat (first | refine blk_drewN ?_ _ | refine blk_drew ?_ | refine blk_alloc ?_ _)); refine blk_put (cs := #[.bool false, .string (⟨#[]⟩ : ByteArray), .int .i64 0]) ?_ 0 _ rfl; (with_reducible repeat (first | refine blk_drewN ?_ _ | refine blk_drew ?_ | refine blk_alloc ?_ _)); exact BK205.out) Tryz.underlying32 rfl (by kernel_rfl)) rfl ?_
   try simp only [beq_nil_isEmpty, bytesLess_gtr]
   exact ⟨by (rfl), by repeat ((with_reducible first | exact HB.out | refine below_set ?_ GE205.out))⟩
def R5_word.f (s0_0 : ByteArray) (s0_1 : Int) (s0_2 : Int) (s0_3 : Int) (a1 : ByteArray) : Option (ByteArray × Int × Int × Int) := if (wrap64 (s0_1 + (a1.size : Int))) > (s0_0.size : Int) then ((R5_fail.f s0_0 s0_1 s0_2 s0_3 11).bind fun bt222 => (some (bt222.1, bt222.2.1, bt222.2.2.1, bt222.2.2.2))) else (if 0 ≤ s0_1 then (if s0_1 ≤ (wrap64 (s0_1 + (a1.size : Int))) then (if (wrap64 (s0_1 + (a1.size : Int))) ≤ (s0_0.size : Int) then (if (s0_0.extract (s0_1 : Int).toNat ((wrap64 (s0_1 + (a1.size : Int))) : Int).toNat).toList = a1.toList then (some (s0_0, wrap64 (s0_1 + (a1.size : Int)), s0_2, s0_3)) else ((R5_fail.f s0_0 s0_1 s0_2 s0_3 11).bind fun bt226 => (some (bt226.1, bt226.2.1, bt226.2.2.1, bt226.2.2.2)))) else (none)) else (none)) else (none))
set_option maxHeartbeats 8000000 in
set_option maxRecDepth 100000 in
theorem R5_word.calls (g : Nat) (s0_0 : ByteArray) (s0_1 : Int) (s0_2 : Int) (s0_3 : Int) (a1 : ByteArray) (r1 : ByteArray) (r2 : Int) (r3 : Int) (r4 : Int) (w0 w : World) (hI : IsS84 w0 w g s0_0 s0_1 s0_2 s0_3) (hB : Below w0.heap.size w0 w) (h : R5_word.f s0_0 s0_1 s0_2 s0_3 a1 = some (r1, r2, r3, r4)) :
    Calls Tryz.prog 73 #[.pointer (some ⟨g, 0, none⟩), .string a1] w fun e w' => e = .returned (.tuple #[]) ∧ IsS84 w0 w' g r1 r2 r3 r4 ∧ Below w0.heap.size w0 w' ∧ KeepBut w w' g none := by
 have HI0 := Aside0.mk hI
 have HK := Aside0.mk (KeepBut.refl w g none)
 have HL := Aside0.mk hB.size
 clear hI
 have HW0 := Aside0.mk hB.size
 have HB := Aside0.mk hB
 clear hB
 have H : (if (wrap64 (s0_1 + (a1.size : Int))) > (s0_0.size : Int) then ((R5_fail.f s0_0 s0_1 s0_2 s0_3 11).bind fun bt222 => (some (bt222.1, bt222.2.1, bt222.2.2.1, bt222.2.2.2))) else (if 0 ≤ s0_1 then (if s0_1 ≤ (wrap64 (s0_1 + (a1.size : Int))) then (if (wrap64 (s0_1 + (a1.size : Int))) ≤ (s0_0.size : Int) then (if (s0_0.extract (s0_1 : Int).toNat ((wrap64 (s0_1 + (a1.size : Int))) : Int).toNat).toList = a1.toList then (some (s0_0, wrap64 (s0_1 + (a1.size : Int)), s0_2, s0_3)) else ((R5_fail.f s0_0 s0_1 s0_2 s0_3 11).bind fun bt226 => (some (bt226.1, bt226.2.1, bt226.2.2.1, bt226.2.2.2)))) else (none)) else (none)) else (none))) = some (r1, r2, r3, r4) := h
 clear h
 by_cases c3 : (wrap64 (s0_1 + (a1.size : Int))) > (s0_0.size : Int)
 · rw [if_pos c3] at H
   have c3b0 : decide ((s0_0.size : Int) < (wrap64 (s0_1 + (a1.size : Int)))) = true := decide_eq_true c3
   clear c3
   replace H := Option.bind_eq_some_iff.mp H
   obtain ⟨⟨t222, t223, t224, t225⟩, A40, H⟩ := H
   have A4 := Aside0.mk A40
   clear A40
   simp only [Option.some.injEq, Prod.mk.injEq] at H
   obtain ⟨rfl, rfl, rfl, rfl⟩ := H
   obtain ⟨HGz5, hgz5⟩ := HI0.out
   have hcz5_0 := cellS84_0 HGz5
   have hcz5_1 := cellS84_1 HGz5
   have hcz5_2 := cellS84_2 HGz5
   have hcz5_3 := cellS84_3 HGz5
   clear HGz5 hgz5
   go_enter Tryz.func73, Tryz.ntmps73
   go_wp2_with ((go_at_call 39; (with_reducible refine (R5_fail.calls g s0_0 s0_1 s0_2 s0_3 11 t222 t223 t224 t225 w0 _ ?side1 ?side2 A4.out).mono ?_); (case side1 => repeat (first | (with_reducible first | exact HI0.out | apply IsS84.alloc | apply IsS84.drewN | apply IsS84.drew | apply IsS84.set_0 | apply IsS84.set_1 | apply IsS84.set_2 | apply IsS84.set_3) | exact HI0.out)); (case side2 => repeat (first | (with_reducible first | exact HB.out | apply below_alloc | apply pw_below_drewN | apply below_drew1 | refine below_set ?_ (IsS84.ge HI0.out)) | exact HB.out)); rintro e w6 ⟨rfl, hi, hb, hk⟩; have n0_ := Aside0.mk (KeepBut.trans (by repeat (first | (with_reducible first | exact HK.out | apply KeepBut.set_ | apply keep_drewN | apply keep_drew | apply keep_alloc) | exact HK.out)) hk (.inl rfl)); have n1_ := Aside0.mk (hb); have n2_ := Aside0.mk (hi); clear HK; clear HB; clear HI0; have HK := n0_; have HB := n1_; have HI0 := n2_; clear n0_ n1_ n2_))
   repeat (go_quiet ((go_at_call 39; (with_reducible refine (R5_fail.calls g s0_0 s0_1 s0_2 s0_3 11 t222 t223 t224 t225 w0 _ ?side1 ?side2 A4.out).mono ?_); (case side1 => repeat (first | (with_reducible first | exact HI0.out | apply IsS84.alloc | apply IsS84.drewN | apply IsS84.drew | apply IsS84.set_0 | apply IsS84.set_1 | apply IsS84.set_2 | apply IsS84.set_3) | exact HI0.out)); (case side2 => repeat (first | (with_reducible first | exact HB.out | apply below_alloc | apply pw_below_drewN | apply below_drew1 | refine below_set ?_ (IsS84.ge HI0.out)) | exact HB.out)); rintro e w6 ⟨rfl, hi, hb, hk⟩; have n0_ := Aside0.mk (KeepBut.trans (by repeat (first | (with_reducible first | exact HK.out | apply KeepBut.set_ | apply keep_drewN | apply keep_drew | apply keep_alloc) | exact HK.out)) hk (.inl rfl)); have n1_ := Aside0.mk (hb); have n2_ := Aside0.mk (hi); clear HK; clear HB; clear HI0; have HK := n0_; have HB := n1_; have HI0 := n2_; clear n0_ n1_ n2_)); try go_wp2_with ((go_at_call 39; (with_reducible refine (R5_fail.calls g s0_0 s0_1 s0_2 s0_3 11 t222 t223 t224 t225 w0 _ ?side1 ?side2 A4.out).mono ?_); (case side1 => repeat ((with_reducible first | exact HI0.out | apply IsS84.drewN ))); (case side2 => repeat ((with_reducible first | exact HB.out | apply pw_below_drewN ))); rintro e w6 ⟨rfl, hi, hb, hk⟩; have n0_ := Aside0.mk (KeepBut.trans (by repeat ((with_reducible first | exact HK.out | apply keep_drewN ))) hk (.inl rfl)); have n1_ := Aside0.mk (hb); have n2_ := Aside0.mk (hi); clear HK; clear HB; clear HI0; have HK := n0_; have HB := n1_; have HI0 := n2_; clear n0_ n1_ n2_; (try clear hb); (try clear hk); (try clear hi))))
   (refine bodyPost_ret (results_none rfl _ _ _) rfl ?_)
   exact ⟨by (simp [errW_none, errW_some] <;> rfl), by repeat ((with_reducible (exact HI0.out))), by repeat ((with_reducible (exact HB.out))), by repeat ((with_reducible (exact HK.out)))⟩
 · rw [if_neg c3] at H
   have c3b0 : decide ((s0_0.size : Int) < (wrap64 (s0_1 + (a1.size : Int)))) = false := decide_eq_false c3
   clear c3
   by_cases c7 : 0 ≤ s0_1
   · rw [if_pos c7] at H
     have c7b0 := eq_true c7
     have c7b1 : decide (0 ≤ s0_1) = true := decide_eq_true c7
     clear c7
     by_cases c8 : s0_1 ≤ (wrap64 (s0_1 + (a1.size : Int)))
     · rw [if_pos c8] at H
       have c8b0 := eq_true c8
       have c8b1 : decide (s0_1 ≤ (wrap64 (s0_1 + (a1.size : Int)))) = true := decide_eq_true c8
       by_cases c9 : (wrap64 (s0_1 + (a1.size : Int))) ≤ (s0_0.size : Int)
       · rw [if_pos c9] at H
         have c9b0 := eq_true c9
         have c9b1 : decide ((wrap64 (s0_1 + (a1.size : Int))) ≤ (s0_0.size : Int)) = true := decide_eq_true c9
         by_cases c10 : (s0_0.extract (s0_1 : Int).toNat ((wrap64 (s0_1 + (a1.size : Int))) : Int).toNat).toList = a1.toList
         · rw [if_pos c10] at H
           have c10b0 : ((s0_0.extract (s0_1 : Int).toNat ((wrap64 (s0_1 + (a1.size : Int))) : Int).toNat).toList == a1.toList) = true := beq_iff_eq.mpr c10
           have c10b1 : ((s0_0.extract (s0_1 : Int).toNat ((wrap64 (s0_1 + (a1.size : Int))) : Int).toNat).toList != a1.toList) = false := bne_eq_false_iff_eq.mpr c10
           clear c10
           obtain ⟨rfl, rfl, rfl, rfl⟩ := H
           obtain ⟨HGz11, hgz11⟩ := HI0.out
           have hcz11_0 := cellS84_0 HGz11
           have hcz11_1 := cellS84_1 HGz11
           have hcz11_2 := cellS84_2 HGz11
           have hcz11_3 := cellS84_3 HGz11
           have hfz11_0 := blk_frozen HGz11 0
           have hfz11_1 := blk_frozen HGz11 1
           have hfz11_2 := blk_frozen HGz11 2
           have hfz11_3 := blk_frozen HGz11 3
           clear HGz11 hgz11
           go_enter Tryz.func73, Tryz.ntmps73
           go_wp2
           repeat (go_quiet (fail); try go_wp2)
           (go_end0)
           exact ⟨by (simp [errW_none, errW_some] <;> rfl), by repeat ((with_reducible first | exact HI0.out | apply IsS84.drewN | apply IsS84.set_1 )), by repeat ((with_reducible first | exact HB.out | apply pw_below_drewN | refine below_set ?_ (IsS84.ge HI0.out))), by repeat ((with_reducible first | exact HK.out | apply KeepBut.set_ | apply keep_drewN ))⟩
         rw [if_neg c10] at H
         have c10b0 : ((s0_0.extract (s0_1 : Int).toNat ((wrap64 (s0_1 + (a1.size : Int))) : Int).toNat).toList == a1.toList) = false := beq_eq_false_iff_ne.mpr c10
         have c10b1 : ((s0_0.extract (s0_1 : Int).toNat ((wrap64 (s0_1 + (a1.size : Int))) : Int).toNat).toList != a1.toList) = true := bne_iff_ne.mpr c10
         replace H := Option.bind_eq_some_iff.mp H
         obtain ⟨⟨t226, t227, t228, t229⟩, A120, H⟩ := H
         have A12 := Aside0.mk A120
         clear A120
         simp only [Option.some.injEq, Prod.mk.injEq] at H
         obtain ⟨rfl, rfl, rfl, rfl⟩ := H
         obtain ⟨HGz13, hgz13⟩ := HI0.out
         have hcz13_0 := cellS84_0 HGz13
         have hcz13_1 := cellS84_1 HGz13
         have hcz13_2 := cellS84_2 HGz13
         have hcz13_3 := cellS84_3 HGz13
         clear HGz13 hgz13
         go_enter Tryz.func73, Tryz.ntmps73
         go_wp2_with ((go_at_call 39; (with_reducible refine (R5_fail.calls g s0_0 s0_1 s0_2 s0_3 11 t226 t227 t228 t229 w0 _ ?side1 ?side2 A12.out).mono ?_); (case side1 => repeat (first | (with_reducible first | exact HI0.out | apply IsS84.alloc | apply IsS84.drewN | apply IsS84.drew | apply IsS84.set_0 | apply IsS84.set_1 | apply IsS84.set_2 | apply IsS84.set_3) | exact HI0.out)); (case side2 => repeat (first | (with_reducible first | exact HB.out | apply below_alloc | apply pw_below_drewN | apply below_drew1 | refine below_set ?_ (IsS84.ge HI0.out)) | exact HB.out)); rintro e w14 ⟨rfl, hi, hb, hk⟩; have n0_ := Aside0.mk (KeepBut.trans (by repeat (first | (with_reducible first | exact HK.out | apply KeepBut.set_ | apply keep_drewN | apply keep_drew | apply keep_alloc) | exact HK.out)) hk (.inl rfl)); have n1_ := Aside0.mk (hb); have n2_ := Aside0.mk (hi); clear HK; clear HB; clear HI0; have HK := n0_; have HB := n1_; have HI0 := n2_; clear n0_ n1_ n2_))
         repeat (go_quiet ((go_at_call 39; (with_reducible refine (R5_fail.calls g s0_0 s0_1 s0_2 s0_3 11 t226 t227 t228 t229 w0 _ ?side1 ?side2 A12.out).mono ?_); (case side1 => repeat (first | (with_reducible first | exact HI0.out | apply IsS84.alloc | apply IsS84.drewN | apply IsS84.drew | apply IsS84.set_0 | apply IsS84.set_1 | apply IsS84.set_2 | apply IsS84.set_3) | exact HI0.out)); (case side2 => repeat (first | (with_reducible first | exact HB.out | apply below_alloc | apply pw_below_drewN | apply below_drew1 | refine below_set ?_ (IsS84.ge HI0.out)) | exact HB.out)); rintro e w14 ⟨rfl, hi, hb, hk⟩; have n0_ := Aside0.mk (KeepBut.trans (by repeat (first | (with_reducible first | exact HK.out | apply KeepBut.set_ | apply keep_drewN | apply keep_drew | apply keep_alloc) | exact HK.out)) hk (.inl rfl)); have n1_ := Aside0.mk (hb); have n2_ := Aside0.mk (hi); clear HK; clear HB; clear HI0; have HK := n0_; have HB := n1_; have HI0 := n2_; clear n0_ n1_ n2_)); try go_wp2_with ((go_at_call 39; (with_reducible refine (R5_fail.calls g s0_0 s0_1 s0_2 s0_3 11 t226 t227 t228 t229 w0 _ ?side1 ?side2 A12.out).mono ?_); (case side1 => repeat ((with_reducible first | exact HI0.out | apply IsS84.drewN ))); (case side2 => repeat ((with_reducible first | exact HB.out | apply pw_below_drewN ))); rintro e w14 ⟨rfl, hi, hb, hk⟩; have n0_ := Aside0.mk (KeepBut.trans (by repeat ((with_reducible first | exact HK.out | apply keep_drewN ))) hk (.inl rfl)); have n1_ := Aside0.mk (hb); have n2_ := Aside0.mk (hi); clear HK; clear HB; clear HI0; have HK := n0_; have HB := n1_; have HI0 := n2_; clear n0_ n1_ n2_; (try clear hb); (try clear hk); (try clear hi))))
         (refine bodyPost_ret (results_none rfl _ _ _) rfl ?_)
         exact ⟨by (simp [errW_none, errW_some] <;> rfl), by repeat ((with_reducible (exact HI0.out))), by repeat ((with_reducible (exact HB.out))), by repeat ((with_reducible (exact HK.out)))⟩
       rw [if_neg c9] at H
       exact absurd H (by simp)
     rw [if_neg c8] at H
     exact absurd H (by simp)
   rw [if_neg c7] at H
   exact absurd H (by simp)
end Go.Proofs.YtapcpndplnkfjaaGreatDoor
namespace Go.Proofs.YtapcpndplnkfjaaGreatDoor.Pr
open Go.RowKit Go.Proofs.YtapcpndplnkfjaaGreatDoorW.PrintWords Go.Proofs.YtapcpndplnkfjaaGreatDoorW.PrintLast Go.Proofs.YtapcpndplnkfjaaGreatDoorW.PrintMore
attribute [local go_sem] max2_int min2_int max_two min_two max_three min_three max_four min_four
def num_Text.f (a0_0 : Bool) (a0_1 : ByteArray) (a0_2 : Int) : Option (ByteArray) := if a0_1.toList = ([] : List UInt8) then (some (⟨#[48]⟩ : ByteArray)) else (if a0_0 = true then (if 1 + a0_1.size ≤ 9223372036854775807 then (if a0_2 = 0 then (some ((⟨#[45]⟩ : ByteArray) ++ a0_1)) else ((strconv_Itoa_83.f a0_2).bind fun t119 => (if 1 + t119.size ≤ 9223372036854775807 then (if ((⟨#[45]⟩ : ByteArray) ++ a0_1).size + ((⟨#[101]⟩ : ByteArray) ++ t119).size ≤ 9223372036854775807 then (some (((⟨#[45]⟩ : ByteArray) ++ a0_1) ++ ((⟨#[101]⟩ : ByteArray) ++ t119))) else (none)) else (none)))) else (none)) else (if a0_2 = 0 then (some a0_1) else ((strconv_Itoa_83.f a0_2).bind fun t120 => (if 1 + t120.size ≤ 9223372036854775807 then (if a0_1.size + ((⟨#[101]⟩ : ByteArray) ++ t120).size ≤ 9223372036854775807 then (some (a0_1 ++ ((⟨#[101]⟩ : ByteArray) ++ t120))) else (none)) else (none)))))
set_option maxHeartbeats 8000000 in
set_option maxRecDepth 100000 in
theorem num_Text.calls (a0_0 : Bool) (a0_1 : ByteArray) (a0_2 : Int) (r : ByteArray) (w : World) (hT : PTabs w) (h : num_Text.f a0_0 a0_1 a0_2 = some r) :
    Calls Tryz.prog 56 #[.agg #[.bool a0_0, .string a0_1, .int .i64 a0_2]] w fun e w' => e = .returned (.string r) ∧ Below w.heap.size w w' := by
 have HT := Aside0.mk hT
 clear hT
 have hu24 := Tryz.underlying24
 have HB := Aside0.mk (Below.refl w.heap.size w)
 have H : (if a0_1.toList = ([] : List UInt8) then (some (⟨#[48]⟩ : ByteArray)) else (if a0_0 = true then (if 1 + a0_1.size ≤ 9223372036854775807 then (if a0_2 = 0 then (some ((⟨#[45]⟩ : ByteArray) ++ a0_1)) else ((strconv_Itoa_83.f a0_2).bind fun t119 => (if 1 + t119.size ≤ 9223372036854775807 then (if ((⟨#[45]⟩ : ByteArray) ++ a0_1).size + ((⟨#[101]⟩ : ByteArray) ++ t119).size ≤ 9223372036854775807 then (some (((⟨#[45]⟩ : ByteArray) ++ a0_1) ++ ((⟨#[101]⟩ : ByteArray) ++ t119))) else (none)) else (none)))) else (none)) else (if a0_2 = 0 then (some a0_1) else ((strconv_Itoa_83.f a0_2).bind fun t120 => (if 1 + t120.size ≤ 9223372036854775807 then (if a0_1.size + ((⟨#[101]⟩ : ByteArray) ++ t120).size ≤ 9223372036854775807 then (some (a0_1 ++ ((⟨#[101]⟩ : ByteArray) ++ t120))) else (none)) else (none)))))) = some r := h
 clear h
 by_cases c2 : a0_1.toList = ([] : List UInt8)
 · rw [if_pos c2] at H
   have c2b0 : (a0_1.toList == ([] : List UInt8)) = true := beq_iff_eq.mpr c2
   have c2b7 : a0_1.toList.isEmpty = true := by rw [← beq_nil_isEmpty]; exact c2b0
   have c2b1 : (a0_1.toList != ([] : List UInt8)) = false := bne_eq_false_iff_eq.mpr c2
   clear c2
   obtain rfl := Option.some.inj H
   go_enter Tryz.func56, Tryz.ntmps56
   go_wp2_with (((with_reducible refine gate_dst (N := 1) rfl ?_); refine box_event ?hg (N := 1) ?hd (cs := #[.bool a0_0, .string a0_1, .int .i64 a0_2]) (t := 24) ?hr ?_; (case hd => rfl); (case hg => rfl); (case hr => (go_simp; done)); intro gb118 hg w3 hbox hb; have n0_ := Aside0.mk (below_step (by repeat ((with_reducible (exact HB.out)))) hb); have n1_ := Aside0.mk (hbox); have n2_ := Aside0.mk ((by rw [hg]; exact (below_size (by repeat ((with_reducible (exact HB.out))))) : w.heap.size ≤ gb118)); have n3_ := Aside0.mk ((by rw [hg]; exact (below_size (by repeat ((with_reducible (exact HB.out))))) : w.heap.size ≤ gb118)); clear HB; have HB := n0_; have BK118 := n1_; have GW118 := n2_; have GE118 := n3_; clear n0_ n1_ n2_ n3_; clear hb hbox hg; have hcz4_0 : w3.cell? ⟨gb118, 0, none⟩ = some (.bool a0_0) := (blk_cell BK118.out 0).trans rfl; have hcz4_1 : w3.cell? ⟨gb118, 1, none⟩ = some (.string a0_1) := (blk_cell BK118.out 1).trans rfl; have hcz4_2 : w3.cell? ⟨gb118, 2, none⟩ = some (.int .i64 a0_2) := (blk_cell BK118.out 2).trans rfl; have hfz4_0 := blk_frozen BK118.out 0; have hfz4_1 := blk_frozen BK118.out 1; have hfz4_2 := blk_frozen BK118.out 2))
   go_ret
   try simp only [beq_nil_isEmpty, bytesLess_gtr]
   exact ⟨by (rfl), by repeat ((with_reducible (exact HB.out)))⟩
 · rw [if_neg c2] at H
   have c2b0 : (a0_1.toList == ([] : List UInt8)) = false := beq_eq_false_iff_ne.mpr c2
   have c2b7 : a0_1.toList.isEmpty = false := by rw [← beq_nil_isEmpty]; exact c2b0
   have c2b1 : (a0_1.toList != ([] : List UInt8)) = true := bne_iff_ne.mpr c2
   by_cases c5 : a0_0 = true
   · subst c5
     have H1 : (if 1 + a0_1.size ≤ 9223372036854775807 then (if a0_2 = 0 then (some ((⟨#[45]⟩ : ByteArray) ++ a0_1)) else ((strconv_Itoa_83.f a0_2).bind fun t119 => (if 1 + t119.size ≤ 9223372036854775807 then (if ((⟨#[45]⟩ : ByteArray) ++ a0_1).size + ((⟨#[101]⟩ : ByteArray) ++ t119).size ≤ 9223372036854775807 then (some (((⟨#[45]⟩ : ByteArray) ++ a0_1) ++ ((⟨#[101]⟩ : ByteArray) ++ t119))) else (none)) else (none)))) else (none)) = some r := by rw [if_pos rfl] at H; exact H
     clear H
     have H := H1
     clear H1
     by_cases c6 : 1 + a0_1.size ≤ 9223372036854775807
     · rw [if_pos c6] at H
       have c6b0 := eq_true c6
       have c6b1 : decide (1 + a0_1.size ≤ 9223372036854775807) = true := decide_eq_true c6
       try have c6b2 : (9223372036854775807 < 1 + a0_1.size) = False := eq_false (Nat.not_lt.2 c6)
       by_cases c7 : a0_2 = 0
       · rw [if_pos c7] at H
         have c7b0 : (a0_2 == 0) = true := beq_iff_eq.mpr c7
         have c7b1 : (a0_2 != 0) = false := bne_eq_false_iff_eq.mpr c7
         clear c7
         obtain rfl := Option.some.inj H
         go_enter Tryz.func56, Tryz.ntmps56
         go_wp2_with (((with_reducible refine gate_dst (N := 1) rfl ?_); refine box_event ?hg (N := 1) ?hd (cs := #[.bool true, .string a0_1, .int .i64 a0_2]) (t := 24) ?hr ?_; (case hd => rfl); (case hg => rfl); (case hr => (go_simp; done)); intro gb118 hg w8 hbox hb; have n0_ := Aside0.mk (below_step (by repeat ((with_reducible (exact HB.out)))) hb); have n1_ := Aside0.mk (hbox); have n2_ := Aside0.mk ((by rw [hg]; exact (below_size (by repeat ((with_reducible (exact HB.out))))) : w.heap.size ≤ gb118)); have n3_ := Aside0.mk ((by rw [hg]; exact (below_size (by repeat ((with_reducible (exact HB.out))))) : w.heap.size ≤ gb118)); clear HB; have HB := n0_; have BK118 := n1_; have GW118 := n2_; have GE118 := n3_; clear n0_ n1_ n2_ n3_; clear hb hbox hg; have hcz9_0 : w8.cell? ⟨gb118, 0, none⟩ = some (.bool true) := (blk_cell BK118.out 0).trans rfl; have hcz9_1 : w8.cell? ⟨gb118, 1, none⟩ = some (.string a0_1) := (blk_cell BK118.out 1).trans rfl; have hcz9_2 : w8.cell? ⟨gb118, 2, none⟩ = some (.int .i64 a0_2) := (blk_cell BK118.out 2).trans rfl; have hfz9_0 := blk_frozen BK118.out 0; have hfz9_1 := blk_frozen BK118.out 1; have hfz9_2 := blk_frozen BK118.out 2))
         go_ret
         try simp only [beq_nil_isEmpty, bytesLess_gtr]
         exact ⟨by (rfl), by repeat ((with_reducible (exact HB.out)))⟩
       rw [if_neg c7] at H
       have c7b0 : (a0_2 == 0) = false := beq_eq_false_iff_ne.mpr c7
       have c7b1 : (a0_2 != 0) = true := bne_iff_ne.mpr c7
       replace H := Option.bind_eq_some_iff.mp H
       obtain ⟨t119, A100, H⟩ := H
       replace H : (if 1 + t119.size ≤ 9223372036854775807 then (if ((⟨#[45]⟩ : ByteArray) ++ a0_1).size + ((⟨#[101]⟩ : ByteArray) ++ t119).size ≤ 9223372036854775807 then (some (((⟨#[45]⟩ : ByteArray) ++ a0_1) ++ ((⟨#[101]⟩ : ByteArray) ++ t119))) else (none)) else (none)) = some r := H
       have A10 := Aside0.mk A100
       clear A100
       by_cases c11 : 1 + t119.size ≤ 9223372036854775807
       · rw [if_pos c11] at H
         have c11b0 := eq_true c11
         have c11b1 : decide (1 + t119.size ≤ 9223372036854775807) = true := decide_eq_true c11
         try have c11b2 : (9223372036854775807 < 1 + t119.size) = False := eq_false (Nat.not_lt.2 c11)
         by_cases c12 : ((⟨#[45]⟩ : ByteArray) ++ a0_1).size + ((⟨#[101]⟩ : ByteArray) ++ t119).size ≤ 9223372036854775807
         · rw [if_pos c12] at H
           have c12b0 := eq_true c12
           have c12b1 : decide (((⟨#[45]⟩ : ByteArray) ++ a0_1).size + ((⟨#[101]⟩ : ByteArray) ++ t119).size ≤ 9223372036854775807) = true := decide_eq_true c12
           try have c12b2 : (9223372036854775807 < ((⟨#[45]⟩ : ByteArray) ++ a0_1).size + ((⟨#[101]⟩ : ByteArray) ++ t119).size) = False := eq_false (Nat.not_lt.2 c12)
           obtain rfl := Option.some.inj H
           go_enter Tryz.func56, Tryz.ntmps56
           go_wp2_with (first | ((with_reducible refine gate_dst (N := 1) rfl ?_); refine box_event ?hg (N := 1) ?hd (cs := #[.bool true, .string a0_1, .int .i64 a0_2]) (t := 24) ?hr ?_; (case hd => rfl); (case hg => rfl); (case hr => (go_simp; done)); intro gb118 hg w13 hbox hb; have n0_ := Aside0.mk (below_step (by repeat ((with_reducible (exact HB.out)))) hb); have n1_ := Aside0.mk (hbox); have n2_ := Aside0.mk ((by rw [hg]; exact (below_size (by repeat ((with_reducible (exact HB.out))))) : w.heap.size ≤ gb118)); have n3_ := Aside0.mk ((by rw [hg]; exact (below_size (by repeat ((with_reducible (exact HB.out))))) : w.heap.size ≤ gb118)); clear HB; have HB := n0_; have BK118 := n1_; have GW118 := n2_; have GE118 := n3_; clear n0_ n1_ n2_ n3_; clear hb hbox hg; have hcz14_0 : w13.cell? ⟨gb118, 0, none⟩ = some (.bool true) := (blk_cell BK118.out 0).trans rfl; have hcz14_1 : w13.cell? ⟨gb118, 1, none⟩ = some (.string a0_1) := (blk_cell BK118.out 1).trans rfl; have hcz14_2 : w13.cell? ⟨gb118, 2, none⟩ = some (.int .i64 a0_2) := (blk_cell BK118.out 2).trans rfl; have hfz14_0 := blk_frozen BK118.out 0; have hfz14_1 := blk_frozen BK118.out 1; have hfz14_2 := blk_frozen BK118.out 2) | ((with_reducible refine gate_callee (f := 83) rfl ?_); refine goesL_ (some 19) rfl rfl Tryz.func83 (by kernel_rfl) rfl #[.int .i64 a0_2] rfl (by (try simp only [List.map_toArray, List.map_cons, List.map_nil]); (rfl)) ?_; (with_reducible refine (strconv_Itoa_83.calls a0_2 t119 _ (PTabs.below HT.out (by repeat ((with_reducible (exact HB.out))))) A10.out).mono ?_); rintro e w15 ⟨rfl, hb⟩; refine ⟨_, rfl, ?_⟩; have n0_ := Aside0.mk (blk_below (g := gb118) (o := .cells #[.bool true, .string a0_1, .int .i64 a0_2] 24 (0, 0)) (by (with_reducible repeat (first | refine blk_drewN ?_ _ | refine blk_drew ?_ | refine blk_alloc ?_ _)); exact BK118.out) hb); have n1_ := Aside0.mk (below_step (by repeat ((with_reducible (exact HB.out)))) hb); clear BK118; clear HB; have BK118 := n0_; have HB := n1_; clear n0_ n1_; (try clear hb)))
           go_ret
           try simp only [beq_nil_isEmpty, bytesLess_gtr]
           exact ⟨by (rfl), by repeat ((with_reducible (exact HB.out)))⟩
         rw [if_neg c12] at H
         exact absurd H (by simp)
       rw [if_neg c11] at H
       exact absurd H (by simp)
     rw [if_neg c6] at H
     exact absurd H (by simp)
   replace c5 := Bool.eq_false_iff.mpr c5
   subst c5
   have H1 : (if a0_2 = 0 then (some a0_1) else ((strconv_Itoa_83.f a0_2).bind fun t120 => (if 1 + t120.size ≤ 9223372036854775807 then (if a0_1.size + ((⟨#[101]⟩ : ByteArray) ++ t120).size ≤ 9223372036854775807 then (some (a0_1 ++ ((⟨#[101]⟩ : ByteArray) ++ t120))) else (none)) else (none)))) = some r := by rw [if_neg (show ¬ (false = true) by decide)] at H; exact H
   clear H
   have H := H1
   clear H1
   by_cases c16 : a0_2 = 0
   · rw [if_pos c16] at H
     have c16b0 : (a0_2 == 0) = true := beq_iff_eq.mpr c16
     have c16b1 : (a0_2 != 0) = false := bne_eq_false_iff_eq.mpr c16
     clear c16
     obtain rfl := Option.some.inj H
     go_enter Tryz.func56, Tryz.ntmps56
     go_wp2_with (((with_reducible refine gate_dst (N := 1) rfl ?_); refine box_event ?hg (N := 1) ?hd (cs := #[.bool false, .string a0_1, .int .i64 a0_2]) (t := 24) ?hr ?_; (case hd => rfl); (case hg => rfl); (case hr => (go_simp; done)); intro gb118 hg w17 hbox hb; have n0_ := Aside0.mk (below_step (by repeat ((with_reducible (exact HB.out)))) hb); have n1_ := Aside0.mk (hbox); have n2_ := Aside0.mk ((by rw [hg]; exact (below_size (by repeat ((with_reducible (exact HB.out))))) : w.heap.size ≤ gb118)); have n3_ := Aside0.mk ((by rw [hg]; exact (below_size (by repeat ((with_reducible (exact HB.out))))) : w.heap.size ≤ gb118)); clear HB; have HB := n0_; have BK118 := n1_; have GW118 := n2_; have GE118 := n3_; clear n0_ n1_ n2_ n3_; clear hb hbox hg; have hcz18_0 : w17.cell? ⟨gb118, 0, none⟩ = some (.bool false) := (blk_cell BK118.out 0).trans rfl; have hcz18_1 : w17.cell? ⟨gb118, 1, none⟩ = some (.string a0_1) := (blk_cell BK118.out 1).trans rfl; have hcz18_2 : w17.cell? ⟨gb118, 2, none⟩ = some (.int .i64 a0_2) := (blk_cell BK118.out 2).trans rfl; have hfz18_0 := blk_frozen BK118.out 0; have hfz18_1 := blk_frozen BK118.out 1; have hfz18_2 := blk_frozen BK118.out 2))
     go_ret
     try simp only [beq_nil_isEmpty, bytesLess_gtr]
     exact ⟨by (rfl), by repeat ((with_reducible (exact HB.out)))⟩
   rw [if_neg c16] at H
   have c16b0 : (a0_2 == 0) = false := beq_eq_false_iff_ne.mpr c16
   have c16b1 : (a0_2 != 0) = true := bne_iff_ne.mpr c16
   replace H := Option.bind_eq_some_iff.mp H
   obtain ⟨t120, A190, H⟩ := H
   replace H : (if 1 + t120.size ≤ 9223372036854775807 then (if a0_1.size + ((⟨#[101]⟩ : ByteArray) ++ t120).size ≤ 9223372036854775807 then (some (a0_1 ++ ((⟨#[101]⟩ : ByteArray) ++ t120))) else (none)) else (none)) = some r := H
   have A19 := Aside0.mk A190
   clear A190
   by_cases c20 : 1 + t120.size ≤ 9223372036854775807
   · rw [if_pos c20] at H
     have c20b0 := eq_true c20
     have c20b1 : decide (1 + t120.size ≤ 9223372036854775807) = true := decide_eq_true c20
     try have c20b2 : (9223372036854775807 < 1 + t120.size) = False := eq_false (Nat.not_lt.2 c20)
     by_cases c21 : a0_1.size + ((⟨#[101]⟩ : ByteArray) ++ t120).size ≤ 9223372036854775807
     · rw [if_pos c21] at H
       have c21b0 := eq_true c21
       have c21b1 : decide (a0_1.size + ((⟨#[101]⟩ : ByteArray) ++ t120).size ≤ 9223372036854775807) = true := decide_eq_true c21
       try have c21b2 : (9223372036854775807 < a0_1.size + ((⟨#[101]⟩ : ByteArray) ++ t120).size) = False := eq_false (Nat.not_lt.2 c21)
       obtain rfl := Option.some.inj H
       go_enter Tryz.func56, Tryz.ntmps56
       go_wp2_with (first | ((with_reducible refine gate_dst (N := 1) rfl ?_); refine box_event ?hg (N := 1) ?hd (cs := #[.bool false, .string a0_1, .int .i64 a0_2]) (t := 24) ?hr ?_; (case hd => rfl); (case hg => rfl); (case hr => (go_simp; done)); intro gb118 hg w22 hbox hb; have n0_ := Aside0.mk (below_step (by repeat ((with_reducible (exact HB.out)))) hb); have n1_ := Aside0.mk (hbox); have n2_ := Aside0.mk ((by rw [hg]; exact (below_size (by repeat ((with_reducible (exact HB.out))))) : w.heap.size ≤ gb118)); have n3_ := Aside0.mk ((by rw [hg]; exact (below_size (by repeat ((with_reducible (exact HB.out))))) : w.heap.size ≤ gb118)); clear HB; have HB := n0_; have BK118 := n1_; have GW118 := n2_; have GE118 := n3_; clear n0_ n1_ n2_ n3_; clear hb hbox hg; have hcz23_0 : w22.cell? ⟨gb118, 0, none⟩ = some (.bool false) := (blk_cell BK118.out 0).trans rfl; have hcz23_1 : w22.cell? ⟨gb118, 1, none⟩ = some (.string a0_1) := (blk_cell BK118.out 1).trans rfl; have hcz23_2 : w22.cell? ⟨gb118, 2, none⟩ = some (.int .i64 a0_2) := (blk_cell BK118.out 2).trans rfl; have hfz23_0 := blk_frozen BK118.out 0; have hfz23_1 := blk_frozen BK118.out 1; have hfz23_2 := blk_frozen BK118.out 2) | ((with_reducible refine gate_callee (f := 83) rfl ?_); refine goesL_ (some 19) rfl rfl Tryz.func83 (by kernel_rfl) rfl #[.int .i64 a0_2] rfl (by (try simp only [List.map_toArray, List.map_cons, List.map_nil]); (rfl)) ?_; (with_reducible refine (strconv_Itoa_83.calls a0_2 t120 _ (PTabs.below HT.out (by repeat ((with_reducible (exact HB.out))))) A19.out).mono ?_); rintro e w24 ⟨rfl, hb⟩; refine ⟨_, rfl, ?_⟩; have n0_ := Aside0.mk (blk_below (g := gb118) (o := .cells #[.bool false, .string a0_1, .int .i64 a0_2] 24 (0, 0)) (by (with_reducible repeat (first | refine blk_drewN ?_ _ | refine blk_drew ?_ | refine blk_alloc ?_ _)); exact BK118.out) hb); have n1_ := Aside0.mk (below_step (by repeat ((with_reducible (exact HB.out)))) hb); clear BK118; clear HB; have BK118 := n0_; have HB := n1_; clear n0_ n1_; (try clear hb)))
       go_ret
       try simp only [beq_nil_isEmpty, bytesLess_gtr]
       exact ⟨by (rfl), by repeat ((with_reducible (exact HB.out)))⟩
     rw [if_neg c21] at H
     exact absurd H (by simp)
   rw [if_neg c20] at H
   exact absurd H (by simp)
end Go.Proofs.YtapcpndplnkfjaaGreatDoor.Pr
namespace Go.Proofs.YtapcpndplnkfjaaGreatDoor
open Go.RowKit Go.Proofs.YtapcpndplnkfjaaGreatDoorW.PrintWords Go.Proofs.YtapcpndplnkfjaaGreatDoorW.PrintLast Go.Proofs.YtapcpndplnkfjaaGreatDoorW.PrintMore
namespace Js
def itemsF (f : S28 → Option (List UInt8)) : List S28 → Option (List (List UInt8))
 | [] => some []
 | x :: t => (f x).bind fun a => (itemsF f t).bind fun r => some (a :: r)
def pairsF (f : S28 → Option (List UInt8)) : List S28 → List ByteArray → Option (List (List UInt8))
 | [], _ => some []
 | x :: t, k :: u => if k.data.toList.length ≤ 1000000 then (f x).bind fun a => if a.length ≤ 1000000000 then (pairsF f t u).bind fun r => some ((quoteL k.data.toList ++ [58] ++ a) :: r) else none else none
 | _ :: _, [] => none
def wrapF (a b : UInt8) (l : List (List UInt8)) : Option (List UInt8) := if l.length ≤ 1000000 ∧ (Lib.join l [44]).length ≤ 1000000000 then some (a :: Lib.join l [44] ++ [b]) else none
def txF : Nat → S28 → Option (List UInt8)
 | 0, _ => none
 | n + 1, x =>
  if x.f0 = 1 then some (if x.f1 = true then [116, 114, 117, 101] else [102, 97, 108, 115, 101])
  else if x.f0 = 2 then (Pr.num_Text.f x.f2.f0 x.f2.f1 x.f2.f2).bind fun b => some b.data.toList
  else if x.f0 = 3 then (if x.f3.data.toList.length ≤ 1000000 then some (quoteL x.f3.data.toList) else none)
  else if x.f0 = 4 then (itemsF (txF n) x.f4).bind (wrapF 91 93)
  else if x.f0 = 5 then (pairsF (txF n) x.f4 x.f5).bind (wrapF 123 125)
  else some [110, 117, 108, 108]
theorem items_len {f : S28 → Option (List UInt8)} : ∀ {xs l}, itemsF f xs = some l → l.length = xs.length
 | [], l, h => by simp [itemsF] at h; subst h; rfl
 | x :: t, l, h => by
  simp only [itemsF, Option.bind_eq_some_iff] at h
  obtain ⟨a, _, r, hr, h⟩ := h
  obtain rfl : a :: r = l := by simpa using h
  simp [items_len hr]
theorem items_at {f : S28 → Option (List UInt8)} : ∀ {xs l}, itemsF f xs = some l → ∀ i, i < xs.length → f (xs.getD i z28) = some (l.getD i [])
 | [], l, h, i, hi => by simp at hi
 | x :: t, l, h, i, hi => by
  simp only [itemsF, Option.bind_eq_some_iff] at h
  obtain ⟨a, ha, r, hr, h⟩ := h
  obtain rfl : a :: r = l := by simpa using h
  match i, hi with
  | 0, _ => simpa using ha
  | i + 1, hi => simpa using items_at hr i (by simpa using hi)
theorem pairs_len {f : S28 → Option (List UInt8)} : ∀ {xs ks l}, pairsF f xs ks = some l → l.length = xs.length
 | [], _, l, h => by simp [pairsF] at h; subst h; rfl
 | _ :: _, [], l, h => by simp [pairsF] at h
 | x :: t, k :: u, l, h => by
  simp only [pairsF] at h
  split at h
  case isFalse => simp at h
  rw [Option.bind_eq_some_iff] at h
  obtain ⟨a, _, h⟩ := h
  split at h
  case isFalse => simp at h
  rw [Option.bind_eq_some_iff] at h
  obtain ⟨r, hr, h⟩ := h
  obtain rfl : _ = l := by simpa using h
  simp [pairs_len hr]
theorem pairs_at {f : S28 → Option (List UInt8)} : ∀ {xs ks l}, pairsF f xs ks = some l → ∀ i, i < xs.length → ∃ a, f (xs.getD i z28) = some a ∧ a.length ≤ 1000000000 ∧ i < ks.length ∧ (ks.getD i ⟨#[]⟩).data.toList.length ≤ 1000000 ∧ quoteL (ks.getD i ⟨#[]⟩).data.toList ++ [58] ++ a = l.getD i []
 | [], _, l, h, i, hi => by simp at hi
 | _ :: _, [], l, h, i, hi => by simp [pairsF] at h
 | x :: t, k :: u, l, h, i, hi => by
  simp only [pairsF] at h
  split at h
  case isFalse => simp at h
  next hk =>
  rw [Option.bind_eq_some_iff] at h
  obtain ⟨a, ha, h⟩ := h
  split at h
  case isFalse => simp at h
  next hl =>
  rw [Option.bind_eq_some_iff] at h
  obtain ⟨r, hr, h⟩ := h
  obtain rfl : _ = l := by simpa using h
  match i, hi with
  | 0, _ => exact ⟨a, by simpa using ha, hl, by simp, hk, by simp⟩
  | i + 1, hi =>
   obtain ⟨b, h1, h2, h3, h4, h5⟩ := pairs_at hr i (by simpa using hi)
   exact ⟨b, by simpa using h1, h2, by simpa using h3, by simpa using h4, by simpa using h5⟩
structure TI (w wr : World) (base : Nat) (v : Value) (l : List (List UInt8)) : Prop where
  r : Kd.R Kd.string 9 wr base (fun _ => True) v (l.map ofL)
  bel : Below base w wr
theorem map_join (l : List (List UInt8)) : ((l.map ofL).map (·.data.toList)) = l := by
 rw [List.map_map]
 conv => rhs; rw [← List.map_id l]
 exact List.map_congr_left (fun x _ => rfl)
theorem join_calls (l : List (List UInt8)) (base : Nat) (v : Value) (w : World) (hR : Kd.R Kd.string 9 w base (fun _ => True) v (l.map ofL)) (hl : l.length ≤ 1000000) (hj : (Lib.join l [44]).length ≤ 1000000000) :
    Calls Tryz.prog 58 #[v, .string ⟨#[44]⟩] w fun e w' => e = .returned (.string (ofL (Lib.join l [44]))) ∧ Below w.heap.size w w' := by
 by_cases hn : l = []
 · subst hn
   obtain ⟨A, c, rfl⟩ := Kd.R_slice hR
   exact (Tryz.strings_Join_none A c ⟨#[44]⟩ w).mono fun e w' ⟨h1, h2⟩ => ⟨by rw [h1]; rfl, h2 ▸ Below.refl _ _⟩
 · obtain ⟨A, c, rfl, hlc, hC⟩ := Kd.R_reads hR
   obtain ⟨g, cap, e, hg0, hg1, cells, hcells⟩ := Kd.R_form hR (by rw [List.length_map]; exact List.length_pos_iff.2 hn)
   injection e with e1 e2 e3
   subst e1
   have := Tryz.strings_Join g 0 c (l.map ofL) ⟨#[44]⟩ w (fun j x hj => by
    have hjl : j < (l.map ofL).length := (List.getElem?_eq_some_iff.1 hj).1
    obtain ⟨ad, cs, ea, _, hK, hc0⟩ := Kd.C_get hC (⟨#[]⟩ : ByteArray) (j : Int) (by omega) (by omega)
    injection ea with ea
    subst ea
    obtain rfl : cs = [.string ((l.map ofL).getD j ⟨#[]⟩)] := hK
    have := hc0 0 _ rfl
    rw [List.getD_eq_getElem?_getD, hj] at this
    have e0 : (⟨g, 0, none⟩ : Addr).add ((j : Int).toNat * Kd.string.sz + 0) = ⟨g, 0 + j, none⟩ := by show Addr.add _ (j * 1 + 0) = _; simp [Addr.add]; omega
    rw [e0] at this
    simpa using this) hg1 (by simp; omega) hlc (by rw [map_join]; exact Nat.le_trans hj (by decide))
   refine this.mono fun e w' ⟨h1, h2⟩ => ⟨?_, h2⟩
   rw [h1, map_join]
   rfl
set_option maxRecDepth 100000 in
set_option maxHeartbeats 2000000 in
theorem jtext_calls : ∀ (n : Nat) (x : S28) (r : List UInt8), txF n x = some r → ∀ (A B : Option Addr) (c c' : Nat) (w : World), PTabs w → JC w x A x.f4.length c B x.f5.length c' →
    Calls Tryz.prog 30 #[.agg #[.int .i64 x.f0, .bool x.f1, .bool x.f2.f0, .string x.f2.f1, .int .i64 x.f2.f2, .string x.f3, .slice A x.f4.length c, .slice B x.f5.length c']] w fun e w' => e = .returned (.string (ofL r)) ∧ Below w.heap.size w w'
 | 0, x, r, h => by simp [txF] at h
 | n + 1, x, r, h => by
  intro A B c c' w hT hJ
  have IH := hi_ (jtext_calls n)
  have HT := hi_ hT
  have HJ := hi_ hJ
  have hal := fun o => below_alloc (Below.refl w.heap.size w) o
  have HA := hi_ hal
  unfold txF at h
  clear hT hJ hal
  by_cases h1 : x.f0 = 1
  · rw [if_pos h1] at h
    cases hb : x.f1 with
    | true =>
     rw [hb] at h
     obtain rfl : [116, 114, 117, 101] = r := by simpa using h
     clear h
     go_enter Tryz.func30, Tryz.ntmps30
     go_wp2_with fail
     go_ret
     exact ⟨rfl, HA.out _⟩
    | false =>
     rw [hb] at h
     obtain rfl : [102, 97, 108, 115, 101] = r := by simpa using h
     clear h
     go_enter Tryz.func30, Tryz.ntmps30
     go_wp2_with fail
     go_ret
     exact ⟨rfl, HA.out _⟩
  rw [if_neg h1] at h
  have h1' : (x.f0 == 1) = false := by simpa using h1
  by_cases h2 : x.f0 = 2
  · rw [if_pos h2, Option.bind_eq_some_iff] at h
    obtain ⟨b, hb, h⟩ := h
    obtain rfl : b.data.toList = r := by simpa using h
    have HB := hi_ hb
    clear h hb h1
    go_enter Tryz.func30, Tryz.ntmps30
    go_wp2_with fail
    refine (Pr.num_Text.calls _ _ _ b _ (HT.out.below (HA.out _)) HB.out).mono ?_
    rintro E w1 ⟨rfl, hB⟩
    have HB1 := hi_ ((HA.out _).trans (hB.mono (HA.out _).size))
    go_wp2_with fail
    go_ret
    exact ⟨by rw [ofL_of]; rfl, HB1.out⟩
  rw [if_neg h2] at h
  have h2' : (x.f0 == 2) = false := by simpa using h2
  by_cases h3 : x.f0 = 3
  · rw [if_pos h3] at h
    split at h
    case isFalse => simp at h
    next hl =>
    obtain rfl : quoteL x.f3.data.toList = r := by simpa using h
    have HL := hi_ hl
    have HS := hi_ (quote_calls x.f3.data.toList hl)
    rw [ofL_of] at HS
    clear h h1 h2 hl
    go_enter Tryz.func30, Tryz.ntmps30
    go_wp2_with fail
    refine (HS.out _).mono ?_
    rintro E w1 ⟨rfl, hB⟩
    have HB1 := hi_ ((HA.out _).trans (hB.mono (HA.out _).size))
    go_wp2_with fail
    go_ret
    exact ⟨rfl, HB1.out⟩
  rw [if_neg h3] at h
  have h3' : (x.f0 == 3) = false := by simpa using h3
  by_cases h4 : x.f0 = 4
  · rw [if_pos h4, Option.bind_eq_some_iff] at h
    obtain ⟨l, hit, h⟩ := h
    unfold wrapF at h
    split at h
    case isFalse => simp at h
    next hl =>
    obtain rfl : 91 :: Lib.join l [44] ++ [93] = r := by simpa using h
    have HL := hi_ hl
    have HLEN := hi_ (items_len hit)
    have HAT := hi_ (items_at hit)
    have hn : x.f4.length ≤ 1000000 := by rw [← items_len hit]; exact hl.1
    have h4b : (x.f0 == 4) = true := by simp [h4]
    clear h h1 h2 h3 hl hit h4
    go_enter Tryz.func30, Tryz.ntmps30
    go_wp2_with fail
    have hb0 := HA.out (.cells #[.int .i64 x.f0, .bool x.f1, .bool x.f2.f0, .string x.f2.f1, .int .i64 x.f2.f2, .string x.f3, .slice A x.f4.length c, .slice B x.f5.length c'] 28)
    obtain ⟨w0, hw0⟩ : ∃ w0, w0 = w.alloc (.cells #[.int .i64 x.f0, .bool x.f1, .bool x.f2.f0, .string x.f2.f1, .int .i64 x.f2.f2, .string x.f3, .slice A x.f4.length c, .slice B x.f5.length c'] 28) := ⟨_, rfl⟩
    rw [← hw0] at hb0 ⊢
    have HB0 := hi_ hb0
    clear hb0 hw0
    go_loopw [3, 29] (fun v3 vi wr => ∃ (k : Nat) (u : Value), k ≤ x.f4.length ∧ u = v3 ∧ vi = .int .i64 k ∧ Hid (TI w0 wr w0.heap.size u (l.take k))) (fun v3 vi _ => x.f4.length - (intOf vi).toNat)
    case atStart => exact ⟨0, _, by omega, rfl, rfl, hi_ ⟨Kd.R_nil _ _ _ _ _, Below.refl _ _⟩⟩
    case round =>
     obtain ⟨k, v3, hk, hu, rfl, HI⟩ := hrel
     subst hu
     have HBW := hi_ (HB0.out.trans (HI.out.bel.mono HB0.out.size))
     by_cases hkl : k < x.f4.length
     · obtain ⟨ad, A6, c6, A7, c7, rfl, q0, q1, q2, q3, q4, q5, q6, q7, l6, g6, l7, g7⟩ := at_T28 (Kd.C_below HJ.out.i HBW.out) (k : Int) (by omega) (by omega)
       have hy := HAT.out k hkl
       simp only [rd_T28, Int.toNat_natCast] at q0 q1 q2 q3 q4 q5 q6 q7 l6 g6 l7 g7
       obtain ⟨y, hyy⟩ : ∃ y, y = x.f4.getD k z28 := ⟨_, rfl⟩
       obtain ⟨t, ht⟩ : ∃ t, t = l.getD k [] := ⟨_, rfl⟩
       rw [← hyy] at q0 q1 q2 q3 q4 q5 q6 q7 l6 g6 l7 g7 hy
       rw [← ht] at hy
       have HY := hi_ hy
       have HJY := hi_ (JC.mk (w := wr) (x := y) (A := A6) (n := y.f4.length) (c := c6) (B := A7) (m := y.f5.length) (c' := c7) rfl l6 g6 rfl l7 g7)
       have HTK : Hid ((l.take (k + 1)).map ofL = (l.take k).map ofL ++ [ofL t]) := hi_ (by
        have hkl2 : k < l.length := by rw [HLEN.out]; exact hkl
        rw [List.take_succ_eq_append_getElem hkl2, List.map_append, ht]; simp [hkl2])
       have HLN : Hid ((((l.take k).map ofL).length + 1) * 16 ≤ 140737488355328) := hi_ (by have := HL.out.1; simp; omega)
       clear hyy ht hy l6 g6 l7 g7
       have hal := fun o => below_alloc (Below.refl wr.heap.size wr) o
       have HAL := hi_ hal
       clear hal
       go_wp2_with fail
       refine (IH.out y t HY.out A6 A7 c6 c7 _ (HT.out.below (HBW.out.trans ((HAL.out _).mono HBW.out.size))) (HJY.out.below (HAL.out _))).mono ?_
       rintro E w1 ⟨rfl, hB⟩
       have hb1 := (HAL.out (.cells #[.int .i64 y.f0, .bool y.f1, .bool y.f2.f0, .string y.f2.f1, .int .i64 y.f2.f2, .string y.f3, .slice A6 y.f4.length c6, .slice A7 y.f5.length c7] 28)).trans (hB.mono (HAL.out _).size)
       have HR1 := hi_ (Kd.R_below HI.out.r hb1)
       have HB1 := hi_ (HI.out.bel.trans (hb1.mono HI.out.bel.size))
       clear hB hb1 q0 q1 q2 q3 q4 q5 q6 q7
       go_wp2_with (first | ((with_reducible refine gate_builtin (b := .append) (xs := #[.tmp 33, .tmp 36]) rfl ?_); at_builtin; refine Kd.R_append Kd.string (w0 := w0) w0.heap.size rfl (.tmp 33) (.tmp 36) 26 9 (.string ⟨#[]⟩) 16 rfl Tryz.underlying26 info9 rfl (by decide) (by decide) v3 _ (ofL t) [.string (ofL t)] (fun _ => True) (fun _ => False) rfl rfl rfl (fun _ hk => hk.elim) (fun _ _ => trivial) HR1.out HB1.out HB1.out.size HLN.out ?_; intro v9 wa hR9 hB9 hga hat))
       exact ⟨⟨k + 1, _, by omega, rfl, by simp, hi_ ⟨by rw [HTK.out]; exact hR9, hB9⟩⟩, by simp [intOf]; omega⟩
     have : k = x.f4.length := by omega
     subst this
     have HR : Hid (Kd.R Kd.string 9 wr w0.heap.size (fun _ => True) v3 (l.map ofL)) := hi_ (by have := HI.out.r; rwa [← HLEN.out, List.take_length] at this)
     go_wp2_with fail
     refine (join_calls l _ v3 wr HR.out HL.out.1 HL.out.2).mono ?_
     rintro E w2 ⟨rfl, hB⟩
     have HB2 := hi_ (HBW.out.trans (hB.mono HBW.out.size))
     have HJL := hi_ HL.out.2
     obtain ⟨J, hJ⟩ : ∃ J, J = Lib.join l [44] := ⟨_, rfl⟩
     rw [← hJ] at HJL ⊢
     have hz1 : (ofL J).size = J.length := ofL_size J
     have hz2 : (ofL (91 :: J)).size = J.length + 1 := ofL_size _
     have hz3 : J.length ≤ 1000000000 := HJL.out
     have hS1 : (⟨#[91]⟩ : ByteArray) ++ ofL J = ofL (91 :: J) := ofL_app [91] J
     have hS2 : ofL (91 :: J) ++ (⟨#[93]⟩ : ByteArray) = ofL (91 :: J ++ [93]) := ofL_app (91 :: J) [93]
     have HJJ := hi_ hJ
     clear hJ hB
     go_wp2_with fail
     go_ret
     rw [← HJJ.out]
     exact ⟨rfl, HB2.out⟩
  rw [if_neg h4] at h
  have h4' : (x.f0 == 4) = false := by simpa using h4
  by_cases h5 : x.f0 = 5
  · rw [if_pos h5, Option.bind_eq_some_iff] at h
    obtain ⟨l, hit, h⟩ := h
    unfold wrapF at h
    split at h
    case isFalse => simp at h
    next hl =>
    obtain rfl : 123 :: Lib.join l [44] ++ [125] = r := by simpa using h
    have HL := hi_ hl
    have HLEN := hi_ (pairs_len hit)
    have HAT := hi_ (pairs_at hit)
    have hn : x.f4.length ≤ 1000000 := by rw [← pairs_len hit]; exact hl.1
    have h5b : (x.f0 == 5) = true := by simp [h5]
    clear h h1 h2 h3 hl hit h4 h5
    go_enter Tryz.func30, Tryz.ntmps30
    go_wp2_with fail
    have hb0 := HA.out (.cells #[.int .i64 x.f0, .bool x.f1, .bool x.f2.f0, .string x.f2.f1, .int .i64 x.f2.f2, .string x.f3, .slice A x.f4.length c, .slice B x.f5.length c'] 28)
    have hk0 := blk_new w (.cells #[.int .i64 x.f0, .bool x.f1, .bool x.f2.f0, .string x.f2.f1, .int .i64 x.f2.f2, .string x.f3, .slice A x.f4.length c, .slice B x.f5.length c'] 28)
    have hs0 : w.heap.size < (w.alloc (.cells #[.int .i64 x.f0, .bool x.f1, .bool x.f2.f0, .string x.f2.f1, .int .i64 x.f2.f2, .string x.f3, .slice A x.f4.length c, .slice B x.f5.length c'] 28)).heap.size := by simp
    obtain ⟨w0, hw0⟩ : ∃ w0, w0 = w.alloc (.cells #[.int .i64 x.f0, .bool x.f1, .bool x.f2.f0, .string x.f2.f1, .int .i64 x.f2.f2, .string x.f3, .slice A x.f4.length c, .slice B x.f5.length c'] 28) := ⟨_, rfl⟩
    rw [← hw0] at hb0 hk0 hs0 ⊢
    have HB0 := hi_ hb0
    have HK0 := hi_ hk0
    clear hb0 hw0 hk0 hs0
    go_loopw [3, 48] (fun v3 vi wr => ∃ (k : Nat) (u : Value), k ≤ x.f4.length ∧ u = v3 ∧ vi = .int .i64 k ∧ Hid (TI w0 wr w0.heap.size u (l.take k))) (fun v3 vi _ => x.f4.length - (intOf vi).toNat)
    case atStart => exact ⟨0, _, by omega, rfl, rfl, hi_ ⟨Kd.R_nil _ _ _ _ _, Below.refl _ _⟩⟩
    case round =>
     obtain ⟨k, v3, hk, hu, rfl, HI⟩ := hrel
     subst hu
     have HBW := hi_ (HB0.out.trans (HI.out.bel.mono HB0.out.size))
     by_cases hkl : k < x.f4.length
     · obtain ⟨ad, A6, c6, A7, c7, rfl, q0, q1, q2, q3, q4, q5, q6, q7, l6, g6, l7, g7⟩ := at_T28 (Kd.C_below HJ.out.i HBW.out) (k : Int) (by omega) (by omega)
       obtain ⟨t, hy, htl, hkk, hkey, hlk⟩ := HAT.out k hkl
       simp only [rd_T28, Int.toNat_natCast] at q0 q1 q2 q3 q4 q5 q6 q7 l6 g6 l7 g7
       obtain ⟨bd, cs, rfl, _, hcs, hbd⟩ := Kd.C_get (Kd.C_below HJ.out.s HBW.out) (⟨#[]⟩ : ByteArray) (k : Int) (by omega) (by omega)
       obtain rfl : cs = [.string (x.f5.getD k ⟨#[]⟩)] := hcs
       have hbd : wr.cell? (bd.add k) = some (.string (x.f5.getD k ⟨#[]⟩)) := by have := hbd 0 _ rfl; rwa [show (k : Int).toNat * Kd.string.sz + 0 = k by show k * 1 + 0 = k; omega] at this
       obtain ⟨y, hyy⟩ : ∃ y, y = x.f4.getD k z28 := ⟨_, rfl⟩
       obtain ⟨key, hke⟩ : ∃ key, key = (x.f5.getD k ⟨#[]⟩).data.toList := ⟨_, rfl⟩
       have hkf : x.f5.getD k ⟨#[]⟩ = ofL key := by rw [hke, ofL_of]
       rw [← hyy] at q0 q1 q2 q3 q4 q5 q6 q7 l6 g6 l7 g7 hy
       rw [hkf] at hbd
       rw [← hke] at hkey hlk
       have HQ := hi_ (quote_calls key hkey)
       obtain ⟨Q, hQ⟩ : ∃ Q, Q = quoteL key := ⟨_, rfl⟩
       have hQl : Q.length ≤ 6000002 := by rw [hQ]; unfold quoteL; have := quoteF_len key; simp only [List.length_append, List.length_cons, List.length_nil]; omega
       rw [← hQ] at HQ hlk
       have HY := hi_ hy
       have HJY0 := JC.mk (w := wr) (x := y) (A := A6) (n := y.f4.length) (c := c6) (B := A7) (m := y.f5.length) (c' := c7) rfl l6 g6 rfl l7 g7
       have HTK : Hid ((l.take (k + 1)).map ofL = (l.take k).map ofL ++ [ofL (Q ++ [58] ++ t)]) := hi_ (by
        have hkl2 : k < l.length := by rw [HLEN.out]; exact hkl
        rw [List.take_succ_eq_append_getElem hkl2, List.map_append, hlk]; simp [hkl2])
       have HLN : Hid ((((l.take k).map ofL).length + 1) * 16 ≤ 140737488355328) := hi_ (by have := HL.out.1; simp; omega)
       have hal := fun o => below_alloc (Below.refl wr.heap.size wr) o
       have hWk := blk_new wr (.cells #[.int .i64 y.f0, .bool y.f1, .bool y.f2.f0, .string y.f2.f1, .int .i64 y.f2.f2, .string y.f3, .slice A6 y.f4.length c6, .slice A7 y.f5.length c7] 28)
       have hWs : (wr.alloc (.cells #[.int .i64 y.f0, .bool y.f1, .bool y.f2.f0, .string y.f2.f1, .int .i64 y.f2.f2, .string y.f3, .slice A6 y.f4.length c6, .slice A7 y.f5.length c7] 28)).heap.size = wr.heap.size + 1 := by simp
       have hgW : w.heap.size < wr.heap.size := Nat.lt_of_lt_of_le (blk_lt HK0.out) HI.out.bel.size
       have hk7 : wr.cell? ⟨w.heap.size, 7, none⟩ = some (.slice (some bd) x.f5.length c') := (blk_cell (thru HK0.out HI.out.bel) 7).trans rfl
       have HNE : Hid (some wr.heap.size ≠ v3.ownBlock) := hi_ (fun h0 => by
        have := (Kd.R_bound HI.out.r).1 wr.heap.size h0.symm
        omega)
       have HKD : Hid (∀ wa : World, Below w.heap.size w wa → wa.cell? (bd.add k) = some (.string (ofL key))) := hi_ (fun wa hb => by
        obtain ⟨bd', cs', e', _, hcs', hbd'⟩ := Kd.C_get (Kd.C_below HJ.out.s hb) (⟨#[]⟩ : ByteArray) (k : Int) (by omega) (by omega)
        injection e' with e'
        subst e'
        obtain rfl : cs' = [.string (x.f5.getD k ⟨#[]⟩)] := hcs'
        have := hbd' 0 _ rfl
        rw [show (k : Int).toNat * Kd.string.sz + 0 = k by show k * 1 + 0 = k; omega, hkf] at this
        exact this)
       have hall : ∀ w' : World, Below (wr.alloc (.cells #[.int .i64 y.f0, .bool y.f1, .bool y.f2.f0, .string y.f2.f1, .int .i64 y.f2.f2, .string y.f3, .slice A6 y.f4.length c6, .slice A7 y.f5.length c7] 28)).heap.size (wr.alloc (.cells #[.int .i64 y.f0, .bool y.f1, .bool y.f2.f0, .string y.f2.f1, .int .i64 y.f2.f2, .string y.f3, .slice A6 y.f4.length c6, .slice A7 y.f5.length c7] 28)) w' → w'.cell? ⟨w.heap.size, 7, none⟩ = some (.slice (some bd) x.f5.length c') ∧ w'.cell? (bd.add k) = some (.string (ofL key)) ∧ w'.cell? ⟨wr.heap.size, 0, none⟩ = some (.int .i64 y.f0) ∧ w'.cell? ⟨wr.heap.size, 1, none⟩ = some (.bool y.f1) ∧ w'.cell? ⟨wr.heap.size, 2, none⟩ = some (.bool y.f2.f0) ∧ w'.cell? ⟨wr.heap.size, 3, none⟩ = some (.string y.f2.f1) ∧ w'.cell? ⟨wr.heap.size, 4, none⟩ = some (.int .i64 y.f2.f2) ∧ w'.cell? ⟨wr.heap.size, 5, none⟩ = some (.string y.f3) ∧ w'.cell? ⟨wr.heap.size, 6, none⟩ = some (.slice A6 y.f4.length c6) ∧ w'.cell? ⟨wr.heap.size, 7, none⟩ = some (.slice A7 y.f5.length c7) := fun w' hb => by
        have h1 := (hal (.cells #[.int .i64 y.f0, .bool y.f1, .bool y.f2.f0, .string y.f2.f1, .int .i64 y.f2.f2, .string y.f3, .slice A6 y.f4.length c6, .slice A7 y.f5.length c7] 28)).trans (hb.mono (hal _).size)
        have h2 := thru hWk hb
        exact ⟨pw_cell_below h1 hk7, pw_cell_below h1 hbd, (blk_cell h2 0).trans rfl, (blk_cell h2 1).trans rfl, (blk_cell h2 2).trans rfl, (blk_cell h2 3).trans rfl, (blk_cell h2 4).trans rfl, (blk_cell h2 5).trans rfl, (blk_cell h2 6).trans rfl, (blk_cell h2 7).trans rfl⟩
       have hst := hall _ (below_drew1 (Below.refl _ _))
       have HSB0 := hi_ hall
       have HAL := hi_ hal
       have HKB := hi_ (And.intro hk7 (And.intro hbd (And.intro hWk hgW)))
       have hz1 : (ofL Q).size = Q.length := ofL_size _
       have hz2 : (ofL (Q ++ [58])).size = Q.length + 1 := by rw [ofL_size]; simp
       have hz3 : (ofL t).size = t.length := ofL_size _
       have hz4 : ¬ (9223372036854775807 < Q.length + 1) := by omega
       have hz5 : ¬ (9223372036854775807 < Q.length + 1 + t.length) := by omega
       have hS1 : ofL Q ++ (⟨#[58]⟩ : ByteArray) = ofL (Q ++ [58]) := ofL_app Q [58]
       have hS2 : ofL (Q ++ [58]) ++ ofL t = ofL (Q ++ [58] ++ t) := ofL_app _ _
       clear hyy hke hkf hQ hy hbd l6 g6 l7 g7 hal hWk hWs hgW hk7 hall hlk hkey htl
       go_upto_region 22 with fail
       refine start_ (n := 14) (S := fun w' => w'.cell? ⟨w.heap.size, 7, none⟩ = some (.slice (some bd) x.f5.length c') ∧ w'.cell? (bd.add k) = some (.string (ofL key)) ∧ w'.cell? ⟨wr.heap.size, 0, none⟩ = some (.int .i64 y.f0) ∧ w'.cell? ⟨wr.heap.size, 1, none⟩ = some (.bool y.f1) ∧ w'.cell? ⟨wr.heap.size, 2, none⟩ = some (.bool y.f2.f0) ∧ w'.cell? ⟨wr.heap.size, 3, none⟩ = some (.string y.f2.f1) ∧ w'.cell? ⟨wr.heap.size, 4, none⟩ = some (.int .i64 y.f2.f2) ∧ w'.cell? ⟨wr.heap.size, 5, none⟩ = some (.string y.f3) ∧ w'.cell? ⟨wr.heap.size, 6, none⟩ = some (.slice A6 y.f4.length c6) ∧ w'.cell? ⟨wr.heap.size, 7, none⟩ = some (.slice A7 y.f5.length c7)) (ds := []) #[false, false, false, false, false, false, false, false, false, false, false, false, false, false] (by kernel_rfl) rfl rfl hst (fun hHeld => ?_)
       have hWd := (HAL.out (.cells #[.int .i64 y.f0, .bool y.f1, .bool y.f2.f0, .string y.f2.f1, .int .i64 y.f2.f2, .string y.f3, .slice A6 y.f4.length c6, .slice A7 y.f5.length c7] 28)).trans ((below_drew1 (Below.refl (wr.alloc (.cells #[.int .i64 y.f0, .bool y.f1, .bool y.f2.f0, .string y.f2.f1, .int .i64 y.f2.f2, .string y.f3, .slice A6 y.f4.length c6, .slice A7 y.f5.length c7] 28)).heap.size (wr.alloc (.cells #[.int .i64 y.f0, .bool y.f1, .bool y.f2.f0, .string y.f2.f1, .int .i64 y.f2.f2, .string y.f3, .slice A6 y.f4.length c6, .slice A7 y.f5.length c7] 28)))).mono (HAL.out _).size)
       have hSd : ∀ w', Below (wr.alloc (.cells #[.int .i64 y.f0, .bool y.f1, .bool y.f2.f0, .string y.f2.f1, .int .i64 y.f2.f2, .string y.f3, .slice A6 y.f4.length c6, .slice A7 y.f5.length c7] 28)).drew.heap.size (wr.alloc (.cells #[.int .i64 y.f0, .bool y.f1, .bool y.f2.f0, .string y.f2.f1, .int .i64 y.f2.f2, .string y.f3, .slice A6 y.f4.length c6, .slice A7 y.f5.length c7] 28)).drew w' → w'.cell? ⟨w.heap.size, 7, none⟩ = some (.slice (some bd) x.f5.length c') ∧ w'.cell? (bd.add k) = some (.string (ofL key)) ∧ w'.cell? ⟨wr.heap.size, 0, none⟩ = some (.int .i64 y.f0) ∧ w'.cell? ⟨wr.heap.size, 1, none⟩ = some (.bool y.f1) ∧ w'.cell? ⟨wr.heap.size, 2, none⟩ = some (.bool y.f2.f0) ∧ w'.cell? ⟨wr.heap.size, 3, none⟩ = some (.string y.f2.f1) ∧ w'.cell? ⟨wr.heap.size, 4, none⟩ = some (.int .i64 y.f2.f2) ∧ w'.cell? ⟨wr.heap.size, 5, none⟩ = some (.string y.f3) ∧ w'.cell? ⟨wr.heap.size, 6, none⟩ = some (.slice A6 y.f4.length c6) ∧ w'.cell? ⟨wr.heap.size, 7, none⟩ = some (.slice A7 y.f5.length c7) := fun w' hb => HSB0.out w' ((below_drew1 (Below.refl _ _)).trans (hb.mono (Nat.le_refl _)))
       have hEd : (wr.alloc (.cells #[.int .i64 y.f0, .bool y.f1, .bool y.f2.f0, .string y.f2.f1, .int .i64 y.f2.f2, .string y.f3, .slice A6 y.f4.length c6, .slice A7 y.f5.length c7] 28)).drew.heap[wr.heap.size]? = some (.cells #[.int .i64 y.f0, .bool y.f1, .bool y.f2.f0, .string y.f2.f1, .int .i64 y.f2.f2, .string y.f3, .slice A6 y.f4.length c6, .slice A7 y.f5.length c7] 28 (0, 0)) := blk_drew HKB.out.2.2.1
       generalize (wr.alloc (.cells #[.int .i64 y.f0, .bool y.f1, .bool y.f2.f0, .string y.f2.f1, .int .i64 y.f2.f2, .string y.f3, .slice A6 y.f4.length c6, .slice A7 y.f5.length c7] 28)).drew = wd at hWd hSd hEd hHeld ⊢
       have HBX : Hid (∀ w', Below wd.heap.size wd w' → Below w.heap.size w w') := hi_ (fun w' hb => HBW.out.trans ((hWd.trans (hb.mono hWd.size)).mono HBW.out.size))
       have HSB := hi_ hSd
       have HJY := hi_ (HJY0.below hWd)
       have HI : Hid (TI w0 wd w0.heap.size v3 (l.take k)) := hi_ ⟨Kd.R_below HI.out.r hWd, HI.out.bel.trans (hWd.mono HI.out.bel.size)⟩
       have HBd := hi_ (Below.refl wd.heap.size wd)
       have HSG : Hid (∀ w2 wa : World, Below wd.heap.size wd w2 → Below w0.heap.size w0 wa → w2.grownBy wa v3.ownBlock → (fun w' : World => w'.cell? ⟨w.heap.size, 7, none⟩ = some (.slice (some bd) x.f5.length c') ∧ w'.cell? (bd.add k) = some (.string (ofL key)) ∧ w'.cell? ⟨wr.heap.size, 0, none⟩ = some (.int .i64 y.f0) ∧ w'.cell? ⟨wr.heap.size, 1, none⟩ = some (.bool y.f1) ∧ w'.cell? ⟨wr.heap.size, 2, none⟩ = some (.bool y.f2.f0) ∧ w'.cell? ⟨wr.heap.size, 3, none⟩ = some (.string y.f2.f1) ∧ w'.cell? ⟨wr.heap.size, 4, none⟩ = some (.int .i64 y.f2.f2) ∧ w'.cell? ⟨wr.heap.size, 5, none⟩ = some (.string y.f3) ∧ w'.cell? ⟨wr.heap.size, 6, none⟩ = some (.slice A6 y.f4.length c6) ∧ w'.cell? ⟨wr.heap.size, 7, none⟩ = some (.slice A7 y.f5.length c7)) wa) := hi_ (fun w2 wa hb hB9 hga => by
        have h2 := thru hEd hb
        have h3 : wa.heap[wr.heap.size]? = some (.cells #[.int .i64 y.f0, .bool y.f1, .bool y.f2.f0, .string y.f2.f1, .int .i64 y.f2.f2, .string y.f3, .slice A6 y.f4.length c6, .slice A7 y.f5.length c7] 28 (0, 0)) := (hga.block wr.heap.size (blk_lt h2) HNE.out).trans h2
        have h4 := thru HK0.out hB9
        exact ⟨(blk_cell h4 7).trans rfl, HKD.out wa (HB0.out.trans (hB9.mono HB0.out.size)), (blk_cell h3 0).trans rfl, (blk_cell h3 1).trans rfl, (blk_cell h3 2).trans rfl, (blk_cell h3 3).trans rfl, (blk_cell h3 4).trans rfl, (blk_cell h3 5).trans rfl, (blk_cell h3 6).trans rfl, (blk_cell h3 7).trans rfl⟩)
       clear hWd hSd hEd hst HSB0 HAL HKB HJY0
       refine pure_ (i := 0) (N := some 53) (v := ?_) (a' := ?_) #[true, false, false, false, false, false, false, false, false, false, false, false, false, false] rfl rfl (by kernel_rfl) (fun _ _ _ h => h) (Or.inl ⟨by rfl, ?_⟩) ?_ ?_
       rotate_left
       · intro w'
         go_simp
         with_reducible rfl
       rotate_left
       · simp only [Act.put, List.setIfInBounds_toArray, List.set_cons_zero, List.set_cons_succ, i64_w, i32_w]
         rfl
       refine pure_ (i := 1) (N := some 54) (v := ?_) (a' := ?_) #[true, true, false, false, false, false, false, false, false, false, false, false, false, false] rfl rfl (by kernel_rfl) (fun _ _ _ h => h) (Or.inl ⟨by rfl, ?_⟩) ?_ ?_
       rotate_left
       · intro w'
         go_simp
         with_reducible rfl
       rotate_left
       · simp only [Act.put, List.setIfInBounds_toArray, List.set_cons_zero, List.set_cons_succ, i64_w, i32_w]
         rfl
       refine take_ (i := 2) (N := some 55) (v := ?_) (a' := ?_) #[true, true, true, false, false, false, false, false, false, false, false, false, false, false] rfl rfl (by kernel_rfl) (fun _ _ _ h => h) (Or.inl ⟨by rfl, ?_⟩) hHeld ?_ ?_
       rotate_left
       · rintro w' ⟨s0, s1, s2, s3, s4, s5, s6, s7, s8, s9⟩
         go_simp
         with_reducible rfl
       rotate_left
       · simp only [Act.put, List.setIfInBounds_toArray, List.set_cons_zero, List.set_cons_succ, i64_w, i32_w]
         rfl
       refine pure_ (i := 3) (N := some 56) (v := ?_) (a' := ?_) #[true, true, true, true, false, false, false, false, false, false, false, false, false, false] rfl rfl (by kernel_rfl) (fun _ _ _ h => h) (Or.inl ⟨by rfl, ?_⟩) ?_ ?_
       rotate_left
       · intro w'
         go_simp
         with_reducible rfl
       rotate_left
       · simp only [Act.put, List.setIfInBounds_toArray, List.set_cons_zero, List.set_cons_succ, i64_w, i32_w]
         rfl
       refine pure_ (i := 4) (N := some 57) (v := ?_) (a' := ?_) #[true, true, true, true, true, false, false, false, false, false, false, false, false, false] rfl rfl (by kernel_rfl) (fun _ _ _ h => h) (Or.inl ⟨by rfl, ?_⟩) ?_ ?_
       rotate_left
       · intro w'
         go_simp
         with_reducible rfl
       rotate_left
       · simp only [Act.put, List.setIfInBounds_toArray, List.set_cons_zero, List.set_cons_succ, i64_w, i32_w]
         rfl
       refine take_ (i := 5) (N := some 58) (v := ?_) (a' := ?_) #[true, true, true, true, true, true, false, false, false, false, false, false, false, false] rfl rfl (by kernel_rfl) (fun _ _ _ h => h) (Or.inl ⟨by rfl, ?_⟩) hHeld ?_ ?_
       rotate_left
       · rintro w' ⟨s0, s1, s2, s3, s4, s5, s6, s7, s8, s9⟩
         go_simp
         with_reducible rfl
       rotate_left
       · simp only [Act.put, List.setIfInBounds_toArray, List.set_cons_zero, List.set_cons_succ, i64_w, i32_w]
         rfl
       refine take_ (i := 8) (N := some 61) (v := ?_) (a' := ?_) #[true, true, true, true, true, true, false, false, true, false, false, false, false, false] rfl rfl (by kernel_rfl) (fun _ _ _ h => h) (Or.inl ⟨by rfl, ?_⟩) hHeld ?_ ?_
       rotate_left
       · rintro w' ⟨s0, s1, s2, s3, s4, s5, s6, s7, s8, s9⟩
         go_simp
         with_reducible rfl
       rotate_left
       · simp only [Act.put, List.setIfInBounds_toArray, List.set_cons_zero, List.set_cons_succ, i64_w, i32_w]
         rfl
       refine one_ (i := 6) (N := some 59) #[true, true, true, true, true, true, true, false, true, false, false, false, false, false] rfl rfl (by kernel_rfl) (by decide) (fun K hK => ?_)
       refine call_ 57 #[.string (ofL key)] (by rfl) rfl ?_ ?_
       · go_simp
       refine (HQ.out wd).mono ?_
       rintro E w1 ⟨rfl, hB⟩
       have HB1 := hi_ (HBd.out.trans (hB.mono HBd.out.size))
       refine ⟨_, rfl, hK.out _ _ (HSB.out _ HB1.out) (fun hHeld => ?_)⟩
       clear hK K hB
       refine norm_ (a' := ?_) ?_ ?_
       rotate_left
       · show Act.put _ (some 59) _ = _
         simp only [Act.put, List.setIfInBounds_toArray, List.set_cons_zero, List.set_cons_succ, i64_w, i32_w]
         rfl
       refine pure_ (i := 7) (N := some 60) (v := ?_) (a' := ?_) #[true, true, true, true, true, true, true, true, true, false, false, false, false, false] rfl rfl (by kernel_rfl) (fun _ _ _ h => h) (Or.inl ⟨by rfl, ?_⟩) ?_ ?_
       rotate_left
       · intro w'
         go_simp
         with_reducible rfl
       rotate_left
       · simp only [Act.put, List.setIfInBounds_toArray, List.set_cons_zero, List.set_cons_succ, i64_w, i32_w]
         rfl
       refine one_ (i := 9) (N := some 62) #[true, true, true, true, true, true, true, true, true, true, false, false, false, false] rfl rfl (by kernel_rfl) (by decide) (fun K hK => ?_)
       refine call_ 30 #[.agg #[.int .i64 y.f0, .bool y.f1, .bool y.f2.f0, .string y.f2.f1, .int .i64 y.f2.f2, .string y.f3, .slice A6 y.f4.length c6, .slice A7 y.f5.length c7]] (by rfl) rfl ?_ ?_
       · go_simp
       refine (IH.out y t HY.out A6 A7 c6 c7 w1 (HT.out.below (HBX.out _ HB1.out)) (HJY.out.below HB1.out)).mono ?_
       rintro E w2 ⟨rfl, hB⟩
       have HB2 := hi_ (HB1.out.trans (hB.mono HB1.out.size))
       refine ⟨_, rfl, hK.out _ _ (HSB.out _ HB2.out) (fun hHeld => ?_)⟩
       clear hK K hB
       refine norm_ (a' := ?_) ?_ ?_
       rotate_left
       · show Act.put _ (some 62) _ = _
         simp only [Act.put, List.setIfInBounds_toArray, List.set_cons_zero, List.set_cons_succ, i64_w, i32_w]
         rfl
       refine pure_ (i := 10) (N := some 63) (v := ?_) (a' := ?_) #[true, true, true, true, true, true, true, true, true, true, true, false, false, false] rfl rfl (by kernel_rfl) (fun _ _ _ h => h) (Or.inl ⟨by rfl, ?_⟩) ?_ ?_
       rotate_left
       · intro w'
         go_simp
         with_reducible rfl
       rotate_left
       · simp only [Act.put, List.setIfInBounds_toArray, List.set_cons_zero, List.set_cons_succ, i64_w, i32_w]
         rfl
       refine one_ (i := 11) (N := some 64) #[true, true, true, true, true, true, true, true, true, true, true, true, false, false] rfl rfl (by kernel_rfl) (by decide) (fun K hK => ?_)
       refine value_ (v := .slice (some ⟨w2.heap.size, 0, none⟩) 1 1) (w1 := w2.alloc (.cells #[.string (ofL (Q ++ [58] ++ t))] 9)) (by rfl) rfl ?_ ?_
       · go_simp
       refine hK.out _ _ (HSB.out _ (below_alloc HB2.out _)) (fun hHeld => ?_)
       clear hK K
       refine norm_ (a' := ?_) ?_ ?_
       rotate_left
       · show Act.put _ (some 64) _ = _
         simp only [Act.put, List.setIfInBounds_toArray, List.set_cons_zero, List.set_cons_succ, i64_w, i32_w]
         rfl
       refine one_ (i := 12) (N := some 65) #[true, true, true, true, true, true, true, true, true, true, true, true, true, false] rfl rfl (by kernel_rfl) (by decide) (fun K hK => ?_)
       refine Kd.R_append_step Kd.string (w0 := w0) w0.heap.size (by rfl) (.tmp 53) (.tmp 64) 26 9 (.string ⟨#[]⟩) 16 rfl Tryz.underlying26 info9 rfl (by decide) (by decide) v3 _ (ofL (Q ++ [58] ++ t)) [.string (ofL (Q ++ [58] ++ t))] (fun _ => True) (fun _ => False) rfl rfl rfl (fun _ hk => hk.elim) (fun _ _ => trivial) (Kd.R_below HI.out.r HB2.out) (HI.out.bel.trans (HB2.out.mono HI.out.bel.size)) (Nat.le_trans HI.out.bel.size HB2.out.size) HLN.out ?_
       intro v9 wa hR9 hB9 hga hat
       refine hK.out _ _ (HSG.out _ _ HB2.out hB9 hga) (fun hHeld => ?_)
       clear hK K
       refine norm_ (a' := ?_) ?_ ?_
       rotate_left
       · show Act.put _ (some 65) _ = _
         simp only [Act.put, List.setIfInBounds_toArray, List.set_cons_zero, List.set_cons_succ, i64_w, i32_w]
         rfl
       refine pure_ (i := 13) (N := some 3) (v := ?_) (a' := ?_) #[true, true, true, true, true, true, true, true, true, true, true, true, true, true] rfl rfl (by kernel_rfl) (fun _ _ _ h => h) (Or.inl ⟨by rfl, ?_⟩) ?_ ?_
       rotate_left
       · intro w'
         go_simp
         with_reducible rfl
       rotate_left
       · simp only [Act.put, List.setIfInBounds_toArray, List.set_cons_zero, List.set_cons_succ, i64_w, i32_w]
         rfl
       refine done_ (by kernel_rfl) ?_
       clear hz1 hz2 hz3 hz4 hz5 hS1 hS2
       go_wp2_with fail
       exact ⟨⟨k + 1, _, by omega, rfl, by simp, hi_ ⟨by rw [HTK.out]; exact hR9, hB9⟩⟩, by simp [intOf]; omega⟩
     have : k = x.f4.length := by omega
     subst this
     have HR : Hid (Kd.R Kd.string 9 wr w0.heap.size (fun _ => True) v3 (l.map ofL)) := hi_ (by have := HI.out.r; rwa [← HLEN.out, List.take_length] at this)
     go_wp2_with fail
     refine (join_calls l _ v3 wr HR.out HL.out.1 HL.out.2).mono ?_
     rintro E w2 ⟨rfl, hB⟩
     have HB2 := hi_ (HBW.out.trans (hB.mono HBW.out.size))
     have HJL := hi_ HL.out.2
     obtain ⟨J, hJ⟩ : ∃ J, J = Lib.join l [44] := ⟨_, rfl⟩
     rw [← hJ] at HJL ⊢
     have hz1 : (ofL J).size = J.length := ofL_size J
     have hz2 : (ofL (123 :: J)).size = J.length + 1 := ofL_size _
     have hz3 : J.length ≤ 1000000000 := HJL.out
     have hS1 : (⟨#[123]⟩ : ByteArray) ++ ofL J = ofL (123 :: J) := ofL_app [123] J
     have hS2 : ofL (123 :: J) ++ (⟨#[125]⟩ : ByteArray) = ofL (123 :: J ++ [125]) := ofL_app (123 :: J) [125]
     have HJJ := hi_ hJ
     clear hJ hB
     go_wp2_with fail
     go_ret
     rw [← HJJ.out]
     exact ⟨rfl, HB2.out⟩
  rw [if_neg h5] at h
  have h5' : (x.f0 == 5) = false := by simpa using h5
  obtain rfl : [110, 117, 108, 108] = r := by simpa using h
  clear h h1 h2 h3 h4 h5
  go_enter Tryz.func30, Tryz.ntmps30
  go_wp2_with fail
  go_ret
  exact ⟨rfl, HA.out _⟩
theorem jparseR (s : List UInt8) (w : World) (hT : Tabs w) (x : S28) (e : Int) (h : pv s = (x, e)) :
    Calls Tryz.prog 16 #[.string (ofL s)] w fun E w' => ∃ A c B c', E = .returned (.tuple #[.agg #[.int .i64 x.f0, .bool x.f1, .bool x.f2.f0, .string x.f2.f1, .int .i64 x.f2.f2, .string x.f3, .slice A x.f4.length c, .slice B x.f5.length c'], .int .i64 e]) ∧
     JC w' x A x.f4.length c B x.f5.length c' ∧ Kd.string.R 9 w' w.heap.size (fun _ => True) (.slice B x.f5.length c') x.f5 ∧ Below w.heap.size w w' := by
 have hx : x = (parseV (fvN 17) s).1 := by rw [show parseV (fvN 17) s = (x, e) from h]
 have he : e = (parseV (fvN 17) s).2 := by rw [show parseV (fvN 17) s = (x, e) from h]
 subst hx he
 refine (json_calls s w hT).mono fun E w' ⟨v, h1, ⟨cs, h2, h3⟩, h4⟩ => ?_
 obtain ⟨v6, v7, rfl, g6, g7⟩ := k28_openM h3
 obtain ⟨A, c, rfl, hl6, h6⟩ := Kd.R_reads g6
 obtain ⟨B, c', rfl, hl7, h7⟩ := Kd.R_reads g7
 exact ⟨A, c, B, c', by rw [h1, h2], ⟨rfl, hl6, h6, rfl, hl7, h7⟩, Kd.R_mono g7 (fun _ _ => trivial), h4⟩
theorem find_calls (x : S28) (key : ByteArray) (h5 : x.f0 = 5) (v6 v7 : Value) (base : Nat) (w : World) (hR : Kd.string.R 9 w base (fun _ => True) v7 x.f5) (hl : x.f5.length ≤ 1000000) :
    Calls Tryz.prog 33 #[.agg #[.int .i64 x.f0, .bool x.f1, .bool x.f2.f0, .string x.f2.f1, .int .i64 x.f2.f2, .string x.f3, v6, v7], .string key] w fun e w' => e = .returned (.tuple #[.int .i64 (pos x.f5 key : Nat), .bool (has x.f5 key)]) ∧ Below w.heap.size w w' := by
 have h5b : (x.f0 != 5) = false := by simp [h5]
 have hal := fun o => below_alloc (Below.refl w.heap.size w) o
 have HA := hi_ hal
 have HS := hi_ (fun o => search_calls key (Kd.R_below hR (hal o)) hl)
 obtain ⟨A, c, rfl⟩ := Kd.R_slice hR
 clear hR hal h5 hl
 go_enter Tryz.func33, Tryz.ntmps33
 go_wp2_with fail
 refine (HS.out _).mono ?_
 rintro E w1 ⟨rfl, q, rfl⟩
 go_wp2_with fail
 go_ret2
 exact ⟨rfl, pw_below_drewN (HA.out _) _⟩
end Js
end Go.Proofs.YtapcpndplnkfjaaGreatDoor
namespace Go.Proofs.YtapcpndplnkfjaaGreatDoor.Pr
open Go.RowKit Go.Proofs.YtapcpndplnkfjaaGreatDoorW.PrintWords Go.Proofs.YtapcpndplnkfjaaGreatDoorW.PrintLast Go.Proofs.YtapcpndplnkfjaaGreatDoorW.PrintMore
attribute [local go_sem] max2_int min2_int max_two min_two max_three min_three max_four min_four
mutual
def R4small.l0 : Nat → Int → ByteArray → Option (ByteArray)
 | 0, _, _ => none
 | k + 1, x0, x3 => if 0 ≤ (Int.tmod x0 10) then (if (Int.tmod x0 10) ≤ (wrap64 ((Int.tmod x0 10) + 1)) then (if (wrap64 ((Int.tmod x0 10) + 1)) ≤ 10 then (if ((⟨#[48, 49, 50, 51, 52, 53, 54, 55, 56, 57]⟩ : ByteArray).extract ((Int.tmod x0 10) : Int).toNat ((wrap64 ((Int.tmod x0 10) + 1)) : Int).toNat).size + x3.size ≤ 9223372036854775807 then (if (wrap64 (Int.tdiv x0 10)) = 0 then (some (((⟨#[48, 49, 50, 51, 52, 53, 54, 55, 56, 57]⟩ : ByteArray).extract ((Int.tmod x0 10) : Int).toNat ((wrap64 ((Int.tmod x0 10) + 1)) : Int).toNat) ++ x3)) else (R4small.l0 k (wrap64 (Int.tdiv x0 10)) (((⟨#[48, 49, 50, 51, 52, 53, 54, 55, 56, 57]⟩ : ByteArray).extract ((Int.tmod x0 10) : Int).toNat ((wrap64 ((Int.tmod x0 10) + 1)) : Int).toNat) ++ x3))) else (none)) else (none)) else (none)) else (none)
def R4small.f : Nat → Int → Option (ByteArray)
 | 0, _ => none
 | k + 1, a0 => if a0 < 0 then ((R4small.f k (wrap64 (-a0))).bind fun t129 => (if 1 + t129.size ≤ 9223372036854775807 then (some ((⟨#[45]⟩ : ByteArray) ++ t129)) else (none))) else (R4small.l0 k a0 (⟨#[]⟩ : ByteArray))
end
set_option maxHeartbeats 8000000 in
set_option maxRecDepth 100000 in
theorem R4small.calls (k : Nat) : ∀ (a0 : Int) (r : ByteArray) (w : World) (h : R4small.f k a0 = some r),
    Calls Tryz.prog 88 #[.int .i64 a0] w fun e w' => e = .returned (.string r) ∧ Drawn0 w w' := by
 induction k using Nat.strongRecOn with
 | _ k ih =>
 intro a0 r w h
 cases k with
 | zero => exact absurd h (by simp [R4small.f])
 | succ k =>
 simp only [R4small.f] at h
 have H : (if a0 < 0 then ((R4small.f k (wrap64 (-a0))).bind fun t129 => (if 1 + t129.size ≤ 9223372036854775807 then (some ((⟨#[45]⟩ : ByteArray) ++ t129)) else (none))) else (R4small.l0 k a0 (⟨#[]⟩ : ByteArray))) = some r := h
 clear h
 by_cases c2 : a0 < 0
 · rw [if_pos c2] at H
   have c2b0 : decide (a0 < 0) = true := decide_eq_true c2
   clear c2
   replace H := Option.bind_eq_some_iff.mp H
   obtain ⟨t129, A30, H⟩ := H
   have A3 := Aside0.mk A30
   clear A30
   by_cases c4 : 1 + t129.size ≤ 9223372036854775807
   · rw [if_pos c4] at H
     have c4b1 : decide (1 + t129.size ≤ 9223372036854775807) = true := decide_eq_true c4
     obtain rfl := Option.some.inj H
     go_enter Tryz.func88, Tryz.ntmps88
     go_wp2_with (((with_reducible refine gate_callee (f := 88) rfl ?_); refine goesL_ (some 8) rfl rfl Tryz.func88 (by kernel_rfl) rfl #[.int .i64 (wrap64 (-a0))] rfl (by (try simp only [List.map_toArray, List.map_cons, List.map_nil]); (rfl)) ?_; (with_reducible refine (ih k (by omega) (wrap64 (-a0)) t129 _ A3.out).mono ?_); rintro e w' ⟨rfl, ⟨nd, rfl⟩⟩; refine ⟨_, rfl, ?_⟩))
     go_ret
     exact ⟨by (rfl), by repeat (first | exact Drawn0.refl _ | apply Drawn0.step)⟩
   rw [if_neg c4] at H
   exact absurd H (by simp)
 · rw [if_neg c2] at H
   have c2b0 : decide (a0 < 0) = false := decide_eq_false c2
   clear c2
   have H' := Aside0.mk H
   clear H
   go_enter Tryz.func88, Tryz.ntmps88
   go_wp2
   go_loopg [0, 3] k (fun kq v0 v3 w' => ∃ (x0_1 : Int) (x3_1 : ByteArray), v0 = .int .i64 x0_1 ∧ v3 = .string x3_1 ∧ Aside0 (R4small.l0 kq x0_1 x3_1 = some r) ∧ Aside0 (kq ≤ k) ∧ Drawn0 w w')
   case atStart => exact ⟨(a0), ((⟨#[]⟩ : ByteArray)), (by (rfl)), (by (rfl)), H', ⟨Nat.le_refl _⟩, by repeat (exact Drawn0.refl _)⟩
   case round =>
    clear H'
    try clear c2b0
    obtain ⟨x0_1, x3_1, rfl, rfl, HA, HK1, ⟨m1, rfl⟩⟩ := hrel
    cases gk with
    | zero => exact absurd HA.out (by simp [R4small.l0])
    | succ k1 =>
     have H := HA.out
     clear HA
     simp only [R4small.l0] at H
     obtain ⟨ji5, hji5⟩ : ∃ j_ : Int, (Int.tmod x0_1 10) = j_ := ⟨_, rfl⟩
     replace H : (if 0 ≤ (ji5) then (if (ji5) ≤ (wrap64 ((ji5) + 1)) then (if (wrap64 ((ji5) + 1)) ≤ 10 then (if ((⟨#[48, 49, 50, 51, 52, 53, 54, 55, 56, 57]⟩ : ByteArray).extract ((ji5) : Int).toNat ((wrap64 ((ji5) + 1)) : Int).toNat).size + x3_1.size ≤ 9223372036854775807 then (if (wrap64 (Int.tdiv x0_1 10)) = 0 then (some (((⟨#[48, 49, 50, 51, 52, 53, 54, 55, 56, 57]⟩ : ByteArray).extract ((ji5) : Int).toNat ((wrap64 ((ji5) + 1)) : Int).toNat) ++ x3_1)) else (R4small.l0 k1 (wrap64 (Int.tdiv x0_1 10)) (((⟨#[48, 49, 50, 51, 52, 53, 54, 55, 56, 57]⟩ : ByteArray).extract ((ji5) : Int).toNat ((wrap64 ((ji5) + 1)) : Int).toNat) ++ x3_1))) else (none)) else (none)) else (none)) else (none)) = some r := by (rw [hji5] at H; exact H)
     by_cases c6 : 0 ≤ (ji5)
     · rw [if_pos c6] at H
       have c6b0 := eq_true c6
       have c6b1 : decide (0 ≤ (ji5)) = true := decide_eq_true c6
       clear c6
       by_cases c7 : (ji5) ≤ (wrap64 ((ji5) + 1))
       · rw [if_pos c7] at H
         have c7b0 := eq_true c7
         have c7b1 : decide ((ji5) ≤ (wrap64 ((ji5) + 1))) = true := decide_eq_true c7
         by_cases c8 : (wrap64 ((ji5) + 1)) ≤ 10
         · rw [if_pos c8] at H
           have c8b0 := eq_true c8
           have c8b1 : decide ((wrap64 ((ji5) + 1)) ≤ 10) = true := decide_eq_true c8
           by_cases c9 : ((⟨#[48, 49, 50, 51, 52, 53, 54, 55, 56, 57]⟩ : ByteArray).extract ((ji5) : Int).toNat ((wrap64 ((ji5) + 1)) : Int).toNat).size + x3_1.size ≤ 9223372036854775807
           · rw [if_pos c9] at H
             have c9b0 := eq_true c9
             have c9b1 : decide (((⟨#[48, 49, 50, 51, 52, 53, 54, 55, 56, 57]⟩ : ByteArray).extract ((ji5) : Int).toNat ((wrap64 ((ji5) + 1)) : Int).toNat).size + x3_1.size ≤ 9223372036854775807) = true := decide_eq_true c9
             by_cases c10 : (wrap64 (Int.tdiv x0_1 10)) = 0
             · rw [if_pos c10] at H
               have c10b0 : ((wrap64 (Int.tdiv x0_1 10)) == 0) = true := beq_iff_eq.mpr c10
               have c10b1 : ((wrap64 (Int.tdiv x0_1 10)) != 0) = false := bne_eq_false_iff_eq.mpr c10
               clear c10
               obtain rfl := Option.some.inj H
               go_wp2
               go_ret
               exact ⟨by (rfl), by repeat (first | exact Drawn0.refl _ | apply Drawn0.step)⟩
             rw [if_neg c10] at H
             have H' := Aside0.mk H
             clear H
             go_wp2
             go_roundg k1
             case measure => have := HK1.out; omega
             case rel => exact ⟨(wrap64 (Int.tdiv x0_1 10)), (((⟨#[48, 49, 50, 51, 52, 53, 54, 55, 56, 57]⟩ : ByteArray).extract ((ji5) : Int).toNat ((wrap64 ((ji5) + 1)) : Int).toNat) ++ x3_1), (by (rfl)), (by (rfl)), (by (exact H')), ⟨by have := HK1.out; omega⟩, by repeat (first | exact Drawn0.refl _ | apply Drawn0.step)⟩
           rw [if_neg c9] at H
           exact absurd H (by simp)
         rw [if_neg c8] at H
         exact absurd H (by simp)
       rw [if_neg c7] at H
       exact absurd H (by simp)
     rw [if_neg c6] at H
     exact absurd H (by simp)
def R4Text.f (k : Nat) (a0_0 : Bool) (a0_1 : ByteArray) (a0_2 : Int) : Option (ByteArray) := if a0_1.toList = ([] : List UInt8) then (some (⟨#[48]⟩ : ByteArray)) else (if a0_0 = true then (if 1 + a0_1.size ≤ 9223372036854775807 then (if a0_2 = 0 then (some ((⟨#[45]⟩ : ByteArray) ++ a0_1)) else ((R4small.f k a0_2).bind fun t131 => (if 1 + t131.size ≤ 9223372036854775807 then (if ((⟨#[45]⟩ : ByteArray) ++ a0_1).size + ((⟨#[101]⟩ : ByteArray) ++ t131).size ≤ 9223372036854775807 then (some (((⟨#[45]⟩ : ByteArray) ++ a0_1) ++ ((⟨#[101]⟩ : ByteArray) ++ t131))) else (none)) else (none)))) else (none)) else (if a0_2 = 0 then (some a0_1) else ((R4small.f k a0_2).bind fun t132 => (if 1 + t132.size ≤ 9223372036854775807 then (if a0_1.size + ((⟨#[101]⟩ : ByteArray) ++ t132).size ≤ 9223372036854775807 then (some (a0_1 ++ ((⟨#[101]⟩ : ByteArray) ++ t132))) else (none)) else (none)))))
set_option maxHeartbeats 8000000 in
set_option maxRecDepth 100000 in
theorem R4Text.calls (k : Nat) (a0_0 : Bool) (a0_1 : ByteArray) (a0_2 : Int) (r : ByteArray) (w : World) (h : R4Text.f k a0_0 a0_1 a0_2 = some r) :
    Calls Tryz.prog 59 #[.agg #[.bool a0_0, .string a0_1, .int .i64 a0_2]] w fun e w' => e = .returned (.string r) ∧ Below w.heap.size w w' := by
 have hu32 := Tryz.underlying32
 have HB := Aside0.mk (Below.refl w.heap.size w)
 have H : (if a0_1.toList = ([] : List UInt8) then (some (⟨#[48]⟩ : ByteArray)) else (if a0_0 = true then (if 1 + a0_1.size ≤ 9223372036854775807 then (if a0_2 = 0 then (some ((⟨#[45]⟩ : ByteArray) ++ a0_1)) else ((R4small.f k a0_2).bind fun t131 => (if 1 + t131.size ≤ 9223372036854775807 then (if ((⟨#[45]⟩ : ByteArray) ++ a0_1).size + ((⟨#[101]⟩ : ByteArray) ++ t131).size ≤ 9223372036854775807 then (some (((⟨#[45]⟩ : ByteArray) ++ a0_1) ++ ((⟨#[101]⟩ : ByteArray) ++ t131))) else (none)) else (none)))) else (none)) else (if a0_2 = 0 then (some a0_1) else ((R4small.f k a0_2).bind fun t132 => (if 1 + t132.size ≤ 9223372036854775807 then (if a0_1.size + ((⟨#[101]⟩ : ByteArray) ++ t132).size ≤ 9223372036854775807 then (some (a0_1 ++ ((⟨#[101]⟩ : ByteArray) ++ t132))) else (none)) else (none)))))) = some r := h
 clear h
 by_cases c2 : a0_1.toList = ([] : List UInt8)
 · rw [if_pos c2] at H
   have c2b0 : (a0_1.toList == ([] : List UInt8)) = true := beq_iff_eq.mpr c2
   clear c2
   obtain rfl := Option.some.inj H
   go_enter Tryz.func59, Tryz.ntmps59
   go_wp2_with (((with_reducible refine gate_dst (N := 1) rfl ?_); refine box_event ?hg (N := 1) ?hd (cs := #[.bool a0_0, .string a0_1, .int .i64 a0_2]) (t := 32) ?hr ?_; (case hd => rfl); (case hg => rfl); (case hr => (go_simp; done)); intro gb130 hg w3 hbox hb; have n0_ := Aside0.mk (below_step (by repeat ((with_reducible (exact HB.out)))) hb); have n1_ := Aside0.mk (hbox); have n2_ := Aside0.mk ((by rw [hg]; exact (below_size (by repeat ((with_reducible (exact HB.out))))) : w.heap.size ≤ gb130)); have n3_ := Aside0.mk ((by rw [hg]; exact (below_size (by repeat ((with_reducible (exact HB.out))))) : w.heap.size ≤ gb130)); clear HB; have HB := n0_; have BK130 := n1_; have GW130 := n2_; have GE130 := n3_; clear n0_ n1_ n2_ n3_; clear hb hbox hg; have hcz4_0 : w3.cell? ⟨gb130, 0, none⟩ = some (.bool a0_0) := (blk_cell BK130.out 0).trans rfl; have hcz4_1 : w3.cell? ⟨gb130, 1, none⟩ = some (.string a0_1) := (blk_cell BK130.out 1).trans rfl; have hcz4_2 : w3.cell? ⟨gb130, 2, none⟩ = some (.int .i64 a0_2) := (blk_cell BK130.out 2).trans rfl; have hfz4_0 := blk_frozen BK130.out 0; have hfz4_1 := blk_frozen BK130.out 1; have hfz4_2 := blk_frozen BK130.out 2))
   go_ret
   exact ⟨by (rfl), by repeat ((with_reducible (exact HB.out)))⟩
 · rw [if_neg c2] at H
   have c2b0 : (a0_1.toList == ([] : List UInt8)) = false := beq_eq_false_iff_ne.mpr c2
   have c2b1 : (a0_1.toList != ([] : List UInt8)) = true := bne_iff_ne.mpr c2
   by_cases c5 : a0_0 = true
   · subst c5
     have H1 : (if 1 + a0_1.size ≤ 9223372036854775807 then (if a0_2 = 0 then (some ((⟨#[45]⟩ : ByteArray) ++ a0_1)) else ((R4small.f k a0_2).bind fun t131 => (if 1 + t131.size ≤ 9223372036854775807 then (if ((⟨#[45]⟩ : ByteArray) ++ a0_1).size + ((⟨#[101]⟩ : ByteArray) ++ t131).size ≤ 9223372036854775807 then (some (((⟨#[45]⟩ : ByteArray) ++ a0_1) ++ ((⟨#[101]⟩ : ByteArray) ++ t131))) else (none)) else (none)))) else (none)) = some r := by rw [if_pos rfl] at H; exact H
     clear H
     have H := H1
     clear H1
     by_cases c6 : 1 + a0_1.size ≤ 9223372036854775807
     · rw [if_pos c6] at H
       have c6b1 : decide (1 + a0_1.size ≤ 9223372036854775807) = true := decide_eq_true c6
       by_cases c7 : a0_2 = 0
       · rw [if_pos c7] at H
         have c7b0 : (a0_2 == 0) = true := beq_iff_eq.mpr c7
         have c7b1 : (a0_2 != 0) = false := bne_eq_false_iff_eq.mpr c7
         clear c7
         obtain rfl := Option.some.inj H
         go_enter Tryz.func59, Tryz.ntmps59
         go_wp2_with (((with_reducible refine gate_dst (N := 1) rfl ?_); refine box_event ?hg (N := 1) ?hd (cs := #[.bool true, .string a0_1, .int .i64 a0_2]) (t := 32) ?hr ?_; (case hd => rfl); (case hg => rfl); (case hr => (go_simp; done)); intro gb130 hg w8 hbox hb; have n0_ := Aside0.mk (below_step (by repeat ((with_reducible (exact HB.out)))) hb); have n1_ := Aside0.mk (hbox); have n2_ := Aside0.mk ((by rw [hg]; exact (below_size (by repeat ((with_reducible (exact HB.out))))) : w.heap.size ≤ gb130)); have n3_ := Aside0.mk ((by rw [hg]; exact (below_size (by repeat ((with_reducible (exact HB.out))))) : w.heap.size ≤ gb130)); clear HB; have HB := n0_; have BK130 := n1_; have GW130 := n2_; have GE130 := n3_; clear n0_ n1_ n2_ n3_; clear hb hbox hg; have hcz9_0 : w8.cell? ⟨gb130, 0, none⟩ = some (.bool true) := (blk_cell BK130.out 0).trans rfl; have hcz9_1 : w8.cell? ⟨gb130, 1, none⟩ = some (.string a0_1) := (blk_cell BK130.out 1).trans rfl; have hcz9_2 : w8.cell? ⟨gb130, 2, none⟩ = some (.int .i64 a0_2) := (blk_cell BK130.out 2).trans rfl; have hfz9_0 := blk_frozen BK130.out 0; have hfz9_1 := blk_frozen BK130.out 1; have hfz9_2 := blk_frozen BK130.out 2))
         go_ret
         exact ⟨by (rfl), by repeat ((with_reducible (exact HB.out)))⟩
       rw [if_neg c7] at H
       replace H := Option.bind_eq_some_iff.mp H
       obtain ⟨t131, A100, H⟩ := H
       have A10 := Aside0.mk A100
       clear A100
       by_cases c11 : 1 + t131.size ≤ 9223372036854775807
       · rw [if_pos c11] at H
         have c11b1 : decide (1 + t131.size ≤ 9223372036854775807) = true := decide_eq_true c11
         by_cases c12 : ((⟨#[45]⟩ : ByteArray) ++ a0_1).size + ((⟨#[101]⟩ : ByteArray) ++ t131).size ≤ 9223372036854775807
         · rw [if_pos c12] at H
           have c12b1 : decide (((⟨#[45]⟩ : ByteArray) ++ a0_1).size + ((⟨#[101]⟩ : ByteArray) ++ t131).size ≤ 9223372036854775807) = true := decide_eq_true c12
           obtain rfl := Option.some.inj H
           go_enter Tryz.func59, Tryz.ntmps59
           go_wp2_with (first | ((with_reducible refine gate_dst (N := 1) rfl ?_); refine box_event ?hg (N := 1) ?hd (cs := #[.bool true, .string a0_1, .int .i64 a0_2]) (t := 32) ?hr ?_; (case hd => rfl); (case hg => rfl); (case hr => (go_simp; done)); intro gb130 hg w13 hbox hb; have n0_ := Aside0.mk (below_step (by repeat ((with_reducible (exact HB.out)))) hb); have n1_ := Aside0.mk (hbox); have n2_ := Aside0.mk ((by rw [hg]; exact (below_size (by repeat ((with_reducible (exact HB.out))))) : w.heap.size ≤ gb130)); have n3_ := Aside0.mk ((by rw [hg]; exact (below_size (by repeat ((with_reducible (exact HB.out))))) : w.heap.size ≤ gb130)); clear HB; have HB := n0_; have BK130 := n1_; have GW130 := n2_; have GE130 := n3_; clear n0_ n1_ n2_ n3_; clear hb hbox hg; have hcz14_0 : w13.cell? ⟨gb130, 0, none⟩ = some (.bool true) := (blk_cell BK130.out 0).trans rfl; have hcz14_1 : w13.cell? ⟨gb130, 1, none⟩ = some (.string a0_1) := (blk_cell BK130.out 1).trans rfl; have hcz14_2 : w13.cell? ⟨gb130, 2, none⟩ = some (.int .i64 a0_2) := (blk_cell BK130.out 2).trans rfl; have hfz14_0 := blk_frozen BK130.out 0; have hfz14_1 := blk_frozen BK130.out 1; have hfz14_2 := blk_frozen BK130.out 2) | ((with_reducible refine gate_callee (f := 88) rfl ?_); refine goesL_ (some 18) rfl rfl Tryz.func88 (by kernel_rfl) rfl #[.int .i64 a0_2] rfl (by (try simp only [List.map_toArray, List.map_cons, List.map_nil]); (rfl)) ?_; (with_reducible refine (R4small.calls k a0_2 t131 _ A10.out).mono ?_); rintro e w' ⟨rfl, ⟨nd, rfl⟩⟩; refine ⟨_, rfl, ?_⟩))
           go_ret
           exact ⟨by (rfl), by repeat ((with_reducible first | exact HB.out | apply pw_below_drewN ))⟩
         rw [if_neg c12] at H
         exact absurd H (by simp)
       rw [if_neg c11] at H
       exact absurd H (by simp)
     rw [if_neg c6] at H
     exact absurd H (by simp)
   replace c5 := Bool.eq_false_iff.mpr c5
   subst c5
   have H1 : (if a0_2 = 0 then (some a0_1) else ((R4small.f k a0_2).bind fun t132 => (if 1 + t132.size ≤ 9223372036854775807 then (if a0_1.size + ((⟨#[101]⟩ : ByteArray) ++ t132).size ≤ 9223372036854775807 then (some (a0_1 ++ ((⟨#[101]⟩ : ByteArray) ++ t132))) else (none)) else (none)))) = some r := by rw [if_neg (show ¬ (false = true) by decide)] at H; exact H
   clear H
   have H := H1
   clear H1
   by_cases c15 : a0_2 = 0
   · rw [if_pos c15] at H
     have c15b0 : (a0_2 == 0) = true := beq_iff_eq.mpr c15
     have c15b1 : (a0_2 != 0) = false := bne_eq_false_iff_eq.mpr c15
     clear c15
     obtain rfl := Option.some.inj H
     go_enter Tryz.func59, Tryz.ntmps59
     go_wp2_with (((with_reducible refine gate_dst (N := 1) rfl ?_); refine box_event ?hg (N := 1) ?hd (cs := #[.bool false, .string a0_1, .int .i64 a0_2]) (t := 32) ?hr ?_; (case hd => rfl); (case hg => rfl); (case hr => (go_simp; done)); intro gb130 hg w16 hbox hb; have n0_ := Aside0.mk (below_step (by repeat ((with_reducible (exact HB.out)))) hb); have n1_ := Aside0.mk (hbox); have n2_ := Aside0.mk ((by rw [hg]; exact (below_size (by repeat ((with_reducible (exact HB.out))))) : w.heap.size ≤ gb130)); have n3_ := Aside0.mk ((by rw [hg]; exact (below_size (by repeat ((with_reducible (exact HB.out))))) : w.heap.size ≤ gb130)); clear HB; have HB := n0_; have BK130 := n1_; have GW130 := n2_; have GE130 := n3_; clear n0_ n1_ n2_ n3_; clear hb hbox hg; have hcz17_0 : w16.cell? ⟨gb130, 0, none⟩ = some (.bool false) := (blk_cell BK130.out 0).trans rfl; have hcz17_1 : w16.cell? ⟨gb130, 1, none⟩ = some (.string a0_1) := (blk_cell BK130.out 1).trans rfl; have hcz17_2 : w16.cell? ⟨gb130, 2, none⟩ = some (.int .i64 a0_2) := (blk_cell BK130.out 2).trans rfl; have hfz17_0 := blk_frozen BK130.out 0; have hfz17_1 := blk_frozen BK130.out 1; have hfz17_2 := blk_frozen BK130.out 2))
     go_ret
     exact ⟨by (rfl), by repeat ((with_reducible (exact HB.out)))⟩
   rw [if_neg c15] at H
   replace H := Option.bind_eq_some_iff.mp H
   obtain ⟨t132, A180, H⟩ := H
   have A18 := Aside0.mk A180
   clear A180
   by_cases c19 : 1 + t132.size ≤ 9223372036854775807
   · rw [if_pos c19] at H
     have c19b1 : decide (1 + t132.size ≤ 9223372036854775807) = true := decide_eq_true c19
     by_cases c20 : a0_1.size + ((⟨#[101]⟩ : ByteArray) ++ t132).size ≤ 9223372036854775807
     · rw [if_pos c20] at H
       have c20b1 : decide (a0_1.size + ((⟨#[101]⟩ : ByteArray) ++ t132).size ≤ 9223372036854775807) = true := decide_eq_true c20
       obtain rfl := Option.some.inj H
       go_enter Tryz.func59, Tryz.ntmps59
       go_wp2_with (first | ((with_reducible refine gate_dst (N := 1) rfl ?_); refine box_event ?hg (N := 1) ?hd (cs := #[.bool false, .string a0_1, .int .i64 a0_2]) (t := 32) ?hr ?_; (case hd => rfl); (case hg => rfl); (case hr => (go_simp; done)); intro gb130 hg w21 hbox hb; have n0_ := Aside0.mk (below_step (by repeat ((with_reducible (exact HB.out)))) hb); have n1_ := Aside0.mk (hbox); have n2_ := Aside0.mk ((by rw [hg]; exact (below_size (by repeat ((with_reducible (exact HB.out))))) : w.heap.size ≤ gb130)); have n3_ := Aside0.mk ((by rw [hg]; exact (below_size (by repeat ((with_reducible (exact HB.out))))) : w.heap.size ≤ gb130)); clear HB; have HB := n0_; have BK130 := n1_; have GW130 := n2_; have GE130 := n3_; clear n0_ n1_ n2_ n3_; clear hb hbox hg; have hcz22_0 : w21.cell? ⟨gb130, 0, none⟩ = some (.bool false) := (blk_cell BK130.out 0).trans rfl; have hcz22_1 : w21.cell? ⟨gb130, 1, none⟩ = some (.string a0_1) := (blk_cell BK130.out 1).trans rfl; have hcz22_2 : w21.cell? ⟨gb130, 2, none⟩ = some (.int .i64 a0_2) := (blk_cell BK130.out 2).trans rfl; have hfz22_0 := blk_frozen BK130.out 0; have hfz22_1 := blk_frozen BK130.out 1; have hfz22_2 := blk_frozen BK130.out 2) | ((with_reducible refine gate_callee (f := 88) rfl ?_); refine goesL_ (some 18) rfl rfl Tryz.func88 (by kernel_rfl) rfl #[.int .i64 a0_2] rfl (by (try simp only [List.map_toArray, List.map_cons, List.map_nil]); (rfl)) ?_; (with_reducible refine (R4small.calls k a0_2 t132 _ A18.out).mono ?_); rintro e w' ⟨rfl, ⟨nd, rfl⟩⟩; refine ⟨_, rfl, ?_⟩))
       go_ret
       exact ⟨by (rfl), by repeat ((with_reducible first | exact HB.out | apply pw_below_drewN ))⟩
     rw [if_neg c20] at H
     exact absurd H (by simp)
   rw [if_neg c19] at H
   exact absurd H (by simp)
end Go.Proofs.YtapcpndplnkfjaaGreatDoor.Pr
