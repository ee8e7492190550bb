/- What the law rests on, part 3: joined by a program of this session (claimx.py). -/
import Derived.Test.YtapcpndplnkfjaaGreatDoorJsonBlanksB
namespace Go.Proofs.YtapcpndplnkfjaaGreatDoor.Pr
open Go.RowKit Go.Proofs.YtapcpndplnkfjaaGreatDoorW.PrintWords Go.Proofs.YtapcpndplnkfjaaGreatDoorW.PrintLast Go.Proofs.YtapcpndplnkfjaaGreatDoorW.PrintMore
attribute [local go_sem] max2_int min2_int max_two min_two max_three min_three max_four min_four
set_option linter.unusedVariables false
set_option linter.unusedSimpArgs false
def cmp_isNaN_int.f (a0 : Int) : Option (Bool) := some (a0 != a0)
set_option maxHeartbeats 8000000 in
set_option maxRecDepth 100000 in
theorem cmp_isNaN_int.calls (a0 : Int) (r : Bool) (w : World) (h : cmp_isNaN_int.f a0 = some r) :
    Calls Tryz.prog 80 #[.int .i64 a0] w fun e w' => e = .returned (.bool r) ∧ Drawn0 w w' := by
  have H : (some (a0 != a0)) = some r := h
  clear h
  obtain rfl := Option.some.inj H
  go_enter Tryz.func80, Tryz.ntmps80
  go_wp2
  go_ret
  try simp only [beq_nil_isEmpty, bytesLess_gtr]
  exact ⟨by first | rfl | (simp; done) | (simp [*]; done), by repeat (first | exact Drawn0.refl _ | apply Drawn0.step)⟩
def cmp_Compare_int.f (a0 : Int) (a1 : Int) : Option (Int) := (cmp_isNaN_int.f a0).bind fun t101 => ((cmp_isNaN_int.f a1).bind fun t102 => (if t101 = true then (if t102 = true then (some 0) else (some (-1))) else (if t102 = true then (some 1) else (if a0 < a1 then (some (-1)) else (if a0 > a1 then (some 1) else (some 0))))))
set_option maxHeartbeats 8000000 in
set_option maxRecDepth 100000 in
theorem cmp_Compare_int.calls (a0 : Int) (a1 : Int) (r : Int) (w : World) (h : cmp_Compare_int.f a0 a1 = some r) :
    Calls Tryz.prog 50 #[.int .i64 a0, .int .i64 a1] w fun e w' => e = .returned (.int .i64 r) ∧ Drawn0 w w' := by
  have H : ((cmp_isNaN_int.f a0).bind fun t101 => ((cmp_isNaN_int.f a1).bind fun t102 => (if t101 = true then (if t102 = true then (some 0) else (some (-1))) else (if t102 = true then (some 1) else (if a0 < a1 then (some (-1)) else (if a0 > a1 then (some 1) else (some 0))))))) = some r := h
  clear h
  replace H := Option.bind_eq_some_iff.mp H
  obtain ⟨t101, A30, H⟩ := H
  replace H : ((cmp_isNaN_int.f a1).bind fun t102 => (if t101 = true then (if t102 = true then (some 0) else (some (-1))) else (if t102 = true then (some 1) else (if a0 < a1 then (some (-1)) else (if a0 > a1 then (some 1) else (some 0)))))) = some r := H
  have A3 := Aside0.mk A30
  clear A30
  replace H := Option.bind_eq_some_iff.mp H
  obtain ⟨t102, A40, H⟩ := H
  replace H : (if t101 = true then (if t102 = true then (some 0) else (some (-1))) else (if t102 = true then (some 1) else (if a0 < a1 then (some (-1)) else (if a0 > a1 then (some 1) else (some 0))))) = some r := H
  have A4 := Aside0.mk A40
  clear A40
  by_cases c5 : t101 = true
  · subst c5
    have H1 : (if t102 = true then (some 0) else (some (-1))) = some r := by rw [if_pos rfl] at H; exact H
    clear H
    have H := H1
    clear H1
    by_cases c6 : t102 = true
    · subst c6
      have H1 : (some 0) = some r := by rw [if_pos rfl] at H; exact H
      clear H
      have H := H1
      clear H1
      obtain rfl := Option.some.inj H
      go_enter Tryz.func50, Tryz.ntmps50
      go_wp2_with (first | ((with_reducible refine gate_callee (f := 80) rfl ?_); refine goesL_ (some 8) rfl rfl Tryz.func80 (by kernel_rfl) rfl #[.int .i64 a0] rfl (by (try simp only [List.map_toArray, List.map_cons, List.map_nil]); first | done | rfl | (simp only [List.length_drop, List.length_take]; rfl)) ?_; (with_reducible refine (cmp_isNaN_int.calls a0 true _ A3.out).mono ?_); rintro e w' ⟨rfl, ⟨nd, rfl⟩⟩; refine ⟨_, rfl, ?_⟩) | ((with_reducible refine gate_callee (f := 80) rfl ?_); refine goesL_ (some 10) rfl rfl Tryz.func80 (by kernel_rfl) rfl #[.int .i64 a1] rfl (by (try simp only [List.map_toArray, List.map_cons, List.map_nil]); first | done | rfl | (simp only [List.length_drop, List.length_take]; rfl)) ?_; (with_reducible refine (cmp_isNaN_int.calls a1 true _ A4.out).mono ?_); rintro e w' ⟨rfl, ⟨nd, rfl⟩⟩; refine ⟨_, rfl, ?_⟩))
      go_ret
      try simp only [beq_nil_isEmpty, bytesLess_gtr]
      exact ⟨by first | rfl | (simp; done) | (simp [*]; done), by repeat (first | exact Drawn0.refl _ | apply Drawn0.step)⟩
    · replace c6 := Bool.eq_false_iff.mpr c6
      subst c6
      have H1 : (some (-1)) = some r := by rw [if_neg (show ¬ (false = true) by decide)] at H; exact H
      clear H
      have H := H1
      clear H1
      obtain rfl := Option.some.inj H
      go_enter Tryz.func50, Tryz.ntmps50
      go_wp2_with (first | ((with_reducible refine gate_callee (f := 80) rfl ?_); refine goesL_ (some 8) rfl rfl Tryz.func80 (by kernel_rfl) rfl #[.int .i64 a0] rfl (by (try simp only [List.map_toArray, List.map_cons, List.map_nil]); first | done | rfl | (simp only [List.length_drop, List.length_take]; rfl)) ?_; (with_reducible refine (cmp_isNaN_int.calls a0 true _ A3.out).mono ?_); rintro e w' ⟨rfl, ⟨nd, rfl⟩⟩; refine ⟨_, rfl, ?_⟩) | ((with_reducible refine gate_callee (f := 80) rfl ?_); refine goesL_ (some 10) rfl rfl Tryz.func80 (by kernel_rfl) rfl #[.int .i64 a1] rfl (by (try simp only [List.map_toArray, List.map_cons, List.map_nil]); first | done | rfl | (simp only [List.length_drop, List.length_take]; rfl)) ?_; (with_reducible refine (cmp_isNaN_int.calls a1 false _ A4.out).mono ?_); rintro e w' ⟨rfl, ⟨nd, rfl⟩⟩; refine ⟨_, rfl, ?_⟩))
      go_ret
      try simp only [beq_nil_isEmpty, bytesLess_gtr]
      exact ⟨by first | rfl | (simp; done) | (simp [*]; done), by repeat (first | exact Drawn0.refl _ | apply Drawn0.step)⟩
  · replace c5 := Bool.eq_false_iff.mpr c5
    subst c5
    have H1 : (if t102 = true then (some 1) else (if a0 < a1 then (some (-1)) else (if a0 > a1 then (some 1) else (some 0)))) = some r := by rw [if_neg (show ¬ (false = true) by decide)] at H; exact H
    clear H
    have H := H1
    clear H1
    by_cases c7 : t102 = true
    · subst c7
      have H1 : (some 1) = some r := by rw [if_pos rfl] at H; exact H
      clear H
      have H := H1
      clear H1
      obtain rfl := Option.some.inj H
      go_enter Tryz.func50, Tryz.ntmps50
      go_wp2_with (first | ((with_reducible refine gate_callee (f := 80) rfl ?_); refine goesL_ (some 8) rfl rfl Tryz.func80 (by kernel_rfl) rfl #[.int .i64 a0] rfl (by (try simp only [List.map_toArray, List.map_cons, List.map_nil]); first | done | rfl | (simp only [List.length_drop, List.length_take]; rfl)) ?_; (with_reducible refine (cmp_isNaN_int.calls a0 false _ A3.out).mono ?_); rintro e w' ⟨rfl, ⟨nd, rfl⟩⟩; refine ⟨_, rfl, ?_⟩) | ((with_reducible refine gate_callee (f := 80) rfl ?_); refine goesL_ (some 10) rfl rfl Tryz.func80 (by kernel_rfl) rfl #[.int .i64 a1] rfl (by (try simp only [List.map_toArray, List.map_cons, List.map_nil]); first | done | rfl | (simp only [List.length_drop, List.length_take]; rfl)) ?_; (with_reducible refine (cmp_isNaN_int.calls a1 true _ A4.out).mono ?_); rintro e w' ⟨rfl, ⟨nd, rfl⟩⟩; refine ⟨_, rfl, ?_⟩))
      go_ret
      try simp only [beq_nil_isEmpty, bytesLess_gtr]
      exact ⟨by first | rfl | (simp; done) | (simp [*]; done), by repeat (first | exact Drawn0.refl _ | apply Drawn0.step)⟩
    · replace c7 := Bool.eq_false_iff.mpr c7
      subst c7
      have H1 : (if a0 < a1 then (some (-1)) else (if a0 > a1 then (some 1) else (some 0))) = some r := by rw [if_neg (show ¬ (false = true) by decide)] at H; exact H
      clear H
      have H := H1
      clear H1
      by_cases c8 : a0 < a1
      · rw [if_pos c8] at H
        have c8b0 : decide (a0 < a1) = true := decide_eq_true c8
        clear c8
        obtain rfl := Option.some.inj H
        go_enter Tryz.func50, Tryz.ntmps50
        go_wp2_with (first | ((with_reducible refine gate_callee (f := 80) rfl ?_); refine goesL_ (some 8) rfl rfl Tryz.func80 (by kernel_rfl) rfl #[.int .i64 a0] rfl (by (try simp only [List.map_toArray, List.map_cons, List.map_nil]); first | done | rfl | (simp only [List.length_drop, List.length_take]; rfl)) ?_; (with_reducible refine (cmp_isNaN_int.calls a0 false _ A3.out).mono ?_); rintro e w' ⟨rfl, ⟨nd, rfl⟩⟩; refine ⟨_, rfl, ?_⟩) | ((with_reducible refine gate_callee (f := 80) rfl ?_); refine goesL_ (some 10) rfl rfl Tryz.func80 (by kernel_rfl) rfl #[.int .i64 a1] rfl (by (try simp only [List.map_toArray, List.map_cons, List.map_nil]); first | done | rfl | (simp only [List.length_drop, List.length_take]; rfl)) ?_; (with_reducible refine (cmp_isNaN_int.calls a1 false _ A4.out).mono ?_); rintro e w' ⟨rfl, ⟨nd, rfl⟩⟩; refine ⟨_, rfl, ?_⟩))
        go_ret
        try simp only [beq_nil_isEmpty, bytesLess_gtr]
        exact ⟨by first | rfl | (simp; done) | (simp [*]; done), by repeat (first | exact Drawn0.refl _ | apply Drawn0.step)⟩
      · rw [if_neg c8] at H
        have c8b0 : decide (a0 < a1) = false := decide_eq_false c8
        clear c8
        by_cases c9 : a0 > a1
        · rw [if_pos c9] at H
          have c9b0 : decide (a1 < a0) = true := decide_eq_true c9
          clear c9
          obtain rfl := Option.some.inj H
          go_enter Tryz.func50, Tryz.ntmps50
          go_wp2_with (first | ((with_reducible refine gate_callee (f := 80) rfl ?_); refine goesL_ (some 8) rfl rfl Tryz.func80 (by kernel_rfl) rfl #[.int .i64 a0] rfl (by (try simp only [List.map_toArray, List.map_cons, List.map_nil]); first | done | rfl | (simp only [List.length_drop, List.length_take]; rfl)) ?_; (with_reducible refine (cmp_isNaN_int.calls a0 false _ A3.out).mono ?_); rintro e w' ⟨rfl, ⟨nd, rfl⟩⟩; refine ⟨_, rfl, ?_⟩) | ((with_reducible refine gate_callee (f := 80) rfl ?_); refine goesL_ (some 10) rfl rfl Tryz.func80 (by kernel_rfl) rfl #[.int .i64 a1] rfl (by (try simp only [List.map_toArray, List.map_cons, List.map_nil]); first | done | rfl | (simp only [List.length_drop, List.length_take]; rfl)) ?_; (with_reducible refine (cmp_isNaN_int.calls a1 false _ A4.out).mono ?_); rintro e w' ⟨rfl, ⟨nd, rfl⟩⟩; refine ⟨_, rfl, ?_⟩))
          go_ret
          try simp only [beq_nil_isEmpty, bytesLess_gtr]
          exact ⟨by first | rfl | (simp; done) | (simp [*]; done), by repeat (first | exact Drawn0.refl _ | apply Drawn0.step)⟩
        · rw [if_neg c9] at H
          have c9b0 : decide (a1 < a0) = false := decide_eq_false c9
          clear c9
          obtain rfl := Option.some.inj H
          go_enter Tryz.func50, Tryz.ntmps50
          go_wp2_with (first | ((with_reducible refine gate_callee (f := 80) rfl ?_); refine goesL_ (some 8) rfl rfl Tryz.func80 (by kernel_rfl) rfl #[.int .i64 a0] rfl (by (try simp only [List.map_toArray, List.map_cons, List.map_nil]); first | done | rfl | (simp only [List.length_drop, List.length_take]; rfl)) ?_; (with_reducible refine (cmp_isNaN_int.calls a0 false _ A3.out).mono ?_); rintro e w' ⟨rfl, ⟨nd, rfl⟩⟩; refine ⟨_, rfl, ?_⟩) | ((with_reducible refine gate_callee (f := 80) rfl ?_); refine goesL_ (some 10) rfl rfl Tryz.func80 (by kernel_rfl) rfl #[.int .i64 a1] rfl (by (try simp only [List.map_toArray, List.map_cons, List.map_nil]); first | done | rfl | (simp only [List.length_drop, List.length_take]; rfl)) ?_; (with_reducible refine (cmp_isNaN_int.calls a1 false _ A4.out).mono ?_); rintro e w' ⟨rfl, ⟨nd, rfl⟩⟩; refine ⟨_, rfl, ?_⟩))
          go_ret
          try simp only [beq_nil_isEmpty, bytesLess_gtr]
          exact ⟨by first | rfl | (simp; done) | (simp [*]; done), by repeat (first | exact Drawn0.refl _ | apply Drawn0.step)⟩
def num_Text.f (a0_0 : Bool) (a0_1 : ByteArray) (a0_2 : Int) : Option (ByteArray) := if a0_1.toList = ([] : List UInt8) then (some (⟨#[48]⟩ : ByteArray)) else (if a0_0 = true then (if 1 + a0_1.size ≤ 9223372036854775807 then (if a0_2 = 0 then (some ((⟨#[45]⟩ : ByteArray) ++ a0_1)) else ((strconv_Itoa_83.f a0_2).bind fun t119 => (if 1 + t119.size ≤ 9223372036854775807 then (if ((⟨#[45]⟩ : ByteArray) ++ a0_1).size + ((⟨#[101]⟩ : ByteArray) ++ t119).size ≤ 9223372036854775807 then (some (((⟨#[45]⟩ : ByteArray) ++ a0_1) ++ ((⟨#[101]⟩ : ByteArray) ++ t119))) else (none)) else (none)))) else (none)) else (if a0_2 = 0 then (some a0_1) else ((strconv_Itoa_83.f a0_2).bind fun t120 => (if 1 + t120.size ≤ 9223372036854775807 then (if a0_1.size + ((⟨#[101]⟩ : ByteArray) ++ t120).size ≤ 9223372036854775807 then (some (a0_1 ++ ((⟨#[101]⟩ : ByteArray) ++ t120))) else (none)) else (none)))))
set_option maxHeartbeats 8000000 in
set_option maxRecDepth 100000 in
theorem num_Text.calls (a0_0 : Bool) (a0_1 : ByteArray) (a0_2 : Int) (r : ByteArray) (w : World) (hT : PTabs w) (h : num_Text.f a0_0 a0_1 a0_2 = some r) :
    Calls Tryz.prog 56 #[.agg #[.bool a0_0, .string a0_1, .int .i64 a0_2]] w fun e w' => e = .returned (.string r) ∧ Below w.heap.size w w' := by
  have HT := Aside0.mk hT
  clear hT
  have hu24 := Tryz.underlying24
  have HB := Aside0.mk (Below.refl w.heap.size w)
  have H : (if a0_1.toList = ([] : List UInt8) then (some (⟨#[48]⟩ : ByteArray)) else (if a0_0 = true then (if 1 + a0_1.size ≤ 9223372036854775807 then (if a0_2 = 0 then (some ((⟨#[45]⟩ : ByteArray) ++ a0_1)) else ((strconv_Itoa_83.f a0_2).bind fun t119 => (if 1 + t119.size ≤ 9223372036854775807 then (if ((⟨#[45]⟩ : ByteArray) ++ a0_1).size + ((⟨#[101]⟩ : ByteArray) ++ t119).size ≤ 9223372036854775807 then (some (((⟨#[45]⟩ : ByteArray) ++ a0_1) ++ ((⟨#[101]⟩ : ByteArray) ++ t119))) else (none)) else (none)))) else (none)) else (if a0_2 = 0 then (some a0_1) else ((strconv_Itoa_83.f a0_2).bind fun t120 => (if 1 + t120.size ≤ 9223372036854775807 then (if a0_1.size + ((⟨#[101]⟩ : ByteArray) ++ t120).size ≤ 9223372036854775807 then (some (a0_1 ++ ((⟨#[101]⟩ : ByteArray) ++ t120))) else (none)) else (none)))))) = some r := h
  clear h
  by_cases c2 : a0_1.toList = ([] : List UInt8)
  · rw [if_pos c2] at H
    have c2b0 : (a0_1.toList == ([] : List UInt8)) = true := beq_iff_eq.mpr c2
    have c2b7 : a0_1.toList.isEmpty = true := by rw [← beq_nil_isEmpty]; exact c2b0
    have c2b1 : (a0_1.toList != ([] : List UInt8)) = false := bne_eq_false_iff_eq.mpr c2
    clear c2
    obtain rfl := Option.some.inj H
    go_enter Tryz.func56, Tryz.ntmps56
    go_wp2_with (first | ((with_reducible refine gate_dst (N := 1) rfl ?_); refine box_event ?hg (N := 1) ?hd (cs := #[.bool a0_0, .string a0_1, .int .i64 a0_2]) (t := 24) ?hr ?_; (case hd => rfl); (case hg => rfl); (case hr => first | (go_simp; done) | (go_simp; rfl)); intro gb118 hg w3 hbox hb; have n0_ := Aside0.mk (below_step (by repeat (first | (with_reducible first | exact HB.out | apply below_alloc | apply pw_below_drewN | apply below_drew1) | exact HB.out)) hb); have n1_ := Aside0.mk (hbox); have n2_ := Aside0.mk ((by rw [hg]; exact (below_size (by repeat (first | (with_reducible first | exact HB.out | apply below_alloc | apply pw_below_drewN | apply below_drew1) | exact HB.out))) : w.heap.size ≤ gb118)); have n3_ := Aside0.mk ((by rw [hg]; exact (below_size (by repeat (first | (with_reducible first | exact HB.out | apply below_alloc | apply pw_below_drewN | apply below_drew1) | exact HB.out))) : w.heap.size ≤ gb118)); clear HB; have HB := n0_; have BK118 := n1_; have GW118 := n2_; have GE118 := n3_; clear n0_ n1_ n2_ n3_; clear hb hbox hg; have hcz4_0 : w3.cell? ⟨gb118, 0, none⟩ = some (.bool a0_0) := (blk_cell BK118.out 0).trans rfl; have hcz4_1 : w3.cell? ⟨gb118, 1, none⟩ = some (.string a0_1) := (blk_cell BK118.out 1).trans rfl; have hcz4_2 : w3.cell? ⟨gb118, 2, none⟩ = some (.int .i64 a0_2) := (blk_cell BK118.out 2).trans rfl; have hfz4_0 := blk_frozen BK118.out 0; have hfz4_1 := blk_frozen BK118.out 1; have hfz4_2 := blk_frozen BK118.out 2))
    go_ret
    try simp only [beq_nil_isEmpty, bytesLess_gtr]
    exact ⟨by first | rfl | (simp [errW_none, errW_some] <;> rfl) | (simp [*, errW_none, errW_some] <;> rfl), by repeat (first | (with_reducible first | exact HB.out | apply below_alloc | apply pw_below_drewN | apply below_drew1 | refine below_set ?_ GE118.out) | exact HB.out)⟩
  · rw [if_neg c2] at H
    have c2b0 : (a0_1.toList == ([] : List UInt8)) = false := beq_eq_false_iff_ne.mpr c2
    have c2b7 : a0_1.toList.isEmpty = false := by rw [← beq_nil_isEmpty]; exact c2b0
    have c2b1 : (a0_1.toList != ([] : List UInt8)) = true := bne_iff_ne.mpr c2
    by_cases c5 : a0_0 = true
    · subst c5
      have H1 : (if 1 + a0_1.size ≤ 9223372036854775807 then (if a0_2 = 0 then (some ((⟨#[45]⟩ : ByteArray) ++ a0_1)) else ((strconv_Itoa_83.f a0_2).bind fun t119 => (if 1 + t119.size ≤ 9223372036854775807 then (if ((⟨#[45]⟩ : ByteArray) ++ a0_1).size + ((⟨#[101]⟩ : ByteArray) ++ t119).size ≤ 9223372036854775807 then (some (((⟨#[45]⟩ : ByteArray) ++ a0_1) ++ ((⟨#[101]⟩ : ByteArray) ++ t119))) else (none)) else (none)))) else (none)) = some r := by rw [if_pos rfl] at H; exact H
      clear H
      have H := H1
      clear H1
      by_cases c6 : 1 + a0_1.size ≤ 9223372036854775807
      · rw [if_pos c6] at H
        have c6b0 := eq_true c6
        have c6b1 : decide (1 + a0_1.size ≤ 9223372036854775807) = true := decide_eq_true c6
        try have c6b2 : (9223372036854775807 < 1 + a0_1.size) = False := eq_false (Nat.not_lt.2 c6)
        by_cases c7 : a0_2 = 0
        · rw [if_pos c7] at H
          have c7b0 : (a0_2 == 0) = true := beq_iff_eq.mpr c7
          have c7b1 : (a0_2 != 0) = false := bne_eq_false_iff_eq.mpr c7
          clear c7
          obtain rfl := Option.some.inj H
          go_enter Tryz.func56, Tryz.ntmps56
          go_wp2_with (first | ((with_reducible refine gate_dst (N := 1) rfl ?_); refine box_event ?hg (N := 1) ?hd (cs := #[.bool true, .string a0_1, .int .i64 a0_2]) (t := 24) ?hr ?_; (case hd => rfl); (case hg => rfl); (case hr => first | (go_simp; done) | (go_simp; rfl)); intro gb118 hg w8 hbox hb; have n0_ := Aside0.mk (below_step (by repeat (first | (with_reducible first | exact HB.out | apply below_alloc | apply pw_below_drewN | apply below_drew1) | exact HB.out)) hb); have n1_ := Aside0.mk (hbox); have n2_ := Aside0.mk ((by rw [hg]; exact (below_size (by repeat (first | (with_reducible first | exact HB.out | apply below_alloc | apply pw_below_drewN | apply below_drew1) | exact HB.out))) : w.heap.size ≤ gb118)); have n3_ := Aside0.mk ((by rw [hg]; exact (below_size (by repeat (first | (with_reducible first | exact HB.out | apply below_alloc | apply pw_below_drewN | apply below_drew1) | exact HB.out))) : w.heap.size ≤ gb118)); clear HB; have HB := n0_; have BK118 := n1_; have GW118 := n2_; have GE118 := n3_; clear n0_ n1_ n2_ n3_; clear hb hbox hg; have hcz9_0 : w8.cell? ⟨gb118, 0, none⟩ = some (.bool true) := (blk_cell BK118.out 0).trans rfl; have hcz9_1 : w8.cell? ⟨gb118, 1, none⟩ = some (.string a0_1) := (blk_cell BK118.out 1).trans rfl; have hcz9_2 : w8.cell? ⟨gb118, 2, none⟩ = some (.int .i64 a0_2) := (blk_cell BK118.out 2).trans rfl; have hfz9_0 := blk_frozen BK118.out 0; have hfz9_1 := blk_frozen BK118.out 1; have hfz9_2 := blk_frozen BK118.out 2))
          go_ret
          try simp only [beq_nil_isEmpty, bytesLess_gtr]
          exact ⟨by first | rfl | (simp [errW_none, errW_some] <;> rfl) | (simp [*, errW_none, errW_some] <;> rfl), by repeat (first | (with_reducible first | exact HB.out | apply below_alloc | apply pw_below_drewN | apply below_drew1 | refine below_set ?_ GE118.out) | exact HB.out)⟩
        · rw [if_neg c7] at H
          have c7b0 : (a0_2 == 0) = false := beq_eq_false_iff_ne.mpr c7
          have c7b1 : (a0_2 != 0) = true := bne_iff_ne.mpr c7
          replace H := Option.bind_eq_some_iff.mp H
          obtain ⟨t119, A100, H⟩ := H
          replace H : (if 1 + t119.size ≤ 9223372036854775807 then (if ((⟨#[45]⟩ : ByteArray) ++ a0_1).size + ((⟨#[101]⟩ : ByteArray) ++ t119).size ≤ 9223372036854775807 then (some (((⟨#[45]⟩ : ByteArray) ++ a0_1) ++ ((⟨#[101]⟩ : ByteArray) ++ t119))) else (none)) else (none)) = some r := H
          have A10 := Aside0.mk A100
          clear A100
          by_cases c11 : 1 + t119.size ≤ 9223372036854775807
          · rw [if_pos c11] at H
            have c11b0 := eq_true c11
            have c11b1 : decide (1 + t119.size ≤ 9223372036854775807) = true := decide_eq_true c11
            try have c11b2 : (9223372036854775807 < 1 + t119.size) = False := eq_false (Nat.not_lt.2 c11)
            by_cases c12 : ((⟨#[45]⟩ : ByteArray) ++ a0_1).size + ((⟨#[101]⟩ : ByteArray) ++ t119).size ≤ 9223372036854775807
            · rw [if_pos c12] at H
              have c12b0 := eq_true c12
              have c12b1 : decide (((⟨#[45]⟩ : ByteArray) ++ a0_1).size + ((⟨#[101]⟩ : ByteArray) ++ t119).size ≤ 9223372036854775807) = true := decide_eq_true c12
              try have c12b2 : (9223372036854775807 < ((⟨#[45]⟩ : ByteArray) ++ a0_1).size + ((⟨#[101]⟩ : ByteArray) ++ t119).size) = False := eq_false (Nat.not_lt.2 c12)
              obtain rfl := Option.some.inj H
              go_enter Tryz.func56, Tryz.ntmps56
              go_wp2_with (first | ((with_reducible refine gate_dst (N := 1) rfl ?_); refine box_event ?hg (N := 1) ?hd (cs := #[.bool true, .string a0_1, .int .i64 a0_2]) (t := 24) ?hr ?_; (case hd => rfl); (case hg => rfl); (case hr => first | (go_simp; done) | (go_simp; rfl)); intro gb118 hg w13 hbox hb; have n0_ := Aside0.mk (below_step (by repeat (first | (with_reducible first | exact HB.out | apply below_alloc | apply pw_below_drewN | apply below_drew1) | exact HB.out)) hb); have n1_ := Aside0.mk (hbox); have n2_ := Aside0.mk ((by rw [hg]; exact (below_size (by repeat (first | (with_reducible first | exact HB.out | apply below_alloc | apply pw_below_drewN | apply below_drew1) | exact HB.out))) : w.heap.size ≤ gb118)); have n3_ := Aside0.mk ((by rw [hg]; exact (below_size (by repeat (first | (with_reducible first | exact HB.out | apply below_alloc | apply pw_below_drewN | apply below_drew1) | exact HB.out))) : w.heap.size ≤ gb118)); clear HB; have HB := n0_; have BK118 := n1_; have GW118 := n2_; have GE118 := n3_; clear n0_ n1_ n2_ n3_; clear hb hbox hg; have hcz14_0 : w13.cell? ⟨gb118, 0, none⟩ = some (.bool true) := (blk_cell BK118.out 0).trans rfl; have hcz14_1 : w13.cell? ⟨gb118, 1, none⟩ = some (.string a0_1) := (blk_cell BK118.out 1).trans rfl; have hcz14_2 : w13.cell? ⟨gb118, 2, none⟩ = some (.int .i64 a0_2) := (blk_cell BK118.out 2).trans rfl; have hfz14_0 := blk_frozen BK118.out 0; have hfz14_1 := blk_frozen BK118.out 1; have hfz14_2 := blk_frozen BK118.out 2) | ((with_reducible refine gate_callee (f := 83) rfl ?_); refine goesL_ (some 19) rfl rfl Tryz.func83 (by kernel_rfl) rfl #[.int .i64 a0_2] rfl (by (try simp only [List.map_toArray, List.map_cons, List.map_nil]); first | done | rfl | (simp only [List.length_drop, List.length_take]; rfl)) ?_; (with_reducible refine (strconv_Itoa_83.calls a0_2 t119 _ (PTabs.below HT.out (by repeat (first | (with_reducible first | exact HB.out | apply below_alloc | apply pw_below_drewN | apply below_drew1 | refine below_set ?_ GE118.out) | exact HB.out))) A10.out).mono ?_); rintro e w15 ⟨rfl, hb⟩; refine ⟨_, rfl, ?_⟩; have n0_ := Aside0.mk (blk_below (g := gb118) (o := .cells #[.bool true, .string a0_1, .int .i64 a0_2] 24 (0, 0)) (by (with_reducible repeat (first | refine blk_drewN ?_ _ | refine blk_drew ?_ | refine blk_alloc ?_ _)); exact BK118.out) hb); have n1_ := Aside0.mk (below_step (by repeat (first | (with_reducible first | exact HB.out | apply below_alloc | apply pw_below_drewN | apply below_drew1 | refine below_set ?_ GE118.out) | exact HB.out)) hb); clear BK118; clear HB; have BK118 := n0_; have HB := n1_; clear n0_ n1_; (try clear hb); (try clear hb2); (try clear hk); (try clear hi)))
              go_ret
              try simp only [beq_nil_isEmpty, bytesLess_gtr]
              exact ⟨by first | rfl | (simp [errW_none, errW_some] <;> rfl) | (simp [*, errW_none, errW_some] <;> rfl), by repeat (first | (with_reducible first | exact HB.out | apply below_alloc | apply pw_below_drewN | apply below_drew1 | refine below_set ?_ GE118.out) | exact HB.out)⟩
            · rw [if_neg c12] at H
              exact absurd H (by simp)
          · rw [if_neg c11] at H
            exact absurd H (by simp)
      · rw [if_neg c6] at H
        exact absurd H (by simp)
    · replace c5 := Bool.eq_false_iff.mpr c5
      subst c5
      have H1 : (if a0_2 = 0 then (some a0_1) else ((strconv_Itoa_83.f a0_2).bind fun t120 => (if 1 + t120.size ≤ 9223372036854775807 then (if a0_1.size + ((⟨#[101]⟩ : ByteArray) ++ t120).size ≤ 9223372036854775807 then (some (a0_1 ++ ((⟨#[101]⟩ : ByteArray) ++ t120))) else (none)) else (none)))) = some r := by rw [if_neg (show ¬ (false = true) by decide)] at H; exact H
      clear H
      have H := H1
      clear H1
      by_cases c16 : a0_2 = 0
      · rw [if_pos c16] at H
        have c16b0 : (a0_2 == 0) = true := beq_iff_eq.mpr c16
        have c16b1 : (a0_2 != 0) = false := bne_eq_false_iff_eq.mpr c16
        clear c16
        obtain rfl := Option.some.inj H
        go_enter Tryz.func56, Tryz.ntmps56
        go_wp2_with (first | ((with_reducible refine gate_dst (N := 1) rfl ?_); refine box_event ?hg (N := 1) ?hd (cs := #[.bool false, .string a0_1, .int .i64 a0_2]) (t := 24) ?hr ?_; (case hd => rfl); (case hg => rfl); (case hr => first | (go_simp; done) | (go_simp; rfl)); intro gb118 hg w17 hbox hb; have n0_ := Aside0.mk (below_step (by repeat (first | (with_reducible first | exact HB.out | apply below_alloc | apply pw_below_drewN | apply below_drew1) | exact HB.out)) hb); have n1_ := Aside0.mk (hbox); have n2_ := Aside0.mk ((by rw [hg]; exact (below_size (by repeat (first | (with_reducible first | exact HB.out | apply below_alloc | apply pw_below_drewN | apply below_drew1) | exact HB.out))) : w.heap.size ≤ gb118)); have n3_ := Aside0.mk ((by rw [hg]; exact (below_size (by repeat (first | (with_reducible first | exact HB.out | apply below_alloc | apply pw_below_drewN | apply below_drew1) | exact HB.out))) : w.heap.size ≤ gb118)); clear HB; have HB := n0_; have BK118 := n1_; have GW118 := n2_; have GE118 := n3_; clear n0_ n1_ n2_ n3_; clear hb hbox hg; have hcz18_0 : w17.cell? ⟨gb118, 0, none⟩ = some (.bool false) := (blk_cell BK118.out 0).trans rfl; have hcz18_1 : w17.cell? ⟨gb118, 1, none⟩ = some (.string a0_1) := (blk_cell BK118.out 1).trans rfl; have hcz18_2 : w17.cell? ⟨gb118, 2, none⟩ = some (.int .i64 a0_2) := (blk_cell BK118.out 2).trans rfl; have hfz18_0 := blk_frozen BK118.out 0; have hfz18_1 := blk_frozen BK118.out 1; have hfz18_2 := blk_frozen BK118.out 2))
        go_ret
        try simp only [beq_nil_isEmpty, bytesLess_gtr]
        exact ⟨by first | rfl | (simp [errW_none, errW_some] <;> rfl) | (simp [*, errW_none, errW_some] <;> rfl), by repeat (first | (with_reducible first | exact HB.out | apply below_alloc | apply pw_below_drewN | apply below_drew1 | refine below_set ?_ GE118.out) | exact HB.out)⟩
      · rw [if_neg c16] at H
        have c16b0 : (a0_2 == 0) = false := beq_eq_false_iff_ne.mpr c16
        have c16b1 : (a0_2 != 0) = true := bne_iff_ne.mpr c16
        replace H := Option.bind_eq_some_iff.mp H
        obtain ⟨t120, A190, H⟩ := H
        replace H : (if 1 + t120.size ≤ 9223372036854775807 then (if a0_1.size + ((⟨#[101]⟩ : ByteArray) ++ t120).size ≤ 9223372036854775807 then (some (a0_1 ++ ((⟨#[101]⟩ : ByteArray) ++ t120))) else (none)) else (none)) = some r := H
        have A19 := Aside0.mk A190
        clear A190
        by_cases c20 : 1 + t120.size ≤ 9223372036854775807
        · rw [if_pos c20] at H
          have c20b0 := eq_true c20
          have c20b1 : decide (1 + t120.size ≤ 9223372036854775807) = true := decide_eq_true c20
          try have c20b2 : (9223372036854775807 < 1 + t120.size) = False := eq_false (Nat.not_lt.2 c20)
          by_cases c21 : a0_1.size + ((⟨#[101]⟩ : ByteArray) ++ t120).size ≤ 9223372036854775807
          · rw [if_pos c21] at H
            have c21b0 := eq_true c21
            have c21b1 : decide (a0_1.size + ((⟨#[101]⟩ : ByteArray) ++ t120).size ≤ 9223372036854775807) = true := decide_eq_true c21
            try have c21b2 : (9223372036854775807 < a0_1.size + ((⟨#[101]⟩ : ByteArray) ++ t120).size) = False := eq_false (Nat.not_lt.2 c21)
            obtain rfl := Option.some.inj H
            go_enter Tryz.func56, Tryz.ntmps56
            go_wp2_with (first | ((with_reducible refine gate_dst (N := 1) rfl ?_); refine box_event ?hg (N := 1) ?hd (cs := #[.bool false, .string a0_1, .int .i64 a0_2]) (t := 24) ?hr ?_; (case hd => rfl); (case hg => rfl); (case hr => first | (go_simp; done) | (go_simp; rfl)); intro gb118 hg w22 hbox hb; have n0_ := Aside0.mk (below_step (by repeat (first | (with_reducible first | exact HB.out | apply below_alloc | apply pw_below_drewN | apply below_drew1) | exact HB.out)) hb); have n1_ := Aside0.mk (hbox); have n2_ := Aside0.mk ((by rw [hg]; exact (below_size (by repeat (first | (with_reducible first | exact HB.out | apply below_alloc | apply pw_below_drewN | apply below_drew1) | exact HB.out))) : w.heap.size ≤ gb118)); have n3_ := Aside0.mk ((by rw [hg]; exact (below_size (by repeat (first | (with_reducible first | exact HB.out | apply below_alloc | apply pw_below_drewN | apply below_drew1) | exact HB.out))) : w.heap.size ≤ gb118)); clear HB; have HB := n0_; have BK118 := n1_; have GW118 := n2_; have GE118 := n3_; clear n0_ n1_ n2_ n3_; clear hb hbox hg; have hcz23_0 : w22.cell? ⟨gb118, 0, none⟩ = some (.bool false) := (blk_cell BK118.out 0).trans rfl; have hcz23_1 : w22.cell? ⟨gb118, 1, none⟩ = some (.string a0_1) := (blk_cell BK118.out 1).trans rfl; have hcz23_2 : w22.cell? ⟨gb118, 2, none⟩ = some (.int .i64 a0_2) := (blk_cell BK118.out 2).trans rfl; have hfz23_0 := blk_frozen BK118.out 0; have hfz23_1 := blk_frozen BK118.out 1; have hfz23_2 := blk_frozen BK118.out 2) | ((with_reducible refine gate_callee (f := 83) rfl ?_); refine goesL_ (some 19) rfl rfl Tryz.func83 (by kernel_rfl) rfl #[.int .i64 a0_2] rfl (by (try simp only [List.map_toArray, List.map_cons, List.map_nil]); first | done | rfl | (simp only [List.length_drop, List.length_take]; rfl)) ?_; (with_reducible refine (strconv_Itoa_83.calls a0_2 t120 _ (PTabs.below HT.out (by repeat (first | (with_reducible first | exact HB.out | apply below_alloc | apply pw_below_drewN | apply below_drew1 | refine below_set ?_ GE118.out) | exact HB.out))) A19.out).mono ?_); rintro e w24 ⟨rfl, hb⟩; refine ⟨_, rfl, ?_⟩; have n0_ := Aside0.mk (blk_below (g := gb118) (o := .cells #[.bool false, .string a0_1, .int .i64 a0_2] 24 (0, 0)) (by (with_reducible repeat (first | refine blk_drewN ?_ _ | refine blk_drew ?_ | refine blk_alloc ?_ _)); exact BK118.out) hb); have n1_ := Aside0.mk (below_step (by repeat (first | (with_reducible first | exact HB.out | apply below_alloc | apply pw_below_drewN | apply below_drew1 | refine below_set ?_ GE118.out) | exact HB.out)) hb); clear BK118; clear HB; have BK118 := n0_; have HB := n1_; clear n0_ n1_; (try clear hb); (try clear hb2); (try clear hk); (try clear hi)))
            go_ret
            try simp only [beq_nil_isEmpty, bytesLess_gtr]
            exact ⟨by first | rfl | (simp [errW_none, errW_some] <;> rfl) | (simp [*, errW_none, errW_some] <;> rfl), by repeat (first | (with_reducible first | exact HB.out | apply below_alloc | apply pw_below_drewN | apply below_drew1 | refine below_set ?_ GE118.out) | exact HB.out)⟩
          · rw [if_neg c21] at H
            exact absurd H (by simp)
        · rw [if_neg c20] at H
          exact absurd H (by simp)
end Go.Proofs.YtapcpndplnkfjaaGreatDoor.Pr
namespace Go.Proofs.YtapcpndplnkfjaaGreatDoor
open Go.RowKit Go.Proofs.YtapcpndplnkfjaaGreatDoorW.PrintWords Go.Proofs.YtapcpndplnkfjaaGreatDoorW.PrintLast Go.Proofs.YtapcpndplnkfjaaGreatDoorW.PrintMore
set_option linter.unusedVariables false
set_option linter.unusedSimpArgs false
namespace Js
def itemsF (f : S28 → Option (List UInt8)) : List S28 → Option (List (List UInt8))
  | [] => some []
  | x :: t => (f x).bind fun a => (itemsF f t).bind fun r => some (a :: r)
def pairsF (f : S28 → Option (List UInt8)) : List S28 → List ByteArray → Option (List (List UInt8))
  | [], _ => some []
  | x :: t, k :: u => if k.data.toList.length ≤ 1000000 then (f x).bind fun a => if a.length ≤ 1000000000 then (pairsF f t u).bind fun r => some ((quoteL k.data.toList ++ [58] ++ a) :: r) else none else none
  | _ :: _, [] => none
def wrapF (a b : UInt8) (l : List (List UInt8)) : Option (List UInt8) := if l.length ≤ 1000000 ∧ (Lib.join l [44]).length ≤ 1000000000 then some (a :: Lib.join l [44] ++ [b]) else none
def txF : Nat → S28 → Option (List UInt8)
  | 0, _ => none
  | n + 1, x =>
    if x.f0 = 1 then some (if x.f1 = true then [116, 114, 117, 101] else [102, 97, 108, 115, 101])
    else if x.f0 = 2 then (Pr.num_Text.f x.f2.f0 x.f2.f1 x.f2.f2).bind fun b => some b.data.toList
    else if x.f0 = 3 then (if x.f3.data.toList.length ≤ 1000000 then some (quoteL x.f3.data.toList) else none)
    else if x.f0 = 4 then (itemsF (txF n) x.f4).bind (wrapF 91 93)
    else if x.f0 = 5 then (pairsF (txF n) x.f4 x.f5).bind (wrapF 123 125)
    else some [110, 117, 108, 108]
theorem items_len {f : S28 → Option (List UInt8)} : ∀ {xs l}, itemsF f xs = some l → l.length = xs.length
  | [], l, h => by simp [itemsF] at h; subst h; rfl
  | x :: t, l, h => by
    simp only [itemsF, Option.bind_eq_some_iff] at h
    obtain ⟨a, _, r, hr, h⟩ := h
    obtain rfl : a :: r = l := by simpa using h
    simp [items_len hr]
theorem items_at {f : S28 → Option (List UInt8)} : ∀ {xs l}, itemsF f xs = some l → ∀ i, i < xs.length → f (xs.getD i z28) = some (l.getD i [])
  | [], l, h, i, hi => by simp at hi
  | x :: t, l, h, i, hi => by
    simp only [itemsF, Option.bind_eq_some_iff] at h
    obtain ⟨a, ha, r, hr, h⟩ := h
    obtain rfl : a :: r = l := by simpa using h
    match i, hi with
    | 0, _ => simpa using ha
    | i + 1, hi => simpa using items_at hr i (by simpa using hi)
theorem pairs_len {f : S28 → Option (List UInt8)} : ∀ {xs ks l}, pairsF f xs ks = some l → l.length = xs.length
  | [], _, l, h => by simp [pairsF] at h; subst h; rfl
  | _ :: _, [], l, h => by simp [pairsF] at h
  | x :: t, k :: u, l, h => by
    simp only [pairsF] at h
    split at h
    case isFalse => simp at h
    rw [Option.bind_eq_some_iff] at h
    obtain ⟨a, _, h⟩ := h
    split at h
    case isFalse => simp at h
    rw [Option.bind_eq_some_iff] at h
    obtain ⟨r, hr, h⟩ := h
    obtain rfl : _ = l := by simpa using h
    simp [pairs_len hr]
theorem pairs_at {f : S28 → Option (List UInt8)} : ∀ {xs ks l}, pairsF f xs ks = some l → ∀ i, i < xs.length → ∃ a, f (xs.getD i z28) = some a ∧ a.length ≤ 1000000000 ∧ i < ks.length ∧ (ks.getD i ⟨#[]⟩).data.toList.length ≤ 1000000 ∧ quoteL (ks.getD i ⟨#[]⟩).data.toList ++ [58] ++ a = l.getD i []
  | [], _, l, h, i, hi => by simp at hi
  | _ :: _, [], l, h, i, hi => by simp [pairsF] at h
  | x :: t, k :: u, l, h, i, hi => by
    simp only [pairsF] at h
    split at h
    case isFalse => simp at h
    next hk =>
    rw [Option.bind_eq_some_iff] at h
    obtain ⟨a, ha, h⟩ := h
    split at h
    case isFalse => simp at h
    next hl =>
    rw [Option.bind_eq_some_iff] at h
    obtain ⟨r, hr, h⟩ := h
    obtain rfl : _ = l := by simpa using h
    match i, hi with
    | 0, _ => exact ⟨a, by simpa using ha, hl, by simp, hk, by simp⟩
    | i + 1, hi =>
      obtain ⟨b, h1, h2, h3, h4, h5⟩ := pairs_at hr i (by simpa using hi)
      exact ⟨b, by simpa using h1, h2, by simpa using h3, by simpa using h4, by simpa using h5⟩
structure TI (w wr : World) (base : Nat) (v : Value) (l : List (List UInt8)) : Prop where
  r : Kd.R Kd.string 9 wr base (fun _ => True) v (l.map ofL)
  bel : Below base w wr
theorem map_join (l : List (List UInt8)) : ((l.map ofL).map (·.data.toList)) = l := by
  rw [List.map_map]
  conv => rhs; rw [← List.map_id l]
  exact List.map_congr_left (fun x _ => rfl)
theorem join_calls (l : List (List UInt8)) (base : Nat) (v : Value) (w : World) (hR : Kd.R Kd.string 9 w base (fun _ => True) v (l.map ofL)) (hl : l.length ≤ 1000000) (hj : (Lib.join l [44]).length ≤ 1000000000) :
    Calls Tryz.prog 58 #[v, .string ⟨#[44]⟩] w fun e w' => e = .returned (.string (ofL (Lib.join l [44]))) ∧ Below w.heap.size w w' := by
  by_cases hn : l = []
  · subst hn
    obtain ⟨A, c, rfl⟩ := Kd.R_slice hR
    exact (Tryz.strings_Join_none A c ⟨#[44]⟩ w).mono fun e w' ⟨h1, h2⟩ => ⟨by rw [h1]; rfl, h2 ▸ Below.refl _ _⟩
  · obtain ⟨A, c, rfl, hlc, hC⟩ := Kd.R_reads hR
    obtain ⟨g, cap, e, hg0, hg1, cells, hcells⟩ := Kd.R_form hR (by rw [List.length_map]; exact List.length_pos_iff.2 hn)
    injection e with e1 e2 e3
    subst e1
    have := Tryz.strings_Join g 0 c (l.map ofL) ⟨#[44]⟩ w (fun j x hj => by
      have hjl : j < (l.map ofL).length := (List.getElem?_eq_some_iff.1 hj).1
      obtain ⟨ad, cs, ea, _, hK, hc0⟩ := Kd.C_get hC (⟨#[]⟩ : ByteArray) (j : Int) (by omega) (by omega)
      injection ea with ea
      subst ea
      obtain rfl : cs = [.string ((l.map ofL).getD j ⟨#[]⟩)] := hK
      have := hc0 0 _ rfl
      rw [List.getD_eq_getElem?_getD, hj] at this
      have e0 : (⟨g, 0, none⟩ : Addr).add ((j : Int).toNat * Kd.string.sz + 0) = ⟨g, 0 + j, none⟩ := by show Addr.add _ (j * 1 + 0) = _; simp [Addr.add]; omega
      rw [e0] at this
      simpa using this) hg1 (by simp; omega) hlc (by rw [map_join]; exact Nat.le_trans hj (by decide))
    refine this.mono fun e w' ⟨h1, h2⟩ => ⟨?_, h2⟩
    rw [h1, map_join]
    rfl
set_option maxRecDepth 100000 in
set_option maxHeartbeats 2000000 in
theorem jtext_calls : ∀ (n : Nat) (x : S28) (r : List UInt8), txF n x = some r → ∀ (A B : Option Addr) (c c' : Nat) (w : World), PTabs w → JC w x A x.f4.length c B x.f5.length c' →
    Calls Tryz.prog 30 #[.agg #[.int .i64 x.f0, .bool x.f1, .bool x.f2.f0, .string x.f2.f1, .int .i64 x.f2.f2, .string x.f3, .slice A x.f4.length c, .slice B x.f5.length c']] w fun e w' => e = .returned (.string (ofL r)) ∧ Below w.heap.size w w'
  | 0, x, r, h => by simp [txF] at h
  | n + 1, x, r, h => by
    intro A B c c' w hT hJ
    have IH := Lib.hid (jtext_calls n)
    have HT := Lib.hid hT
    have HJ := Lib.hid hJ
    have hal := fun o => below_alloc (Below.refl w.heap.size w) o
    have HA := Lib.hid hal
    unfold txF at h
    clear hT hJ hal
    by_cases h1 : x.f0 = 1
    · rw [if_pos h1] at h
      cases hb : x.f1 with
      | true =>
        rw [hb] at h
        obtain rfl : [116, 114, 117, 101] = r := by simpa using h
        clear h
        go_enter Tryz.func30, Tryz.ntmps30
        go_wp2_with fail
        go_ret
        exact ⟨rfl, HA.out _⟩
      | false =>
        rw [hb] at h
        obtain rfl : [102, 97, 108, 115, 101] = r := by simpa using h
        clear h
        go_enter Tryz.func30, Tryz.ntmps30
        go_wp2_with fail
        go_ret
        exact ⟨rfl, HA.out _⟩
    rw [if_neg h1] at h
    have h1' : (x.f0 == 1) = false := by simpa using h1
    by_cases h2 : x.f0 = 2
    · rw [if_pos h2, Option.bind_eq_some_iff] at h
      obtain ⟨b, hb, h⟩ := h
      obtain rfl : b.data.toList = r := by simpa using h
      have HB := Lib.hid hb
      clear h hb h1
      go_enter Tryz.func30, Tryz.ntmps30
      go_wp2_with fail
      refine (Pr.num_Text.calls _ _ _ b _ (HT.out.below (HA.out _)) HB.out).mono ?_
      rintro E w1 ⟨rfl, hB⟩
      have HB1 := Lib.hid ((HA.out _).trans (hB.mono (HA.out _).size))
      go_wp2_with fail
      go_ret
      exact ⟨by rw [ofL_of]; rfl, HB1.out⟩
    rw [if_neg h2] at h
    have h2' : (x.f0 == 2) = false := by simpa using h2
    by_cases h3 : x.f0 = 3
    · rw [if_pos h3] at h
      split at h
      case isFalse => simp at h
      next hl =>
      obtain rfl : quoteL x.f3.data.toList = r := by simpa using h
      have HL := Lib.hid hl
      have HS := Lib.hid (quote_calls x.f3.data.toList hl)
      rw [ofL_of] at HS
      clear h h1 h2 hl
      go_enter Tryz.func30, Tryz.ntmps30
      go_wp2_with fail
      refine (HS.out _).mono ?_
      rintro E w1 ⟨rfl, hB⟩
      have HB1 := Lib.hid ((HA.out _).trans (hB.mono (HA.out _).size))
      go_wp2_with fail
      go_ret
      exact ⟨rfl, HB1.out⟩
    rw [if_neg h3] at h
    have h3' : (x.f0 == 3) = false := by simpa using h3
    by_cases h4 : x.f0 = 4
    · rw [if_pos h4, Option.bind_eq_some_iff] at h
      obtain ⟨l, hit, h⟩ := h
      unfold wrapF at h
      split at h
      case isFalse => simp at h
      next hl =>
      obtain rfl : 91 :: Lib.join l [44] ++ [93] = r := by simpa using h
      have HL := Lib.hid hl
      have HLEN := Lib.hid (items_len hit)
      have HAT := Lib.hid (items_at hit)
      have hn : x.f4.length ≤ 1000000 := by rw [← items_len hit]; exact hl.1
      have h4b : (x.f0 == 4) = true := by simp [h4]
      clear h h1 h2 h3 hl hit h4
      go_enter Tryz.func30, Tryz.ntmps30
      go_wp2_with fail
      have hb0 := HA.out (.cells #[.int .i64 x.f0, .bool x.f1, .bool x.f2.f0, .string x.f2.f1, .int .i64 x.f2.f2, .string x.f3, .slice A x.f4.length c, .slice B x.f5.length c'] 28)
      obtain ⟨w0, hw0⟩ : ∃ w0, w0 = w.alloc (.cells #[.int .i64 x.f0, .bool x.f1, .bool x.f2.f0, .string x.f2.f1, .int .i64 x.f2.f2, .string x.f3, .slice A x.f4.length c, .slice B x.f5.length c'] 28) := ⟨_, rfl⟩
      rw [← hw0] at hb0 ⊢
      have HB0 := Lib.hid hb0
      clear hb0 hw0
      go_loopw [3, 29] (fun v3 vi wr => ∃ (k : Nat) (u : Value), k ≤ x.f4.length ∧ u = v3 ∧ vi = .int .i64 k ∧ Hid (TI w0 wr w0.heap.size u (l.take k))) (fun v3 vi _ => x.f4.length - (intOf vi).toNat)
      case atStart => exact ⟨0, _, by omega, rfl, rfl, Lib.hid ⟨Kd.R_nil _ _ _ _ _, Below.refl _ _⟩⟩
      case round =>
        obtain ⟨k, v3, hk, hu, rfl, HI⟩ := hrel
        subst hu
        have HBW := Lib.hid (HB0.out.trans (HI.out.bel.mono HB0.out.size))
        by_cases hkl : k < x.f4.length
        · obtain ⟨ad, A6, c6, A7, c7, rfl, q0, q1, q2, q3, q4, q5, q6, q7, l6, g6, l7, g7⟩ := at_T28 (Kd.C_below HJ.out.i HBW.out) (k : Int) (by omega) (by omega)
          have hy := HAT.out k hkl
          simp only [rd_T28, Int.toNat_natCast] at q0 q1 q2 q3 q4 q5 q6 q7 l6 g6 l7 g7
          obtain ⟨y, hyy⟩ : ∃ y, y = x.f4.getD k z28 := ⟨_, rfl⟩
          obtain ⟨t, ht⟩ : ∃ t, t = l.getD k [] := ⟨_, rfl⟩
          rw [← hyy] at q0 q1 q2 q3 q4 q5 q6 q7 l6 g6 l7 g7 hy
          rw [← ht] at hy
          have HY := Lib.hid hy
          have HJY := Lib.hid (JC.mk (w := wr) (x := y) (A := A6) (n := y.f4.length) (c := c6) (B := A7) (m := y.f5.length) (c' := c7) rfl l6 g6 rfl l7 g7)
          have HTK : Hid ((l.take (k + 1)).map ofL = (l.take k).map ofL ++ [ofL t]) := Lib.hid (by
            have hkl2 : k < l.length := by rw [HLEN.out]; exact hkl
            rw [List.take_succ_eq_append_getElem hkl2, List.map_append, ht]; simp [hkl2])
          have HLN : Hid ((((l.take k).map ofL).length + 1) * 16 ≤ 140737488355328) := Lib.hid (by have := HL.out.1; simp; omega)
          clear hyy ht hy l6 g6 l7 g7
          have hal := fun o => below_alloc (Below.refl wr.heap.size wr) o
          have HAL := Lib.hid hal
          clear hal
          go_wp2_with fail
          refine (IH.out y t HY.out A6 A7 c6 c7 _ (HT.out.below (HBW.out.trans ((HAL.out _).mono HBW.out.size))) (HJY.out.below (HAL.out _))).mono ?_
          rintro E w1 ⟨rfl, hB⟩
          have hb1 := (HAL.out (.cells #[.int .i64 y.f0, .bool y.f1, .bool y.f2.f0, .string y.f2.f1, .int .i64 y.f2.f2, .string y.f3, .slice A6 y.f4.length c6, .slice A7 y.f5.length c7] 28)).trans (hB.mono (HAL.out _).size)
          have HR1 := Lib.hid (Kd.R_below HI.out.r hb1)
          have HB1 := Lib.hid (HI.out.bel.trans (hb1.mono HI.out.bel.size))
          clear hB hb1 q0 q1 q2 q3 q4 q5 q6 q7
          go_wp2_with (first | ((with_reducible refine gate_builtin (b := .append) (xs := #[.tmp 33, .tmp 36]) rfl ?_); at_builtin; refine Kd.R_append Kd.string (w0 := w0) w0.heap.size rfl (.tmp 33) (.tmp 36) 26 9 (.string ⟨#[]⟩) 16 rfl Tryz.underlying26 info9 rfl (by decide) (by decide) v3 _ (ofL t) [.string (ofL t)] (fun _ => True) (fun _ => False) rfl rfl rfl (fun _ hk => hk.elim) (fun _ _ => trivial) HR1.out HB1.out HB1.out.size HLN.out ?_; intro v9 wa hR9 hB9 hga hat))
          exact ⟨⟨k + 1, _, by omega, rfl, by simp, Lib.hid ⟨by rw [HTK.out]; exact hR9, hB9⟩⟩, by simp [intOf]; omega⟩
        · have : k = x.f4.length := by omega
          subst this
          have HR : Hid (Kd.R Kd.string 9 wr w0.heap.size (fun _ => True) v3 (l.map ofL)) := Lib.hid (by have := HI.out.r; rwa [← HLEN.out, List.take_length] at this)
          go_wp2_with fail
          refine (join_calls l _ v3 wr HR.out HL.out.1 HL.out.2).mono ?_
          rintro E w2 ⟨rfl, hB⟩
          have HB2 := Lib.hid (HBW.out.trans (hB.mono HBW.out.size))
          have HJL := Lib.hid HL.out.2
          obtain ⟨J, hJ⟩ : ∃ J, J = Lib.join l [44] := ⟨_, rfl⟩
          rw [← hJ] at HJL ⊢
          have hz1 : (ofL J).size = J.length := ofL_size J
          have hz2 : (ofL (91 :: J)).size = J.length + 1 := ofL_size _
          have hz3 : J.length ≤ 1000000000 := HJL.out
          have hS1 : (⟨#[91]⟩ : ByteArray) ++ ofL J = ofL (91 :: J) := ofL_app [91] J
          have hS2 : ofL (91 :: J) ++ (⟨#[93]⟩ : ByteArray) = ofL (91 :: J ++ [93]) := ofL_app (91 :: J) [93]
          have HJJ := Lib.hid hJ
          clear hJ hB
          go_wp2_with fail
          go_ret
          rw [← HJJ.out]
          exact ⟨rfl, HB2.out⟩
    rw [if_neg h4] at h
    have h4' : (x.f0 == 4) = false := by simpa using h4
    by_cases h5 : x.f0 = 5
    · rw [if_pos h5, Option.bind_eq_some_iff] at h
      obtain ⟨l, hit, h⟩ := h
      unfold wrapF at h
      split at h
      case isFalse => simp at h
      next hl =>
      obtain rfl : 123 :: Lib.join l [44] ++ [125] = r := by simpa using h
      have HL := Lib.hid hl
      have HLEN := Lib.hid (pairs_len hit)
      have HAT := Lib.hid (pairs_at hit)
      have hn : x.f4.length ≤ 1000000 := by rw [← pairs_len hit]; exact hl.1
      have h5b : (x.f0 == 5) = true := by simp [h5]
      clear h h1 h2 h3 hl hit h4 h5
      go_enter Tryz.func30, Tryz.ntmps30
      go_wp2_with fail
      have hb0 := HA.out (.cells #[.int .i64 x.f0, .bool x.f1, .bool x.f2.f0, .string x.f2.f1, .int .i64 x.f2.f2, .string x.f3, .slice A x.f4.length c, .slice B x.f5.length c'] 28)
      have hk0 := blk_new w (.cells #[.int .i64 x.f0, .bool x.f1, .bool x.f2.f0, .string x.f2.f1, .int .i64 x.f2.f2, .string x.f3, .slice A x.f4.length c, .slice B x.f5.length c'] 28)
      have hs0 : w.heap.size < (w.alloc (.cells #[.int .i64 x.f0, .bool x.f1, .bool x.f2.f0, .string x.f2.f1, .int .i64 x.f2.f2, .string x.f3, .slice A x.f4.length c, .slice B x.f5.length c'] 28)).heap.size := by simp
      obtain ⟨w0, hw0⟩ : ∃ w0, w0 = w.alloc (.cells #[.int .i64 x.f0, .bool x.f1, .bool x.f2.f0, .string x.f2.f1, .int .i64 x.f2.f2, .string x.f3, .slice A x.f4.length c, .slice B x.f5.length c'] 28) := ⟨_, rfl⟩
      rw [← hw0] at hb0 hk0 hs0 ⊢
      have HB0 := Lib.hid hb0
      have HK0 := Lib.hid hk0
      clear hb0 hw0 hk0 hs0
      go_loopw [3, 48] (fun v3 vi wr => ∃ (k : Nat) (u : Value), k ≤ x.f4.length ∧ u = v3 ∧ vi = .int .i64 k ∧ Hid (TI w0 wr w0.heap.size u (l.take k))) (fun v3 vi _ => x.f4.length - (intOf vi).toNat)
      case atStart => exact ⟨0, _, by omega, rfl, rfl, Lib.hid ⟨Kd.R_nil _ _ _ _ _, Below.refl _ _⟩⟩
      case round =>
        obtain ⟨k, v3, hk, hu, rfl, HI⟩ := hrel
        subst hu
        have HBW := Lib.hid (HB0.out.trans (HI.out.bel.mono HB0.out.size))
        by_cases hkl : k < x.f4.length
        · obtain ⟨ad, A6, c6, A7, c7, rfl, q0, q1, q2, q3, q4, q5, q6, q7, l6, g6, l7, g7⟩ := at_T28 (Kd.C_below HJ.out.i HBW.out) (k : Int) (by omega) (by omega)
          obtain ⟨t, hy, htl, hkk, hkey, hlk⟩ := HAT.out k hkl
          simp only [rd_T28, Int.toNat_natCast] at q0 q1 q2 q3 q4 q5 q6 q7 l6 g6 l7 g7
          obtain ⟨bd, cs, rfl, _, hcs, hbd⟩ := Kd.C_get (Kd.C_below HJ.out.s HBW.out) (⟨#[]⟩ : ByteArray) (k : Int) (by omega) (by omega)
          obtain rfl : cs = [.string (x.f5.getD k ⟨#[]⟩)] := hcs
          have hbd : wr.cell? (bd.add k) = some (.string (x.f5.getD k ⟨#[]⟩)) := by have := hbd 0 _ rfl; rwa [show (k : Int).toNat * Kd.string.sz + 0 = k by show k * 1 + 0 = k; omega] at this
          obtain ⟨y, hyy⟩ : ∃ y, y = x.f4.getD k z28 := ⟨_, rfl⟩
          obtain ⟨key, hke⟩ : ∃ key, key = (x.f5.getD k ⟨#[]⟩).data.toList := ⟨_, rfl⟩
          have hkf : x.f5.getD k ⟨#[]⟩ = ofL key := by rw [hke, ofL_of]
          rw [← hyy] at q0 q1 q2 q3 q4 q5 q6 q7 l6 g6 l7 g7 hy
          rw [hkf] at hbd
          rw [← hke] at hkey hlk
          have HQ := Lib.hid (quote_calls key hkey)
          obtain ⟨Q, hQ⟩ : ∃ Q, Q = quoteL key := ⟨_, rfl⟩
          have hQl : Q.length ≤ 6000002 := by rw [hQ]; unfold quoteL; have := quoteF_len key; simp only [List.length_append, List.length_cons, List.length_nil]; omega
          rw [← hQ] at HQ hlk
          have HY := Lib.hid hy
          have HJY0 := JC.mk (w := wr) (x := y) (A := A6) (n := y.f4.length) (c := c6) (B := A7) (m := y.f5.length) (c' := c7) rfl l6 g6 rfl l7 g7
          have HTK : Hid ((l.take (k + 1)).map ofL = (l.take k).map ofL ++ [ofL (Q ++ [58] ++ t)]) := Lib.hid (by
            have hkl2 : k < l.length := by rw [HLEN.out]; exact hkl
            rw [List.take_succ_eq_append_getElem hkl2, List.map_append, hlk]; simp [hkl2])
          have HLN : Hid ((((l.take k).map ofL).length + 1) * 16 ≤ 140737488355328) := Lib.hid (by have := HL.out.1; simp; omega)
          have hal := fun o => below_alloc (Below.refl wr.heap.size wr) o
          have hWk := blk_new wr (.cells #[.int .i64 y.f0, .bool y.f1, .bool y.f2.f0, .string y.f2.f1, .int .i64 y.f2.f2, .string y.f3, .slice A6 y.f4.length c6, .slice A7 y.f5.length c7] 28)
          have hWs : (wr.alloc (.cells #[.int .i64 y.f0, .bool y.f1, .bool y.f2.f0, .string y.f2.f1, .int .i64 y.f2.f2, .string y.f3, .slice A6 y.f4.length c6, .slice A7 y.f5.length c7] 28)).heap.size = wr.heap.size + 1 := by simp
          have hgW : w.heap.size < wr.heap.size := Nat.lt_of_lt_of_le (blk_lt HK0.out) HI.out.bel.size
          have hk7 : wr.cell? ⟨w.heap.size, 7, none⟩ = some (.slice (some bd) x.f5.length c') := (blk_cell (thru HK0.out HI.out.bel) 7).trans rfl
          have HNE : Hid (some wr.heap.size ≠ v3.ownBlock) := Lib.hid (fun h0 => by
            have := (Kd.R_bound HI.out.r).1 wr.heap.size h0.symm
            omega)
          have HKD : Hid (∀ wa : World, Below w.heap.size w wa → wa.cell? (bd.add k) = some (.string (ofL key))) := Lib.hid (fun wa hb => by
            obtain ⟨bd', cs', e', _, hcs', hbd'⟩ := Kd.C_get (Kd.C_below HJ.out.s hb) (⟨#[]⟩ : ByteArray) (k : Int) (by omega) (by omega)
            injection e' with e'
            subst e'
            obtain rfl : cs' = [.string (x.f5.getD k ⟨#[]⟩)] := hcs'
            have := hbd' 0 _ rfl
            rw [show (k : Int).toNat * Kd.string.sz + 0 = k by show k * 1 + 0 = k; omega, hkf] at this
            exact this)
          have hall : ∀ w' : World, Below (wr.alloc (.cells #[.int .i64 y.f0, .bool y.f1, .bool y.f2.f0, .string y.f2.f1, .int .i64 y.f2.f2, .string y.f3, .slice A6 y.f4.length c6, .slice A7 y.f5.length c7] 28)).heap.size (wr.alloc (.cells #[.int .i64 y.f0, .bool y.f1, .bool y.f2.f0, .string y.f2.f1, .int .i64 y.f2.f2, .string y.f3, .slice A6 y.f4.length c6, .slice A7 y.f5.length c7] 28)) w' → w'.cell? ⟨w.heap.size, 7, none⟩ = some (.slice (some bd) x.f5.length c') ∧ w'.cell? (bd.add k) = some (.string (ofL key)) ∧ w'.cell? ⟨wr.heap.size, 0, none⟩ = some (.int .i64 y.f0) ∧ w'.cell? ⟨wr.heap.size, 1, none⟩ = some (.bool y.f1) ∧ w'.cell? ⟨wr.heap.size, 2, none⟩ = some (.bool y.f2.f0) ∧ w'.cell? ⟨wr.heap.size, 3, none⟩ = some (.string y.f2.f1) ∧ w'.cell? ⟨wr.heap.size, 4, none⟩ = some (.int .i64 y.f2.f2) ∧ w'.cell? ⟨wr.heap.size, 5, none⟩ = some (.string y.f3) ∧ w'.cell? ⟨wr.heap.size, 6, none⟩ = some (.slice A6 y.f4.length c6) ∧ w'.cell? ⟨wr.heap.size, 7, none⟩ = some (.slice A7 y.f5.length c7) := fun w' hb => by
            have h1 := (hal (.cells #[.int .i64 y.f0, .bool y.f1, .bool y.f2.f0, .string y.f2.f1, .int .i64 y.f2.f2, .string y.f3, .slice A6 y.f4.length c6, .slice A7 y.f5.length c7] 28)).trans (hb.mono (hal _).size)
            have h2 := thru hWk hb
            exact ⟨pw_cell_below h1 hk7, pw_cell_below h1 hbd, (blk_cell h2 0).trans rfl, (blk_cell h2 1).trans rfl, (blk_cell h2 2).trans rfl, (blk_cell h2 3).trans rfl, (blk_cell h2 4).trans rfl, (blk_cell h2 5).trans rfl, (blk_cell h2 6).trans rfl, (blk_cell h2 7).trans rfl⟩
          have hst := hall _ (below_drew1 (Below.refl _ _))
          have HSB0 := Lib.hid hall
          have HAL := Lib.hid hal
          have HKB := Lib.hid (And.intro hk7 (And.intro hbd (And.intro hWk hgW)))
          have hz1 : (ofL Q).size = Q.length := ofL_size _
          have hz2 : (ofL (Q ++ [58])).size = Q.length + 1 := by rw [ofL_size]; simp
          have hz3 : (ofL t).size = t.length := ofL_size _
          have hz4 : ¬ (9223372036854775807 < Q.length + 1) := by omega
          have hz5 : ¬ (9223372036854775807 < Q.length + 1 + t.length) := by omega
          have hS1 : ofL Q ++ (⟨#[58]⟩ : ByteArray) = ofL (Q ++ [58]) := ofL_app Q [58]
          have hS2 : ofL (Q ++ [58]) ++ ofL t = ofL (Q ++ [58] ++ t) := ofL_app _ _
          clear hyy hke hkf hQ hy hbd l6 g6 l7 g7 hal hWk hWs hgW hk7 hall hlk hkey htl
          go_upto_region 22 with fail
          refine start_ (n := 14) (S := fun w' => w'.cell? ⟨w.heap.size, 7, none⟩ = some (.slice (some bd) x.f5.length c') ∧ w'.cell? (bd.add k) = some (.string (ofL key)) ∧ w'.cell? ⟨wr.heap.size, 0, none⟩ = some (.int .i64 y.f0) ∧ w'.cell? ⟨wr.heap.size, 1, none⟩ = some (.bool y.f1) ∧ w'.cell? ⟨wr.heap.size, 2, none⟩ = some (.bool y.f2.f0) ∧ w'.cell? ⟨wr.heap.size, 3, none⟩ = some (.string y.f2.f1) ∧ w'.cell? ⟨wr.heap.size, 4, none⟩ = some (.int .i64 y.f2.f2) ∧ w'.cell? ⟨wr.heap.size, 5, none⟩ = some (.string y.f3) ∧ w'.cell? ⟨wr.heap.size, 6, none⟩ = some (.slice A6 y.f4.length c6) ∧ w'.cell? ⟨wr.heap.size, 7, none⟩ = some (.slice A7 y.f5.length c7)) (ds := []) #[false, false, false, false, false, false, false, false, false, false, false, false, false, false] (by kernel_rfl) rfl rfl hst (fun hHeld => ?_)
          have hWd := (HAL.out (.cells #[.int .i64 y.f0, .bool y.f1, .bool y.f2.f0, .string y.f2.f1, .int .i64 y.f2.f2, .string y.f3, .slice A6 y.f4.length c6, .slice A7 y.f5.length c7] 28)).trans ((below_drew1 (Below.refl (wr.alloc (.cells #[.int .i64 y.f0, .bool y.f1, .bool y.f2.f0, .string y.f2.f1, .int .i64 y.f2.f2, .string y.f3, .slice A6 y.f4.length c6, .slice A7 y.f5.length c7] 28)).heap.size (wr.alloc (.cells #[.int .i64 y.f0, .bool y.f1, .bool y.f2.f0, .string y.f2.f1, .int .i64 y.f2.f2, .string y.f3, .slice A6 y.f4.length c6, .slice A7 y.f5.length c7] 28)))).mono (HAL.out _).size)
          have hSd : ∀ w', Below (wr.alloc (.cells #[.int .i64 y.f0, .bool y.f1, .bool y.f2.f0, .string y.f2.f1, .int .i64 y.f2.f2, .string y.f3, .slice A6 y.f4.length c6, .slice A7 y.f5.length c7] 28)).drew.heap.size (wr.alloc (.cells #[.int .i64 y.f0, .bool y.f1, .bool y.f2.f0, .string y.f2.f1, .int .i64 y.f2.f2, .string y.f3, .slice A6 y.f4.length c6, .slice A7 y.f5.length c7] 28)).drew w' → w'.cell? ⟨w.heap.size, 7, none⟩ = some (.slice (some bd) x.f5.length c') ∧ w'.cell? (bd.add k) = some (.string (ofL key)) ∧ w'.cell? ⟨wr.heap.size, 0, none⟩ = some (.int .i64 y.f0) ∧ w'.cell? ⟨wr.heap.size, 1, none⟩ = some (.bool y.f1) ∧ w'.cell? ⟨wr.heap.size, 2, none⟩ = some (.bool y.f2.f0) ∧ w'.cell? ⟨wr.heap.size, 3, none⟩ = some (.string y.f2.f1) ∧ w'.cell? ⟨wr.heap.size, 4, none⟩ = some (.int .i64 y.f2.f2) ∧ w'.cell? ⟨wr.heap.size, 5, none⟩ = some (.string y.f3) ∧ w'.cell? ⟨wr.heap.size, 6, none⟩ = some (.slice A6 y.f4.length c6) ∧ w'.cell? ⟨wr.heap.size, 7, none⟩ = some (.slice A7 y.f5.length c7) := fun w' hb => HSB0.out w' ((below_drew1 (Below.refl _ _)).trans (hb.mono (Nat.le_refl _)))
          have hEd : (wr.alloc (.cells #[.int .i64 y.f0, .bool y.f1, .bool y.f2.f0, .string y.f2.f1, .int .i64 y.f2.f2, .string y.f3, .slice A6 y.f4.length c6, .slice A7 y.f5.length c7] 28)).drew.heap[wr.heap.size]? = some (.cells #[.int .i64 y.f0, .bool y.f1, .bool y.f2.f0, .string y.f2.f1, .int .i64 y.f2.f2, .string y.f3, .slice A6 y.f4.length c6, .slice A7 y.f5.length c7] 28 (0, 0)) := blk_drew HKB.out.2.2.1
          generalize (wr.alloc (.cells #[.int .i64 y.f0, .bool y.f1, .bool y.f2.f0, .string y.f2.f1, .int .i64 y.f2.f2, .string y.f3, .slice A6 y.f4.length c6, .slice A7 y.f5.length c7] 28)).drew = wd at hWd hSd hEd hHeld ⊢
          have HBX : Hid (∀ w', Below wd.heap.size wd w' → Below w.heap.size w w') := Lib.hid (fun w' hb => HBW.out.trans ((hWd.trans (hb.mono hWd.size)).mono HBW.out.size))
          have HSB := Lib.hid hSd
          have HJY := Lib.hid (HJY0.below hWd)
          have HI : Hid (TI w0 wd w0.heap.size v3 (l.take k)) := Lib.hid ⟨Kd.R_below HI.out.r hWd, HI.out.bel.trans (hWd.mono HI.out.bel.size)⟩
          have HBd := Lib.hid (Below.refl wd.heap.size wd)
          have HSG : Hid (∀ w2 wa : World, Below wd.heap.size wd w2 → Below w0.heap.size w0 wa → w2.grownBy wa v3.ownBlock → (fun w' : World => w'.cell? ⟨w.heap.size, 7, none⟩ = some (.slice (some bd) x.f5.length c') ∧ w'.cell? (bd.add k) = some (.string (ofL key)) ∧ w'.cell? ⟨wr.heap.size, 0, none⟩ = some (.int .i64 y.f0) ∧ w'.cell? ⟨wr.heap.size, 1, none⟩ = some (.bool y.f1) ∧ w'.cell? ⟨wr.heap.size, 2, none⟩ = some (.bool y.f2.f0) ∧ w'.cell? ⟨wr.heap.size, 3, none⟩ = some (.string y.f2.f1) ∧ w'.cell? ⟨wr.heap.size, 4, none⟩ = some (.int .i64 y.f2.f2) ∧ w'.cell? ⟨wr.heap.size, 5, none⟩ = some (.string y.f3) ∧ w'.cell? ⟨wr.heap.size, 6, none⟩ = some (.slice A6 y.f4.length c6) ∧ w'.cell? ⟨wr.heap.size, 7, none⟩ = some (.slice A7 y.f5.length c7)) wa) := Lib.hid (fun w2 wa hb hB9 hga => by
            have h2 := thru hEd hb
            have h3 : wa.heap[wr.heap.size]? = some (.cells #[.int .i64 y.f0, .bool y.f1, .bool y.f2.f0, .string y.f2.f1, .int .i64 y.f2.f2, .string y.f3, .slice A6 y.f4.length c6, .slice A7 y.f5.length c7] 28 (0, 0)) := (hga.block wr.heap.size (blk_lt h2) HNE.out).trans h2
            have h4 := thru HK0.out hB9
            exact ⟨(blk_cell h4 7).trans rfl, HKD.out wa (HB0.out.trans (hB9.mono HB0.out.size)), (blk_cell h3 0).trans rfl, (blk_cell h3 1).trans rfl, (blk_cell h3 2).trans rfl, (blk_cell h3 3).trans rfl, (blk_cell h3 4).trans rfl, (blk_cell h3 5).trans rfl, (blk_cell h3 6).trans rfl, (blk_cell h3 7).trans rfl⟩)
          clear hWd hSd hEd hst HSB0 HAL HKB HJY0
          refine pure_ (i := 0) (N := some 53) (v := ?_) (a' := ?_) #[true, false, false, false, false, false, false, false, false, false, false, false, false, false] rfl rfl (by kernel_rfl) (fun _ _ _ h => h) (Or.inl ⟨by rfl, ?_⟩) ?_ ?_
          rotate_left
          · intro w'
            go_simp
            with_reducible rfl
          rotate_left
          · simp only [Act.put, List.setIfInBounds_toArray, List.set_cons_zero, List.set_cons_succ, i64_w, i32_w]
            rfl
          refine pure_ (i := 1) (N := some 54) (v := ?_) (a' := ?_) #[true, true, false, false, false, false, false, false, false, false, false, false, false, false] rfl rfl (by kernel_rfl) (fun _ _ _ h => h) (Or.inl ⟨by rfl, ?_⟩) ?_ ?_
          rotate_left
          · intro w'
            go_simp
            with_reducible rfl
          rotate_left
          · simp only [Act.put, List.setIfInBounds_toArray, List.set_cons_zero, List.set_cons_succ, i64_w, i32_w]
            rfl
          refine take_ (i := 2) (N := some 55) (v := ?_) (a' := ?_) #[true, true, true, false, false, false, false, false, false, false, false, false, false, false] rfl rfl (by kernel_rfl) (fun _ _ _ h => h) (Or.inl ⟨by rfl, ?_⟩) hHeld ?_ ?_
          rotate_left
          · rintro w' ⟨s0, s1, s2, s3, s4, s5, s6, s7, s8, s9⟩
            go_simp
            with_reducible rfl
          rotate_left
          · simp only [Act.put, List.setIfInBounds_toArray, List.set_cons_zero, List.set_cons_succ, i64_w, i32_w]
            rfl
          refine pure_ (i := 3) (N := some 56) (v := ?_) (a' := ?_) #[true, true, true, true, false, false, false, false, false, false, false, false, false, false] rfl rfl (by kernel_rfl) (fun _ _ _ h => h) (Or.inl ⟨by rfl, ?_⟩) ?_ ?_
          rotate_left
          · intro w'
            go_simp
            with_reducible rfl
          rotate_left
          · simp only [Act.put, List.setIfInBounds_toArray, List.set_cons_zero, List.set_cons_succ, i64_w, i32_w]
            rfl
          refine pure_ (i := 4) (N := some 57) (v := ?_) (a' := ?_) #[true, true, true, true, true, false, false, false, false, false, false, false, false, false] rfl rfl (by kernel_rfl) (fun _ _ _ h => h) (Or.inl ⟨by rfl, ?_⟩) ?_ ?_
          rotate_left
          · intro w'
            go_simp
            with_reducible rfl
          rotate_left
          · simp only [Act.put, List.setIfInBounds_toArray, List.set_cons_zero, List.set_cons_succ, i64_w, i32_w]
            rfl
          refine take_ (i := 5) (N := some 58) (v := ?_) (a' := ?_) #[true, true, true, true, true, true, false, false, false, false, false, false, false, false] rfl rfl (by kernel_rfl) (fun _ _ _ h => h) (Or.inl ⟨by rfl, ?_⟩) hHeld ?_ ?_
          rotate_left
          · rintro w' ⟨s0, s1, s2, s3, s4, s5, s6, s7, s8, s9⟩
            go_simp
            with_reducible rfl
          rotate_left
          · simp only [Act.put, List.setIfInBounds_toArray, List.set_cons_zero, List.set_cons_succ, i64_w, i32_w]
            rfl
          refine take_ (i := 8) (N := some 61) (v := ?_) (a' := ?_) #[true, true, true, true, true, true, false, false, true, false, false, false, false, false] rfl rfl (by kernel_rfl) (fun _ _ _ h => h) (Or.inl ⟨by rfl, ?_⟩) hHeld ?_ ?_
          rotate_left
          · rintro w' ⟨s0, s1, s2, s3, s4, s5, s6, s7, s8, s9⟩
            go_simp
            with_reducible rfl
          rotate_left
          · simp only [Act.put, List.setIfInBounds_toArray, List.set_cons_zero, List.set_cons_succ, i64_w, i32_w]
            rfl
          refine one_ (i := 6) (N := some 59) #[true, true, true, true, true, true, true, false, true, false, false, false, false, false] rfl rfl (by kernel_rfl) (by decide) (fun K hK => ?_)
          refine call_ 57 #[.string (ofL key)] (by rfl) rfl ?_ ?_
          · go_simp
          refine (HQ.out wd).mono ?_
          rintro E w1 ⟨rfl, hB⟩
          have HB1 := Lib.hid (HBd.out.trans (hB.mono HBd.out.size))
          refine ⟨_, rfl, hK.out _ _ (HSB.out _ HB1.out) (fun hHeld => ?_)⟩
          clear hK K hB
          refine norm_ (a' := ?_) ?_ ?_
          rotate_left
          · show Act.put _ (some 59) _ = _
            simp only [Act.put, List.setIfInBounds_toArray, List.set_cons_zero, List.set_cons_succ, i64_w, i32_w]
            rfl
          refine pure_ (i := 7) (N := some 60) (v := ?_) (a' := ?_) #[true, true, true, true, true, true, true, true, true, false, false, false, false, false] rfl rfl (by kernel_rfl) (fun _ _ _ h => h) (Or.inl ⟨by rfl, ?_⟩) ?_ ?_
          rotate_left
          · intro w'
            go_simp
            with_reducible rfl
          rotate_left
          · simp only [Act.put, List.setIfInBounds_toArray, List.set_cons_zero, List.set_cons_succ, i64_w, i32_w]
            rfl
          refine one_ (i := 9) (N := some 62) #[true, true, true, true, true, true, true, true, true, true, false, false, false, false] rfl rfl (by kernel_rfl) (by decide) (fun K hK => ?_)
          refine call_ 30 #[.agg #[.int .i64 y.f0, .bool y.f1, .bool y.f2.f0, .string y.f2.f1, .int .i64 y.f2.f2, .string y.f3, .slice A6 y.f4.length c6, .slice A7 y.f5.length c7]] (by rfl) rfl ?_ ?_
          · go_simp
          refine (IH.out y t HY.out A6 A7 c6 c7 w1 (HT.out.below (HBX.out _ HB1.out)) (HJY.out.below HB1.out)).mono ?_
          rintro E w2 ⟨rfl, hB⟩
          have HB2 := Lib.hid (HB1.out.trans (hB.mono HB1.out.size))
          refine ⟨_, rfl, hK.out _ _ (HSB.out _ HB2.out) (fun hHeld => ?_)⟩
          clear hK K hB
          refine norm_ (a' := ?_) ?_ ?_
          rotate_left
          · show Act.put _ (some 62) _ = _
            simp only [Act.put, List.setIfInBounds_toArray, List.set_cons_zero, List.set_cons_succ, i64_w, i32_w]
            rfl
          refine pure_ (i := 10) (N := some 63) (v := ?_) (a' := ?_) #[true, true, true, true, true, true, true, true, true, true, true, false, false, false] rfl rfl (by kernel_rfl) (fun _ _ _ h => h) (Or.inl ⟨by rfl, ?_⟩) ?_ ?_
          rotate_left
          · intro w'
            go_simp
            with_reducible rfl
          rotate_left
          · simp only [Act.put, List.setIfInBounds_toArray, List.set_cons_zero, List.set_cons_succ, i64_w, i32_w]
            rfl
          refine one_ (i := 11) (N := some 64) #[true, true, true, true, true, true, true, true, true, true, true, true, false, false] rfl rfl (by kernel_rfl) (by decide) (fun K hK => ?_)
          refine value_ (v := .slice (some ⟨w2.heap.size, 0, none⟩) 1 1) (w1 := w2.alloc (.cells #[.string (ofL (Q ++ [58] ++ t))] 9)) (by rfl) rfl ?_ ?_
          · go_simp
          refine hK.out _ _ (HSB.out _ (below_alloc HB2.out _)) (fun hHeld => ?_)
          clear hK K
          refine norm_ (a' := ?_) ?_ ?_
          rotate_left
          · show Act.put _ (some 64) _ = _
            simp only [Act.put, List.setIfInBounds_toArray, List.set_cons_zero, List.set_cons_succ, i64_w, i32_w]
            rfl
          refine one_ (i := 12) (N := some 65) #[true, true, true, true, true, true, true, true, true, true, true, true, true, false] rfl rfl (by kernel_rfl) (by decide) (fun K hK => ?_)
          refine Kd.R_append_step Kd.string (w0 := w0) w0.heap.size (by rfl) (.tmp 53) (.tmp 64) 26 9 (.string ⟨#[]⟩) 16 rfl Tryz.underlying26 info9 rfl (by decide) (by decide) v3 _ (ofL (Q ++ [58] ++ t)) [.string (ofL (Q ++ [58] ++ t))] (fun _ => True) (fun _ => False) rfl rfl rfl (fun _ hk => hk.elim) (fun _ _ => trivial) (Kd.R_below HI.out.r HB2.out) (HI.out.bel.trans (HB2.out.mono HI.out.bel.size)) (Nat.le_trans HI.out.bel.size HB2.out.size) HLN.out ?_
          intro v9 wa hR9 hB9 hga hat
          refine hK.out _ _ (HSG.out _ _ HB2.out hB9 hga) (fun hHeld => ?_)
          clear hK K
          refine norm_ (a' := ?_) ?_ ?_
          rotate_left
          · show Act.put _ (some 65) _ = _
            simp only [Act.put, List.setIfInBounds_toArray, List.set_cons_zero, List.set_cons_succ, i64_w, i32_w]
            rfl
          refine pure_ (i := 13) (N := some 3) (v := ?_) (a' := ?_) #[true, true, true, true, true, true, true, true, true, true, true, true, true, true] rfl rfl (by kernel_rfl) (fun _ _ _ h => h) (Or.inl ⟨by rfl, ?_⟩) ?_ ?_
          rotate_left
          · intro w'
            go_simp
            with_reducible rfl
          rotate_left
          · simp only [Act.put, List.setIfInBounds_toArray, List.set_cons_zero, List.set_cons_succ, i64_w, i32_w]
            rfl
          refine done_ (by kernel_rfl) ?_
          clear hz1 hz2 hz3 hz4 hz5 hS1 hS2
          go_wp2_with fail
          exact ⟨⟨k + 1, _, by omega, rfl, by simp, Lib.hid ⟨by rw [HTK.out]; exact hR9, hB9⟩⟩, by simp [intOf]; omega⟩
        · have : k = x.f4.length := by omega
          subst this
          have HR : Hid (Kd.R Kd.string 9 wr w0.heap.size (fun _ => True) v3 (l.map ofL)) := Lib.hid (by have := HI.out.r; rwa [← HLEN.out, List.take_length] at this)
          go_wp2_with fail
          refine (join_calls l _ v3 wr HR.out HL.out.1 HL.out.2).mono ?_
          rintro E w2 ⟨rfl, hB⟩
          have HB2 := Lib.hid (HBW.out.trans (hB.mono HBW.out.size))
          have HJL := Lib.hid HL.out.2
          obtain ⟨J, hJ⟩ : ∃ J, J = Lib.join l [44] := ⟨_, rfl⟩
          rw [← hJ] at HJL ⊢
          have hz1 : (ofL J).size = J.length := ofL_size J
          have hz2 : (ofL (123 :: J)).size = J.length + 1 := ofL_size _
          have hz3 : J.length ≤ 1000000000 := HJL.out
          have hS1 : (⟨#[123]⟩ : ByteArray) ++ ofL J = ofL (123 :: J) := ofL_app [123] J
          have hS2 : ofL (123 :: J) ++ (⟨#[125]⟩ : ByteArray) = ofL (123 :: J ++ [125]) := ofL_app (123 :: J) [125]
          have HJJ := Lib.hid hJ
          clear hJ hB
          go_wp2_with fail
          go_ret
          rw [← HJJ.out]
          exact ⟨rfl, HB2.out⟩
    rw [if_neg h5] at h
    have h5' : (x.f0 == 5) = false := by simpa using h5
    obtain rfl : [110, 117, 108, 108] = r := by simpa using h
    clear h h1 h2 h3 h4 h5
    go_enter Tryz.func30, Tryz.ntmps30
    go_wp2_with fail
    go_ret
    exact ⟨rfl, HA.out _⟩
end Js
end Go.Proofs.YtapcpndplnkfjaaGreatDoor
namespace Go.Proofs.YtapcpndplnkfjaaGreatDoor
open Go.RowKit Go.Proofs.YtapcpndplnkfjaaGreatDoorW.PrintWords Go.Proofs.YtapcpndplnkfjaaGreatDoorW.PrintLast Go.Proofs.YtapcpndplnkfjaaGreatDoorW.PrintMore
set_option linter.unusedVariables false
set_option linter.unusedSimpArgs false
namespace Js
theorem jparseR (s : List UInt8) (w : World) (hT : Tabs w) (x : S28) (e : Int) (h : pv s = (x, e)) :
    Calls Tryz.prog 16 #[.string (ofL s)] w fun E w' => ∃ A c B c', E = .returned (.tuple #[.agg #[.int .i64 x.f0, .bool x.f1, .bool x.f2.f0, .string x.f2.f1, .int .i64 x.f2.f2, .string x.f3, .slice A x.f4.length c, .slice B x.f5.length c'], .int .i64 e]) ∧
      JC w' x A x.f4.length c B x.f5.length c' ∧ Kd.string.R 9 w' w.heap.size (fun _ => True) (.slice B x.f5.length c') x.f5 ∧ Below w.heap.size w w' := by
  have hx : x = (parseV (fvN 17) s).1 := by rw [show parseV (fvN 17) s = (x, e) from h]
  have he : e = (parseV (fvN 17) s).2 := by rw [show parseV (fvN 17) s = (x, e) from h]
  subst hx he
  refine (json_calls s w hT).mono fun E w' ⟨v, h1, ⟨cs, h2, h3⟩, h4⟩ => ?_
  obtain ⟨v6, v7, rfl, g6, g7⟩ := k28_openM h3
  obtain ⟨A, c, rfl, hl6, h6⟩ := Kd.R_reads g6
  obtain ⟨B, c', rfl, hl7, h7⟩ := Kd.R_reads g7
  exact ⟨A, c, B, c', by rw [h1, h2], ⟨rfl, hl6, h6, rfl, hl7, h7⟩, Kd.R_mono g7 (fun _ _ => trivial), h4⟩
theorem find_calls (x : S28) (key : ByteArray) (h5 : x.f0 = 5) (v6 v7 : Value) (base : Nat) (w : World) (hR : Kd.string.R 9 w base (fun _ => True) v7 x.f5) (hl : x.f5.length ≤ 1000000) :
    Calls Tryz.prog 33 #[.agg #[.int .i64 x.f0, .bool x.f1, .bool x.f2.f0, .string x.f2.f1, .int .i64 x.f2.f2, .string x.f3, v6, v7], .string key] w fun e w' => e = .returned (.tuple #[.int .i64 (pos x.f5 key : Nat), .bool (has x.f5 key)]) ∧ Below w.heap.size w w' := by
  have h5b : (x.f0 != 5) = false := by simp [h5]
  have hal := fun o => below_alloc (Below.refl w.heap.size w) o
  have HA := Lib.hid hal
  have HS := Lib.hid (fun o => search_calls key (Kd.R_below hR (hal o)) hl)
  obtain ⟨A, c, rfl⟩ := Kd.R_slice hR
  clear hR hal h5 hl
  go_enter Tryz.func33, Tryz.ntmps33
  go_wp2_with fail
  refine (HS.out _).mono ?_
  rintro E w1 ⟨rfl, q, rfl⟩
  go_wp2_with fail
  go_ret2
  exact ⟨rfl, pw_below_drewN (HA.out _) _⟩
end Js
end Go.Proofs.YtapcpndplnkfjaaGreatDoor
namespace Go.Proofs.YtapcpndplnkfjaaGreatDoor.Pr
open Go.RowKit Go.Proofs.YtapcpndplnkfjaaGreatDoorW.PrintWords Go.Proofs.YtapcpndplnkfjaaGreatDoorW.PrintLast Go.Proofs.YtapcpndplnkfjaaGreatDoorW.PrintMore
attribute [local go_sem] max2_int min2_int max_two min_two max_three min_three max_four min_four
set_option linter.unusedVariables false
set_option linter.unusedSimpArgs false
end Go.Proofs.YtapcpndplnkfjaaGreatDoor.Pr
namespace Go.Proofs.YtapcpndplnkfjaaGreatDoor.Pr
open Go.RowKit Go.Proofs.YtapcpndplnkfjaaGreatDoorW.PrintWords Go.Proofs.YtapcpndplnkfjaaGreatDoorW.PrintLast Go.Proofs.YtapcpndplnkfjaaGreatDoorW.PrintMore
attribute [local go_sem] max2_int min2_int max_two min_two max_three min_three max_four min_four
set_option linter.unusedVariables false
set_option linter.unusedSimpArgs false
end Go.Proofs.YtapcpndplnkfjaaGreatDoor.Pr
namespace Go.Proofs.YtapcpndplnkfjaaGreatDoor.Pr
open Go.RowKit Go.Proofs.YtapcpndplnkfjaaGreatDoorW.PrintWords Go.Proofs.YtapcpndplnkfjaaGreatDoorW.PrintLast Go.Proofs.YtapcpndplnkfjaaGreatDoorW.PrintMore
attribute [local go_sem] max2_int min2_int max_two min_two max_three min_three max_four min_four
set_option linter.unusedVariables false
set_option linter.unusedSimpArgs false
end Go.Proofs.YtapcpndplnkfjaaGreatDoor.Pr
namespace Go.Proofs.YtapcpndplnkfjaaGreatDoor.Pr
open Go.RowKit Go.Proofs.YtapcpndplnkfjaaGreatDoorW.PrintWords Go.Proofs.YtapcpndplnkfjaaGreatDoorW.PrintLast Go.Proofs.YtapcpndplnkfjaaGreatDoorW.PrintMore
attribute [local go_sem] max2_int min2_int max_two min_two max_three min_three max_four min_four
set_option linter.unusedVariables false
set_option linter.unusedSimpArgs false
end Go.Proofs.YtapcpndplnkfjaaGreatDoor.Pr
namespace Go.Proofs.YtapcpndplnkfjaaGreatDoor
open Go.RowKit Go.Proofs.YtapcpndplnkfjaaGreatDoorW.PrintWords Pr
theorem w1 (i n : Nat) (h : i ≤ n) (hn : n ≤ 1000000000000000000) : wrap64 ((i : Int) + 1) = ((i + 1 : Nat) : Int) := by unfold wrap64; omega
end Go.Proofs.YtapcpndplnkfjaaGreatDoor
namespace Go.Proofs.YtapcpndplnkfjaaGreatDoor
open Go.RowKit Go.Proofs.YtapcpndplnkfjaaGreatDoorW.PrintWords Pr
def NumP.text (n : NumP.NumV) : List UInt8 := if n.2.1 = [] then [48] else NumP.sgn n.1 ++ n.2.1 ++ (if n.2.2 = 0 then [] else 101 :: Lib.itoa n.2.2)
theorem right_parts {d : Bool} {D : List UInt8} {e : Int} (h : NumP.right (d, D, e) = true) (h0 : D ≠ []) : D.all NumP.isD = true ∧ D.head? ≠ some 48 ∧ D.getLast? ≠ some 48 ∧ D.length ≤ 40 ∧ -999 ≤ e ∧ e ≤ 999 := by
  unfold NumP.right at h
  rw [if_neg h0] at h
  simp only [Bool.and_eq_true, decide_eq_true_eq, bne_iff_ne, ne_eq] at h
  exact ⟨h.1.1.1.1.1, h.1.1.1.1.2, h.1.1.1.2, h.1.1.2, h.1.2, h.2⟩
theorem text_f' (d : Bool) (D : List UInt8) (e : Int) (hD : D.length ≤ 1000000) (he : -1000000 ≤ e ∧ e ≤ 1000000) : num_Text.f d (ofL D) e = some (ofL (NumP.text (d, D, e))) := by
  unfold num_Text.f NumP.text
  have hl : (Lib.itoa e).length ≤ 21 := Lib.itoa_length_le e (by omega) (by omega)
  have hi : strconv_Itoa_83.f e = some (ofL (Lib.itoa e)) := by unfold strconv_Itoa_83.f; rw [if_pos (by omega)]; rfl
  have h45 : (⟨#[45]⟩ : ByteArray) = ofL [45] := rfl
  have h101 : (⟨#[101]⟩ : ByteArray) = ofL [101] := rfl
  by_cases h0 : D = []
  · subst h0; rw [if_pos (ofL_toList []), if_pos rfl]; rfl
  · rw [if_neg (by rw [ofL_toList]; exact h0), if_neg h0]
    simp only [h45, h101, ofL_app, hi, Option.bind_some, ofL_size]
    cases d with
    | true =>
      rw [if_pos rfl, if_pos (by omega)]
      by_cases he0 : e = 0
      · rw [if_pos he0, if_pos he0]; simp [NumP.sgn]
      · rw [if_neg he0, if_neg he0, if_pos (by omega), if_pos (by simp; omega)]; simp [NumP.sgn]
    | false =>
      rw [if_neg (by simp)]
      by_cases he0 : e = 0
      · rw [if_pos he0, if_pos he0]; simp [NumP.sgn]
      · rw [if_neg he0, if_neg he0, if_pos (by omega), if_pos (by simp; omega)]; simp [NumP.sgn]
theorem right_bd' {d : Bool} {D : List UInt8} {e : Int} (h : NumP.right (d, D, e) = true) : D.length ≤ 40 ∧ -999 ≤ e ∧ e ≤ 999 := by
  by_cases h0 : D = []
  · subst h0
    unfold NumP.right at h
    rw [if_pos rfl] at h
    simp only [Bool.and_eq_true, beq_iff_eq] at h
    exact ⟨by decide, by omega, by omega⟩
  · obtain ⟨-, -, -, a, b, c⟩ := right_parts h h0
    exact ⟨a, b, c⟩
end Go.Proofs.YtapcpndplnkfjaaGreatDoor
namespace Go.Proofs.YtapcpndplnkfjaaGreatDoor
open Go.RowKit Go.Proofs.YtapcpndplnkfjaaGreatDoorW.PrintWords Pr
end Go.Proofs.YtapcpndplnkfjaaGreatDoor
namespace Go.Proofs.YtapcpndplnkfjaaGreatDoor
open Go.RowKit Go.Proofs.YtapcpndplnkfjaaGreatDoorW.PrintWords Go.Proofs.YtapcpndplnkfjaaGreatDoorW.PrintLast Go.Proofs.YtapcpndplnkfjaaGreatDoorW.PrintMore
set_option linter.unusedVariables false
set_option linter.unusedSimpArgs false
namespace Js
theorem compare_ne (x y : S28) (hne : x.f0 ≠ y.f0) (A A' B B' : Option Addr) (n n' m m' c c' d d' : Nat) (w : World) :
    Calls Tryz.prog 28 #[.agg #[.int .i64 x.f0, .bool x.f1, .bool x.f2.f0, .string x.f2.f1, .int .i64 x.f2.f2, .string x.f3, .slice A n c, .slice B m d], .agg #[.int .i64 y.f0, .bool y.f1, .bool y.f2.f0, .string y.f2.f1, .int .i64 y.f2.f2, .string y.f3, .slice A' n' c', .slice B' m' d']] w
      fun e w' => e = .returned (.int .i64 (Lib.compareInt x.f0 y.f0)) ∧ Below w.heap.size w w' := by
  have h1 : (x.f0 != y.f0) = true := by simpa using hne
  have h2 : (x.f0 == y.f0) = false := by simpa using hne
  clear hne
  go_enter Tryz.func28, Tryz.ntmps28
  go_wp2_with fail
  refine (Tryz.cmp_Compare_int _ _ _).mono ?_
  rintro E w1 ⟨rfl, rfl⟩
  go_wp2_with fail
  go_ret
  exact ⟨rfl, below_alloc (below_alloc (Below.refl _ _) _) _⟩
end Js
end Go.Proofs.YtapcpndplnkfjaaGreatDoor
namespace Go.Proofs.YtapcpndplnkfjaaGreatDoor
open Go.RowKit Go.Proofs.YtapcpndplnkfjaaGreatDoorW.PrintWords Go.Proofs.YtapcpndplnkfjaaGreatDoorW.PrintLast Go.Proofs.YtapcpndplnkfjaaGreatDoorW.PrintMore
set_option linter.unusedVariables false
set_option linter.unusedSimpArgs false
namespace Js
structure JTabs (w : World) : Prop where
  t : Tabs w
  p : PTabs w
theorem JTabs.below {w w' : World} (h : JTabs w) (hb : Below w.heap.size w w') : JTabs w' := ⟨h.t.below hb, h.p.below hb⟩
def A1 : List UInt8 := [32, 123, 34, 98, 34, 58, 49, 46, 48, 44, 32, 34, 97, 34, 58, 91, 93, 125]
def A2 : List UInt8 := [34, 92, 117, 48, 48, 101, 57, 92, 117, 100, 56, 51, 100, 92, 117, 100, 101, 48, 48, 92, 110, 34]
def A3 : List UInt8 := [91, 49, 44, 93]
def A4 : List UInt8 := [123, 34, 97, 34, 58, 49, 44, 34, 97, 34, 58, 50, 125]
theorem e1_ : (pv A1).2 = 0 := by decide +kernel
theorem k1_ : (pv A1).1.f0 = 5 := by decide +kernel
theorem t1_ : txF 3 (pv A1).1 = some [123, 34, 97, 34, 58, 91, 93, 44, 34, 98, 34, 58, 49, 125] := by decide +kernel
theorem f1_ : pos (pv A1).1.f5 ⟨#[98]⟩ = 1 ∧ has (pv A1).1.f5 ⟨#[98]⟩ = true ∧ (pv A1).1.f5.length ≤ 1000000 := by decide +kernel
theorem e2_ : (pv A2).2 = 0 := by decide +kernel
theorem k2_ : (pv A2).1.f0 = 3 ∧ (pv A2).1.f3.data.toList = [195, 169, 240, 159, 152, 128, 10] := by decide +kernel
theorem t2_ : txF 3 (pv A2).1 = some [34, 195, 169, 240, 159, 152, 128, 92, 117, 48, 48, 48, 97, 34] := by decide +kernel
theorem e3_ : (pv A3).2 = 11 := by decide +kernel
theorem e4_ : (pv A4).2 = 31 := by decide +kernel
set_option maxRecDepth 100000 in
set_option maxHeartbeats 4000000 in
theorem awake15_calls (w : World) (hT : JTabs w) : Calls Tryz.prog 29 #[] w fun e w' => e = .returned (.bool true) ∧ Below w.heap.size w w' := by
  have HT := Lib.hid hT
  obtain ⟨X, hX⟩ : ∃ X, X = (pv A1).1 := ⟨_, rfl⟩
  obtain ⟨Y, hY⟩ : ∃ Y, Y = (pv A2).1 := ⟨_, rfl⟩
  obtain ⟨Z, hZ⟩ : ∃ Z, Z = (pv A3).1 := ⟨_, rfl⟩
  obtain ⟨V, hV⟩ : ∃ V, V = (pv A4).1 := ⟨_, rfl⟩
  have H1 : Hid (pv A1 = (X, 0)) := Lib.hid (by rw [hX, ← e1_])
  have H2 : Hid (pv A2 = (Y, 0)) := Lib.hid (by rw [hY, ← e2_])
  have H3 : Hid (pv A3 = (Z, 11)) := Lib.hid (by rw [hZ, ← e3_])
  have H4 : Hid (pv A4 = (V, 31)) := Lib.hid (by rw [hV, ← e4_])
  have HX5 : Hid (X.f0 = 5) := Lib.hid (by rw [hX]; exact k1_)
  have HXT : Hid (txF 3 X = some [123, 34, 97, 34, 58, 91, 93, 44, 34, 98, 34, 58, 49, 125]) := Lib.hid (by rw [hX]; exact t1_)
  have HXF : Hid (pos X.f5 ⟨#[98]⟩ = 1 ∧ has X.f5 ⟨#[98]⟩ = true ∧ X.f5.length ≤ 1000000) := Lib.hid (by rw [hX]; exact f1_)
  have HY3 : Hid (Y.f0 = 3 ∧ Y.f3.data.toList = [195, 169, 240, 159, 152, 128, 10]) := Lib.hid (by rw [hY]; exact k2_)
  have HYT : Hid (txF 3 Y = some [34, 195, 169, 240, 159, 152, 128, 92, 117, 48, 48, 48, 97, 34]) := Lib.hid (by rw [hY]; exact t2_)
  clear hT hX hY hZ hV
  go_enter Tryz.func29, Tryz.ntmps29
  go_wp2_with fail
  refine (jparseR A1 w HT.out.t X 0 H1.out).mono ?_
  rintro E w1 ⟨A, c, B, c', rfl, hJ, hR, hB⟩
  have HJ := Lib.hid hJ
  have HR := Lib.hid hR
  have HB1 := Lib.hid (below_alloc hB (.cells #[.int .i64 X.f0, .bool X.f1, .bool X.f2.f0, .string X.f2.f1, .int .i64 X.f2.f2, .string X.f3, .slice A X.f4.length c, .slice B X.f5.length c'] 28))
  have HK1 := Lib.hid (blk_new w1 (.cells #[.int .i64 X.f0, .bool X.f1, .bool X.f2.f0, .string X.f2.f1, .int .i64 X.f2.f2, .string X.f3, .slice A X.f4.length c, .slice B X.f5.length c'] 28))
  have HW1 := Lib.hid (below_alloc (Below.refl w1.heap.size w1) (.cells #[.int .i64 X.f0, .bool X.f1, .bool X.f2.f0, .string X.f2.f1, .int .i64 X.f2.f2, .string X.f3, .slice A X.f4.length c, .slice B X.f5.length c'] 28))
  clear hJ hR hB
  go_wp2_with fail
  refine (jparseR A2 _ (HT.out.below HB1.out).t Y 0 H2.out).mono ?_
  rintro E w2 ⟨A', d, B', d', rfl, hJ, hR, hB⟩
  have HJY := Lib.hid hJ
  have HB2 := Lib.hid (below_alloc (HB1.out.trans (hB.mono HB1.out.size)) (.cells #[.int .i64 Y.f0, .bool Y.f1, .bool Y.f2.f0, .string Y.f2.f1, .int .i64 Y.f2.f2, .string Y.f3, .slice A' Y.f4.length d, .slice B' Y.f5.length d'] 28))
  have HK2 := Lib.hid (blk_new w2 (.cells #[.int .i64 Y.f0, .bool Y.f1, .bool Y.f2.f0, .string Y.f2.f1, .int .i64 Y.f2.f2, .string Y.f3, .slice A' Y.f4.length d, .slice B' Y.f5.length d'] 28))
  have HK1 := Lib.hid (blk_alloc (thru HK1.out hB) (.cells #[.int .i64 Y.f0, .bool Y.f1, .bool Y.f2.f0, .string Y.f2.f1, .int .i64 Y.f2.f2, .string Y.f3, .slice A' Y.f4.length d, .slice B' Y.f5.length d'] 28))
  have hw12 := HW1.out.trans (hB.mono HW1.out.size)
  have HW1 := Lib.hid (hw12.trans ((below_alloc (Below.refl w2.heap.size w2) (.cells #[.int .i64 Y.f0, .bool Y.f1, .bool Y.f2.f0, .string Y.f2.f1, .int .i64 Y.f2.f2, .string Y.f3, .slice A' Y.f4.length d, .slice B' Y.f5.length d'] 28)).mono hw12.size))
  have HW2 := Lib.hid (below_alloc (Below.refl w2.heap.size w2) (.cells #[.int .i64 Y.f0, .bool Y.f1, .bool Y.f2.f0, .string Y.f2.f1, .int .i64 Y.f2.f2, .string Y.f3, .slice A' Y.f4.length d, .slice B' Y.f5.length d'] 28))
  clear hJ hR hB hw12
  go_wp2_with fail
  refine (jparseR A3 _ (HT.out.below HB2.out).t Z 11 H3.out).mono ?_
  rintro E w3 ⟨A3', d3, B3', d3', rfl, hJ, hR, hB⟩
  have HB3 := Lib.hid (HB2.out.trans (hB.mono HB2.out.size))
  have HK1 := Lib.hid (thru HK1.out hB)
  have HK2 := Lib.hid (thru HK2.out hB)
  have HW1 := Lib.hid (HW1.out.trans (hB.mono HW1.out.size))
  have HW2 := Lib.hid (HW2.out.trans (hB.mono HW2.out.size))
  clear hJ hR hB
  go_wp2_with fail
  have ha3 := fun o => below_alloc (Below.refl w3.heap.size w3) o
  have HA3 := Lib.hid ha3
  clear ha3
  refine (jparseR A4 _ (HT.out.below (HB3.out.trans ((HA3.out _).mono HB3.out.size))).t V 31 H4.out).mono ?_
  rintro E w4 ⟨A4', d4, B4', d4', rfl, hJ, hR, hB⟩
  have hB := (HA3.out _).trans (hB.mono (HA3.out _).size)
  have HB4 := Lib.hid (HB3.out.trans (hB.mono HB3.out.size))
  have HK1 := Lib.hid (thru HK1.out hB)
  have HK2 := Lib.hid (thru HK2.out hB)
  have HW1 := Lib.hid (HW1.out.trans (hB.mono HW1.out.size))
  have HW2 := Lib.hid (HW2.out.trans (hB.mono HW2.out.size))
  clear hJ hR hB HA3
  have ha4 := fun o => below_alloc (Below.refl w4.heap.size w4) o
  have HA4 := Lib.hid ha4
  obtain ⟨p0, p1, p2, p3, p4, p5, p6, p7⟩ := eight (HK1.out)
  have hlt1 : w1.heap.size < w4.heap.size := blk_lt HK1.out
  clear ha4
  go_wp2_with fail
  have hR5 := Kd.R_below HR.out (HW1.out.trans ((HA4.out (.cells #[.int .i64 V.f0, .bool V.f1, .bool V.f2.f0, .string V.f2.f1, .int .i64 V.f2.f2, .string V.f3, .slice A4' V.f4.length d4, .slice B4' V.f5.length d4'] 28)).mono HW1.out.size))
  refine (find_calls X ⟨#[98]⟩ HX5.out _ _ _ _ hR5 HXF.out.2.2).mono ?_
  rintro E w5 ⟨rfl, hB⟩
  rw [HXF.out.1, HXF.out.2.1]
  have hB := (HA4.out _).trans (hB.mono (HA4.out _).size)
  have HB5 := Lib.hid (HB4.out.trans (hB.mono HB4.out.size))
  have HK1 := Lib.hid (thru HK1.out hB)
  have HK2 := Lib.hid (thru HK2.out hB)
  have HW1 := Lib.hid (HW1.out.trans (hB.mono HW1.out.size))
  have HW2 := Lib.hid (HW2.out.trans (hB.mono HW2.out.size))
  clear hB hR5 HA4 p0 p1 p2 p3 p4 p5 p6 p7 hlt1
  obtain ⟨p0, p1, p2, p3, p4, p5, p6, p7⟩ := eight (HK1.out)
  go_wp2_with fail
  refine (jtext_calls 3 X _ HXT.out A B c c' w5 (HT.out.below HB5.out).p (HJ.out.below HW1.out)).mono ?_
  rintro E w6 ⟨rfl, hB⟩
  have HB6 := Lib.hid (HB5.out.trans (hB.mono HB5.out.size))
  have HK1 := Lib.hid (thru HK1.out hB)
  have HK2 := Lib.hid (thru HK2.out hB)
  have HW1 := Lib.hid (HW1.out.trans (hB.mono HW1.out.size))
  have HW2 := Lib.hid (HW2.out.trans (hB.mono HW2.out.size))
  clear hB p0 p1 p2 p3 p4 p5 p6 p7
  obtain ⟨p0, p1, p2, p3, p4, p5, p6, p7⟩ := eight (HK2.out)
  have hg1 : ((ofL [123, 34, 97, 34, 58, 91, 93, 44, 34, 98, 34, 58, 49, 125]).toList == [123, 34, 97, 34, 58, 91, 93, 44, 34, 98, 34, 58, 49, 125]) = true := by rw [ofL_toList]; exact beq_self_eq_true _
  have hg2 : (Y.f3.toList == [195, 169, 240, 159, 152, 128, 10]) = true := by rw [ByteArray.toList_eq, HY3.out.2]; exact beq_self_eq_true _
  go_wp2_with fail
  refine (jtext_calls 3 Y _ HYT.out A' B' d d' w6 (HT.out.below HB6.out).p (HJY.out.below HW2.out)).mono ?_
  rintro E w7 ⟨rfl, hB⟩
  have HB7 := Lib.hid (HB6.out.trans (hB.mono HB6.out.size))
  have HK1 := Lib.hid (thru HK1.out hB)
  have HK2 := Lib.hid (thru HK2.out hB)
  have hg4 : ((ofL [34, 195, 169, 240, 159, 152, 128, 92, 117, 48, 48, 48, 97, 34]).toList == [34, 195, 169, 240, 159, 152, 128, 92, 117, 48, 48, 48, 97, 34]) = true := by rw [ofL_toList]; exact beq_self_eq_true _
  clear hB p0 p1 p2 p3 p4 p5 p6 p7 hg1 hg2
  obtain ⟨p0, p1, p2, p3, p4, p5, p6, p7⟩ := eight (HK1.out)
  obtain ⟨q0, q1, q2, q3, q4, q5, q6, q7⟩ := eight (HK2.out)
  go_wp2_with fail
  refine (compare_ne X Y (by rw [HX5.out, HY3.out.1]; decide) A A' B B' _ _ _ _ c d c' d' w7).mono ?_
  rintro E w8 ⟨rfl, hB⟩
  have HB8 := Lib.hid (HB7.out.trans (hB.mono HB7.out.size))
  rw [show Lib.compareInt X.f0 Y.f0 = 1 by rw [HX5.out, HY3.out.1]; rfl]
  clear hB p0 p1 p2 p3 p4 p5 p6 p7 q0 q1 q2 q3 q4 q5 q6 q7
  go_wp2_with fail
  go_ret
  exact ⟨rfl, HB8.out⟩
end Js
end Go.Proofs.YtapcpndplnkfjaaGreatDoor
namespace Go.Proofs.YtapcpndplnkfjaaGreatDoor
open Go.ChangeShapes Go.WideShapes Go.ChangeAt Go.RowKit Go.Lib
namespace Frame
theorem own : ownKnob Tryz.prog.godebug = none := by kernel_rfl
theorem plainLaid {W : World} {l : List (String × DataW Unit)} (h : laidMetH Tryz.prog l W) (hh : (l.all fun x => x.2.handleName?.isNone) = true) : laidMet Tryz.prog l W := by
  have h1 := (laidMetH_iff.1 h).1
  rwa [List.filter_eq_self.2 (fun x hx => List.all_eq_true.1 hh x hx)] at h1
theorem tabsOf {W : World} {l : List (String × DataW Unit)} (h : laidMet Tryz.prog l W) (h1 : ("unicode/utf8.first", Rows.laid_unicode_utf8_first) ∈ l) (h2 : ("unicode/utf8.acceptRanges", Rows.laid_unicode_utf8_acceptRanges) ∈ l) (h3 : ("unicode.CaseRanges", Rows.laid_unicode_CaseRanges) ∈ l) : Js.Tabs W := by
  have e1 : Rows.laid_unicode_utf8_first = firstData := Pinned.utf8First_eq
  have e3 : Rows.laid_unicode_CaseRanges = caseData := Pinned.caseRanges_eq
  have e2 : (Rows.laid_unicode_utf8_acceptRanges : DataW Unit) = acceptData := by kernel_rfl
  rw [e1] at h1
  rw [e2] at h2
  rw [e3] at h3
  exact ⟨utf8Tabs_of_reads Tryz.lays260 ⟨by kernel_rfl, by kernel_rfl, by kernel_rfl, by kernel_rfl, by kernel_rfl, by kernel_rfl, by kernel_rfl⟩ (laidMet.reads h h1) (laidMet.reads h h2),
    caseVar_of_reads (ρ := Tryz.lays159_ren) { Tryz.lays159 with } (by kernel_rfl) ⟨by kernel_rfl, by kernel_rfl, by kernel_rfl, by kernel_rfl, by kernel_rfl, by kernel_rfl⟩ (laidMet.reads h h3)⟩
theorem gPow : (Tryz.prog.globals[4]?).map (·.type) = some 195 := by kernel_rfl
theorem cArr : Tryz.prog.cellsOf 195 = 20 := by kernel_rfl
theorem cElt : Tryz.prog.cellsOf 89 = 1 := by kernel_rfl
theorem tabs {W : World} (h : laidMetH Tryz.prog Rows.jsonDeepRow.laid W) : Js.JTabs W := by
  have h2 := plainLaid h (by kernel_rfl)
  exact ⟨tabsOf h2 (.tail _ (.tail _ (.tail _ (.tail _ (.tail _ (.head _)))))) (.tail _ (.tail _ (.tail _ (.head _)))) (.tail _ (.tail _ (.tail _ (.tail _ (.head _))))),
    Lib.tabIs_of_head (name := "internal/strconv.uint64pow10") (k := .u64) (zs := Lib.pow10Tab) (g := 4) (t := 195) (e := 89) (n := 20) gPow10 gPow Tryz.underlying195 Tryz.underlying89 cElt cArr (laidMet.tail (laidMet.tail h2))⟩
noncomputable def laidWorld (os : Os) : World := World.laidAll Tryz.prog os Rows.jsonDeepRow.laid
theorem met (os : Os) (args : Array Value) : laidMet Tryz.prog Rows.jsonDeepRow.laid ((laidWorld os).forCall (fun _ _ => 0) ⟨#[], args, []⟩).memory :=
  laidMet_laidAll _ (by kernel_rfl) (by kernel_rfl)
theorem shaped (os : Os) (args : Array Value) : ((laidWorld os).forCall (fun _ _ => 0) ⟨#[], args, []⟩).Shaped Tryz.checked.prog := World.shaped_of_ZipB (by kernel_rfl) (by kernel_rfl)
theorem witness {H : Type} {enc : TypeId × Value → H} {os : Os} {f : FuncId} {fn : Func} {s : OpenSpec} {conds : List PathCond} {apart : Bool} {laid : List (String × DataW Unit)} (modest : Bool) (args : Array Value)
    (hok : Input.okWideB Tryz.checked.prog ((laidWorld os).forCall (fun _ _ => 0) ⟨#[], args, []⟩) f ⟨#[], args, []⟩ = true)
    (hrow : s.preRow enc Tryz.checked.prog fn conds apart laid ((laidWorld os).forCall (fun _ _ => 0) ⟨#[], args, []⟩).memory args) :
    ∃ (w : World) (tape : Tape) (i : Input), w.os = os ∧ (w.forCall tape i).Shaped Tryz.checked.prog ∧ i.vars = [] ∧ Input.okWide Tryz.checked.prog (w.forCall tape i) .any w.heap.size f i ∧
      s.preRow enc Tryz.checked.prog fn conds apart laid (w.forCall tape i).memory i.args ∧ ({ modest := modest } : Assume).holds Tryz.checked.prog (lone (Go.Frame.enter Tryz.checked.prog f i.args .normal) [] (w.forCall tape i)) :=
  ⟨laidWorld os, fun _ _ => 0, ⟨#[], args, []⟩, World.laidAll_os _ _ _, shaped os args, (Input.okWide_of_okWideB (base := 0) hok).1, (Input.okWide_of_okWideB hok).2, hrow, by
    simp only [Assume.holds]
    exact ⟨by simp, by simp, fun _ => Modest.zero, by simp, by simp⟩⟩
end Frame
end Go.Proofs.YtapcpndplnkfjaaGreatDoor
namespace Go.Proofs.YtapcpndplnkfjaaGreatDoor
open Go.RowKit Go.Proofs.YtapcpndplnkfjaaGreatDoorW.PrintWords Go.Proofs.YtapcpndplnkfjaaGreatDoorW.PrintLast Go.Proofs.YtapcpndplnkfjaaGreatDoorW.PrintMore
set_option linter.unusedVariables false
set_option linter.unusedSimpArgs false
namespace Js
theorem fail_e {a : S} (h : a.e ≠ 0) (x : Int) : (a.fail x).e = a.e := by unfold S.fail; simp [h]
theorem fail_e0 {a : S} (h : a.e = 0) (x : Int) : (a.fail x).e = x := by unfold S.fail; simp [h]
theorem take_e (a : S) (p : List UInt8) : (a.take p).e = a.e := by unfold S.take; split <;> rfl
theorem took_bad {a : S} (h : a.e ≠ 0) (p : List UInt8) : a.took p = false := by unfold S.took; simp [h]
theorem take_no {a : S} {p : List UInt8} (h : a.took p = false) : a.take p = a.skip := by unfold S.take; simp [h]
theorem take_yes {a : S} {p : List UInt8} (h : a.took p = true) : a.take p = ⟨Lib.trimPrefix a.skip.s p, a.o, a.e⟩ := by unfold S.take; rw [if_pos h]; rfl
theorem need_e {a : S} (h : a.e ≠ 0) (p : List UInt8) : (a.need p).e = a.e := by
  unfold S.need
  split
  · exact take_e a p
  · exact (fail_e (by rw [take_e]; exact h) 11).trans (take_e a p)
theorem st_bad {a : S} (h : a.e ≠ 0) : a.st = ([], a.tl) := by
  unfold S.st S.str
  rw [strLoop, if_pos (show a.tl.e ≠ 0 from h)]
def gv : Nat → S → S28 × S
  | 0, a => (z28, if a.e = 0 then a.skip.fail 11 else a.skip)
  | n + 1, a => S.value textV (S.arr (gv n)) (S.obj (gv n)) a
theorem gv_bad {a : S} (h : a.e ≠ 0) : ∀ n, gv n a = (z28, a.skip)
  | 0 => by unfold gv; rw [if_neg h]
  | n + 1 => by
    show S.value _ _ _ a = _
    unfold S.value S.value1
    rw [if_pos (show a.skip.e ≠ 0 from h)]
theorem keeps_gv : ∀ n a, Keeps a (gv n a).2
  | 0, a => by
    unfold gv
    split
    · exact (keeps_skip a).trans (keeps_fail _ 11 (by decide))
    · exact keeps_skip a
  | n + 1, a => keeps_value (ft := textV) (fa := S.arr (gv n)) (fo := S.obj (gv n)) (fun a => keeps_st a) (fun a => keeps_list (st := arrT (gv n)) (fun x a => keeps_gv n a) [93] [] a) (fun a => keeps_list (st := objT (gv n)) (fun x a => by
      unfold objT
      split
      · exact (keeps_skip a).trans (keeps_fail _ 11 (by decide))
      · exact (keeps_objA _ a).trans (keeps_gv n _)) [125] ([], []) a) a
theorem loop_congr {σ : Type} {st st' : σ → S → σ × S} {P : S → Prop} (hP : ∀ x a, P a → st x a = st' x a) (hn : ∀ x a, P a → P (st x a).2) (ht : ∀ a p, P a → P (a.take p)) :
    ∀ n x a, P a → listLoop st n x a = listLoop st' n x a
  | 0, x, a, h => rfl
  | n + 1, x, a, h => by
    unfold listLoop
    split
    · have h1 := ht a [44] h
      rw [← hP x _ h1]
      exact loop_congr hP hn ht n _ _ (hn x _ h1)
    · rfl
theorem list_congr {σ : Type} {st st' : σ → S → σ × S} {P : S → Prop} (hP : ∀ x a, P a → st x a = st' x a) (hn : ∀ x a, P a → P (st x a).2) (ht : ∀ a p, P a → P (a.take p)) (p : List UInt8) (x : σ) (a : S) (h : P a.enter) :
    listF st p x a = listF st' p x a := by
  unfold listF
  split
  · rfl
  · have h1 := ht a.enter p h
    rw [← hP x _ h1]
    simp only []
    rw [loop_congr hP hn ht _ _ _ (hn x _ h1)]
theorem gv_eq : ∀ n a, Qn n a → fvN n a = gv n a
  | 0, a, h => by unfold gv fvN; rw [if_neg (h.2.2.1 rfl)]
  | n + 1, a, h => by
    have hs : Qn n a.skip.enter := (h.keeps (keeps_skip a)).enter
    have ha : S.arr (fvN n) a.skip = S.arr (gv n) a.skip := by
      unfold S.arr
      rw [list_congr (st' := arrT (gv n)) (P := Qn n) (fun x b hb => by unfold arrT; rw [gv_eq n b hb]) (fun x b hb => hb.keeps (keeps_fv n b)) (fun b p hb => hb.keeps (keeps_take b p)) [93] [] a.skip hs]
    have ho : S.obj (fvN n) a.skip = S.obj (gv n) a.skip := by
      unfold S.obj
      rw [list_congr (st' := objT (gv n)) (P := Qn n) (fun x b hb => by unfold objT; rw [gv_eq n _ (hb.keeps (keeps_objA x.2 b))]) (fun x b hb => by
        unfold objT
        split
        · exact hb.keeps ((keeps_skip b).trans (keeps_fail _ 11 (by decide)))
        · exact (hb.keeps (keeps_objA _ b)).keeps (keeps_fv n _)) (fun b p hb => hb.keeps (keeps_take b p)) [125] ([], []) a.skip hs]
    show S.value _ _ _ a = S.value _ _ _ a
    unfold S.value S.value1
    rw [ha, ho]
theorem numS_e {a : S} (h : a.e ≠ 0) : a.numS.e = a.e := by
  unfold S.numS
  simp only []
  split
  · rfl
  · exact fail_e h _
theorem twice_e {a : S} (h : a.e ≠ 0) (b : Bool) : (a.twice b).e = a.e := by
  unfold S.twice; split
  · exact fail_e h _
  · rfl
theorem objA_e {a : S} (h : a.e ≠ 0) (ns : List ByteArray) : (objA ns a).e = a.e := by
  unfold objA
  have h1 : a.skip.st.2 = a.skip.tl := by rw [st_bad (show a.skip.e ≠ 0 from h)]
  have h2 : a.skip.st.2.e = a.e := by rw [h1]; rfl
  have h3 : (S.twice a.skip.st.2 (has ns (objN a))).e = a.e := (twice_e (by rw [h2]; exact h) _).trans h2
  exact (need_e (by rw [h3]; exact h) _).trans h3
theorem objT_e {a : S} (h : a.e ≠ 0) (n : Nat) (p : List S28 × List ByteArray) : (objT (gv n) p a).2.e = a.e := by
  unfold objT
  split
  · exact fail_e (a := a.skip) h _
  · have h1 := objA_e h p.2
    rw [gv_bad (by rw [h1]; exact h)]
    exact h1
theorem arrT_e {a : S} (h : a.e ≠ 0) (n : Nat) (p : List S28) : (arrT (gv n) p a).2.e = a.e := by
  unfold arrT
  rw [gv_bad h]; rfl
theorem loop_bad {σ : Type} (st : σ → S → σ × S) {a : S} (h : a.e ≠ 0) : ∀ n x, (listLoop st n x a).2.e = a.e
  | 0, x => rfl
  | n + 1, x => by
    unfold listLoop
    rw [took_bad h]
    exact take_e a _
def listG {σ : Type} (st : σ → S → σ × S) (p : List UInt8) (x : σ) (a : S) : σ × S :=
  if a.took p = true then (x, (a.take p).left) else
  ((listLoop st ((st x (a.take p)).2.s.length + 1) (st x (a.take p)).1 (st x (a.take p)).2).1, ((listLoop st ((st x (a.take p)).2.s.length + 1) (st x (a.take p)).1 (st x (a.take p)).2).2.need p).left)
theorem listF_G {σ : Type} (st : σ → S → σ × S) (p : List UInt8) (x : σ) (a : S) : listF st p x a = listG st p x a.enter := rfl
theorem listG_e {σ : Type} {st : σ → S → σ × S} (hst : ∀ x a, a.e ≠ 0 → (st x a).2.e = a.e) (p : List UInt8) (x : σ) {a : S} (h : a.e ≠ 0) : (listG st p x a).2.e = a.e := by
  unfold listG
  rw [took_bad h]
  have h1 : (a.take p).e ≠ 0 := by rw [take_e]; exact h
  have h2 := hst x _ h1
  have h3 := loop_bad st (by rw [h2]; exact h1) ((st x (a.take p)).2.s.length + 1) (st x (a.take p)).1
  have h4 := need_e (by rw [h3, h2]; exact h1) p
  show ((listLoop st _ _ _).2.need p).e = a.e
  rw [h4, h3, h2, take_e]
def stop (t : List UInt8) : Prop := ∀ c ∈ t.head?, [32, 9, 10, 13, 44, 93, 125].contains c = true
def Ext (t : List UInt8) (a b : S) : Prop := (a.e ≠ 0 ∧ a.e ≠ 35) ∨ (a.e = 35 ∧ b.e = 35) ∨ (a.e = 0 ∧ b = ⟨a.s ++ t, a.o, 0⟩)
def Dry (a : S) : Prop := a.e = 0 ∧ a.skip.s = []
def Ext' (t : List UInt8) (a b : S) : Prop := Ext t a b ∨ Dry a
def ExtV {σ : Type} (t : List UInt8) (p q : σ × S) : Prop := Ext t p.2 q.2 ∧ (p.2.e = 0 → q.1 = p.1)
theorem Ext.bad {t : List UInt8} {a b : S} (h1 : a.e ≠ 0) (h2 : a.e ≠ 35) : Ext t a b := .inl ⟨h1, h2⟩
theorem Ext.ok (t s : List UInt8) (o : Int) : Ext t ⟨s, o, 0⟩ ⟨s ++ t, o, 0⟩ := .inr (.inr ⟨rfl, rfl⟩)
theorem Ext.fail0 (t s : List UInt8) (o x : Int) (hx : x ≠ 0) (b : S) (hb : b.e = 0) : Ext t (S.fail ⟨s, o, 0⟩ x) (b.fail x) := by
  by_cases h : x = 35
  · subst h; exact .inr (.inl ⟨rfl, fail_e0 hb _⟩)
  · exact .inl ⟨hx, h⟩
theorem Ext.fail {t : List UInt8} {a b : S} (h : Ext t a b) (x : Int) (hx : x ≠ 0) : Ext t (a.fail x) (b.fail x) := by
  rcases h with h | h | h
  · have := fail_e h.1 x; exact .inl (by rw [this]; exact h)
  · have h1 := fail_e (a := a) (by rw [h.1]; decide) x
    have h2 := fail_e (a := b) (by rw [h.2]; decide) x
    exact .inr (.inl ⟨h1.trans h.1, h2.trans h.2⟩)
  · obtain ⟨s, o, e⟩ := a
    obtain ⟨h1, h2⟩ := h
    simp only at h1; subst h1
    exact Ext.fail0 t s o x hx b (by rw [h2])
theorem trim_app (s t cs : List UInt8) (h : Lib.trimLeftS s cs ≠ []) : Lib.trimLeftS (s ++ t) cs = Lib.trimLeftS s cs ++ t := by
  unfold Lib.trimLeftS at *
  rw [List.dropWhile_append]
  rw [if_neg (by simpa using h)]
theorem trim_app2 (s t cs : List UInt8) (h : ∀ c ∈ t.head?, cs.contains c = false) : Lib.trimLeftS (s ++ t) cs = Lib.trimLeftS s cs ++ t := by
  unfold Lib.trimLeftS at *
  rw [List.dropWhile_append]
  split
  · rename_i h1
    have : List.dropWhile (fun x => cs.contains x) s = [] := by simpa using h1
    rw [this, List.nil_append]
    cases t with
    | nil => rfl
    | cons c l => rw [List.dropWhile_cons, h c (by simp)]; rfl
  · rfl
theorem pref_app {s p : List UInt8} (t : List UInt8) (h : Lib.hasPrefix s p = true) : Lib.hasPrefix (s ++ t) p = true := by
  unfold Lib.hasPrefix at *
  rw [List.isPrefixOf_iff_prefix] at *
  exact h.trans (List.prefix_append _ _)
theorem pref_one (c d : UInt8) (l : List UInt8) : Lib.hasPrefix (c :: l) [d] = (d == c) := by
  unfold Lib.hasPrefix; simp [List.isPrefixOf]
theorem trimP_app {s p : List UInt8} (t : List UInt8) (h : Lib.hasPrefix s p = true) : Lib.trimPrefix (s ++ t) p = Lib.trimPrefix s p ++ t := by
  unfold Lib.trimPrefix
  rw [if_pos h, if_pos (pref_app t h)]
  unfold Lib.hasPrefix at h
  rw [List.isPrefixOf_iff_prefix] at h
  exact List.drop_append_of_le_length h.length_le
theorem Ext'.cases {t : List UInt8} {a b : S} (h : Ext' t a b) : (a.e ≠ 0 ∧ a.e ≠ 35) ∨ (a.e = 35 ∧ b.e = 35) ∨ (a.e = 0 ∧ a.skip.s = []) ∨
    ∃ c l, a.e = 0 ∧ b.e = 0 ∧ b.o = a.o ∧ a.skip = ⟨c :: l, a.o, 0⟩ ∧ b.skip = ⟨c :: (l ++ t), a.o, 0⟩ := by
  rcases h with (h | h | h) | h
  · exact .inl h
  · exact .inr (.inl h)
  · by_cases h0 : a.skip.s = []
    · exact .inr (.inr (.inl ⟨h.1, h0⟩))
    · refine .inr (.inr (.inr ?_))
      obtain ⟨s, o, e⟩ := a
      obtain ⟨h1, h2⟩ := h
      simp only at h1; subst h1
      have h3 : Lib.trimLeftS s [32, 9, 10, 13] ≠ [] := h0
      have h4 := trim_app s t [32, 9, 10, 13] h3
      obtain ⟨c, l, hc⟩ : ∃ c l, Lib.trimLeftS s [32, 9, 10, 13] = c :: l := List.exists_cons_of_ne_nil h3
      refine ⟨c, l, rfl, by rw [h2], by rw [h2], ?_, ?_⟩
      · show S.mk _ _ _ = _; rw [hc]
      · rw [h2]; show S.mk (Lib.trimLeftS (s ++ t) _) o 0 = _; rw [h4, hc]; rfl
  · exact .inr (.inr (.inl h))
theorem dry_took {a : S} (h : a.skip.s = []) (p : List UInt8) (hp : p ≠ []) : a.took p = false := by
  unfold S.took
  rw [h]
  cases p with
  | nil => exact absurd rfl hp
  | cons c l => rfl
theorem dry_need {a : S} (he : a.e = 0) (h : a.skip.s = []) (p : List UInt8) (hp : p ≠ []) : (a.need p).e = 11 := by
  unfold S.need
  rw [dry_took h p hp, if_neg (by decide)]
  exact fail_e0 (by rw [take_e]; exact he) _
theorem Ext'.need {t : List UInt8} {a b : S} (h : Ext' t a b) (p : List UInt8) (hp : p ≠ []) : Ext t (a.need p) (b.need p) := by
  rcases h.cases with h | h | h | ⟨c, l, h1, h2, h3, h4, h5⟩
  · have := need_e h.1 p; exact .inl (by rw [this]; exact h)
  · have h1 := need_e (a := a) (by rw [h.1]; decide) p
    have h2 := need_e (a := b) (by rw [h.2]; decide) p
    exact .inr (.inl ⟨h1.trans h.1, h2.trans h.2⟩)
  · exact .inl (by rw [dry_need h.1 h.2 p hp]; decide)
  · cases ht : a.took p with
    | false =>
      refine .inl ?_
      have : (a.need p).e = 11 := by
        unfold S.need; rw [ht, if_neg (by decide)]; exact fail_e0 (by rw [take_e]; exact h1) _
      rw [this]; decide
    | true =>
      have hp1 : Lib.hasPrefix (c :: l) p = true := by unfold S.took at ht; rw [h4] at ht; simp at ht; exact ht.1
      have hb : b.took p = true := by
        unfold S.took; rw [h5, h2]
        have := pref_app t hp1
        simp only [List.cons_append] at this
        simp [this]
      unfold S.need
      rw [if_pos ht, if_pos hb, take_yes ht, take_yes hb, h4, h5, h1, h2, h3]
      have := trimP_app t hp1
      simp only [List.cons_append] at this
      refine .inr (.inr ⟨rfl, ?_⟩)
      show S.mk _ _ _ = _
      rw [this]
theorem took_one {a b : S} {t l : List UInt8} {c : UInt8} (h1 : a.e = 0) (h2 : b.e = 0) (h3 : b.o = a.o) (h4 : a.skip = ⟨c :: l, a.o, 0⟩) (h5 : b.skip = ⟨c :: (l ++ t), a.o, 0⟩) (d : UInt8) :
    (a.took [d] = (d == c) ∧ b.took [d] = (d == c)) ∧ (d = c → a.take [d] = ⟨l, a.o, 0⟩ ∧ b.take [d] = ⟨l ++ t, a.o, 0⟩) ∧ (d ≠ c → a.take [d] = ⟨c :: l, a.o, 0⟩ ∧ b.take [d] = ⟨c :: (l ++ t), a.o, 0⟩) := by
  have k1 : a.took [d] = (d == c) := by unfold S.took; rw [h4, h1, pref_one]; simp
  have k2 : b.took [d] = (d == c) := by unfold S.took; rw [h5, h2, pref_one]; simp
  refine ⟨⟨k1, k2⟩, fun e => ?_, fun e => ?_⟩
  · subst e
    have q : Lib.hasPrefix (d :: l) [d] = true := by rw [pref_one]; simp
    have q2 : Lib.hasPrefix (d :: (l ++ t)) [d] = true := by rw [pref_one]; simp
    rw [take_yes (by rw [k1]; simp), take_yes (by rw [k2]; simp), h4, h5, h1, h2, h3]
    unfold Lib.trimPrefix
    rw [if_pos q, if_pos q2]
    exact ⟨rfl, rfl⟩
  · rw [take_no (by rw [k1]; simpa using e), take_no (by rw [k2]; simpa using e), h4, h5]
    exact ⟨rfl, rfl⟩
end Js
end Go.Proofs.YtapcpndplnkfjaaGreatDoor
namespace Go.Proofs.YtapcpndplnkfjaaGreatDoor
open Go.RowKit Go.Proofs.YtapcpndplnkfjaaGreatDoorW.PrintWords Go.Proofs.YtapcpndplnkfjaaGreatDoorW.PrintLast Go.Proofs.YtapcpndplnkfjaaGreatDoorW.PrintMore
set_option linter.unusedVariables false
set_option linter.unusedSimpArgs false
namespace Js
theorem decN_more (n n' b0 b1 b2 b3 c1 c2 c3 : Nat) (hnn : n ≤ n') (h1 : 1 < n → c1 = b1) (h2 : 2 < n → c2 = b2) (h3 : 3 < n → c3 = b3)
    (hw : ¬ ((Lib.decodeN n b0 b1 b2 b3).1 = 65533 ∧ (Lib.decodeN n b0 b1 b2 b3).2 = 1)) : Lib.decodeN n' b0 c1 c2 c3 = Lib.decodeN n b0 b1 b2 b3 := by
  have e2 : ∀ (k m : Nat) (x y : Nat), n ≤ n' → (k < n → y = x) → (k < n ∧ x / 64 = m) → (k < n' ∧ y / 64 = m) := fun k m x y hn hy h => ⟨by omega, by rw [hy h.1]; exact h.2⟩
  unfold Lib.decodeN at hw ⊢
  by_cases g0 : b0 < 128
  · rw [if_pos g0, if_pos g0]
  rw [if_neg g0] at hw ⊢
  rw [if_neg g0]
  by_cases g1 : b0 / 32 = 6 ∧ (1 < n ∧ b1 / 64 = 2)
  · have := h1 g1.2.1
    subst this
    rw [if_pos g1, if_pos ⟨g1.1, by omega, g1.2.2⟩]
  rw [if_neg g1] at hw ⊢
  by_cases g2 : b0 / 16 = 14 ∧ (1 < n ∧ b1 / 64 = 2) ∧ (2 < n ∧ b2 / 64 = 2)
  · have k1 := h1 g2.2.1.1
    have k2 := h2 g2.2.2.1
    subst k1 k2
    rw [if_neg (by omega), if_pos ⟨g2.1, ⟨by omega, g2.2.1.2⟩, ⟨by omega, g2.2.2.2⟩⟩, if_pos g2]
  rw [if_neg g2] at hw ⊢
  by_cases g3 : b0 / 8 = 30 ∧ (1 < n ∧ b1 / 64 = 2) ∧ (2 < n ∧ b2 / 64 = 2) ∧ (3 < n ∧ b3 / 64 = 2)
  · have k1 := h1 g3.2.1.1
    have k2 := h2 g3.2.2.1.1
    have k3 := h3 g3.2.2.2.1
    subst k1 k2 k3
    rw [if_neg (by omega), if_neg (by omega), if_pos ⟨g3.1, ⟨by omega, g3.2.1.2⟩, ⟨by omega, g3.2.2.1.2⟩, ⟨by omega, g3.2.2.2.2⟩⟩, if_pos g3]
  rw [if_neg g3] at hw
  exact absurd ⟨rfl, rfl⟩ hw
theorem getD_app (s t : List UInt8) (k : Nat) (h : k < s.length) : (s ++ t).getD k 0 = s.getD k 0 := by
  simp [List.getD, List.getElem?_append_left h]
theorem dec_more (s t : List UInt8) (k : Nat) (hk : k < s.length) (hw : ¬ ((Utf8.decode (ofL s) k).1 = 65533 ∧ (Utf8.decode (ofL s) k).2 = 1)) :
    Utf8.decode (ofL (s ++ t)) k = Utf8.decode (ofL s) k := by
  rw [Lib.decode_N] at hw
  rw [Lib.decode_N, Lib.decode_N]
  rw [ofL_data] at hw
  rw [ofL_data, ofL_data, getD_app s t k hk]
  refine decN_more _ _ _ _ _ _ _ _ _ (by simp; omega) (fun h => ?_) (fun h => ?_) (fun h => ?_) hw
  · rw [getD_app s t _ (by omega)]
  · rw [getD_app s t _ (by omega)]
  · rw [getD_app s t _ (by omega)]
theorem plainF_app (s t : List UInt8) : ∀ n m k, s.length < n + k → s.length + t.length < m + k → 1 ≤ n → 1 ≤ m → (plainF (ofL s) n k).2 = true →
    plainF (ofL (s ++ t)) m k = plainF (ofL s) n k
  | 0, _, _, _, _, h, _, _ => absurd h (by decide)
  | _, 0, _, _, _, _, h, _ => absurd h (by decide)
  | n + 1, m + 1, k, hn, hm, _, _, h => by
    rw [plainF] at h ⊢
    rw [plainF]
    rw [ofL_size] at h ⊢
    rw [ofL_size]
    by_cases hk : k < s.length
    · rw [if_pos hk] at h ⊢
      rw [if_pos (by simp; omega)]
      have hg : (Lib.decodeGo ((ofL s).extract k s.length)).2 = (Utf8.decode (ofL s) k).2 := by
        have := Lib.decodeGo_extract (ofL s) k (by rw [ofL_size]; exact hk)
        rw [ofL_size] at this
        rw [this]
      have hadv := decode_adv (ofL s) k
      by_cases hbad : (Utf8.decode (ofL s) k).1 = 65533 ∧ (Utf8.decode (ofL s) k).2 = 1
      · rw [if_neg (by omega), if_neg (by omega), if_pos ⟨hbad.1, by rw [hg, hbad.2]; decide⟩] at h
        cases h
      · have hd := dec_more s t k hk hbad
        rw [hd]
        have hg2 : (Lib.decodeGo ((ofL (s ++ t)).extract k (s ++ t).length)).2 = (Utf8.decode (ofL s) k).2 := by
          have := Lib.decodeGo_extract (ofL (s ++ t)) k (by rw [ofL_size]; simp; omega)
          rw [ofL_size] at this
          rw [this, hd]
        rw [hg2, hg]
        split
        · rfl
        split
        · rfl
        split
        · rfl
        · rename_i h1 h2 h3
          rw [if_neg h1, if_neg h2, if_neg (by rw [hg]; exact h3)] at h
          refine plainF_app s t n m _ (by omega) (by omega) ?_ ?_ h
          · cases n with
            | zero => exact absurd h (by simp [plainF])
            | succ n => omega
          · by_cases hm0 : 1 ≤ m
            · exact hm0
            · exfalso
              omega
    · rw [if_neg hk] at h
      cases h
theorem plain_app (s t : List UInt8) (o e o' e' : Int) (h : (S.plain ⟨s, o, e⟩).2 = true) : S.plain ⟨s ++ t, o', e'⟩ = S.plain ⟨s, o, e⟩ := by
  unfold S.plain at *
  exact plainF_app s t _ _ 0 (by rw [ofL_size]; show s.length < s.length + 1 + 0; omega) (by rw [ofL_size]; show s.length + t.length < (s ++ t).length + 1 + 0; simp) (by omega) (by omega) h
theorem four_ext (t s : List UInt8) (o : Int) : ExtV t (S.four ⟨s, o, 0⟩) (S.four ⟨s ++ t, o, 0⟩) := by
  unfold S.four
  by_cases h : s.length < 4
  · rw [if_pos h]
    exact ⟨.inl ⟨by show (11 : Int) ≠ 0; decide, by show (11 : Int) ≠ 35; decide⟩, fun e => absurd e (by show (11 : Int) ≠ 0; decide)⟩
  · rw [if_neg h, if_neg (by simp; omega)]
    have hl : S.low ⟨s ++ t, o, 0⟩ = S.low ⟨s, o, 0⟩ := by
      unfold S.low
      rw [List.take_append_of_le_length (by omega)]
    rw [hl]
    cases fourLoop (S.low ⟨s, o, 0⟩) ((S.low ⟨s, o, 0⟩).size + 1) 0 0 with
    | none => exact ⟨.inl ⟨by show (11 : Int) ≠ 0; decide, by show (11 : Int) ≠ 35; decide⟩, fun _ => rfl⟩
    | some x =>
      refine ⟨.inr (.inr ⟨rfl, ?_⟩), fun _ => rfl⟩
      show S.mk ((s ++ t).drop 4) o 0 = S.mk (s.drop 4 ++ t) o 0
      rw [List.drop_append_of_le_length (by omega)]
theorem four_e (a : S) : a.e ≠ 0 → (a.four).2.e = a.e := by
  intro h
  unfold S.four
  split
  · exact fail_e h _
  · unfold fourV; split
    · exact fail_e h _
    · rfl
theorem ExtV.cases {σ : Type} {t : List UInt8} {p q : σ × S} (h : ExtV t p q) : (p.2.e ≠ 0 ∧ p.2.e ≠ 35) ∨ (p.2.e = 35 ∧ q.2.e = 35) ∨
    ∃ x s o, p = (x, ⟨s, o, 0⟩) ∧ q = (x, ⟨s ++ t, o, 0⟩) := by
  obtain ⟨x, s, o, e⟩ := p
  obtain ⟨y, b⟩ := q
  obtain ⟨h, hv⟩ := h
  rcases h with h | h | h
  · exact .inl h
  · exact .inr (.inl h)
  · obtain ⟨h1, h2⟩ := h
    simp only at h1 h2 hv
    subst h1 h2
    exact .inr (.inr ⟨x, s, o, rfl, by rw [hv rfl]⟩)
theorem sign_ext (t s : List UInt8) (o : Int) : ExtV t (S.sign ⟨s, o, 0⟩) (S.sign ⟨s ++ t, o, 0⟩) := by
  rcases (four_ext t s o).cases with h | h | ⟨x, s1, o1, hx, hy⟩
  · have he := four_e (S.four ⟨s, o, 0⟩).2
    have hb : (S.sign ⟨s, o, 0⟩).2.e = (S.four ⟨s, o, 0⟩).2.e := by
      unfold S.sign
      split
      · rfl
      split
      · exact fail_e h.1 _
      · have hp : (S.four ⟨s, o, 0⟩).2.pre.e = (S.four ⟨s, o, 0⟩).2.e := rfl
        have h5 := four_e (S.four ⟨s, o, 0⟩).2.pre (by rw [hp]; exact h.1)
        unfold S.sgn
        simp only []
        split
        · exact (fail_e (by rw [h5, hp]; exact h.1) _).trans (h5.trans hp)
        · exact h5.trans hp
    exact ⟨.inl (by rw [hb]; exact h), fun e => absurd e (by rw [hb]; exact h.1)⟩
  · exfalso
    have : ∀ (a : S), a.e = 0 → (S.four a).2.e = 0 ∨ (S.four a).2.e = 11 := fun a ha => by
      unfold S.four
      split
      · exact .inr (fail_e0 ha _)
      · unfold fourV; split
        · exact .inr (fail_e0 ha _)
        · exact .inl ha
    rcases this ⟨s, o, 0⟩ rfl with k | k <;> rw [k] at h <;> exact absurd h.1 (by decide)
  · unfold S.sign
    rw [hx, hy]
    simp only []
    split
    · exact ⟨Ext.ok _ _ _, fun _ => rfl⟩
    · by_cases hp : Lib.hasPrefix s1 [92, 117] = true
      · have hp2 := pref_app t hp
        rw [hp, hp2]
        split
        · exact ⟨.inl ⟨by show (11 : Int) ≠ 0; decide, by show (11 : Int) ≠ 35; decide⟩, fun e => absurd e (by show (11 : Int) ≠ 0; decide)⟩
        · unfold S.sgn
          have hpre : S.pre ⟨s1 ++ t, o1, 0⟩ = ⟨(S.pre ⟨s1, o1, 0⟩).s ++ t, o1, 0⟩ := by
            unfold S.pre; simp only []; rw [trimP_app t hp]
          rw [hpre]
          have hpre2 : S.pre ⟨s1, o1, 0⟩ = ⟨(S.pre ⟨s1, o1, 0⟩).s, o1, 0⟩ := rfl
          rw [hpre2]
          generalize (S.pre ⟨s1, o1, 0⟩).s = s2
          have hf := four_ext t s2 o1
          have hf0 := hf
          rcases hf0.cases with h | h | ⟨y, s3, o3, h6, h7⟩
          · refine ⟨.inl ?_, fun e => ?_⟩
            · simp only []
              split
              · rw [fail_e h.1]; exact h
              · exact h
            · exfalso
              simp only [] at e
              split at e
              · rw [fail_e h.1] at e; exact h.1 e
              · exact h.1 e
          · refine ⟨.inr (.inl ⟨?_, ?_⟩), fun e => ?_⟩
            · simp only []
              split
              · rw [fail_e (by rw [h.1]; decide)]; exact h.1
              · exact h.1
            · simp only []
              split
              · rw [fail_e (by rw [h.2]; decide)]; exact h.2
              · exact h.2
            · exfalso
              simp only [] at e
              split at e
              · rw [fail_e (by rw [h.1]; decide), h.1] at e; exact absurd e (by decide)
              · rw [h.1] at e; exact absurd e (by decide)
          · rw [h6, h7]
            simp only []
            refine ⟨?_, fun _ => rfl⟩
            split
            · exact Ext.fail0 t s3 o3 11 (by decide) _ rfl
            · exact Ext.ok _ _ _
      · have hp' : Lib.hasPrefix s1 [92, 117] = false := by simpa using hp
        rw [if_pos (.inr hp')]
        exact ⟨.inl ⟨by show (11 : Int) ≠ 0; decide, by show (11 : Int) ≠ 35; decide⟩, fun e => absurd e (by show (11 : Int) ≠ 0; decide)⟩
theorem esc_ext (t s : List UInt8) (o : Int) : ExtV t (S.esc ⟨s, o, 0⟩) (S.esc ⟨s ++ t, o, 0⟩) := by
  cases s with
  | nil => exact ⟨.inl ⟨by show (11 : Int) ≠ 0; decide, by show (11 : Int) ≠ 35; decide⟩, fun e => absurd e (by show (11 : Int) ≠ 0; decide)⟩
  | cons c l =>
    show ExtV t (S.escT c ⟨l, o, 0⟩) (S.escT c ⟨l ++ t, o, 0⟩)
    unfold S.escT
    split
    · exact sign_ext t l o
    split
    · exact ⟨Ext.fail0 t l o 11 (by decide) _ rfl, fun _ => rfl⟩
    · exact ⟨Ext.ok _ _ _, fun _ => rfl⟩
theorem strLoop_bad (esc : S → List UInt8 × S) (n : Nat) (out : List UInt8) {a : S} (h : a.e ≠ 0) : strLoop esc n out a = (out, a) := by
  cases n with
  | zero => rfl
  | succ n => rw [strLoop, if_pos h]
theorem strLoop_ok (esc : S → List UInt8 × S) (n : Nat) (out s : List UInt8) (o : Int) : strLoop esc (n + 1) out ⟨s, o, 0⟩ =
    if (S.plain ⟨s, o, 0⟩).2 = false then (out ++ s.take (S.plain ⟨s, o, 0⟩).1, S.fail ⟨s, o, 0⟩ 11) else
    if s.getD (S.plain ⟨s, o, 0⟩).1 0 = 34 then (out ++ s.take (S.plain ⟨s, o, 0⟩).1, S.cut ⟨s, o, 0⟩) else
    strLoop esc n (out ++ s.take (S.plain ⟨s, o, 0⟩).1 ++ (esc (S.cut ⟨s, o, 0⟩)).1) (esc (S.cut ⟨s, o, 0⟩)).2 := by
  rw [strLoop, if_neg (show ¬ (S.mk s o 0).e ≠ 0 from fun h => h rfl)]
theorem strLoop_ext (t : List UInt8) : ∀ (n m : Nat) (out s : List UInt8) (o : Int), s.length < n → s.length + t.length < m →
    ExtV t (strLoop S.esc n out ⟨s, o, 0⟩) (strLoop S.esc m out ⟨s ++ t, o, 0⟩)
  | 0, _, _, _, _, h, _ => absurd h (by omega)
  | _, 0, _, _, _, _, h => absurd h (by omega)
  | n + 1, m + 1, out, s, o, hn, hm => by
    rw [strLoop_ok, strLoop_ok]
    cases hp : (S.plain ⟨s, o, 0⟩).2 with
    | false =>
      rw [if_pos rfl]
      exact ⟨.inl ⟨by show (11 : Int) ≠ 0; decide, by show (11 : Int) ≠ 35; decide⟩, fun e => absurd e (by show (11 : Int) ≠ 0; decide)⟩
    | true =>
      have hq := plain_app s t o 0 o 0 hp
      have hlt := (plain_le ⟨s, o, 0⟩).2 hp
      have htf : ¬ (true = false) := by decide
      rw [hq, hp, if_neg htf, if_neg htf]
      have hlt' : (S.plain ⟨s, o, 0⟩).1 < s.length := hlt
      have hc : S.cut ⟨s ++ t, o, 0⟩ = ⟨(S.cut ⟨s, o, 0⟩).s ++ t, o, 0⟩ := by
        unfold S.cut
        rw [hq]
        simp only []
        rw [List.drop_append_of_le_length (by omega)]
      have hc2 : S.cut ⟨s, o, 0⟩ = ⟨(S.cut ⟨s, o, 0⟩).s, o, 0⟩ := rfl
      have hcl : (S.cut ⟨s, o, 0⟩).s.length < s.length := by unfold S.cut; simp; omega
      rw [getD_app s t _ hlt', List.take_append_of_le_length (by omega), hc]
      by_cases h34 : s.getD (S.plain ⟨s, o, 0⟩).1 0 = 34
      · rw [if_pos h34, if_pos h34, hc2]; exact ⟨Ext.ok _ _ _, fun _ => rfl⟩
      · rw [if_neg h34, if_neg h34, hc2]
        generalize (S.cut ⟨s, o, 0⟩).s = s1 at hcl
        have hl := (esc_len ⟨s1, o, 0⟩).1
        rcases (esc_ext t s1 o).cases with h | h | ⟨x, s2, o2, h6, h7⟩
        · rw [strLoop_bad _ _ _ h.1]; exact ⟨.inl h, fun e => absurd e h.1⟩
        · rw [strLoop_bad _ _ _ (by rw [h.1]; decide), strLoop_bad _ _ _ (by rw [h.2]; decide)]
          exact ⟨.inr (.inl h), fun e => absurd (h.1.symm.trans e) (by decide)⟩
        · rw [h6] at hl
          rw [h6, h7]
          have hl2 : s2.length ≤ s1.length := hl
          exact strLoop_ext t n m _ s2 o2 (by omega) (by omega)
theorem st_ext (t s : List UInt8) (o : Int) (hs : s ≠ []) : ExtV t (S.st ⟨s, o, 0⟩) (S.st ⟨s ++ t, o, 0⟩) := by
  cases s with
  | nil => exact absurd rfl hs
  | cons c l =>
    unfold S.st S.str
    show ExtV t (strLoop S.esc ((c :: l).length + 1) [] ⟨l, o, 0⟩) (strLoop S.esc ((c :: l ++ t).length + 1) [] ⟨l ++ t, o, 0⟩)
    exact strLoop_ext t _ _ _ _ _ (by simp; omega) (by simp; omega)
theorem num_ext (t s : List UInt8) (o : Int) (ht : stop t) : Ext t (S.numS ⟨s, o, 0⟩) (S.numS ⟨s ++ t, o, 0⟩) ∧ S.numV ⟨s ++ t, o, 0⟩ = S.numV ⟨s, o, 0⟩ := by
  have hR : S.numR ⟨s ++ t, o, 0⟩ = S.numR ⟨s, o, 0⟩ ++ t := by
    unfold S.numR
    refine trim_app2 _ _ _ (fun c hc => ?_)
    have := ht c hc
    simp at this ⊢
    rcases this with h | h | h | h | h | h | h <;> subst h <;> decide
  have hL : S.numL ⟨s ++ t, o, 0⟩ = S.numL ⟨s, o, 0⟩ := by
    unfold S.numL
    rw [hR]
    have : (S.numR ⟨s, o, 0⟩).length ≤ s.length := numR_le ⟨s, o, 0⟩
    simp only []
    rw [List.length_append, List.length_append, show s.length + t.length - ((S.numR ⟨s, o, 0⟩).length + t.length) = s.length - (S.numR ⟨s, o, 0⟩).length by omega, List.take_append_of_le_length (by omega)]
  refine ⟨?_, by unfold S.numV; rw [hL]⟩
  unfold S.numS
  rw [hR, hL]
  simp only []
  split
  · exact Ext.ok _ _ _
  · rename_i h
    by_cases h35 : (NumP.parse (S.numL ⟨s, o, 0⟩)).2 = 35
    · exact .inr (.inl ⟨h35, by show (S.fail ⟨s ++ t, o, 0⟩ _).e = 35; rw [fail_e0 rfl]; exact h35⟩)
    · exact .inl ⟨h, h35⟩
end Js
end Go.Proofs.YtapcpndplnkfjaaGreatDoor
namespace Go.Proofs.YtapcpndplnkfjaaGreatDoor
open Go.RowKit Go.Proofs.YtapcpndplnkfjaaGreatDoorW.PrintWords Go.Proofs.YtapcpndplnkfjaaGreatDoorW.PrintLast Go.Proofs.YtapcpndplnkfjaaGreatDoorW.PrintMore
set_option linter.unusedVariables false
set_option linter.unusedSimpArgs false
namespace Js
variable {σ : Type}
theorem ExtV.bad {t : List UInt8} {p q : σ × S} (h1 : p.2.e ≠ 0) (h2 : p.2.e ≠ 35) : ExtV t p q := ⟨.inl ⟨h1, h2⟩, fun e => absurd e h1⟩
theorem ExtV.deep {t : List UInt8} {p q : σ × S} (h1 : p.2.e = 35) (h2 : q.2.e = 35) : ExtV t p q := ⟨.inr (.inl ⟨h1, h2⟩), fun e => absurd (h1.symm.trans e) (by decide)⟩
theorem ExtV.b11 {t : List UInt8} {p q : σ × S} (h1 : p.2.e = 11) : ExtV t p q := ExtV.bad (by rw [h1]; decide) (by rw [h1]; decide)
theorem Dry.skip {a : S} (h : Dry a) : Dry a.skip := ⟨h.1, by show Lib.trimLeftS a.skip.s _ = _; rw [h.2]; rfl⟩
theorem cons_skip {a : S} {c : UInt8} {l : List UInt8} {o : Int} (h : a.skip = ⟨c :: l, o, 0⟩) (t : List UInt8) : (S.mk (c :: t) o 0).skip = ⟨c :: t, o, 0⟩ := by
  have h1 : [32, 9, 10, 13].contains c = false := by
    have h2 : Lib.trimLeftS a.s [32, 9, 10, 13] = c :: l := congrArg S.s h
    unfold Lib.trimLeftS at h2
    cases hc : [32, 9, 10, 13].contains c with
    | false => rfl
    | true =>
      have := List.head?_dropWhile_not (fun x => [32, 9, 10, 13].contains x) a.s
      rw [h2] at this
      simp only [List.head?_cons] at this
      rw [hc] at this
      cases this
  unfold S.skip Lib.trimLeftS
  rw [List.dropWhile_cons, h1]
  rfl
structure Far (t : List UInt8) (st : σ → S → σ × S) : Prop where
  e : ∀ x a, a.e ≠ 0 → (st x a).2.e = a.e
  ext : ∀ x a b, Ext' t a b → ExtV t (st x a) (st x b)
  dry : ∀ x a, Dry a → (st x a).2.e = 11
  len : ∀ x a, (st x a).2.s.length ≤ a.s.length
theorem ExtV.look {t : List UInt8} {p q : σ × S} (h : ExtV t p q) : (p.2.e ≠ 0 ∧ p.2.e ≠ 35) ∨ (p.2.e = 35 ∧ q.2.e = 35) ∨ (p.2.e = 0 ∧ q.1 = p.1 ∧ Ext t p.2 q.2) := by
  rcases h.1 with k | k | k
  · exact .inl k
  · exact .inr (.inl k)
  · exact .inr (.inr ⟨k.1, h.2 k.1, h.1⟩)
theorem loop_ext {t : List UInt8} {st : σ → S → σ × S} (hs : Far t st) : ∀ (n m : Nat) (x : σ) (a b : S), a.s.length < n → b.s.length < m → Ext t a b →
    ExtV t (listLoop st n x a) (listLoop st m x b) ∨ Dry (listLoop st n x a).2
  | 0, _, _, _, _, h, _, _ => absurd h (by omega)
  | _, 0, _, _, _, _, h, _ => absurd h (by omega)
  | n + 1, m + 1, x, a, b, hn, hm, h => by
    rcases (show Ext' t a b from .inl h).cases with h | h | h | ⟨c, l, h1, h2, h3, h4, h5⟩
    · have := loop_bad st h.1 (n + 1) x
      exact .inl (ExtV.bad (by rw [this]; exact h.1) (by rw [this]; exact h.2))
    · have k1 := loop_bad st (a := a) (by rw [h.1]; decide) (n + 1) x
      have k2 := loop_bad st (a := b) (by rw [h.2]; decide) (m + 1) x
      exact .inl (ExtV.deep (k1.trans h.1) (k2.trans h.2))
    · right
      have k := dry_took h.2 [44] (by simp)
      unfold listLoop
      rw [k, if_neg (by decide), take_no k]
      exact Dry.skip h
    · have k := took_one h1 h2 h3 h4 h5 44
      by_cases hc : 44 = c
      · have k2 := k.2.1 hc
        have t1 : a.took [44] = true := by rw [k.1.1]; simpa using hc
        have t2 : b.took [44] = true := by rw [k.1.2]; simpa using hc
        have l1 := took_lt a 44 t1
        have l2 := took_lt b 44 t2
        unfold listLoop
        rw [if_pos t1, if_pos t2]
        have he : Ext' t (a.take [44]) (b.take [44]) := .inl (by rw [k2.1, k2.2]; exact Ext.ok _ _ _)
        have e1 := hs.ext x _ _ he
        have g1 := hs.len x (a.take [44])
        have g2 := hs.len x (b.take [44])
        rcases e1.look with h | h | h
        · have := loop_bad st h.1 n (st x (a.take [44])).1
          exact .inl (ExtV.bad (by rw [this]; exact h.1) (by rw [this]; exact h.2))
        · have k1 := loop_bad st (a := (st x (a.take [44])).2) (by rw [h.1]; decide) n (st x (a.take [44])).1
          have k2 := loop_bad st (a := (st x (b.take [44])).2) (by rw [h.2]; decide) m (st x (b.take [44])).1
          exact .inl (ExtV.deep (k1.trans h.1) (k2.trans h.2))
        · rw [h.2.1]
          exact loop_ext hs n m _ _ _ (by omega) (by omega) h.2.2
      · have k2 := k.2.2 hc
        have t1 : a.took [44] = false := by rw [k.1.1]; simpa using hc
        have t2 : b.took [44] = false := by rw [k.1.2]; simpa using hc
        unfold listLoop
        rw [t1, t2, if_neg (by decide), if_neg (by decide)]
        left
        rw [k2.1, k2.2]
        exact ⟨Ext.ok _ _ _, fun _ => rfl⟩
theorem Ext.left {t : List UInt8} {a b : S} (h : Ext t a b) : Ext t a.left b.left := by
  rcases h with h | h | h
  · exact .inl h
  · exact .inr (.inl h)
  · exact .inr (.inr ⟨h.1, by rw [h.2]; rfl⟩)
theorem tail_ext {t : List UInt8} {st : σ → S → σ × S} (hs : Far t st) (c : UInt8) (x : σ) {a b : S} (h : Ext t a b) :
    ExtV t ((listLoop st (a.s.length + 1) x a).1, ((listLoop st (a.s.length + 1) x a).2.need [c]).left) ((listLoop st (b.s.length + 1) x b).1, ((listLoop st (b.s.length + 1) x b).2.need [c]).left) := by
  have hk : ∀ d : S, (d.need [c]).left.e = 0 → d.e = 0 := fun d hd => by
    by_cases h0 : d.e = 0
    · exact h0
    · have := need_e h0 [c]
      exact absurd (this.symm.trans hd) h0
  rcases loop_ext hs (a.s.length + 1) (b.s.length + 1) x a b (by omega) (by omega) h with h | h
  · refine ⟨(Ext'.need (.inl h.1) [c] (by simp)).left, fun e => h.2 (hk _ e)⟩
  · exact ExtV.b11 (dry_need h.1 h.2 [c] (by simp))
theorem listG_ext {t : List UInt8} {st : σ → S → σ × S} (hs : Far t st) (d : UInt8) (x : σ) {a b : S} (h : Ext' t a b) : ExtV t (listG st [d] x a) (listG st [d] x b) := by
  rcases h.cases with h | h | h | ⟨c, l, h1, h2, h3, h4, h5⟩
  · have := listG_e hs.e [d] x h.1
    exact ExtV.bad (by rw [this]; exact h.1) (by rw [this]; exact h.2)
  · have k1 := listG_e hs.e [d] x (a := a) (by rw [h.1]; decide)
    have k2 := listG_e hs.e [d] x (a := b) (by rw [h.2]; decide)
    exact ExtV.deep (k1.trans h.1) (k2.trans h.2)
  · refine ExtV.b11 ?_
    have k := dry_took h.2 [d] (by simp)
    have k0 : Dry (a.take [d]) := by rw [take_no k]; exact Dry.skip h
    have k1 := hs.dry x _ k0
    have k2 := loop_bad st (a := (st x (a.take [d])).2) (by rw [k1]; decide) ((st x (a.take [d])).2.s.length + 1) (st x (a.take [d])).1
    have k3 := need_e (a := (listLoop st ((st x (a.take [d])).2.s.length + 1) (st x (a.take [d])).1 (st x (a.take [d])).2).2) (by rw [k2, k1]; decide) [d]
    unfold listG
    rw [k, if_neg (by decide)]
    exact k3.trans (k2.trans k1)
  · have k := took_one h1 h2 h3 h4 h5 d
    by_cases hc : d = c
    · have k2 := k.2.1 hc
      have t1 : a.took [d] = true := by rw [k.1.1]; simpa using hc
      have t2 : b.took [d] = true := by rw [k.1.2]; simpa using hc
      unfold listG
      rw [if_pos t1, if_pos t2, k2.1, k2.2]
      exact ⟨(Ext.ok _ _ _).left, fun _ => rfl⟩
    · have k2 := k.2.2 hc
      have t1 : a.took [d] = false := by rw [k.1.1]; simpa using hc
      have t2 : b.took [d] = false := by rw [k.1.2]; simpa using hc
      unfold listG
      rw [t1, t2, if_neg (by decide), if_neg (by decide), k2.1, k2.2]
      have e1 := hs.ext x _ _ (.inl (Ext.ok t (c :: l) a.o))
      simp only [List.cons_append] at e1
      rcases e1.look with h | h | h
      · have q2 := loop_bad st h.1 ((st x ⟨c :: l, a.o, 0⟩).2.s.length + 1) (st x ⟨c :: l, a.o, 0⟩).1
        have q3 := need_e (by rw [q2]; exact h.1) [d]
        exact ExtV.bad (by show (S.need _ _).e ≠ 0; rw [q3, q2]; exact h.1) (by show (S.need _ _).e ≠ 35; rw [q3, q2]; exact h.2)
      · have q2 := loop_bad st (a := (st x ⟨c :: l, a.o, 0⟩).2) (by rw [h.1]; decide) ((st x ⟨c :: l, a.o, 0⟩).2.s.length + 1) (st x ⟨c :: l, a.o, 0⟩).1
        have q3 := need_e (by rw [q2, h.1]; decide) [d]
        have r2 := loop_bad st (a := (st x ⟨c :: (l ++ t), a.o, 0⟩).2) (by rw [h.2]; decide) ((st x ⟨c :: (l ++ t), a.o, 0⟩).2.s.length + 1) (st x ⟨c :: (l ++ t), a.o, 0⟩).1
        have r3 := need_e (by rw [r2, h.2]; decide) [d]
        exact ExtV.deep (q3.trans (q2.trans h.1)) (r3.trans (r2.trans h.2))
      · rw [h.2.1]
        exact tail_ext hs d _ h.2.2
theorem enter_ext {t : List UInt8} (s : List UInt8) (o : Int) (hs : s ≠ []) : Ext t (S.enter ⟨s, o, 0⟩) (S.enter ⟨s ++ t, o, 0⟩) := by
  unfold S.enter
  by_cases h : o = 16
  · have h1 : S.enter0 ⟨s, o, 0⟩ = ⟨s, o, 35⟩ := by unfold S.enter0; rw [if_pos h]; rfl
    have h2 : S.enter0 ⟨s ++ t, o, 0⟩ = ⟨s ++ t, o, 35⟩ := by unfold S.enter0; rw [if_pos h]; rfl
    rw [h1, h2]
    exact .inr (.inl ⟨rfl, rfl⟩)
  · have h1 : S.enter0 ⟨s, o, 0⟩ = ⟨s, o, 0⟩ := by unfold S.enter0; rw [if_neg h]
    have h2 : S.enter0 ⟨s ++ t, o, 0⟩ = ⟨s ++ t, o, 0⟩ := by unfold S.enter0; rw [if_neg h]
    rw [h1, h2]
    unfold S.enter1
    rw [if_pos rfl, if_pos rfl]
    refine .inr (.inr ⟨rfl, ?_⟩)
    cases s with
    | nil => exact absurd rfl hs
    | cons c l => rfl
theorem value_ext {t : List UInt8} (ht : stop t) {ft fa fo : S → S28 × S} (h1 : ∀ s o, s ≠ [] → ExtV t (ft ⟨s, o, 0⟩) (ft ⟨s ++ t, o, 0⟩)) (h2 : ∀ s o, s ≠ [] → ExtV t (fa ⟨s, o, 0⟩) (fa ⟨s ++ t, o, 0⟩)) (h3 : ∀ s o, s ≠ [] → ExtV t (fo ⟨s, o, 0⟩) (fo ⟨s ++ t, o, 0⟩))
    {a b : S} (h : Ext' t a b) : ExtV t (S.value ft fa fo a) (S.value ft fa fo b) := by
  unfold S.value
  rcases h.cases with h | h | h | ⟨c, l, e1, e2, e3, e4, e5⟩
  · have k : S.value1 ft fa fo a.skip = (z28, a.skip) := by unfold S.value1; rw [if_pos (show a.skip.e ≠ 0 from h.1)]
    rw [k]
    exact ExtV.bad h.1 h.2
  · have k : S.value1 ft fa fo a.skip = (z28, a.skip) := by unfold S.value1; rw [if_pos (show a.skip.e ≠ 0 from by show a.e ≠ 0; rw [h.1]; decide)]
    have k2 : S.value1 ft fa fo b.skip = (z28, b.skip) := by unfold S.value1; rw [if_pos (show b.skip.e ≠ 0 from by show b.e ≠ 0; rw [h.2]; decide)]
    rw [k, k2]
    exact ExtV.deep h.1 h.2
  · refine ExtV.b11 ?_
    unfold S.value1
    rw [if_neg (by show ¬ a.e ≠ 0; rw [h.1]; decide), h.2]
    exact fail_e0 (a := a.skip) h.1 _
  · rw [e4, e5]
    have hne : c :: l ≠ [] := by simp
    have nd : ∀ p : List UInt8, p ≠ [] → Ext t (S.need ⟨c :: l, a.o, 0⟩ p) (S.need ⟨c :: (l ++ t), a.o, 0⟩ p) := fun p hp => Ext'.need (.inl (Ext.ok t (c :: l) a.o)) p hp
    unfold S.value1
    rw [if_neg (show ¬ (S.mk (c :: l) a.o 0).e ≠ 0 from fun h => h rfl), if_neg (show ¬ (S.mk (c :: (l ++ t)) a.o 0).e ≠ 0 from fun h => h rfl)]
    simp only []
    split
    · exact ⟨nd _ (by simp), fun _ => rfl⟩
    split
    · exact ⟨nd _ (by simp), fun _ => rfl⟩
    split
    · exact ⟨nd _ (by simp), fun _ => rfl⟩
    split
    · exact h1 _ _ hne
    split
    · exact h2 _ _ hne
    split
    · exact h3 _ _ hne
    split
    · have := num_ext t (c :: l) a.o ht
      exact ⟨this.1, fun _ => this.2⟩
    · exact ⟨Ext.fail0 t (c :: l) a.o 11 (by decide) _ rfl, fun _ => rfl⟩
theorem objA_ext {t : List UInt8} (ns : List ByteArray) {a b : S} {l : List UInt8} {c : UInt8} (h4 : a.skip = ⟨c :: l, a.o, 0⟩) (h5 : b.skip = ⟨c :: (l ++ t), a.o, 0⟩) :
    Ext t (objA ns a) (objA ns b) ∧ ((objA ns a).e = 0 → objN b = objN a) := by
  unfold objA objN
  rw [h4, h5]
  rcases (st_ext t (c :: l) a.o (by simp)).cases with h | h | ⟨x, s2, o2, h6, h7⟩
  · have k1 := twice_e h.1 (has ns (ofL (S.st ⟨c :: l, a.o, 0⟩).1))
    have k2 := need_e (by rw [k1]; exact h.1) [58]
    have k3 := k2.trans k1
    exact ⟨.inl (by rw [k3]; exact h), fun e => absurd (k3.symm.trans e) h.1⟩
  · have n1 : (S.st ⟨c :: l, a.o, 0⟩).2.e ≠ 0 := by rw [h.1]; decide
    have n2 : (S.st ⟨c :: l ++ t, a.o, 0⟩).2.e ≠ 0 := by rw [h.2]; decide
    have k1 := twice_e n1 (has ns (ofL (S.st ⟨c :: l, a.o, 0⟩).1))
    have k2 := need_e (by rw [k1]; exact n1) [58]
    have k3 := k2.trans k1
    have q1 := twice_e n2 (has ns (ofL (S.st ⟨c :: l ++ t, a.o, 0⟩).1))
    have q2 := need_e (by rw [q1]; exact n2) [58]
    have q3 := q2.trans q1
    exact ⟨.inr (.inl ⟨k3.trans h.1, q3.trans h.2⟩), fun e => absurd (k3.symm.trans e) n1⟩
  · simp only [List.cons_append] at h7
    rw [h6, h7]
    refine ⟨?_, fun _ => rfl⟩
    refine Ext'.need (.inl ?_) [58] (by simp)
    show Ext t (S.twice ⟨s2, o2, 0⟩ (has ns (ofL x))) (S.twice ⟨s2 ++ t, o2, 0⟩ (has ns (ofL x)))
    unfold S.twice
    split
    · exact Ext.fail0 t s2 o2 31 (by decide) _ rfl
    · exact Ext.ok _ _ _
theorem arr_far {t : List UInt8} {n : Nat} (h1 : ∀ a b, Ext' t a b → ExtV t (gv n a) (gv n b)) (h2 : ∀ a, Dry a → (gv n a).2.e = 11) : Far t (arrT (gv n)) where
  e := fun x a h => arrT_e h n x
  ext := fun x a b h => ⟨(h1 a b h).1, fun e => by unfold arrT at *; rw [(h1 a b h).2 e]⟩
  dry := fun x a h => h2 a h
  len := fun x a => (keeps_gv n a).len
theorem obj_far {t : List UInt8} {n : Nat} (h1 : ∀ a b, Ext' t a b → ExtV t (gv n a) (gv n b)) (h2 : ∀ a, Dry a → (gv n a).2.e = 11) : Far t (objT (gv n)) where
  e := fun x a h => objT_e h n x
  len := fun x a => by
    unfold objT
    split
    · exact ((keeps_skip a).trans (keeps_fail _ 11 (by decide))).len
    · exact ((keeps_objA _ a).trans (keeps_gv n _)).len
  dry := fun x a h => by
    unfold objT
    rw [h.2]
    rw [if_pos (by rfl)]
    exact fail_e0 (a := a.skip) h.1 _
  ext := fun x a b h => by
    rcases h.cases with h | h | h | ⟨c, l, e1, e2, e3, e4, e5⟩
    · have := objT_e h.1 n x
      exact ExtV.bad (by rw [this]; exact h.1) (by rw [this]; exact h.2)
    · have k1 := objT_e (a := a) (by rw [h.1]; decide) n x
      have k2 := objT_e (a := b) (by rw [h.2]; decide) n x
      exact ExtV.deep (k1.trans h.1) (k2.trans h.2)
    · refine ExtV.b11 ?_
      unfold objT
      rw [h.2]
      rw [if_pos (by rfl)]
      exact fail_e0 (a := a.skip) h.1 _
    · have ho := objA_ext x.2 e4 e5
      unfold objT
      rw [e4, e5, pref_one, pref_one]
      split
      · exact ⟨Ext.fail0 t (c :: l) a.o 11 (by decide) _ rfl, fun _ => rfl⟩
      · have hv := h1 _ _ (.inl ho.1)
        refine ⟨hv.1, fun e => ?_⟩
        have e0 : (objA x.2 a).e = 0 := by
          by_cases h0 : (objA x.2 a).e = 0
          · exact h0
          · have := gv_bad h0 n
            simp only [] at e
            rw [this] at e
            exact absurd e h0
        simp only []
        rw [ho.2 e0, hv.2 e]
theorem gv_dry : ∀ n a, Dry a → (gv n a).2.e = 11
  | 0, a, h => by unfold gv; rw [if_pos h.1]; exact fail_e0 (a := a.skip) h.1 _
  | n + 1, a, h => by
    show (S.value _ _ _ a).2.e = 11
    unfold S.value S.value1
    rw [if_neg (by show ¬ a.e ≠ 0; rw [h.1]; decide), h.2]
    exact fail_e0 (a := a.skip) h.1 _
theorem gv_ext {t : List UInt8} (ht : stop t) : ∀ (n : Nat) (a b : S), Ext' t a b → ExtV t (gv n a) (gv n b)
  | 0, a, b, h => by
    rcases h.cases with h | h | h | ⟨c, l, e1, e2, e3, e4, e5⟩
    · rw [gv_bad h.1]; exact ExtV.bad h.1 h.2
    · rw [gv_bad (a := a) (by rw [h.1]; decide), gv_bad (a := b) (by rw [h.2]; decide)]; exact ExtV.deep h.1 h.2
    · exact ExtV.b11 (gv_dry 0 a h)
    · refine ExtV.b11 ?_
      unfold gv; rw [if_pos e1]; exact fail_e0 (a := a.skip) e1 _
  | n + 1, a, b, h => by
    have ih := gv_ext ht n
    refine value_ext ht (fun s o hs => ?_) (fun s o hs => ?_) (fun s o hs => ?_) h
    · have := st_ext t s o hs
      exact ⟨this.1, fun e => by unfold textV at *; rw [this.2 e]⟩
    · have := listG_ext (arr_far ih (gv_dry n)) 93 [] (.inl (enter_ext (t := t) s o hs))
      unfold S.arr
      rw [listF_G, listF_G]
      exact ⟨this.1, fun e => by simp only []; rw [this.2 e]⟩
    · have := listG_ext (obj_far ih (gv_dry n)) 125 ([], []) (.inl (enter_ext (t := t) s o hs))
      unfold S.obj
      rw [listF_G, listF_G]
      exact ⟨this.1, fun e => by simp only []; rw [this.2 e]⟩
end Js
end Go.Proofs.YtapcpndplnkfjaaGreatDoor
namespace Go.Proofs.YtapcpndplnkfjaaGreatDoor
open Go.RowKit Go.Proofs.YtapcpndplnkfjaaGreatDoorW.PrintWords Go.Proofs.YtapcpndplnkfjaaGreatDoorW.PrintLast Go.Proofs.YtapcpndplnkfjaaGreatDoorW.PrintMore
set_option linter.unusedVariables false
set_option linter.unusedSimpArgs false
namespace Js
variable {σ : Type}
def S.up (a : S) : S := ⟨a.s, a.o + 1, a.e⟩
theorem up_fail (a : S) (x : Int) : a.up.fail x = (a.fail x).up := rfl
theorem up_took (a : S) (p : List UInt8) : a.up.took p = a.took p := rfl
theorem up_take (a : S) (p : List UInt8) : a.up.take p = (a.take p).up := by
  unfold S.take
  rw [up_took]
  split <;> rfl
theorem up_need (a : S) (p : List UInt8) : a.up.need p = (a.need p).up := by
  unfold S.need
  rw [up_took, up_take]
  split
  · rfl
  · exact up_fail _ _
theorem up_four (a : S) : a.up.four = (a.four.1, a.four.2.up) := by
  unfold S.four
  show (if a.s.length < 4 then _ else _) = _
  split
  · rfl
  · show fourV a.up (fourLoop a.low (a.low.size + 1) 0 0) = _
    cases fourLoop a.low (a.low.size + 1) 0 0 <;> rfl
theorem up_sgn (x : Int) (c : S) : S.sgn x c.up = ((S.sgn x c).1, (S.sgn x c).2.up) := by
  unfold S.sgn
  rw [up_four]
  simp only []
  split
  · rw [up_fail]
  · rfl
theorem up_sign (a : S) : a.up.sign = (a.sign.1, a.sign.2.up) := by
  unfold S.sign
  rw [up_four]
  simp only []
  split
  · rfl
  show (if 56320 ≤ a.four.1 ∨ Lib.hasPrefix a.four.2.s [92, 117] = false then _ else _) = _
  split
  · rfl
  · show S.sgn a.four.1 a.four.2.pre.up = _
    exact up_sgn _ _
theorem up_esc (a : S) : a.up.esc = (a.esc.1, a.esc.2.up) := by
  obtain ⟨s, o, e⟩ := a
  cases s with
  | nil => rfl
  | cons c l =>
    show S.escT c (S.up ⟨l, o, e⟩) = ((S.escT c ⟨l, o, e⟩).1, (S.escT c ⟨l, o, e⟩).2.up)
    unfold S.escT
    split
    · exact up_sign _
    split <;> rfl
theorem up_loop : ∀ (n : Nat) (out : List UInt8) (a : S), strLoop S.esc n out a.up = ((strLoop S.esc n out a).1, (strLoop S.esc n out a).2.up)
  | 0, out, a => rfl
  | n + 1, out, a => by
    rw [strLoop, strLoop]
    show (if a.e ≠ 0 then _ else if a.plain.2 = false then _ else if a.s.getD a.plain.1 0 = 34 then _ else _) = _
    split
    · rfl
    split
    · rfl
    split
    · rfl
    · show strLoop S.esc n (out ++ a.s.take a.plain.1 ++ (a.cut.up.esc).1) (a.cut.up.esc).2 = _
      rw [up_esc]
      exact up_loop n _ _
theorem up_st (a : S) : a.up.st = (a.st.1, a.st.2.up) := by
  show strLoop S.esc (a.s.length + 1) [] a.tl.up = _
  exact up_loop _ _ _
theorem up_num (a : S) : a.up.numS = a.numS.up ∧ a.up.numV = a.numV := by
  refine ⟨?_, rfl⟩
  unfold S.numS
  show S.mk _ _ _ = S.up _
  simp only []
  show S.mk a.numR (if (NumP.parse a.numL).2 = 0 then a.up else a.up.fail (NumP.parse a.numL).2).o (if (NumP.parse a.numL).2 = 0 then a.up else a.up.fail (NumP.parse a.numL).2).e = _
  split <;> rfl
def Dp (n : Nat) (a b : S) : Prop := b.e = 35 ∨ (b = a.up ∧ a.o + 1 + n = 17 ∧ (n = 0 → a.e ≠ 0))
def DpV (n : Nat) (p q : σ × S) : Prop := Dp n p.2 q.2 ∧ (q.2.e ≠ 35 → q.1 = p.1)
theorem Dp.map {n : Nat} {a b : S} {f : S → S} (h : Dp n a b) (hu : f a.up = (f a).up) (he : ∀ c : S, c.e ≠ 0 → (f c).e = c.e) (ho : (f a).o = a.o) : Dp n (f a) (f b) := by
  rcases h with h | ⟨h1, h2, h3⟩
  · exact .inl ((he b (by rw [h]; decide)).trans h)
  · exact .inr ⟨by rw [h1, hu], by rw [ho]; exact h2, fun e => by rw [he a (h3 e)]; exact h3 e⟩
theorem Dp.take {n : Nat} {a b : S} (h : Dp n a b) (p : List UInt8) : Dp n (a.take p) (b.take p) := h.map (f := fun c => c.take p) (up_take a p) (fun c _ => take_e c p) (take_o a p)
theorem Dp.need {n : Nat} {a b : S} (h : Dp n a b) (p : List UInt8) : Dp n (a.need p) (b.need p) := h.map (f := fun c => c.need p) (up_need a p) (fun c hc => need_e hc p) (need_o a p)
theorem Dp.skip {n : Nat} {a b : S} (h : Dp n a b) : Dp n a.skip b.skip := h.map (f := fun c => c.skip) rfl (fun c _ => rfl) rfl
theorem Dp.fail {n : Nat} {a b : S} (h : Dp n a b) (x : Int) : Dp n (a.fail x) (b.fail x) := h.map (f := fun c => c.fail x) rfl (fun c hc => fail_e hc x) (fail_o a x)
theorem DpV.deep {n : Nat} {p q : σ × S} (h : q.2.e = 35) : DpV n p q := ⟨.inl h, fun e => absurd h e⟩
theorem loop_dp {n : Nat} {st st' : σ → S → σ × S} (h1 : ∀ x a b, Dp n a b → DpV n (st x a) (st' x b)) :
    ∀ (k m : Nat) (x : σ) (a b : S), (b.e ≠ 35 → m = k) → Dp n a b → DpV n (listLoop st k x a) (listLoop st' m x b) := by
  intro k
  induction k with
  | zero =>
    intro m x a b hm h
    rcases h with h | h
    · have := loop_bad st' (a := b) (by rw [h]; decide) m x
      exact DpV.deep (this.trans h)
    · by_cases hb : b.e = 35
      · have := loop_bad st' (a := b) (by rw [hb]; decide) m x
        exact DpV.deep (this.trans hb)
      · have := hm hb; subst this
        exact ⟨.inr h, fun _ => rfl⟩
  | succ k ih =>
    intro m x a b hm h
    by_cases hb : b.e = 35
    · have := loop_bad st' (a := b) (by rw [hb]; decide) m x
      exact DpV.deep (this.trans hb)
    · have := hm hb; subst this
      rcases h with h | h
      · exact absurd h hb
      · have ht : b.took [44] = a.took [44] := by rw [h.1]; rfl
        unfold listLoop
        rw [ht]
        have hk := (show Dp n a b from .inr h).take [44]
        split
        · have h2 := h1 x _ _ hk
          by_cases hq : (st' x (b.take [44])).2.e = 35
          · have := loop_bad st' (a := (st' x (b.take [44])).2) (by rw [hq]; decide) k (st' x (b.take [44])).1
            exact DpV.deep (this.trans hq)
          · rw [h2.2 hq]
            exact ih k _ _ _ (fun _ => rfl) h2.1
        · exact ⟨hk, fun _ => rfl⟩
theorem Dp.left {n : Nat} {a b : S} (h : Dp n a b) : Dp (n + 1) a.left b.left := by
  rcases h with h | ⟨h1, h2, h3⟩
  · exact .inl h
  · refine .inr ⟨?_, ?_, fun e => by cases e⟩
    · rw [h1]; show S.mk _ _ _ = S.mk _ _ _; congr 1
      show a.o + 1 - 1 = a.o - 1 + 1; omega
    · show a.o - 1 + 1 + ((n + 1 : Nat) : Int) = 17; push_cast; omega
theorem listG_dp {n : Nat} {st st' : σ → S → σ × S} (he : ∀ x a, a.e ≠ 0 → (st' x a).2.e = a.e) (h1 : ∀ x a b, Dp n a b → DpV n (st x a) (st' x b)) (p : List UInt8) (x : σ) {a b : S} (h : Dp n a b) :
    DpV (n + 1) (listG st p x a) (listG st' p x b) := by
  by_cases hb : b.e = 35
  · exact DpV.deep ((listG_e he p x (by rw [hb]; decide)).trans hb)
  · rcases h with h | h
    · exact absurd h hb
    · have ht : b.took p = a.took p := by rw [h.1]; rfl
      have hk := (show Dp n a b from .inr h).take p
      unfold listG
      rw [ht]
      split
      · exact ⟨hk.left, fun _ => rfl⟩
      · have h2 := h1 x _ _ hk
        have hl := loop_dp h1 ((st x (a.take p)).2.s.length + 1) ((st' x (b.take p)).2.s.length + 1) (st x (a.take p)).1 (st x (a.take p)).2 (st' x (b.take p)).2 (fun hq => by
          rcases h2.1 with k | k
          · exact absurd k hq
          · rw [k.1]; rfl) h2.1
        refine ⟨?_, fun hq => ?_⟩
        · by_cases hq : (st' x (b.take p)).2.e = 35
          · have k1 := loop_bad st' (a := (st' x (b.take p)).2) (by rw [hq]; decide) ((st' x (b.take p)).2.s.length + 1) (st' x (b.take p)).1
            have k2 := need_e (by rw [k1, hq]; decide) p
            exact .inl (k2.trans (k1.trans hq))
          · rw [h2.2 hq]
            exact (hl.1.need p).left
        · by_cases hq2 : (st' x (b.take p)).2.e = 35
          · have k1 := loop_bad st' (a := (st' x (b.take p)).2) (by rw [hq2]; decide) ((st' x (b.take p)).2.s.length + 1) (st' x (b.take p)).1
            have k2 := need_e (by rw [k1, hq2]; decide) p
            exact absurd (k2.trans (k1.trans hq2)) hq
          · simp only [] at hq ⊢
            rw [h2.2 hq2] at hq ⊢
            refine hl.2 (fun e => ?_)
            have k2 := need_e (a := (listLoop st' ((st' x (b.take p)).2.s.length + 1) (st x (a.take p)).1 (st' x (b.take p)).2).2) (by rw [e]; decide) p
            exact hq (k2.trans e)
theorem enter_dp {n : Nat} {a : S} (he : a.e = 0) (ho : a.o + 1 + (n + 1) = 17) : Dp n a.enter a.up.enter := by
  have h0 : a.enter0 = a := by unfold S.enter0; rw [if_neg (by omega)]
  unfold S.enter
  rw [h0]
  by_cases h1 : a.o = 15
  · have h2 : a.up.enter0 = ⟨a.s, a.o + 1, 35⟩ := by
      unfold S.enter0
      rw [if_pos (by show a.o + 1 = 16; omega)]
      unfold S.fail S.up
      rw [he]; rfl
    rw [h2]
    exact .inl rfl
  · have h2 : a.up.enter0 = a.up := by unfold S.enter0; rw [if_neg (by show a.o + 1 ≠ 16; omega)]
    rw [h2]
    unfold S.enter1
    rw [if_pos he, if_pos (show a.up.e = 0 from he)]
    exact .inr ⟨rfl, by show a.o + 1 + 1 + (n : Int) = 17; omega, fun e => by subst e; exact absurd ho (by push_cast; omega)⟩
theorem objA_dp {n : Nat} (ns : List ByteArray) {a b : S} (h : Dp n a b) : Dp n (objA ns a) (objA ns b) ∧ (b.e ≠ 35 → objN b = objN a) := by
  refine ⟨h.map (f := objA ns) ?_ (fun c hc => objA_e hc ns) ?_, fun hb => ?_⟩
  · unfold objA objN
    show S.need (S.twice a.skip.up.st.2 (has ns (ofL a.skip.up.st.1))) [58] = _
    rw [up_st]
    show S.need (S.twice a.skip.st.2.up (has ns (ofL a.skip.st.1))) [58] = _
    have : ∀ (c : S) (q : Bool), S.twice c.up q = (S.twice c q).up := fun c q => by unfold S.twice; split <;> rfl
    rw [this, up_need]
  · exact (keeps_objA ns a).o
  · rcases h with h | h
    · exact absurd h hb
    · unfold objN
      rw [h.1]
      show ofL a.skip.up.st.1 = _
      rw [up_st]
theorem gv_dp : ∀ (n : Nat) (a b : S), Dp n a b → DpV n (gv (n + 1) a) (gv n b) := by
  intro n
  induction n with
  | zero =>
    intro a b h
    by_cases hb : b.e = 35
    · rw [gv_bad (a := b) (by rw [hb]; decide)]; exact DpV.deep hb
    · rcases h with h | h
      · exact absurd h hb
      · have ha := h.2.2 rfl
        rw [gv_bad (a := a) ha, gv_bad (a := b) (by rw [h.1]; exact ha)]
        exact ⟨(show Dp 0 a b from .inr h).skip, fun _ => rfl⟩
  | succ n ih =>
    intro a b h
    by_cases hb : b.e = 35
    · rw [gv_bad (a := b) (by rw [hb]; decide)]; exact DpV.deep hb
    · rcases h with h | h
      · exact absurd h hb
      · by_cases ha : a.e = 0
        · have hk := (show Dp (n + 1) a b from .inr h).skip
          obtain ⟨h1, h2, -⟩ := h
          subst h1
          show DpV (n + 1) (S.value1 textV (S.arr (gv (n + 1))) (S.obj (gv (n + 1))) a.skip) (S.value1 textV (S.arr (gv n)) (S.obj (gv n)) a.skip.up)
          rw [show a.up.skip = a.skip.up from rfl] at hk
          have hc2 : a.skip.o + 1 + ((n : Int) + 1) = 17 := by show a.o + 1 + _ = _; push_cast at h2; omega
          have hce : a.skip.e = 0 := ha
          generalize a.skip = c at *
          have hen := enter_dp hce hc2
          unfold S.value1
          rw [if_neg (fun h => h hce), if_neg (show ¬ c.up.e ≠ 0 from fun h => h hce)]
          have hs : c.up.s = c.s := rfl
          rw [hs]
          cases hl : c.s with
          | nil => exact ⟨hk.fail 11, fun _ => rfl⟩
          | cons d l =>
            simp only []
            split
            · exact ⟨hk.need _, fun _ => rfl⟩
            split
            · exact ⟨hk.need _, fun _ => rfl⟩
            split
            · exact ⟨hk.need _, fun _ => rfl⟩
            split
            · refine ⟨?_, fun _ => ?_⟩
              · exact hk.map (f := fun a => a.st.2) (by show (c.up.st).2 = _; rw [up_st]) (fun c hc => by rw [st_bad hc]; rfl) (keeps_st c).o
              · unfold textV; rw [up_st]
            split
            · have := listG_dp (st := arrT (gv (n + 1))) (st' := arrT (gv n)) (fun x a h => arrT_e h n x) (fun x a b h => ⟨(ih a b h).1, fun e => by unfold arrT at *; rw [(ih a b h).2 e]⟩) [93] [] hen
              unfold S.arr
              rw [listF_G, listF_G]
              exact ⟨this.1, fun e => by simp only []; rw [this.2 e]⟩
            split
            · have := listG_dp (st := objT (gv (n + 1))) (st' := objT (gv n)) (fun x a h => objT_e h n x) (fun x a b h => by
                by_cases hb : b.e = 35
                · exact DpV.deep ((objT_e (by rw [hb]; decide) n x).trans hb)
                · have ho := objA_dp x.2 h
                  have hpp : Lib.hasPrefix b.skip.s [34] = Lib.hasPrefix a.skip.s [34] := by
                    rcases h with h | h
                    · exact absurd h hb
                    · rw [h.1]; rfl
                  unfold objT
                  rw [hpp]
                  split
                  · exact ⟨h.skip.fail 11, fun _ => rfl⟩
                  · have hv := ih _ _ ho.1
                    refine ⟨hv.1, fun e => ?_⟩
                    simp only []
                    rw [ho.2 hb, hv.2 e]) [125] ([], []) hen
              unfold S.obj
              rw [listF_G, listF_G]
              exact ⟨this.1, fun e => by simp only []; rw [this.2 e]⟩
            split
            · exact ⟨hk.map (f := fun a => a.numS) (up_num c).1 (fun c hc => numS_e hc) (keeps_num c).o, fun _ => (up_num c).2⟩
            · exact ⟨hk.fail 11, fun _ => rfl⟩
        · rw [gv_bad (a := a) ha, gv_bad (a := b) (by rw [h.1]; exact ha)]
          exact ⟨(show Dp (n + 1) a b from .inr h).skip, fun _ => rfl⟩
theorem fail_ne (a : S) (x : Int) (hx : x ≠ 0) : (a.fail x).e ≠ 0 := by
  by_cases h : a.e = 0
  · rw [fail_e0 h]; exact hx
  · rw [fail_e h]; exact h
theorem pv_gv (s : List UInt8) (hl : s.length ≤ 4096) : pv s = if (gv 17 ⟨s, 0, 0⟩).2.ended.e = 0 then ((gv 17 ⟨s, 0, 0⟩).1, 0) else (z28, (gv 17 ⟨s, 0, 0⟩).2.ended.e) := by
  unfold pv parseV
  rw [if_neg (by omega), gv_eq 17 _ ⟨by show s.length ≤ 900000; omega, rfl, (fun e => absurd e (by decide)), Nat.le_refl _⟩]
theorem pv_ok {s : List UInt8} {x : S28} (h : pv s = (x, 0)) : s.length ≤ 4096 ∧ ∃ r, gv 17 ⟨s, 0, 0⟩ = (x, ⟨r, 0, 0⟩) ∧ Lib.trimLeftS r [32, 9, 10, 13] = [] := by
  by_cases hl : s.length ≤ 4096
  · refine ⟨hl, ?_⟩
    rw [pv_gv s hl] at h
    have hk := (keeps_gv 17 ⟨s, 0, 0⟩).o
    generalize gv 17 ⟨s, 0, 0⟩ = q at hk h ⊢
    obtain ⟨y, r, o, e⟩ := q
    simp only [] at hk h
    subst hk
    split at h
    · rename_i h1
      refine ⟨r, ?_, ?_⟩
      · have hy : y = x := congrArg Prod.fst h
        have he : e = 0 := by
          by_cases h0 : e = 0
          · exact h0
          · exfalso
            unfold S.ended at h1
            split at h1
            · exact h0 h1
            · exact fail_ne _ 11 (by decide) h1
        rw [hy, he]
      · unfold S.ended at h1
        split at h1
        · rename_i h2; exact h2
        · exact absurd h1 (fail_ne _ 11 (by decide))
    · rename_i h1
      exact absurd (congrArg Prod.snd h) h1
  · unfold pv parseV at h
    rw [if_pos (by omega)] at h
    exact absurd (show (13 : Int) = 0 from congrArg Prod.snd h) (by decide)
theorem pv_of {s r : List UInt8} {x : S28} (hl : s.length ≤ 4096) (h : gv 17 ⟨s, 0, 0⟩ = (x, ⟨r, 0, 0⟩)) (hr : Lib.trimLeftS r [32, 9, 10, 13] = []) : pv s = (x, 0) := by
  rw [pv_gv s hl, h]
  have : (S.ended ⟨r, 0, 0⟩).e = 0 := by unfold S.ended; rw [if_pos (show (S.skip ⟨r, 0, 0⟩).s = [] from hr)]; rfl
  simp only []
  rw [if_pos this]
theorem pv_bad {s : List UInt8} {x : S28} {b : S} {e : Int} (hl : s.length ≤ 4096) (h : gv 17 ⟨s, 0, 0⟩ = (x, b)) (hb : b.e = e) (he : e ≠ 0) : pv s = (z28, e) := by
  rw [pv_gv s hl, h]
  have : b.ended.e = e := by
    unfold S.ended
    split
    · exact hb
    · exact (fail_e (a := b.skip) (by show b.e ≠ 0; rw [hb]; exact he) _).trans hb
  simp only []
  rw [this, if_neg he]
structure Reads (s : List UInt8) (x : S28) (r : List UInt8) : Prop where
  at0 : ∀ t, stop t → gv 17 ⟨s ++ t, 0, 0⟩ = (x, ⟨r ++ t, 0, 0⟩)
  dry : Lib.trimLeftS r [32, 9, 10, 13] = []
  at1 : (∀ t, stop t → gv 16 ⟨s ++ t, 1, 0⟩ = (x, ⟨r ++ t, 1, 0⟩)) ∨ (∀ t, stop t → (gv 16 ⟨s ++ t, 1, 0⟩).2.e = 35)
theorem stop_nil : stop [] := fun c hc => by cases hc
theorem ExtV.at {t : List UInt8} {p q : S28 × S} {x : S28} {r : List UInt8} {o : Int} (h : ExtV t p q) (hp : p = (x, ⟨r, o, 0⟩)) : q = (x, ⟨r ++ t, o, 0⟩) := by
  subst hp
  obtain ⟨y, b⟩ := q
  obtain ⟨h1, h2⟩ := h
  have h3 : y = x := h2 rfl
  rcases h1 with h | h | h
  · exact absurd rfl h.1
  · exact absurd (show (0 : Int) = 35 from h.1) (by decide)
  · rw [h3, show b = _ from h.2]
theorem reads {s : List UInt8} {x : S28} (h : pv s = (x, 0)) : ∃ r, Reads s x r := by
  obtain ⟨hl, r, hg, hr⟩ := pv_ok h
  refine ⟨r, fun t ht => ?_, hr, ?_⟩
  · exact (gv_ext ht 17 ⟨s, 0, 0⟩ ⟨s ++ t, 0, 0⟩ (.inl (Ext.ok _ _ _))).at hg
  · have hd := gv_dp 16 ⟨s, 0, 0⟩ ⟨s, 1, 0⟩ (.inr ⟨rfl, (show (0 : Int) + 1 + ((16 : Nat) : Int) = 17 by decide), fun e => absurd e (by decide)⟩)
    rw [hg] at hd
    by_cases hb : (gv 16 ⟨s, 1, 0⟩).2.e = 35
    · right
      intro t ht
      have := gv_ext ht 16 ⟨s, 1, 0⟩ ⟨s ++ t, 1, 0⟩ (.inl (Ext.ok _ _ _))
      rcases this.1 with h | h | h
      · exact absurd hb h.2
      · exact h.2
      · exact absurd (h.1.symm.trans hb) (by decide)
    · left
      intro t ht
      refine (gv_ext ht 16 ⟨s, 1, 0⟩ ⟨s ++ t, 1, 0⟩ (.inl (Ext.ok _ _ _))).at ?_
      have h2 := hd.2 hb
      rcases hd.1 with h | h
      · exact absurd h hb
      · have h3 := h.1
        generalize gv 16 ⟨s, 1, 0⟩ = q at *
        obtain ⟨y, b⟩ := q
        simp only [] at h2 h3
        rw [h2, h3]; rfl
theorem reads_head {s r : List UInt8} {x : S28} (h : Reads s x r) : ∃ c l, Lib.trimLeftS s [32, 9, 10, 13] = c :: l ∧ c ≠ 93 ∧ c ≠ 125 ∧ c ≠ 44 := by
  have h0 := h.at0 [] stop_nil
  rw [List.append_nil] at h0
  have h1 : S.value1 textV (S.arr (gv 16)) (S.obj (gv 16)) (S.skip ⟨s, 0, 0⟩) = (x, ⟨r ++ [], 0, 0⟩) := h0
  have hs : S.skip ⟨s, 0, 0⟩ = ⟨Lib.trimLeftS s [32, 9, 10, 13], 0, 0⟩ := rfl
  rw [hs] at h1
  cases hc : Lib.trimLeftS s [32, 9, 10, 13] with
  | nil =>
    rw [hc] at h1
    exact absurd (show (11 : Int) = 0 from congrArg (fun p => p.2.e) h1) (by decide)
  | cons c l =>
    rw [hc] at h1
    refine ⟨c, l, rfl, ?_, ?_, ?_⟩
    all_goals
      rintro rfl
      exact absurd (show (11 : Int) = 0 from congrArg (fun p => p.2.e) h1) (by decide)
end Js
end Go.Proofs.YtapcpndplnkfjaaGreatDoor
namespace Go.Proofs.YtapcpndplnkfjaaGreatDoor
open Go.RowKit Go.Proofs.YtapcpndplnkfjaaGreatDoorW.PrintWords Go.Proofs.YtapcpndplnkfjaaGreatDoorW.PrintLast Go.Proofs.YtapcpndplnkfjaaGreatDoorW.PrintMore
set_option linter.unusedVariables false
set_option linter.unusedSimpArgs false
namespace Js
def bl (B : List UInt8) : Prop := ∀ c ∈ B, [32, 9, 10, 13].contains c = true
theorem trim_bl {B : List UInt8} (h : bl B) (l : List UInt8) : Lib.trimLeftS (B ++ l) [32, 9, 10, 13] = Lib.trimLeftS l [32, 9, 10, 13] := by
  induction B with
  | nil => rfl
  | cons c B ih =>
    have h1 := h c (by simp)
    have h2 := ih (fun d hd => h d (by simp [hd]))
    unfold Lib.trimLeftS at *
    rw [List.cons_append, List.dropWhile_cons, h1]
    exact h2
theorem trim_all {B : List UInt8} (h : bl B) : Lib.trimLeftS B [32, 9, 10, 13] = [] := by
  have := trim_bl h []
  rwa [List.append_nil] at this
theorem trim_dry {r : List UInt8} (h : Lib.trimLeftS r [32, 9, 10, 13] = []) (l : List UInt8) : Lib.trimLeftS (r ++ l) [32, 9, 10, 13] = Lib.trimLeftS l [32, 9, 10, 13] := by
  unfold Lib.trimLeftS at *
  rw [List.dropWhile_append, if_pos (by simpa using h)]
theorem trim_cons {c : UInt8} (h : [32, 9, 10, 13].contains c = false) (l : List UInt8) : Lib.trimLeftS (c :: l) [32, 9, 10, 13] = c :: l := by
  unfold Lib.trimLeftS
  rw [List.dropWhile_cons, h]; rfl
theorem stop_bl {B : List UInt8} (h : bl B) {l : List UInt8} (hl : stop l) : stop (B ++ l) := by
  cases B with
  | nil => exact hl
  | cons c B =>
    intro d hd
    simp at hd
    subst hd
    have := h c (by simp)
    simp at this ⊢
    rcases this with e | e | e | e <;> simp [e]
theorem stop_cons (c : UInt8) (l : List UInt8) (h : [32, 9, 10, 13, 44, 93, 125].contains c = true) : stop (c :: l) := fun d hd => by simp at hd; subst hd; exact h
theorem gv_skip : ∀ (n : Nat) (a b : S), a.skip = b.skip → gv n a = gv n b
  | 0, a, b, h => by
    have he : a.e = b.e := show a.skip.e = b.skip.e from congrArg S.e h
    unfold gv; rw [h, he]
  | n + 1, a, b, h => by
    show S.value1 _ _ _ a.skip = S.value1 _ _ _ b.skip
    rw [h]
theorem skip_of {u : List UInt8} (o : Int) : S.skip ⟨u, o, 0⟩ = ⟨Lib.trimLeftS u [32, 9, 10, 13], o, 0⟩ := rfl
theorem took_of {u l : List UInt8} {c : UInt8} (o : Int) (h : Lib.trimLeftS u [32, 9, 10, 13] = c :: l) (d : UInt8) : S.took ⟨u, o, 0⟩ [d] = (d == c) := by
  unfold S.took
  rw [skip_of, h]
  simp only []
  rw [pref_one]; simp
theorem take_is {u l : List UInt8} {c : UInt8} (o : Int) (h : Lib.trimLeftS u [32, 9, 10, 13] = c :: l) : S.take ⟨u, o, 0⟩ [c] = ⟨l, o, 0⟩ := by
  rw [take_yes (by rw [took_of o h]; simp), skip_of, h]
  unfold Lib.trimPrefix
  rw [if_pos (show Lib.hasPrefix (c :: l) [c] = true by rw [pref_one]; simp)]
  rfl
theorem take_not {u l : List UInt8} {c : UInt8} (o : Int) (h : Lib.trimLeftS u [32, 9, 10, 13] = c :: l) {d : UInt8} (hd : d ≠ c) : S.take ⟨u, o, 0⟩ [d] = ⟨c :: l, o, 0⟩ := by
  rw [take_no (by rw [took_of o h]; simpa using hd), skip_of, h]
theorem need_is {u l : List UInt8} {c : UInt8} (o : Int) (h : Lib.trimLeftS u [32, 9, 10, 13] = c :: l) : S.need ⟨u, o, 0⟩ [c] = ⟨l, o, 0⟩ := by
  unfold S.need
  rw [if_pos (by rw [took_of o h]; simp), take_is o h]
theorem item {s r : List UInt8} {x : S28} (h : Reads s x r) : (∀ u B V, bl B → stop V → Lib.trimLeftS u [32, 9, 10, 13] = Lib.trimLeftS (B ++ (s ++ V)) [32, 9, 10, 13] → gv 16 ⟨u, 1, 0⟩ = (x, ⟨r ++ V, 1, 0⟩)) ∨
    (∀ u B V, bl B → stop V → Lib.trimLeftS u [32, 9, 10, 13] = Lib.trimLeftS (B ++ (s ++ V)) [32, 9, 10, 13] → (gv 16 ⟨u, 1, 0⟩).2.e = 35) := by
  have hs : ∀ u B V, bl B → Lib.trimLeftS u [32, 9, 10, 13] = Lib.trimLeftS (B ++ (s ++ V)) [32, 9, 10, 13] → gv 16 ⟨u, 1, 0⟩ = gv 16 ⟨s ++ V, 1, 0⟩ := fun u B V hB hu =>
    gv_skip 16 _ _ (by rw [skip_of, skip_of, hu, trim_bl hB])
  rcases h.at1 with k | k
  · exact .inl fun u B V hB hV hu => by rw [hs u B V hB hu]; exact k V hV
  · exact .inr fun u B V hB hV hu => by rw [hs u B V hB hu]; exact k V hV
theorem head_of {s r : List UInt8} {x : S28} (h : Reads s x r) {B V : List UInt8} (hB : bl B) : ∃ c l, Lib.trimLeftS (B ++ (s ++ V)) [32, 9, 10, 13] = c :: l ∧ c ≠ 93 ∧ c ≠ 125 ∧ c ≠ 44 ∧ Lib.trimLeftS (c :: l) [32, 9, 10, 13] = c :: l := by
  obtain ⟨c, l, h1, h2, h3, h4⟩ := reads_head h
  refine ⟨c, l ++ V, ?_, h2, h3, h4, ?_⟩
  · rw [trim_bl hB, trim_app _ _ _ (by rw [h1]; simp), h1]; rfl
  · have : S.skip ⟨s, 0, 0⟩ = ⟨c :: l, 0, 0⟩ := by rw [skip_of, h1]
    exact congrArg S.s (cons_skip this (l ++ V))
theorem pv_around {s : List UInt8} {x : S28} (h : pv s = (x, 0)) {B C : List UInt8} (hB : bl B) (hC : bl C) (hl : (B ++ (s ++ C)).length ≤ 4096) : pv (B ++ (s ++ C)) = (x, 0) := by
  obtain ⟨r, hr⟩ := reads h
  refine pv_of (r := r ++ C) hl ?_ ?_
  · rw [gv_skip 17 ⟨B ++ (s ++ C), 0, 0⟩ ⟨s ++ C, 0, 0⟩ (by rw [skip_of, skip_of, trim_bl hB])]
    refine hr.at0 C ?_
    have := stop_bl hC stop_nil
    rwa [List.append_nil] at this
  · rw [trim_dry hr.dry, trim_all hC]
theorem gv_arr {u U : List UInt8} (h : Lib.trimLeftS u [32, 9, 10, 13] = 91 :: U) : gv 17 ⟨u, 0, 0⟩ = (⟨4, false, z24, ⟨#[]⟩, (listG (arrT (gv 16)) [93] [] ⟨U, 1, 0⟩).1, []⟩, (listG (arrT (gv 16)) [93] [] ⟨U, 1, 0⟩).2) := by
  show S.value1 textV (S.arr (gv 16)) (S.obj (gv 16)) (S.skip ⟨u, 0, 0⟩) = _
  rw [skip_of, h]
  rfl
theorem gv_obj {u U : List UInt8} (h : Lib.trimLeftS u [32, 9, 10, 13] = 123 :: U) : gv 17 ⟨u, 0, 0⟩ = (⟨5, false, z24, ⟨#[]⟩, (listG (objT (gv 16)) [125] ([], []) ⟨U, 1, 0⟩).1.1, (listG (objT (gv 16)) [125] ([], []) ⟨U, 1, 0⟩).1.2⟩, (listG (objT (gv 16)) [125] ([], []) ⟨U, 1, 0⟩).2) := by
  show S.value1 textV (S.arr (gv 16)) (S.obj (gv 16)) (S.skip ⟨u, 0, 0⟩) = _
  rw [skip_of, h]
  rfl
theorem listG_bad {σ : Type} {st : σ → S → σ × S} {p : List UInt8} {x : σ} {a : S} {e : Int} (ht : a.took p = false) (hb : (st x (a.take p)).2.e = e) (he : e ≠ 0) : (listG st p x a).2.e = e := by
  unfold listG
  rw [ht, if_neg (by decide)]
  have k1 := loop_bad st (a := (st x (a.take p)).2) (by rw [hb]; exact he) ((st x (a.take p)).2.s.length + 1) (st x (a.take p)).1
  have k2 := need_e (a := (listLoop st ((st x (a.take p)).2.s.length + 1) (st x (a.take p)).1 (st x (a.take p)).2).2) (by rw [k1, hb]; exact he) p
  exact k2.trans (k1.trans hb)
theorem listG_go {σ : Type} {st : σ → S → σ × S} {p : List UInt8} {x y : σ} {a b : S} (ht : a.took p = false) (hb : st x (a.take p) = (y, b)) : listG st p x a = ((listLoop st (b.s.length + 1) y b).1, ((listLoop st (b.s.length + 1) y b).2.need p).left) := by
  unfold listG
  rw [ht, if_neg (by decide), hb]
theorem loop_more {σ : Type} {st : σ → S → σ × S} {n : Nat} {x y : σ} {u l : List UInt8} {o : Int} {b : S} (h : Lib.trimLeftS u [32, 9, 10, 13] = 44 :: l) (hb : st x ⟨l, o, 0⟩ = (y, b)) : listLoop st (n + 1) x ⟨u, o, 0⟩ = listLoop st n y b := by
  conv => lhs; unfold listLoop
  rw [if_pos (by rw [took_of o h]; rfl), take_is o h, hb]
theorem loop_end {σ : Type} (st : σ → S → σ × S) (n : Nat) (x : σ) {u l : List UInt8} {c : UInt8} {o : Int} (h : Lib.trimLeftS u [32, 9, 10, 13] = c :: l) (hc : 44 ≠ c) (hw : [32, 9, 10, 13].contains c = false) (hn : n ≠ 0) : listLoop st n x ⟨u, o, 0⟩ = (x, ⟨c :: l, o, 0⟩) := by
  obtain ⟨k, rfl⟩ : ∃ k, n = k + 1 := ⟨n - 1, by omega⟩
  unfold listLoop
  rw [if_neg (by rw [took_of o h]; simpa using hc), take_not o h hc]
theorem arr_two {s t rs rt : List UInt8} {x y : S28} (hs : Reads s x rs) (ht : Reads t y rt) : ∃ R, ∀ B0 B1 B2 B3 B4 B5 : List UInt8, bl B0 → bl B1 → bl B2 → bl B3 → bl B4 → bl B5 →
    (B0 ++ 91 :: (B1 ++ (s ++ (B2 ++ 44 :: (B3 ++ (t ++ (B4 ++ 93 :: B5))))))).length ≤ 4096 → pv (B0 ++ 91 :: (B1 ++ (s ++ (B2 ++ 44 :: (B3 ++ (t ++ (B4 ++ 93 :: B5))))))) = R := by
  have htop : ∀ B0 U : List UInt8, bl B0 → Lib.trimLeftS (B0 ++ 91 :: U) [32, 9, 10, 13] = 91 :: U := fun B0 U h => by rw [trim_bl h, trim_cons (by decide)]
  have hV : ∀ B W : List UInt8, bl B → stop (B ++ 44 :: W) := fun B W h => stop_bl h (stop_cons _ _ (by decide))
  have hX : ∀ B W : List UInt8, bl B → stop (B ++ 93 :: W) := fun B W h => stop_bl h (stop_cons _ _ (by decide))
  rcases item hs with k | k
  · rcases item ht with j | j
    · refine ⟨(⟨4, false, z24, ⟨#[]⟩, [x, y], []⟩, 0), fun B0 B1 B2 B3 B4 B5 h0 h1 h2 h3 h4 h5 hl => ?_⟩
      refine pv_of (r := B5) hl ?_ (trim_all h5)
      rw [gv_arr (htop B0 _ h0)]
      obtain ⟨c, l, q1, q2, q3, q4, q5⟩ := head_of hs h1 (V := B2 ++ 44 :: (B3 ++ (t ++ (B4 ++ 93 :: B5))))
      have e1 : arrT (gv 16) [] (S.take ⟨B1 ++ (s ++ (B2 ++ 44 :: (B3 ++ (t ++ (B4 ++ 93 :: B5))))), 1, 0⟩ [93]) = ([x], ⟨rs ++ (B2 ++ 44 :: (B3 ++ (t ++ (B4 ++ 93 :: B5)))), 1, 0⟩) := by
        rw [take_not 1 q1 (Ne.symm q2)]
        unfold arrT
        rw [k (c :: l) B1 _ h1 (hV _ _ h2) (by rw [q5, q1])]; rfl
      rw [listG_go (by rw [took_of 1 q1]; simpa using Ne.symm q2) e1]
      have e2 : arrT (gv 16) [x] ⟨B3 ++ (t ++ (B4 ++ 93 :: B5)), 1, 0⟩ = ([x, y], ⟨rt ++ (B4 ++ 93 :: B5), 1, 0⟩) := by
        unfold arrT
        rw [j _ B3 _ h3 (hX _ _ h4) rfl]; rfl
      rw [loop_more (l := B3 ++ (t ++ (B4 ++ 93 :: B5))) (by rw [trim_dry hs.dry, trim_bl h2, trim_cons (by decide)]) e2]
      have e3 : Lib.trimLeftS (rt ++ (B4 ++ 93 :: B5)) [32, 9, 10, 13] = 93 :: B5 := by rw [trim_dry ht.dry, trim_bl h4, trim_cons (by decide)]
      rw [loop_end _ _ _ e3 (by decide) (by decide) (by simp)]
      simp only []
      rw [need_is 1 (trim_cons (by decide) B5)]
      rfl
    · refine ⟨(z28, 35), fun B0 B1 B2 B3 B4 B5 h0 h1 h2 h3 h4 h5 hl => ?_⟩
      refine pv_bad hl (gv_arr (htop B0 _ h0)) ?_ (by decide)
      obtain ⟨c, l, q1, q2, q3, q4, q5⟩ := head_of hs h1 (V := B2 ++ 44 :: (B3 ++ (t ++ (B4 ++ 93 :: B5))))
      have e1 : arrT (gv 16) [] (S.take ⟨B1 ++ (s ++ (B2 ++ 44 :: (B3 ++ (t ++ (B4 ++ 93 :: B5))))), 1, 0⟩ [93]) = ([x], ⟨rs ++ (B2 ++ 44 :: (B3 ++ (t ++ (B4 ++ 93 :: B5)))), 1, 0⟩) := by
        rw [take_not 1 q1 (Ne.symm q2)]
        unfold arrT
        rw [k (c :: l) B1 _ h1 (hV _ _ h2) (by rw [q5, q1])]; rfl
      rw [listG_go (by rw [took_of 1 q1]; simpa using Ne.symm q2) e1]
      have e2 := j (B3 ++ (t ++ (B4 ++ 93 :: B5))) B3 _ h3 (hX _ B5 h4) rfl
      rw [loop_more (st := arrT (gv 16)) (l := B3 ++ (t ++ (B4 ++ 93 :: B5))) (y := [x] ++ [(gv 16 ⟨B3 ++ (t ++ (B4 ++ 93 :: B5)), 1, 0⟩).1]) (b := (gv 16 ⟨B3 ++ (t ++ (B4 ++ 93 :: B5)), 1, 0⟩).2) (by rw [trim_dry hs.dry, trim_bl h2, trim_cons (by decide)]) rfl]
      have k1 := loop_bad (arrT (gv 16)) (a := (gv 16 ⟨B3 ++ (t ++ (B4 ++ 93 :: B5)), 1, 0⟩).2) (by rw [e2]; decide) (rs ++ (B2 ++ 44 :: (B3 ++ (t ++ (B4 ++ 93 :: B5))))).length ([x] ++ [(gv 16 ⟨B3 ++ (t ++ (B4 ++ 93 :: B5)), 1, 0⟩).1])
      exact (need_e (by rw [k1, e2]; decide) _).trans (k1.trans e2)
  · refine ⟨(z28, 35), fun B0 B1 B2 B3 B4 B5 h0 h1 h2 h3 h4 h5 hl => ?_⟩
    refine pv_bad hl (gv_arr (htop B0 _ h0)) ?_ (by decide)
    obtain ⟨c, l, q1, q2, q3, q4, q5⟩ := head_of hs h1 (V := B2 ++ 44 :: (B3 ++ (t ++ (B4 ++ 93 :: B5))))
    refine listG_bad (by rw [took_of 1 q1]; simpa using Ne.symm q2) ?_ (by decide)
    rw [take_not 1 q1 (Ne.symm q2)]
    exact k (c :: l) B1 _ h1 (hV _ _ h2) (by rw [q5, q1])
theorem dec_ascii (l : List UInt8) (k : Nat) (c : UInt8) (h : l.getD k 0 = c) (hc : c.toNat < 128) : Utf8.decode (ofL l) k = (c.toNat, 1) := by
  rw [Lib.decode_N, ofL_data, h]
  unfold Lib.decodeN
  rw [if_pos hc]
theorem st_one (c : UInt8) (rest : List UInt8) (o : Int) (h1 : 32 ≤ c.toNat) (h2 : c.toNat < 128) (h3 : c ≠ 34) (h4 : c ≠ 92) : S.st ⟨34 :: c :: 34 :: rest, o, 0⟩ = ([c], ⟨rest, o, 0⟩) := by
  show strLoop S.esc ((34 :: c :: 34 :: rest).length + 1) [] ⟨c :: 34 :: rest, o, 0⟩ = _
  have hp : S.plain ⟨c :: 34 :: rest, o, 0⟩ = (1, true) := by
    show plainF (ofL (c :: 34 :: rest)) ((ofL (c :: 34 :: rest)).size + 1) 0 = _
    have d0 := dec_ascii (c :: 34 :: rest) 0 c rfl h2
    have d1 := dec_ascii (c :: 34 :: rest) 1 34 rfl (by decide)
    have n3 : c.toNat ≠ 34 := fun e => h3 (UInt8.toNat_inj.1 e)
    have n4 : c.toNat ≠ 92 := fun e => h4 (UInt8.toNat_inj.1 e)
    rw [ofL_size]
    show plainF (ofL (c :: 34 :: rest)) (((rest.length + 1) + 1) + 1) 0 = _
    rw [plainF, if_pos (by rw [ofL_size]; simp), d0, if_neg (by simp only []; omega), if_neg (by simp only []; omega), if_neg (by simp only []; omega)]
    show plainF (ofL (c :: 34 :: rest)) ((rest.length + 1) + 1) 1 = _
    rw [plainF, if_pos (by rw [ofL_size]; simp), d1, if_pos (.inl rfl)]
  rw [strLoop, if_neg (by simp), hp]
  simp only []
  rw [if_neg (by decide), if_pos (by rfl)]
  have hcut : S.cut ⟨c :: 34 :: rest, o, 0⟩ = ⟨rest, o, 0⟩ := by unfold S.cut; rw [hp]; rfl
  rw [hcut]
  rfl
theorem objT_one {u : List UInt8} {c : UInt8} {B1 Q : List UInt8} (p : List S28 × List ByteArray) (hu : Lib.trimLeftS u [32, 9, 10, 13] = 34 :: c :: 34 :: (B1 ++ 58 :: Q)) (hB1 : bl B1) (h1 : 32 ≤ c.toNat) (h2 : c.toNat < 128) (h3 : c ≠ 34) (h4 : c ≠ 92) (hn : has p.2 (ofL [c]) = false) :
    objT (gv 16) p ⟨u, 1, 0⟩ = ((put p.1 (pos p.2 (ofL [c])) (gv 16 ⟨Q, 1, 0⟩).1, put p.2 (pos p.2 (ofL [c])) (ofL [c])), (gv 16 ⟨Q, 1, 0⟩).2) := by
  have hN : objN ⟨u, 1, 0⟩ = ofL [c] := by unfold objN; rw [skip_of, hu, st_one c _ 1 h1 h2 h3 h4]
  have hA : objA p.2 ⟨u, 1, 0⟩ = ⟨Q, 1, 0⟩ := by
    unfold objA
    rw [hN, hn, skip_of, hu, st_one c _ 1 h1 h2 h3 h4]
    show S.need ⟨B1 ++ 58 :: Q, 1, 0⟩ [58] = _
    exact need_is 1 (by rw [trim_bl hB1, trim_cons (by decide)])
  unfold objT
  rw [hN, hA, skip_of, hu, pref_one, if_neg (by decide)]
theorem obj_one {s rs : List UInt8} {x : S28} (hs : Reads s x rs) : ∃ R, ∀ B0 B1 B2 B3 B4 B5 : List UInt8, bl B0 → bl B1 → bl B2 → bl B3 → bl B4 → bl B5 →
    (B0 ++ 123 :: (B1 ++ 34 :: 97 :: 34 :: (B2 ++ 58 :: (B3 ++ (s ++ (B4 ++ 125 :: B5)))))).length ≤ 4096 → pv (B0 ++ 123 :: (B1 ++ 34 :: 97 :: 34 :: (B2 ++ 58 :: (B3 ++ (s ++ (B4 ++ 125 :: B5)))))) = R := by
  have htop : ∀ B0 U : List UInt8, bl B0 → Lib.trimLeftS (B0 ++ 123 :: U) [32, 9, 10, 13] = 123 :: U := fun B0 U h => by rw [trim_bl h, trim_cons (by decide)]
  have hX : ∀ B W : List UInt8, bl B → stop (B ++ 125 :: W) := fun B W h => stop_bl h (stop_cons _ _ (by decide))
  have hk : ∀ B1 U : List UInt8, bl B1 → Lib.trimLeftS (B1 ++ 34 :: 97 :: 34 :: U) [32, 9, 10, 13] = 34 :: 97 :: 34 :: U := fun B0 U h => by rw [trim_bl h, trim_cons (by decide)]
  rcases item hs with k | k
  · refine ⟨(⟨5, false, z24, ⟨#[]⟩, [x], [ofL [97]]⟩, 0), fun B0 B1 B2 B3 B4 B5 h0 h1 h2 h3 h4 h5 hl => ?_⟩
    refine pv_of (r := B5) hl ?_ (trim_all h5)
    rw [gv_obj (htop B0 _ h0)]
    have q1 := hk B1 (B2 ++ 58 :: (B3 ++ (s ++ (B4 ++ 125 :: B5)))) h1
    have e1 := objT_one (u := 34 :: 97 :: 34 :: (B2 ++ 58 :: (B3 ++ (s ++ (B4 ++ 125 :: B5))))) ([], []) (trim_cons (by decide) _) h2 (by decide) (by decide) (by decide) (by decide) (by decide)
    rw [k _ B3 _ h3 (hX _ B5 h4) rfl] at e1
    have e2 : objT (gv 16) ([], []) (S.take ⟨B1 ++ 34 :: 97 :: 34 :: (B2 ++ 58 :: (B3 ++ (s ++ (B4 ++ 125 :: B5)))), 1, 0⟩ [125]) = (([x], [ofL [97]]), ⟨rs ++ (B4 ++ 125 :: B5), 1, 0⟩) := by
      rw [take_not 1 q1 (by decide), e1]
      rfl
    rw [listG_go (by rw [took_of 1 q1]; rfl) e2]
    have e3 : Lib.trimLeftS (rs ++ (B4 ++ 125 :: B5)) [32, 9, 10, 13] = 125 :: B5 := by rw [trim_dry hs.dry, trim_bl h4, trim_cons (by decide)]
    rw [loop_end _ _ _ e3 (by decide) (by decide) (by simp)]
    simp only []
    rw [need_is 1 (trim_cons (by decide) B5)]
    rfl
  · refine ⟨(z28, 35), fun B0 B1 B2 B3 B4 B5 h0 h1 h2 h3 h4 h5 hl => ?_⟩
    refine pv_bad hl (gv_obj (htop B0 _ h0)) ?_ (by decide)
    have q1 := hk B1 (B2 ++ 58 :: (B3 ++ (s ++ (B4 ++ 125 :: B5)))) h1
    have e1 := objT_one (u := 34 :: 97 :: 34 :: (B2 ++ 58 :: (B3 ++ (s ++ (B4 ++ 125 :: B5))))) ([], []) (trim_cons (by decide) _) h2 (by decide) (by decide) (by decide) (by decide) (by decide)
    refine listG_bad (by rw [took_of 1 q1]; rfl) ?_ (by decide)
    rw [take_not 1 q1 (by decide), e1]
    exact k _ B3 _ h3 (hX _ _ h4) rfl
end Js
end Go.Proofs.YtapcpndplnkfjaaGreatDoor
namespace Go.Proofs.YtapcpndplnkfjaaGreatDoor
open Go.RowKit Go.Proofs.YtapcpndplnkfjaaGreatDoorW.PrintWords Go.Proofs.YtapcpndplnkfjaaGreatDoorW.PrintLast Go.Proofs.YtapcpndplnkfjaaGreatDoorW.PrintMore
set_option linter.unusedVariables false
set_option linter.unusedSimpArgs false
namespace Js
variable {σ : Type}
theorem e0_of {f : S → S} (hf : ∀ a : S, a.e ≠ 0 → (f a).e = a.e) {a : S} (h : (f a).e = 0) : a.e = 0 := by
  by_cases h0 : a.e = 0
  · exact h0
  · exact absurd ((hf a h0).symm.trans h) h0
theorem take_le (a : S) (p : List UInt8) : (a.take p).s.length ≤ a.s.length := (keeps_take a p).len
theorem loop_inv {st : σ → S → σ × S} {Inv : σ → Nat → Prop} (he : ∀ x a, a.e ≠ 0 → (st x a).2.e = a.e) (hm : ∀ x k j, Inv x k → j ≤ k → Inv x j)
    (hst : ∀ x a, a.e = 0 → Inv x (a.s.length + 1) → (st x a).2.e = 0 → Inv (st x a).1 (st x a).2.s.length) :
    ∀ n x a, Inv x a.s.length → (listLoop st n x a).2.e = 0 → Inv (listLoop st n x a).1 (listLoop st n x a).2.s.length
  | 0, x, a, h, _ => h
  | n + 1, x, a, h, h0 => by
    unfold listLoop at h0 ⊢
    by_cases ht : a.took [44] = true
    · rw [if_pos ht] at h0 ⊢
      have h1 : (st x (a.take [44])).2.e = 0 := by
        by_cases hq : (st x (a.take [44])).2.e = 0
        · exact hq
        · exact absurd ((loop_bad st hq n _).symm.trans h0) hq
      have h2 : (a.take [44]).e = 0 := e0_of (f := fun a => (st x a).2) (fun a => he x a) h1
      exact loop_inv he hm hst n _ _ (hst x _ h2 (hm _ _ _ h (took_lt a 44 ht)) h1) h0
    · rw [if_neg ht]
      exact hm _ _ _ h (take_le a _)
theorem need_lt {a : S} {d : UInt8} (h : (a.need [d]).e = 0) : (a.need [d]).s.length + 1 ≤ a.s.length := by
  unfold S.need at h ⊢
  by_cases ht : a.took [d] = true
  · rw [if_pos ht]
    exact took_lt a d ht
  · rw [if_neg ht] at h
    exact absurd h (fail_ne _ 11 (by decide))
theorem listG_inv {st : σ → S → σ × S} {Inv : σ → Nat → Prop} (he : ∀ x a, a.e ≠ 0 → (st x a).2.e = a.e) (hm : ∀ x k j, Inv x k → j ≤ k → Inv x j)
    (hst : ∀ x a, a.e = 0 → Inv x (a.s.length + 1) → (st x a).2.e = 0 → Inv (st x a).1 (st x a).2.s.length) (d : UInt8) (x : σ) (a : S) (h : Inv x (a.s.length + 1)) (h0 : (listG st [d] x a).2.e = 0) :
    Inv (listG st [d] x a).1 ((listG st [d] x a).2.s.length + 1) := by
  unfold listG at h0 ⊢
  by_cases ht : a.took [d] = true
  · rw [if_pos ht]
    exact hm _ _ _ h (by have := took_lt a d ht; show (a.take [d]).s.length + 1 ≤ _; omega)
  · rw [if_neg ht] at h0 ⊢
    have h3 : ((listLoop st ((st x (a.take [d])).2.s.length + 1) (st x (a.take [d])).1 (st x (a.take [d])).2).2.need [d]).e = 0 := h0
    have h2 := e0_of (f := fun a => a.need [d]) (fun a ha => need_e ha [d]) h3
    have h1 : (st x (a.take [d])).2.e = 0 := by
      by_cases hq : (st x (a.take [d])).2.e = 0
      · exact hq
      · exact absurd ((loop_bad st hq _ _).symm.trans h2) hq
    have h4 : (a.take [d]).e = 0 := e0_of (f := fun a => (st x a).2) (fun a => he x a) h1
    have h5 := hst x _ h4 (hm _ _ _ h (by have := take_le a [d]; omega)) h1
    have h6 := loop_inv he hm hst _ _ _ h5 h2
    exact hm _ _ _ h6 (need_lt h3)
theorem quoteF_app (a b : List UInt8) : (a ++ b).flatMap quoteB = a.flatMap quoteB ++ b.flatMap quoteB := by simp
theorem four_lt (a : S) (h : (a.four).2.e = 0) : (a.four).2.s.length + 4 ≤ a.s.length := by
  unfold S.four at h ⊢
  split at h
  · exact absurd h (fail_ne _ 11 (by decide))
  · rename_i hl
    rw [if_neg hl]
    unfold fourV at h ⊢
    split at h
    · exact absurd h (fail_ne _ 11 (by decide))
    · simp; omega
theorem sign_sz (a : S) (h : (a.sign).2.e = 0) : (a.sign).1.length ≤ 4 ∧ (a.sign).2.s.length + 4 ≤ a.s.length := by
  refine ⟨(sign_len a).2.1, ?_⟩
  have h4 : (a.four).2.e = 0 := by
    by_cases hq : (a.four).2.e = 0
    · exact hq
    · exfalso
      unfold S.sign at h
      split at h
      · exact hq h
      split at h
      · rw [fail_e hq] at h; exact hq h
      · have h5 := four_e a.four.2.pre hq
        unfold S.sgn at h
        simp only [] at h
        split at h
        · rw [fail_e (by rw [h5]; exact hq), h5] at h; exact hq h
        · rw [h5] at h; exact hq h
  have h6 := four_lt a h4
  have h7 : (a.sign).2.s.length ≤ (a.four).2.s.length := by
    unfold S.sign
    split
    · exact Nat.le_refl _
    split
    · rw [fail_s]; exact Nat.le_refl _
    · have h8 := (sgn_len a.four.1 a.four.2.pre).1
      have h9 : a.four.2.pre.s.length ≤ a.four.2.s.length := by
        unfold S.pre Lib.trimPrefix
        simp only []
        split <;> simp
      omega
  omega
theorem esc_sz (a : S) (h : (a.esc).2.e = 0) : ((a.esc).1.flatMap quoteB).length + 6 * (a.esc).2.s.length ≤ 6 * a.s.length := by
  obtain ⟨s, o, e⟩ := a
  cases s with
  | nil => exact absurd h (fail_ne ⟨[], o, e⟩ 11 (by decide))
  | cons c l =>
    have hh : (S.escT c ⟨l, o, e⟩).2.e = 0 := h
    show ((S.escT c ⟨l, o, e⟩).1.flatMap quoteB).length + 6 * (S.escT c ⟨l, o, e⟩).2.s.length ≤ 6 * (l.length + 1)
    unfold S.escT at hh ⊢
    split at hh
    · rename_i hc
      rw [if_pos hc]
      have := sign_sz ⟨l, o, e⟩ hh
      have h2 := quoteF_len (S.sign ⟨l, o, e⟩).1
      have h3 : (S.sign ⟨l, o, e⟩).2.s.length + 4 ≤ l.length := this.2
      omega
    · rename_i hc
      rw [if_neg hc]
      split at hh
      · exact absurd hh (fail_ne _ 11 (by decide))
      · rename_i h9
        rw [if_neg h9]
        have h2 := quoteF_len (escL (escI c))
        have h3 : (escL (escI c)).length ≤ 1 := by
          have := (escI_b c).2
          unfold escL
          simp [ByteArray.data_extract, Array.toList_extract, List.extract]
          omega
        show (List.flatMap quoteB (escL (escI c))).length + 6 * l.length ≤ _
        omega
theorem strLoop_sz : ∀ (n : Nat) (out : List UInt8) (a : S), a.e = 0 → a.s.length < n → (strLoop S.esc n out a).2.e = 0 →
    ((strLoop S.esc n out a).1.flatMap quoteB).length + 6 * (strLoop S.esc n out a).2.s.length + 6 ≤ (out.flatMap quoteB).length + 6 * a.s.length
  | 0, out, a, _, h, _ => absurd h (by omega)
  | n + 1, out, a, he, hn, h => by
    rw [strLoop] at h ⊢
    rw [if_neg (by simp [he])] at h ⊢
    by_cases hp : a.plain.2 = false
    · rw [if_pos hp] at h; exact absurd h (fail_ne _ 11 (by decide))
    rw [if_neg hp] at h ⊢
    have hlt := (plain_le a).2 (by simpa using hp)
    have hq := quoteF_len (a.s.take a.plain.1)
    have hk : (a.s.take a.plain.1).length = a.plain.1 := by rw [List.length_take]; omega
    have hc : a.cut.s.length = a.s.length - (a.plain.1 + 1) := by unfold S.cut; simp
    split at h
    · rename_i h34
      rw [if_pos h34]
      show ((out ++ a.s.take a.plain.1).flatMap quoteB).length + 6 * a.cut.s.length + 6 ≤ _
      rw [quoteF_app, List.length_append]
      omega
    · rename_i h34
      rw [if_neg h34]
      have h5 : (a.cut.esc).2.e = 0 := by
        by_cases hb : (a.cut.esc).2.e = 0
        · exact hb
        · rw [strLoop_bad _ _ _ hb] at h; exact absurd h hb
      have h6 := esc_sz a.cut h5
      have h7 := (esc_len a.cut).1
      have h8 := strLoop_sz n (out ++ a.s.take a.plain.1 ++ a.cut.esc.1) a.cut.esc.2 h5 (by omega) h
      rw [quoteF_app, quoteF_app, List.length_append, List.length_append] at h8
      omega
theorem st_sz (a : S) (hs : a.s ≠ []) (h : (a.st).2.e = 0) : (quoteL (a.st).1).length + 6 * (a.st).2.s.length ≤ 6 * a.s.length := by
  have he : a.e = 0 := by
    by_cases hb : a.e = 0
    · exact hb
    · rw [st_bad hb] at h; exact absurd h hb
  obtain ⟨s, o, e⟩ := a
  cases s with
  | nil => exact absurd rfl hs
  | cons c l =>
    have h1 := strLoop_sz ((c :: l).length + 1) [] ⟨l, o, e⟩ he (by show l.length < _; simp; omega) h
    have h2 : (quoteL (S.st ⟨c :: l, o, e⟩).1).length = ((S.st ⟨c :: l, o, e⟩).1.flatMap quoteB).length + 2 := by unfold quoteL; simp
    have h3 : (strLoop S.esc ((c :: l).length + 1) [] ⟨l, o, e⟩) = S.st ⟨c :: l, o, e⟩ := rfl
    rw [h3] at h1
    simp only [List.flatMap_nil, List.length_nil, List.length_cons] at h1 ⊢
    omega
theorem st_bd (a : S) : (a.st).1.length ≤ 17 * a.s.length := by
  have := loop_out (a.s.length + 1) [] a.tl
  have h2 : a.tl.s.length ≤ a.s.length := by unfold S.tl; simp
  simp only [List.length_nil] at this
  show (strLoop S.esc (a.s.length + 1) [] a.tl).1.length ≤ _
  omega
theorem itoa_4 (e : Int) (h : -999 ≤ e ∧ e ≤ 999) : (Lib.itoa e).length ≤ 4 := by
  have : ∀ i : Fin 1999, (Lib.itoa ((i.val : Int) - 999)).length ≤ 4 := by decide +kernel
  have h2 := this ⟨(e + 999).toNat, by omega⟩
  rwa [show (((⟨(e + 999).toNat, by omega⟩ : Fin 1999).val : Int) - 999) = e by show ((e + 999).toNat : Int) - 999 = e; omega] at h2
theorem num_one (c : UInt8) : (NumP.parse [c]).2 = 0 → (NumP.text (NumP.parse [c]).1).length ≤ 6 := by
  have : ∀ k : Fin 256, (NumP.parse [UInt8.ofNat k.val]).2 = 0 → (NumP.text (NumP.parse [UInt8.ofNat k.val]).1).length ≤ 6 := by decide +kernel
  have h := this ⟨c.toNat, c.toNat_lt⟩
  rwa [show UInt8.ofNat (⟨c.toNat, c.toNat_lt⟩ : Fin 256).val = c from UInt8.ofNat_toNat] at h
theorem parse_0 {l : List UInt8} (h : (NumP.parse l).2 = 0) : NumP.ok l = true ∧ NumP.right (NumP.num l) = true ∧ (NumP.parse l).1 = NumP.num l := by
  unfold NumP.parse at h ⊢
  split at h
  · rename_i h1
    split at h
    · rename_i h2
      exact ⟨h1, h2, by rw [if_pos h1, if_pos h2]⟩
    · exact absurd h (by decide)
  · exact absurd h (by decide)
theorem rstrip_le' (D : List UInt8) : (NumP.rstrip D).length ≤ D.length := by
  unfold NumP.rstrip
  rw [List.length_reverse]
  have := (List.dropWhile_sublist (l := D.reverse) NumP.isZ).length_le
  rwa [List.length_reverse] at this
theorem strips (D : List UInt8) : (NumP.rstrip (NumP.lstrip D)).length ≤ D.length := by
  have h1 := rstrip_le' (NumP.lstrip D)
  have h2 : (NumP.lstrip D).length ≤ D.length := (List.dropWhile_sublist _).length_le
  omega
theorem tw_len (p : UInt8 → Bool) (l : List UInt8) : (l.takeWhile p).length + (l.dropWhile p).length = l.length := by
  rw [← List.length_append, List.takeWhile_append_dropWhile]
theorem num_tx (l : List UInt8) (h : (NumP.parse l).2 = 0) : (NumP.text (NumP.parse l).1).length ≤ 6 * l.length ∧ 1 ≤ l.length := by
  obtain ⟨h1, h2, h3⟩ := parse_0 h
  have hne : 1 ≤ l.length := by
    cases l with
    | nil => exact absurd h1 (by decide)
    | cons c l => simp
  refine ⟨?_, hne⟩
  by_cases h4 : l.length = 1
  · obtain ⟨c, rfl⟩ := List.length_eq_one_iff.1 h4
    exact num_one c h
  · rw [h3]
    obtain ⟨d, D, e, hn⟩ : ∃ d D e, NumP.num l = (d, D, e) := ⟨_, _, _, rfl⟩
    rw [hn] at h2
    have hb := right_bd' h2
    have hD : D.length ≤ l.length := by
      have : D = (NumP.num l).2.1 := by rw [hn]
      rw [this]
      unfold NumP.num NumP.form
      split
      · simp [NumP.zero]
      · have k1 := strips (NumP.whole l ++ NumP.dotP (NumP.rest1 l))
        have k2 : (NumP.whole l).length + (NumP.rest1 l).length = (NumP.dropSign l).length := tw_len _ _
        have k3 : (NumP.dropSign l).length ≤ l.length := by unfold NumP.dropSign; split <;> simp
        have k4 : (NumP.dotP (NumP.rest1 l)).length ≤ (NumP.rest1 l).length := by
          unfold NumP.dotP
          split
          · exact Nat.le_trans ((List.takeWhile_sublist _).length_le) (by simp)
          · simp
        rw [List.length_append] at k1
        simp only []
        omega
    rw [hn]
    have hi := itoa_4 e hb.2
    have hs : (NumP.sgn d).length ≤ 1 := by cases d <;> decide
    unfold NumP.text
    simp only []
    (repeat' split) <;> simp <;> omega
theorem num_txF (l : List UInt8) (h : (NumP.parse l).2 = 0) (m : List UInt8 × Int) (n : Nat) (hm : m = ((NumP.parse l).1.2.1, (NumP.parse l).1.2.2)) :
    Pr.num_Text.f (NumP.parse l).1.1 (ofL m.1) m.2 = some (ofL (NumP.text (NumP.parse l).1)) := by
  obtain ⟨h1, h2, h3⟩ := parse_0 h
  obtain ⟨d, D, e, hn⟩ : ∃ d D e, NumP.num l = (d, D, e) := ⟨_, _, _, rfl⟩
  rw [hn] at h2 h3
  have hb := right_bd' h2
  subst hm
  rw [h3]
  exact text_f' d D e (by omega) (by omega)
def jl (l : List (List UInt8)) : Nat := (l.map fun x => x.length + 1).sum
theorem jl_app (a b : List (List UInt8)) : jl (a ++ b) = jl a + jl b := by unfold jl; simp
theorem jl_one (x : List UInt8) : jl [x] = x.length + 1 := by unfold jl; simp
theorem jl_cons (x : List UInt8) (l : List (List UInt8)) : jl (x :: l) = x.length + 1 + jl l := by unfold jl; simp
theorem jl_lens : ∀ l : List (List UInt8), Lib.lens l + l.length = jl l
  | [] => rfl
  | x :: l => by
    have := jl_lens l
    rw [jl_cons, ← this]
    unfold Lib.lens
    simp
    omega
theorem join_le (l : List (List UInt8)) : (Lib.join l [44]).length ≤ jl l := by
  cases l with
  | nil => exact Nat.zero_le _
  | cons x r =>
    rw [Lib.join_length, ← jl_lens]
    simp
    omega
theorem len_jl (l : List (List UInt8)) : l.length ≤ jl l := by rw [← jl_lens]; omega
theorem wrap_ok {l : List (List UInt8)} (a b : UInt8) (h : jl l ≤ 1000000) : wrapF a b l = some (a :: Lib.join l [44] ++ [b]) ∧ (a :: Lib.join l [44] ++ [b]).length ≤ jl l + 2 := by
  have h1 := join_le l
  have h2 := len_jl l
  refine ⟨?_, by simp; omega⟩
  unfold wrapF
  rw [if_pos ⟨by omega, by omega⟩]
theorem items_app {f : S28 → Option (List UInt8)} : ∀ {xs l ys m}, itemsF f xs = some l → itemsF f ys = some m → itemsF f (xs ++ ys) = some (l ++ m)
  | [], l, ys, m, h, k => by simp [itemsF] at h; subst h; exact k
  | x :: t, l, ys, m, h, k => by
    simp only [itemsF, Option.bind_eq_some_iff] at h
    obtain ⟨a, ha, r, hr, h⟩ := h
    obtain rfl : a :: r = l := by simpa using h
    simp [itemsF, ha, items_app hr k]
theorem items_one {f : S28 → Option (List UInt8)} {x : S28} {r : List UInt8} (h : f x = some r) : itemsF f [x] = some [r] := by simp [itemsF, h]
theorem pairs_put {f : S28 → Option (List UInt8)} {x : S28} {r : List UInt8} {k : ByteArray} (hx : f x = some r) (hk : k.data.toList.length ≤ 1000000) (hr : r.length ≤ 1000000000) :
    ∀ (i : Nat) {xs ns l}, xs.length = ns.length → i ≤ xs.length → pairsF f xs ns = some l → pairsF f (put xs i x) (put ns i k) = some (put l i (quoteL k.data.toList ++ [58] ++ r))
  | 0, xs, ns, l, _, _, h => by
    simp only [put, List.take_zero, List.nil_append, List.drop_zero, List.cons_append, pairsF]
    rw [if_pos hk, hx]
    simp only [Option.bind_some]
    rw [if_pos hr, h]
    rfl
  | i + 1, [], ns, l, _, h, _ => absurd h (by simp)
  | i + 1, x' :: xs, [], l, h, _, _ => absurd h (by simp)
  | i + 1, x' :: xs, k' :: ns, l, hl, hi, h => by
    simp only [pairsF] at h
    split at h
    case isFalse => simp at h
    next hk' =>
    rw [Option.bind_eq_some_iff] at h
    obtain ⟨a, ha, h⟩ := h
    split at h
    case isFalse => simp at h
    next hl' =>
    rw [Option.bind_eq_some_iff] at h
    obtain ⟨q, hq, h⟩ := h
    obtain rfl : (quoteL k'.data.toList ++ [58] ++ a) :: q = l := Option.some.inj h
    have ih := pairs_put hx hk hr i (by simpa using hl) (by simpa using hi) hq
    simp only [put, List.take_succ_cons, List.drop_succ_cons, List.cons_append, pairsF] at ih ⊢
    rw [if_pos hk', ha]
    simp only [Option.bind_some]
    rw [if_pos hl', ih]
    rfl
theorem jl_put (l : List (List UInt8)) (i : Nat) (x : List UInt8) : jl (put l i x) = jl l + x.length + 1 := by
  unfold put
  rw [jl_app, jl_app, jl_one]
  have : jl (l.take i) + jl (l.drop i) = jl l := by rw [← jl_app, List.take_append_drop]
  omega
theorem txF_4 (n : Nat) (l : List S28) : txF (n + 1) ⟨4, false, z24, ⟨#[]⟩, l, []⟩ = (itemsF (txF n) l).bind (wrapF 91 93) := rfl
theorem txF_5 (n : Nat) (l : List S28) (m : List ByteArray) : txF (n + 1) ⟨5, false, z24, ⟨#[]⟩, l, m⟩ = (pairsF (txF n) l m).bind (wrapF 123 125) := rfl
theorem txF_3 (n : Nat) (l : List UInt8) (h : l.length ≤ 1000000) : txF (n + 1) ⟨3, false, z24, ofL l, [], []⟩ = some (quoteL l) := (show txF (n + 1) ⟨3, false, z24, ofL l, [], []⟩ = if l.length ≤ 1000000 then some (quoteL l) else none from rfl).trans (if_pos h)
theorem txF_2 (n : Nat) (a : S24) : txF (n + 1) ⟨2, false, a, ⟨#[]⟩, [], []⟩ = (Pr.num_Text.f a.f0 a.f1 a.f2).bind fun b => some b.data.toList := rfl
def Sized (n : Nat) (f : S → S28 × S) : Prop := ∀ a, a.s.length ≤ 50000 → (f a).2.e = 0 → ∃ r, txF n (f a).1 = some r ∧ r.length + 6 * (f a).2.s.length ≤ 6 * a.s.length
theorem skip_le (a : S) : a.skip.s.length ≤ a.s.length := skip_len a
theorem need_w {a : S} {p : List UInt8} (h : (a.need p).e = 0) : (a.need p).s.length + p.length ≤ a.s.length := by
  unfold S.need at h ⊢
  by_cases ht : a.took p = true
  · rw [if_pos ht, take_yes ht]
    have hp : Lib.hasPrefix a.skip.s p = true := by unfold S.took at ht; simp at ht; exact ht.1
    unfold Lib.trimPrefix
    rw [if_pos hp]
    unfold Lib.hasPrefix at hp
    rw [List.isPrefixOf_iff_prefix] at hp
    have := hp.length_le
    have := skip_le a
    simp only [List.length_drop]
    omega
  · rw [if_neg ht] at h
    exact absurd h (fail_ne _ 11 (by decide))
theorem arr_sized {n : Nat} (h : Sized n (gv n)) (c : UInt8) (l : List UInt8) (o : Int) (hl : (c :: l).length ≤ 50000) (h0 : (S.arr (gv n) ⟨c :: l, o, 0⟩).2.e = 0) :
    ∃ r, txF (n + 1) (S.arr (gv n) ⟨c :: l, o, 0⟩).1 = some r ∧ r.length + 6 * (S.arr (gv n) ⟨c :: l, o, 0⟩).2.s.length ≤ 6 * (c :: l).length := by
  have hen : S.enter ⟨c :: l, o, 0⟩ = ⟨l, o + 1, 0⟩ ∨ (S.enter ⟨c :: l, o, 0⟩).e = 35 := by
    unfold S.enter S.enter0
    split
    · right; rfl
    · left; rfl
  have h1 : (listG (arrT (gv n)) [93] [] (S.enter ⟨c :: l, o, 0⟩)).2.e = 0 := h0
  rcases hen with hen | hen
  · rw [hen] at h1
    have := listG_inv (st := arrT (gv n)) (Inv := fun xs k => ∃ t, itemsF (txF n) xs = some t ∧ jl t + 6 * k ≤ 6 * l.length + 6 ∧ k ≤ l.length + 1) (fun x a h => arrT_e h n x) (fun x k j ⟨t, h1, h2, h3⟩ hj => ⟨t, h1, by omega, by omega⟩)
      (fun x a ha ⟨t, h1, h2, h3⟩ hv => by
        have hv' : (gv n a).2.e = 0 := hv
        obtain ⟨r, k1, k2⟩ := h a (by simp at hl; omega) hv'
        refine ⟨t ++ [r], items_app h1 (items_one k1), ?_, ?_⟩
        · rw [jl_app, jl_one]
          show jl t + (r.length + 1) + 6 * (gv n a).2.s.length ≤ _
          omega
        · have := (keeps_gv n a).len
          show (gv n a).2.s.length ≤ _
          omega) 93 [] ⟨l, o + 1, 0⟩ ⟨[], rfl, by simp [jl]; omega, Nat.le_refl _⟩ h1
    obtain ⟨t, k1, k2, k3⟩ := this
    have hw := wrap_ok (l := t) 91 93 (by simp at hl; omega)
    unfold S.arr
    rw [listF_G, hen]
    refine ⟨91 :: Lib.join t [44] ++ [93], ?_, ?_⟩
    · simp only []
      rw [txF_4, k1]
      exact hw.1
    · simp only [List.length_cons]
      have := hw.2
      omega
  · exact absurd h1 (by rw [listG_e (fun x a h => arrT_e h n x) _ _ (by rw [hen]; decide), hen]; decide)
theorem pos_len (ns : List ByteArray) (x : ByteArray) : pos ns x ≤ ns.length := pos_le ns x
theorem obj_sized {n : Nat} (h : Sized n (gv n)) (c : UInt8) (l : List UInt8) (o : Int) (hl : (c :: l).length ≤ 50000) (h0 : (S.obj (gv n) ⟨c :: l, o, 0⟩).2.e = 0) :
    ∃ r, txF (n + 1) (S.obj (gv n) ⟨c :: l, o, 0⟩).1 = some r ∧ r.length + 6 * (S.obj (gv n) ⟨c :: l, o, 0⟩).2.s.length ≤ 6 * (c :: l).length := by
  have hen : S.enter ⟨c :: l, o, 0⟩ = ⟨l, o + 1, 0⟩ ∨ (S.enter ⟨c :: l, o, 0⟩).e = 35 := by
    unfold S.enter S.enter0
    split
    · right; rfl
    · left; rfl
  have h1 : (listG (objT (gv n)) [125] ([], []) (S.enter ⟨c :: l, o, 0⟩)).2.e = 0 := h0
  rcases hen with hen | hen
  · rw [hen] at h1
    have := listG_inv (st := objT (gv n)) (Inv := fun p k => ∃ t, pairsF (txF n) p.1 p.2 = some t ∧ p.1.length = p.2.length ∧ jl t + 6 * k ≤ 6 * l.length + 6 ∧ k ≤ l.length + 1) (fun x a h => objT_e h n x) (fun x k j ⟨t, h1, h2, h3, h4⟩ hj => ⟨t, h1, h2, by omega, by omega⟩)
      (fun x a ha ⟨t, h1, h2, h3, h4⟩ hv => by
        unfold objT at hv ⊢
        by_cases hp : Lib.hasPrefix a.skip.s [34] = false
        · rw [if_pos hp] at hv
          exact absurd hv (fail_ne _ 11 (by decide))
        rw [if_neg hp] at hv ⊢
        have hv' : (gv n (objA x.2 a)).2.e = 0 := hv
        have he := e0_of (f := fun a => (gv n a).2) (fun a ha => by rw [gv_bad ha]; rfl) hv'
        have hk : a.skip.s ≠ [] := fun e => hp (by rw [e]; rfl)
        have hst : (a.skip.st).2.e = 0 := by
          refine e0_of (f := fun b => S.need (S.twice b (has x.2 (objN a))) [58]) (fun b hb => ?_) (a := a.skip.st.2) he
          have := twice_e hb (has x.2 (objN a))
          rw [need_e (by rw [this]; exact hb), this]
        have hs1 := st_sz a.skip hk hst
        have hs2 := skip_le a
        have hs3 : (objA x.2 a).s.length + 1 ≤ (a.skip.st).2.s.length := by
          have h7 := need_w (a := S.twice a.skip.st.2 (has x.2 (objN a))) (p := [58]) he
          have h8 : (S.twice a.skip.st.2 (has x.2 (objN a))).s = a.skip.st.2.s := by
            unfold S.twice
            split
            · exact fail_s _ _
            · rfl
          rw [h8] at h7
          exact h7
        have hb1 := st_bd a.skip
        obtain ⟨r, k1, k2⟩ := h (objA x.2 a) (by simp at hl; omega) hv'
        have hN : (objN a).data.toList = (a.skip.st).1 := ofL_data _
        have hp2 := pairs_put (k := objN a) k1 (by rw [hN]; simp at hl; omega) (by simp at hl; omega) (pos x.2 (objN a)) h2 (by rw [h2]; exact pos_len _ _) h1
        refine ⟨_, hp2, ?_, ?_, ?_⟩
        · have := pos_len x.2 (objN a)
          simp only [put, List.length_append, List.length_take, List.length_drop, List.length_cons, List.length_nil]
          omega
        · rw [jl_put, hN]
          simp only [List.length_append, List.length_cons, List.length_nil]
          omega
        · have := (keeps_gv n (objA x.2 a)).len
          simp only []
          omega) 125 ([], []) ⟨l, o + 1, 0⟩ ⟨[], rfl, rfl, by simp [jl]; omega, Nat.le_refl _⟩ h1
    obtain ⟨t, k1, k4, k2, k3⟩ := this
    have hw := wrap_ok (l := t) 123 125 (by simp at hl; omega)
    unfold S.obj
    rw [listF_G, hen]
    refine ⟨123 :: Lib.join t [44] ++ [125], ?_, ?_⟩
    · simp only []
      rw [txF_5, k1]
      exact hw.1
    · simp only [List.length_cons]
      have := hw.2
      omega
  · exact absurd h1 (by rw [listG_e (fun x a h => objT_e h n x) _ _ (by rw [hen]; decide), hen]; decide)
theorem gv_sized : ∀ n, Sized n (gv n)
  | 0 => fun a hl h => by
    exfalso
    unfold gv at h
    split at h
    · exact fail_ne _ 11 (by decide) h
    · rename_i h1; exact h1 h
  | n + 1 => fun a hl h => by
    have he : a.e = 0 := e0_of (f := fun a => (gv (n + 1) a).2) (fun a ha => by rw [gv_bad ha]; rfl) h
    have hs := skip_le a
    have hv : gv (n + 1) a = S.value1 textV (S.arr (gv n)) (S.obj (gv n)) a.skip := rfl
    rw [hv] at h ⊢
    have hse : a.skip.e = 0 := he
    generalize a.skip = b at h hs hse ⊢
    obtain ⟨s, o, e⟩ := b
    simp only [] at hs hse
    subst hse
    suffices ∃ r, txF (n + 1) (S.value1 textV (S.arr (gv n)) (S.obj (gv n)) ⟨s, o, 0⟩).1 = some r ∧ r.length + 6 * (S.value1 textV (S.arr (gv n)) (S.obj (gv n)) ⟨s, o, 0⟩).2.s.length ≤ 6 * s.length by
      obtain ⟨r, h1, h2⟩ := this
      exact ⟨r, h1, by omega⟩
    unfold S.value1 at h ⊢
    rw [if_neg (show ¬ (S.mk s o 0).e ≠ 0 from fun h => h rfl)] at h ⊢
    cases s with
    | nil => exact absurd h (fail_ne ⟨[], o, 0⟩ 11 (by decide))
    | cons c l =>
      simp only [] at h ⊢
      have nd : ∀ p r x, p.length = 4 ∨ p.length = 5 → r.length ≤ 5 → txF (n + 1) x = some r → (S.need ⟨c :: l, o, 0⟩ p).e = 0 → ∃ r, txF (n + 1) x = some r ∧ r.length + 6 * (S.need ⟨c :: l, o, 0⟩ p).s.length ≤ 6 * (c :: l).length := fun p r x hp hr hx hn => by
        have h1 := need_w hn
        refine ⟨r, hx, ?_⟩
        simp only [] at h1
        omega
      split at h
      · rename_i hc; rw [if_pos hc]; exact nd _ [110, 117, 108, 108] _ (.inl rfl) (by decide) rfl h
      rename_i hc; rw [if_neg hc]
      split at h
      · rename_i hc; rw [if_pos hc]; exact nd _ [116, 114, 117, 101] _ (.inl rfl) (by decide) rfl h
      rename_i hc; rw [if_neg hc]
      split at h
      · rename_i hc; rw [if_pos hc]; exact nd _ [102, 97, 108, 115, 101] _ (.inr rfl) (by decide) rfl h
      rename_i hc; rw [if_neg hc]
      split at h
      · rename_i hc; rw [if_pos hc]
        have h1 := st_sz ⟨c :: l, o, 0⟩ (by simp) h
        have h2 := st_bd ⟨c :: l, o, 0⟩
        refine ⟨quoteL (S.st ⟨c :: l, o, 0⟩).1, ?_, h1⟩
        exact txF_3 n _ (by simp only [] at h2; omega)
      rename_i hc; rw [if_neg hc]
      split at h
      · rename_i hc; rw [if_pos hc]
        exact arr_sized (gv_sized n) c l o (by omega) h
      rename_i hc; rw [if_neg hc]
      split at h
      · rename_i hc; rw [if_pos hc]
        exact obj_sized (gv_sized n) c l o (by omega) h
      rename_i hc; rw [if_neg hc]
      split at h
      · rename_i hc; rw [if_pos hc]
        have hn : (NumP.parse (S.numL ⟨c :: l, o, 0⟩)).2 = 0 := by
          unfold S.numS at h
          simp only [] at h
          split at h
          · assumption
          · rename_i h9
            rw [fail_e0 rfl] at h
            exact absurd h h9
        have ht := num_tx _ hn
        have hL : (S.numL ⟨c :: l, o, 0⟩).length + (S.numS ⟨c :: l, o, 0⟩).s.length = (c :: l).length := by
          have hle := numR_le ⟨c :: l, o, 0⟩
          show (List.take _ _).length + (S.numR ⟨c :: l, o, 0⟩).length = _
          rw [List.length_take]
          simp only [] at hle ⊢
          omega
        refine ⟨NumP.text (NumP.parse (S.numL ⟨c :: l, o, 0⟩)).1, ?_, by simp only []; omega⟩
        refine (txF_2 n _).trans ?_
        have := num_txF _ hn _ 0 rfl
        simp only [] at this
        rw [this]
        rfl
      · exact absurd h (fail_ne ⟨c :: l, o, 0⟩ 11 (by decide))
theorem pv_text (s : List UInt8) : ∃ r, txF 17 (pv s).1 = some r ∧ ((pv s).2 = 0 → r.length ≤ 6 * s.length) := by
  generalize hp : pv s = q
  obtain ⟨x, e⟩ := q
  simp only []
  by_cases he : e = 0
  · subst he
    obtain ⟨hl, r, hg, hr⟩ := pv_ok hp
    obtain ⟨t, h1, h2⟩ := gv_sized 17 ⟨s, 0, 0⟩ (by show s.length ≤ _; omega) (by rw [hg])
    rw [hg] at h1 h2
    exact ⟨t, h1, fun _ => by simp only [] at h2; omega⟩
  · refine ⟨[110, 117, 108, 108], ?_, fun h => absurd h he⟩
    have hx : x = z28 := by
      by_cases hl : s.length ≤ 4096
      · rw [pv_gv s hl] at hp
        split at hp
        · exact absurd (congrArg Prod.snd hp).symm he
        · exact (congrArg Prod.fst hp).symm
      · unfold pv parseV at hp
        rw [if_pos (by omega)] at hp
        exact (congrArg Prod.fst hp).symm
    rw [hx]
    rfl
end Js
end Go.Proofs.YtapcpndplnkfjaaGreatDoor
namespace Go.Proofs.YtapcpndplnkfjaaGreatDoor
open Go.RowKit Go.Proofs.YtapcpndplnkfjaaGreatDoorW.PrintWords Go.Proofs.YtapcpndplnkfjaaGreatDoorW.PrintLast Go.Proofs.YtapcpndplnkfjaaGreatDoorW.PrintMore
set_option linter.unusedVariables false
set_option linter.unusedSimpArgs false
namespace Js
end Js
end Go.Proofs.YtapcpndplnkfjaaGreatDoor
namespace Go.Proofs.YtapcpndplnkfjaaGreatDoor
open Go.RowKit Go.Proofs.YtapcpndplnkfjaaGreatDoorW.PrintWords Go.Proofs.YtapcpndplnkfjaaGreatDoorW.PrintLast Go.Proofs.YtapcpndplnkfjaaGreatDoorW.PrintMore
attribute [local go_sem] max2_int min2_int max_two min_two max_three min_three max_four min_four
set_option linter.unusedVariables false
set_option linter.unusedSimpArgs false
end Go.Proofs.YtapcpndplnkfjaaGreatDoor
namespace Go.Proofs.YtapcpndplnkfjaaGreatDoor
open Go.RowKit Go.Proofs.YtapcpndplnkfjaaGreatDoorW.PrintWords Go.Proofs.YtapcpndplnkfjaaGreatDoorW.PrintLast Go.Proofs.YtapcpndplnkfjaaGreatDoorW.PrintMore
attribute [local go_sem] max2_int min2_int max_two min_two max_three min_three max_four min_four
set_option linter.unusedVariables false
set_option linter.unusedSimpArgs false
end Go.Proofs.YtapcpndplnkfjaaGreatDoor
namespace Go.Proofs.YtapcpndplnkfjaaGreatDoor
open Go.RowKit Go.Proofs.YtapcpndplnkfjaaGreatDoorW.PrintWords Go.Proofs.YtapcpndplnkfjaaGreatDoorW.PrintLast Go.Proofs.YtapcpndplnkfjaaGreatDoorW.PrintMore
set_option linter.unusedVariables false
set_option linter.unusedSimpArgs false
namespace Js
end Js
end Go.Proofs.YtapcpndplnkfjaaGreatDoor
namespace Go.Proofs.YtapcpndplnkfjaaGreatDoor
open Go.RowKit Go.Proofs.YtapcpndplnkfjaaGreatDoorW.PrintWords Go.Proofs.YtapcpndplnkfjaaGreatDoorW.PrintLast Go.Proofs.YtapcpndplnkfjaaGreatDoorW.PrintMore
set_option linter.unusedVariables false
set_option linter.unusedSimpArgs false
namespace Js
end Js
end Go.Proofs.YtapcpndplnkfjaaGreatDoor
namespace Go.Proofs.YtapcpndplnkfjaaGreatDoor
open Go.RowKit Go.Proofs.YtapcpndplnkfjaaGreatDoorW.PrintWords Go.Proofs.YtapcpndplnkfjaaGreatDoorW.PrintLast Go.Proofs.YtapcpndplnkfjaaGreatDoorW.PrintMore
set_option linter.unusedVariables false
set_option linter.unusedSimpArgs false
namespace Js
end Js
end Go.Proofs.YtapcpndplnkfjaaGreatDoor
namespace Go.Proofs.YtapcpndplnkfjaaGreatDoor
open Go.RowKit Go.Proofs.YtapcpndplnkfjaaGreatDoorW.PrintWords Go.Proofs.YtapcpndplnkfjaaGreatDoorW.PrintLast Go.Proofs.YtapcpndplnkfjaaGreatDoorW.PrintMore
set_option linter.unusedVariables false
set_option linter.unusedSimpArgs false
namespace Js
theorem row_C {w : World} {a : Option Addr} {len cap : Nat} {zs : List Int} (h : (a = none ∧ len = 0 ∧ cap = 0 ∧ zs = []) ∨ ∃ x, a = some x ∧ len ≤ cap ∧ cap ≤ maxLen ∧ zs.length = cap ∧ (∀ i, i < zs.length → w.cell? (x.add i) = some (.int .u8 (zs.getD i 0))) ∧ ∀ n ∈ zs, (Lit.int .u8 n).wf = true) :
    Kd.C (Kd.int .u8) w a (zs.take len).length (zs.take len) ∧ (zs.take len).length = len ∧ len ≤ cap ∧ cap ≤ 9223372036854775807 ∧ ∀ x ∈ zs.take len, 0 ≤ x ∧ x < 256 := by
  rcases h with ⟨rfl, rfl, rfl, rfl⟩ | ⟨x, rfl, h1, h2, h3, h4, h5⟩
  · exact ⟨⟨rfl, by decide, fun h => absurd h (by decide)⟩, rfl, Nat.le_refl _, by decide, fun x hx => by simp at hx⟩
  · have hl : (zs.take len).length = len := by rw [List.length_take]; omega
    unfold maxLen at h2
    refine ⟨⟨rfl, by omega, fun _ => ⟨x, rfl, fun j p hj => ?_⟩⟩, hl, h1, by omega, fun y hy => ?_⟩
    · refine ⟨[.int .u8 p], rfl, rfl, fun i u hu => ?_⟩
      have hjl : j < len := by have := (List.getElem?_eq_some_iff.1 hj).1; omega
      match i, hu with
      | 0, hu =>
        obtain rfl : Value.int .u8 p = u := by simpa using hu
        have := h4 j (by omega)
        rw [List.getElem?_take, if_pos hjl] at hj
        rw [List.getD_eq_getElem?_getD, hj] at this
        show w.cell? (x.add (j * 1 + 0)) = some (.int .u8 p)
        rw [Nat.mul_one, Nat.add_zero]
        exact this
    · have := h5 y (List.mem_of_mem_take hy)
      simp [Lit.wf, IntKind.min, IntKind.max, IntKind.bits, IntKind.signed] at this
      omega
end Js
end Go.Proofs.YtapcpndplnkfjaaGreatDoor
namespace Go.Proofs.YtapcpndplnkfjaaGreatDoor
open Go.RowKit Go.Proofs.YtapcpndplnkfjaaGreatDoorW.PrintWords Go.Proofs.YtapcpndplnkfjaaGreatDoorW.PrintLast Go.Proofs.YtapcpndplnkfjaaGreatDoorW.PrintMore
set_option linter.unusedVariables false
set_option linter.unusedSimpArgs false
namespace Js
def blankC (z : Int) : UInt8 := if z % 4 = 0 then 32 else if z % 4 = 1 then 9 else if z % 4 = 2 then 10 else 13
theorem blank_bl (l : List Int) : bl (l.map blankC) := fun c hc => by
  obtain ⟨z, _, rfl⟩ := List.mem_map.1 hc
  unfold blankC
  (repeat' split) <;> rfl
theorem blank_piece (z : Int) (h : 0 ≤ z ∧ z < 256) : (⟨#[32, 9, 10, 13]⟩ : ByteArray).extract (z % 4).toNat ((z % 4).toNat + 1) = ofL [blankC z] := by
  have : ∀ k : Fin 256, (⟨#[32, 9, 10, 13]⟩ : ByteArray).extract ((k.val : Int) % 4).toNat (((k.val : Int) % 4).toNat + 1) = ofL [blankC (k.val : Int)] := by decide +kernel
  have h2 := this ⟨z.toNat, by omega⟩
  rwa [show (((⟨z.toNat, by omega⟩ : Fin 256).val : Int)) = z by show (z.toNat : Int) = z; omega] at h2
theorem blank_facts (z : Int) (h : 0 ≤ z ∧ z < 256) : ∃ m : Nat, m ≤ 3 ∧ bits .and .u8 z 3 = (m : Int) ∧ (⟨#[32, 9, 10, 13]⟩ : ByteArray).extract m (m + 1) = ofL [blankC z] := by
  have : ∀ k : Fin 256, bits .and .u8 (k.val : Int) 3 = (((k.val % 4 : Nat)) : Int) := by decide +kernel
  have h2 := this ⟨z.toNat, by omega⟩
  have h3 := blank_piece z h
  refine ⟨z.toNat % 4, by omega, ?_, ?_⟩
  · rwa [show (((⟨z.toNat, by omega⟩ : Fin 256).val : Int)) = z by show (z.toNat : Int) = z; omega] at h2
  · rwa [show (z % 4).toNat = z.toNat % 4 by omega] at h3
theorem wrap_u8' {x : Int} (h : 0 ≤ x ∧ x < 256) : IntKind.u8.wrap x = x := by
  have : ∀ k : Fin 256, IntKind.u8.wrap (k.val : Int) = (k.val : Int) := by decide +kernel
  have h2 := this ⟨x.toNat, by omega⟩
  rwa [show (((⟨x.toNat, by omega⟩ : Fin 256).val : Int)) = x by show (x.toNat : Int) = x; omega] at h2
structure Alike (s t G : List UInt8) (x : S28) : Prop where
  around : pv (G ++ (s ++ G)) = (x, 0)
  arr : pv (G ++ 91 :: (G ++ (s ++ (G ++ 44 :: (G ++ (t ++ (G ++ 93 :: G))))))) = pv (91 :: (s ++ 44 :: (t ++ [93])))
  obj : pv (123 :: (G ++ 34 :: 97 :: 34 :: (G ++ 58 :: (G ++ (s ++ (G ++ [125])))))) = pv (123 :: 34 :: 97 :: 34 :: 58 :: (s ++ [125]))
theorem alike {s t G : List UInt8} {x y : S28} (hs : pv s = (x, 0)) (ht : pv t = (y, 0)) (hG : bl G) (h1 : s.length ≤ 300) (h2 : t.length ≤ 300) (h3 : G.length ≤ 20) : Alike s t G x := by
  have hn : bl [] := fun c hc => by cases hc
  obtain ⟨rs, hrs⟩ := reads hs
  obtain ⟨rt, hrt⟩ := reads ht
  refine ⟨pv_around hs hG hG (by simp; omega), ?_, ?_⟩
  · obtain ⟨R, hR⟩ := arr_two hrs hrt
    rw [hR G G G G G G hG hG hG hG hG hG (by simp; omega)]
    exact (hR [] [] [] [] [] [] hn hn hn hn hn hn (by simp; omega)).symm
  · obtain ⟨R, hR⟩ := obj_one hrs
    have e1 := hR [] G G G G [] hn hG hG hG hG hn (by simp; omega)
    have e2 := hR [] [] [] [] [] [] hn hn hn hn hn hn (by simp; omega)
    simp only [List.nil_append, List.append_nil] at e1 e2
    rw [e1, e2]
set_option maxRecDepth 100000 in
set_option maxHeartbeats 2000000 in
theorem blanks_main (s t : List UInt8) (bs : List Int) (hb : ∀ z ∈ bs, 0 ≤ z ∧ z < 256) (hs : s.length ≤ 300) (ht : t.length ≤ 300) (hbl : bs.length ≤ 20) (A : Option Addr) (c : Nat) (w : World) (hT : JTabs w) (hC : Kd.C (Kd.int .u8) w A bs.length bs) (hc : bs.length ≤ c) :
    Calls Tryz.prog 13 #[.string (ofL s), .string (ofL t), .slice A bs.length c] w fun e w' => e = .returned (.bool true) ∧ Below w.heap.size w w' := by
  have HT := Lib.hid hT
  have HC := Lib.hid hC
  have HBS := Lib.hid hb
  have hs1 : ((ofL s).size : Int) ≤ 300 := by rw [ofL_size]; omega
  have ht1 : ((ofL t).size : Int) ≤ 300 := by rw [ofL_size]; omega
  have hb1 : (bs.length : Int) ≤ 20 := by omega
  clear hT hC hb
  go_enter Tryz.func13, Tryz.ntmps13
  go_wp2_with fail
  refine (awake15_calls _ HT.out).mono ?_
  rintro E w1 ⟨rfl, hB⟩
  have HB1 := Lib.hid hB
  clear hB
  go_wp2_with fail
  go_loopw [8, 9] (fun v8 vi wr => ∃ (i : Nat), i ≤ bs.length ∧ v8 = .string (ofL ((bs.take i).map blankC)) ∧ vi = .int .i64 i ∧ Hid (Below w.heap.size w wr)) (fun v8 vi _ => bs.length - (intOf vi).toNat)
  case atStart => exact ⟨0, by omega, rfl, rfl, HB1⟩
  case round =>
    obtain ⟨i, hi, rfl, rfl, HBW⟩ := hrel
    by_cases hin : i < bs.length
    · have hzl : ((bs.take i).map blankC).length = i := by simp; omega
      obtain ⟨ad, cc, hA, -, hK, hc0⟩ := Kd.C_get (Kd.C_below HC.out HBW.out) (0 : Int) (i : Int) (by omega) (by omega)
      subst hA
      obtain ⟨z, hz⟩ : ∃ z, z = bs.getD i 0 := ⟨_, rfl⟩
      have hzr : 0 ≤ z ∧ z < 256 := by rw [hz]; exact HBS.out _ (by rw [List.getD_eq_getElem?_getD, List.getElem?_eq_getElem hin]; simp)
      have hk2 : cc = [.int .u8 z] := by rw [hz]; exact hK
      have hcell := hc0 0 (.int .u8 z) (by rw [hk2]; rfl)
      rw [show (i : Int).toNat * (Kd.int .u8).sz + 0 = i by rw [Int.toNat_natCast]; exact Nat.mul_one i] at hcell
      obtain ⟨m, hm3, hbit, hpc⟩ := blank_facts z hzr
      have hw1 : IntKind.u8.wrap ((m : Int) + 1) = (m : Int) + 1 := wrap_u8' (by omega)
      have hm5 : (m : Int) ≤ (m : Int) + 1 := by omega
      have hz1 : (ofL ((bs.take i).map blankC)).size = i := by rw [ofL_size, hzl]
      have hz2 : (ofL [blankC z]).size = 1 := ofL_size _
      have hi3 : i ≤ 20 := by omega
      obtain ⟨P, hP⟩ : ∃ P, P = (bs.take i).map blankC := ⟨_, rfl⟩
      rw [← hP] at hz1 ⊢
      have hS1 : ofL P ++ ofL [blankC z] = ofL (P ++ [blankC z]) := ofL_app _ _
      have HP : Hid ((bs.take (i + 1)).map blankC = P ++ [blankC z]) := Lib.hid (by rw [hP, hz, List.take_succ_eq_append_getElem hin, List.map_append, List.getD_eq_getElem?_getD, List.getElem?_eq_getElem hin]; rfl)
      clear hP hzl
      have hm4 : ((m : Int) + 1) ≤ 4 := by omega
      have HZ := Lib.hid hz
      clear hz
      clear hc0 hK hk2
      go_wp2_with fail
      go_quiet (fail)
      go_wp2_with fail
      exact ⟨⟨i + 1, by omega, by rw [HP.out], by simp, Lib.hid (pw_below_drewN HBW.out _)⟩, by simp [intOf]; omega⟩
    · have : i = bs.length := by omega
      subst this
      rw [List.take_length]
      obtain ⟨G, hG⟩ : ∃ G, G = bs.map blankC := ⟨_, rfl⟩
      have hGl : G.length ≤ 20 := by rw [hG, List.length_map]; exact hbl
      have HGB : Hid (bl G) := Lib.hid (by rw [hG]; exact blank_bl bs)
      rw [← hG]
      obtain ⟨X, hX⟩ : ∃ X, X = (pv s).1 := ⟨_, rfl⟩
      obtain ⟨e, he⟩ : ∃ e, e = (pv s).2 := ⟨_, rfl⟩
      have HPS : Hid (pv s = (X, e)) := Lib.hid (by rw [hX, he])
      obtain ⟨Y, hY⟩ : ∃ Y, Y = (pv t).1 := ⟨_, rfl⟩
      obtain ⟨f, hf⟩ : ∃ f, f = (pv t).2 := ⟨_, rfl⟩
      have HPT : Hid (pv t = (Y, f)) := Lib.hid (by rw [hY, hf])
      clear hX he hY hf hG hin
      go_wp2_with fail
      refine (jparseR s _ (HT.out.below HBW.out).t X e HPS.out).mono ?_
      rintro E w2 ⟨A1, c1, B1, d1, rfl, hJ, hR, hB⟩
      have HB2 := Lib.hid (HBW.out.trans (hB.mono HBW.out.size))
      have HJ := Lib.hid hJ
      clear hJ hR hB
      go_wp2_with fail
      refine (jparseR t _ (HT.out.below (below_alloc HB2.out _)).t Y f HPT.out).mono ?_
      rintro E w3 ⟨A2, c2, B2, d2, rfl, hJ2, hR2, hB⟩
      clear hJ2 hR2
      have HK1 := Lib.hid (kept hB).1
      have HB3 := Lib.hid ((below_alloc HB2.out _).trans (hB.mono (below_alloc HB2.out _).size))
      have HJ1 := Lib.hid (HJ.out.below ((below_alloc (Below.refl _ _) _).trans (hB.mono (below_alloc (Below.refl _ _) _).size)))
      clear hB HJ HB2
      by_cases hef : e = 0 ∧ f = 0
      · skip
        obtain ⟨rfl, rfl⟩ := hef
        obtain ⟨hal⟩ : Nonempty (Alike s t G X) := ⟨alike HPS.out HPT.out HGB.out hs ht hGl⟩
        have HPB := Lib.hid hal.around
        have HPO := Lib.hid hal.obj
        have HPA := Lib.hid hal.arr
        obtain ⟨C, hC⟩ : ∃ C, C = (pv (91 :: (s ++ 44 :: (t ++ [93])))).1 := ⟨_, rfl⟩
        obtain ⟨u, hu⟩ : ∃ u, u = (pv (91 :: (s ++ 44 :: (t ++ [93])))).2 := ⟨_, rfl⟩
        obtain ⟨M, hM⟩ : ∃ M, M = (pv (123 :: 34 :: 97 :: 34 :: 58 :: (s ++ [125]))).1 := ⟨_, rfl⟩
        obtain ⟨v, hv⟩ : ∃ v, v = (pv (123 :: 34 :: 97 :: 34 :: 58 :: (s ++ [125]))).2 := ⟨_, rfl⟩
        have HPC : Hid (pv (91 :: (s ++ 44 :: (t ++ [93]))) = (C, u)) := Lib.hid (by rw [hC, hu])
        have HPM : Hid (pv (123 :: 34 :: 97 :: 34 :: 58 :: (s ++ [125])) = (M, v)) := Lib.hid (by rw [hM, hv])
        obtain ⟨rX, hrX, -⟩ := pv_text s
        obtain ⟨rC, hrC, -⟩ := pv_text (91 :: (s ++ 44 :: (t ++ [93])))
        obtain ⟨rM, hrM, -⟩ := pv_text (123 :: 34 :: 97 :: 34 :: 58 :: (s ++ [125]))
        rw [HPS.out] at hrX
        rw [HPC.out] at hrC
        rw [HPM.out] at hrM
        have HRX := Lib.hid hrX
        have HRC := Lib.hid hrC
        have HRM := Lib.hid hrM
        clear hal hC hu hM hv hrX hrC hrM
        have hG1 : (ofL G).size ≤ 1000 := by rw [ofL_size]; omega
        have hG2 : (ofL s).size ≤ 1000 := by rw [ofL_size]; omega
        have hG3 : (ofL t).size ≤ 1000 := by rw [ofL_size]; omega
        obtain ⟨P1, hP1⟩ : ∃ P, P = (G ++ s) := ⟨_, rfl⟩
        have hS1 : ofL G ++ ofL s = ofL P1 := by rw [hP1]; exact ofL_app _ _
        have hz1 : (ofL P1).size ≤ 4000 := by rw [ofL_size, hP1]; simp; omega
        obtain ⟨P2, hP2⟩ : ∃ P, P = (P1 ++ G) := ⟨_, rfl⟩
        have hS2 : ofL P1 ++ ofL G = ofL P2 := by rw [hP2]; exact ofL_app _ _
        have hz2 : (ofL P2).size ≤ 4000 := by rw [ofL_size, hP2, hP1]; simp; omega
        have hf3 : P2 = G ++ (s ++ G) := by rw [hP2, hP1]; simp
        have HF3 := Lib.hid hf3
        clear hf3 hP1 hP2
        go_wp2_with fail
        refine (jparseR P2 _ (HT.out.below (below_alloc HB3.out (.cells #[.int .i64 Y.f0, .bool Y.f1, .bool Y.f2.f0, .string Y.f2.f1, .int .i64 Y.f2.f2, .string Y.f3, .slice A2 Y.f4.length c2, .slice B2 Y.f5.length d2] 28))).t X 0 (by rw [HF3.out]; exact HPB.out)).mono ?_
        rintro E w4 ⟨A3, c3, B3, d3, rfl, hJ, hR, hB⟩
        have hnew := (kept hB).1
        have HK1 := Lib.hid (thru (blk_alloc HK1.out (.cells #[.int .i64 Y.f0, .bool Y.f1, .bool Y.f2.f0, .string Y.f2.f1, .int .i64 Y.f2.f2, .string Y.f3, .slice A2 Y.f4.length c2, .slice B2 Y.f5.length d2] 28)) hB)
        have HJ1 := Lib.hid (HJ1.out.below ((below_alloc (Below.refl _ _) _).trans (hB.mono (below_alloc (Below.refl _ _) _).size)))
        have HJ3 := Lib.hid hJ
        have HB4 := Lib.hid ((below_alloc HB3.out (.cells #[.int .i64 Y.f0, .bool Y.f1, .bool Y.f2.f0, .string Y.f2.f1, .int .i64 Y.f2.f2, .string Y.f3, .slice A2 Y.f4.length c2, .slice B2 Y.f5.length d2] 28)).trans (hB.mono (below_alloc HB3.out (.cells #[.int .i64 Y.f0, .bool Y.f1, .bool Y.f2.f0, .string Y.f2.f1, .int .i64 Y.f2.f2, .string Y.f3, .slice A2 Y.f4.length c2, .slice B2 Y.f5.length d2] 28)).size))
        clear hJ hR hB hnew HB3 hS1 hz1 hS2 hz2
        obtain ⟨P3, hP3⟩ : ∃ P, P = ([91] ++ s) := ⟨_, rfl⟩
        have hS3 : (⟨#[91]⟩ : ByteArray) ++ ofL s = ofL P3 := by rw [hP3]; exact ofL_app _ _
        have hz3 : (ofL P3).size ≤ 4000 := by rw [ofL_size, hP3]; simp; omega
        obtain ⟨P4, hP4⟩ : ∃ P, P = (P3 ++ [44]) := ⟨_, rfl⟩
        have hS4 : ofL P3 ++ (⟨#[44]⟩ : ByteArray) = ofL P4 := by rw [hP4]; exact ofL_app _ _
        have hz4 : (ofL P4).size ≤ 4000 := by rw [ofL_size, hP4, hP3]; simp; omega
        obtain ⟨P5, hP5⟩ : ∃ P, P = (P4 ++ t) := ⟨_, rfl⟩
        have hS5 : ofL P4 ++ ofL t = ofL P5 := by rw [hP5]; exact ofL_app _ _
        have hz5 : (ofL P5).size ≤ 4000 := by rw [ofL_size, hP5, hP4, hP3]; simp; omega
        obtain ⟨P6, hP6⟩ : ∃ P, P = (P5 ++ [93]) := ⟨_, rfl⟩
        have hS6 : ofL P5 ++ (⟨#[93]⟩ : ByteArray) = ofL P6 := by rw [hP6]; exact ofL_app _ _
        have hz6 : (ofL P6).size ≤ 4000 := by rw [ofL_size, hP6, hP5, hP4, hP3]; simp; omega
        have hf4 : P6 = 91 :: (s ++ 44 :: (t ++ [93])) := by rw [hP6, hP5, hP4, hP3]; simp
        have HF4 := Lib.hid hf4
        clear hf4 hP3 hP4 hP5 hP6
        go_wp2_with fail
        refine (jparseR P6 _ (HT.out.below (below_alloc HB4.out (.cells #[.int .i64 X.f0, .bool X.f1, .bool X.f2.f0, .string X.f2.f1, .int .i64 X.f2.f2, .string X.f3, .slice A3 X.f4.length c3, .slice B3 X.f5.length d3] 28))).t C u (by rw [HF4.out]; exact HPC.out)).mono ?_
        rintro E w5 ⟨A4, c4, B4, d4, rfl, hJ, hR, hB⟩
        have hnew := (kept hB).1
        have HK3 := Lib.hid hnew
        have HK1 := Lib.hid (thru (blk_alloc HK1.out (.cells #[.int .i64 X.f0, .bool X.f1, .bool X.f2.f0, .string X.f2.f1, .int .i64 X.f2.f2, .string X.f3, .slice A3 X.f4.length c3, .slice B3 X.f5.length d3] 28)) hB)
        have HJ1 := Lib.hid (HJ1.out.below ((below_alloc (Below.refl _ _) _).trans (hB.mono (below_alloc (Below.refl _ _) _).size)))
        have HJ3 := Lib.hid (HJ3.out.below ((below_alloc (Below.refl _ _) _).trans (hB.mono (below_alloc (Below.refl _ _) _).size)))
        have HJ4 := Lib.hid hJ
        have HB5 := Lib.hid ((below_alloc HB4.out (.cells #[.int .i64 X.f0, .bool X.f1, .bool X.f2.f0, .string X.f2.f1, .int .i64 X.f2.f2, .string X.f3, .slice A3 X.f4.length c3, .slice B3 X.f5.length d3] 28)).trans (hB.mono (below_alloc HB4.out (.cells #[.int .i64 X.f0, .bool X.f1, .bool X.f2.f0, .string X.f2.f1, .int .i64 X.f2.f2, .string X.f3, .slice A3 X.f4.length c3, .slice B3 X.f5.length d3] 28)).size))
        clear hJ hR hB hnew HB4 hS3 hz3 hS4 hz4 hS5 hz5 hS6 hz6
        obtain ⟨P7, hP7⟩ : ∃ P, P = (G ++ [91]) := ⟨_, rfl⟩
        have hS7 : ofL G ++ (⟨#[91]⟩ : ByteArray) = ofL P7 := by rw [hP7]; exact ofL_app _ _
        have hz7 : (ofL P7).size ≤ 4000 := by rw [ofL_size, hP7]; simp; omega
        obtain ⟨P8, hP8⟩ : ∃ P, P = (P7 ++ G) := ⟨_, rfl⟩
        have hS8 : ofL P7 ++ ofL G = ofL P8 := by rw [hP8]; exact ofL_app _ _
        have hz8 : (ofL P8).size ≤ 4000 := by rw [ofL_size, hP8, hP7]; simp; omega
        obtain ⟨P9, hP9⟩ : ∃ P, P = (P8 ++ s) := ⟨_, rfl⟩
        have hS9 : ofL P8 ++ ofL s = ofL P9 := by rw [hP9]; exact ofL_app _ _
        have hz9 : (ofL P9).size ≤ 4000 := by rw [ofL_size, hP9, hP8, hP7]; simp; omega
        obtain ⟨P10, hP10⟩ : ∃ P, P = (P9 ++ G) := ⟨_, rfl⟩
        have hS10 : ofL P9 ++ ofL G = ofL P10 := by rw [hP10]; exact ofL_app _ _
        have hz10 : (ofL P10).size ≤ 4000 := by rw [ofL_size, hP10, hP9, hP8, hP7]; simp; omega
        obtain ⟨P11, hP11⟩ : ∃ P, P = (P10 ++ [44]) := ⟨_, rfl⟩
        have hS11 : ofL P10 ++ (⟨#[44]⟩ : ByteArray) = ofL P11 := by rw [hP11]; exact ofL_app _ _
        have hz11 : (ofL P11).size ≤ 4000 := by rw [ofL_size, hP11, hP10, hP9, hP8, hP7]; simp; omega
        obtain ⟨P12, hP12⟩ : ∃ P, P = (P11 ++ G) := ⟨_, rfl⟩
        have hS12 : ofL P11 ++ ofL G = ofL P12 := by rw [hP12]; exact ofL_app _ _
        have hz12 : (ofL P12).size ≤ 4000 := by rw [ofL_size, hP12, hP11, hP10, hP9, hP8, hP7]; simp; omega
        obtain ⟨P13, hP13⟩ : ∃ P, P = (P12 ++ t) := ⟨_, rfl⟩
        have hS13 : ofL P12 ++ ofL t = ofL P13 := by rw [hP13]; exact ofL_app _ _
        have hz13 : (ofL P13).size ≤ 4000 := by rw [ofL_size, hP13, hP12, hP11, hP10, hP9, hP8, hP7]; simp; omega
        obtain ⟨P14, hP14⟩ : ∃ P, P = (P13 ++ G) := ⟨_, rfl⟩
        have hS14 : ofL P13 ++ ofL G = ofL P14 := by rw [hP14]; exact ofL_app _ _
        have hz14 : (ofL P14).size ≤ 4000 := by rw [ofL_size, hP14, hP13, hP12, hP11, hP10, hP9, hP8, hP7]; simp; omega
        obtain ⟨P15, hP15⟩ : ∃ P, P = (P14 ++ [93]) := ⟨_, rfl⟩
        have hS15 : ofL P14 ++ (⟨#[93]⟩ : ByteArray) = ofL P15 := by rw [hP15]; exact ofL_app _ _
        have hz15 : (ofL P15).size ≤ 4000 := by rw [ofL_size, hP15, hP14, hP13, hP12, hP11, hP10, hP9, hP8, hP7]; simp; omega
        obtain ⟨P16, hP16⟩ : ∃ P, P = (P15 ++ G) := ⟨_, rfl⟩
        have hS16 : ofL P15 ++ ofL G = ofL P16 := by rw [hP16]; exact ofL_app _ _
        have hz16 : (ofL P16).size ≤ 4000 := by rw [ofL_size, hP16, hP15, hP14, hP13, hP12, hP11, hP10, hP9, hP8, hP7]; simp; omega
        have hf5 : P16 = G ++ 91 :: (G ++ (s ++ (G ++ 44 :: (G ++ (t ++ (G ++ 93 :: G)))))) := by rw [hP16, hP15, hP14, hP13, hP12, hP11, hP10, hP9, hP8, hP7]; simp
        have HF5 := Lib.hid hf5
        clear hf5 hP7 hP8 hP9 hP10 hP11 hP12 hP13 hP14 hP15 hP16
        go_wp2_with fail
        refine (jparseR P16 _ (HT.out.below (below_alloc HB5.out (.cells #[.int .i64 C.f0, .bool C.f1, .bool C.f2.f0, .string C.f2.f1, .int .i64 C.f2.f2, .string C.f3, .slice A4 C.f4.length c4, .slice B4 C.f5.length d4] 28))).t C u (by rw [HF5.out]; exact HPA.out.trans HPC.out)).mono ?_
        rintro E w6 ⟨A5, c5, B5, d5, rfl, hJ, hR, hB⟩
        have hnew := (kept hB).1
        have HK4 := Lib.hid hnew
        have HK1 := Lib.hid (thru (blk_alloc HK1.out (.cells #[.int .i64 C.f0, .bool C.f1, .bool C.f2.f0, .string C.f2.f1, .int .i64 C.f2.f2, .string C.f3, .slice A4 C.f4.length c4, .slice B4 C.f5.length d4] 28)) hB)
        have HK3 := Lib.hid (thru (blk_alloc HK3.out (.cells #[.int .i64 C.f0, .bool C.f1, .bool C.f2.f0, .string C.f2.f1, .int .i64 C.f2.f2, .string C.f3, .slice A4 C.f4.length c4, .slice B4 C.f5.length d4] 28)) hB)
        have HJ1 := Lib.hid (HJ1.out.below ((below_alloc (Below.refl _ _) _).trans (hB.mono (below_alloc (Below.refl _ _) _).size)))
        have HJ3 := Lib.hid (HJ3.out.below ((below_alloc (Below.refl _ _) _).trans (hB.mono (below_alloc (Below.refl _ _) _).size)))
        have HJ4 := Lib.hid (HJ4.out.below ((below_alloc (Below.refl _ _) _).trans (hB.mono (below_alloc (Below.refl _ _) _).size)))
        have HJ5 := Lib.hid hJ
        have HB6 := Lib.hid ((below_alloc HB5.out (.cells #[.int .i64 C.f0, .bool C.f1, .bool C.f2.f0, .string C.f2.f1, .int .i64 C.f2.f2, .string C.f3, .slice A4 C.f4.length c4, .slice B4 C.f5.length d4] 28)).trans (hB.mono (below_alloc HB5.out (.cells #[.int .i64 C.f0, .bool C.f1, .bool C.f2.f0, .string C.f2.f1, .int .i64 C.f2.f2, .string C.f3, .slice A4 C.f4.length c4, .slice B4 C.f5.length d4] 28)).size))
        clear hJ hR hB hnew HB5 hS7 hz7 hS8 hz8 hS9 hz9 hS10 hz10 hS11 hz11 hS12 hz12 hS13 hz13 hS14 hz14 hS15 hz15 hS16 hz16
        obtain ⟨P17, hP17⟩ : ∃ P, P = ([123, 34, 97, 34, 58] ++ s) := ⟨_, rfl⟩
        have hS17 : (⟨#[123, 34, 97, 34, 58]⟩ : ByteArray) ++ ofL s = ofL P17 := by rw [hP17]; exact ofL_app _ _
        have hz17 : (ofL P17).size ≤ 4000 := by rw [ofL_size, hP17]; simp; omega
        obtain ⟨P18, hP18⟩ : ∃ P, P = (P17 ++ [125]) := ⟨_, rfl⟩
        have hS18 : ofL P17 ++ (⟨#[125]⟩ : ByteArray) = ofL P18 := by rw [hP18]; exact ofL_app _ _
        have hz18 : (ofL P18).size ≤ 4000 := by rw [ofL_size, hP18, hP17]; simp; omega
        have hf6 : P18 = 123 :: 34 :: 97 :: 34 :: 58 :: (s ++ [125]) := by rw [hP18, hP17]; simp
        have HF6 := Lib.hid hf6
        clear hf6 hP17 hP18
        go_wp2_with fail
        refine (jparseR P18 _ (HT.out.below (below_alloc HB6.out (.cells #[.int .i64 C.f0, .bool C.f1, .bool C.f2.f0, .string C.f2.f1, .int .i64 C.f2.f2, .string C.f3, .slice A5 C.f4.length c5, .slice B5 C.f5.length d5] 28))).t M v (by rw [HF6.out]; exact HPM.out)).mono ?_
        rintro E w7 ⟨A6, c6, B6, d6, rfl, hJ, hR, hB⟩
        have hnew := (kept hB).1
        have HK5 := Lib.hid hnew
        have HK1 := Lib.hid (thru (blk_alloc HK1.out (.cells #[.int .i64 C.f0, .bool C.f1, .bool C.f2.f0, .string C.f2.f1, .int .i64 C.f2.f2, .string C.f3, .slice A5 C.f4.length c5, .slice B5 C.f5.length d5] 28)) hB)
        have HK3 := Lib.hid (thru (blk_alloc HK3.out (.cells #[.int .i64 C.f0, .bool C.f1, .bool C.f2.f0, .string C.f2.f1, .int .i64 C.f2.f2, .string C.f3, .slice A5 C.f4.length c5, .slice B5 C.f5.length d5] 28)) hB)
        have HK4 := Lib.hid (thru (blk_alloc HK4.out (.cells #[.int .i64 C.f0, .bool C.f1, .bool C.f2.f0, .string C.f2.f1, .int .i64 C.f2.f2, .string C.f3, .slice A5 C.f4.length c5, .slice B5 C.f5.length d5] 28)) hB)
        have HJ1 := Lib.hid (HJ1.out.below ((below_alloc (Below.refl _ _) _).trans (hB.mono (below_alloc (Below.refl _ _) _).size)))
        have HJ3 := Lib.hid (HJ3.out.below ((below_alloc (Below.refl _ _) _).trans (hB.mono (below_alloc (Below.refl _ _) _).size)))
        have HJ4 := Lib.hid (HJ4.out.below ((below_alloc (Below.refl _ _) _).trans (hB.mono (below_alloc (Below.refl _ _) _).size)))
        have HJ5 := Lib.hid (HJ5.out.below ((below_alloc (Below.refl _ _) _).trans (hB.mono (below_alloc (Below.refl _ _) _).size)))
        have HJ6 := Lib.hid hJ
        have HB7 := Lib.hid ((below_alloc HB6.out (.cells #[.int .i64 C.f0, .bool C.f1, .bool C.f2.f0, .string C.f2.f1, .int .i64 C.f2.f2, .string C.f3, .slice A5 C.f4.length c5, .slice B5 C.f5.length d5] 28)).trans (hB.mono (below_alloc HB6.out (.cells #[.int .i64 C.f0, .bool C.f1, .bool C.f2.f0, .string C.f2.f1, .int .i64 C.f2.f2, .string C.f3, .slice A5 C.f4.length c5, .slice B5 C.f5.length d5] 28)).size))
        clear hJ hR hB hnew HB6 hS17 hz17 hS18 hz18
        obtain ⟨P19, hP19⟩ : ∃ P, P = ([123] ++ G) := ⟨_, rfl⟩
        have hS19 : (⟨#[123]⟩ : ByteArray) ++ ofL G = ofL P19 := by rw [hP19]; exact ofL_app _ _
        have hz19 : (ofL P19).size ≤ 4000 := by rw [ofL_size, hP19]; simp; omega
        obtain ⟨P20, hP20⟩ : ∃ P, P = (P19 ++ [34, 97, 34]) := ⟨_, rfl⟩
        have hS20 : ofL P19 ++ (⟨#[34, 97, 34]⟩ : ByteArray) = ofL P20 := by rw [hP20]; exact ofL_app _ _
        have hz20 : (ofL P20).size ≤ 4000 := by rw [ofL_size, hP20, hP19]; simp; omega
        obtain ⟨P21, hP21⟩ : ∃ P, P = (P20 ++ G) := ⟨_, rfl⟩
        have hS21 : ofL P20 ++ ofL G = ofL P21 := by rw [hP21]; exact ofL_app _ _
        have hz21 : (ofL P21).size ≤ 4000 := by rw [ofL_size, hP21, hP20, hP19]; simp; omega
        obtain ⟨P22, hP22⟩ : ∃ P, P = (P21 ++ [58]) := ⟨_, rfl⟩
        have hS22 : ofL P21 ++ (⟨#[58]⟩ : ByteArray) = ofL P22 := by rw [hP22]; exact ofL_app _ _
        have hz22 : (ofL P22).size ≤ 4000 := by rw [ofL_size, hP22, hP21, hP20, hP19]; simp; omega
        obtain ⟨P23, hP23⟩ : ∃ P, P = (P22 ++ G) := ⟨_, rfl⟩
        have hS23 : ofL P22 ++ ofL G = ofL P23 := by rw [hP23]; exact ofL_app _ _
        have hz23 : (ofL P23).size ≤ 4000 := by rw [ofL_size, hP23, hP22, hP21, hP20, hP19]; simp; omega
        obtain ⟨P24, hP24⟩ : ∃ P, P = (P23 ++ s) := ⟨_, rfl⟩
        have hS24 : ofL P23 ++ ofL s = ofL P24 := by rw [hP24]; exact ofL_app _ _
        have hz24 : (ofL P24).size ≤ 4000 := by rw [ofL_size, hP24, hP23, hP22, hP21, hP20, hP19]; simp; omega
        obtain ⟨P25, hP25⟩ : ∃ P, P = (P24 ++ G) := ⟨_, rfl⟩
        have hS25 : ofL P24 ++ ofL G = ofL P25 := by rw [hP25]; exact ofL_app _ _
        have hz25 : (ofL P25).size ≤ 4000 := by rw [ofL_size, hP25, hP24, hP23, hP22, hP21, hP20, hP19]; simp; omega
        obtain ⟨P26, hP26⟩ : ∃ P, P = (P25 ++ [125]) := ⟨_, rfl⟩
        have hS26 : ofL P25 ++ (⟨#[125]⟩ : ByteArray) = ofL P26 := by rw [hP26]; exact ofL_app _ _
        have hz26 : (ofL P26).size ≤ 4000 := by rw [ofL_size, hP26, hP25, hP24, hP23, hP22, hP21, hP20, hP19]; simp; omega
        have hf7 : P26 = 123 :: (G ++ 34 :: 97 :: 34 :: (G ++ 58 :: (G ++ (s ++ (G ++ [125]))))) := by rw [hP26, hP25, hP24, hP23, hP22, hP21, hP20, hP19]; simp
        have HF7 := Lib.hid hf7
        clear hf7 hP19 hP20 hP21 hP22 hP23 hP24 hP25 hP26
        go_wp2_with fail
        refine (jparseR P26 _ (HT.out.below (below_alloc HB7.out (.cells #[.int .i64 M.f0, .bool M.f1, .bool M.f2.f0, .string M.f2.f1, .int .i64 M.f2.f2, .string M.f3, .slice A6 M.f4.length c6, .slice B6 M.f5.length d6] 28))).t M v (by rw [HF7.out]; exact HPO.out.trans HPM.out)).mono ?_
        rintro E w8 ⟨A7, c7, B7, d7, rfl, hJ, hR, hB⟩
        have hnew := (kept hB).1
        have HK6 := Lib.hid hnew
        have HK1 := Lib.hid (thru (blk_alloc HK1.out (.cells #[.int .i64 M.f0, .bool M.f1, .bool M.f2.f0, .string M.f2.f1, .int .i64 M.f2.f2, .string M.f3, .slice A6 M.f4.length c6, .slice B6 M.f5.length d6] 28)) hB)
        have HK3 := Lib.hid (thru (blk_alloc HK3.out (.cells #[.int .i64 M.f0, .bool M.f1, .bool M.f2.f0, .string M.f2.f1, .int .i64 M.f2.f2, .string M.f3, .slice A6 M.f4.length c6, .slice B6 M.f5.length d6] 28)) hB)
        have HK4 := Lib.hid (thru (blk_alloc HK4.out (.cells #[.int .i64 M.f0, .bool M.f1, .bool M.f2.f0, .string M.f2.f1, .int .i64 M.f2.f2, .string M.f3, .slice A6 M.f4.length c6, .slice B6 M.f5.length d6] 28)) hB)
        have HK5 := Lib.hid (thru (blk_alloc HK5.out (.cells #[.int .i64 M.f0, .bool M.f1, .bool M.f2.f0, .string M.f2.f1, .int .i64 M.f2.f2, .string M.f3, .slice A6 M.f4.length c6, .slice B6 M.f5.length d6] 28)) hB)
        have HJ1 := Lib.hid (HJ1.out.below ((below_alloc (Below.refl _ _) _).trans (hB.mono (below_alloc (Below.refl _ _) _).size)))
        have HJ3 := Lib.hid (HJ3.out.below ((below_alloc (Below.refl _ _) _).trans (hB.mono (below_alloc (Below.refl _ _) _).size)))
        have HJ4 := Lib.hid (HJ4.out.below ((below_alloc (Below.refl _ _) _).trans (hB.mono (below_alloc (Below.refl _ _) _).size)))
        have HJ5 := Lib.hid (HJ5.out.below ((below_alloc (Below.refl _ _) _).trans (hB.mono (below_alloc (Below.refl _ _) _).size)))
        have HJ6 := Lib.hid (HJ6.out.below ((below_alloc (Below.refl _ _) _).trans (hB.mono (below_alloc (Below.refl _ _) _).size)))
        have HJ7 := Lib.hid hJ
        have HB8 := Lib.hid ((below_alloc HB7.out (.cells #[.int .i64 M.f0, .bool M.f1, .bool M.f2.f0, .string M.f2.f1, .int .i64 M.f2.f2, .string M.f3, .slice A6 M.f4.length c6, .slice B6 M.f5.length d6] 28)).trans (hB.mono (below_alloc HB7.out (.cells #[.int .i64 M.f0, .bool M.f1, .bool M.f2.f0, .string M.f2.f1, .int .i64 M.f2.f2, .string M.f3, .slice A6 M.f4.length c6, .slice B6 M.f5.length d6] 28)).size))
        clear hJ hR hB hnew HB7 hS19 hz19 hS20 hz20 hS21 hz21 hS22 hz22 hS23 hz23 hS24 hz24 hS25 hz25 hS26 hz26
        go_upto_region 22 with fail
        have hWd := (below_alloc (Below.refl w8.heap.size w8) (.cells #[.int .i64 M.f0, .bool M.f1, .bool M.f2.f0, .string M.f2.f1, .int .i64 M.f2.f2, .string M.f3, .slice A7 M.f4.length c7, .slice B7 M.f5.length d7] 28)).trans ((below_drew1 (Below.refl _ (w8.alloc (.cells #[.int .i64 M.f0, .bool M.f1, .bool M.f2.f0, .string M.f2.f1, .int .i64 M.f2.f2, .string M.f3, .slice A7 M.f4.length c7, .slice B7 M.f5.length d7] 28)))).mono (below_alloc (Below.refl w8.heap.size w8) (.cells #[.int .i64 M.f0, .bool M.f1, .bool M.f2.f0, .string M.f2.f1, .int .i64 M.f2.f2, .string M.f3, .slice A7 M.f4.length c7, .slice B7 M.f5.length d7] 28)).size)
        have hb1 := blk_drew (blk_alloc HK1.out (.cells #[.int .i64 M.f0, .bool M.f1, .bool M.f2.f0, .string M.f2.f1, .int .i64 M.f2.f2, .string M.f3, .slice A7 M.f4.length c7, .slice B7 M.f5.length d7] 28))
        have hb3 := blk_drew (blk_alloc HK3.out (.cells #[.int .i64 M.f0, .bool M.f1, .bool M.f2.f0, .string M.f2.f1, .int .i64 M.f2.f2, .string M.f3, .slice A7 M.f4.length c7, .slice B7 M.f5.length d7] 28))
        have hb4 := blk_drew (blk_alloc HK4.out (.cells #[.int .i64 M.f0, .bool M.f1, .bool M.f2.f0, .string M.f2.f1, .int .i64 M.f2.f2, .string M.f3, .slice A7 M.f4.length c7, .slice B7 M.f5.length d7] 28))
        have hb5 := blk_drew (blk_alloc HK5.out (.cells #[.int .i64 M.f0, .bool M.f1, .bool M.f2.f0, .string M.f2.f1, .int .i64 M.f2.f2, .string M.f3, .slice A7 M.f4.length c7, .slice B7 M.f5.length d7] 28))
        have hb6 := blk_drew (blk_alloc HK6.out (.cells #[.int .i64 M.f0, .bool M.f1, .bool M.f2.f0, .string M.f2.f1, .int .i64 M.f2.f2, .string M.f3, .slice A7 M.f4.length c7, .slice B7 M.f5.length d7] 28))
        have hb7 := blk_drew (blk_new w8 (.cells #[.int .i64 M.f0, .bool M.f1, .bool M.f2.f0, .string M.f2.f1, .int .i64 M.f2.f2, .string M.f3, .slice A7 M.f4.length c7, .slice B7 M.f5.length d7] 28))
        have hst : (fun w' : World => w'.heap[w2.heap.size]? = some (.cells #[.int .i64 X.f0, .bool X.f1, .bool X.f2.f0, .string X.f2.f1, .int .i64 X.f2.f2, .string X.f3, .slice A1 X.f4.length c1, .slice B1 X.f5.length d1] 28 (0, 0)) ∧ w'.heap[w4.heap.size]? = some (.cells #[.int .i64 X.f0, .bool X.f1, .bool X.f2.f0, .string X.f2.f1, .int .i64 X.f2.f2, .string X.f3, .slice A3 X.f4.length c3, .slice B3 X.f5.length d3] 28 (0, 0)) ∧ w'.heap[w5.heap.size]? = some (.cells #[.int .i64 C.f0, .bool C.f1, .bool C.f2.f0, .string C.f2.f1, .int .i64 C.f2.f2, .string C.f3, .slice A4 C.f4.length c4, .slice B4 C.f5.length d4] 28 (0, 0)) ∧ w'.heap[w6.heap.size]? = some (.cells #[.int .i64 C.f0, .bool C.f1, .bool C.f2.f0, .string C.f2.f1, .int .i64 C.f2.f2, .string C.f3, .slice A5 C.f4.length c5, .slice B5 C.f5.length d5] 28 (0, 0)) ∧ w'.heap[w7.heap.size]? = some (.cells #[.int .i64 M.f0, .bool M.f1, .bool M.f2.f0, .string M.f2.f1, .int .i64 M.f2.f2, .string M.f3, .slice A6 M.f4.length c6, .slice B6 M.f5.length d6] 28 (0, 0)) ∧ w'.heap[w8.heap.size]? = some (.cells #[.int .i64 M.f0, .bool M.f1, .bool M.f2.f0, .string M.f2.f1, .int .i64 M.f2.f2, .string M.f3, .slice A7 M.f4.length c7, .slice B7 M.f5.length d7] 28 (0, 0))) (w8.alloc (.cells #[.int .i64 M.f0, .bool M.f1, .bool M.f2.f0, .string M.f2.f1, .int .i64 M.f2.f2, .string M.f3, .slice A7 M.f4.length c7, .slice B7 M.f5.length d7] 28)).drew := ⟨hb1, hb3, hb4, hb5, hb6, hb7⟩
        refine start_ (n := 20) (S := fun w' => w'.heap[w2.heap.size]? = some (.cells #[.int .i64 X.f0, .bool X.f1, .bool X.f2.f0, .string X.f2.f1, .int .i64 X.f2.f2, .string X.f3, .slice A1 X.f4.length c1, .slice B1 X.f5.length d1] 28 (0, 0)) ∧ w'.heap[w4.heap.size]? = some (.cells #[.int .i64 X.f0, .bool X.f1, .bool X.f2.f0, .string X.f2.f1, .int .i64 X.f2.f2, .string X.f3, .slice A3 X.f4.length c3, .slice B3 X.f5.length d3] 28 (0, 0)) ∧ w'.heap[w5.heap.size]? = some (.cells #[.int .i64 C.f0, .bool C.f1, .bool C.f2.f0, .string C.f2.f1, .int .i64 C.f2.f2, .string C.f3, .slice A4 C.f4.length c4, .slice B4 C.f5.length d4] 28 (0, 0)) ∧ w'.heap[w6.heap.size]? = some (.cells #[.int .i64 C.f0, .bool C.f1, .bool C.f2.f0, .string C.f2.f1, .int .i64 C.f2.f2, .string C.f3, .slice A5 C.f4.length c5, .slice B5 C.f5.length d5] 28 (0, 0)) ∧ w'.heap[w7.heap.size]? = some (.cells #[.int .i64 M.f0, .bool M.f1, .bool M.f2.f0, .string M.f2.f1, .int .i64 M.f2.f2, .string M.f3, .slice A6 M.f4.length c6, .slice B6 M.f5.length d6] 28 (0, 0)) ∧ w'.heap[w8.heap.size]? = some (.cells #[.int .i64 M.f0, .bool M.f1, .bool M.f2.f0, .string M.f2.f1, .int .i64 M.f2.f2, .string M.f3, .slice A7 M.f4.length c7, .slice B7 M.f5.length d7] 28 (0, 0))) (ds := []) #[false, false, false, false, false, false, false, false, false, false, false, false, false, false, false, false, false, false, false, false] (by kernel_rfl) rfl rfl hst (fun hHeld => ?_)
        generalize (w8.alloc (.cells #[.int .i64 M.f0, .bool M.f1, .bool M.f2.f0, .string M.f2.f1, .int .i64 M.f2.f2, .string M.f3, .slice A7 M.f4.length c7, .slice B7 M.f5.length d7] 28)).drew = wd at hWd hst hHeld hb1 hb3 hb4 hb5 hb6 hb7 ⊢
        have HSB : Hid (∀ w', Below wd.heap.size wd w' → w'.heap[w2.heap.size]? = some (.cells #[.int .i64 X.f0, .bool X.f1, .bool X.f2.f0, .string X.f2.f1, .int .i64 X.f2.f2, .string X.f3, .slice A1 X.f4.length c1, .slice B1 X.f5.length d1] 28 (0, 0)) ∧ w'.heap[w4.heap.size]? = some (.cells #[.int .i64 X.f0, .bool X.f1, .bool X.f2.f0, .string X.f2.f1, .int .i64 X.f2.f2, .string X.f3, .slice A3 X.f4.length c3, .slice B3 X.f5.length d3] 28 (0, 0)) ∧ w'.heap[w5.heap.size]? = some (.cells #[.int .i64 C.f0, .bool C.f1, .bool C.f2.f0, .string C.f2.f1, .int .i64 C.f2.f2, .string C.f3, .slice A4 C.f4.length c4, .slice B4 C.f5.length d4] 28 (0, 0)) ∧ w'.heap[w6.heap.size]? = some (.cells #[.int .i64 C.f0, .bool C.f1, .bool C.f2.f0, .string C.f2.f1, .int .i64 C.f2.f2, .string C.f3, .slice A5 C.f4.length c5, .slice B5 C.f5.length d5] 28 (0, 0)) ∧ w'.heap[w7.heap.size]? = some (.cells #[.int .i64 M.f0, .bool M.f1, .bool M.f2.f0, .string M.f2.f1, .int .i64 M.f2.f2, .string M.f3, .slice A6 M.f4.length c6, .slice B6 M.f5.length d6] 28 (0, 0)) ∧ w'.heap[w8.heap.size]? = some (.cells #[.int .i64 M.f0, .bool M.f1, .bool M.f2.f0, .string M.f2.f1, .int .i64 M.f2.f2, .string M.f3, .slice A7 M.f4.length c7, .slice B7 M.f5.length d7] 28 (0, 0))) := Lib.hid (fun w' hb => ⟨thru hb1 hb, thru hb3 hb, thru hb4 hb, thru hb5 hb, thru hb6 hb, thru hb7 hb⟩)
        have HBX : Hid (∀ w', Below wd.heap.size wd w' → Below w.heap.size w w') := Lib.hid (fun w' hb => HB8.out.trans ((hWd.trans (hb.mono hWd.size)).mono HB8.out.size))
        have HJd1 := Lib.hid (HJ1.out.below hWd)
        have HJd3 := Lib.hid (HJ3.out.below hWd)
        have HJd4 := Lib.hid (HJ4.out.below hWd)
        have HJd5 := Lib.hid (HJ5.out.below hWd)
        have HJd6 := Lib.hid (HJ6.out.below hWd)
        have HJd7 := Lib.hid (HJ7.out.below hWd)
        clear hWd hst hb1 hb3 hb4 hb5 hb6 hb7
        refine take_ (i := 0) (N := some 153) (v := ?_) (a' := ?_) #[true, false, false, false, false, false, false, false, false, false, false, false, false, false, false, false, false, false, false, false] rfl rfl (by kernel_rfl) (fun _ _ _ h => h) (Or.inl ⟨by rfl, ?_⟩) hHeld ?_ ?_
        rotate_left
        · rintro w' ⟨s0, s1, s2, s3, s4, s5⟩
          obtain ⟨q0, q1, q2, q3, q4, q5, q6, q7⟩ := eight s0
          clear s0 s1 s2 s3 s4 s5
          go_simp
          with_reducible rfl
        rotate_left
        · simp only [Act.put, List.setIfInBounds_toArray, List.set_cons_zero, List.set_cons_succ, i64_w, i32_w]
          rfl
        refine take_ (i := 2) (N := some 155) (v := ?_) (a' := ?_) #[true, false, true, false, false, false, false, false, false, false, false, false, false, false, false, false, false, false, false, false] rfl rfl (by kernel_rfl) (fun _ _ _ h => h) (Or.inl ⟨by rfl, ?_⟩) hHeld ?_ ?_
        rotate_left
        · rintro w' ⟨s0, s1, s2, s3, s4, s5⟩
          obtain ⟨q0, q1, q2, q3, q4, q5, q6, q7⟩ := eight s1
          clear s0 s1 s2 s3 s4 s5
          go_simp
          with_reducible rfl
        rotate_left
        · simp only [Act.put, List.setIfInBounds_toArray, List.set_cons_zero, List.set_cons_succ, i64_w, i32_w]
          rfl
        refine one_ (i := 1) (N := some 154) #[true, true, true, false, false, false, false, false, false, false, false, false, false, false, false, false, false, false, false, false] rfl rfl (by kernel_rfl) (by decide) (fun K hK => ?_)
        refine call_ 30 #[.agg #[.int .i64 X.f0, .bool X.f1, .bool X.f2.f0, .string X.f2.f1, .int .i64 X.f2.f2, .string X.f3, .slice A1 X.f4.length c1, .slice B1 X.f5.length d1]] (by rfl) rfl ?_ ?_
        · go_simp
        refine (jtext_calls 17 X rX HRX.out A1 B1 c1 d1 wd (HT.out.below (HBX.out _ (Below.refl _ _))).p (HJd1.out.below (Below.refl _ _))).mono ?_
        rintro E v1 ⟨rfl, hB⟩
        have HV1 := Lib.hid (hB)
        refine ⟨_, rfl, hK.out _ _ (HSB.out _ HV1.out) (fun hHeld => ?_)⟩
        clear hK K hB
        refine norm_ (a' := ?_) ?_ ?_
        rotate_left
        · show Act.put _ (some 154) _ = _
          simp only [Act.put, List.setIfInBounds_toArray, List.set_cons_zero, List.set_cons_succ, i64_w, i32_w]
          rfl
        refine one_ (i := 3) (N := some 156) #[true, true, true, true, false, false, false, false, false, false, false, false, false, false, false, false, false, false, false, false] rfl rfl (by kernel_rfl) (by decide) (fun K hK => ?_)
        refine call_ 30 #[.agg #[.int .i64 X.f0, .bool X.f1, .bool X.f2.f0, .string X.f2.f1, .int .i64 X.f2.f2, .string X.f3, .slice A3 X.f4.length c3, .slice B3 X.f5.length d3]] (by rfl) rfl ?_ ?_
        · go_simp
        refine (jtext_calls 17 X rX HRX.out A3 B3 c3 d3 v1 (HT.out.below (HBX.out _ HV1.out)).p (HJd3.out.below HV1.out)).mono ?_
        rintro E v2 ⟨rfl, hB⟩
        have HV2 := Lib.hid (HV1.out.trans (hB.mono HV1.out.size))
        refine ⟨_, rfl, hK.out _ _ (HSB.out _ HV2.out) (fun hHeld => ?_)⟩
        clear hK K hB
        refine norm_ (a' := ?_) ?_ ?_
        rotate_left
        · show Act.put _ (some 156) _ = _
          simp only [Act.put, List.setIfInBounds_toArray, List.set_cons_zero, List.set_cons_succ, i64_w, i32_w]
          rfl
        refine pure_ (i := 4) (N := some 157) (v := ?_) (a' := ?_) #[true, true, true, true, true, false, false, false, false, false, false, false, false, false, false, false, false, false, false, false] rfl rfl (by kernel_rfl) (fun _ _ _ h => h) (Or.inl ⟨by rfl, ?_⟩) ?_ ?_
        rotate_left
        · intro w'
          go_simp
          with_reducible rfl
        rotate_left
        · simp only [Act.put, List.setIfInBounds_toArray, List.set_cons_zero, List.set_cons_succ, i64_w, i32_w]
          rfl
        refine pure_ (i := 5) (N := some 158) (v := ?_) (a' := ?_) #[true, true, true, true, true, true, false, false, false, false, false, false, false, false, false, false, false, false, false, false] rfl rfl (by kernel_rfl) (fun _ _ _ h => h) (Or.inl ⟨by rfl, ?_⟩) ?_ ?_
        rotate_left
        · intro w'
          go_simp
          with_reducible rfl
        rotate_left
        · simp only [Act.put, List.setIfInBounds_toArray, List.set_cons_zero, List.set_cons_succ, i64_w, i32_w]
          rfl
        refine take_ (i := 6) (N := some 159) (v := ?_) (a' := ?_) #[true, true, true, true, true, true, true, false, false, false, false, false, false, false, false, false, false, false, false, false] rfl rfl (by kernel_rfl) (fun _ _ _ h => h) (Or.inl ⟨by rfl, ?_⟩) hHeld ?_ ?_
        rotate_left
        · rintro w' ⟨s0, s1, s2, s3, s4, s5⟩
          obtain ⟨q0, q1, q2, q3, q4, q5, q6, q7⟩ := eight s2
          clear s0 s1 s2 s3 s4 s5
          go_simp
          with_reducible rfl
        rotate_left
        · simp only [Act.put, List.setIfInBounds_toArray, List.set_cons_zero, List.set_cons_succ, i64_w, i32_w]
          rfl
        refine take_ (i := 8) (N := some 161) (v := ?_) (a' := ?_) #[true, true, true, true, true, true, true, false, true, false, false, false, false, false, false, false, false, false, false, false] rfl rfl (by kernel_rfl) (fun _ _ _ h => h) (Or.inl ⟨by rfl, ?_⟩) hHeld ?_ ?_
        rotate_left
        · rintro w' ⟨s0, s1, s2, s3, s4, s5⟩
          obtain ⟨q0, q1, q2, q3, q4, q5, q6, q7⟩ := eight s3
          clear s0 s1 s2 s3 s4 s5
          go_simp
          with_reducible rfl
        rotate_left
        · simp only [Act.put, List.setIfInBounds_toArray, List.set_cons_zero, List.set_cons_succ, i64_w, i32_w]
          rfl
        refine one_ (i := 7) (N := some 160) #[true, true, true, true, true, true, true, true, true, false, false, false, false, false, false, false, false, false, false, false] rfl rfl (by kernel_rfl) (by decide) (fun K hK => ?_)
        refine call_ 30 #[.agg #[.int .i64 C.f0, .bool C.f1, .bool C.f2.f0, .string C.f2.f1, .int .i64 C.f2.f2, .string C.f3, .slice A4 C.f4.length c4, .slice B4 C.f5.length d4]] (by rfl) rfl ?_ ?_
        · go_simp
        refine (jtext_calls 17 C rC HRC.out A4 B4 c4 d4 v2 (HT.out.below (HBX.out _ HV2.out)).p (HJd4.out.below HV2.out)).mono ?_
        rintro E v3 ⟨rfl, hB⟩
        have HV3 := Lib.hid (HV2.out.trans (hB.mono HV2.out.size))
        refine ⟨_, rfl, hK.out _ _ (HSB.out _ HV3.out) (fun hHeld => ?_)⟩
        clear hK K hB
        refine norm_ (a' := ?_) ?_ ?_
        rotate_left
        · show Act.put _ (some 160) _ = _
          simp only [Act.put, List.setIfInBounds_toArray, List.set_cons_zero, List.set_cons_succ, i64_w, i32_w]
          rfl
        refine one_ (i := 9) (N := some 162) #[true, true, true, true, true, true, true, true, true, true, false, false, false, false, false, false, false, false, false, false] rfl rfl (by kernel_rfl) (by decide) (fun K hK => ?_)
        refine call_ 30 #[.agg #[.int .i64 C.f0, .bool C.f1, .bool C.f2.f0, .string C.f2.f1, .int .i64 C.f2.f2, .string C.f3, .slice A5 C.f4.length c5, .slice B5 C.f5.length d5]] (by rfl) rfl ?_ ?_
        · go_simp
        refine (jtext_calls 17 C rC HRC.out A5 B5 c5 d5 v3 (HT.out.below (HBX.out _ HV3.out)).p (HJd5.out.below HV3.out)).mono ?_
        rintro E v4 ⟨rfl, hB⟩
        have HV4 := Lib.hid (HV3.out.trans (hB.mono HV3.out.size))
        refine ⟨_, rfl, hK.out _ _ (HSB.out _ HV4.out) (fun hHeld => ?_)⟩
        clear hK K hB
        refine norm_ (a' := ?_) ?_ ?_
        rotate_left
        · show Act.put _ (some 162) _ = _
          simp only [Act.put, List.setIfInBounds_toArray, List.set_cons_zero, List.set_cons_succ, i64_w, i32_w]
          rfl
        refine pure_ (i := 10) (N := some 163) (v := ?_) (a' := ?_) #[true, true, true, true, true, true, true, true, true, true, true, false, false, false, false, false, false, false, false, false] rfl rfl (by kernel_rfl) (fun _ _ _ h => h) (Or.inl ⟨by rfl, ?_⟩) ?_ ?_
        rotate_left
        · intro w'
          go_simp
          with_reducible rfl
        rotate_left
        · simp only [Act.put, List.setIfInBounds_toArray, List.set_cons_zero, List.set_cons_succ, i64_w, i32_w]
          rfl
        refine pure_ (i := 11) (N := some 164) (v := ?_) (a' := ?_) #[true, true, true, true, true, true, true, true, true, true, true, true, false, false, false, false, false, false, false, false] rfl rfl (by kernel_rfl) (fun _ _ _ h => h) (Or.inl ⟨by rfl, ?_⟩) ?_ ?_
        rotate_left
        · intro w'
          go_simp
          with_reducible rfl
        rotate_left
        · simp only [Act.put, List.setIfInBounds_toArray, List.set_cons_zero, List.set_cons_succ, i64_w, i32_w]
          rfl
        refine pure_ (i := 12) (N := some 165) (v := ?_) (a' := ?_) #[true, true, true, true, true, true, true, true, true, true, true, true, true, false, false, false, false, false, false, false] rfl rfl (by kernel_rfl) (fun _ _ _ h => h) (Or.inl ⟨by rfl, ?_⟩) ?_ ?_
        rotate_left
        · intro w'
          go_simp
          with_reducible rfl
        rotate_left
        · simp only [Act.put, List.setIfInBounds_toArray, List.set_cons_zero, List.set_cons_succ, i64_w, i32_w]
          rfl
        refine take_ (i := 13) (N := some 166) (v := ?_) (a' := ?_) #[true, true, true, true, true, true, true, true, true, true, true, true, true, true, false, false, false, false, false, false] rfl rfl (by kernel_rfl) (fun _ _ _ h => h) (Or.inl ⟨by rfl, ?_⟩) hHeld ?_ ?_
        rotate_left
        · rintro w' ⟨s0, s1, s2, s3, s4, s5⟩
          obtain ⟨q0, q1, q2, q3, q4, q5, q6, q7⟩ := eight s4
          clear s0 s1 s2 s3 s4 s5
          go_simp
          with_reducible rfl
        rotate_left
        · simp only [Act.put, List.setIfInBounds_toArray, List.set_cons_zero, List.set_cons_succ, i64_w, i32_w]
          rfl
        refine take_ (i := 15) (N := some 168) (v := ?_) (a' := ?_) #[true, true, true, true, true, true, true, true, true, true, true, true, true, true, false, true, false, false, false, false] rfl rfl (by kernel_rfl) (fun _ _ _ h => h) (Or.inl ⟨by rfl, ?_⟩) hHeld ?_ ?_
        rotate_left
        · rintro w' ⟨s0, s1, s2, s3, s4, s5⟩
          obtain ⟨q0, q1, q2, q3, q4, q5, q6, q7⟩ := eight s5
          clear s0 s1 s2 s3 s4 s5
          go_simp
          with_reducible rfl
        rotate_left
        · simp only [Act.put, List.setIfInBounds_toArray, List.set_cons_zero, List.set_cons_succ, i64_w, i32_w]
          rfl
        refine one_ (i := 14) (N := some 167) #[true, true, true, true, true, true, true, true, true, true, true, true, true, true, true, true, false, false, false, false] rfl rfl (by kernel_rfl) (by decide) (fun K hK => ?_)
        refine call_ 30 #[.agg #[.int .i64 M.f0, .bool M.f1, .bool M.f2.f0, .string M.f2.f1, .int .i64 M.f2.f2, .string M.f3, .slice A6 M.f4.length c6, .slice B6 M.f5.length d6]] (by rfl) rfl ?_ ?_
        · go_simp
        refine (jtext_calls 17 M rM HRM.out A6 B6 c6 d6 v4 (HT.out.below (HBX.out _ HV4.out)).p (HJd6.out.below HV4.out)).mono ?_
        rintro E v5 ⟨rfl, hB⟩
        have HV5 := Lib.hid (HV4.out.trans (hB.mono HV4.out.size))
        refine ⟨_, rfl, hK.out _ _ (HSB.out _ HV5.out) (fun hHeld => ?_)⟩
        clear hK K hB
        refine norm_ (a' := ?_) ?_ ?_
        rotate_left
        · show Act.put _ (some 167) _ = _
          simp only [Act.put, List.setIfInBounds_toArray, List.set_cons_zero, List.set_cons_succ, i64_w, i32_w]
          rfl
        refine one_ (i := 16) (N := some 169) #[true, true, true, true, true, true, true, true, true, true, true, true, true, true, true, true, true, false, false, false] rfl rfl (by kernel_rfl) (by decide) (fun K hK => ?_)
        refine call_ 30 #[.agg #[.int .i64 M.f0, .bool M.f1, .bool M.f2.f0, .string M.f2.f1, .int .i64 M.f2.f2, .string M.f3, .slice A7 M.f4.length c7, .slice B7 M.f5.length d7]] (by rfl) rfl ?_ ?_
        · go_simp
        refine (jtext_calls 17 M rM HRM.out A7 B7 c7 d7 v5 (HT.out.below (HBX.out _ HV5.out)).p (HJd7.out.below HV5.out)).mono ?_
        rintro E v6 ⟨rfl, hB⟩
        have HV6 := Lib.hid (HV5.out.trans (hB.mono HV5.out.size))
        refine ⟨_, rfl, hK.out _ _ (HSB.out _ HV6.out) (fun hHeld => ?_)⟩
        clear hK K hB
        refine norm_ (a' := ?_) ?_ ?_
        rotate_left
        · show Act.put _ (some 169) _ = _
          simp only [Act.put, List.setIfInBounds_toArray, List.set_cons_zero, List.set_cons_succ, i64_w, i32_w]
          rfl
        refine pure_ (i := 17) (N := some 170) (v := ?_) (a' := ?_) #[true, true, true, true, true, true, true, true, true, true, true, true, true, true, true, true, true, true, false, false] rfl rfl (by kernel_rfl) (fun _ _ _ h => h) (Or.inl ⟨by rfl, ?_⟩) ?_ ?_
        rotate_left
        · intro w'
          go_simp
          with_reducible rfl
        rotate_left
        · simp only [Act.put, List.setIfInBounds_toArray, List.set_cons_zero, List.set_cons_succ, i64_w, i32_w]
          rfl
        refine pure_ (i := 18) (N := some 171) (v := ?_) (a' := ?_) #[true, true, true, true, true, true, true, true, true, true, true, true, true, true, true, true, true, true, true, false] rfl rfl (by kernel_rfl) (fun _ _ _ h => h) (Or.inl ⟨by rfl, ?_⟩) ?_ ?_
        rotate_left
        · intro w'
          go_simp
          with_reducible rfl
        rotate_left
        · simp only [Act.put, List.setIfInBounds_toArray, List.set_cons_zero, List.set_cons_succ, i64_w, i32_w]
          rfl
        refine pure_ (i := 19) (N := some 6) (v := ?_) (a' := ?_) #[true, true, true, true, true, true, true, true, true, true, true, true, true, true, true, true, true, true, true, true] rfl rfl (by kernel_rfl) (fun _ _ _ h => h) (Or.inl ⟨by rfl, ?_⟩) ?_ ?_
        rotate_left
        · intro w'
          go_simp
          with_reducible rfl
        rotate_left
        · simp only [Act.put, List.setIfInBounds_toArray, List.set_cons_zero, List.set_cons_succ, i64_w, i32_w]
          rfl
        refine done_ (by kernel_rfl) ?_
        go_wp2_with fail
        go_ret
        exact ⟨rfl, HBX.out _ HV6.out⟩
      · have hd : (e == 0 && f == 0) = false := by
          by_cases h1 : e = 0
          · have : f ≠ 0 := fun h2 => hef ⟨h1, h2⟩
            simp [this]
          · simp [h1]
        by_cases h1 : e = 0
        · have hf0 : (f == 0) = false := by simp; exact fun h2 => hef ⟨h1, h2⟩
          subst h1
          clear hef hd
          go_wp2_with fail
          go_ret
          exact ⟨rfl, below_alloc HB3.out _⟩
        · have he0 : (e == 0) = false := by simpa using h1
          clear hef hd h1
          go_wp2_with fail
          go_ret
          exact ⟨rfl, below_alloc HB3.out _⟩
set_option maxRecDepth 100000 in
theorem blanks_long (s t : List UInt8) (n c : Nat) (h : 300 < s.length ∨ 300 < t.length ∨ 20 < n) (A : Option Addr) (w : World) (hT : JTabs w) :
    Calls Tryz.prog 13 #[.string (ofL s), .string (ofL t), .slice A n c] w fun e w' => e = .returned (.bool true) ∧ Below w.heap.size w w' := by
  have HT := Lib.hid hT
  have HS : Hid ((ofL s).size = s.length) := Lib.hid (ofL_size s)
  have HS2 : Hid ((ofL t).size = t.length) := Lib.hid (ofL_size t)
  clear hT
  by_cases h1 : 300 < s.length
  · have hs1 : (300 : Int) < ((ofL s).size : Int) := by rw [HS.out]; omega
    clear h h1
    go_enter Tryz.func13, Tryz.ntmps13
    go_wp2_with fail
    refine (awake15_calls _ HT.out).mono ?_
    rintro E w1 ⟨rfl, hB⟩
    go_wp2_with fail
    go_ret
    exact ⟨rfl, hB⟩
  have hs1 : ((ofL s).size : Int) ≤ 300 := by rw [HS.out]; omega
  by_cases h2 : 300 < t.length
  · have ht1 : (300 : Int) < ((ofL t).size : Int) := by rw [HS2.out]; omega
    clear h h1 h2
    go_enter Tryz.func13, Tryz.ntmps13
    go_wp2_with fail
    refine (awake15_calls _ HT.out).mono ?_
    rintro E w1 ⟨rfl, hB⟩
    go_wp2_with fail
    go_ret
    exact ⟨rfl, hB⟩
  have ht1 : ((ofL t).size : Int) ≤ 300 := by rw [HS2.out]; omega
  have hn1 : (20 : Int) < (n : Int) := by omega
  clear h h1 h2
  go_enter Tryz.func13, Tryz.ntmps13
  go_wp2_with fail
  refine (awake15_calls _ HT.out).mono ?_
  rintro E w1 ⟨rfl, hB⟩
  go_wp2_with fail
  go_ret
  exact ⟨rfl, hB⟩
theorem JsonBlanks_calls {w : World} (s t : ByteArray) {a : Option Addr} {len cap : Nat} {zs : List Int} (hT : JTabs w)
    (h : (a = none ∧ len = 0 ∧ cap = 0 ∧ zs = []) ∨ ∃ x, a = some x ∧ len ≤ cap ∧ cap ≤ maxLen ∧ zs.length = cap ∧ (∀ i, i < zs.length → w.cell? (x.add i) = some (.int .u8 (zs.getD i 0))) ∧ ∀ n ∈ zs, (Lit.int .u8 n).wf = true) :
    Calls Tryz.prog 13 #[.string s, .string t, .slice a len cap] w fun e w' => e = .returned (.bool true) ∧ Below w.heap.size w w' := by
  obtain ⟨hC, hl, hc, hm, hr⟩ := row_C h
  have e1 : ofL s.data.toList = s := ofL_of s
  have e2 : ofL t.data.toList = t := ofL_of t
  by_cases hh : 300 < s.data.toList.length ∨ 300 < t.data.toList.length ∨ 20 < len
  · have := blanks_long s.data.toList t.data.toList len cap hh a w hT
    rwa [e1, e2] at this
  · have := blanks_main s.data.toList t.data.toList (zs.take len) hr (by omega) (by omega) (by omega) a cap w hT hC (by omega)
    rwa [e1, e2, hl] at this
end Js
end Go.Proofs.YtapcpndplnkfjaaGreatDoor
