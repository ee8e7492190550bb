/- What the law rests on, part 3: joined by a program of this session (claimx.py). -/
import Derived.Test.YtapcpndplnkfjaaGreatDoorJsonDeepB
namespace Go.Proofs.YtapcpndplnkfjaaGreatDoor.Pr
open Go.RowKit Go.Proofs.YtapcpndplnkfjaaGreatDoorW.PrintWords Go.Proofs.YtapcpndplnkfjaaGreatDoorW.PrintLast Go.Proofs.YtapcpndplnkfjaaGreatDoorW.PrintMore
attribute [local go_sem] max2_int min2_int max_two min_two max_three min_three max_four min_four
set_option linter.unusedVariables false
set_option linter.unusedSimpArgs false
def cmp_isNaN_int.f (a0 : Int) : Option (Bool) := some (a0 != a0)
set_option maxHeartbeats 8000000 in
set_option maxRecDepth 100000 in
theorem cmp_isNaN_int.calls (a0 : Int) (r : Bool) (w : World) (h : cmp_isNaN_int.f a0 = some r) :
    Calls Tryz.prog 80 #[.int .i64 a0] w fun e w' => e = .returned (.bool r) ∧ Drawn0 w w' := by
  have H : (some (a0 != a0)) = some r := h
  clear h
  obtain rfl := Option.some.inj H
  go_enter Tryz.func80, Tryz.ntmps80
  go_wp2
  go_ret
  try simp only [beq_nil_isEmpty, bytesLess_gtr]
  exact ⟨by first | rfl | (simp; done) | (simp [*]; done), by repeat (first | exact Drawn0.refl _ | apply Drawn0.step)⟩
def cmp_Compare_int.f (a0 : Int) (a1 : Int) : Option (Int) := (cmp_isNaN_int.f a0).bind fun t101 => ((cmp_isNaN_int.f a1).bind fun t102 => (if t101 = true then (if t102 = true then (some 0) else (some (-1))) else (if t102 = true then (some 1) else (if a0 < a1 then (some (-1)) else (if a0 > a1 then (some 1) else (some 0))))))
set_option maxHeartbeats 8000000 in
set_option maxRecDepth 100000 in
theorem cmp_Compare_int.calls (a0 : Int) (a1 : Int) (r : Int) (w : World) (h : cmp_Compare_int.f a0 a1 = some r) :
    Calls Tryz.prog 50 #[.int .i64 a0, .int .i64 a1] w fun e w' => e = .returned (.int .i64 r) ∧ Drawn0 w w' := by
  have H : ((cmp_isNaN_int.f a0).bind fun t101 => ((cmp_isNaN_int.f a1).bind fun t102 => (if t101 = true then (if t102 = true then (some 0) else (some (-1))) else (if t102 = true then (some 1) else (if a0 < a1 then (some (-1)) else (if a0 > a1 then (some 1) else (some 0))))))) = some r := h
  clear h
  replace H := Option.bind_eq_some_iff.mp H
  obtain ⟨t101, A30, H⟩ := H
  replace H : ((cmp_isNaN_int.f a1).bind fun t102 => (if t101 = true then (if t102 = true then (some 0) else (some (-1))) else (if t102 = true then (some 1) else (if a0 < a1 then (some (-1)) else (if a0 > a1 then (some 1) else (some 0)))))) = some r := H
  have A3 := Aside0.mk A30
  clear A30
  replace H := Option.bind_eq_some_iff.mp H
  obtain ⟨t102, A40, H⟩ := H
  replace H : (if t101 = true then (if t102 = true then (some 0) else (some (-1))) else (if t102 = true then (some 1) else (if a0 < a1 then (some (-1)) else (if a0 > a1 then (some 1) else (some 0))))) = some r := H
  have A4 := Aside0.mk A40
  clear A40
  by_cases c5 : t101 = true
  · subst c5
    have H1 : (if t102 = true then (some 0) else (some (-1))) = some r := by rw [if_pos rfl] at H; exact H
    clear H
    have H := H1
    clear H1
    by_cases c6 : t102 = true
    · subst c6
      have H1 : (some 0) = some r := by rw [if_pos rfl] at H; exact H
      clear H
      have H := H1
      clear H1
      obtain rfl := Option.some.inj H
      go_enter Tryz.func50, Tryz.ntmps50
      go_wp2_with (first | ((with_reducible refine gate_callee (f := 80) rfl ?_); refine goesL_ (some 8) rfl rfl Tryz.func80 (by kernel_rfl) rfl #[.int .i64 a0] rfl (by (try simp only [List.map_toArray, List.map_cons, List.map_nil]); first | done | rfl | (simp only [List.length_drop, List.length_take]; rfl)) ?_; (with_reducible refine (cmp_isNaN_int.calls a0 true _ A3.out).mono ?_); rintro e w' ⟨rfl, ⟨nd, rfl⟩⟩; refine ⟨_, rfl, ?_⟩) | ((with_reducible refine gate_callee (f := 80) rfl ?_); refine goesL_ (some 10) rfl rfl Tryz.func80 (by kernel_rfl) rfl #[.int .i64 a1] rfl (by (try simp only [List.map_toArray, List.map_cons, List.map_nil]); first | done | rfl | (simp only [List.length_drop, List.length_take]; rfl)) ?_; (with_reducible refine (cmp_isNaN_int.calls a1 true _ A4.out).mono ?_); rintro e w' ⟨rfl, ⟨nd, rfl⟩⟩; refine ⟨_, rfl, ?_⟩))
      go_ret
      try simp only [beq_nil_isEmpty, bytesLess_gtr]
      exact ⟨by first | rfl | (simp; done) | (simp [*]; done), by repeat (first | exact Drawn0.refl _ | apply Drawn0.step)⟩
    · replace c6 := Bool.eq_false_iff.mpr c6
      subst c6
      have H1 : (some (-1)) = some r := by rw [if_neg (show ¬ (false = true) by decide)] at H; exact H
      clear H
      have H := H1
      clear H1
      obtain rfl := Option.some.inj H
      go_enter Tryz.func50, Tryz.ntmps50
      go_wp2_with (first | ((with_reducible refine gate_callee (f := 80) rfl ?_); refine goesL_ (some 8) rfl rfl Tryz.func80 (by kernel_rfl) rfl #[.int .i64 a0] rfl (by (try simp only [List.map_toArray, List.map_cons, List.map_nil]); first | done | rfl | (simp only [List.length_drop, List.length_take]; rfl)) ?_; (with_reducible refine (cmp_isNaN_int.calls a0 true _ A3.out).mono ?_); rintro e w' ⟨rfl, ⟨nd, rfl⟩⟩; refine ⟨_, rfl, ?_⟩) | ((with_reducible refine gate_callee (f := 80) rfl ?_); refine goesL_ (some 10) rfl rfl Tryz.func80 (by kernel_rfl) rfl #[.int .i64 a1] rfl (by (try simp only [List.map_toArray, List.map_cons, List.map_nil]); first | done | rfl | (simp only [List.length_drop, List.length_take]; rfl)) ?_; (with_reducible refine (cmp_isNaN_int.calls a1 false _ A4.out).mono ?_); rintro e w' ⟨rfl, ⟨nd, rfl⟩⟩; refine ⟨_, rfl, ?_⟩))
      go_ret
      try simp only [beq_nil_isEmpty, bytesLess_gtr]
      exact ⟨by first | rfl | (simp; done) | (simp [*]; done), by repeat (first | exact Drawn0.refl _ | apply Drawn0.step)⟩
  · replace c5 := Bool.eq_false_iff.mpr c5
    subst c5
    have H1 : (if t102 = true then (some 1) else (if a0 < a1 then (some (-1)) else (if a0 > a1 then (some 1) else (some 0)))) = some r := by rw [if_neg (show ¬ (false = true) by decide)] at H; exact H
    clear H
    have H := H1
    clear H1
    by_cases c7 : t102 = true
    · subst c7
      have H1 : (some 1) = some r := by rw [if_pos rfl] at H; exact H
      clear H
      have H := H1
      clear H1
      obtain rfl := Option.some.inj H
      go_enter Tryz.func50, Tryz.ntmps50
      go_wp2_with (first | ((with_reducible refine gate_callee (f := 80) rfl ?_); refine goesL_ (some 8) rfl rfl Tryz.func80 (by kernel_rfl) rfl #[.int .i64 a0] rfl (by (try simp only [List.map_toArray, List.map_cons, List.map_nil]); first | done | rfl | (simp only [List.length_drop, List.length_take]; rfl)) ?_; (with_reducible refine (cmp_isNaN_int.calls a0 false _ A3.out).mono ?_); rintro e w' ⟨rfl, ⟨nd, rfl⟩⟩; refine ⟨_, rfl, ?_⟩) | ((with_reducible refine gate_callee (f := 80) rfl ?_); refine goesL_ (some 10) rfl rfl Tryz.func80 (by kernel_rfl) rfl #[.int .i64 a1] rfl (by (try simp only [List.map_toArray, List.map_cons, List.map_nil]); first | done | rfl | (simp only [List.length_drop, List.length_take]; rfl)) ?_; (with_reducible refine (cmp_isNaN_int.calls a1 true _ A4.out).mono ?_); rintro e w' ⟨rfl, ⟨nd, rfl⟩⟩; refine ⟨_, rfl, ?_⟩))
      go_ret
      try simp only [beq_nil_isEmpty, bytesLess_gtr]
      exact ⟨by first | rfl | (simp; done) | (simp [*]; done), by repeat (first | exact Drawn0.refl _ | apply Drawn0.step)⟩
    · replace c7 := Bool.eq_false_iff.mpr c7
      subst c7
      have H1 : (if a0 < a1 then (some (-1)) else (if a0 > a1 then (some 1) else (some 0))) = some r := by rw [if_neg (show ¬ (false = true) by decide)] at H; exact H
      clear H
      have H := H1
      clear H1
      by_cases c8 : a0 < a1
      · rw [if_pos c8] at H
        have c8b0 : decide (a0 < a1) = true := decide_eq_true c8
        clear c8
        obtain rfl := Option.some.inj H
        go_enter Tryz.func50, Tryz.ntmps50
        go_wp2_with (first | ((with_reducible refine gate_callee (f := 80) rfl ?_); refine goesL_ (some 8) rfl rfl Tryz.func80 (by kernel_rfl) rfl #[.int .i64 a0] rfl (by (try simp only [List.map_toArray, List.map_cons, List.map_nil]); first | done | rfl | (simp only [List.length_drop, List.length_take]; rfl)) ?_; (with_reducible refine (cmp_isNaN_int.calls a0 false _ A3.out).mono ?_); rintro e w' ⟨rfl, ⟨nd, rfl⟩⟩; refine ⟨_, rfl, ?_⟩) | ((with_reducible refine gate_callee (f := 80) rfl ?_); refine goesL_ (some 10) rfl rfl Tryz.func80 (by kernel_rfl) rfl #[.int .i64 a1] rfl (by (try simp only [List.map_toArray, List.map_cons, List.map_nil]); first | done | rfl | (simp only [List.length_drop, List.length_take]; rfl)) ?_; (with_reducible refine (cmp_isNaN_int.calls a1 false _ A4.out).mono ?_); rintro e w' ⟨rfl, ⟨nd, rfl⟩⟩; refine ⟨_, rfl, ?_⟩))
        go_ret
        try simp only [beq_nil_isEmpty, bytesLess_gtr]
        exact ⟨by first | rfl | (simp; done) | (simp [*]; done), by repeat (first | exact Drawn0.refl _ | apply Drawn0.step)⟩
      · rw [if_neg c8] at H
        have c8b0 : decide (a0 < a1) = false := decide_eq_false c8
        clear c8
        by_cases c9 : a0 > a1
        · rw [if_pos c9] at H
          have c9b0 : decide (a1 < a0) = true := decide_eq_true c9
          clear c9
          obtain rfl := Option.some.inj H
          go_enter Tryz.func50, Tryz.ntmps50
          go_wp2_with (first | ((with_reducible refine gate_callee (f := 80) rfl ?_); refine goesL_ (some 8) rfl rfl Tryz.func80 (by kernel_rfl) rfl #[.int .i64 a0] rfl (by (try simp only [List.map_toArray, List.map_cons, List.map_nil]); first | done | rfl | (simp only [List.length_drop, List.length_take]; rfl)) ?_; (with_reducible refine (cmp_isNaN_int.calls a0 false _ A3.out).mono ?_); rintro e w' ⟨rfl, ⟨nd, rfl⟩⟩; refine ⟨_, rfl, ?_⟩) | ((with_reducible refine gate_callee (f := 80) rfl ?_); refine goesL_ (some 10) rfl rfl Tryz.func80 (by kernel_rfl) rfl #[.int .i64 a1] rfl (by (try simp only [List.map_toArray, List.map_cons, List.map_nil]); first | done | rfl | (simp only [List.length_drop, List.length_take]; rfl)) ?_; (with_reducible refine (cmp_isNaN_int.calls a1 false _ A4.out).mono ?_); rintro e w' ⟨rfl, ⟨nd, rfl⟩⟩; refine ⟨_, rfl, ?_⟩))
          go_ret
          try simp only [beq_nil_isEmpty, bytesLess_gtr]
          exact ⟨by first | rfl | (simp; done) | (simp [*]; done), by repeat (first | exact Drawn0.refl _ | apply Drawn0.step)⟩
        · rw [if_neg c9] at H
          have c9b0 : decide (a1 < a0) = false := decide_eq_false c9
          clear c9
          obtain rfl := Option.some.inj H
          go_enter Tryz.func50, Tryz.ntmps50
          go_wp2_with (first | ((with_reducible refine gate_callee (f := 80) rfl ?_); refine goesL_ (some 8) rfl rfl Tryz.func80 (by kernel_rfl) rfl #[.int .i64 a0] rfl (by (try simp only [List.map_toArray, List.map_cons, List.map_nil]); first | done | rfl | (simp only [List.length_drop, List.length_take]; rfl)) ?_; (with_reducible refine (cmp_isNaN_int.calls a0 false _ A3.out).mono ?_); rintro e w' ⟨rfl, ⟨nd, rfl⟩⟩; refine ⟨_, rfl, ?_⟩) | ((with_reducible refine gate_callee (f := 80) rfl ?_); refine goesL_ (some 10) rfl rfl Tryz.func80 (by kernel_rfl) rfl #[.int .i64 a1] rfl (by (try simp only [List.map_toArray, List.map_cons, List.map_nil]); first | done | rfl | (simp only [List.length_drop, List.length_take]; rfl)) ?_; (with_reducible refine (cmp_isNaN_int.calls a1 false _ A4.out).mono ?_); rintro e w' ⟨rfl, ⟨nd, rfl⟩⟩; refine ⟨_, rfl, ?_⟩))
          go_ret
          try simp only [beq_nil_isEmpty, bytesLess_gtr]
          exact ⟨by first | rfl | (simp; done) | (simp [*]; done), by repeat (first | exact Drawn0.refl _ | apply Drawn0.step)⟩
def num_Text.f (a0_0 : Bool) (a0_1 : ByteArray) (a0_2 : Int) : Option (ByteArray) := if a0_1.toList = ([] : List UInt8) then (some (⟨#[48]⟩ : ByteArray)) else (if a0_0 = true then (if 1 + a0_1.size ≤ 9223372036854775807 then (if a0_2 = 0 then (some ((⟨#[45]⟩ : ByteArray) ++ a0_1)) else ((strconv_Itoa_83.f a0_2).bind fun t119 => (if 1 + t119.size ≤ 9223372036854775807 then (if ((⟨#[45]⟩ : ByteArray) ++ a0_1).size + ((⟨#[101]⟩ : ByteArray) ++ t119).size ≤ 9223372036854775807 then (some (((⟨#[45]⟩ : ByteArray) ++ a0_1) ++ ((⟨#[101]⟩ : ByteArray) ++ t119))) else (none)) else (none)))) else (none)) else (if a0_2 = 0 then (some a0_1) else ((strconv_Itoa_83.f a0_2).bind fun t120 => (if 1 + t120.size ≤ 9223372036854775807 then (if a0_1.size + ((⟨#[101]⟩ : ByteArray) ++ t120).size ≤ 9223372036854775807 then (some (a0_1 ++ ((⟨#[101]⟩ : ByteArray) ++ t120))) else (none)) else (none)))))
set_option maxHeartbeats 8000000 in
set_option maxRecDepth 100000 in
theorem num_Text.calls (a0_0 : Bool) (a0_1 : ByteArray) (a0_2 : Int) (r : ByteArray) (w : World) (hT : PTabs w) (h : num_Text.f a0_0 a0_1 a0_2 = some r) :
    Calls Tryz.prog 56 #[.agg #[.bool a0_0, .string a0_1, .int .i64 a0_2]] w fun e w' => e = .returned (.string r) ∧ Below w.heap.size w w' := by
  have HT := Aside0.mk hT
  clear hT
  have hu24 := Tryz.underlying24
  have HB := Aside0.mk (Below.refl w.heap.size w)
  have H : (if a0_1.toList = ([] : List UInt8) then (some (⟨#[48]⟩ : ByteArray)) else (if a0_0 = true then (if 1 + a0_1.size ≤ 9223372036854775807 then (if a0_2 = 0 then (some ((⟨#[45]⟩ : ByteArray) ++ a0_1)) else ((strconv_Itoa_83.f a0_2).bind fun t119 => (if 1 + t119.size ≤ 9223372036854775807 then (if ((⟨#[45]⟩ : ByteArray) ++ a0_1).size + ((⟨#[101]⟩ : ByteArray) ++ t119).size ≤ 9223372036854775807 then (some (((⟨#[45]⟩ : ByteArray) ++ a0_1) ++ ((⟨#[101]⟩ : ByteArray) ++ t119))) else (none)) else (none)))) else (none)) else (if a0_2 = 0 then (some a0_1) else ((strconv_Itoa_83.f a0_2).bind fun t120 => (if 1 + t120.size ≤ 9223372036854775807 then (if a0_1.size + ((⟨#[101]⟩ : ByteArray) ++ t120).size ≤ 9223372036854775807 then (some (a0_1 ++ ((⟨#[101]⟩ : ByteArray) ++ t120))) else (none)) else (none)))))) = some r := h
  clear h
  by_cases c2 : a0_1.toList = ([] : List UInt8)
  · rw [if_pos c2] at H
    have c2b0 : (a0_1.toList == ([] : List UInt8)) = true := beq_iff_eq.mpr c2
    have c2b7 : a0_1.toList.isEmpty = true := by rw [← beq_nil_isEmpty]; exact c2b0
    have c2b1 : (a0_1.toList != ([] : List UInt8)) = false := bne_eq_false_iff_eq.mpr c2
    clear c2
    obtain rfl := Option.some.inj H
    go_enter Tryz.func56, Tryz.ntmps56
    go_wp2_with (first | ((with_reducible refine gate_dst (N := 1) rfl ?_); refine box_event ?hg (N := 1) ?hd (cs := #[.bool a0_0, .string a0_1, .int .i64 a0_2]) (t := 24) ?hr ?_; (case hd => rfl); (case hg => rfl); (case hr => first | (go_simp; done) | (go_simp; rfl)); intro gb118 hg w3 hbox hb; have n0_ := Aside0.mk (below_step (by repeat (first | (with_reducible first | exact HB.out | apply below_alloc | apply pw_below_drewN | apply below_drew1) | exact HB.out)) hb); have n1_ := Aside0.mk (hbox); have n2_ := Aside0.mk ((by rw [hg]; exact (below_size (by repeat (first | (with_reducible first | exact HB.out | apply below_alloc | apply pw_below_drewN | apply below_drew1) | exact HB.out))) : w.heap.size ≤ gb118)); have n3_ := Aside0.mk ((by rw [hg]; exact (below_size (by repeat (first | (with_reducible first | exact HB.out | apply below_alloc | apply pw_below_drewN | apply below_drew1) | exact HB.out))) : w.heap.size ≤ gb118)); clear HB; have HB := n0_; have BK118 := n1_; have GW118 := n2_; have GE118 := n3_; clear n0_ n1_ n2_ n3_; clear hb hbox hg; have hcz4_0 : w3.cell? ⟨gb118, 0, none⟩ = some (.bool a0_0) := (blk_cell BK118.out 0).trans rfl; have hcz4_1 : w3.cell? ⟨gb118, 1, none⟩ = some (.string a0_1) := (blk_cell BK118.out 1).trans rfl; have hcz4_2 : w3.cell? ⟨gb118, 2, none⟩ = some (.int .i64 a0_2) := (blk_cell BK118.out 2).trans rfl; have hfz4_0 := blk_frozen BK118.out 0; have hfz4_1 := blk_frozen BK118.out 1; have hfz4_2 := blk_frozen BK118.out 2))
    go_ret
    try simp only [beq_nil_isEmpty, bytesLess_gtr]
    exact ⟨by first | rfl | (simp [errW_none, errW_some] <;> rfl) | (simp [*, errW_none, errW_some] <;> rfl), by repeat (first | (with_reducible first | exact HB.out | apply below_alloc | apply pw_below_drewN | apply below_drew1 | refine below_set ?_ GE118.out) | exact HB.out)⟩
  · rw [if_neg c2] at H
    have c2b0 : (a0_1.toList == ([] : List UInt8)) = false := beq_eq_false_iff_ne.mpr c2
    have c2b7 : a0_1.toList.isEmpty = false := by rw [← beq_nil_isEmpty]; exact c2b0
    have c2b1 : (a0_1.toList != ([] : List UInt8)) = true := bne_iff_ne.mpr c2
    by_cases c5 : a0_0 = true
    · subst c5
      have H1 : (if 1 + a0_1.size ≤ 9223372036854775807 then (if a0_2 = 0 then (some ((⟨#[45]⟩ : ByteArray) ++ a0_1)) else ((strconv_Itoa_83.f a0_2).bind fun t119 => (if 1 + t119.size ≤ 9223372036854775807 then (if ((⟨#[45]⟩ : ByteArray) ++ a0_1).size + ((⟨#[101]⟩ : ByteArray) ++ t119).size ≤ 9223372036854775807 then (some (((⟨#[45]⟩ : ByteArray) ++ a0_1) ++ ((⟨#[101]⟩ : ByteArray) ++ t119))) else (none)) else (none)))) else (none)) = some r := by rw [if_pos rfl] at H; exact H
      clear H
      have H := H1
      clear H1
      by_cases c6 : 1 + a0_1.size ≤ 9223372036854775807
      · rw [if_pos c6] at H
        have c6b0 := eq_true c6
        have c6b1 : decide (1 + a0_1.size ≤ 9223372036854775807) = true := decide_eq_true c6
        try have c6b2 : (9223372036854775807 < 1 + a0_1.size) = False := eq_false (Nat.not_lt.2 c6)
        by_cases c7 : a0_2 = 0
        · rw [if_pos c7] at H
          have c7b0 : (a0_2 == 0) = true := beq_iff_eq.mpr c7
          have c7b1 : (a0_2 != 0) = false := bne_eq_false_iff_eq.mpr c7
          clear c7
          obtain rfl := Option.some.inj H
          go_enter Tryz.func56, Tryz.ntmps56
          go_wp2_with (first | ((with_reducible refine gate_dst (N := 1) rfl ?_); refine box_event ?hg (N := 1) ?hd (cs := #[.bool true, .string a0_1, .int .i64 a0_2]) (t := 24) ?hr ?_; (case hd => rfl); (case hg => rfl); (case hr => first | (go_simp; done) | (go_simp; rfl)); intro gb118 hg w8 hbox hb; have n0_ := Aside0.mk (below_step (by repeat (first | (with_reducible first | exact HB.out | apply below_alloc | apply pw_below_drewN | apply below_drew1) | exact HB.out)) hb); have n1_ := Aside0.mk (hbox); have n2_ := Aside0.mk ((by rw [hg]; exact (below_size (by repeat (first | (with_reducible first | exact HB.out | apply below_alloc | apply pw_below_drewN | apply below_drew1) | exact HB.out))) : w.heap.size ≤ gb118)); have n3_ := Aside0.mk ((by rw [hg]; exact (below_size (by repeat (first | (with_reducible first | exact HB.out | apply below_alloc | apply pw_below_drewN | apply below_drew1) | exact HB.out))) : w.heap.size ≤ gb118)); clear HB; have HB := n0_; have BK118 := n1_; have GW118 := n2_; have GE118 := n3_; clear n0_ n1_ n2_ n3_; clear hb hbox hg; have hcz9_0 : w8.cell? ⟨gb118, 0, none⟩ = some (.bool true) := (blk_cell BK118.out 0).trans rfl; have hcz9_1 : w8.cell? ⟨gb118, 1, none⟩ = some (.string a0_1) := (blk_cell BK118.out 1).trans rfl; have hcz9_2 : w8.cell? ⟨gb118, 2, none⟩ = some (.int .i64 a0_2) := (blk_cell BK118.out 2).trans rfl; have hfz9_0 := blk_frozen BK118.out 0; have hfz9_1 := blk_frozen BK118.out 1; have hfz9_2 := blk_frozen BK118.out 2))
          go_ret
          try simp only [beq_nil_isEmpty, bytesLess_gtr]
          exact ⟨by first | rfl | (simp [errW_none, errW_some] <;> rfl) | (simp [*, errW_none, errW_some] <;> rfl), by repeat (first | (with_reducible first | exact HB.out | apply below_alloc | apply pw_below_drewN | apply below_drew1 | refine below_set ?_ GE118.out) | exact HB.out)⟩
        · rw [if_neg c7] at H
          have c7b0 : (a0_2 == 0) = false := beq_eq_false_iff_ne.mpr c7
          have c7b1 : (a0_2 != 0) = true := bne_iff_ne.mpr c7
          replace H := Option.bind_eq_some_iff.mp H
          obtain ⟨t119, A100, H⟩ := H
          replace H : (if 1 + t119.size ≤ 9223372036854775807 then (if ((⟨#[45]⟩ : ByteArray) ++ a0_1).size + ((⟨#[101]⟩ : ByteArray) ++ t119).size ≤ 9223372036854775807 then (some (((⟨#[45]⟩ : ByteArray) ++ a0_1) ++ ((⟨#[101]⟩ : ByteArray) ++ t119))) else (none)) else (none)) = some r := H
          have A10 := Aside0.mk A100
          clear A100
          by_cases c11 : 1 + t119.size ≤ 9223372036854775807
          · rw [if_pos c11] at H
            have c11b0 := eq_true c11
            have c11b1 : decide (1 + t119.size ≤ 9223372036854775807) = true := decide_eq_true c11
            try have c11b2 : (9223372036854775807 < 1 + t119.size) = False := eq_false (Nat.not_lt.2 c11)
            by_cases c12 : ((⟨#[45]⟩ : ByteArray) ++ a0_1).size + ((⟨#[101]⟩ : ByteArray) ++ t119).size ≤ 9223372036854775807
            · rw [if_pos c12] at H
              have c12b0 := eq_true c12
              have c12b1 : decide (((⟨#[45]⟩ : ByteArray) ++ a0_1).size + ((⟨#[101]⟩ : ByteArray) ++ t119).size ≤ 9223372036854775807) = true := decide_eq_true c12
              try have c12b2 : (9223372036854775807 < ((⟨#[45]⟩ : ByteArray) ++ a0_1).size + ((⟨#[101]⟩ : ByteArray) ++ t119).size) = False := eq_false (Nat.not_lt.2 c12)
              obtain rfl := Option.some.inj H
              go_enter Tryz.func56, Tryz.ntmps56
              go_wp2_with (first | ((with_reducible refine gate_dst (N := 1) rfl ?_); refine box_event ?hg (N := 1) ?hd (cs := #[.bool true, .string a0_1, .int .i64 a0_2]) (t := 24) ?hr ?_; (case hd => rfl); (case hg => rfl); (case hr => first | (go_simp; done) | (go_simp; rfl)); intro gb118 hg w13 hbox hb; have n0_ := Aside0.mk (below_step (by repeat (first | (with_reducible first | exact HB.out | apply below_alloc | apply pw_below_drewN | apply below_drew1) | exact HB.out)) hb); have n1_ := Aside0.mk (hbox); have n2_ := Aside0.mk ((by rw [hg]; exact (below_size (by repeat (first | (with_reducible first | exact HB.out | apply below_alloc | apply pw_below_drewN | apply below_drew1) | exact HB.out))) : w.heap.size ≤ gb118)); have n3_ := Aside0.mk ((by rw [hg]; exact (below_size (by repeat (first | (with_reducible first | exact HB.out | apply below_alloc | apply pw_below_drewN | apply below_drew1) | exact HB.out))) : w.heap.size ≤ gb118)); clear HB; have HB := n0_; have BK118 := n1_; have GW118 := n2_; have GE118 := n3_; clear n0_ n1_ n2_ n3_; clear hb hbox hg; have hcz14_0 : w13.cell? ⟨gb118, 0, none⟩ = some (.bool true) := (blk_cell BK118.out 0).trans rfl; have hcz14_1 : w13.cell? ⟨gb118, 1, none⟩ = some (.string a0_1) := (blk_cell BK118.out 1).trans rfl; have hcz14_2 : w13.cell? ⟨gb118, 2, none⟩ = some (.int .i64 a0_2) := (blk_cell BK118.out 2).trans rfl; have hfz14_0 := blk_frozen BK118.out 0; have hfz14_1 := blk_frozen BK118.out 1; have hfz14_2 := blk_frozen BK118.out 2) | ((with_reducible refine gate_callee (f := 83) rfl ?_); refine goesL_ (some 19) rfl rfl Tryz.func83 (by kernel_rfl) rfl #[.int .i64 a0_2] rfl (by (try simp only [List.map_toArray, List.map_cons, List.map_nil]); first | done | rfl | (simp only [List.length_drop, List.length_take]; rfl)) ?_; (with_reducible refine (strconv_Itoa_83.calls a0_2 t119 _ (PTabs.below HT.out (by repeat (first | (with_reducible first | exact HB.out | apply below_alloc | apply pw_below_drewN | apply below_drew1 | refine below_set ?_ GE118.out) | exact HB.out))) A10.out).mono ?_); rintro e w15 ⟨rfl, hb⟩; refine ⟨_, rfl, ?_⟩; have n0_ := Aside0.mk (blk_below (g := gb118) (o := .cells #[.bool true, .string a0_1, .int .i64 a0_2] 24 (0, 0)) (by (with_reducible repeat (first | refine blk_drewN ?_ _ | refine blk_drew ?_ | refine blk_alloc ?_ _)); exact BK118.out) hb); have n1_ := Aside0.mk (below_step (by repeat (first | (with_reducible first | exact HB.out | apply below_alloc | apply pw_below_drewN | apply below_drew1 | refine below_set ?_ GE118.out) | exact HB.out)) hb); clear BK118; clear HB; have BK118 := n0_; have HB := n1_; clear n0_ n1_; (try clear hb); (try clear hb2); (try clear hk); (try clear hi)))
              go_ret
              try simp only [beq_nil_isEmpty, bytesLess_gtr]
              exact ⟨by first | rfl | (simp [errW_none, errW_some] <;> rfl) | (simp [*, errW_none, errW_some] <;> rfl), by repeat (first | (with_reducible first | exact HB.out | apply below_alloc | apply pw_below_drewN | apply below_drew1 | refine below_set ?_ GE118.out) | exact HB.out)⟩
            · rw [if_neg c12] at H
              exact absurd H (by simp)
          · rw [if_neg c11] at H
            exact absurd H (by simp)
      · rw [if_neg c6] at H
        exact absurd H (by simp)
    · replace c5 := Bool.eq_false_iff.mpr c5
      subst c5
      have H1 : (if a0_2 = 0 then (some a0_1) else ((strconv_Itoa_83.f a0_2).bind fun t120 => (if 1 + t120.size ≤ 9223372036854775807 then (if a0_1.size + ((⟨#[101]⟩ : ByteArray) ++ t120).size ≤ 9223372036854775807 then (some (a0_1 ++ ((⟨#[101]⟩ : ByteArray) ++ t120))) else (none)) else (none)))) = some r := by rw [if_neg (show ¬ (false = true) by decide)] at H; exact H
      clear H
      have H := H1
      clear H1
      by_cases c16 : a0_2 = 0
      · rw [if_pos c16] at H
        have c16b0 : (a0_2 == 0) = true := beq_iff_eq.mpr c16
        have c16b1 : (a0_2 != 0) = false := bne_eq_false_iff_eq.mpr c16
        clear c16
        obtain rfl := Option.some.inj H
        go_enter Tryz.func56, Tryz.ntmps56
        go_wp2_with (first | ((with_reducible refine gate_dst (N := 1) rfl ?_); refine box_event ?hg (N := 1) ?hd (cs := #[.bool false, .string a0_1, .int .i64 a0_2]) (t := 24) ?hr ?_; (case hd => rfl); (case hg => rfl); (case hr => first | (go_simp; done) | (go_simp; rfl)); intro gb118 hg w17 hbox hb; have n0_ := Aside0.mk (below_step (by repeat (first | (with_reducible first | exact HB.out | apply below_alloc | apply pw_below_drewN | apply below_drew1) | exact HB.out)) hb); have n1_ := Aside0.mk (hbox); have n2_ := Aside0.mk ((by rw [hg]; exact (below_size (by repeat (first | (with_reducible first | exact HB.out | apply below_alloc | apply pw_below_drewN | apply below_drew1) | exact HB.out))) : w.heap.size ≤ gb118)); have n3_ := Aside0.mk ((by rw [hg]; exact (below_size (by repeat (first | (with_reducible first | exact HB.out | apply below_alloc | apply pw_below_drewN | apply below_drew1) | exact HB.out))) : w.heap.size ≤ gb118)); clear HB; have HB := n0_; have BK118 := n1_; have GW118 := n2_; have GE118 := n3_; clear n0_ n1_ n2_ n3_; clear hb hbox hg; have hcz18_0 : w17.cell? ⟨gb118, 0, none⟩ = some (.bool false) := (blk_cell BK118.out 0).trans rfl; have hcz18_1 : w17.cell? ⟨gb118, 1, none⟩ = some (.string a0_1) := (blk_cell BK118.out 1).trans rfl; have hcz18_2 : w17.cell? ⟨gb118, 2, none⟩ = some (.int .i64 a0_2) := (blk_cell BK118.out 2).trans rfl; have hfz18_0 := blk_frozen BK118.out 0; have hfz18_1 := blk_frozen BK118.out 1; have hfz18_2 := blk_frozen BK118.out 2))
        go_ret
        try simp only [beq_nil_isEmpty, bytesLess_gtr]
        exact ⟨by first | rfl | (simp [errW_none, errW_some] <;> rfl) | (simp [*, errW_none, errW_some] <;> rfl), by repeat (first | (with_reducible first | exact HB.out | apply below_alloc | apply pw_below_drewN | apply below_drew1 | refine below_set ?_ GE118.out) | exact HB.out)⟩
      · rw [if_neg c16] at H
        have c16b0 : (a0_2 == 0) = false := beq_eq_false_iff_ne.mpr c16
        have c16b1 : (a0_2 != 0) = true := bne_iff_ne.mpr c16
        replace H := Option.bind_eq_some_iff.mp H
        obtain ⟨t120, A190, H⟩ := H
        replace H : (if 1 + t120.size ≤ 9223372036854775807 then (if a0_1.size + ((⟨#[101]⟩ : ByteArray) ++ t120).size ≤ 9223372036854775807 then (some (a0_1 ++ ((⟨#[101]⟩ : ByteArray) ++ t120))) else (none)) else (none)) = some r := H
        have A19 := Aside0.mk A190
        clear A190
        by_cases c20 : 1 + t120.size ≤ 9223372036854775807
        · rw [if_pos c20] at H
          have c20b0 := eq_true c20
          have c20b1 : decide (1 + t120.size ≤ 9223372036854775807) = true := decide_eq_true c20
          try have c20b2 : (9223372036854775807 < 1 + t120.size) = False := eq_false (Nat.not_lt.2 c20)
          by_cases c21 : a0_1.size + ((⟨#[101]⟩ : ByteArray) ++ t120).size ≤ 9223372036854775807
          · rw [if_pos c21] at H
            have c21b0 := eq_true c21
            have c21b1 : decide (a0_1.size + ((⟨#[101]⟩ : ByteArray) ++ t120).size ≤ 9223372036854775807) = true := decide_eq_true c21
            try have c21b2 : (9223372036854775807 < a0_1.size + ((⟨#[101]⟩ : ByteArray) ++ t120).size) = False := eq_false (Nat.not_lt.2 c21)
            obtain rfl := Option.some.inj H
            go_enter Tryz.func56, Tryz.ntmps56
            go_wp2_with (first | ((with_reducible refine gate_dst (N := 1) rfl ?_); refine box_event ?hg (N := 1) ?hd (cs := #[.bool false, .string a0_1, .int .i64 a0_2]) (t := 24) ?hr ?_; (case hd => rfl); (case hg => rfl); (case hr => first | (go_simp; done) | (go_simp; rfl)); intro gb118 hg w22 hbox hb; have n0_ := Aside0.mk (below_step (by repeat (first | (with_reducible first | exact HB.out | apply below_alloc | apply pw_below_drewN | apply below_drew1) | exact HB.out)) hb); have n1_ := Aside0.mk (hbox); have n2_ := Aside0.mk ((by rw [hg]; exact (below_size (by repeat (first | (with_reducible first | exact HB.out | apply below_alloc | apply pw_below_drewN | apply below_drew1) | exact HB.out))) : w.heap.size ≤ gb118)); have n3_ := Aside0.mk ((by rw [hg]; exact (below_size (by repeat (first | (with_reducible first | exact HB.out | apply below_alloc | apply pw_below_drewN | apply below_drew1) | exact HB.out))) : w.heap.size ≤ gb118)); clear HB; have HB := n0_; have BK118 := n1_; have GW118 := n2_; have GE118 := n3_; clear n0_ n1_ n2_ n3_; clear hb hbox hg; have hcz23_0 : w22.cell? ⟨gb118, 0, none⟩ = some (.bool false) := (blk_cell BK118.out 0).trans rfl; have hcz23_1 : w22.cell? ⟨gb118, 1, none⟩ = some (.string a0_1) := (blk_cell BK118.out 1).trans rfl; have hcz23_2 : w22.cell? ⟨gb118, 2, none⟩ = some (.int .i64 a0_2) := (blk_cell BK118.out 2).trans rfl; have hfz23_0 := blk_frozen BK118.out 0; have hfz23_1 := blk_frozen BK118.out 1; have hfz23_2 := blk_frozen BK118.out 2) | ((with_reducible refine gate_callee (f := 83) rfl ?_); refine goesL_ (some 19) rfl rfl Tryz.func83 (by kernel_rfl) rfl #[.int .i64 a0_2] rfl (by (try simp only [List.map_toArray, List.map_cons, List.map_nil]); first | done | rfl | (simp only [List.length_drop, List.length_take]; rfl)) ?_; (with_reducible refine (strconv_Itoa_83.calls a0_2 t120 _ (PTabs.below HT.out (by repeat (first | (with_reducible first | exact HB.out | apply below_alloc | apply pw_below_drewN | apply below_drew1 | refine below_set ?_ GE118.out) | exact HB.out))) A19.out).mono ?_); rintro e w24 ⟨rfl, hb⟩; refine ⟨_, rfl, ?_⟩; have n0_ := Aside0.mk (blk_below (g := gb118) (o := .cells #[.bool false, .string a0_1, .int .i64 a0_2] 24 (0, 0)) (by (with_reducible repeat (first | refine blk_drewN ?_ _ | refine blk_drew ?_ | refine blk_alloc ?_ _)); exact BK118.out) hb); have n1_ := Aside0.mk (below_step (by repeat (first | (with_reducible first | exact HB.out | apply below_alloc | apply pw_below_drewN | apply below_drew1 | refine below_set ?_ GE118.out) | exact HB.out)) hb); clear BK118; clear HB; have BK118 := n0_; have HB := n1_; clear n0_ n1_; (try clear hb); (try clear hb2); (try clear hk); (try clear hi)))
            go_ret
            try simp only [beq_nil_isEmpty, bytesLess_gtr]
            exact ⟨by first | rfl | (simp [errW_none, errW_some] <;> rfl) | (simp [*, errW_none, errW_some] <;> rfl), by repeat (first | (with_reducible first | exact HB.out | apply below_alloc | apply pw_below_drewN | apply below_drew1 | refine below_set ?_ GE118.out) | exact HB.out)⟩
          · rw [if_neg c21] at H
            exact absurd H (by simp)
        · rw [if_neg c20] at H
          exact absurd H (by simp)
end Go.Proofs.YtapcpndplnkfjaaGreatDoor.Pr
namespace Go.Proofs.YtapcpndplnkfjaaGreatDoor
open Go.RowKit Go.Proofs.YtapcpndplnkfjaaGreatDoorW.PrintWords Go.Proofs.YtapcpndplnkfjaaGreatDoorW.PrintLast Go.Proofs.YtapcpndplnkfjaaGreatDoorW.PrintMore
set_option linter.unusedVariables false
set_option linter.unusedSimpArgs false
namespace Js
def itemsF (f : S28 → Option (List UInt8)) : List S28 → Option (List (List UInt8))
  | [] => some []
  | x :: t => (f x).bind fun a => (itemsF f t).bind fun r => some (a :: r)
def pairsF (f : S28 → Option (List UInt8)) : List S28 → List ByteArray → Option (List (List UInt8))
  | [], _ => some []
  | x :: t, k :: u => if k.data.toList.length ≤ 1000000 then (f x).bind fun a => if a.length ≤ 1000000000 then (pairsF f t u).bind fun r => some ((quoteL k.data.toList ++ [58] ++ a) :: r) else none else none
  | _ :: _, [] => none
def wrapF (a b : UInt8) (l : List (List UInt8)) : Option (List UInt8) := if l.length ≤ 1000000 ∧ (Lib.join l [44]).length ≤ 1000000000 then some (a :: Lib.join l [44] ++ [b]) else none
def txF : Nat → S28 → Option (List UInt8)
  | 0, _ => none
  | n + 1, x =>
    if x.f0 = 1 then some (if x.f1 = true then [116, 114, 117, 101] else [102, 97, 108, 115, 101])
    else if x.f0 = 2 then (Pr.num_Text.f x.f2.f0 x.f2.f1 x.f2.f2).bind fun b => some b.data.toList
    else if x.f0 = 3 then (if x.f3.data.toList.length ≤ 1000000 then some (quoteL x.f3.data.toList) else none)
    else if x.f0 = 4 then (itemsF (txF n) x.f4).bind (wrapF 91 93)
    else if x.f0 = 5 then (pairsF (txF n) x.f4 x.f5).bind (wrapF 123 125)
    else some [110, 117, 108, 108]
theorem items_len {f : S28 → Option (List UInt8)} : ∀ {xs l}, itemsF f xs = some l → l.length = xs.length
  | [], l, h => by simp [itemsF] at h; subst h; rfl
  | x :: t, l, h => by
    simp only [itemsF, Option.bind_eq_some_iff] at h
    obtain ⟨a, _, r, hr, h⟩ := h
    obtain rfl : a :: r = l := by simpa using h
    simp [items_len hr]
theorem items_at {f : S28 → Option (List UInt8)} : ∀ {xs l}, itemsF f xs = some l → ∀ i, i < xs.length → f (xs.getD i z28) = some (l.getD i [])
  | [], l, h, i, hi => by simp at hi
  | x :: t, l, h, i, hi => by
    simp only [itemsF, Option.bind_eq_some_iff] at h
    obtain ⟨a, ha, r, hr, h⟩ := h
    obtain rfl : a :: r = l := by simpa using h
    match i, hi with
    | 0, _ => simpa using ha
    | i + 1, hi => simpa using items_at hr i (by simpa using hi)
theorem pairs_len {f : S28 → Option (List UInt8)} : ∀ {xs ks l}, pairsF f xs ks = some l → l.length = xs.length
  | [], _, l, h => by simp [pairsF] at h; subst h; rfl
  | _ :: _, [], l, h => by simp [pairsF] at h
  | x :: t, k :: u, l, h => by
    simp only [pairsF] at h
    split at h
    case isFalse => simp at h
    rw [Option.bind_eq_some_iff] at h
    obtain ⟨a, _, h⟩ := h
    split at h
    case isFalse => simp at h
    rw [Option.bind_eq_some_iff] at h
    obtain ⟨r, hr, h⟩ := h
    obtain rfl : _ = l := by simpa using h
    simp [pairs_len hr]
theorem pairs_at {f : S28 → Option (List UInt8)} : ∀ {xs ks l}, pairsF f xs ks = some l → ∀ i, i < xs.length → ∃ a, f (xs.getD i z28) = some a ∧ a.length ≤ 1000000000 ∧ i < ks.length ∧ (ks.getD i ⟨#[]⟩).data.toList.length ≤ 1000000 ∧ quoteL (ks.getD i ⟨#[]⟩).data.toList ++ [58] ++ a = l.getD i []
  | [], _, l, h, i, hi => by simp at hi
  | _ :: _, [], l, h, i, hi => by simp [pairsF] at h
  | x :: t, k :: u, l, h, i, hi => by
    simp only [pairsF] at h
    split at h
    case isFalse => simp at h
    next hk =>
    rw [Option.bind_eq_some_iff] at h
    obtain ⟨a, ha, h⟩ := h
    split at h
    case isFalse => simp at h
    next hl =>
    rw [Option.bind_eq_some_iff] at h
    obtain ⟨r, hr, h⟩ := h
    obtain rfl : _ = l := by simpa using h
    match i, hi with
    | 0, _ => exact ⟨a, by simpa using ha, hl, by simp, hk, by simp⟩
    | i + 1, hi =>
      obtain ⟨b, h1, h2, h3, h4, h5⟩ := pairs_at hr i (by simpa using hi)
      exact ⟨b, by simpa using h1, h2, by simpa using h3, by simpa using h4, by simpa using h5⟩
structure TI (w wr : World) (base : Nat) (v : Value) (l : List (List UInt8)) : Prop where
  r : Kd.R Kd.string 9 wr base (fun _ => True) v (l.map ofL)
  bel : Below base w wr
theorem map_join (l : List (List UInt8)) : ((l.map ofL).map (·.data.toList)) = l := by
  rw [List.map_map]
  conv => rhs; rw [← List.map_id l]
  exact List.map_congr_left (fun x _ => rfl)
theorem join_calls (l : List (List UInt8)) (base : Nat) (v : Value) (w : World) (hR : Kd.R Kd.string 9 w base (fun _ => True) v (l.map ofL)) (hl : l.length ≤ 1000000) (hj : (Lib.join l [44]).length ≤ 1000000000) :
    Calls Tryz.prog 58 #[v, .string ⟨#[44]⟩] w fun e w' => e = .returned (.string (ofL (Lib.join l [44]))) ∧ Below w.heap.size w w' := by
  by_cases hn : l = []
  · subst hn
    obtain ⟨A, c, rfl⟩ := Kd.R_slice hR
    exact (Tryz.strings_Join_none A c ⟨#[44]⟩ w).mono fun e w' ⟨h1, h2⟩ => ⟨by rw [h1]; rfl, h2 ▸ Below.refl _ _⟩
  · obtain ⟨A, c, rfl, hlc, hC⟩ := Kd.R_reads hR
    obtain ⟨g, cap, e, hg0, hg1, cells, hcells⟩ := Kd.R_form hR (by rw [List.length_map]; exact List.length_pos_iff.2 hn)
    injection e with e1 e2 e3
    subst e1
    have := Tryz.strings_Join g 0 c (l.map ofL) ⟨#[44]⟩ w (fun j x hj => by
      have hjl : j < (l.map ofL).length := (List.getElem?_eq_some_iff.1 hj).1
      obtain ⟨ad, cs, ea, _, hK, hc0⟩ := Kd.C_get hC (⟨#[]⟩ : ByteArray) (j : Int) (by omega) (by omega)
      injection ea with ea
      subst ea
      obtain rfl : cs = [.string ((l.map ofL).getD j ⟨#[]⟩)] := hK
      have := hc0 0 _ rfl
      rw [List.getD_eq_getElem?_getD, hj] at this
      have e0 : (⟨g, 0, none⟩ : Addr).add ((j : Int).toNat * Kd.string.sz + 0) = ⟨g, 0 + j, none⟩ := by show Addr.add _ (j * 1 + 0) = _; simp [Addr.add]; omega
      rw [e0] at this
      simpa using this) hg1 (by simp; omega) hlc (by rw [map_join]; exact Nat.le_trans hj (by decide))
    refine this.mono fun e w' ⟨h1, h2⟩ => ⟨?_, h2⟩
    rw [h1, map_join]
    rfl
set_option maxRecDepth 100000 in
set_option maxHeartbeats 2000000 in
theorem jtext_calls : ∀ (n : Nat) (x : S28) (r : List UInt8), txF n x = some r → ∀ (A B : Option Addr) (c c' : Nat) (w : World), PTabs w → JC w x A x.f4.length c B x.f5.length c' →
    Calls Tryz.prog 30 #[.agg #[.int .i64 x.f0, .bool x.f1, .bool x.f2.f0, .string x.f2.f1, .int .i64 x.f2.f2, .string x.f3, .slice A x.f4.length c, .slice B x.f5.length c']] w fun e w' => e = .returned (.string (ofL r)) ∧ Below w.heap.size w w'
  | 0, x, r, h => by simp [txF] at h
  | n + 1, x, r, h => by
    intro A B c c' w hT hJ
    have IH := Lib.hid (jtext_calls n)
    have HT := Lib.hid hT
    have HJ := Lib.hid hJ
    have hal := fun o => below_alloc (Below.refl w.heap.size w) o
    have HA := Lib.hid hal
    unfold txF at h
    clear hT hJ hal
    by_cases h1 : x.f0 = 1
    · rw [if_pos h1] at h
      cases hb : x.f1 with
      | true =>
        rw [hb] at h
        obtain rfl : [116, 114, 117, 101] = r := by simpa using h
        clear h
        go_enter Tryz.func30, Tryz.ntmps30
        go_wp2_with fail
        go_ret
        exact ⟨rfl, HA.out _⟩
      | false =>
        rw [hb] at h
        obtain rfl : [102, 97, 108, 115, 101] = r := by simpa using h
        clear h
        go_enter Tryz.func30, Tryz.ntmps30
        go_wp2_with fail
        go_ret
        exact ⟨rfl, HA.out _⟩
    rw [if_neg h1] at h
    have h1' : (x.f0 == 1) = false := by simpa using h1
    by_cases h2 : x.f0 = 2
    · rw [if_pos h2, Option.bind_eq_some_iff] at h
      obtain ⟨b, hb, h⟩ := h
      obtain rfl : b.data.toList = r := by simpa using h
      have HB := Lib.hid hb
      clear h hb h1
      go_enter Tryz.func30, Tryz.ntmps30
      go_wp2_with fail
      refine (Pr.num_Text.calls _ _ _ b _ (HT.out.below (HA.out _)) HB.out).mono ?_
      rintro E w1 ⟨rfl, hB⟩
      have HB1 := Lib.hid ((HA.out _).trans (hB.mono (HA.out _).size))
      go_wp2_with fail
      go_ret
      exact ⟨by rw [ofL_of]; rfl, HB1.out⟩
    rw [if_neg h2] at h
    have h2' : (x.f0 == 2) = false := by simpa using h2
    by_cases h3 : x.f0 = 3
    · rw [if_pos h3] at h
      split at h
      case isFalse => simp at h
      next hl =>
      obtain rfl : quoteL x.f3.data.toList = r := by simpa using h
      have HL := Lib.hid hl
      have HS := Lib.hid (quote_calls x.f3.data.toList hl)
      rw [ofL_of] at HS
      clear h h1 h2 hl
      go_enter Tryz.func30, Tryz.ntmps30
      go_wp2_with fail
      refine (HS.out _).mono ?_
      rintro E w1 ⟨rfl, hB⟩
      have HB1 := Lib.hid ((HA.out _).trans (hB.mono (HA.out _).size))
      go_wp2_with fail
      go_ret
      exact ⟨rfl, HB1.out⟩
    rw [if_neg h3] at h
    have h3' : (x.f0 == 3) = false := by simpa using h3
    by_cases h4 : x.f0 = 4
    · rw [if_pos h4, Option.bind_eq_some_iff] at h
      obtain ⟨l, hit, h⟩ := h
      unfold wrapF at h
      split at h
      case isFalse => simp at h
      next hl =>
      obtain rfl : 91 :: Lib.join l [44] ++ [93] = r := by simpa using h
      have HL := Lib.hid hl
      have HLEN := Lib.hid (items_len hit)
      have HAT := Lib.hid (items_at hit)
      have hn : x.f4.length ≤ 1000000 := by rw [← items_len hit]; exact hl.1
      have h4b : (x.f0 == 4) = true := by simp [h4]
      clear h h1 h2 h3 hl hit h4
      go_enter Tryz.func30, Tryz.ntmps30
      go_wp2_with fail
      have hb0 := HA.out (.cells #[.int .i64 x.f0, .bool x.f1, .bool x.f2.f0, .string x.f2.f1, .int .i64 x.f2.f2, .string x.f3, .slice A x.f4.length c, .slice B x.f5.length c'] 28)
      obtain ⟨w0, hw0⟩ : ∃ w0, w0 = w.alloc (.cells #[.int .i64 x.f0, .bool x.f1, .bool x.f2.f0, .string x.f2.f1, .int .i64 x.f2.f2, .string x.f3, .slice A x.f4.length c, .slice B x.f5.length c'] 28) := ⟨_, rfl⟩
      rw [← hw0] at hb0 ⊢
      have HB0 := Lib.hid hb0
      clear hb0 hw0
      go_loopw [3, 29] (fun v3 vi wr => ∃ (k : Nat) (u : Value), k ≤ x.f4.length ∧ u = v3 ∧ vi = .int .i64 k ∧ Hid (TI w0 wr w0.heap.size u (l.take k))) (fun v3 vi _ => x.f4.length - (intOf vi).toNat)
      case atStart => exact ⟨0, _, by omega, rfl, rfl, Lib.hid ⟨Kd.R_nil _ _ _ _ _, Below.refl _ _⟩⟩
      case round =>
        obtain ⟨k, v3, hk, hu, rfl, HI⟩ := hrel
        subst hu
        have HBW := Lib.hid (HB0.out.trans (HI.out.bel.mono HB0.out.size))
        by_cases hkl : k < x.f4.length
        · obtain ⟨ad, A6, c6, A7, c7, rfl, q0, q1, q2, q3, q4, q5, q6, q7, l6, g6, l7, g7⟩ := at_T28 (Kd.C_below HJ.out.i HBW.out) (k : Int) (by omega) (by omega)
          have hy := HAT.out k hkl
          simp only [rd_T28, Int.toNat_natCast] at q0 q1 q2 q3 q4 q5 q6 q7 l6 g6 l7 g7
          obtain ⟨y, hyy⟩ : ∃ y, y = x.f4.getD k z28 := ⟨_, rfl⟩
          obtain ⟨t, ht⟩ : ∃ t, t = l.getD k [] := ⟨_, rfl⟩
          rw [← hyy] at q0 q1 q2 q3 q4 q5 q6 q7 l6 g6 l7 g7 hy
          rw [← ht] at hy
          have HY := Lib.hid hy
          have HJY := Lib.hid (JC.mk (w := wr) (x := y) (A := A6) (n := y.f4.length) (c := c6) (B := A7) (m := y.f5.length) (c' := c7) rfl l6 g6 rfl l7 g7)
          have HTK : Hid ((l.take (k + 1)).map ofL = (l.take k).map ofL ++ [ofL t]) := Lib.hid (by
            have hkl2 : k < l.length := by rw [HLEN.out]; exact hkl
            rw [List.take_succ_eq_append_getElem hkl2, List.map_append, ht]; simp [hkl2])
          have HLN : Hid ((((l.take k).map ofL).length + 1) * 16 ≤ 140737488355328) := Lib.hid (by have := HL.out.1; simp; omega)
          clear hyy ht hy l6 g6 l7 g7
          have hal := fun o => below_alloc (Below.refl wr.heap.size wr) o
          have HAL := Lib.hid hal
          clear hal
          go_wp2_with fail
          refine (IH.out y t HY.out A6 A7 c6 c7 _ (HT.out.below (HBW.out.trans ((HAL.out _).mono HBW.out.size))) (HJY.out.below (HAL.out _))).mono ?_
          rintro E w1 ⟨rfl, hB⟩
          have hb1 := (HAL.out (.cells #[.int .i64 y.f0, .bool y.f1, .bool y.f2.f0, .string y.f2.f1, .int .i64 y.f2.f2, .string y.f3, .slice A6 y.f4.length c6, .slice A7 y.f5.length c7] 28)).trans (hB.mono (HAL.out _).size)
          have HR1 := Lib.hid (Kd.R_below HI.out.r hb1)
          have HB1 := Lib.hid (HI.out.bel.trans (hb1.mono HI.out.bel.size))
          clear hB hb1 q0 q1 q2 q3 q4 q5 q6 q7
          go_wp2_with (first | ((with_reducible refine gate_builtin (b := .append) (xs := #[.tmp 33, .tmp 36]) rfl ?_); at_builtin; refine Kd.R_append Kd.string (w0 := w0) w0.heap.size rfl (.tmp 33) (.tmp 36) 26 9 (.string ⟨#[]⟩) 16 rfl Tryz.underlying26 info9 rfl (by decide) (by decide) v3 _ (ofL t) [.string (ofL t)] (fun _ => True) (fun _ => False) rfl rfl rfl (fun _ hk => hk.elim) (fun _ _ => trivial) HR1.out HB1.out HB1.out.size HLN.out ?_; intro v9 wa hR9 hB9 hga hat))
          exact ⟨⟨k + 1, _, by omega, rfl, by simp, Lib.hid ⟨by rw [HTK.out]; exact hR9, hB9⟩⟩, by simp [intOf]; omega⟩
        · have : k = x.f4.length := by omega
          subst this
          have HR : Hid (Kd.R Kd.string 9 wr w0.heap.size (fun _ => True) v3 (l.map ofL)) := Lib.hid (by have := HI.out.r; rwa [← HLEN.out, List.take_length] at this)
          go_wp2_with fail
          refine (join_calls l _ v3 wr HR.out HL.out.1 HL.out.2).mono ?_
          rintro E w2 ⟨rfl, hB⟩
          have HB2 := Lib.hid (HBW.out.trans (hB.mono HBW.out.size))
          have HJL := Lib.hid HL.out.2
          obtain ⟨J, hJ⟩ : ∃ J, J = Lib.join l [44] := ⟨_, rfl⟩
          rw [← hJ] at HJL ⊢
          have hz1 : (ofL J).size = J.length := ofL_size J
          have hz2 : (ofL (91 :: J)).size = J.length + 1 := ofL_size _
          have hz3 : J.length ≤ 1000000000 := HJL.out
          have hS1 : (⟨#[91]⟩ : ByteArray) ++ ofL J = ofL (91 :: J) := ofL_app [91] J
          have hS2 : ofL (91 :: J) ++ (⟨#[93]⟩ : ByteArray) = ofL (91 :: J ++ [93]) := ofL_app (91 :: J) [93]
          have HJJ := Lib.hid hJ
          clear hJ hB
          go_wp2_with fail
          go_ret
          rw [← HJJ.out]
          exact ⟨rfl, HB2.out⟩
    rw [if_neg h4] at h
    have h4' : (x.f0 == 4) = false := by simpa using h4
    by_cases h5 : x.f0 = 5
    · rw [if_pos h5, Option.bind_eq_some_iff] at h
      obtain ⟨l, hit, h⟩ := h
      unfold wrapF at h
      split at h
      case isFalse => simp at h
      next hl =>
      obtain rfl : 123 :: Lib.join l [44] ++ [125] = r := by simpa using h
      have HL := Lib.hid hl
      have HLEN := Lib.hid (pairs_len hit)
      have HAT := Lib.hid (pairs_at hit)
      have hn : x.f4.length ≤ 1000000 := by rw [← pairs_len hit]; exact hl.1
      have h5b : (x.f0 == 5) = true := by simp [h5]
      clear h h1 h2 h3 hl hit h4 h5
      go_enter Tryz.func30, Tryz.ntmps30
      go_wp2_with fail
      have hb0 := HA.out (.cells #[.int .i64 x.f0, .bool x.f1, .bool x.f2.f0, .string x.f2.f1, .int .i64 x.f2.f2, .string x.f3, .slice A x.f4.length c, .slice B x.f5.length c'] 28)
      have hk0 := blk_new w (.cells #[.int .i64 x.f0, .bool x.f1, .bool x.f2.f0, .string x.f2.f1, .int .i64 x.f2.f2, .string x.f3, .slice A x.f4.length c, .slice B x.f5.length c'] 28)
      have hs0 : w.heap.size < (w.alloc (.cells #[.int .i64 x.f0, .bool x.f1, .bool x.f2.f0, .string x.f2.f1, .int .i64 x.f2.f2, .string x.f3, .slice A x.f4.length c, .slice B x.f5.length c'] 28)).heap.size := by simp
      obtain ⟨w0, hw0⟩ : ∃ w0, w0 = w.alloc (.cells #[.int .i64 x.f0, .bool x.f1, .bool x.f2.f0, .string x.f2.f1, .int .i64 x.f2.f2, .string x.f3, .slice A x.f4.length c, .slice B x.f5.length c'] 28) := ⟨_, rfl⟩
      rw [← hw0] at hb0 hk0 hs0 ⊢
      have HB0 := Lib.hid hb0
      have HK0 := Lib.hid hk0
      clear hb0 hw0 hk0 hs0
      go_loopw [3, 48] (fun v3 vi wr => ∃ (k : Nat) (u : Value), k ≤ x.f4.length ∧ u = v3 ∧ vi = .int .i64 k ∧ Hid (TI w0 wr w0.heap.size u (l.take k))) (fun v3 vi _ => x.f4.length - (intOf vi).toNat)
      case atStart => exact ⟨0, _, by omega, rfl, rfl, Lib.hid ⟨Kd.R_nil _ _ _ _ _, Below.refl _ _⟩⟩
      case round =>
        obtain ⟨k, v3, hk, hu, rfl, HI⟩ := hrel
        subst hu
        have HBW := Lib.hid (HB0.out.trans (HI.out.bel.mono HB0.out.size))
        by_cases hkl : k < x.f4.length
        · obtain ⟨ad, A6, c6, A7, c7, rfl, q0, q1, q2, q3, q4, q5, q6, q7, l6, g6, l7, g7⟩ := at_T28 (Kd.C_below HJ.out.i HBW.out) (k : Int) (by omega) (by omega)
          obtain ⟨t, hy, htl, hkk, hkey, hlk⟩ := HAT.out k hkl
          simp only [rd_T28, Int.toNat_natCast] at q0 q1 q2 q3 q4 q5 q6 q7 l6 g6 l7 g7
          obtain ⟨bd, cs, rfl, _, hcs, hbd⟩ := Kd.C_get (Kd.C_below HJ.out.s HBW.out) (⟨#[]⟩ : ByteArray) (k : Int) (by omega) (by omega)
          obtain rfl : cs = [.string (x.f5.getD k ⟨#[]⟩)] := hcs
          have hbd : wr.cell? (bd.add k) = some (.string (x.f5.getD k ⟨#[]⟩)) := by have := hbd 0 _ rfl; rwa [show (k : Int).toNat * Kd.string.sz + 0 = k by show k * 1 + 0 = k; omega] at this
          obtain ⟨y, hyy⟩ : ∃ y, y = x.f4.getD k z28 := ⟨_, rfl⟩
          obtain ⟨key, hke⟩ : ∃ key, key = (x.f5.getD k ⟨#[]⟩).data.toList := ⟨_, rfl⟩
          have hkf : x.f5.getD k ⟨#[]⟩ = ofL key := by rw [hke, ofL_of]
          rw [← hyy] at q0 q1 q2 q3 q4 q5 q6 q7 l6 g6 l7 g7 hy
          rw [hkf] at hbd
          rw [← hke] at hkey hlk
          have HQ := Lib.hid (quote_calls key hkey)
          obtain ⟨Q, hQ⟩ : ∃ Q, Q = quoteL key := ⟨_, rfl⟩
          have hQl : Q.length ≤ 6000002 := by rw [hQ]; unfold quoteL; have := quoteF_len key; simp only [List.length_append, List.length_cons, List.length_nil]; omega
          rw [← hQ] at HQ hlk
          have HY := Lib.hid hy
          have HJY0 := JC.mk (w := wr) (x := y) (A := A6) (n := y.f4.length) (c := c6) (B := A7) (m := y.f5.length) (c' := c7) rfl l6 g6 rfl l7 g7
          have HTK : Hid ((l.take (k + 1)).map ofL = (l.take k).map ofL ++ [ofL (Q ++ [58] ++ t)]) := Lib.hid (by
            have hkl2 : k < l.length := by rw [HLEN.out]; exact hkl
            rw [List.take_succ_eq_append_getElem hkl2, List.map_append, hlk]; simp [hkl2])
          have HLN : Hid ((((l.take k).map ofL).length + 1) * 16 ≤ 140737488355328) := Lib.hid (by have := HL.out.1; simp; omega)
          have hal := fun o => below_alloc (Below.refl wr.heap.size wr) o
          have hWk := blk_new wr (.cells #[.int .i64 y.f0, .bool y.f1, .bool y.f2.f0, .string y.f2.f1, .int .i64 y.f2.f2, .string y.f3, .slice A6 y.f4.length c6, .slice A7 y.f5.length c7] 28)
          have hWs : (wr.alloc (.cells #[.int .i64 y.f0, .bool y.f1, .bool y.f2.f0, .string y.f2.f1, .int .i64 y.f2.f2, .string y.f3, .slice A6 y.f4.length c6, .slice A7 y.f5.length c7] 28)).heap.size = wr.heap.size + 1 := by simp
          have hgW : w.heap.size < wr.heap.size := Nat.lt_of_lt_of_le (blk_lt HK0.out) HI.out.bel.size
          have hk7 : wr.cell? ⟨w.heap.size, 7, none⟩ = some (.slice (some bd) x.f5.length c') := (blk_cell (thru HK0.out HI.out.bel) 7).trans rfl
          have HNE : Hid (some wr.heap.size ≠ v3.ownBlock) := Lib.hid (fun h0 => by
            have := (Kd.R_bound HI.out.r).1 wr.heap.size h0.symm
            omega)
          have HKD : Hid (∀ wa : World, Below w.heap.size w wa → wa.cell? (bd.add k) = some (.string (ofL key))) := Lib.hid (fun wa hb => by
            obtain ⟨bd', cs', e', _, hcs', hbd'⟩ := Kd.C_get (Kd.C_below HJ.out.s hb) (⟨#[]⟩ : ByteArray) (k : Int) (by omega) (by omega)
            injection e' with e'
            subst e'
            obtain rfl : cs' = [.string (x.f5.getD k ⟨#[]⟩)] := hcs'
            have := hbd' 0 _ rfl
            rw [show (k : Int).toNat * Kd.string.sz + 0 = k by show k * 1 + 0 = k; omega, hkf] at this
            exact this)
          have hall : ∀ w' : World, Below (wr.alloc (.cells #[.int .i64 y.f0, .bool y.f1, .bool y.f2.f0, .string y.f2.f1, .int .i64 y.f2.f2, .string y.f3, .slice A6 y.f4.length c6, .slice A7 y.f5.length c7] 28)).heap.size (wr.alloc (.cells #[.int .i64 y.f0, .bool y.f1, .bool y.f2.f0, .string y.f2.f1, .int .i64 y.f2.f2, .string y.f3, .slice A6 y.f4.length c6, .slice A7 y.f5.length c7] 28)) w' → w'.cell? ⟨w.heap.size, 7, none⟩ = some (.slice (some bd) x.f5.length c') ∧ w'.cell? (bd.add k) = some (.string (ofL key)) ∧ w'.cell? ⟨wr.heap.size, 0, none⟩ = some (.int .i64 y.f0) ∧ w'.cell? ⟨wr.heap.size, 1, none⟩ = some (.bool y.f1) ∧ w'.cell? ⟨wr.heap.size, 2, none⟩ = some (.bool y.f2.f0) ∧ w'.cell? ⟨wr.heap.size, 3, none⟩ = some (.string y.f2.f1) ∧ w'.cell? ⟨wr.heap.size, 4, none⟩ = some (.int .i64 y.f2.f2) ∧ w'.cell? ⟨wr.heap.size, 5, none⟩ = some (.string y.f3) ∧ w'.cell? ⟨wr.heap.size, 6, none⟩ = some (.slice A6 y.f4.length c6) ∧ w'.cell? ⟨wr.heap.size, 7, none⟩ = some (.slice A7 y.f5.length c7) := fun w' hb => by
            have h1 := (hal (.cells #[.int .i64 y.f0, .bool y.f1, .bool y.f2.f0, .string y.f2.f1, .int .i64 y.f2.f2, .string y.f3, .slice A6 y.f4.length c6, .slice A7 y.f5.length c7] 28)).trans (hb.mono (hal _).size)
            have h2 := thru hWk hb
            exact ⟨pw_cell_below h1 hk7, pw_cell_below h1 hbd, (blk_cell h2 0).trans rfl, (blk_cell h2 1).trans rfl, (blk_cell h2 2).trans rfl, (blk_cell h2 3).trans rfl, (blk_cell h2 4).trans rfl, (blk_cell h2 5).trans rfl, (blk_cell h2 6).trans rfl, (blk_cell h2 7).trans rfl⟩
          have hst := hall _ (below_drew1 (Below.refl _ _))
          have HSB0 := Lib.hid hall
          have HAL := Lib.hid hal
          have HKB := Lib.hid (And.intro hk7 (And.intro hbd (And.intro hWk hgW)))
          have hz1 : (ofL Q).size = Q.length := ofL_size _
          have hz2 : (ofL (Q ++ [58])).size = Q.length + 1 := by rw [ofL_size]; simp
          have hz3 : (ofL t).size = t.length := ofL_size _
          have hz4 : ¬ (9223372036854775807 < Q.length + 1) := by omega
          have hz5 : ¬ (9223372036854775807 < Q.length + 1 + t.length) := by omega
          have hS1 : ofL Q ++ (⟨#[58]⟩ : ByteArray) = ofL (Q ++ [58]) := ofL_app Q [58]
          have hS2 : ofL (Q ++ [58]) ++ ofL t = ofL (Q ++ [58] ++ t) := ofL_app _ _
          clear hyy hke hkf hQ hy hbd l6 g6 l7 g7 hal hWk hWs hgW hk7 hall hlk hkey htl
          go_upto_region 22 with fail
          refine start_ (n := 14) (S := fun w' => w'.cell? ⟨w.heap.size, 7, none⟩ = some (.slice (some bd) x.f5.length c') ∧ w'.cell? (bd.add k) = some (.string (ofL key)) ∧ w'.cell? ⟨wr.heap.size, 0, none⟩ = some (.int .i64 y.f0) ∧ w'.cell? ⟨wr.heap.size, 1, none⟩ = some (.bool y.f1) ∧ w'.cell? ⟨wr.heap.size, 2, none⟩ = some (.bool y.f2.f0) ∧ w'.cell? ⟨wr.heap.size, 3, none⟩ = some (.string y.f2.f1) ∧ w'.cell? ⟨wr.heap.size, 4, none⟩ = some (.int .i64 y.f2.f2) ∧ w'.cell? ⟨wr.heap.size, 5, none⟩ = some (.string y.f3) ∧ w'.cell? ⟨wr.heap.size, 6, none⟩ = some (.slice A6 y.f4.length c6) ∧ w'.cell? ⟨wr.heap.size, 7, none⟩ = some (.slice A7 y.f5.length c7)) (ds := []) #[false, false, false, false, false, false, false, false, false, false, false, false, false, false] (by kernel_rfl) rfl rfl hst (fun hHeld => ?_)
          have hWd := (HAL.out (.cells #[.int .i64 y.f0, .bool y.f1, .bool y.f2.f0, .string y.f2.f1, .int .i64 y.f2.f2, .string y.f3, .slice A6 y.f4.length c6, .slice A7 y.f5.length c7] 28)).trans ((below_drew1 (Below.refl (wr.alloc (.cells #[.int .i64 y.f0, .bool y.f1, .bool y.f2.f0, .string y.f2.f1, .int .i64 y.f2.f2, .string y.f3, .slice A6 y.f4.length c6, .slice A7 y.f5.length c7] 28)).heap.size (wr.alloc (.cells #[.int .i64 y.f0, .bool y.f1, .bool y.f2.f0, .string y.f2.f1, .int .i64 y.f2.f2, .string y.f3, .slice A6 y.f4.length c6, .slice A7 y.f5.length c7] 28)))).mono (HAL.out _).size)
          have hSd : ∀ w', Below (wr.alloc (.cells #[.int .i64 y.f0, .bool y.f1, .bool y.f2.f0, .string y.f2.f1, .int .i64 y.f2.f2, .string y.f3, .slice A6 y.f4.length c6, .slice A7 y.f5.length c7] 28)).drew.heap.size (wr.alloc (.cells #[.int .i64 y.f0, .bool y.f1, .bool y.f2.f0, .string y.f2.f1, .int .i64 y.f2.f2, .string y.f3, .slice A6 y.f4.length c6, .slice A7 y.f5.length c7] 28)).drew w' → w'.cell? ⟨w.heap.size, 7, none⟩ = some (.slice (some bd) x.f5.length c') ∧ w'.cell? (bd.add k) = some (.string (ofL key)) ∧ w'.cell? ⟨wr.heap.size, 0, none⟩ = some (.int .i64 y.f0) ∧ w'.cell? ⟨wr.heap.size, 1, none⟩ = some (.bool y.f1) ∧ w'.cell? ⟨wr.heap.size, 2, none⟩ = some (.bool y.f2.f0) ∧ w'.cell? ⟨wr.heap.size, 3, none⟩ = some (.string y.f2.f1) ∧ w'.cell? ⟨wr.heap.size, 4, none⟩ = some (.int .i64 y.f2.f2) ∧ w'.cell? ⟨wr.heap.size, 5, none⟩ = some (.string y.f3) ∧ w'.cell? ⟨wr.heap.size, 6, none⟩ = some (.slice A6 y.f4.length c6) ∧ w'.cell? ⟨wr.heap.size, 7, none⟩ = some (.slice A7 y.f5.length c7) := fun w' hb => HSB0.out w' ((below_drew1 (Below.refl _ _)).trans (hb.mono (Nat.le_refl _)))
          have hEd : (wr.alloc (.cells #[.int .i64 y.f0, .bool y.f1, .bool y.f2.f0, .string y.f2.f1, .int .i64 y.f2.f2, .string y.f3, .slice A6 y.f4.length c6, .slice A7 y.f5.length c7] 28)).drew.heap[wr.heap.size]? = some (.cells #[.int .i64 y.f0, .bool y.f1, .bool y.f2.f0, .string y.f2.f1, .int .i64 y.f2.f2, .string y.f3, .slice A6 y.f4.length c6, .slice A7 y.f5.length c7] 28 (0, 0)) := blk_drew HKB.out.2.2.1
          generalize (wr.alloc (.cells #[.int .i64 y.f0, .bool y.f1, .bool y.f2.f0, .string y.f2.f1, .int .i64 y.f2.f2, .string y.f3, .slice A6 y.f4.length c6, .slice A7 y.f5.length c7] 28)).drew = wd at hWd hSd hEd hHeld ⊢
          have HBX : Hid (∀ w', Below wd.heap.size wd w' → Below w.heap.size w w') := Lib.hid (fun w' hb => HBW.out.trans ((hWd.trans (hb.mono hWd.size)).mono HBW.out.size))
          have HSB := Lib.hid hSd
          have HJY := Lib.hid (HJY0.below hWd)
          have HI : Hid (TI w0 wd w0.heap.size v3 (l.take k)) := Lib.hid ⟨Kd.R_below HI.out.r hWd, HI.out.bel.trans (hWd.mono HI.out.bel.size)⟩
          have HBd := Lib.hid (Below.refl wd.heap.size wd)
          have HSG : Hid (∀ w2 wa : World, Below wd.heap.size wd w2 → Below w0.heap.size w0 wa → w2.grownBy wa v3.ownBlock → (fun w' : World => w'.cell? ⟨w.heap.size, 7, none⟩ = some (.slice (some bd) x.f5.length c') ∧ w'.cell? (bd.add k) = some (.string (ofL key)) ∧ w'.cell? ⟨wr.heap.size, 0, none⟩ = some (.int .i64 y.f0) ∧ w'.cell? ⟨wr.heap.size, 1, none⟩ = some (.bool y.f1) ∧ w'.cell? ⟨wr.heap.size, 2, none⟩ = some (.bool y.f2.f0) ∧ w'.cell? ⟨wr.heap.size, 3, none⟩ = some (.string y.f2.f1) ∧ w'.cell? ⟨wr.heap.size, 4, none⟩ = some (.int .i64 y.f2.f2) ∧ w'.cell? ⟨wr.heap.size, 5, none⟩ = some (.string y.f3) ∧ w'.cell? ⟨wr.heap.size, 6, none⟩ = some (.slice A6 y.f4.length c6) ∧ w'.cell? ⟨wr.heap.size, 7, none⟩ = some (.slice A7 y.f5.length c7)) wa) := Lib.hid (fun w2 wa hb hB9 hga => by
            have h2 := thru hEd hb
            have h3 : wa.heap[wr.heap.size]? = some (.cells #[.int .i64 y.f0, .bool y.f1, .bool y.f2.f0, .string y.f2.f1, .int .i64 y.f2.f2, .string y.f3, .slice A6 y.f4.length c6, .slice A7 y.f5.length c7] 28 (0, 0)) := (hga.block wr.heap.size (blk_lt h2) HNE.out).trans h2
            have h4 := thru HK0.out hB9
            exact ⟨(blk_cell h4 7).trans rfl, HKD.out wa (HB0.out.trans (hB9.mono HB0.out.size)), (blk_cell h3 0).trans rfl, (blk_cell h3 1).trans rfl, (blk_cell h3 2).trans rfl, (blk_cell h3 3).trans rfl, (blk_cell h3 4).trans rfl, (blk_cell h3 5).trans rfl, (blk_cell h3 6).trans rfl, (blk_cell h3 7).trans rfl⟩)
          clear hWd hSd hEd hst HSB0 HAL HKB HJY0
          refine pure_ (i := 0) (N := some 53) (v := ?_) (a' := ?_) #[true, false, false, false, false, false, false, false, false, false, false, false, false, false] rfl rfl (by kernel_rfl) (fun _ _ _ h => h) (Or.inl ⟨by rfl, ?_⟩) ?_ ?_
          rotate_left
          · intro w'
            go_simp
            with_reducible rfl
          rotate_left
          · simp only [Act.put, List.setIfInBounds_toArray, List.set_cons_zero, List.set_cons_succ, i64_w, i32_w]
            rfl
          refine pure_ (i := 1) (N := some 54) (v := ?_) (a' := ?_) #[true, true, false, false, false, false, false, false, false, false, false, false, false, false] rfl rfl (by kernel_rfl) (fun _ _ _ h => h) (Or.inl ⟨by rfl, ?_⟩) ?_ ?_
          rotate_left
          · intro w'
            go_simp
            with_reducible rfl
          rotate_left
          · simp only [Act.put, List.setIfInBounds_toArray, List.set_cons_zero, List.set_cons_succ, i64_w, i32_w]
            rfl
          refine take_ (i := 2) (N := some 55) (v := ?_) (a' := ?_) #[true, true, true, false, false, false, false, false, false, false, false, false, false, false] rfl rfl (by kernel_rfl) (fun _ _ _ h => h) (Or.inl ⟨by rfl, ?_⟩) hHeld ?_ ?_
          rotate_left
          · rintro w' ⟨s0, s1, s2, s3, s4, s5, s6, s7, s8, s9⟩
            go_simp
            with_reducible rfl
          rotate_left
          · simp only [Act.put, List.setIfInBounds_toArray, List.set_cons_zero, List.set_cons_succ, i64_w, i32_w]
            rfl
          refine pure_ (i := 3) (N := some 56) (v := ?_) (a' := ?_) #[true, true, true, true, false, false, false, false, false, false, false, false, false, false] rfl rfl (by kernel_rfl) (fun _ _ _ h => h) (Or.inl ⟨by rfl, ?_⟩) ?_ ?_
          rotate_left
          · intro w'
            go_simp
            with_reducible rfl
          rotate_left
          · simp only [Act.put, List.setIfInBounds_toArray, List.set_cons_zero, List.set_cons_succ, i64_w, i32_w]
            rfl
          refine pure_ (i := 4) (N := some 57) (v := ?_) (a' := ?_) #[true, true, true, true, true, false, false, false, false, false, false, false, false, false] rfl rfl (by kernel_rfl) (fun _ _ _ h => h) (Or.inl ⟨by rfl, ?_⟩) ?_ ?_
          rotate_left
          · intro w'
            go_simp
            with_reducible rfl
          rotate_left
          · simp only [Act.put, List.setIfInBounds_toArray, List.set_cons_zero, List.set_cons_succ, i64_w, i32_w]
            rfl
          refine take_ (i := 5) (N := some 58) (v := ?_) (a' := ?_) #[true, true, true, true, true, true, false, false, false, false, false, false, false, false] rfl rfl (by kernel_rfl) (fun _ _ _ h => h) (Or.inl ⟨by rfl, ?_⟩) hHeld ?_ ?_
          rotate_left
          · rintro w' ⟨s0, s1, s2, s3, s4, s5, s6, s7, s8, s9⟩
            go_simp
            with_reducible rfl
          rotate_left
          · simp only [Act.put, List.setIfInBounds_toArray, List.set_cons_zero, List.set_cons_succ, i64_w, i32_w]
            rfl
          refine take_ (i := 8) (N := some 61) (v := ?_) (a' := ?_) #[true, true, true, true, true, true, false, false, true, false, false, false, false, false] rfl rfl (by kernel_rfl) (fun _ _ _ h => h) (Or.inl ⟨by rfl, ?_⟩) hHeld ?_ ?_
          rotate_left
          · rintro w' ⟨s0, s1, s2, s3, s4, s5, s6, s7, s8, s9⟩
            go_simp
            with_reducible rfl
          rotate_left
          · simp only [Act.put, List.setIfInBounds_toArray, List.set_cons_zero, List.set_cons_succ, i64_w, i32_w]
            rfl
          refine one_ (i := 6) (N := some 59) #[true, true, true, true, true, true, true, false, true, false, false, false, false, false] rfl rfl (by kernel_rfl) (by decide) (fun K hK => ?_)
          refine call_ 57 #[.string (ofL key)] (by rfl) rfl ?_ ?_
          · go_simp
          refine (HQ.out wd).mono ?_
          rintro E w1 ⟨rfl, hB⟩
          have HB1 := Lib.hid (HBd.out.trans (hB.mono HBd.out.size))
          refine ⟨_, rfl, hK.out _ _ (HSB.out _ HB1.out) (fun hHeld => ?_)⟩
          clear hK K hB
          refine norm_ (a' := ?_) ?_ ?_
          rotate_left
          · show Act.put _ (some 59) _ = _
            simp only [Act.put, List.setIfInBounds_toArray, List.set_cons_zero, List.set_cons_succ, i64_w, i32_w]
            rfl
          refine pure_ (i := 7) (N := some 60) (v := ?_) (a' := ?_) #[true, true, true, true, true, true, true, true, true, false, false, false, false, false] rfl rfl (by kernel_rfl) (fun _ _ _ h => h) (Or.inl ⟨by rfl, ?_⟩) ?_ ?_
          rotate_left
          · intro w'
            go_simp
            with_reducible rfl
          rotate_left
          · simp only [Act.put, List.setIfInBounds_toArray, List.set_cons_zero, List.set_cons_succ, i64_w, i32_w]
            rfl
          refine one_ (i := 9) (N := some 62) #[true, true, true, true, true, true, true, true, true, true, false, false, false, false] rfl rfl (by kernel_rfl) (by decide) (fun K hK => ?_)
          refine call_ 30 #[.agg #[.int .i64 y.f0, .bool y.f1, .bool y.f2.f0, .string y.f2.f1, .int .i64 y.f2.f2, .string y.f3, .slice A6 y.f4.length c6, .slice A7 y.f5.length c7]] (by rfl) rfl ?_ ?_
          · go_simp
          refine (IH.out y t HY.out A6 A7 c6 c7 w1 (HT.out.below (HBX.out _ HB1.out)) (HJY.out.below HB1.out)).mono ?_
          rintro E w2 ⟨rfl, hB⟩
          have HB2 := Lib.hid (HB1.out.trans (hB.mono HB1.out.size))
          refine ⟨_, rfl, hK.out _ _ (HSB.out _ HB2.out) (fun hHeld => ?_)⟩
          clear hK K hB
          refine norm_ (a' := ?_) ?_ ?_
          rotate_left
          · show Act.put _ (some 62) _ = _
            simp only [Act.put, List.setIfInBounds_toArray, List.set_cons_zero, List.set_cons_succ, i64_w, i32_w]
            rfl
          refine pure_ (i := 10) (N := some 63) (v := ?_) (a' := ?_) #[true, true, true, true, true, true, true, true, true, true, true, false, false, false] rfl rfl (by kernel_rfl) (fun _ _ _ h => h) (Or.inl ⟨by rfl, ?_⟩) ?_ ?_
          rotate_left
          · intro w'
            go_simp
            with_reducible rfl
          rotate_left
          · simp only [Act.put, List.setIfInBounds_toArray, List.set_cons_zero, List.set_cons_succ, i64_w, i32_w]
            rfl
          refine one_ (i := 11) (N := some 64) #[true, true, true, true, true, true, true, true, true, true, true, true, false, false] rfl rfl (by kernel_rfl) (by decide) (fun K hK => ?_)
          refine value_ (v := .slice (some ⟨w2.heap.size, 0, none⟩) 1 1) (w1 := w2.alloc (.cells #[.string (ofL (Q ++ [58] ++ t))] 9)) (by rfl) rfl ?_ ?_
          · go_simp
          refine hK.out _ _ (HSB.out _ (below_alloc HB2.out _)) (fun hHeld => ?_)
          clear hK K
          refine norm_ (a' := ?_) ?_ ?_
          rotate_left
          · show Act.put _ (some 64) _ = _
            simp only [Act.put, List.setIfInBounds_toArray, List.set_cons_zero, List.set_cons_succ, i64_w, i32_w]
            rfl
          refine one_ (i := 12) (N := some 65) #[true, true, true, true, true, true, true, true, true, true, true, true, true, false] rfl rfl (by kernel_rfl) (by decide) (fun K hK => ?_)
          refine Kd.R_append_step Kd.string (w0 := w0) w0.heap.size (by rfl) (.tmp 53) (.tmp 64) 26 9 (.string ⟨#[]⟩) 16 rfl Tryz.underlying26 info9 rfl (by decide) (by decide) v3 _ (ofL (Q ++ [58] ++ t)) [.string (ofL (Q ++ [58] ++ t))] (fun _ => True) (fun _ => False) rfl rfl rfl (fun _ hk => hk.elim) (fun _ _ => trivial) (Kd.R_below HI.out.r HB2.out) (HI.out.bel.trans (HB2.out.mono HI.out.bel.size)) (Nat.le_trans HI.out.bel.size HB2.out.size) HLN.out ?_
          intro v9 wa hR9 hB9 hga hat
          refine hK.out _ _ (HSG.out _ _ HB2.out hB9 hga) (fun hHeld => ?_)
          clear hK K
          refine norm_ (a' := ?_) ?_ ?_
          rotate_left
          · show Act.put _ (some 65) _ = _
            simp only [Act.put, List.setIfInBounds_toArray, List.set_cons_zero, List.set_cons_succ, i64_w, i32_w]
            rfl
          refine pure_ (i := 13) (N := some 3) (v := ?_) (a' := ?_) #[true, true, true, true, true, true, true, true, true, true, true, true, true, true] rfl rfl (by kernel_rfl) (fun _ _ _ h => h) (Or.inl ⟨by rfl, ?_⟩) ?_ ?_
          rotate_left
          · intro w'
            go_simp
            with_reducible rfl
          rotate_left
          · simp only [Act.put, List.setIfInBounds_toArray, List.set_cons_zero, List.set_cons_succ, i64_w, i32_w]
            rfl
          refine done_ (by kernel_rfl) ?_
          clear hz1 hz2 hz3 hz4 hz5 hS1 hS2
          go_wp2_with fail
          exact ⟨⟨k + 1, _, by omega, rfl, by simp, Lib.hid ⟨by rw [HTK.out]; exact hR9, hB9⟩⟩, by simp [intOf]; omega⟩
        · have : k = x.f4.length := by omega
          subst this
          have HR : Hid (Kd.R Kd.string 9 wr w0.heap.size (fun _ => True) v3 (l.map ofL)) := Lib.hid (by have := HI.out.r; rwa [← HLEN.out, List.take_length] at this)
          go_wp2_with fail
          refine (join_calls l _ v3 wr HR.out HL.out.1 HL.out.2).mono ?_
          rintro E w2 ⟨rfl, hB⟩
          have HB2 := Lib.hid (HBW.out.trans (hB.mono HBW.out.size))
          have HJL := Lib.hid HL.out.2
          obtain ⟨J, hJ⟩ : ∃ J, J = Lib.join l [44] := ⟨_, rfl⟩
          rw [← hJ] at HJL ⊢
          have hz1 : (ofL J).size = J.length := ofL_size J
          have hz2 : (ofL (123 :: J)).size = J.length + 1 := ofL_size _
          have hz3 : J.length ≤ 1000000000 := HJL.out
          have hS1 : (⟨#[123]⟩ : ByteArray) ++ ofL J = ofL (123 :: J) := ofL_app [123] J
          have hS2 : ofL (123 :: J) ++ (⟨#[125]⟩ : ByteArray) = ofL (123 :: J ++ [125]) := ofL_app (123 :: J) [125]
          have HJJ := Lib.hid hJ
          clear hJ hB
          go_wp2_with fail
          go_ret
          rw [← HJJ.out]
          exact ⟨rfl, HB2.out⟩
    rw [if_neg h5] at h
    have h5' : (x.f0 == 5) = false := by simpa using h5
    obtain rfl : [110, 117, 108, 108] = r := by simpa using h
    clear h h1 h2 h3 h4 h5
    go_enter Tryz.func30, Tryz.ntmps30
    go_wp2_with fail
    go_ret
    exact ⟨rfl, HA.out _⟩
end Js
end Go.Proofs.YtapcpndplnkfjaaGreatDoor
namespace Go.Proofs.YtapcpndplnkfjaaGreatDoor
open Go.RowKit Go.Proofs.YtapcpndplnkfjaaGreatDoorW.PrintWords Go.Proofs.YtapcpndplnkfjaaGreatDoorW.PrintLast Go.Proofs.YtapcpndplnkfjaaGreatDoorW.PrintMore
set_option linter.unusedVariables false
set_option linter.unusedSimpArgs false
namespace Js
theorem jparseR (s : List UInt8) (w : World) (hT : Tabs w) (x : S28) (e : Int) (h : pv s = (x, e)) :
    Calls Tryz.prog 16 #[.string (ofL s)] w fun E w' => ∃ A c B c', E = .returned (.tuple #[.agg #[.int .i64 x.f0, .bool x.f1, .bool x.f2.f0, .string x.f2.f1, .int .i64 x.f2.f2, .string x.f3, .slice A x.f4.length c, .slice B x.f5.length c'], .int .i64 e]) ∧
      JC w' x A x.f4.length c B x.f5.length c' ∧ Kd.string.R 9 w' w.heap.size (fun _ => True) (.slice B x.f5.length c') x.f5 ∧ Below w.heap.size w w' := by
  have hx : x = (parseV (fvN 17) s).1 := by rw [show parseV (fvN 17) s = (x, e) from h]
  have he : e = (parseV (fvN 17) s).2 := by rw [show parseV (fvN 17) s = (x, e) from h]
  subst hx he
  refine (json_calls s w hT).mono fun E w' ⟨v, h1, ⟨cs, h2, h3⟩, h4⟩ => ?_
  obtain ⟨v6, v7, rfl, g6, g7⟩ := k28_openM h3
  obtain ⟨A, c, rfl, hl6, h6⟩ := Kd.R_reads g6
  obtain ⟨B, c', rfl, hl7, h7⟩ := Kd.R_reads g7
  exact ⟨A, c, B, c', by rw [h1, h2], ⟨rfl, hl6, h6, rfl, hl7, h7⟩, Kd.R_mono g7 (fun _ _ => trivial), h4⟩
theorem find_calls (x : S28) (key : ByteArray) (h5 : x.f0 = 5) (v6 v7 : Value) (base : Nat) (w : World) (hR : Kd.string.R 9 w base (fun _ => True) v7 x.f5) (hl : x.f5.length ≤ 1000000) :
    Calls Tryz.prog 33 #[.agg #[.int .i64 x.f0, .bool x.f1, .bool x.f2.f0, .string x.f2.f1, .int .i64 x.f2.f2, .string x.f3, v6, v7], .string key] w fun e w' => e = .returned (.tuple #[.int .i64 (pos x.f5 key : Nat), .bool (has x.f5 key)]) ∧ Below w.heap.size w w' := by
  have h5b : (x.f0 != 5) = false := by simp [h5]
  have hal := fun o => below_alloc (Below.refl w.heap.size w) o
  have HA := Lib.hid hal
  have HS := Lib.hid (fun o => search_calls key (Kd.R_below hR (hal o)) hl)
  obtain ⟨A, c, rfl⟩ := Kd.R_slice hR
  clear hR hal h5 hl
  go_enter Tryz.func33, Tryz.ntmps33
  go_wp2_with fail
  refine (HS.out _).mono ?_
  rintro E w1 ⟨rfl, q, rfl⟩
  go_wp2_with fail
  go_ret2
  exact ⟨rfl, pw_below_drewN (HA.out _) _⟩
end Js
end Go.Proofs.YtapcpndplnkfjaaGreatDoor
namespace Go.Proofs.YtapcpndplnkfjaaGreatDoor.Pr
open Go.RowKit Go.Proofs.YtapcpndplnkfjaaGreatDoorW.PrintWords Go.Proofs.YtapcpndplnkfjaaGreatDoorW.PrintLast Go.Proofs.YtapcpndplnkfjaaGreatDoorW.PrintMore
attribute [local go_sem] max2_int min2_int max_two min_two max_three min_three max_four min_four
set_option linter.unusedVariables false
set_option linter.unusedSimpArgs false
end Go.Proofs.YtapcpndplnkfjaaGreatDoor.Pr
namespace Go.Proofs.YtapcpndplnkfjaaGreatDoor.Pr
open Go.RowKit Go.Proofs.YtapcpndplnkfjaaGreatDoorW.PrintWords Go.Proofs.YtapcpndplnkfjaaGreatDoorW.PrintLast Go.Proofs.YtapcpndplnkfjaaGreatDoorW.PrintMore
attribute [local go_sem] max2_int min2_int max_two min_two max_three min_three max_four min_four
set_option linter.unusedVariables false
set_option linter.unusedSimpArgs false
end Go.Proofs.YtapcpndplnkfjaaGreatDoor.Pr
namespace Go.Proofs.YtapcpndplnkfjaaGreatDoor.Pr
open Go.RowKit Go.Proofs.YtapcpndplnkfjaaGreatDoorW.PrintWords Go.Proofs.YtapcpndplnkfjaaGreatDoorW.PrintLast Go.Proofs.YtapcpndplnkfjaaGreatDoorW.PrintMore
attribute [local go_sem] max2_int min2_int max_two min_two max_three min_three max_four min_four
set_option linter.unusedVariables false
set_option linter.unusedSimpArgs false
end Go.Proofs.YtapcpndplnkfjaaGreatDoor.Pr
namespace Go.Proofs.YtapcpndplnkfjaaGreatDoor.Pr
open Go.RowKit Go.Proofs.YtapcpndplnkfjaaGreatDoorW.PrintWords Go.Proofs.YtapcpndplnkfjaaGreatDoorW.PrintLast Go.Proofs.YtapcpndplnkfjaaGreatDoorW.PrintMore
attribute [local go_sem] max2_int min2_int max_two min_two max_three min_three max_four min_four
set_option linter.unusedVariables false
set_option linter.unusedSimpArgs false
end Go.Proofs.YtapcpndplnkfjaaGreatDoor.Pr
namespace Go.Proofs.YtapcpndplnkfjaaGreatDoor
open Go.RowKit Go.Proofs.YtapcpndplnkfjaaGreatDoorW.PrintWords Pr
theorem w1 (i n : Nat) (h : i ≤ n) (hn : n ≤ 1000000000000000000) : wrap64 ((i : Int) + 1) = ((i + 1 : Nat) : Int) := by unfold wrap64; omega
end Go.Proofs.YtapcpndplnkfjaaGreatDoor
namespace Go.Proofs.YtapcpndplnkfjaaGreatDoor
open Go.RowKit Go.Proofs.YtapcpndplnkfjaaGreatDoorW.PrintWords Pr
end Go.Proofs.YtapcpndplnkfjaaGreatDoor
namespace Go.Proofs.YtapcpndplnkfjaaGreatDoor
open Go.RowKit Go.Proofs.YtapcpndplnkfjaaGreatDoorW.PrintWords Pr
end Go.Proofs.YtapcpndplnkfjaaGreatDoor
namespace Go.Proofs.YtapcpndplnkfjaaGreatDoor
open Go.RowKit Go.Proofs.YtapcpndplnkfjaaGreatDoorW.PrintWords Go.Proofs.YtapcpndplnkfjaaGreatDoorW.PrintLast Go.Proofs.YtapcpndplnkfjaaGreatDoorW.PrintMore
set_option linter.unusedVariables false
set_option linter.unusedSimpArgs false
namespace Js
theorem compare_ne (x y : S28) (hne : x.f0 ≠ y.f0) (A A' B B' : Option Addr) (n n' m m' c c' d d' : Nat) (w : World) :
    Calls Tryz.prog 28 #[.agg #[.int .i64 x.f0, .bool x.f1, .bool x.f2.f0, .string x.f2.f1, .int .i64 x.f2.f2, .string x.f3, .slice A n c, .slice B m d], .agg #[.int .i64 y.f0, .bool y.f1, .bool y.f2.f0, .string y.f2.f1, .int .i64 y.f2.f2, .string y.f3, .slice A' n' c', .slice B' m' d']] w
      fun e w' => e = .returned (.int .i64 (Lib.compareInt x.f0 y.f0)) ∧ Below w.heap.size w w' := by
  have h1 : (x.f0 != y.f0) = true := by simpa using hne
  have h2 : (x.f0 == y.f0) = false := by simpa using hne
  clear hne
  go_enter Tryz.func28, Tryz.ntmps28
  go_wp2_with fail
  refine (Tryz.cmp_Compare_int _ _ _).mono ?_
  rintro E w1 ⟨rfl, rfl⟩
  go_wp2_with fail
  go_ret
  exact ⟨rfl, below_alloc (below_alloc (Below.refl _ _) _) _⟩
end Js
end Go.Proofs.YtapcpndplnkfjaaGreatDoor
namespace Go.Proofs.YtapcpndplnkfjaaGreatDoor
open Go.RowKit Go.Proofs.YtapcpndplnkfjaaGreatDoorW.PrintWords Go.Proofs.YtapcpndplnkfjaaGreatDoorW.PrintLast Go.Proofs.YtapcpndplnkfjaaGreatDoorW.PrintMore
set_option linter.unusedVariables false
set_option linter.unusedSimpArgs false
namespace Js
structure JTabs (w : World) : Prop where
  t : Tabs w
  p : PTabs w
theorem JTabs.below {w w' : World} (h : JTabs w) (hb : Below w.heap.size w w') : JTabs w' := ⟨h.t.below hb, h.p.below hb⟩
def A1 : List UInt8 := [32, 123, 34, 98, 34, 58, 49, 46, 48, 44, 32, 34, 97, 34, 58, 91, 93, 125]
def A2 : List UInt8 := [34, 92, 117, 48, 48, 101, 57, 92, 117, 100, 56, 51, 100, 92, 117, 100, 101, 48, 48, 92, 110, 34]
def A3 : List UInt8 := [91, 49, 44, 93]
def A4 : List UInt8 := [123, 34, 97, 34, 58, 49, 44, 34, 97, 34, 58, 50, 125]
theorem e1_ : (pv A1).2 = 0 := by decide +kernel
theorem k1_ : (pv A1).1.f0 = 5 := by decide +kernel
theorem t1_ : txF 3 (pv A1).1 = some [123, 34, 97, 34, 58, 91, 93, 44, 34, 98, 34, 58, 49, 125] := by decide +kernel
theorem f1_ : pos (pv A1).1.f5 ⟨#[98]⟩ = 1 ∧ has (pv A1).1.f5 ⟨#[98]⟩ = true ∧ (pv A1).1.f5.length ≤ 1000000 := by decide +kernel
theorem e2_ : (pv A2).2 = 0 := by decide +kernel
theorem k2_ : (pv A2).1.f0 = 3 ∧ (pv A2).1.f3.data.toList = [195, 169, 240, 159, 152, 128, 10] := by decide +kernel
theorem t2_ : txF 3 (pv A2).1 = some [34, 195, 169, 240, 159, 152, 128, 92, 117, 48, 48, 48, 97, 34] := by decide +kernel
theorem e3_ : (pv A3).2 = 11 := by decide +kernel
theorem e4_ : (pv A4).2 = 31 := by decide +kernel
set_option maxRecDepth 100000 in
set_option maxHeartbeats 4000000 in
theorem awake15_calls (w : World) (hT : JTabs w) : Calls Tryz.prog 29 #[] w fun e w' => e = .returned (.bool true) ∧ Below w.heap.size w w' := by
  have HT := Lib.hid hT
  obtain ⟨X, hX⟩ : ∃ X, X = (pv A1).1 := ⟨_, rfl⟩
  obtain ⟨Y, hY⟩ : ∃ Y, Y = (pv A2).1 := ⟨_, rfl⟩
  obtain ⟨Z, hZ⟩ : ∃ Z, Z = (pv A3).1 := ⟨_, rfl⟩
  obtain ⟨V, hV⟩ : ∃ V, V = (pv A4).1 := ⟨_, rfl⟩
  have H1 : Hid (pv A1 = (X, 0)) := Lib.hid (by rw [hX, ← e1_])
  have H2 : Hid (pv A2 = (Y, 0)) := Lib.hid (by rw [hY, ← e2_])
  have H3 : Hid (pv A3 = (Z, 11)) := Lib.hid (by rw [hZ, ← e3_])
  have H4 : Hid (pv A4 = (V, 31)) := Lib.hid (by rw [hV, ← e4_])
  have HX5 : Hid (X.f0 = 5) := Lib.hid (by rw [hX]; exact k1_)
  have HXT : Hid (txF 3 X = some [123, 34, 97, 34, 58, 91, 93, 44, 34, 98, 34, 58, 49, 125]) := Lib.hid (by rw [hX]; exact t1_)
  have HXF : Hid (pos X.f5 ⟨#[98]⟩ = 1 ∧ has X.f5 ⟨#[98]⟩ = true ∧ X.f5.length ≤ 1000000) := Lib.hid (by rw [hX]; exact f1_)
  have HY3 : Hid (Y.f0 = 3 ∧ Y.f3.data.toList = [195, 169, 240, 159, 152, 128, 10]) := Lib.hid (by rw [hY]; exact k2_)
  have HYT : Hid (txF 3 Y = some [34, 195, 169, 240, 159, 152, 128, 92, 117, 48, 48, 48, 97, 34]) := Lib.hid (by rw [hY]; exact t2_)
  clear hT hX hY hZ hV
  go_enter Tryz.func29, Tryz.ntmps29
  go_wp2_with fail
  refine (jparseR A1 w HT.out.t X 0 H1.out).mono ?_
  rintro E w1 ⟨A, c, B, c', rfl, hJ, hR, hB⟩
  have HJ := Lib.hid hJ
  have HR := Lib.hid hR
  have HB1 := Lib.hid (below_alloc hB (.cells #[.int .i64 X.f0, .bool X.f1, .bool X.f2.f0, .string X.f2.f1, .int .i64 X.f2.f2, .string X.f3, .slice A X.f4.length c, .slice B X.f5.length c'] 28))
  have HK1 := Lib.hid (blk_new w1 (.cells #[.int .i64 X.f0, .bool X.f1, .bool X.f2.f0, .string X.f2.f1, .int .i64 X.f2.f2, .string X.f3, .slice A X.f4.length c, .slice B X.f5.length c'] 28))
  have HW1 := Lib.hid (below_alloc (Below.refl w1.heap.size w1) (.cells #[.int .i64 X.f0, .bool X.f1, .bool X.f2.f0, .string X.f2.f1, .int .i64 X.f2.f2, .string X.f3, .slice A X.f4.length c, .slice B X.f5.length c'] 28))
  clear hJ hR hB
  go_wp2_with fail
  refine (jparseR A2 _ (HT.out.below HB1.out).t Y 0 H2.out).mono ?_
  rintro E w2 ⟨A', d, B', d', rfl, hJ, hR, hB⟩
  have HJY := Lib.hid hJ
  have HB2 := Lib.hid (below_alloc (HB1.out.trans (hB.mono HB1.out.size)) (.cells #[.int .i64 Y.f0, .bool Y.f1, .bool Y.f2.f0, .string Y.f2.f1, .int .i64 Y.f2.f2, .string Y.f3, .slice A' Y.f4.length d, .slice B' Y.f5.length d'] 28))
  have HK2 := Lib.hid (blk_new w2 (.cells #[.int .i64 Y.f0, .bool Y.f1, .bool Y.f2.f0, .string Y.f2.f1, .int .i64 Y.f2.f2, .string Y.f3, .slice A' Y.f4.length d, .slice B' Y.f5.length d'] 28))
  have HK1 := Lib.hid (blk_alloc (thru HK1.out hB) (.cells #[.int .i64 Y.f0, .bool Y.f1, .bool Y.f2.f0, .string Y.f2.f1, .int .i64 Y.f2.f2, .string Y.f3, .slice A' Y.f4.length d, .slice B' Y.f5.length d'] 28))
  have hw12 := HW1.out.trans (hB.mono HW1.out.size)
  have HW1 := Lib.hid (hw12.trans ((below_alloc (Below.refl w2.heap.size w2) (.cells #[.int .i64 Y.f0, .bool Y.f1, .bool Y.f2.f0, .string Y.f2.f1, .int .i64 Y.f2.f2, .string Y.f3, .slice A' Y.f4.length d, .slice B' Y.f5.length d'] 28)).mono hw12.size))
  have HW2 := Lib.hid (below_alloc (Below.refl w2.heap.size w2) (.cells #[.int .i64 Y.f0, .bool Y.f1, .bool Y.f2.f0, .string Y.f2.f1, .int .i64 Y.f2.f2, .string Y.f3, .slice A' Y.f4.length d, .slice B' Y.f5.length d'] 28))
  clear hJ hR hB hw12
  go_wp2_with fail
  refine (jparseR A3 _ (HT.out.below HB2.out).t Z 11 H3.out).mono ?_
  rintro E w3 ⟨A3', d3, B3', d3', rfl, hJ, hR, hB⟩
  have HB3 := Lib.hid (HB2.out.trans (hB.mono HB2.out.size))
  have HK1 := Lib.hid (thru HK1.out hB)
  have HK2 := Lib.hid (thru HK2.out hB)
  have HW1 := Lib.hid (HW1.out.trans (hB.mono HW1.out.size))
  have HW2 := Lib.hid (HW2.out.trans (hB.mono HW2.out.size))
  clear hJ hR hB
  go_wp2_with fail
  have ha3 := fun o => below_alloc (Below.refl w3.heap.size w3) o
  have HA3 := Lib.hid ha3
  clear ha3
  refine (jparseR A4 _ (HT.out.below (HB3.out.trans ((HA3.out _).mono HB3.out.size))).t V 31 H4.out).mono ?_
  rintro E w4 ⟨A4', d4, B4', d4', rfl, hJ, hR, hB⟩
  have hB := (HA3.out _).trans (hB.mono (HA3.out _).size)
  have HB4 := Lib.hid (HB3.out.trans (hB.mono HB3.out.size))
  have HK1 := Lib.hid (thru HK1.out hB)
  have HK2 := Lib.hid (thru HK2.out hB)
  have HW1 := Lib.hid (HW1.out.trans (hB.mono HW1.out.size))
  have HW2 := Lib.hid (HW2.out.trans (hB.mono HW2.out.size))
  clear hJ hR hB HA3
  have ha4 := fun o => below_alloc (Below.refl w4.heap.size w4) o
  have HA4 := Lib.hid ha4
  obtain ⟨p0, p1, p2, p3, p4, p5, p6, p7⟩ := eight (HK1.out)
  have hlt1 : w1.heap.size < w4.heap.size := blk_lt HK1.out
  clear ha4
  go_wp2_with fail
  have hR5 := Kd.R_below HR.out (HW1.out.trans ((HA4.out (.cells #[.int .i64 V.f0, .bool V.f1, .bool V.f2.f0, .string V.f2.f1, .int .i64 V.f2.f2, .string V.f3, .slice A4' V.f4.length d4, .slice B4' V.f5.length d4'] 28)).mono HW1.out.size))
  refine (find_calls X ⟨#[98]⟩ HX5.out _ _ _ _ hR5 HXF.out.2.2).mono ?_
  rintro E w5 ⟨rfl, hB⟩
  rw [HXF.out.1, HXF.out.2.1]
  have hB := (HA4.out _).trans (hB.mono (HA4.out _).size)
  have HB5 := Lib.hid (HB4.out.trans (hB.mono HB4.out.size))
  have HK1 := Lib.hid (thru HK1.out hB)
  have HK2 := Lib.hid (thru HK2.out hB)
  have HW1 := Lib.hid (HW1.out.trans (hB.mono HW1.out.size))
  have HW2 := Lib.hid (HW2.out.trans (hB.mono HW2.out.size))
  clear hB hR5 HA4 p0 p1 p2 p3 p4 p5 p6 p7 hlt1
  obtain ⟨p0, p1, p2, p3, p4, p5, p6, p7⟩ := eight (HK1.out)
  go_wp2_with fail
  refine (jtext_calls 3 X _ HXT.out A B c c' w5 (HT.out.below HB5.out).p (HJ.out.below HW1.out)).mono ?_
  rintro E w6 ⟨rfl, hB⟩
  have HB6 := Lib.hid (HB5.out.trans (hB.mono HB5.out.size))
  have HK1 := Lib.hid (thru HK1.out hB)
  have HK2 := Lib.hid (thru HK2.out hB)
  have HW1 := Lib.hid (HW1.out.trans (hB.mono HW1.out.size))
  have HW2 := Lib.hid (HW2.out.trans (hB.mono HW2.out.size))
  clear hB p0 p1 p2 p3 p4 p5 p6 p7
  obtain ⟨p0, p1, p2, p3, p4, p5, p6, p7⟩ := eight (HK2.out)
  have hg1 : ((ofL [123, 34, 97, 34, 58, 91, 93, 44, 34, 98, 34, 58, 49, 125]).toList == [123, 34, 97, 34, 58, 91, 93, 44, 34, 98, 34, 58, 49, 125]) = true := by rw [ofL_toList]; exact beq_self_eq_true _
  have hg2 : (Y.f3.toList == [195, 169, 240, 159, 152, 128, 10]) = true := by rw [ByteArray.toList_eq, HY3.out.2]; exact beq_self_eq_true _
  go_wp2_with fail
  refine (jtext_calls 3 Y _ HYT.out A' B' d d' w6 (HT.out.below HB6.out).p (HJY.out.below HW2.out)).mono ?_
  rintro E w7 ⟨rfl, hB⟩
  have HB7 := Lib.hid (HB6.out.trans (hB.mono HB6.out.size))
  have HK1 := Lib.hid (thru HK1.out hB)
  have HK2 := Lib.hid (thru HK2.out hB)
  have hg4 : ((ofL [34, 195, 169, 240, 159, 152, 128, 92, 117, 48, 48, 48, 97, 34]).toList == [34, 195, 169, 240, 159, 152, 128, 92, 117, 48, 48, 48, 97, 34]) = true := by rw [ofL_toList]; exact beq_self_eq_true _
  clear hB p0 p1 p2 p3 p4 p5 p6 p7 hg1 hg2
  obtain ⟨p0, p1, p2, p3, p4, p5, p6, p7⟩ := eight (HK1.out)
  obtain ⟨q0, q1, q2, q3, q4, q5, q6, q7⟩ := eight (HK2.out)
  go_wp2_with fail
  refine (compare_ne X Y (by rw [HX5.out, HY3.out.1]; decide) A A' B B' _ _ _ _ c d c' d' w7).mono ?_
  rintro E w8 ⟨rfl, hB⟩
  have HB8 := Lib.hid (HB7.out.trans (hB.mono HB7.out.size))
  rw [show Lib.compareInt X.f0 Y.f0 = 1 by rw [HX5.out, HY3.out.1]; rfl]
  clear hB p0 p1 p2 p3 p4 p5 p6 p7 q0 q1 q2 q3 q4 q5 q6 q7
  go_wp2_with fail
  go_ret
  exact ⟨rfl, HB8.out⟩
end Js
end Go.Proofs.YtapcpndplnkfjaaGreatDoor
namespace Go.Proofs.YtapcpndplnkfjaaGreatDoor
open Go.RowKit Go.Proofs.YtapcpndplnkfjaaGreatDoorW.PrintWords Go.Proofs.YtapcpndplnkfjaaGreatDoorW.PrintLast Go.Proofs.YtapcpndplnkfjaaGreatDoorW.PrintMore
set_option linter.unusedVariables false
set_option linter.unusedSimpArgs false
namespace Js
def nestT : Nat → List UInt8 | 0 => [] | n + 1 => 91 :: nestT n ++ [93]
theorem nestT_len : ∀ n, (nestT n).length = 2 * n
  | 0 => rfl
  | n + 1 => by simp [nestT, nestT_len n]; omega
theorem nest_e (n : Nat) (h : n < 30) : (pv (nestT n)).2 = if n = 0 then 11 else if n ≤ 16 then 0 else 35 := by
  have : ∀ n : Fin 30, (pv (nestT n.val)).2 = if n.val = 0 then 11 else if n.val ≤ 16 then 0 else 35 := by decide +kernel
  exact this ⟨n, h⟩
def wideT (m : Nat) : List UInt8 := List.replicate (m - 1) 32 ++ [49]
theorem wide_e (k : Nat) (h : k < 12) : (pv (wideT (4090 + k))).2 = if k ≤ 6 then 0 else 13 := by
  have : ∀ k : Fin 12, (pv (wideT (4090 + k.val))).2 = if k.val ≤ 6 then 0 else 13 := by decide +kernel
  exact this ⟨k, h⟩
set_option maxRecDepth 100000 in
set_option maxHeartbeats 2000000 in
theorem deep_calls (d u : Int) (hd : 0 ≤ d ∧ d < 256) (hu : 0 ≤ u ∧ u < 65536) (w : World) (hT : JTabs w) : Calls Tryz.prog 12 #[.int .u8 d, .int .u16 u] w fun e w' => e = .returned (.bool true) ∧ Below w.heap.size w w' := by
  have HT := Lib.hid hT
  obtain ⟨hd0, hd1⟩ := hd
  obtain ⟨hu0, hu1⟩ := hu
  obtain ⟨n, hnd⟩ : ∃ n : Nat, d % 30 = (n : Int) := ⟨(d % 30).toNat, by omega⟩
  obtain ⟨k, hku⟩ : ∃ k : Nat, u % 12 = (k : Int) := ⟨(u % 12).toNat, by omega⟩
  have hn30 : n < 30 := by omega
  have hk12 : k < 12 := by omega
  clear hT
  go_enter Tryz.func12, Tryz.ntmps12
  go_wp2_with fail
  refine (awake15_calls _ HT.out).mono ?_
  rintro E w1 ⟨rfl, hB⟩
  have HB1 := Lib.hid hB
  clear hB
  go_wp2_with fail
  go_loopw [7, 8] (fun v7 vi wr => ∃ (j : Nat), j ≤ n ∧ v7 = .string (ofL (nestT j)) ∧ vi = .int .i64 j ∧ Hid (wr = w1)) (fun v7 vi _ => n - (intOf vi).toNat)
  case atStart => exact ⟨0, by omega, rfl, rfl, Lib.hid rfl⟩
  case round =>
    obtain ⟨j, hj, rfl, rfl, HW⟩ := hrel
    obtain rfl := HW.out
    by_cases hjn : j < n
    · have hz1 : (ofL (nestT j)).size = 2 * j := by rw [ofL_size, nestT_len]
      have hz2 : (ofL (91 :: nestT j)).size = 2 * j + 1 := by rw [ofL_size, List.length_cons, nestT_len]
      have hS1 : (⟨#[91]⟩ : ByteArray) ++ ofL (nestT j) = ofL (91 :: nestT j) := ofL_app [91] _
      have hS2 : ofL (91 :: nestT j) ++ (⟨#[93]⟩ : ByteArray) = ofL (nestT (j + 1)) := ofL_app (91 :: nestT j) [93]
      have hj60 : 2 * j ≤ 60 := by omega
      go_wp2_with fail
      exact ⟨⟨j + 1, by omega, rfl, by simp, Lib.hid trivial⟩, by simp [intOf]; omega⟩
    · have : j = n := by omega
      subst this
      obtain ⟨X, hX⟩ : ∃ X, X = (pv (nestT j)).1 := ⟨_, rfl⟩
      obtain ⟨e, he⟩ : ∃ e, e = (pv (nestT j)).2 := ⟨_, rfl⟩
      have HP : Hid (pv (nestT j) = (X, e)) := Lib.hid (by rw [hX, he])
      have HE : Hid (e = if j = 0 then 11 else if j ≤ 16 then 0 else 35) := Lib.hid (by rw [he]; exact nest_e j hn30)
      clear hX he
      go_wp2_with fail
      refine (jparseR (nestT j) _ (HT.out.below HB1.out).t X e HP.out).mono ?_
      rintro E w2 ⟨A, c, B, c', rfl, hJ, hR, hB⟩
      have HB2 := Lib.hid (below_alloc (HB1.out.trans (hB.mono HB1.out.size)) (.cells #[.int .i64 X.f0, .bool X.f1, .bool X.f2.f0, .string X.f2.f1, .int .i64 X.f2.f2, .string X.f3, .slice A X.f4.length c, .slice B X.f5.length c'] 28))
      clear hJ hR hB
      obtain ⟨m, hm⟩ : ∃ m : Nat, m = 4090 + k := ⟨_, rfl⟩
      have hma : wrap64 ((4090 : Int) + (k : Int)) = (m : Int) := by unfold wrap64; omega
      have hma2 : (4090 : Int) + (k : Int) = (m : Int) := by omega
      have hmt : ((4090 : Int) + (k : Int)).toNat = m := by omega
      have hmb : m ≤ 4101 := by omega
      have hm0 : 4090 ≤ m := by omega
      have HBB : Hid (w2.heap.size + 1 ≤ (w2.alloc (.cells #[.int .i64 X.f0, .bool X.f1, .bool X.f2.f0, .string X.f2.f1, .int .i64 X.f2.f2, .string X.f3, .slice A X.f4.length c, .slice B X.f5.length c'] 28)).heap.size ∧ w.heap.size ≤ w2.heap.size + 1) := Lib.hid ⟨by simp, by have := HB2.out.size; simpa using this⟩
      have HMT := Lib.hid hmt
      have HM2 := Lib.hid hma2
      have HM := Lib.hid hm
      clear hma2 hmt hm
      go_wp2_with (first | (refine Kd.R_make (Kd.int .u8) (w0 := _) (w2.heap.size + 1) 5 rfl rfl 38 (.tmp 39) (.tmp 39) rfl (4090 + (k : Int)) rfl rfl Tryz.underlying38 (.int .u8 0) 1 ct_info5 rfl (by decide) (by decide) 0 (ok := fun _ => True) (okp := fun _ => False) rfl (fun _ hk => hk.elim) trivial (by omega) (by omega) (Below.refl _ _) HBB.out.1 ?_; intro v9 wa hR9 hB9 hga hat))
      rw [HMT.out] at hR9
      obtain ⟨g, cap, rfl, hg0, hg1, cells, hcells⟩ := Kd.R_form hR9 (by simp; omega)
      rw [List.length_replicate] at hR9 ⊢
      have HBA := Lib.hid (HB2.out.trans ((show Below _ _ wa from hB9).mono HBB.out.2))
      have HR := Lib.hid hR9
      have HG := Lib.hid (show w.heap.size ≤ g from Nat.le_trans HBB.out.2 hg0)
      have hmi : (4090 : Int) + (k : Int) = (m : Int) := HM2.out
      obtain ⟨b0, hb0⟩ : ∃ b0, b0 = w2.heap.size + 1 := ⟨_, rfl⟩
      rw [← hb0] at HR
      clear hR9 hB9 hga hat hg0 hg1 hcells cells hb0 HBB HB2
      have HMI := Lib.hid hmi
      clear hmi
      go_loopw [13] (fun vi wr => ∃ (i : Nat), i ≤ m ∧ vi = .int .i64 i ∧ Hid (Kd.R (Kd.int .u8) 5 wr b0 (fun _ => True) (.slice (some ⟨g, 0, none⟩) m cap) (List.replicate i 32 ++ List.replicate (m - i) 0)) ∧ Hid (Below w.heap.size w wr)) (fun vi _ => m - (intOf vi).toNat)
      case atStart => exact ⟨0, by omega, rfl, Lib.hid (by simpa using HR.out), HBA⟩
      case round =>
        clear HR HBA
        obtain ⟨i, hi, rfl, HR, HBA⟩ := hrel
        by_cases him : i < m
        · have hlt : (i : Int) < 4090 + (k : Int) := by rw [HMI.out]; omega
          have hcn := Kd.R_celln (0 : Int) HR.out (i : Int) (by omega) (by omega)
          have hp := Kd.R_putg HR.out (i : Int) (32 : Int)
          simp only [Int.toNat_natCast] at hcn hp
          obtain ⟨hcell, hfz⟩ := hcn
          have hset : (List.replicate i (32 : Int) ++ List.replicate (m - i) 0).set i 32 = List.replicate (i + 1) 32 ++ List.replicate (m - (i + 1)) 0 := by
            obtain ⟨q, hq⟩ : ∃ q, m - i = q + 1 := ⟨m - i - 1, by omega⟩
            rw [hq, show m - (i + 1) = q by omega, List.replicate_succ, List.set_append_right _ _ (by simp)]
            simp [List.replicate_succ', List.append_assoc]
          rw [hset] at hp
          have HP := Lib.hid hp.1
          have HB5 := Lib.hid (fun v => HBA.out.setCell (p := ⟨g, i, none⟩) HG.out v)
          have hcl : m ≤ cap := (Kd.R_reads' HR.out).2.1
          clear hp hset HR
          go_wp2_with fail
          exact ⟨⟨i + 1, by omega, by simp, HP, Lib.hid (HB5.out _)⟩, by simp [intOf]; omega⟩
        · have : i = m := by omega
          subst this
          obtain ⟨m1, hm1⟩ : ∃ m1, i = m1 + 1 := ⟨i - 1, by omega⟩
          have hge : ¬ (i : Int) < 4090 + (k : Int) := by rw [HMI.out]; omega
          have HR := Lib.hid (show Kd.R (Kd.int .u8) 5 wr b0 (fun _ => True) (.slice (some ⟨g, 0, none⟩) i cap) (List.replicate i 32) by have := HR.out; simpa using this)
          have hcn := Kd.R_celln (0 : Int) HR.out (m1 : Int) (by omega) (by omega)
          have hp := Kd.R_putg HR.out (m1 : Int) (49 : Int)
          simp only [Int.toNat_natCast] at hcn hp
          obtain ⟨hcell, hfz⟩ := hcn
          have hset : (List.replicate i (32 : Int)).set m1 49 = List.replicate m1 32 ++ [49] := by
            rw [hm1, List.replicate_succ', List.set_append_right _ _ (by simp)]; simp
          rw [hset] at hp
          have HP := Lib.hid (show Kd.R (Kd.int .u8) 5 (wr.setCell ⟨g, m1, none⟩ (.int .u8 49)) b0 (fun _ => True) (.slice (some ⟨g, 0, none⟩) i cap) (List.replicate m1 32 ++ [49]) from hp.1)
          have hcl : i ≤ cap := (Kd.R_reads' HR.out).2.1
          have HB5 := Lib.hid (fun v => HBA.out.setCell (p := ⟨g, m1, none⟩) HG.out v)
          have hws : wrap64 ((4090 : Int) + (k : Int) - 1) = (m1 : Int) := by have := HMI.out; unfold wrap64; omega
          have hm1i : m1 < i := by omega
          have hsub : (4090 : Int) + (k : Int) - 1 = (m1 : Int) := by have := HMI.out; omega
          have HWT : Hid (strOfNums (List.replicate m1 32 ++ [49]) = ofL (wideT i)) := Lib.hid (by
            show ofL ((List.replicate m1 (32 : Int) ++ [49]).map fun x : Int => UInt8.ofNat x.toNat) = _
            unfold wideT
            rw [hm1]; simp)
          have hlen : (List.replicate m1 (32 : Int) ++ [49]).length = i := by simp [hm1]
          have hC := (Kd.R_reads' HP.out).2.2
          have hst : (convert 38 9 (.slice (some ⟨g, 0, none⟩) i cap)).run Tryz.prog (wr.setCell ⟨g, m1, none⟩ (.int .u8 49)) = .ok (.string (ofL (wideT i))) (wr.setCell ⟨g, m1, none⟩ (.int .u8 49)) := by
            have := str_run (wr.setCell ⟨g, m1, none⟩ (.int .u8 49)) (some ⟨g, 0, none⟩) (List.replicate m1 (32 : Int) ++ [49]).length cap _ hC
            rw [hlen, HWT.out] at this
            exact this
          obtain ⟨Y, hY⟩ : ∃ Y, Y = (pv (wideT i)).1 := ⟨_, rfl⟩
          obtain ⟨e2, he2⟩ : ∃ e, e = (pv (wideT i)).2 := ⟨_, rfl⟩
          have HP2 : Hid (pv (wideT i) = (Y, e2)) := Lib.hid (by rw [hY, he2])
          have HE2 : Hid (e2 = if k ≤ 6 then 0 else 13) := Lib.hid (by rw [he2, HM.out]; exact wide_e k hk12)
          have HM1 := Lib.hid hm1
          clear hp hset HR hY he2 hm1 hlen hC
          go_wp2_with fail
          refine (jparseR (wideT i) _ (HT.out.below (HB5.out _)).t Y e2 HP2.out).mono ?_
          rintro E w6 ⟨A5, c5, B5, c5', rfl, hJ, hR, hB⟩
          have HB6 := Lib.hid (below_alloc ((HB5.out _).trans (hB.mono (HB5.out _).size)) (.cells #[.int .i64 Y.f0, .bool Y.f1, .bool Y.f2.f0, .string Y.f2.f1, .int .i64 Y.f2.f2, .string Y.f3, .slice A5 Y.f4.length c5, .slice B5 Y.f5.length c5'] 28))
          have h2 := HE2.out
          have h1 := HE.out
          clear hJ hR hB hst hcell hfz
          clear HE HE2 hge hm1i hsub hws hcl
          by_cases hk6 : k ≤ 6
          · rw [if_pos hk6] at h2
            have hle : (4090 : Int) + (k : Int) ≤ 4096 := by omega
            clear hk6
            subst h2
            by_cases hj0 : j = 0
            · rw [if_pos hj0] at h1
              have hj0' : ((j : Int) == 0) = true := by simp [hj0]
              clear hj0
              subst h1
              go_wp2_with fail
              go_ret
              exact ⟨rfl, HB6.out⟩
            · rw [if_neg hj0] at h1
              have hj0' : ((j : Int) == 0) = false := by simp [hj0]
              by_cases hj16 : j ≤ 16
              · rw [if_pos hj16] at h1
                have hj16' : (j : Int) ≤ 16 := by omega
                clear hj0 hj16
                subst h1
                go_wp2_with fail
                go_ret
                exact ⟨rfl, HB6.out⟩
              · rw [if_neg hj16] at h1
                have hj16' : ¬ (j : Int) ≤ 16 := by omega
                clear hj0 hj16
                subst h1
                go_wp2_with fail
                go_ret
                exact ⟨by show Ending.returned (.bool (!decide ((j : Int) ≤ 16))) = _; rw [decide_eq_false (by omega)]; rfl, HB6.out⟩
          · rw [if_neg hk6] at h2
            have hle : ¬ (4090 : Int) + (k : Int) ≤ 4096 := by omega
            have hgt : (4096 : Int) < (4090 : Int) + (k : Int) := by omega
            clear hk6
            subst h2
            by_cases hj0 : j = 0
            · rw [if_pos hj0] at h1
              have hj0' : ((j : Int) == 0) = true := by simp [hj0]
              clear hj0
              subst h1
              go_wp2_with fail
              go_ret
              exact ⟨rfl, HB6.out⟩
            · rw [if_neg hj0] at h1
              have hj0' : ((j : Int) == 0) = false := by simp [hj0]
              by_cases hj16 : j ≤ 16
              · rw [if_pos hj16] at h1
                have hj16' : (j : Int) ≤ 16 := by omega
                clear hj0 hj16
                subst h1
                go_wp2_with fail
                go_ret
                exact ⟨rfl, HB6.out⟩
              · rw [if_neg hj16] at h1
                have hj16' : ¬ (j : Int) ≤ 16 := by omega
                clear hj0 hj16
                subst h1
                go_wp2_with fail
                go_ret
                exact ⟨by show Ending.returned (.bool (!decide ((j : Int) ≤ 16))) = _; rw [decide_eq_false (by omega)]; rfl, HB6.out⟩
end Js
end Go.Proofs.YtapcpndplnkfjaaGreatDoor
namespace Go.Proofs.YtapcpndplnkfjaaGreatDoor
open Go.ChangeShapes Go.WideShapes Go.ChangeAt Go.RowKit Go.Lib
namespace Frame
theorem own : ownKnob Tryz.prog.godebug = none := by kernel_rfl
theorem plainLaid {W : World} {l : List (String × DataW Unit)} (h : laidMetH Tryz.prog l W) (hh : (l.all fun x => x.2.handleName?.isNone) = true) : laidMet Tryz.prog l W := by
  have h1 := (laidMetH_iff.1 h).1
  rwa [List.filter_eq_self.2 (fun x hx => List.all_eq_true.1 hh x hx)] at h1
theorem tabsOf {W : World} {l : List (String × DataW Unit)} (h : laidMet Tryz.prog l W) (h1 : ("unicode/utf8.first", Rows.laid_unicode_utf8_first) ∈ l) (h2 : ("unicode/utf8.acceptRanges", Rows.laid_unicode_utf8_acceptRanges) ∈ l) (h3 : ("unicode.CaseRanges", Rows.laid_unicode_CaseRanges) ∈ l) : Js.Tabs W := by
  have e1 : Rows.laid_unicode_utf8_first = firstData := Pinned.utf8First_eq
  have e3 : Rows.laid_unicode_CaseRanges = caseData := Pinned.caseRanges_eq
  have e2 : (Rows.laid_unicode_utf8_acceptRanges : DataW Unit) = acceptData := by kernel_rfl
  rw [e1] at h1
  rw [e2] at h2
  rw [e3] at h3
  exact ⟨utf8Tabs_of_reads Tryz.lays260 ⟨by kernel_rfl, by kernel_rfl, by kernel_rfl, by kernel_rfl, by kernel_rfl, by kernel_rfl, by kernel_rfl⟩ (laidMet.reads h h1) (laidMet.reads h h2),
    caseVar_of_reads (ρ := Tryz.lays159_ren) { Tryz.lays159 with } (by kernel_rfl) ⟨by kernel_rfl, by kernel_rfl, by kernel_rfl, by kernel_rfl, by kernel_rfl, by kernel_rfl⟩ (laidMet.reads h h3)⟩
theorem gPow : (Tryz.prog.globals[4]?).map (·.type) = some 195 := by kernel_rfl
theorem cArr : Tryz.prog.cellsOf 195 = 20 := by kernel_rfl
theorem cElt : Tryz.prog.cellsOf 89 = 1 := by kernel_rfl
theorem tabs {W : World} (h : laidMetH Tryz.prog Rows.jsonDeepRow.laid W) : Js.JTabs W := by
  have h2 := plainLaid h (by kernel_rfl)
  exact ⟨tabsOf h2 (.tail _ (.tail _ (.tail _ (.tail _ (.tail _ (.head _)))))) (.tail _ (.tail _ (.tail _ (.head _)))) (.tail _ (.tail _ (.tail _ (.tail _ (.head _))))),
    Lib.tabIs_of_head (name := "internal/strconv.uint64pow10") (k := .u64) (zs := Lib.pow10Tab) (g := 4) (t := 195) (e := 89) (n := 20) gPow10 gPow Tryz.underlying195 Tryz.underlying89 cElt cArr (laidMet.tail (laidMet.tail h2))⟩
noncomputable def laidWorld (os : Os) : World := World.laidAll Tryz.prog os Rows.jsonDeepRow.laid
theorem met (os : Os) (args : Array Value) : laidMet Tryz.prog Rows.jsonDeepRow.laid ((laidWorld os).forCall (fun _ _ => 0) ⟨#[], args, []⟩).memory :=
  laidMet_laidAll _ (by kernel_rfl) (by kernel_rfl)
theorem shaped (os : Os) (args : Array Value) : ((laidWorld os).forCall (fun _ _ => 0) ⟨#[], args, []⟩).Shaped Tryz.checked.prog := World.shaped_of_ZipB (by kernel_rfl) (by kernel_rfl)
theorem witness {H : Type} {enc : TypeId × Value → H} {os : Os} {f : FuncId} {fn : Func} {s : OpenSpec} {conds : List PathCond} {apart : Bool} {laid : List (String × DataW Unit)} (modest : Bool) (args : Array Value)
    (hok : Input.okWideB Tryz.checked.prog ((laidWorld os).forCall (fun _ _ => 0) ⟨#[], args, []⟩) f ⟨#[], args, []⟩ = true)
    (hrow : s.preRow enc Tryz.checked.prog fn conds apart laid ((laidWorld os).forCall (fun _ _ => 0) ⟨#[], args, []⟩).memory args) :
    ∃ (w : World) (tape : Tape) (i : Input), w.os = os ∧ (w.forCall tape i).Shaped Tryz.checked.prog ∧ i.vars = [] ∧ Input.okWide Tryz.checked.prog (w.forCall tape i) .any w.heap.size f i ∧
      s.preRow enc Tryz.checked.prog fn conds apart laid (w.forCall tape i).memory i.args ∧ ({ modest := modest } : Assume).holds Tryz.checked.prog (lone (Go.Frame.enter Tryz.checked.prog f i.args .normal) [] (w.forCall tape i)) :=
  ⟨laidWorld os, fun _ _ => 0, ⟨#[], args, []⟩, World.laidAll_os _ _ _, shaped os args, (Input.okWide_of_okWideB (base := 0) hok).1, (Input.okWide_of_okWideB hok).2, hrow, by
    simp only [Assume.holds]
    exact ⟨by simp, by simp, fun _ => Modest.zero, by simp, by simp⟩⟩
end Frame
end Go.Proofs.YtapcpndplnkfjaaGreatDoor
namespace Go.Proofs.YtapcpndplnkfjaaGreatDoor
namespace Js
theorem wf8 {n : Int} (h : (Lit.int .u8 n).wf = true) : 0 ≤ n ∧ n < 256 := by
  simp [Lit.wf, IntKind.min, IntKind.max, IntKind.bits, IntKind.signed] at h
  omega
theorem wf16 {n : Int} (h : (Lit.int .u16 n).wf = true) : 0 ≤ n ∧ n < 65536 := by
  simp [Lit.wf, IntKind.min, IntKind.max, IntKind.bits, IntKind.signed] at h
  omega
end Js
end Go.Proofs.YtapcpndplnkfjaaGreatDoor
