/- What the law rests on, part 4: joined by a program of this session (claimx.py). -/
import Derived.Test.YtapcpndplnkfjaaGreatDoorOrderKeysC
set_option linter.unusedVariables false
set_option linter.unusedSimpArgs false
namespace Go.Proofs.YtapcpndplnkfjaaGreatDoor
open Go.RowKit Go.Proofs.YtapcpndplnkfjaaGreatDoorW.PrintWords Go.Proofs.YtapcpndplnkfjaaGreatDoorW.PrintLast Go.Proofs.YtapcpndplnkfjaaGreatDoorW.PrintMore
attribute [local go_sem] max2_int min2_int max_two min_two max_three min_three max_four min_four
mutual
def R5_str.l0 : Nat → ByteArray → ByteArray → Int → Int → Int → Option (ByteArray × ByteArray × Int × Int × Int)
 | 0, _, _, _, _, _ => none
 | k + 1, x3, x1000, x1001, x1002, x1003 => if x1003 = 0 then (if x1001 < (x1000.size : Int) then (if 0 ≤ x1001 then (if x1001 ≤ (x1000.size : Int) then ((R5Long.f k (x1000.extract (x1001 : Int).toNat x1000.size)).bind fun t181 => (R5_str.j1 k x3 t181 x1000 x1001 x1002 x1003)) else (none)) else (none)) else (R5_str.j1 k x3 0 x1000 x1001 x1002 x1003)) else (some ((⟨#[]⟩ : ByteArray), x1000, x1001, x1002, x1003))
def R5_str.j1 : Nat → ByteArray → Int → ByteArray → Int → Int → Int → Option (ByteArray × ByteArray × Int × Int × Int)
 | 0, _, _, _, _, _, _ => none
 | k + 1, x3, x4, x1000, x1001, x1002, x1003 => (R5_peek.f x1000 x1001 x1002 x1003).bind fun bt182 => (if x4 = 0 then (R5_str.j2 k x3 x4 bt182.1 true bt182.2.1 bt182.2.2.1 bt182.2.2.2.1 bt182.2.2.2.2) else (R5_str.j2 k x3 x4 bt182.1 (decide (bt182.1 < 32)) bt182.2.1 bt182.2.2.1 bt182.2.2.2.1 bt182.2.2.2.2))
def R5_str.j2 : Nat → ByteArray → Int → Int → Bool → ByteArray → Int → Int → Int → Option (ByteArray × ByteArray × Int × Int × Int)
 | 0, _, _, _, _, _, _, _, _ => none
 | k + 1, x3, x4, x5, x70, x1000, x1001, x1002, x1003 => if x70 = true then ((R5_fail.f x1000 x1001 x1002 x1003 11).bind fun bt187 => (R5_str.l0 k x3 bt187.1 bt187.2.1 bt187.2.2.1 bt187.2.2.2)) else (if x5 = 34 then (some (x3, x1000, wrap64 (x1001 + 1), x1002, x1003)) else (if x5 = 92 then ((R5_escape.f k x1000 (wrap64 (x1001 + 1)) x1002 x1003).bind fun bt191 => (if x3.size + bt191.1.size ≤ 9223372036854775807 then (R5_str.l0 k (x3 ++ bt191.1) bt191.2.1 bt191.2.2.1 bt191.2.2.2.1 bt191.2.2.2.2) else (none))) else (if 0 ≤ x1001 then (if x1001 ≤ (wrap64 (x1001 + x4)) then (if (wrap64 (x1001 + x4)) ≤ (x1000.size : Int) then (if x3.size + (x1000.extract (x1001 : Int).toNat ((wrap64 (x1001 + x4)) : Int).toNat).size ≤ 9223372036854775807 then (R5_str.l0 k (x3 ++ (x1000.extract (x1001 : Int).toNat ((wrap64 (x1001 + x4)) : Int).toNat)) x1000 (wrap64 (x1001 + x4)) x1002 x1003) else (none)) else (none)) else (none)) else (none))))
end
def R5_str.f (k : Nat) (s0_0 : ByteArray) (s0_1 : Int) (s0_2 : Int) (s0_3 : Int) : Option (ByteArray × ByteArray × Int × Int × Int) := (R5_peek.f s0_0 s0_1 s0_2 s0_3).bind fun bt172 => (if bt172.1 = 34 then (R5_str.l0 k (⟨#[]⟩ : ByteArray) bt172.2.1 (wrap64 (bt172.2.2.1 + 1)) bt172.2.2.2.1 bt172.2.2.2.2) else ((R5_fail.f bt172.2.1 bt172.2.2.1 bt172.2.2.2.1 bt172.2.2.2.2 11).bind fun bt177 => (some ((⟨#[]⟩ : ByteArray), bt177.1, bt177.2.1, bt177.2.2.1, bt177.2.2.2))))
set_option maxHeartbeats 8000000 in
set_option maxRecDepth 100000 in
theorem R5_str.calls (k : Nat) (g : Nat) (s0_0 : ByteArray) (s0_1 : Int) (s0_2 : Int) (s0_3 : Int) (r1 : ByteArray) (r2 : ByteArray) (r3 : Int) (r4 : Int) (r5 : Int) (w0 w : World) (hI : IsS84 w0 w g s0_0 s0_1 s0_2 s0_3) (hB : Below w0.heap.size w0 w) (h : R5_str.f k s0_0 s0_1 s0_2 s0_3 = some (r1, r2, r3, r4, r5)) :
    Calls Tryz.prog 74 #[.pointer (some ⟨g, 0, none⟩)] w fun e w' => e = .returned (.string r1) ∧ IsS84 w0 w' g r2 r3 r4 r5 ∧ Below w0.heap.size w0 w' ∧ KeepBut w w' g none := by
 have HI0 := Aside0.mk hI
 have HK := Aside0.mk (KeepBut.refl w g none)
 have HL := Aside0.mk hB.size
 clear hI
 have HW0 := Aside0.mk hB.size
 have HB := Aside0.mk hB
 clear hB
 have H : ((R5_peek.f s0_0 s0_1 s0_2 s0_3).bind fun bt172 => (if bt172.1 = 34 then (R5_str.l0 k (⟨#[]⟩ : ByteArray) bt172.2.1 (wrap64 (bt172.2.2.1 + 1)) bt172.2.2.2.1 bt172.2.2.2.2) else ((R5_fail.f bt172.2.1 bt172.2.2.1 bt172.2.2.2.1 bt172.2.2.2.2 11).bind fun bt177 => (some ((⟨#[]⟩ : ByteArray), bt177.1, bt177.2.1, bt177.2.2.1, bt177.2.2.2))))) = some (r1, r2, r3, r4, r5) := h
 clear h
 replace H := Option.bind_eq_some_iff.mp H
 obtain ⟨⟨t172, t173, t174, t175, t176⟩, A20, H⟩ := H
 have A2 := Aside0.mk A20
 clear A20
 by_cases c3 : t172 = 34
 · rw [if_pos c3] at H
   have c3b0 : (t172 == 34) = true := beq_iff_eq.mpr c3
   have c3b1 : (t172 != 34) = false := bne_eq_false_iff_eq.mpr c3
   have H' := Aside0.mk H
   go_enter Tryz.func74, Tryz.ntmps74
   go_wp2_with ((go_at_call 72; (with_reducible refine (R5_peek.calls g s0_0 s0_1 s0_2 s0_3 t172 t173 t174 t175 t176 w0 _ ?side1 ?side2 A2.out).mono ?_); (case side1 => repeat ((with_reducible (exact HI0.out)))); (case side2 => repeat ((with_reducible (exact HB.out)))); rintro e w4 ⟨rfl, hi, hb, hk⟩; have n0_ := Aside0.mk (KeepBut.trans (by repeat ((with_reducible (exact HK.out)))) hk (.inl rfl)); have n1_ := Aside0.mk (hb); have n2_ := Aside0.mk (hi); clear HK; clear HB; clear HI0; have HK := n0_; have HB := n1_; have HI0 := n2_; clear n0_ n1_ n2_; (try clear hb); (try clear hk); (try clear hi); obtain ⟨HGz5, hgz5⟩ := HI0.out; have hcz5_0 := cellS84_0 HGz5; have hcz5_1 := cellS84_1 HGz5; have hcz5_2 := cellS84_2 HGz5; have hcz5_3 := cellS84_3 HGz5; have hfz5_0 := blk_frozen HGz5 0; have hfz5_1 := blk_frozen HGz5 1; have hfz5_2 := blk_frozen HGz5 2; have hfz5_3 := blk_frozen HGz5 3; clear HGz5 hgz5))
   repeat (go_quiet ((go_at_call 72; (with_reducible refine (R5_peek.calls g s0_0 s0_1 s0_2 s0_3 t172 t173 t174 t175 t176 w0 _ ?side1 ?side2 A2.out).mono ?_); (case side1 => repeat (first | (with_reducible first | exact HI0.out | apply IsS84.alloc | apply IsS84.drewN | apply IsS84.drew | apply IsS84.set_0 | apply IsS84.set_1 | apply IsS84.set_2 | apply IsS84.set_3) | exact HI0.out)); (case side2 => repeat (first | (with_reducible first | exact HB.out | apply below_alloc | apply pw_below_drewN | apply below_drew1 | refine below_set ?_ (IsS84.ge HI0.out)) | exact HB.out)); rintro e w4 ⟨rfl, hi, hb, hk⟩; have n0_ := Aside0.mk (KeepBut.trans (by repeat (first | (with_reducible first | exact HK.out | apply KeepBut.set_ | apply keep_drewN | apply keep_drew | apply keep_alloc) | exact HK.out)) hk (.inl rfl)); have n1_ := Aside0.mk (hb); have n2_ := Aside0.mk (hi); clear HK; clear HB; clear HI0; have HK := n0_; have HB := n1_; have HI0 := n2_; clear n0_ n1_ n2_; obtain ⟨HGz5, hgz5⟩ := HI0.out; have hcz5_0 := cellS84_0 HGz5; have hcz5_1 := cellS84_1 HGz5; have hcz5_2 := cellS84_2 HGz5; have hcz5_3 := cellS84_3 HGz5; have hfz5_0 := blk_frozen HGz5 0; have hfz5_1 := blk_frozen HGz5 1; have hfz5_2 := blk_frozen HGz5 2; have hfz5_3 := blk_frozen HGz5 3; clear HGz5 hgz5)); skip)
   go_loopg [3] k (fun kq v3 w' => ∃ (x3_1 : ByteArray) (x1000_1 : ByteArray) (x1001_1 : Int) (x1002_1 : Int) (x1003_1 : Int), v3 = .string x3_1 ∧ Aside0 (R5_str.l0 kq x3_1 x1000_1 x1001_1 x1002_1 x1003_1 = some (r1, r2, r3, r4, r5)) ∧ Aside0 (kq ≤ k) ∧ Aside0 (IsS84 w0 w' g x1000_1 x1001_1 x1002_1 x1003_1) ∧ Aside0 (KeepBut w w' g none) ∧ Aside0 (Below w0.heap.size w0 w'))
   case atStart => exact ⟨((⟨#[]⟩ : ByteArray)), (t173), (wrap64 (t174 + 1)), (t175), (t176), (by (rfl)), H', ⟨Nat.le_refl _⟩, ⟨by repeat ((with_reducible first | exact HI0.out | apply IsS84.set_1 ))⟩, ⟨by repeat ((with_reducible first | exact HK.out | apply KeepBut.set_ ))⟩, ⟨by repeat ((with_reducible first | exact HB.out | refine below_set ?_ (IsS84.ge HI0.out)))⟩⟩
   case round =>
    clear H'
    try clear c3b0
    try clear c3b1
    obtain ⟨x3_1, x1000_1, x1001_1, x1002_1, x1003_1, rfl, HA, HK1, HI0, HK, HB⟩ := hrel
    cases gk with
    | zero => exact absurd HA.out (by simp [R5_str.l0])
    | succ k1 =>
     have H := HA.out
     clear HA
     simp only [R5_str.l0] at H
     by_cases c6 : x1003_1 = 0
     · rw [if_pos c6] at H
       have c6b0 : (x1003_1 == 0) = true := beq_iff_eq.mpr c6
       have c6b1 : (x1003_1 != 0) = false := bne_eq_false_iff_eq.mpr c6
       have HC7 := Aside0.mk H
       obtain ⟨HGz8, hgz8⟩ := HI0.out
       have hcz8_0 := cellS84_0 HGz8
       have hcz8_1 := cellS84_1 HGz8
       have hcz8_2 := cellS84_2 HGz8
       have hcz8_3 := cellS84_3 HGz8
       have hfz8_0 := blk_frozen HGz8 0
       have hfz8_1 := blk_frozen HGz8 1
       have hfz8_2 := blk_frozen HGz8 2
       have hfz8_3 := blk_frozen HGz8 3
       go_upto_if 32 with (fail)
       repeat (go_quiet (fail); go_upto_if 32 with (fail))
       go_cut [4] (fun v4 wc => ∃ (kq : Nat) (x4_6 : Int), v4 = .int .i64 x4_6 ∧ Aside0 (R5_str.j1 kq x3_1 x4_6 x1000_1 x1001_1 x1002_1 x1003_1 = some (r1, r2, r3, r4, r5)) ∧ Aside0 (kq ≤ k1) ∧ Aside0 (IsS84 w0 wc g x1000_1 x1001_1 x1002_1 x1003_1) ∧ Aside0 (KeepBut w wc g none) ∧ Aside0 (Below w0.heap.size w0 wc))
       case first =>
        have H := HC7.out
        clear HC7
        by_cases c9 : x1001_1 < (x1000_1.size : Int)
        · rw [if_pos c9] at H
          have c9b0 : decide (x1001_1 < (x1000_1.size : Int)) = true := decide_eq_true c9
          (rw [c9b0])
          by_cases c10 : 0 ≤ x1001_1
          · rw [if_pos c10] at H
            by_cases c11 : x1001_1 ≤ (x1000_1.size : Int)
            · rw [if_pos c11] at H
              replace H := Option.bind_eq_some_iff.mp H
              obtain ⟨t181, A120, H⟩ := H
              have A12 := Aside0.mk A120
              clear A120
              have H' := Aside0.mk H
              obtain ⟨HGz13, hgz13⟩ := HI0.out
              go_wp2_with ((go_at_call 106; (with_reducible refine (R5Long.calls k1 (x1000_1.extract (x1001_1 : Int).toNat x1000_1.size) t181 _ A12.out).mono ?_); rintro e w' ⟨rfl, ⟨nd, rfl⟩⟩))
              repeat (go_quiet ((go_at_call 106; (with_reducible refine (R5Long.calls k1 (x1000_1.extract (x1001_1 : Int).toNat x1000_1.size) t181 _ A12.out).mono ?_); rintro e w' ⟨rfl, ⟨nd, rfl⟩⟩; (try (exact ⟨rfl, _, Eq.trans (World.drewN_drewN _ _ _) (congrArg (World.drewN _) (Nat.add_assoc _ _ _))⟩)))); try go_wp2_with ((go_at_call 106; (with_reducible refine (R5Long.calls k1 (x1000_1.extract (x1001_1 : Int).toNat x1000_1.size) t181 _ A12.out).mono ?_); rintro e w' ⟨rfl, ⟨nd, rfl⟩⟩)))
              go_meet
              case rel => exact ⟨_, (t181), (by (rfl)), H', ⟨by have := HK1.out; (omega)⟩, ⟨by repeat ((with_reducible first | exact HI0.out | apply IsS84.drewN ))⟩, ⟨by repeat ((with_reducible first | exact HK.out | apply keep_drewN ))⟩, ⟨by repeat ((with_reducible first | exact HB.out | apply pw_below_drewN ))⟩⟩
            rw [if_neg c11] at H
            exact absurd H (by simp)
          rw [if_neg c10] at H
          exact absurd H (by simp)
        rw [if_neg c9] at H
        have c9b0 : decide (x1001_1 < (x1000_1.size : Int)) = false := decide_eq_false c9
        (rw [c9b0])
        have H' := Aside0.mk H
        go_wp2
        repeat (go_quiet (fail); skip)
        go_meet
        case rel => exact ⟨_, (0), (by (rfl)), H', ⟨by have := HK1.out; (omega)⟩, ⟨by repeat ((with_reducible first | exact HI0.out | apply IsS84.drewN ))⟩, ⟨by repeat ((with_reducible first | exact HK.out | apply keep_drewN ))⟩, ⟨by repeat ((with_reducible first | exact HB.out | apply pw_below_drewN ))⟩⟩
       case rest =>
        clear HC7
        try clear c6b0
        try clear c6b1
        obtain ⟨kq, x4_6, rfl, HA, HJ6, HI0, HK, HB⟩ := hcut
        cases kq with
        | zero => exact absurd HA.out (by simp [R5_str.j1])
        | succ kj6 =>
         have H := HA.out
         clear HA
         simp only [R5_str.j1] at H
         replace H := Option.bind_eq_some_iff.mp H
         obtain ⟨⟨t182, t183, t184, t185, t186⟩, A140, H⟩ := H
         have A14 := Aside0.mk A140
         clear A140
         have HC15 := Aside0.mk H
         go_upto_region 13 with ((go_at_call 72; (with_reducible refine (R5_peek.calls g x1000_1 x1001_1 x1002_1 x1003_1 t182 t183 t184 t185 t186 w0 _ ?side1 ?side2 A14.out).mono ?_); (case side1 => repeat ((with_reducible (exact HI0.out)))); (case side2 => repeat ((with_reducible (exact HB.out)))); rintro e w16 ⟨rfl, hi, hb, hk⟩; have n0_ := Aside0.mk (KeepBut.trans (by repeat ((with_reducible (exact HK.out)))) hk (.inl rfl)); have n1_ := Aside0.mk (hb); have n2_ := Aside0.mk (hi); clear HK; clear HB; clear HI0; have HK := n0_; have HB := n1_; have HI0 := n2_; clear n0_ n1_ n2_; (try clear hb); (try clear hk); (try clear hi)))
         repeat (go_quiet ((go_at_call 72; (with_reducible refine (R5_peek.calls g x1000_1 x1001_1 x1002_1 x1003_1 t182 t183 t184 t185 t186 w0 _ ?side1 ?side2 A14.out).mono ?_); (case side1 => repeat (first | (with_reducible first | exact HI0.out | apply IsS84.alloc | apply IsS84.drewN | apply IsS84.drew | apply IsS84.set_0 | apply IsS84.set_1 | apply IsS84.set_2 | apply IsS84.set_3) | exact HI0.out)); (case side2 => repeat (first | (with_reducible first | exact HB.out | apply below_alloc | apply pw_below_drewN | apply below_drew1 | refine below_set ?_ (IsS84.ge HI0.out)) | exact HB.out)); rintro e w16 ⟨rfl, hi, hb, hk⟩; have n0_ := Aside0.mk (KeepBut.trans (by repeat (first | (with_reducible first | exact HK.out | apply KeepBut.set_ | apply keep_drewN | apply keep_drew | apply keep_alloc) | exact HK.out)) hk (.inl rfl)); have n1_ := Aside0.mk (hb); have n2_ := Aside0.mk (hi); clear HK; clear HB; clear HI0; have HK := n0_; have HB := n1_; have HI0 := n2_; clear n0_ n1_ n2_)); go_upto_region 13 with ((go_at_call 72; (with_reducible refine (R5_peek.calls g x1000_1 x1001_1 x1002_1 x1003_1 t182 t183 t184 t185 t186 w0 _ ?side1 ?side2 A14.out).mono ?_); (case side1 => repeat (first | (with_reducible first | exact HI0.out | apply IsS84.alloc | apply IsS84.drewN | apply IsS84.drew | apply IsS84.set_0 | apply IsS84.set_1 | apply IsS84.set_2 | apply IsS84.set_3) | exact HI0.out)); (case side2 => repeat (first | (with_reducible first | exact HB.out | apply below_alloc | apply pw_below_drewN | apply below_drew1 | refine below_set ?_ (IsS84.ge HI0.out)) | exact HB.out)); rintro e w16 ⟨rfl, hi, hb, hk⟩; have n0_ := Aside0.mk (KeepBut.trans (by repeat (first | (with_reducible first | exact HK.out | apply KeepBut.set_ | apply keep_drewN | apply keep_drew | apply keep_alloc) | exact HK.out)) hk (.inl rfl)); have n1_ := Aside0.mk (hb); have n2_ := Aside0.mk (hi); clear HK; clear HB; clear HI0; have HK := n0_; have HB := n1_; have HI0 := n2_; clear n0_ n1_ n2_)))
         (skip)
         go_cut [70] (fun v70 wc => ∃ (kq : Nat) (x70_14 : Bool), v70 = .bool x70_14 ∧ Aside0 (R5_str.j2 kq x3_1 x4_6 t182 x70_14 t183 t184 t185 t186 = some (r1, r2, r3, r4, r5)) ∧ Aside0 (kq ≤ kj6) ∧ Aside0 (IsS84 w0 wc g t183 t184 t185 t186) ∧ Aside0 (KeepBut w wc g none) ∧ Aside0 (Below w0.heap.size w0 wc))
         case first =>
          have H := HC15.out
          clear HC15
          by_cases c17 : x4_6 = 0
          · rw [if_pos c17] at H
            have c17b0 : (x4_6 == 0) = true := beq_iff_eq.mpr c17
            have c17b1 : (x4_6 != 0) = false := bne_eq_false_iff_eq.mpr c17
            (skip)
            have H' := Aside0.mk H
            go_wp2
            repeat (go_quiet (fail); skip)
            go_meet
            case rel => exact ⟨_, (true), (by (rfl)), H', ⟨by have := HK1.out; have := HJ6.out; (omega)⟩, ⟨by repeat ((with_reducible (exact HI0.out)))⟩, ⟨by repeat ((with_reducible (exact HK.out)))⟩, ⟨by repeat ((with_reducible (exact HB.out)))⟩⟩
          rw [if_neg c17] at H
          have c17b0 : (x4_6 == 0) = false := beq_eq_false_iff_ne.mpr c17
          have c17b1 : (x4_6 != 0) = true := bne_iff_ne.mpr c17
          (skip)
          have H' := Aside0.mk H
          go_wp2
          repeat (go_quiet (fail); skip)
          go_meet
          case rel => exact ⟨_, (decide (t182 < 32)), (by (rfl)), H', ⟨by have := HK1.out; have := HJ6.out; (omega)⟩, ⟨by repeat ((with_reducible (exact HI0.out)))⟩, ⟨by repeat ((with_reducible (exact HK.out)))⟩, ⟨by repeat ((with_reducible (exact HB.out)))⟩⟩
         case rest =>
          clear HC15
          obtain ⟨kq, x70_14, rfl, HA, HJ14, HI0, HK, HB⟩ := hcut
          cases kq with
          | zero => exact absurd HA.out (by simp [R5_str.j2])
          | succ kj14 =>
           have H := HA.out
           clear HA
           simp only [R5_str.j2] at H
           by_cases c18 : x70_14 = true
           · subst c18
             have H1 : ((R5_fail.f t183 t184 t185 t186 11).bind fun bt187 => (R5_str.l0 kj14 x3_1 bt187.1 bt187.2.1 bt187.2.2.1 bt187.2.2.2)) = some (r1, r2, r3, r4, r5) := by rw [if_pos rfl] at H; exact H
             have H := H1
             clear H1
             replace H := Option.bind_eq_some_iff.mp H
             obtain ⟨⟨t187, t188, t189, t190⟩, A190, H⟩ := H
             have A19 := Aside0.mk A190
             clear A190
             have H' := Aside0.mk H
             go_wp2_with ((go_at_call 39; (with_reducible refine (R5_fail.calls g t183 t184 t185 t186 11 t187 t188 t189 t190 w0 _ ?side1 ?side2 A19.out).mono ?_); (case side1 => repeat ((with_reducible (exact HI0.out)))); (case side2 => repeat ((with_reducible (exact HB.out)))); rintro e w20 ⟨rfl, hi, hb, hk⟩; have n0_ := Aside0.mk (KeepBut.trans (by repeat ((with_reducible (exact HK.out)))) hk (.inl rfl)); have n1_ := Aside0.mk (hb); have n2_ := Aside0.mk (hi); clear HK; clear HB; clear HI0; have HK := n0_; have HB := n1_; have HI0 := n2_; clear n0_ n1_ n2_; (try clear hb); (try clear hk); (try clear hi)))
             repeat (go_quiet ((go_at_call 39; (with_reducible refine (R5_fail.calls g t183 t184 t185 t186 11 t187 t188 t189 t190 w0 _ ?side1 ?side2 A19.out).mono ?_); (case side1 => repeat (first | (with_reducible first | exact HI0.out | apply IsS84.alloc | apply IsS84.drewN | apply IsS84.drew | apply IsS84.set_0 | apply IsS84.set_1 | apply IsS84.set_2 | apply IsS84.set_3) | exact HI0.out)); (case side2 => repeat (first | (with_reducible first | exact HB.out | apply below_alloc | apply pw_below_drewN | apply below_drew1 | refine below_set ?_ (IsS84.ge HI0.out)) | exact HB.out)); rintro e w20 ⟨rfl, hi, hb, hk⟩; have n0_ := Aside0.mk (KeepBut.trans (by repeat (first | (with_reducible first | exact HK.out | apply KeepBut.set_ | apply keep_drewN | apply keep_drew | apply keep_alloc) | exact HK.out)) hk (.inl rfl)); have n1_ := Aside0.mk (hb); have n2_ := Aside0.mk (hi); clear HK; clear HB; clear HI0; have HK := n0_; have HB := n1_; have HI0 := n2_; clear n0_ n1_ n2_)); skip)
             go_roundg kj14
             case measure => have := HK1.out; have := HJ6.out; have := HJ14.out; omega
             case rel => exact ⟨(x3_1), (t187), (t188), (t189), (t190), (by (rfl)), H', ⟨by have := HK1.out; have := HJ6.out; have := HJ14.out; omega⟩, ⟨by repeat ((with_reducible (exact HI0.out)))⟩, ⟨by repeat ((with_reducible (exact HK.out)))⟩, ⟨by repeat ((with_reducible (exact HB.out)))⟩⟩
           replace c18 := Bool.eq_false_iff.mpr c18
           subst c18
           have H1 : (if t182 = 34 then (some (x3_1, t183, wrap64 (t184 + 1), t185, t186)) else (if t182 = 92 then ((R5_escape.f kj14 t183 (wrap64 (t184 + 1)) t185 t186).bind fun bt191 => (if x3_1.size + bt191.1.size ≤ 9223372036854775807 then (R5_str.l0 kj14 (x3_1 ++ bt191.1) bt191.2.1 bt191.2.2.1 bt191.2.2.2.1 bt191.2.2.2.2) else (none))) else (if 0 ≤ t184 then (if t184 ≤ (wrap64 (t184 + x4_6)) then (if (wrap64 (t184 + x4_6)) ≤ (t183.size : Int) then (if x3_1.size + (t183.extract (t184 : Int).toNat ((wrap64 (t184 + x4_6)) : Int).toNat).size ≤ 9223372036854775807 then (R5_str.l0 kj14 (x3_1 ++ (t183.extract (t184 : Int).toNat ((wrap64 (t184 + x4_6)) : Int).toNat)) t183 (wrap64 (t184 + x4_6)) t185 t186) else (none)) else (none)) else (none)) else (none)))) = some (r1, r2, r3, r4, r5) := by rw [if_neg (show ¬ (false = true) by decide)] at H; exact H
           have H := H1
           clear H1
           by_cases c21 : t182 = 34
           · rw [if_pos c21] at H
             have c21b0 : (t182 == 34) = true := beq_iff_eq.mpr c21
             have c21b1 : (t182 != 34) = false := bne_eq_false_iff_eq.mpr c21
             obtain ⟨rfl, rfl, rfl, rfl, rfl⟩ := H
             obtain ⟨HGz22, hgz22⟩ := HI0.out
             have hcz22_0 := cellS84_0 HGz22
             have hcz22_1 := cellS84_1 HGz22
             have hcz22_2 := cellS84_2 HGz22
             have hcz22_3 := cellS84_3 HGz22
             have hfz22_0 := blk_frozen HGz22 0
             have hfz22_1 := blk_frozen HGz22 1
             have hfz22_2 := blk_frozen HGz22 2
             have hfz22_3 := blk_frozen HGz22 3
             go_wp2
             repeat (go_quiet (fail); skip)
             go_ret
             exact ⟨by (rfl), by repeat ((with_reducible first | exact HI0.out | apply IsS84.set_1 )), by repeat ((with_reducible first | exact HB.out | refine below_set ?_ (IsS84.ge HI0.out))), by repeat ((with_reducible first | exact HK.out | apply KeepBut.set_ ))⟩
           rw [if_neg c21] at H
           have c21b0 : (t182 == 34) = false := beq_eq_false_iff_ne.mpr c21
           have c21b1 : (t182 != 34) = true := bne_iff_ne.mpr c21
           by_cases c23 : t182 = 92
           · rw [if_pos c23] at H
             have c23b0 : (t182 == 92) = true := beq_iff_eq.mpr c23
             have c23b1 : (t182 != 92) = false := bne_eq_false_iff_eq.mpr c23
             replace H := Option.bind_eq_some_iff.mp H
             obtain ⟨⟨t191, t192, t193, t194, t195⟩, A240, H⟩ := H
             have A24 := Aside0.mk A240
             clear A240
             by_cases c25 : x3_1.size + t191.size ≤ 9223372036854775807
             · rw [if_pos c25] at H
               have H' := Aside0.mk H
               obtain ⟨HGz26, hgz26⟩ := HI0.out
               have hcz26_0 := cellS84_0 HGz26
               have hcz26_1 := cellS84_1 HGz26
               have hcz26_2 := cellS84_2 HGz26
               have hcz26_3 := cellS84_3 HGz26
               have hfz26_0 := blk_frozen HGz26 0
               have hfz26_1 := blk_frozen HGz26 1
               have hfz26_2 := blk_frozen HGz26 2
               have hfz26_3 := blk_frozen HGz26 3
               go_wp2_with ((go_at_call 107; (with_reducible refine (R5_escape.calls kj14 g t183 (wrap64 (t184 + 1)) t185 t186 t191 t192 t193 t194 t195 w0 _ ?side1 ?side2 A24.out).mono ?_); (case side1 => repeat ((with_reducible first | exact HI0.out | apply IsS84.set_1 ))); (case side2 => repeat ((with_reducible first | exact HB.out | refine below_set ?_ (IsS84.ge HI0.out)))); rintro e w27 ⟨rfl, hi, hb, hk⟩; have n0_ := Aside0.mk (KeepBut.trans (by repeat ((with_reducible first | exact HK.out | apply KeepBut.set_ ))) hk (.inl rfl)); have n1_ := Aside0.mk (hb); have n2_ := Aside0.mk (hi); clear HK; clear HB; clear HI0; have HK := n0_; have HB := n1_; have HI0 := n2_; clear n0_ n1_ n2_; (try clear hb); (try clear hk); (try clear hi)))
               repeat (go_quiet ((go_at_call 107; (with_reducible refine (R5_escape.calls kj14 g t183 (wrap64 (t184 + 1)) t185 t186 t191 t192 t193 t194 t195 w0 _ ?side1 ?side2 A24.out).mono ?_); (case side1 => repeat (first | (with_reducible first | exact HI0.out | apply IsS84.alloc | apply IsS84.drewN | apply IsS84.drew | apply IsS84.set_0 | apply IsS84.set_1 | apply IsS84.set_2 | apply IsS84.set_3) | exact HI0.out)); (case side2 => repeat (first | (with_reducible first | exact HB.out | apply below_alloc | apply pw_below_drewN | apply below_drew1 | refine below_set ?_ (IsS84.ge HI0.out)) | exact HB.out)); rintro e w27 ⟨rfl, hi, hb, hk⟩; have n0_ := Aside0.mk (KeepBut.trans (by repeat (first | (with_reducible first | exact HK.out | apply KeepBut.set_ | apply keep_drewN | apply keep_drew | apply keep_alloc) | exact HK.out)) hk (.inl rfl)); have n1_ := Aside0.mk (hb); have n2_ := Aside0.mk (hi); clear HK; clear HB; clear HI0; have HK := n0_; have HB := n1_; have HI0 := n2_; clear n0_ n1_ n2_)); skip)
               go_roundg kj14
               case measure => have := HK1.out; have := HJ6.out; have := HJ14.out; omega
               case rel => exact ⟨(x3_1 ++ t191), (t192), (t193), (t194), (t195), (by (rfl)), H', ⟨by have := HK1.out; have := HJ6.out; have := HJ14.out; omega⟩, ⟨by repeat ((with_reducible (exact HI0.out)))⟩, ⟨by repeat ((with_reducible (exact HK.out)))⟩, ⟨by repeat ((with_reducible (exact HB.out)))⟩⟩
             rw [if_neg c25] at H
             exact absurd H (by simp)
           rw [if_neg c23] at H
           by_cases c28 : 0 ≤ t184
           · rw [if_pos c28] at H
             by_cases c29 : t184 ≤ (wrap64 (t184 + x4_6))
             · rw [if_pos c29] at H
               by_cases c30 : (wrap64 (t184 + x4_6)) ≤ (t183.size : Int)
               · rw [if_pos c30] at H
                 by_cases c31 : x3_1.size + (t183.extract (t184 : Int).toNat ((wrap64 (t184 + x4_6)) : Int).toNat).size ≤ 9223372036854775807
                 · rw [if_pos c31] at H
                   have H' := Aside0.mk H
                   obtain ⟨HGz32, hgz32⟩ := HI0.out
                   have hcz32_0 := cellS84_0 HGz32
                   have hcz32_1 := cellS84_1 HGz32
                   have hcz32_2 := cellS84_2 HGz32
                   have hcz32_3 := cellS84_3 HGz32
                   have hfz32_0 := blk_frozen HGz32 0
                   have hfz32_1 := blk_frozen HGz32 1
                   have hfz32_2 := blk_frozen HGz32 2
                   have hfz32_3 := blk_frozen HGz32 3
                   go_wp2
                   repeat (go_quiet (fail); try go_wp2)
                   go_roundg kj14
                   case measure => have := HK1.out; have := HJ6.out; have := HJ14.out; omega
                   case rel => exact ⟨(x3_1 ++ (t183.extract (t184 : Int).toNat ((wrap64 (t184 + x4_6)) : Int).toNat)), (t183), (wrap64 (t184 + x4_6)), (t185), (t186), (by (rfl)), H', ⟨by have := HK1.out; have := HJ6.out; have := HJ14.out; omega⟩, ⟨by repeat ((with_reducible first | exact HI0.out | apply IsS84.drewN | apply IsS84.set_1 ))⟩, ⟨by repeat ((with_reducible first | exact HK.out | apply KeepBut.set_ | apply keep_drewN ))⟩, ⟨by repeat ((with_reducible first | exact HB.out | apply pw_below_drewN | refine below_set ?_ (IsS84.ge HI0.out)))⟩⟩
                 rw [if_neg c31] at H
                 exact absurd H (by simp)
               rw [if_neg c30] at H
               exact absurd H (by simp)
             rw [if_neg c29] at H
             exact absurd H (by simp)
           rw [if_neg c28] at H
           exact absurd H (by simp)
     rw [if_neg c6] at H
     obtain ⟨rfl, rfl, rfl, rfl, rfl⟩ := H
     obtain ⟨HGz33, hgz33⟩ := HI0.out
     have hcz33_0 := cellS84_0 HGz33
     have hcz33_1 := cellS84_1 HGz33
     have hcz33_2 := cellS84_2 HGz33
     have hcz33_3 := cellS84_3 HGz33
     go_wp2
     repeat (go_quiet (fail); skip)
     go_ret
     exact ⟨by (rfl), by repeat ((with_reducible (exact HI0.out))), by repeat ((with_reducible (exact HB.out))), by repeat ((with_reducible (exact HK.out)))⟩
 · rw [if_neg c3] at H
   replace H := Option.bind_eq_some_iff.mp H
   obtain ⟨⟨t177, t178, t179, t180⟩, A340, H⟩ := H
   replace H : (some ((⟨#[]⟩ : ByteArray), t177, t178, t179, t180)) = some (r1, r2, r3, r4, r5) := H
   have A34 := Aside0.mk A340
   clear A340
   simp only [Option.some.injEq, Prod.mk.injEq] at H
   obtain ⟨rfl, rfl, rfl, rfl, rfl⟩ := H
   go_enter Tryz.func74, Tryz.ntmps74
   go_wp2_with (first | (go_at_call 72; (with_reducible refine (R5_peek.calls g s0_0 s0_1 s0_2 s0_3 t172 t173 t174 t175 t176 w0 _ ?side1 ?side2 A2.out).mono ?_); (case side1 => repeat ((with_reducible (exact HI0.out)))); (case side2 => repeat ((with_reducible (exact HB.out)))); rintro e w35 ⟨rfl, hi, hb, hk⟩; have n0_ := Aside0.mk (KeepBut.trans (by repeat ((with_reducible (exact HK.out)))) hk (.inl rfl)); have n1_ := Aside0.mk (hb); have n2_ := Aside0.mk (hi); clear HK; clear HB; clear HI0; have HK := n0_; have HB := n1_; have HI0 := n2_; clear n0_ n1_ n2_; (try clear hb); (try clear hk); (try clear hi)) | (go_at_call 39; (with_reducible refine (R5_fail.calls g t173 t174 t175 t176 11 t177 t178 t179 t180 w0 _ ?side1 ?side2 A34.out).mono ?_); (case side1 => repeat ((with_reducible (exact HI0.out)))); (case side2 => repeat ((with_reducible (exact HB.out)))); rintro e w36 ⟨rfl, hi, hb, hk⟩; have n0_ := Aside0.mk (KeepBut.trans (by repeat ((with_reducible (exact HK.out)))) hk (.inl rfl)); have n1_ := Aside0.mk (hb); have n2_ := Aside0.mk (hi); clear HK; clear HB; clear HI0; have HK := n0_; have HB := n1_; have HI0 := n2_; clear n0_ n1_ n2_; (try clear hb); (try clear hk); (try clear hi)))
   repeat (go_quiet (first | (go_at_call 72; (with_reducible refine (R5_peek.calls g s0_0 s0_1 s0_2 s0_3 t172 t173 t174 t175 t176 w0 _ ?side1 ?side2 A2.out).mono ?_); (case side1 => repeat (first | (with_reducible first | exact HI0.out | apply IsS84.alloc | apply IsS84.drewN | apply IsS84.drew | apply IsS84.set_0 | apply IsS84.set_1 | apply IsS84.set_2 | apply IsS84.set_3) | exact HI0.out)); (case side2 => repeat (first | (with_reducible first | exact HB.out | apply below_alloc | apply pw_below_drewN | apply below_drew1 | refine below_set ?_ (IsS84.ge HI0.out)) | exact HB.out)); rintro e w35 ⟨rfl, hi, hb, hk⟩; have n0_ := Aside0.mk (KeepBut.trans (by repeat (first | (with_reducible first | exact HK.out | apply KeepBut.set_ | apply keep_drewN | apply keep_drew | apply keep_alloc) | exact HK.out)) hk (.inl rfl)); have n1_ := Aside0.mk (hb); have n2_ := Aside0.mk (hi); clear HK; clear HB; clear HI0; have HK := n0_; have HB := n1_; have HI0 := n2_; clear n0_ n1_ n2_) | (go_at_call 39; (with_reducible refine (R5_fail.calls g t173 t174 t175 t176 11 t177 t178 t179 t180 w0 _ ?side1 ?side2 A34.out).mono ?_); (case side1 => repeat (first | (with_reducible first | exact HI0.out | apply IsS84.alloc | apply IsS84.drewN | apply IsS84.drew | apply IsS84.set_0 | apply IsS84.set_1 | apply IsS84.set_2 | apply IsS84.set_3) | exact HI0.out)); (case side2 => repeat (first | (with_reducible first | exact HB.out | apply below_alloc | apply pw_below_drewN | apply below_drew1 | refine below_set ?_ (IsS84.ge HI0.out)) | exact HB.out)); rintro e w36 ⟨rfl, hi, hb, hk⟩; have n0_ := Aside0.mk (KeepBut.trans (by repeat (first | (with_reducible first | exact HK.out | apply KeepBut.set_ | apply keep_drewN | apply keep_drew | apply keep_alloc) | exact HK.out)) hk (.inl rfl)); have n1_ := Aside0.mk (hb); have n2_ := Aside0.mk (hi); clear HK; clear HB; clear HI0; have HK := n0_; have HB := n1_; have HI0 := n2_; clear n0_ n1_ n2_)); skip)
   go_ret
   exact ⟨by (rfl), by repeat ((with_reducible (exact HI0.out))), by repeat ((with_reducible (exact HB.out))), by repeat ((with_reducible (exact HK.out)))⟩
def R5has.l0 : Nat → ByteArray → Int → Int → Option (Bool)
 | 0, _, _, _ => none
 | k + 1, x0, x1, x5 => if x5 < (x0.size : Int) then (if 0 ≤ x5 then (if (bt x0 x5) = x1 then (some true) else (R5has.l0 k x0 x1 (wrap64 (x5 + 1)))) else (none)) else (some false)
def R5has.f (k : Nat) (a0 : ByteArray) (a1 : Int) : Option (Bool) := R5has.l0 k a0 a1 0
set_option maxHeartbeats 8000000 in
set_option maxRecDepth 100000 in
theorem R5has.calls (k : Nat) (a0 : ByteArray) (a1 : Int) (r : Bool) (w : World) (h : R5has.f k a0 a1 = some r) :
    Calls Tryz.prog 109 #[.string a0, .int .u8 a1] w fun e w' => e = .returned (.bool r) ∧ Drawn0 w w' := by
 have H : (R5has.l0 k a0 a1 0) = some r := h
 clear h
 have H' := Aside0.mk H
 go_enter Tryz.func109, Tryz.ntmps109
 go_wp2
 go_loopg [5] k (fun kq v5 w' => ∃ (x5_1 : Int), v5 = .int .i64 x5_1 ∧ Aside0 (R5has.l0 kq a0 a1 x5_1 = some r) ∧ Aside0 (kq ≤ k) ∧ Drawn0 w w')
 case atStart => exact ⟨(0), (by (rfl)), H', ⟨Nat.le_refl _⟩, by repeat (exact Drawn0.refl _)⟩
 case round =>
  clear H'
  obtain ⟨x5_1, rfl, HA, HK1, ⟨m1, rfl⟩⟩ := hrel
  cases gk with
  | zero => exact absurd HA.out (by simp [R5has.l0])
  | succ k1 =>
   have H := HA.out
   clear HA
   simp only [R5has.l0] at H
   by_cases c3 : x5_1 < (a0.size : Int)
   · rw [if_pos c3] at H
     have c3b0 : decide (x5_1 < (a0.size : Int)) = true := decide_eq_true c3
     by_cases c4 : 0 ≤ x5_1
     · rw [if_pos c4] at H
       have c4b0 : decide (0 ≤ x5_1) = true := decide_eq_true c4
       by_cases c6 : (bt a0 x5_1) = a1
       · rw [if_pos c6] at H
         obtain rfl := Option.some.inj H
         have p5 : 0 ≤ (x5_1 : Int) := of_decide_eq_true (by (with_reducible assumption))
         have q5 : x5_1 < (a0.size : Int) := of_decide_eq_true (by (with_reducible assumption))
         have hx5 := bt_at a0 x5_1
         go_wp2
         go_ret
         exact ⟨by (rfl), by repeat (first | exact Drawn0.refl _ | apply Drawn0.step)⟩
       rw [if_neg c6] at H
       have H' := Aside0.mk H
       have p5 : 0 ≤ (x5_1 : Int) := of_decide_eq_true (by (with_reducible assumption))
       have q5 : x5_1 < (a0.size : Int) := of_decide_eq_true (by (with_reducible assumption))
       have hx5 := bt_at a0 x5_1
       go_wp2
       go_roundg k1
       case measure => have := HK1.out; omega
       case rel => exact ⟨(wrap64 (x5_1 + 1)), (by (rfl)), H', ⟨by have := HK1.out; omega⟩, by repeat (first | exact Drawn0.refl _ | apply Drawn0.step)⟩
     rw [if_neg c4] at H
     exact absurd H (by simp)
   rw [if_neg c3] at H
   have c3b0 : decide (x5_1 < (a0.size : Int)) = false := decide_eq_false c3
   obtain rfl := Option.some.inj H
   go_wp2
   go_ret
   exact ⟨by (rfl), by repeat (first | exact Drawn0.refl _ | apply Drawn0.step)⟩
def R4digit.f (a0 : ByteArray) (a1 : Int) : Option (Bool) := if a1 < (a0.size : Int) then (if 0 ≤ a1 then (if (bt a0 a1) ≥ 48 then (some (decide ((bt a0 a1) ≤ 57))) else (some false)) else (none)) else (some false)
set_option maxHeartbeats 8000000 in
set_option maxRecDepth 100000 in
theorem R4digit.calls (a0 : ByteArray) (a1 : Int) (r : Bool) (w : World) (h : R4digit.f a0 a1 = some r) :
    Calls Tryz.prog 155 #[.string a0, .int .i64 a1] w fun e w' => e = .returned (.bool r) ∧ Drawn0 w w' := by
 have H : (if a1 < (a0.size : Int) then (if 0 ≤ a1 then (if (bt a0 a1) ≥ 48 then (some (decide ((bt a0 a1) ≤ 57))) else (some false)) else (none)) else (some false)) = some r := h
 clear h
 by_cases c3 : a1 < (a0.size : Int)
 · rw [if_pos c3] at H
   have c3b0 : decide (a1 < (a0.size : Int)) = true := decide_eq_true c3
   by_cases c4 : 0 ≤ a1
   · rw [if_pos c4] at H
     have c4b0 : decide (0 ≤ a1) = true := decide_eq_true c4
     by_cases c6 : (bt a0 a1) ≥ 48
     · rw [if_pos c6] at H
       have c6b0 : decide (48 ≤ (bt a0 a1)) = true := decide_eq_true c6
       obtain rfl := Option.some.inj H
       have p5 : 0 ≤ (a1 : Int) := of_decide_eq_true (by (with_reducible assumption))
       have q5 : a1 < (a0.size : Int) := of_decide_eq_true (by (with_reducible assumption))
       have hx5 := bt_at a0 a1
       have p7 : 0 ≤ (a1 : Int) := of_decide_eq_true (by (with_reducible assumption))
       have q7 : a1 < (a0.size : Int) := of_decide_eq_true (by (with_reducible assumption))
       have hx7 := bt_at a0 a1
       go_enter Tryz.func155, Tryz.ntmps155
       go_wp2
       go_ret
       exact ⟨by (rfl), by repeat (exact Drawn0.refl _)⟩
     rw [if_neg c6] at H
     have c6b0 : decide (48 ≤ (bt a0 a1)) = false := decide_eq_false c6
     obtain rfl := Option.some.inj H
     have p5 : 0 ≤ (a1 : Int) := of_decide_eq_true (by (with_reducible assumption))
     have q5 : a1 < (a0.size : Int) := of_decide_eq_true (by (with_reducible assumption))
     have hx5 := bt_at a0 a1
     go_enter Tryz.func155, Tryz.ntmps155
     go_wp2
     go_ret
     exact ⟨by (rfl), by repeat (exact Drawn0.refl _)⟩
   rw [if_neg c4] at H
   exact absurd H (by simp)
 · rw [if_neg c3] at H
   have c3b0 : decide (a1 < (a0.size : Int)) = false := decide_eq_false c3
   obtain rfl := Option.some.inj H
   go_enter Tryz.func155, Tryz.ntmps155
   go_wp2
   go_ret
   exact ⟨by (rfl), by repeat (exact Drawn0.refl _)⟩
mutual
def R4Grammar.j0 : Nat → ByteArray → Int → Bool → Option (Bool × Int × Int)
 | 0, _, _, _ => none
 | k + 1, x0, x5, x17 => if x17 = true then (R4Grammar.j1 k x0 (wrap64 (x5 + 1))) else (R4Grammar.j1 k x0 x5)
def R4Grammar.j1 : Nat → ByteArray → Int → Option (Bool × Int × Int)
 | 0, _, _ => none
 | k + 1, x0, x5 => (R4digit.f x0 x5).bind fun t196 => (if t196 = true then (if 0 ≤ x5 then (if x5 < (x0.size : Int) then (if (bt x0 x5) = 48 then ((R4digit.f x0 (wrap64 (x5 + 1))).bind fun t197 => (R4Grammar.j2 k x0 x5 t197)) else (R4Grammar.j2 k x0 x5 false)) else (none)) else (none)) else (R4Grammar.j2 k x0 x5 true))
def R4Grammar.j2 : Nat → ByteArray → Int → Bool → Option (Bool × Int × Int)
 | 0, _, _, _ => none
 | k + 1, x0, x5, x35 => if x35 = true then (some (false, 0, 0)) else (R4Grammar.l0 k x0 x5)
def R4Grammar.l0 : Nat → ByteArray → Int → Option (Bool × Int × Int)
 | 0, _, _ => none
 | k + 1, x0, x5 => (R4digit.f x0 x5).bind fun t198 => (if t198 = true then (R4Grammar.l0 k x0 (wrap64 (x5 + 1))) else (if x5 < (x0.size : Int) then (if 0 ≤ x5 then (R4Grammar.j4 k x0 x5 x5 ((bt x0 x5) == 46)) else (none)) else (R4Grammar.j4 k x0 x5 x5 false)))
def R4Grammar.j4 : Nat → ByteArray → Int → Int → Bool → Option (Bool × Int × Int)
 | 0, _, _, _, _ => none
 | k + 1, x0, x5, x6, x51 => if x51 = true then ((R4digit.f x0 (wrap64 (x5 + 1))).bind fun t199 => (if t199 = true then (R4Grammar.l1 k x0 (wrap64 (x5 + 1)) x6) else (some (false, 0, 0)))) else (R4Grammar.j6 k x0 x5 x6)
def R4Grammar.j6 : Nat → ByteArray → Int → Int → Option (Bool × Int × Int)
 | 0, _, _, _ => none
 | k + 1, x0, x5, x6 => if x5 < (x0.size : Int) then (if 0 ≤ x5 then (if (bt x0 x5) = 101 then (R4Grammar.j7 k x0 x5 x6 x5 true) else (R4Grammar.j7 k x0 x5 x6 x5 ((bt x0 x5) == 69))) else (none)) else (R4Grammar.j7 k x0 x5 x6 x5 false)
def R4Grammar.j7 : Nat → ByteArray → Int → Int → Int → Bool → Option (Bool × Int × Int)
 | 0, _, _, _, _, _ => none
 | k + 1, x0, x5, x6, x7, x79 => if x79 = true then (if (wrap64 (x5 + 1)) < (x0.size : Int) then (if 0 ≤ (wrap64 (x5 + 1)) then (if (bt x0 (wrap64 (x5 + 1))) = 43 then (R4Grammar.j8 k x0 (wrap64 (x5 + 1)) x6 x7 true) else (R4Grammar.j8 k x0 (wrap64 (x5 + 1)) x6 x7 ((bt x0 (wrap64 (x5 + 1))) == 45))) else (none)) else (R4Grammar.j8 k x0 (wrap64 (x5 + 1)) x6 x7 false)) else (some ((x5 == (x0.size : Int)), x6, x7))
def R4Grammar.j8 : Nat → ByteArray → Int → Int → Int → Bool → Option (Bool × Int × Int)
 | 0, _, _, _, _, _ => none
 | k + 1, x0, x5, x6, x7, x97 => if x97 = true then (R4Grammar.j9 k x0 (wrap64 (x5 + 1)) x6 x7) else (R4Grammar.j9 k x0 x5 x6 x7)
def R4Grammar.j9 : Nat → ByteArray → Int → Int → Int → Option (Bool × Int × Int)
 | 0, _, _, _, _ => none
 | k + 1, x0, x5, x6, x7 => (R4digit.f x0 x5).bind fun t201 => (if t201 = true then (R4Grammar.l2 k x0 x5 x6 x7) else (some (false, 0, 0)))
def R4Grammar.l2 : Nat → ByteArray → Int → Int → Int → Option (Bool × Int × Int)
 | 0, _, _, _, _ => none
 | k + 1, x0, x5, x6, x7 => (R4digit.f x0 x5).bind fun t202 => (if t202 = true then (R4Grammar.l2 k x0 (wrap64 (x5 + 1)) x6 x7) else (some ((x5 == (x0.size : Int)), x6, x7)))
def R4Grammar.l1 : Nat → ByteArray → Int → Int → Option (Bool × Int × Int)
 | 0, _, _, _ => none
 | k + 1, x0, x5, x6 => (R4digit.f x0 x5).bind fun t200 => (if t200 = true then (R4Grammar.l1 k x0 (wrap64 (x5 + 1)) x6) else (R4Grammar.j6 k x0 x5 x6))
end
def R4Grammar.f (k : Nat) (a0 : ByteArray) : Option (Bool × Int × Int) := if 0 < (a0.size : Int) then (R4Grammar.j0 k a0 0 ((bt a0 0) == 45)) else (R4Grammar.j0 k a0 0 false)
set_option maxHeartbeats 8000000 in
set_option maxRecDepth 100000 in
theorem R4Grammar.calls (k : Nat) (a0 : ByteArray) (r1 : Bool) (r2 : Int) (r3 : Int) (w : World) (h : R4Grammar.f k a0 = some (r1, r2, r3)) :
    Calls Tryz.prog 140 #[.string a0] w fun e w' => e = .returned (.tuple #[.bool r1, .int .i64 r2, .int .i64 r3]) ∧ Drawn0 w w' := by
 have H : (if 0 < (a0.size : Int) then (R4Grammar.j0 k a0 0 ((bt a0 0) == 45)) else (R4Grammar.j0 k a0 0 false)) = some (r1, r2, r3) := h
 clear h
 have HC2 := Aside0.mk H
 clear H
 go_enter Tryz.func140, Tryz.ntmps140
 go_upto_region 2 with (fail)
 go_cut [17] (fun v17 wc => ∃ (kq : Nat) (x17_1 : Bool), v17 = .bool x17_1 ∧ Aside0 (R4Grammar.j0 kq a0 0 x17_1 = some (r1, r2, r3)) ∧ Aside0 (kq ≤ k) ∧ Drawn0 w wc)
 case first =>
  have H := HC2.out
  clear HC2
  by_cases c3 : 0 < (a0.size : Int)
  · rw [if_pos c3] at H
    have c3b0 : decide (0 < (a0.size : Int)) = true := decide_eq_true c3
    have c3b1 : decide (0 < a0.size) = true := decide_eq_true (by omega)
    clear c3
    (skip)
    have H' := Aside0.mk H
    clear H
    have p4 : 0 ≤ (0 : Int) := (by omega)
    have q4 : 0 < a0.size := (by have : (0 : Int) < (a0.size : Int) := of_decide_eq_true (by (with_reducible assumption)); omega)
    have hx4 : ∀ h : 0 < a0.size, ((a0[0]'h).toNat : Int) = bt a0 0 := bt_at a0 0
    clear p4
    have qi4 : (0 < (a0.size : Int)) = True := eq_true (of_decide_eq_true (by (with_reducible assumption)))
    replace q4 := eq_true q4
    go_wp2
    go_meet
    case rel => exact ⟨_, (((bt a0 0) == 45)), (by (rfl)), (by (exact H')), ⟨by (omega)⟩, by repeat (exact Drawn0.refl _)⟩
  rw [if_neg c3] at H
  have c3b0 : decide (0 < (a0.size : Int)) = false := decide_eq_false c3
  have c3b1 : decide (0 < a0.size) = false := decide_eq_false (by omega)
  clear c3
  (skip)
  have H' := Aside0.mk H
  clear H
  go_wp2
  go_meet
  case rel => exact ⟨_, (false), (by (rfl)), (by (exact H')), ⟨by (omega)⟩, by repeat (exact Drawn0.refl _)⟩
 case rest =>
  clear HC2
  obtain ⟨kq, x17_1, rfl, HA, HJ1, ⟨mc1, rfl⟩⟩ := hcut
  cases kq with
  | zero => exact absurd HA.out (by simp [R4Grammar.j0])
  | succ kj1 =>
   have H := HA.out
   clear HA
   simp only [R4Grammar.j0] at H
   have HC5 := Aside0.mk H
   clear H
   go_upto_if 17 with (fail)
   go_cut [5] (fun v5 wc => ∃ (kq : Nat) (x5_4 : Int), v5 = .int .i64 x5_4 ∧ Aside0 (R4Grammar.j1 kq a0 x5_4 = some (r1, r2, r3)) ∧ Aside0 (kq ≤ kj1) ∧ Drawn0 w wc)
   case first =>
    have H := HC5.out
    clear HC5
    by_cases c6 : x17_1 = true
    · subst c6
      have H1 : (R4Grammar.j1 kj1 a0 (wrap64 (0 + 1))) = some (r1, r2, r3) := by rw [if_pos rfl] at H; exact H
      clear H
      have H := H1
      clear H1
      have H' := Aside0.mk H
      clear H
      go_wp2
      go_meet
      case rel => exact ⟨_, (wrap64 (0 + 1)), (by (simp [wrap64]; done)), (by (exact H')), ⟨by have := HJ1.out; (omega)⟩, by repeat (first | exact Drawn0.refl _ | apply Drawn0.step)⟩
    replace c6 := Bool.eq_false_iff.mpr c6
    subst c6
    have H1 : (R4Grammar.j1 kj1 a0 0) = some (r1, r2, r3) := by rw [if_neg (show ¬ (false = true) by decide)] at H; exact H
    clear H
    have H := H1
    clear H1
    have H' := Aside0.mk H
    clear H
    go_wp2
    go_meet
    case rel => exact ⟨_, (0), (by (rfl)), (by (exact H')), ⟨by have := HJ1.out; (omega)⟩, by repeat (first | exact Drawn0.refl _ | apply Drawn0.step)⟩
   case rest =>
    clear HC5
    obtain ⟨kq, x5_4, rfl, HA, HJ4, ⟨mc4, rfl⟩⟩ := hcut
    cases kq with
    | zero => exact absurd HA.out (by simp [R4Grammar.j1])
    | succ kj4 =>
     have H := HA.out
     clear HA
     simp only [R4Grammar.j1] at H
     have HC7 := Aside0.mk H
     clear H
     go_upto_region 4 with (fail)
     go_cut [35] (fun v35 wc => ∃ (kq : Nat) (x35_6 : Bool), v35 = .bool x35_6 ∧ Aside0 (R4Grammar.j2 kq a0 x5_4 x35_6 = some (r1, r2, r3)) ∧ Aside0 (kq ≤ kj4) ∧ Drawn0 w wc)
     case first =>
      have H := HC7.out
      clear HC7
      replace H := Option.bind_eq_some_iff.mp H
      obtain ⟨t196, A80, H⟩ := H
      replace H : (if t196 = true then (if 0 ≤ x5_4 then (if x5_4 < (a0.size : Int) then (if (bt a0 x5_4) = 48 then ((R4digit.f a0 (wrap64 (x5_4 + 1))).bind fun t197 => (R4Grammar.j2 kj4 a0 x5_4 t197)) else (R4Grammar.j2 kj4 a0 x5_4 false)) else (none)) else (none)) else (R4Grammar.j2 kj4 a0 x5_4 true)) = some (r1, r2, r3) := H
      have A8 := Aside0.mk A80
      clear A80
      by_cases c9 : t196 = true
      · subst c9
        have H1 : (if 0 ≤ x5_4 then (if x5_4 < (a0.size : Int) then (if (bt a0 x5_4) = 48 then ((R4digit.f a0 (wrap64 (x5_4 + 1))).bind fun t197 => (R4Grammar.j2 kj4 a0 x5_4 t197)) else (R4Grammar.j2 kj4 a0 x5_4 false)) else (none)) else (none)) = some (r1, r2, r3) := by rw [if_pos rfl] at H; exact H
        clear H
        have H := H1
        clear H1
        by_cases c10 : 0 ≤ x5_4
        · rw [if_pos c10] at H
          have c10b0 : decide (0 ≤ x5_4) = true := decide_eq_true c10
          clear c10
          (skip)
          by_cases c11 : x5_4 < (a0.size : Int)
          · rw [if_pos c11] at H
            have c11b0 : decide (x5_4 < (a0.size : Int)) = true := decide_eq_true c11
            clear c11
            by_cases c13 : (bt a0 x5_4) = 48
            · rw [if_pos c13] at H
              have c13b0 : ((bt a0 x5_4) == 48) = true := beq_iff_eq.mpr c13
              have c13b1 : ((bt a0 x5_4) != 48) = false := bne_eq_false_iff_eq.mpr c13
              clear c13
              replace H := Option.bind_eq_some_iff.mp H
              obtain ⟨t197, A140, H⟩ := H
              replace H : (R4Grammar.j2 kj4 a0 x5_4 t197) = some (r1, r2, r3) := H
              have A14 := Aside0.mk A140
              clear A140
              have H' := Aside0.mk H
              clear H
              go_wp2_with (first | ((with_reducible refine gate_callee (f := 155) rfl ?_); refine goesL_ (some 22) rfl rfl Tryz.func155 (by kernel_rfl) rfl #[.string a0, .int .i64 x5_4] rfl (by (try simp only [List.map_toArray, List.map_cons, List.map_nil]); (rfl)) ?_; (with_reducible refine (R4digit.calls a0 x5_4 true _ A8.out).mono ?_); rintro e w' ⟨rfl, ⟨nd, rfl⟩⟩; refine ⟨_, rfl, ?_⟩; have p12 : 0 ≤ (x5_4 : Int) := of_decide_eq_true (by (with_reducible assumption)); have q12 : x5_4 < (a0.size : Int) := of_decide_eq_true (by (with_reducible assumption)); have hx12 := bt_at a0 x5_4; replace p12 := eq_true p12; replace q12 := eq_true q12) | (go_at_call 155; (with_reducible refine (R4digit.calls a0 (wrap64 (x5_4 + 1)) t197 _ A14.out).mono ?_); rintro e w' ⟨rfl, ⟨nd, rfl⟩⟩))
              go_meet
              case rel => exact ⟨_, (t197), (by (rfl)), (by (exact H')), ⟨by have := HJ1.out; have := HJ4.out; (omega)⟩, by repeat (first | exact Drawn0.refl _ | apply Drawn0.step)⟩
            rw [if_neg c13] at H
            have c13b0 : ((bt a0 x5_4) == 48) = false := beq_eq_false_iff_ne.mpr c13
            have c13b1 : ((bt a0 x5_4) != 48) = true := bne_iff_ne.mpr c13
            have H' := Aside0.mk H
            clear H
            go_wp2_with (((with_reducible refine gate_callee (f := 155) rfl ?_); refine goesL_ (some 22) rfl rfl Tryz.func155 (by kernel_rfl) rfl #[.string a0, .int .i64 x5_4] rfl (by (try simp only [List.map_toArray, List.map_cons, List.map_nil]); (rfl)) ?_; (with_reducible refine (R4digit.calls a0 x5_4 true _ A8.out).mono ?_); rintro e w' ⟨rfl, ⟨nd, rfl⟩⟩; refine ⟨_, rfl, ?_⟩; have p12 : 0 ≤ (x5_4 : Int) := of_decide_eq_true (by (with_reducible assumption)); have q12 : x5_4 < (a0.size : Int) := of_decide_eq_true (by (with_reducible assumption)); have hx12 := bt_at a0 x5_4; replace p12 := eq_true p12; replace q12 := eq_true q12))
            go_meet
            case rel => exact ⟨_, (false), (by (rfl)), (by (exact H')), ⟨by have := HJ1.out; have := HJ4.out; (omega)⟩, by repeat (first | exact Drawn0.refl _ | apply Drawn0.step)⟩
          rw [if_neg c11] at H
          exact absurd H (by simp)
        rw [if_neg c10] at H
        exact absurd H (by simp)
      replace c9 := Bool.eq_false_iff.mpr c9
      subst c9
      have H1 : (R4Grammar.j2 kj4 a0 x5_4 true) = some (r1, r2, r3) := by rw [if_neg (show ¬ (false = true) by decide)] at H; exact H
      clear H
      have H := H1
      clear H1
      have H' := Aside0.mk H
      clear H
      go_wp2_with (((with_reducible refine gate_callee (f := 155) rfl ?_); refine goesL_ (some 22) rfl rfl Tryz.func155 (by kernel_rfl) rfl #[.string a0, .int .i64 x5_4] rfl (by (try simp only [List.map_toArray, List.map_cons, List.map_nil]); (rfl)) ?_; (with_reducible refine (R4digit.calls a0 x5_4 false _ A8.out).mono ?_); rintro e w' ⟨rfl, ⟨nd, rfl⟩⟩; refine ⟨_, rfl, ?_⟩))
      go_meet
      case rel => exact ⟨_, (true), (by (rfl)), (by (exact H')), ⟨by have := HJ1.out; have := HJ4.out; (omega)⟩, by repeat (first | exact Drawn0.refl _ | apply Drawn0.step)⟩
     case rest =>
      clear HC7
      obtain ⟨kq, x35_6, rfl, HA, HJ6, ⟨mc6, rfl⟩⟩ := hcut
      cases kq with
      | zero => exact absurd HA.out (by simp [R4Grammar.j2])
      | succ kj6 =>
       have H := HA.out
       clear HA
       simp only [R4Grammar.j2] at H
       by_cases c15 : x35_6 = true
       · subst c15
         have H1 : (some (false, 0, 0)) = some (r1, r2, r3) := by rw [if_pos rfl] at H; exact H
         clear H
         have H := H1
         clear H1
         simp only [Option.some.injEq, Prod.mk.injEq] at H
         obtain ⟨rfl, rfl, rfl⟩ := H
         go_wp2
         go_ret3
         try simp only [beq_nil_isEmpty, bytesLess_gtr]
         exact ⟨by (rfl), by repeat (first | exact Drawn0.refl _ | apply Drawn0.step)⟩
       replace c15 := Bool.eq_false_iff.mpr c15
       subst c15
       have H1 : (R4Grammar.l0 kj6 a0 x5_4) = some (r1, r2, r3) := by rw [if_neg (show ¬ (false = true) by decide)] at H; exact H
       clear H
       have H := H1
       clear H1
       have H' := Aside0.mk H
       clear H
       go_wp2
       go_loopg [5] kj6 (fun kq v5 w' => ∃ (x5_4 : Int), v5 = .int .i64 x5_4 ∧ Aside0 (R4Grammar.l0 kq a0 x5_4 = some (r1, r2, r3)) ∧ Aside0 (kq ≤ kj6) ∧ Drawn0 w w')
       case atStart => exact ⟨(x5_4), (by (rfl)), H', ⟨Nat.le_refl _⟩, by repeat (first | exact Drawn0.refl _ | apply Drawn0.step)⟩
       case round =>
        clear H'
        obtain ⟨x5_4, rfl, HA, HK4, ⟨m4, rfl⟩⟩ := hrel
        cases gk with
        | zero => exact absurd HA.out (by simp [R4Grammar.l0])
        | succ k4 =>
         have H := HA.out
         clear HA
         simp only [R4Grammar.l0] at H
         replace H := Option.bind_eq_some_iff.mp H
         obtain ⟨t198, A160, H⟩ := H
         replace H : (if t198 = true then (R4Grammar.l0 k4 a0 (wrap64 (x5_4 + 1))) else (if x5_4 < (a0.size : Int) then (if 0 ≤ x5_4 then (R4Grammar.j4 k4 a0 x5_4 x5_4 ((bt a0 x5_4) == 46)) else (none)) else (R4Grammar.j4 k4 a0 x5_4 x5_4 false))) = some (r1, r2, r3) := H
         have A16 := Aside0.mk A160
         clear A160
         by_cases c17 : t198 = true
         · subst c17
           have H1 : (R4Grammar.l0 k4 a0 (wrap64 (x5_4 + 1))) = some (r1, r2, r3) := by rw [if_pos rfl] at H; exact H
           clear H
           have H := H1
           clear H1
           have H' := Aside0.mk H
           clear H
           go_wp2_with (((with_reducible refine gate_callee (f := 155) rfl ?_); refine goesL_ (some 38) rfl rfl Tryz.func155 (by kernel_rfl) rfl #[.string a0, .int .i64 x5_4] rfl (by (try simp only [List.map_toArray, List.map_cons, List.map_nil]); (rfl)) ?_; (with_reducible refine (R4digit.calls a0 x5_4 true _ A16.out).mono ?_); rintro e w' ⟨rfl, ⟨nd, rfl⟩⟩; refine ⟨_, rfl, ?_⟩))
           go_roundg k4
           case measure => have := HJ1.out; have := HJ4.out; have := HJ6.out; have := HK4.out; omega
           case rel => exact ⟨(wrap64 (x5_4 + 1)), (by (rfl)), (by (exact H')), ⟨by have := HJ1.out; have := HJ4.out; have := HJ6.out; have := HK4.out; omega⟩, by repeat (first | exact Drawn0.refl _ | apply Drawn0.step)⟩
         replace c17 := Bool.eq_false_iff.mpr c17
         subst c17
         have H1 : (if x5_4 < (a0.size : Int) then (if 0 ≤ x5_4 then (R4Grammar.j4 k4 a0 x5_4 x5_4 ((bt a0 x5_4) == 46)) else (none)) else (R4Grammar.j4 k4 a0 x5_4 x5_4 false)) = some (r1, r2, r3) := by rw [if_neg (show ¬ (false = true) by decide)] at H; exact H
         clear H
         have H := H1
         clear H1
         have HC18 := Aside0.mk H
         clear H
         go_upto_region 9 with (((with_reducible refine gate_callee (f := 155) rfl ?_); refine goesL_ (some 38) rfl rfl Tryz.func155 (by kernel_rfl) rfl #[.string a0, .int .i64 x5_4] rfl (by (try simp only [List.map_toArray, List.map_cons, List.map_nil]); (rfl)) ?_; (with_reducible refine (R4digit.calls a0 x5_4 false _ A16.out).mono ?_); rintro e w' ⟨rfl, ⟨nd, rfl⟩⟩; refine ⟨_, rfl, ?_⟩))
         (skip)
         go_cut [51] (fun v51 wc => ∃ (kq : Nat) (x51_17 : Bool), v51 = .bool x51_17 ∧ Aside0 (R4Grammar.j4 kq a0 x5_4 x5_4 x51_17 = some (r1, r2, r3)) ∧ Aside0 (kq ≤ k4) ∧ Drawn0 w wc)
         case first =>
          have H := HC18.out
          clear HC18
          by_cases c19 : x5_4 < (a0.size : Int)
          · rw [if_pos c19] at H
            have c19b0 : decide (x5_4 < (a0.size : Int)) = true := decide_eq_true c19
            clear c19
            (skip)
            by_cases c20 : 0 ≤ x5_4
            · rw [if_pos c20] at H
              have c20b0 : decide (0 ≤ x5_4) = true := decide_eq_true c20
              clear c20
              have H' := Aside0.mk H
              clear H
              have p21 : 0 ≤ (x5_4 : Int) := of_decide_eq_true (by (with_reducible assumption))
              have q21 : x5_4 < (a0.size : Int) := of_decide_eq_true (by (with_reducible assumption))
              have hx21 := bt_at a0 x5_4
              replace p21 := eq_true p21
              replace q21 := eq_true q21
              go_wp2
              go_meet
              case rel => exact ⟨_, (((bt a0 x5_4) == 46)), (by (rfl)), (by (exact H')), ⟨by have := HJ1.out; have := HJ4.out; have := HJ6.out; have := HK4.out; (omega)⟩, by repeat (first | exact Drawn0.refl _ | apply Drawn0.step)⟩
            rw [if_neg c20] at H
            exact absurd H (by simp)
          rw [if_neg c19] at H
          have c19b0 : decide (x5_4 < (a0.size : Int)) = false := decide_eq_false c19
          clear c19
          (skip)
          have H' := Aside0.mk H
          clear H
          go_wp2
          go_meet
          case rel => exact ⟨_, (false), (by (rfl)), (by (exact H')), ⟨by have := HJ1.out; have := HJ4.out; have := HJ6.out; have := HK4.out; (omega)⟩, by repeat (first | exact Drawn0.refl _ | apply Drawn0.step)⟩
         case rest =>
          clear HC18
          obtain ⟨kq, x51_17, rfl, HA, HJ17, ⟨mc17, rfl⟩⟩ := hcut
          cases kq with
          | zero => exact absurd HA.out (by simp [R4Grammar.j4])
          | succ kj17 =>
           have H := HA.out
           clear HA
           simp only [R4Grammar.j4] at H
           have HC22 := Aside0.mk H
           clear H
           go_upto_if 51 with (fail)
           go_cut [5] (fun v5 wc => ∃ (kq : Nat) (x5_21 : Int), v5 = .int .i64 x5_21 ∧ Aside0 (R4Grammar.j6 kq a0 x5_21 x5_4 = some (r1, r2, r3)) ∧ Aside0 (kq ≤ kj17) ∧ Drawn0 w wc)
           case first =>
            have H := HC22.out
            clear HC22
            by_cases c23 : x51_17 = true
            · subst c23
              have H1 : ((R4digit.f a0 (wrap64 (x5_4 + 1))).bind fun t199 => (if t199 = true then (R4Grammar.l1 kj17 a0 (wrap64 (x5_4 + 1)) x5_4) else (some (false, 0, 0)))) = some (r1, r2, r3) := by rw [if_pos rfl] at H; exact H
              clear H
              have H := H1
              clear H1
              replace H := Option.bind_eq_some_iff.mp H
              obtain ⟨t199, A240, H⟩ := H
              replace H : (if t199 = true then (R4Grammar.l1 kj17 a0 (wrap64 (x5_4 + 1)) x5_4) else (some (false, 0, 0))) = some (r1, r2, r3) := H
              have A24 := Aside0.mk A240
              clear A240
              by_cases c25 : t199 = true
              · subst c25
                have H1 : (R4Grammar.l1 kj17 a0 (wrap64 (x5_4 + 1)) x5_4) = some (r1, r2, r3) := by rw [if_pos rfl] at H; exact H
                clear H
                have H := H1
                clear H1
                have H' := Aside0.mk H
                clear H
                go_wp2_with (((with_reducible refine gate_callee (f := 155) rfl ?_); refine goesL_ (some 56) rfl rfl Tryz.func155 (by kernel_rfl) rfl #[.string a0, .int .i64 (wrap64 (x5_4 + 1))] rfl (by (try simp only [List.map_toArray, List.map_cons, List.map_nil]); (rfl)) ?_; (with_reducible refine (R4digit.calls a0 (wrap64 (x5_4 + 1)) true _ A24.out).mono ?_); rintro e w' ⟨rfl, ⟨nd, rfl⟩⟩; refine ⟨_, rfl, ?_⟩))
                go_loopg [5] kj17 (fun kq v5 w' => ∃ (x5_6 : Int), v5 = .int .i64 x5_6 ∧ Aside0 (R4Grammar.l1 kq a0 x5_6 x5_4 = some (r1, r2, r3)) ∧ Aside0 (kq ≤ kj17) ∧ Drawn0 w w')
                case atStart => exact ⟨(wrap64 (x5_4 + 1)), (by (rfl)), H', ⟨Nat.le_refl _⟩, by repeat (first | exact Drawn0.refl _ | apply Drawn0.step)⟩
                case round =>
                 clear H'
                 obtain ⟨x5_6, rfl, HA, HK6, ⟨m6, rfl⟩⟩ := hrel
                 cases gk with
                 | zero => exact absurd HA.out (by simp [R4Grammar.l1])
                 | succ k6 =>
                  have H := HA.out
                  clear HA
                  simp only [R4Grammar.l1] at H
                  replace H := Option.bind_eq_some_iff.mp H
                  obtain ⟨t200, A260, H⟩ := H
                  replace H : (if t200 = true then (R4Grammar.l1 k6 a0 (wrap64 (x5_6 + 1)) x5_4) else (R4Grammar.j6 k6 a0 x5_6 x5_4)) = some (r1, r2, r3) := H
                  have A26 := Aside0.mk A260
                  clear A260
                  by_cases c27 : t200 = true
                  · subst c27
                    have H1 : (R4Grammar.l1 k6 a0 (wrap64 (x5_6 + 1)) x5_4) = some (r1, r2, r3) := by rw [if_pos rfl] at H; exact H
                    clear H
                    have H := H1
                    clear H1
                    have H' := Aside0.mk H
                    clear H
                    go_wp2_with (((with_reducible refine gate_callee (f := 155) rfl ?_); refine goesL_ (some 60) rfl rfl Tryz.func155 (by kernel_rfl) rfl #[.string a0, .int .i64 x5_6] rfl (by (try simp only [List.map_toArray, List.map_cons, List.map_nil]); (rfl)) ?_; (with_reducible refine (R4digit.calls a0 x5_6 true _ A26.out).mono ?_); rintro e w' ⟨rfl, ⟨nd, rfl⟩⟩; refine ⟨_, rfl, ?_⟩))
                    go_roundg k6
                    case measure => have := HJ1.out; have := HJ4.out; have := HJ6.out; have := HK4.out; have := HJ17.out; have := HK6.out; omega
                    case rel => exact ⟨(wrap64 (x5_6 + 1)), (by (rfl)), (by (exact H')), ⟨by have := HJ1.out; have := HJ4.out; have := HJ6.out; have := HK4.out; have := HJ17.out; have := HK6.out; omega⟩, by repeat (first | exact Drawn0.refl _ | apply Drawn0.step)⟩
                  replace c27 := Bool.eq_false_iff.mpr c27
                  subst c27
                  have H1 : (R4Grammar.j6 k6 a0 x5_6 x5_4) = some (r1, r2, r3) := by rw [if_neg (show ¬ (false = true) by decide)] at H; exact H
                  clear H
                  have H := H1
                  clear H1
                  have H' := Aside0.mk H
                  clear H
                  go_wp2_with (((with_reducible refine gate_callee (f := 155) rfl ?_); refine goesL_ (some 60) rfl rfl Tryz.func155 (by kernel_rfl) rfl #[.string a0, .int .i64 x5_6] rfl (by (try simp only [List.map_toArray, List.map_cons, List.map_nil]); (rfl)) ?_; (with_reducible refine (R4digit.calls a0 x5_6 false _ A26.out).mono ?_); rintro e w' ⟨rfl, ⟨nd, rfl⟩⟩; refine ⟨_, rfl, ?_⟩))
                  go_meet
                  case rel => exact ⟨_, (x5_6), (by (rfl)), (by (exact H')), ⟨by have := HJ1.out; have := HJ4.out; have := HJ6.out; have := HK4.out; have := HJ17.out; have := HK6.out; (omega)⟩, by repeat (first | exact Drawn0.refl _ | apply Drawn0.step)⟩
              replace c25 := Bool.eq_false_iff.mpr c25
              subst c25
              have H1 : (some (false, 0, 0)) = some (r1, r2, r3) := by rw [if_neg (show ¬ (false = true) by decide)] at H; exact H
              clear H
              have H := H1
              clear H1
              simp only [Option.some.injEq, Prod.mk.injEq] at H
              obtain ⟨rfl, rfl, rfl⟩ := H
              go_wp2_with (((with_reducible refine gate_callee (f := 155) rfl ?_); refine goesL_ (some 56) rfl rfl Tryz.func155 (by kernel_rfl) rfl #[.string a0, .int .i64 (wrap64 (x5_4 + 1))] rfl (by (try simp only [List.map_toArray, List.map_cons, List.map_nil]); (rfl)) ?_; (with_reducible refine (R4digit.calls a0 (wrap64 (x5_4 + 1)) false _ A24.out).mono ?_); rintro e w' ⟨rfl, ⟨nd, rfl⟩⟩; refine ⟨_, rfl, ?_⟩))
              go_ret3
              try simp only [beq_nil_isEmpty, bytesLess_gtr]
              exact ⟨by (rfl), by repeat (first | exact Drawn0.refl _ | apply Drawn0.step)⟩
            replace c23 := Bool.eq_false_iff.mpr c23
            subst c23
            have H1 : (R4Grammar.j6 kj17 a0 x5_4 x5_4) = some (r1, r2, r3) := by rw [if_neg (show ¬ (false = true) by decide)] at H; exact H
            clear H
            have H := H1
            clear H1
            have H' := Aside0.mk H
            clear H
            go_wp2
            go_meet
            case rel => exact ⟨_, (x5_4), (by (rfl)), (by (exact H')), ⟨by have := HJ1.out; have := HJ4.out; have := HJ6.out; have := HK4.out; have := HJ17.out; (omega)⟩, by repeat (first | exact Drawn0.refl _ | apply Drawn0.step)⟩
           case rest =>
            clear HC22
            obtain ⟨kq, x5_21, rfl, HA, HJ21, ⟨mc21, rfl⟩⟩ := hcut
            cases kq with
            | zero => exact absurd HA.out (by simp [R4Grammar.j6])
            | succ kj21 =>
             have H := HA.out
             clear HA
             simp only [R4Grammar.j6] at H
             have HC28 := Aside0.mk H
             clear H
             go_upto_region 16 with (fail)
             go_cut [79] (fun v79 wc => ∃ (kq : Nat) (x79_27 : Bool), v79 = .bool x79_27 ∧ Aside0 (R4Grammar.j7 kq a0 x5_21 x5_4 x5_21 x79_27 = some (r1, r2, r3)) ∧ Aside0 (kq ≤ kj21) ∧ Drawn0 w wc)
             case first =>
              have H := HC28.out
              clear HC28
              by_cases c29 : x5_21 < (a0.size : Int)
              · rw [if_pos c29] at H
                have c29b0 : decide (x5_21 < (a0.size : Int)) = true := decide_eq_true c29
                clear c29
                (skip)
                by_cases c30 : 0 ≤ x5_21
                · rw [if_pos c30] at H
                  have c30b0 : decide (0 ≤ x5_21) = true := decide_eq_true c30
                  clear c30
                  by_cases c32 : (bt a0 x5_21) = 101
                  · rw [if_pos c32] at H
                    have c32b0 : ((bt a0 x5_21) == 101) = true := beq_iff_eq.mpr c32
                    have c32b1 : ((bt a0 x5_21) != 101) = false := bne_eq_false_iff_eq.mpr c32
                    clear c32
                    have H' := Aside0.mk H
                    clear H
                    have p31 : 0 ≤ (x5_21 : Int) := of_decide_eq_true (by (with_reducible assumption))
                    have q31 : x5_21 < (a0.size : Int) := of_decide_eq_true (by (with_reducible assumption))
                    have hx31 := bt_at a0 x5_21
                    replace p31 := eq_true p31
                    replace q31 := eq_true q31
                    go_wp2
                    go_meet
                    case rel => exact ⟨_, (true), (by (rfl)), (by (exact H')), ⟨by have := HJ1.out; have := HJ4.out; have := HJ6.out; have := HK4.out; have := HJ17.out; have := HJ21.out; (omega)⟩, by repeat (first | exact Drawn0.refl _ | apply Drawn0.step)⟩
                  rw [if_neg c32] at H
                  have c32b0 : ((bt a0 x5_21) == 101) = false := beq_eq_false_iff_ne.mpr c32
                  have c32b1 : ((bt a0 x5_21) != 101) = true := bne_iff_ne.mpr c32
                  have H' := Aside0.mk H
                  clear H
                  have p31 : 0 ≤ (x5_21 : Int) := of_decide_eq_true (by (with_reducible assumption))
                  have q31 : x5_21 < (a0.size : Int) := of_decide_eq_true (by (with_reducible assumption))
                  have hx31 := bt_at a0 x5_21
                  replace p31 := eq_true p31
                  replace q31 := eq_true q31
                  have p33 : 0 ≤ (x5_21 : Int) := of_decide_eq_true (by (with_reducible assumption))
                  have q33 : x5_21 < (a0.size : Int) := of_decide_eq_true (by (with_reducible assumption))
                  have hx33 := bt_at a0 x5_21
                  replace p33 := eq_true p33
                  replace q33 := eq_true q33
                  go_wp2
                  go_meet
                  case rel => exact ⟨_, (((bt a0 x5_21) == 69)), (by (rfl)), (by (exact H')), ⟨by have := HJ1.out; have := HJ4.out; have := HJ6.out; have := HK4.out; have := HJ17.out; have := HJ21.out; (omega)⟩, by repeat (first | exact Drawn0.refl _ | apply Drawn0.step)⟩
                rw [if_neg c30] at H
                exact absurd H (by simp)
              rw [if_neg c29] at H
              have c29b0 : decide (x5_21 < (a0.size : Int)) = false := decide_eq_false c29
              clear c29
              (skip)
              have H' := Aside0.mk H
              clear H
              go_wp2
              go_meet
              case rel => exact ⟨_, (false), (by (rfl)), (by (exact H')), ⟨by have := HJ1.out; have := HJ4.out; have := HJ6.out; have := HK4.out; have := HJ17.out; have := HJ21.out; (omega)⟩, by repeat (first | exact Drawn0.refl _ | apply Drawn0.step)⟩
             case rest =>
              clear HC28
              obtain ⟨kq, x79_27, rfl, HA, HJ27, ⟨mc27, rfl⟩⟩ := hcut
              cases kq with
              | zero => exact absurd HA.out (by simp [R4Grammar.j7])
              | succ kj27 =>
               have H := HA.out
               clear HA
               simp only [R4Grammar.j7] at H
               by_cases c34 : x79_27 = true
               · subst c34
                 have H1 : (if (wrap64 (x5_21 + 1)) < (a0.size : Int) then (if 0 ≤ (wrap64 (x5_21 + 1)) then (if (bt a0 (wrap64 (x5_21 + 1))) = 43 then (R4Grammar.j8 kj27 a0 (wrap64 (x5_21 + 1)) x5_4 x5_21 true) else (R4Grammar.j8 kj27 a0 (wrap64 (x5_21 + 1)) x5_4 x5_21 ((bt a0 (wrap64 (x5_21 + 1))) == 45))) else (none)) else (R4Grammar.j8 kj27 a0 (wrap64 (x5_21 + 1)) x5_4 x5_21 false)) = some (r1, r2, r3) := by rw [if_pos rfl] at H; exact H
                 clear H
                 have H := H1
                 clear H1
                 have HC35 := Aside0.mk H
                 clear H
                 go_upto_region 18 with (fail)
                 go_cut [97] (fun v97 wc => ∃ (kq : Nat) (x97_34 : Bool), v97 = .bool x97_34 ∧ Aside0 (R4Grammar.j8 kq a0 (wrap64 (x5_21 + 1)) x5_4 x5_21 x97_34 = some (r1, r2, r3)) ∧ Aside0 (kq ≤ kj27) ∧ Drawn0 w wc)
                 case first =>
                  have H := HC35.out
                  clear HC35
                  by_cases c36 : (wrap64 (x5_21 + 1)) < (a0.size : Int)
                  · rw [if_pos c36] at H
                    have c36b0 : decide ((wrap64 (x5_21 + 1)) < (a0.size : Int)) = true := decide_eq_true c36
                    clear c36
                    (skip)
                    obtain ⟨ji37, hji37⟩ : ∃ j_ : Int, (wrap64 (x5_21 + 1)) = j_ := ⟨_, rfl⟩
                    replace H : (if 0 ≤ (ji37) then (if (bt a0 (ji37)) = 43 then (R4Grammar.j8 kj27 a0 ji37 x5_4 x5_21 true) else (R4Grammar.j8 kj27 a0 ji37 x5_4 x5_21 ((bt a0 (ji37)) == 45))) else (none)) = some (r1, r2, r3) := by (rw [hji37] at H; exact H)
                    (try rw [hji37] at c36b0)
                    have hji37w : (IntKind.i64.wrap (x5_21 + 1)) = ji37 := (i64_w _).trans hji37
                    by_cases c38 : 0 ≤ (ji37)
                    · rw [if_pos c38] at H
                      have c38b0 : decide (0 ≤ (ji37)) = true := decide_eq_true c38
                      clear c38
                      by_cases c40 : (bt a0 (ji37)) = 43
                      · rw [if_pos c40] at H
                        have c40b0 : ((bt a0 (ji37)) == 43) = true := beq_iff_eq.mpr c40
                        have c40b1 : ((bt a0 (ji37)) != 43) = false := bne_eq_false_iff_eq.mpr c40
                        clear c40
                        have H' := Aside0.mk H
                        clear H
                        have p39 : 0 ≤ ((ji37) : Int) := of_decide_eq_true (by (with_reducible assumption))
                        have q39 : (ji37) < (a0.size : Int) := of_decide_eq_true (by (with_reducible assumption))
                        have hx39 := bt_at a0 (ji37)
                        replace p39 := eq_true p39
                        replace q39 := eq_true q39
                        go_wp2
                        go_meet
                        case rel => exact ⟨_, (true), (by (rfl)), (by (rw [hji37]; exact H')), ⟨by have := HJ1.out; have := HJ4.out; have := HJ6.out; have := HK4.out; have := HJ17.out; have := HJ21.out; have := HJ27.out; (omega)⟩, by repeat (first | exact Drawn0.refl _ | apply Drawn0.step)⟩
                      rw [if_neg c40] at H
                      have c40b0 : ((bt a0 (ji37)) == 43) = false := beq_eq_false_iff_ne.mpr c40
                      have c40b1 : ((bt a0 (ji37)) != 43) = true := bne_iff_ne.mpr c40
                      have H' := Aside0.mk H
                      clear H
                      have p39 : 0 ≤ ((ji37) : Int) := of_decide_eq_true (by (with_reducible assumption))
                      have q39 : (ji37) < (a0.size : Int) := of_decide_eq_true (by (with_reducible assumption))
                      have hx39 := bt_at a0 (ji37)
                      replace p39 := eq_true p39
                      replace q39 := eq_true q39
                      have p41 : 0 ≤ ((ji37) : Int) := of_decide_eq_true (by (with_reducible assumption))
                      have q41 : (ji37) < (a0.size : Int) := of_decide_eq_true (by (with_reducible assumption))
                      have hx41 := bt_at a0 (ji37)
                      replace p41 := eq_true p41
                      replace q41 := eq_true q41
                      go_wp2
                      go_meet
                      case rel => exact ⟨_, (((bt a0 (ji37)) == 45)), (by (rfl)), (by (rw [hji37]; exact H')), ⟨by have := HJ1.out; have := HJ4.out; have := HJ6.out; have := HK4.out; have := HJ17.out; have := HJ21.out; have := HJ27.out; (omega)⟩, by repeat (first | exact Drawn0.refl _ | apply Drawn0.step)⟩
                    rw [if_neg c38] at H
                    exact absurd H (by simp)
                  rw [if_neg c36] at H
                  have c36b0 : decide ((wrap64 (x5_21 + 1)) < (a0.size : Int)) = false := decide_eq_false c36
                  clear c36
                  (skip)
                  have H' := Aside0.mk H
                  clear H
                  go_wp2
                  go_meet
                  case rel => exact ⟨_, (false), (by (rfl)), (by (exact H')), ⟨by have := HJ1.out; have := HJ4.out; have := HJ6.out; have := HK4.out; have := HJ17.out; have := HJ21.out; have := HJ27.out; (omega)⟩, by repeat (first | exact Drawn0.refl _ | apply Drawn0.step)⟩
                 case rest =>
                  clear HC35
                  obtain ⟨kq, x97_34, rfl, HA, HJ34, ⟨mc34, rfl⟩⟩ := hcut
                  cases kq with
                  | zero => exact absurd HA.out (by simp [R4Grammar.j8])
                  | succ kj34 =>
                   have H := HA.out
                   clear HA
                   simp only [R4Grammar.j8] at H
                   have HC42 := Aside0.mk H
                   clear H
                   go_upto_if 97 with (fail)
                   go_cut [5] (fun v5 wc => ∃ (kq : Nat) (x5_41 : Int), v5 = .int .i64 x5_41 ∧ Aside0 (R4Grammar.j9 kq a0 x5_41 x5_4 x5_21 = some (r1, r2, r3)) ∧ Aside0 (kq ≤ kj34) ∧ Drawn0 w wc)
                   case first =>
                    have H := HC42.out
                    clear HC42
                    by_cases c43 : x97_34 = true
                    · subst c43
                      have H1 : (R4Grammar.j9 kj34 a0 (wrap64 ((wrap64 (x5_21 + 1)) + 1)) x5_4 x5_21) = some (r1, r2, r3) := by rw [if_pos rfl] at H; exact H
                      clear H
                      have H := H1
                      clear H1
                      have H' := Aside0.mk H
                      clear H
                      go_wp2
                      go_meet
                      case rel => exact ⟨_, (wrap64 ((wrap64 (x5_21 + 1)) + 1)), (by (rfl)), (by (exact H')), ⟨by have := HJ1.out; have := HJ4.out; have := HJ6.out; have := HK4.out; have := HJ17.out; have := HJ21.out; have := HJ27.out; have := HJ34.out; (omega)⟩, by repeat (first | exact Drawn0.refl _ | apply Drawn0.step)⟩
                    replace c43 := Bool.eq_false_iff.mpr c43
                    subst c43
                    have H1 : (R4Grammar.j9 kj34 a0 (wrap64 (x5_21 + 1)) x5_4 x5_21) = some (r1, r2, r3) := by rw [if_neg (show ¬ (false = true) by decide)] at H; exact H
                    clear H
                    have H := H1
                    clear H1
                    have H' := Aside0.mk H
                    clear H
                    go_wp2
                    go_meet
                    case rel => exact ⟨_, ((wrap64 (x5_21 + 1))), (by (rfl)), (by (exact H')), ⟨by have := HJ1.out; have := HJ4.out; have := HJ6.out; have := HK4.out; have := HJ17.out; have := HJ21.out; have := HJ27.out; have := HJ34.out; (omega)⟩, by repeat (first | exact Drawn0.refl _ | apply Drawn0.step)⟩
                   case rest =>
                    clear HC42
                    obtain ⟨kq, x5_41, rfl, HA, HJ41, ⟨mc41, rfl⟩⟩ := hcut
                    cases kq with
                    | zero => exact absurd HA.out (by simp [R4Grammar.j9])
                    | succ kj41 =>
                     have H := HA.out
                     clear HA
                     simp only [R4Grammar.j9] at H
                     replace H := Option.bind_eq_some_iff.mp H
                     obtain ⟨t201, A440, H⟩ := H
                     replace H : (if t201 = true then (R4Grammar.l2 kj41 a0 x5_41 x5_4 x5_21) else (some (false, 0, 0))) = some (r1, r2, r3) := H
                     have A44 := Aside0.mk A440
                     clear A440
                     by_cases c45 : t201 = true
                     · subst c45
                       have H1 : (R4Grammar.l2 kj41 a0 x5_41 x5_4 x5_21) = some (r1, r2, r3) := by rw [if_pos rfl] at H; exact H
                       clear H
                       have H := H1
                       clear H1
                       have H' := Aside0.mk H
                       clear H
                       go_wp2_with (((with_reducible refine gate_callee (f := 155) rfl ?_); refine goesL_ (some 102) rfl rfl Tryz.func155 (by kernel_rfl) rfl #[.string a0, .int .i64 x5_41] rfl (by (try simp only [List.map_toArray, List.map_cons, List.map_nil]); (rfl)) ?_; (with_reducible refine (R4digit.calls a0 x5_41 true _ A44.out).mono ?_); rintro e w' ⟨rfl, ⟨nd, rfl⟩⟩; refine ⟨_, rfl, ?_⟩))
                       go_loopg [5] kj41 (fun kq v5 w' => ∃ (x5_10 : Int), v5 = .int .i64 x5_10 ∧ Aside0 (R4Grammar.l2 kq a0 x5_10 x5_4 x5_21 = some (r1, r2, r3)) ∧ Aside0 (kq ≤ kj41) ∧ Drawn0 w w')
                       case atStart => exact ⟨(x5_41), (by (rfl)), H', ⟨Nat.le_refl _⟩, by repeat (first | exact Drawn0.refl _ | apply Drawn0.step)⟩
                       case round =>
                        clear H'
                        obtain ⟨x5_10, rfl, HA, HK10, ⟨m10, rfl⟩⟩ := hrel
                        cases gk with
                        | zero => exact absurd HA.out (by simp [R4Grammar.l2])
                        | succ k10 =>
                         have H := HA.out
                         clear HA
                         simp only [R4Grammar.l2] at H
                         replace H := Option.bind_eq_some_iff.mp H
                         obtain ⟨t202, A460, H⟩ := H
                         replace H : (if t202 = true then (R4Grammar.l2 k10 a0 (wrap64 (x5_10 + 1)) x5_4 x5_21) else (some ((x5_10 == (a0.size : Int)), x5_4, x5_21))) = some (r1, r2, r3) := H
                         have A46 := Aside0.mk A460
                         clear A460
                         by_cases c47 : t202 = true
                         · subst c47
                           have H1 : (R4Grammar.l2 k10 a0 (wrap64 (x5_10 + 1)) x5_4 x5_21) = some (r1, r2, r3) := by rw [if_pos rfl] at H; exact H
                           clear H
                           have H := H1
                           clear H1
                           have H' := Aside0.mk H
                           clear H
                           go_wp2_with (((with_reducible refine gate_callee (f := 155) rfl ?_); refine goesL_ (some 106) rfl rfl Tryz.func155 (by kernel_rfl) rfl #[.string a0, .int .i64 x5_10] rfl (by (try simp only [List.map_toArray, List.map_cons, List.map_nil]); (rfl)) ?_; (with_reducible refine (R4digit.calls a0 x5_10 true _ A46.out).mono ?_); rintro e w' ⟨rfl, ⟨nd, rfl⟩⟩; refine ⟨_, rfl, ?_⟩))
                           go_roundg k10
                           case measure => have := HJ1.out; have := HJ4.out; have := HJ6.out; have := HK4.out; have := HJ17.out; have := HJ21.out; have := HJ27.out; have := HJ34.out; have := HJ41.out; have := HK10.out; omega
                           case rel => exact ⟨(wrap64 (x5_10 + 1)), (by (rfl)), (by (exact H')), ⟨by have := HJ1.out; have := HJ4.out; have := HJ6.out; have := HK4.out; have := HJ17.out; have := HJ21.out; have := HJ27.out; have := HJ34.out; have := HJ41.out; have := HK10.out; omega⟩, by repeat (first | exact Drawn0.refl _ | apply Drawn0.step)⟩
                         replace c47 := Bool.eq_false_iff.mpr c47
                         subst c47
                         have H1 : (some ((x5_10 == (a0.size : Int)), x5_4, x5_21)) = some (r1, r2, r3) := by rw [if_neg (show ¬ (false = true) by decide)] at H; exact H
                         clear H
                         have H := H1
                         clear H1
                         simp only [Option.some.injEq, Prod.mk.injEq] at H
                         obtain ⟨rfl, rfl, rfl⟩ := H
                         go_wp2_with (((with_reducible refine gate_callee (f := 155) rfl ?_); refine goesL_ (some 106) rfl rfl Tryz.func155 (by kernel_rfl) rfl #[.string a0, .int .i64 x5_10] rfl (by (try simp only [List.map_toArray, List.map_cons, List.map_nil]); (rfl)) ?_; (with_reducible refine (R4digit.calls a0 x5_10 false _ A46.out).mono ?_); rintro e w' ⟨rfl, ⟨nd, rfl⟩⟩; refine ⟨_, rfl, ?_⟩))
                         go_ret3
                         try simp only [beq_nil_isEmpty, bytesLess_gtr]
                         exact ⟨by (rfl), by repeat (first | exact Drawn0.refl _ | apply Drawn0.step)⟩
                     replace c45 := Bool.eq_false_iff.mpr c45
                     subst c45
                     have H1 : (some (false, 0, 0)) = some (r1, r2, r3) := by rw [if_neg (show ¬ (false = true) by decide)] at H; exact H
                     clear H
                     have H := H1
                     clear H1
                     simp only [Option.some.injEq, Prod.mk.injEq] at H
                     obtain ⟨rfl, rfl, rfl⟩ := H
                     go_wp2_with (((with_reducible refine gate_callee (f := 155) rfl ?_); refine goesL_ (some 102) rfl rfl Tryz.func155 (by kernel_rfl) rfl #[.string a0, .int .i64 x5_41] rfl (by (try simp only [List.map_toArray, List.map_cons, List.map_nil]); (rfl)) ?_; (with_reducible refine (R4digit.calls a0 x5_41 false _ A44.out).mono ?_); rintro e w' ⟨rfl, ⟨nd, rfl⟩⟩; refine ⟨_, rfl, ?_⟩))
                     go_ret3
                     try simp only [beq_nil_isEmpty, bytesLess_gtr]
                     exact ⟨by (rfl), by repeat (first | exact Drawn0.refl _ | apply Drawn0.step)⟩
               replace c34 := Bool.eq_false_iff.mpr c34
               subst c34
               have H1 : (some ((x5_21 == (a0.size : Int)), x5_4, x5_21)) = some (r1, r2, r3) := by rw [if_neg (show ¬ (false = true) by decide)] at H; exact H
               clear H
               have H := H1
               clear H1
               simp only [Option.some.injEq, Prod.mk.injEq] at H
               obtain ⟨rfl, rfl, rfl⟩ := H
               go_wp2
               go_ret3
               try simp only [beq_nil_isEmpty, bytesLess_gtr]
               exact ⟨by (rfl), by repeat (first | exact Drawn0.refl _ | apply Drawn0.step)⟩
def R4Right.l0 : Nat → Int → Bool → ByteArray → Int → Option (Bool)
 | 0, _, _, _, _ => none
 | k + 1, x3, x204000, x204001, x204002 => if x3 < (x204001.size : Int) then ((R4digit.f x204001 x3).bind fun t204 => (if t204 = true then (R4Right.l0 k (wrap64 (x3 + 1)) x204000 x204001 x204002) else (some false))) else (if (x204001.size : Int) ≤ 40 then (if 0 < (x204001.size : Int) then (if (bt x204001 0) = 48 then (some false) else (if 0 ≤ (wrap64 ((x204001.size : Int) - 1)) then (if (wrap64 ((x204001.size : Int) - 1)) < (x204001.size : Int) then (if (bt x204001 (wrap64 ((x204001.size : Int) - 1))) = 48 then (some false) else (if x204002 > (-1000) then (some (decide (x204002 < 1000))) else (some false))) else (none)) else (none))) else (none)) else (some false))
def R4Right.f (k : Nat) (a0_0 : Bool) (a0_1 : ByteArray) (a0_2 : Int) : Option (Bool) := if a0_1.toList = ([] : List UInt8) then (if a0_0 = true then (some false) else (some (a0_2 == 0))) else (R4Right.l0 k 0 a0_0 a0_1 a0_2)
set_option maxHeartbeats 8000000 in
set_option maxRecDepth 100000 in
theorem R4Right.calls (k : Nat) (a0_0 : Bool) (a0_1 : ByteArray) (a0_2 : Int) (r : Bool) (w : World) (h : R4Right.f k a0_0 a0_1 a0_2 = some r) :
    Calls Tryz.prog 141 #[.agg #[.bool a0_0, .string a0_1, .int .i64 a0_2]] w fun e w' => e = .returned (.bool r) ∧ Below w.heap.size w w' := by
 have hu32 := Tryz.underlying32
 have HB := Aside0.mk (Below.refl w.heap.size w)
 have H : (if a0_1.toList = ([] : List UInt8) then (if a0_0 = true then (some false) else (some (a0_2 == 0))) else (R4Right.l0 k 0 a0_0 a0_1 a0_2)) = some r := h
 clear h
 by_cases c2 : a0_1.toList = ([] : List UInt8)
 · rw [if_pos c2] at H
   have c2b0 : (a0_1.toList == ([] : List UInt8)) = true := beq_iff_eq.mpr c2
   by_cases c3 : a0_0 = true
   · subst c3
     have H1 : (some false) = some r := by rw [if_pos rfl] at H; exact H
     clear H
     have H := H1
     clear H1
     obtain rfl := Option.some.inj H
     go_enter Tryz.func141, Tryz.ntmps141
     go_wp2_with (((with_reducible refine gate_dst (N := 1) rfl ?_); (try (refine gate_guard (by rfl) ?_; dsimp only)); refine box_event ?hg (N := 1) ?hd (cs := #[.bool true, .string a0_1, .int .i64 a0_2]) (t := 32) ?hr ?_; (case hd => rfl); (case hg => rfl); (case hr => (go_simp; done)); intro gb203 hg w4 hbox hb; have n0_ := Aside0.mk (below_step (by repeat ((with_reducible (exact HB.out)))) hb); have n1_ := Aside0.mk (hbox); have n2_ := Aside0.mk ((by rw [hg]; exact (below_size (by repeat ((with_reducible (exact HB.out))))) : w.heap.size ≤ gb203)); have n3_ := Aside0.mk ((by rw [hg]; exact (below_size (by repeat ((with_reducible (exact HB.out))))) : w.heap.size ≤ gb203)); clear HB; have HB := n0_; have BK203 := n1_; have GW203 := n2_; have GE203 := n3_; clear n0_ n1_ n2_ n3_; clear hb hbox hg; have hcz5_0 : w4.cell? ⟨gb203, 0, none⟩ = some (.bool true) := (blk_cell BK203.out 0).trans rfl; have hcz5_1 : w4.cell? ⟨gb203, 1, none⟩ = some (.string a0_1) := (blk_cell BK203.out 1).trans rfl; have hcz5_2 : w4.cell? ⟨gb203, 2, none⟩ = some (.int .i64 a0_2) := (blk_cell BK203.out 2).trans rfl; have hfz5_0 := blk_frozen BK203.out 0; have hfz5_1 := blk_frozen BK203.out 1; have hfz5_2 := blk_frozen BK203.out 2))
     go_ret
     exact ⟨by (rfl), by repeat ((with_reducible (exact HB.out)))⟩
   replace c3 := Bool.eq_false_iff.mpr c3
   subst c3
   have H1 : (some (a0_2 == 0)) = some r := by rw [if_neg (show ¬ (false = true) by decide)] at H; exact H
   clear H
   have H := H1
   clear H1
   obtain rfl := Option.some.inj H
   go_enter Tryz.func141, Tryz.ntmps141
   go_wp2_with (((with_reducible refine gate_dst (N := 1) rfl ?_); (try (refine gate_guard (by rfl) ?_; dsimp only)); refine box_event ?hg (N := 1) ?hd (cs := #[.bool false, .string a0_1, .int .i64 a0_2]) (t := 32) ?hr ?_; (case hd => rfl); (case hg => rfl); (case hr => (go_simp; done)); intro gb203 hg w6 hbox hb; have n0_ := Aside0.mk (below_step (by repeat ((with_reducible (exact HB.out)))) hb); have n1_ := Aside0.mk (hbox); have n2_ := Aside0.mk ((by rw [hg]; exact (below_size (by repeat ((with_reducible (exact HB.out))))) : w.heap.size ≤ gb203)); have n3_ := Aside0.mk ((by rw [hg]; exact (below_size (by repeat ((with_reducible (exact HB.out))))) : w.heap.size ≤ gb203)); clear HB; have HB := n0_; have BK203 := n1_; have GW203 := n2_; have GE203 := n3_; clear n0_ n1_ n2_ n3_; clear hb hbox hg; have hcz7_0 : w6.cell? ⟨gb203, 0, none⟩ = some (.bool false) := (blk_cell BK203.out 0).trans rfl; have hcz7_1 : w6.cell? ⟨gb203, 1, none⟩ = some (.string a0_1) := (blk_cell BK203.out 1).trans rfl; have hcz7_2 : w6.cell? ⟨gb203, 2, none⟩ = some (.int .i64 a0_2) := (blk_cell BK203.out 2).trans rfl; have hfz7_0 := blk_frozen BK203.out 0; have hfz7_1 := blk_frozen BK203.out 1; have hfz7_2 := blk_frozen BK203.out 2))
   go_ret
   exact ⟨by (rfl), by repeat ((with_reducible (exact HB.out)))⟩
 · rw [if_neg c2] at H
   have c2b0 : (a0_1.toList == ([] : List UInt8)) = false := beq_eq_false_iff_ne.mpr c2
   have H' := Aside0.mk H
   clear H
   go_enter Tryz.func141, Tryz.ntmps141
   go_wp2_with (((with_reducible refine gate_dst (N := 1) rfl ?_); (try (refine gate_guard (by rfl) ?_; dsimp only)); refine box_event ?hg (N := 1) ?hd (cs := #[.bool a0_0, .string a0_1, .int .i64 a0_2]) (t := 32) ?hr ?_; (case hd => rfl); (case hg => rfl); (case hr => (go_simp; done)); intro gb203 hg w8 hbox hb; have n0_ := Aside0.mk (below_step (by repeat ((with_reducible (exact HB.out)))) hb); have n1_ := Aside0.mk (hbox); have n2_ := Aside0.mk ((by rw [hg]; exact (below_size (by repeat ((with_reducible (exact HB.out))))) : w.heap.size ≤ gb203)); have n3_ := Aside0.mk ((by rw [hg]; exact (below_size (by repeat ((with_reducible (exact HB.out))))) : w.heap.size ≤ gb203)); clear HB; have HB := n0_; have BK203 := n1_; have GW203 := n2_; have GE203 := n3_; clear n0_ n1_ n2_ n3_; clear hb hbox hg; have hcz9_0 : w8.cell? ⟨gb203, 0, none⟩ = some (.bool a0_0) := (blk_cell BK203.out 0).trans rfl; have hcz9_1 : w8.cell? ⟨gb203, 1, none⟩ = some (.string a0_1) := (blk_cell BK203.out 1).trans rfl; have hcz9_2 : w8.cell? ⟨gb203, 2, none⟩ = some (.int .i64 a0_2) := (blk_cell BK203.out 2).trans rfl; have hfz9_0 := blk_frozen BK203.out 0; have hfz9_1 := blk_frozen BK203.out 1; have hfz9_2 := blk_frozen BK203.out 2))
   go_loopg [3] k (fun kq v3 w' => ∃ (x3_1 : Int), v3 = .int .i64 x3_1 ∧ Aside0 (R4Right.l0 kq x3_1 a0_0 a0_1 a0_2 = some r) ∧ Aside0 (kq ≤ k) ∧ Aside0 (w'.heap[gb203]? = some (.cells #[.bool a0_0, .string a0_1, .int .i64 a0_2] 32 (0, 0))) ∧ Aside0 (Below w.heap.size w w'))
   case atStart => exact ⟨(0), (by (rfl)), H', ⟨Nat.le_refl _⟩, ⟨by (with_reducible repeat (first | refine blk_drewN ?_ _ | refine blk_drew ?_ | refine blk_alloc ?_ _)); exact BK203.out⟩, ⟨by repeat ((with_reducible (exact HB.out)))⟩⟩
   case round =>
    clear H'
    try clear c2
    try clear c2b0
    try clear c2b1
    try clear hcz9_0
    try clear hcz9_1
    try clear hcz9_2
    try clear hfz9_0
    try clear hfz9_1
    try clear hfz9_2
    obtain ⟨x3_1, rfl, HA, HK1, BK203, HB⟩ := hrel
    cases gk with
    | zero => exact absurd HA.out (by simp [R4Right.l0])
    | succ k1 =>
     have H := HA.out
     clear HA
     simp only [R4Right.l0] at H
     by_cases c10 : x3_1 < (a0_1.size : Int)
     · rw [if_pos c10] at H
       have c10b0 : decide (x3_1 < (a0_1.size : Int)) = true := decide_eq_true c10
       replace H := Option.bind_eq_some_iff.mp H
       obtain ⟨t204, A110, H⟩ := H
       have A11 := Aside0.mk A110
       clear A110
       by_cases c12 : t204 = true
       · subst c12
         have H1 : (R4Right.l0 k1 (wrap64 (x3_1 + 1)) a0_0 a0_1 a0_2) = some r := by rw [if_pos rfl] at H; exact H
         clear H
         have H := H1
         clear H1
         have H' := Aside0.mk H
         clear H
         have hcz13_0 : wr.cell? ⟨gb203, 0, none⟩ = some (.bool a0_0) := (blk_cell BK203.out 0).trans rfl
         have hcz13_1 : wr.cell? ⟨gb203, 1, none⟩ = some (.string a0_1) := (blk_cell BK203.out 1).trans rfl
         have hcz13_2 : wr.cell? ⟨gb203, 2, none⟩ = some (.int .i64 a0_2) := (blk_cell BK203.out 2).trans rfl
         go_wp2_with (((with_reducible refine gate_callee (f := 155) rfl ?_); refine goesL_ (some 25) rfl rfl Tryz.func155 (by kernel_rfl) rfl #[.string a0_1, .int .i64 x3_1] rfl (by (try simp only [List.map_toArray, List.map_cons, List.map_nil]); (rfl)) ?_; (with_reducible refine (R4digit.calls a0_1 x3_1 true _ A11.out).mono ?_); rintro e w' ⟨rfl, ⟨nd, rfl⟩⟩; refine ⟨_, rfl, ?_⟩))
         go_roundg k1
         case measure => have := HK1.out; omega
         case rel => exact ⟨(wrap64 (x3_1 + 1)), (by (rfl)), (by (exact H')), ⟨by have := HK1.out; omega⟩, ⟨by (with_reducible repeat (refine blk_drewN ?_ _)); exact BK203.out⟩, ⟨by repeat ((with_reducible first | exact HB.out | apply pw_below_drewN ))⟩⟩
       replace c12 := Bool.eq_false_iff.mpr c12
       subst c12
       have H1 : (some false) = some r := by rw [if_neg (show ¬ (false = true) by decide)] at H; exact H
       clear H
       have H := H1
       clear H1
       obtain rfl := Option.some.inj H
       have hcz14_0 : wr.cell? ⟨gb203, 0, none⟩ = some (.bool a0_0) := (blk_cell BK203.out 0).trans rfl
       have hcz14_1 : wr.cell? ⟨gb203, 1, none⟩ = some (.string a0_1) := (blk_cell BK203.out 1).trans rfl
       have hcz14_2 : wr.cell? ⟨gb203, 2, none⟩ = some (.int .i64 a0_2) := (blk_cell BK203.out 2).trans rfl
       go_wp2_with (((with_reducible refine gate_callee (f := 155) rfl ?_); refine goesL_ (some 25) rfl rfl Tryz.func155 (by kernel_rfl) rfl #[.string a0_1, .int .i64 x3_1] rfl (by (try simp only [List.map_toArray, List.map_cons, List.map_nil]); (rfl)) ?_; (with_reducible refine (R4digit.calls a0_1 x3_1 false _ A11.out).mono ?_); rintro e w' ⟨rfl, ⟨nd, rfl⟩⟩; refine ⟨_, rfl, ?_⟩))
       go_ret
       exact ⟨by (rfl), by repeat ((with_reducible first | exact HB.out | apply pw_below_drewN ))⟩
     rw [if_neg c10] at H
     have c10b0 : decide (x3_1 < (a0_1.size : Int)) = false := decide_eq_false c10
     by_cases c15 : (a0_1.size : Int) ≤ 40
     · rw [if_pos c15] at H
       have c15b0 : decide ((a0_1.size : Int) ≤ 40) = true := decide_eq_true c15
       have c15b1 : decide (a0_1.size ≤ 40) = true := decide_eq_true (by omega)
       by_cases c16 : 0 < (a0_1.size : Int)
       · rw [if_pos c16] at H
         have c16b0 : decide (0 < (a0_1.size : Int)) = true := decide_eq_true c16
         have c16b1 : decide (0 < a0_1.size) = true := decide_eq_true (by omega)
         by_cases c18 : (bt a0_1 0) = 48
         · rw [if_pos c18] at H
           have c18b0 : ((bt a0_1 0) == 48) = true := beq_iff_eq.mpr c18
           have c18b1 : ((bt a0_1 0) != 48) = false := bne_eq_false_iff_eq.mpr c18
           obtain rfl := Option.some.inj H
           have hcz19_0 : wr.cell? ⟨gb203, 0, none⟩ = some (.bool a0_0) := (blk_cell BK203.out 0).trans rfl
           have hcz19_1 : wr.cell? ⟨gb203, 1, none⟩ = some (.string a0_1) := (blk_cell BK203.out 1).trans rfl
           have hcz19_2 : wr.cell? ⟨gb203, 2, none⟩ = some (.int .i64 a0_2) := (blk_cell BK203.out 2).trans rfl
           have p17 : 0 ≤ (0 : Int) := (by omega)
           have q17 : 0 < a0_1.size := (by have : (0 : Int) < (a0_1.size : Int) := of_decide_eq_true (by (with_reducible assumption)); omega)
           have hx17 : ∀ h : 0 < a0_1.size, ((a0_1[0]'h).toNat : Int) = bt a0_1 0 := bt_at a0_1 0
           clear p17
           go_wp2
           go_ret
           exact ⟨by (rfl), by repeat ((with_reducible (exact HB.out)))⟩
         rw [if_neg c18] at H
         have c18b0 : ((bt a0_1 0) == 48) = false := beq_eq_false_iff_ne.mpr c18
         have c18b1 : ((bt a0_1 0) != 48) = true := bne_iff_ne.mpr c18
         obtain ⟨ji20, hji20⟩ : ∃ j_ : Int, (wrap64 ((a0_1.size : Int) - 1)) = j_ := ⟨_, rfl⟩
         replace H : (if 0 ≤ (ji20) then (if (ji20) < (a0_1.size : Int) then (if (bt a0_1 (ji20)) = 48 then (some false) else (if a0_2 > (-1000) then (some (decide (a0_2 < 1000))) else (some false))) else (none)) else (none)) = some r := by (rw [hji20] at H; exact H)
         have hji20w : (IntKind.i64.wrap ((a0_1.size : Int) - 1)) = ji20 := (i64_w _).trans hji20
         by_cases c21 : 0 ≤ (ji20)
         · rw [if_pos c21] at H
           have c21b0 : decide (0 ≤ (ji20)) = true := decide_eq_true c21
           by_cases c22 : (ji20) < (a0_1.size : Int)
           · rw [if_pos c22] at H
             have c22b0 : decide ((ji20) < (a0_1.size : Int)) = true := decide_eq_true c22
             by_cases c24 : (bt a0_1 (ji20)) = 48
             · rw [if_pos c24] at H
               have c24b0 : ((bt a0_1 (ji20)) == 48) = true := beq_iff_eq.mpr c24
               have c24b1 : ((bt a0_1 (ji20)) != 48) = false := bne_eq_false_iff_eq.mpr c24
               obtain rfl := Option.some.inj H
               have hcz25_0 : wr.cell? ⟨gb203, 0, none⟩ = some (.bool a0_0) := (blk_cell BK203.out 0).trans rfl
               have hcz25_1 : wr.cell? ⟨gb203, 1, none⟩ = some (.string a0_1) := (blk_cell BK203.out 1).trans rfl
               have hcz25_2 : wr.cell? ⟨gb203, 2, none⟩ = some (.int .i64 a0_2) := (blk_cell BK203.out 2).trans rfl
               have p17 : 0 ≤ (0 : Int) := (by omega)
               have q17 : 0 < a0_1.size := (by have : (0 : Int) < (a0_1.size : Int) := of_decide_eq_true (by (with_reducible assumption)); omega)
               have hx17 : ∀ h : 0 < a0_1.size, ((a0_1[0]'h).toNat : Int) = bt a0_1 0 := bt_at a0_1 0
               clear p17
               have p23 : 0 ≤ ((ji20) : Int) := of_decide_eq_true (by (with_reducible assumption))
               have q23 : (ji20) < (a0_1.size : Int) := of_decide_eq_true (by (with_reducible assumption))
               have hx23 := bt_at a0_1 (ji20)
               replace p23 := eq_true p23
               go_wp2
               go_ret
               exact ⟨by (rfl), by repeat ((with_reducible (exact HB.out)))⟩
             rw [if_neg c24] at H
             have c24b0 : ((bt a0_1 (ji20)) == 48) = false := beq_eq_false_iff_ne.mpr c24
             have c24b1 : ((bt a0_1 (ji20)) != 48) = true := bne_iff_ne.mpr c24
             by_cases c26 : a0_2 > (-1000)
             · rw [if_pos c26] at H
               have c26b0 : decide ((-1000) < a0_2) = true := decide_eq_true c26
               obtain rfl := Option.some.inj H
               have hcz27_0 : wr.cell? ⟨gb203, 0, none⟩ = some (.bool a0_0) := (blk_cell BK203.out 0).trans rfl
               have hcz27_1 : wr.cell? ⟨gb203, 1, none⟩ = some (.string a0_1) := (blk_cell BK203.out 1).trans rfl
               have hcz27_2 : wr.cell? ⟨gb203, 2, none⟩ = some (.int .i64 a0_2) := (blk_cell BK203.out 2).trans rfl
               have p17 : 0 ≤ (0 : Int) := (by omega)
               have q17 : 0 < a0_1.size := (by have : (0 : Int) < (a0_1.size : Int) := of_decide_eq_true (by (with_reducible assumption)); omega)
               have hx17 : ∀ h : 0 < a0_1.size, ((a0_1[0]'h).toNat : Int) = bt a0_1 0 := bt_at a0_1 0
               clear p17
               have p23 : 0 ≤ ((ji20) : Int) := of_decide_eq_true (by (with_reducible assumption))
               have q23 : (ji20) < (a0_1.size : Int) := of_decide_eq_true (by (with_reducible assumption))
               have hx23 := bt_at a0_1 (ji20)
               replace p23 := eq_true p23
               go_wp2
               go_ret
               exact ⟨by (rfl), by repeat ((with_reducible (exact HB.out)))⟩
             rw [if_neg c26] at H
             have c26b0 : decide ((-1000) < a0_2) = false := decide_eq_false c26
             obtain rfl := Option.some.inj H
             have hcz28_0 : wr.cell? ⟨gb203, 0, none⟩ = some (.bool a0_0) := (blk_cell BK203.out 0).trans rfl
             have hcz28_1 : wr.cell? ⟨gb203, 1, none⟩ = some (.string a0_1) := (blk_cell BK203.out 1).trans rfl
             have hcz28_2 : wr.cell? ⟨gb203, 2, none⟩ = some (.int .i64 a0_2) := (blk_cell BK203.out 2).trans rfl
             have p17 : 0 ≤ (0 : Int) := (by omega)
             have q17 : 0 < a0_1.size := (by have : (0 : Int) < (a0_1.size : Int) := of_decide_eq_true (by (with_reducible assumption)); omega)
             have hx17 : ∀ h : 0 < a0_1.size, ((a0_1[0]'h).toNat : Int) = bt a0_1 0 := bt_at a0_1 0
             clear p17
             have p23 : 0 ≤ ((ji20) : Int) := of_decide_eq_true (by (with_reducible assumption))
             have q23 : (ji20) < (a0_1.size : Int) := of_decide_eq_true (by (with_reducible assumption))
             have hx23 := bt_at a0_1 (ji20)
             replace p23 := eq_true p23
             go_wp2
             go_ret
             exact ⟨by (rfl), by repeat ((with_reducible (exact HB.out)))⟩
           rw [if_neg c22] at H
           exact absurd H (by simp)
         rw [if_neg c21] at H
         exact absurd H (by simp)
       rw [if_neg c16] at H
       exact absurd H (by simp)
     rw [if_neg c15] at H
     have c15b0 : decide ((a0_1.size : Int) ≤ 40) = false := decide_eq_false c15
     have c15b1 : decide (a0_1.size ≤ 40) = false := decide_eq_false (by omega)
     obtain rfl := Option.some.inj H
     have hcz29_0 : wr.cell? ⟨gb203, 0, none⟩ = some (.bool a0_0) := (blk_cell BK203.out 0).trans rfl
     have hcz29_1 : wr.cell? ⟨gb203, 1, none⟩ = some (.string a0_1) := (blk_cell BK203.out 1).trans rfl
     have hcz29_2 : wr.cell? ⟨gb203, 2, none⟩ = some (.int .i64 a0_2) := (blk_cell BK203.out 2).trans rfl
     go_wp2
     go_ret
     exact ⟨by (rfl), by repeat ((with_reducible (exact HB.out)))⟩
mutual
def R4Parse.l0 : Nat → ByteArray → Int → Int → Int → Bool → ByteArray → Int → Option (Bool × ByteArray × Int × Int)
 | 0, _, _, _, _, _, _, _ => none
 | k + 1, x0, x5, x6, x8, x210000, x210001, x210002 => if x8 < x6 then (if 0 ≤ x8 then (if x8 < (x0.size : Int) then (if (bt x0 x8) = 45 then (R4Parse.l0 k x0 x5 x6 (wrap64 (x8 + 1)) true x210001 x210002) else (if (bt x0 x8) = 46 then (R4Parse.l0 k x0 x5 x6 (wrap64 (x8 + 1)) x210000 x210001 x210002) else (if x210001.toList = ([] : List UInt8) then (if (bt x0 x8) = 48 then (R4Parse.l0 k x0 x5 x6 (wrap64 (x8 + 1)) x210000 x210001 x210002) else (if x8 ≤ (wrap64 (x8 + 1)) then (if (wrap64 (x8 + 1)) ≤ (x0.size : Int) then (if x210001.size + (x0.extract (x8 : Int).toNat ((wrap64 (x8 + 1)) : Int).toNat).size ≤ 9223372036854775807 then (R4Parse.l0 k x0 x5 x6 (wrap64 (x8 + 1)) x210000 (x210001 ++ (x0.extract (x8 : Int).toNat ((wrap64 (x8 + 1)) : Int).toNat)) x210002) else (none)) else (none)) else (none))) else (if x8 ≤ (wrap64 (x8 + 1)) then (if (wrap64 (x8 + 1)) ≤ (x0.size : Int) then (if x210001.size + (x0.extract (x8 : Int).toNat ((wrap64 (x8 + 1)) : Int).toNat).size ≤ 9223372036854775807 then (R4Parse.l0 k x0 x5 x6 (wrap64 (x8 + 1)) x210000 (x210001 ++ (x0.extract (x8 : Int).toNat ((wrap64 (x8 + 1)) : Int).toNat)) x210002) else (none)) else (none)) else (none))))) else (none)) else (none)) else (if x6 > x5 then (R4Parse.j1 k x0 x6 x210000 x210001 (wrap64 ((wrap64 (x5 + 1)) - x6))) else (R4Parse.j1 k x0 x6 x210000 x210001 x210002))
def R4Parse.j1 : Nat → ByteArray → Int → Bool → ByteArray → Int → Option (Bool × ByteArray × Int × Int)
 | 0, _, _, _, _, _ => none
 | k + 1, x0, x6, x210000, x210001, x210002 => R4Parse.l1 k x0 0 false (wrap64 (x6 + 1)) x210000 x210001 x210002
def R4Parse.l1 : Nat → ByteArray → Int → Bool → Int → Bool → ByteArray → Int → Option (Bool × ByteArray × Int × Int)
 | 0, _, _, _, _, _, _, _ => none
 | k + 1, x0, x9, x10, x11, x210000, x210001, x210002 => if x11 < (x0.size : Int) then (if 0 ≤ x11 then (if (bt x0 x11) = 45 then (R4Parse.l1 k x0 x9 true (wrap64 (x11 + 1)) x210000 x210001 x210002) else (if (bt x0 x11) = 43 then (R4Parse.l1 k x0 x9 x10 (wrap64 (x11 + 1)) x210000 x210001 x210002) else (R4Parse.l1 k x0 (mn (wrap64 ((wrap64 ((wrap64 (10 * x9)) + (wrap64 (bt x0 x11)))) - 48)) 1000000) x10 (wrap64 (x11 + 1)) x210000 x210001 x210002))) else (none)) else (if x10 = true then (R4Parse.j3 k (wrap64 (-x9)) x210000 x210001 x210002) else (R4Parse.j3 k x9 x210000 x210001 x210002))
def R4Parse.j3 : Nat → Int → Bool → ByteArray → Int → Option (Bool × ByteArray × Int × Int)
 | 0, _, _, _, _ => none
 | k + 1, x9, x210000, x210001, x210002 => R4Parse.l2 k x210000 x210001 (wrap64 (x210002 + x9))
def R4Parse.j5 : Nat → Bool → ByteArray → Int → Option (Bool × ByteArray × Int × Int)
 | 0, _, _, _ => none
 | k + 1, x210000, x210001, x210002 => if x210001.toList = ([] : List UInt8) then (some (false, (⟨#[]⟩ : ByteArray), 0, 0)) else ((R4Right.f k x210000 x210001 x210002).bind fun t210 => (if t210 = true then (some (x210000, x210001, x210002, 0)) else (some (false, (⟨#[]⟩ : ByteArray), 0, 13))))
def R4Parse.l2 : Nat → Bool → ByteArray → Int → Option (Bool × ByteArray × Int × Int)
 | 0, _, _, _ => none
 | k + 1, x210000, x210001, x210002 => if (x210001.size : Int) > 0 then (if 0 ≤ (wrap64 ((x210001.size : Int) - 1)) then (if (wrap64 ((x210001.size : Int) - 1)) < (x210001.size : Int) then (if (bt x210001 (wrap64 ((x210001.size : Int) - 1))) = 48 then (if (wrap64 ((x210001.size : Int) - 1)) ≤ (x210001.size : Int) then (R4Parse.l2 k x210000 (x210001.extract 0 ((wrap64 ((x210001.size : Int) - 1)) : Int).toNat) (wrap64 (x210002 + 1))) else (none)) else (R4Parse.j5 k x210000 x210001 x210002)) else (none)) else (none)) else (R4Parse.j5 k x210000 x210001 x210002)
end
def R4Parse.f (k : Nat) (a0 : ByteArray) : Option (Bool × ByteArray × Int × Int) := (R4Grammar.f k a0).bind fun bt206 => (if bt206.1 = true then (R4Parse.l0 k a0 bt206.2.1 bt206.2.2 0 false (⟨#[]⟩ : ByteArray) 0) else (some (false, (⟨#[]⟩ : ByteArray), 0, 11)))
def R4Parse.T11 : Bool × List (List Nat × List Nat) := (true, [([], []), ([0], [0]), ([], []), ([], []), ([], []), ([4], [4]), ([2, 3, 5], [2, 3, 5]), ([1, 6], [1, 6]), ([0, 1, 2, 3, 4, 5, 6, 7], []), ([8, 7, 0, 1, 2, 3, 4, 5, 6, 7], [7, 8])])
def R4Parse.B11 : List Nat := [0, 1, 0, 0, 0, 16, 60, 127, 255, 511]
theorem R4Parse.tab11 : rtab .any (opsOf Tryz.f110 11) = R4Parse.T11 := by kernel_rfl
theorem R4Parse.bits11 : waitsOk R4Parse.T11.2 R4Parse.B11 = true := by kernel_rfl
set_option maxHeartbeats 8000000 in
set_option maxRecDepth 100000 in
theorem R4Parse.calls (k : Nat) (a0 : ByteArray) (r1 : Bool) (r2 : ByteArray) (r3 : Int) (r4 : Int) (w : World) (h : R4Parse.f k a0 = some (r1, r2, r3, r4)) :
    Calls Tryz.prog 110 #[.string a0] w fun e w' => e = .returned (.tuple #[.agg #[.bool r1, .string r2, .int .i64 r3], .int .i64 r4]) ∧ Below w.heap.size w w' := by
 have hu32 := Tryz.underlying32
 have HB := Aside0.mk (Below.refl w.heap.size w)
 have H : ((R4Grammar.f k a0).bind fun bt206 => (if bt206.1 = true then (R4Parse.l0 k a0 bt206.2.1 bt206.2.2 0 false (⟨#[]⟩ : ByteArray) 0) else (some (false, (⟨#[]⟩ : ByteArray), 0, 11)))) = some (r1, r2, r3, r4) := h
 clear h
 replace H := Option.bind_eq_some_iff.mp H
 obtain ⟨⟨t206, t207, t208⟩, A20, H⟩ := H
 replace H : (if t206 = true then (R4Parse.l0 k a0 t207 t208 0 false (⟨#[]⟩ : ByteArray) 0) else (some (false, (⟨#[]⟩ : ByteArray), 0, 11))) = some (r1, r2, r3, r4) := H
 have A2 := Aside0.mk A20
 clear A20
 by_cases c3 : t206 = true
 · subst c3
   have H1 : (R4Parse.l0 k a0 t207 t208 0 false (⟨#[]⟩ : ByteArray) 0) = some (r1, r2, r3, r4) := by rw [if_pos rfl] at H; exact H
   clear H
   have H := H1
   clear H1
   have H' := Aside0.mk H
   clear H
   go_enter Tryz.func110, Tryz.ntmps110
   go_wp2_with (first | ((with_reducible refine gate_dst (N := 2) rfl ?_); (try (refine gate_guard (by rfl) ?_; dsimp only)); refine box_event ?hg (N := 2) ?hd (cs := #[.bool false, .string (⟨#[]⟩ : ByteArray), .int .i64 0]) (t := 32) ?hr ?_; (case hd => rfl); (case hg => rfl); (case hr => (go_simp; done)); intro gb205 hg w4 hbox hb; have n0_ := Aside0.mk (below_step (by repeat ((with_reducible (exact HB.out)))) hb); have n1_ := Aside0.mk (hbox); have n2_ := Aside0.mk ((by rw [hg]; exact (below_size (by repeat ((with_reducible (exact HB.out))))) : w.heap.size ≤ gb205)); have n3_ := Aside0.mk ((by rw [hg]; exact (below_size (by repeat ((with_reducible (exact HB.out))))) : w.heap.size ≤ gb205)); clear HB; have HB := n0_; have BK205 := n1_; have GW205 := n2_; have GE205 := n3_; clear n0_ n1_ n2_ n3_; clear hb hbox hg) | ((with_reducible refine gate_callee (f := 140) rfl ?_); refine goesL_ (some 15) rfl rfl Tryz.func140 (by kernel_rfl) rfl #[.string a0] rfl (by (try simp only [List.map_toArray, List.map_cons, List.map_nil]); (rfl)) ?_; (with_reducible refine (R4Grammar.calls k a0 true t207 t208 _ A2.out).mono ?_); rintro e w' ⟨rfl, ⟨nd, rfl⟩⟩; refine ⟨_, rfl, ?_⟩; (try (rw [drewN_self w4]; generalize hq_ : World.drewN w4 _ = w4; have n0_ : Aside0 (w4.heap[gb205]? = some (.cells #[.bool false, .string (⟨#[]⟩ : ByteArray), .int .i64 0] 32 (0, 0))) := ⟨by rw [← hq_]; exact (by (with_reducible repeat (refine blk_drewN ?_ _)); exact BK205.out)⟩; have n1_ : Aside0 (Below w.heap.size w w4) := ⟨by rw [← hq_]; exact (by repeat ((with_reducible first | exact HB.out | apply pw_below_drewN )))⟩; clear BK205 HB hq_; have BK205 := n0_; have HB := n1_; clear n0_ n1_))) | ((with_reducible refine gate_dst (N := 7) rfl ?_); (try (refine gate_guard (by rfl) ?_; dsimp only)); refine box_event ?hg (N := 7) ?hd (cs := #[.bool false, .string (⟨#[]⟩ : ByteArray), .int .i64 0]) (t := 32) ?hr ?_; (case hd => rfl); (case hg => rfl); (case hr => (go_simp; done)); intro gb209 hg w5 hbox hb; have n0_ := Aside0.mk (blk_below (g := gb205) (o := .cells #[.bool false, .string (⟨#[]⟩ : ByteArray), .int .i64 0] 32 (0, 0)) (by (with_reducible repeat (first | refine blk_drewN ?_ _ | refine blk_drew ?_ | refine blk_alloc ?_ _)); exact BK205.out) hb); have n1_ := Aside0.mk (below_step (by repeat ((with_reducible (exact HB.out)))) hb); have n2_ := Aside0.mk (hbox); have n3_ := Aside0.mk ((by rw [hg]; exact (below_size (by repeat ((with_reducible (exact HB.out))))) : w.heap.size ≤ gb209)); have n4_ := Aside0.mk ((by rw [hg]; exact (below_size (by repeat ((with_reducible (exact HB.out))))) : w.heap.size ≤ gb209)); have n5_ := Aside0.mk ((by rw [hg]; exact Nat.ne_of_lt (blk_lt (g := gb205) (o := .cells #[.bool false, .string (⟨#[]⟩ : ByteArray), .int .i64 0] 32 (0, 0)) (by (with_reducible repeat (first | refine blk_drewN ?_ _ | refine blk_drew ?_ | refine blk_alloc ?_ _)); exact BK205.out)) : gb205 ≠ gb209)); have n6_ := Aside0.mk ((by rw [hg]; exact Nat.ne_of_gt (blk_lt (g := gb205) (o := .cells #[.bool false, .string (⟨#[]⟩ : ByteArray), .int .i64 0] 32 (0, 0)) (by (with_reducible repeat (first | refine blk_drewN ?_ _ | refine blk_drew ?_ | refine blk_alloc ?_ _)); exact BK205.out)) : gb209 ≠ gb205)); clear BK205; clear HB; have BK205 := n0_; have HB := n1_; have BK209 := n2_; have GW209 := n3_; have GE209 := n4_; have NB205_209 := n5_; have NB209_205 := n6_; clear n0_ n1_ n2_ n3_ n4_ n5_ n6_; clear hb hbox hg; have hnb6 := NB209_205.out; have hnc6 := NB205_209.out; have hcz7_0 : w5.cell? ⟨gb209, 0, none⟩ = some (.bool false) := (blk_cell BK209.out 0).trans rfl; have hcz7_1 : w5.cell? ⟨gb209, 1, none⟩ = some (.string (⟨#[]⟩ : ByteArray)) := (blk_cell BK209.out 1).trans rfl; have hcz7_2 : w5.cell? ⟨gb209, 2, none⟩ = some (.int .i64 0) := (blk_cell BK209.out 2).trans rfl; have hfz7_0 := blk_frozen BK209.out 0; have hfz7_1 := blk_frozen BK209.out 1; have hfz7_2 := blk_frozen BK209.out 2))
   go_loopg [8] k (fun kq v8 w' => ∃ (x8_1 : Int) (x210000_1 : Bool) (x210001_1 : ByteArray), v8 = .int .i64 x8_1 ∧ Aside0 (R4Parse.l0 kq a0 t207 t208 x8_1 x210000_1 x210001_1 0 = some (r1, r2, r3, r4)) ∧ Aside0 (kq ≤ k) ∧ Aside0 (w'.heap[gb205]? = some (.cells #[.bool false, .string (⟨#[]⟩ : ByteArray), .int .i64 0] 32 (0, 0))) ∧ Aside0 (w'.heap[gb209]? = some (.cells #[.bool x210000_1, .string x210001_1, .int .i64 0] 32 (0, 0))) ∧ Aside0 (Below w.heap.size w w'))
   case atStart => exact ⟨(0), (false), ((⟨#[]⟩ : ByteArray)), (by (rfl)), H', ⟨Nat.le_refl _⟩, ⟨by (with_reducible repeat (first | refine blk_drewN ?_ _ | refine blk_drew ?_ | refine blk_alloc ?_ _)); refine blk_far ?_ NB205_209.out _; (with_reducible repeat (first | refine blk_drewN ?_ _ | refine blk_drew ?_ | refine blk_alloc ?_ _)); refine blk_far ?_ NB205_209.out _; (with_reducible repeat (first | refine blk_drewN ?_ _ | refine blk_drew ?_ | refine blk_alloc ?_ _)); refine blk_far ?_ NB205_209.out _; (with_reducible repeat (first | refine blk_drewN ?_ _ | refine blk_drew ?_ | refine blk_alloc ?_ _)); exact BK205.out⟩, ⟨by (with_reducible repeat (first | refine blk_drewN ?_ _ | refine blk_drew ?_ | refine blk_alloc ?_ _)); refine blk_put (cs := #[.bool false, .string (⟨#[]⟩ : ByteArray), .int .i64 0]) ?_ 2 _ rfl; (with_reducible repeat (first | refine blk_drewN ?_ _ | refine blk_drew ?_ | refine blk_alloc ?_ _)); refine blk_put (cs := #[.bool false, .string (⟨#[]⟩ : ByteArray), .int .i64 0]) ?_ 1 _ rfl; (with_reducible repeat (first | refine blk_drewN ?_ _ | refine blk_drew ?_ | refine blk_alloc ?_ _)); refine blk_put (cs := #[.bool false, .string (⟨#[]⟩ : ByteArray), .int .i64 0]) ?_ 0 _ rfl; (with_reducible repeat (first | refine blk_drewN ?_ _ | refine blk_drew ?_ | refine blk_alloc ?_ _)); exact BK209.out⟩, ⟨by repeat ((with_reducible first | exact HB.out | refine below_set ?_ GE209.out))⟩⟩
   case round =>
    clear H'
    try clear hcz7_0
    try clear hcz7_1
    try clear hcz7_2
    try clear hfz7_0
    try clear hfz7_1
    try clear hfz7_2
    obtain ⟨x8_1, x210000_1, x210001_1, rfl, HA, HK1, BK205, BK209, HB⟩ := hrel
    cases gk with
    | zero => exact absurd HA.out (by simp [R4Parse.l0])
    | succ k1 =>
     have H := HA.out
     clear HA
     simp only [R4Parse.l0] at H
     by_cases c8 : x8_1 < t208
     · rw [if_pos c8] at H
       have c8b0 : decide (x8_1 < t208) = true := decide_eq_true c8
       clear c8
       by_cases c9 : 0 ≤ x8_1
       · rw [if_pos c9] at H
         have c9b0 : decide (0 ≤ x8_1) = true := decide_eq_true c9
         clear c9
         by_cases c10 : x8_1 < (a0.size : Int)
         · rw [if_pos c10] at H
           have c10b0 : decide (x8_1 < (a0.size : Int)) = true := decide_eq_true c10
           clear c10
           by_cases c12 : (bt a0 x8_1) = 45
           · rw [if_pos c12] at H
             have c12b0 : ((bt a0 x8_1) == 45) = true := beq_iff_eq.mpr c12
             have c12b1 : ((bt a0 x8_1) != 45) = false := bne_eq_false_iff_eq.mpr c12
             clear c12
             have H' := Aside0.mk H
             clear H
             have p11 : 0 ≤ (x8_1 : Int) := of_decide_eq_true (by (with_reducible assumption))
             have q11 : x8_1 < (a0.size : Int) := of_decide_eq_true (by (with_reducible assumption))
             have hx11 := bt_at a0 x8_1
             replace p11 := eq_true p11
             replace q11 := eq_true q11
             have hnb13 := NB209_205.out
             have hnc13 := NB205_209.out
             have hcz14_0 : wr.cell? ⟨gb209, 0, none⟩ = some (.bool x210000_1) := (blk_cell BK209.out 0).trans rfl
             have hcz14_1 : wr.cell? ⟨gb209, 1, none⟩ = some (.string x210001_1) := (blk_cell BK209.out 1).trans rfl
             have hcz14_2 : wr.cell? ⟨gb209, 2, none⟩ = some (.int .i64 0) := (blk_cell BK209.out 2).trans rfl
             have hfz14_0 := blk_frozen BK209.out 0
             have hfz14_1 := blk_frozen BK209.out 1
             have hfz14_2 := blk_frozen BK209.out 2
             go_wp2
             go_roundg k1
             case measure => have := HK1.out; omega
             case rel => exact ⟨(wrap64 (x8_1 + 1)), (true), (x210001_1), (by (rfl)), (by (exact H')), ⟨by have := HK1.out; omega⟩, ⟨by (with_reducible repeat (first | refine blk_drewN ?_ _ | refine blk_drew ?_ | refine blk_alloc ?_ _)); refine blk_far ?_ NB205_209.out _; (with_reducible repeat (first | refine blk_drewN ?_ _ | refine blk_drew ?_ | refine blk_alloc ?_ _)); exact BK205.out⟩, ⟨by (with_reducible repeat (first | refine blk_drewN ?_ _ | refine blk_drew ?_ | refine blk_alloc ?_ _)); refine blk_put (cs := #[.bool x210000_1, .string x210001_1, .int .i64 0]) ?_ 0 _ rfl; (with_reducible repeat (first | refine blk_drewN ?_ _ | refine blk_drew ?_ | refine blk_alloc ?_ _)); exact BK209.out⟩, ⟨by repeat ((with_reducible first | exact HB.out | refine below_set ?_ GE209.out))⟩⟩
           rw [if_neg c12] at H
           have c12b0 : ((bt a0 x8_1) == 45) = false := beq_eq_false_iff_ne.mpr c12
           have c12b1 : ((bt a0 x8_1) != 45) = true := bne_iff_ne.mpr c12
           by_cases c16 : (bt a0 x8_1) = 46
           · rw [if_pos c16] at H
             have c16b0 : ((bt a0 x8_1) == 46) = true := beq_iff_eq.mpr c16
             have c16b1 : ((bt a0 x8_1) != 46) = false := bne_eq_false_iff_eq.mpr c16
             clear c16
             have H' := Aside0.mk H
             clear H
             have p11 : 0 ≤ (x8_1 : Int) := of_decide_eq_true (by (with_reducible assumption))
             have q11 : x8_1 < (a0.size : Int) := of_decide_eq_true (by (with_reducible assumption))
             have hx11 := bt_at a0 x8_1
             replace p11 := eq_true p11
             replace q11 := eq_true q11
             have p15 : 0 ≤ (x8_1 : Int) := of_decide_eq_true (by (with_reducible assumption))
             have q15 : x8_1 < (a0.size : Int) := of_decide_eq_true (by (with_reducible assumption))
             have hx15 := bt_at a0 x8_1
             replace p15 := eq_true p15
             replace q15 := eq_true q15
             go_wp2
             go_roundg k1
             case measure => have := HK1.out; omega
             case rel => exact ⟨(wrap64 (x8_1 + 1)), (x210000_1), (x210001_1), (by (rfl)), (by (exact H')), ⟨by have := HK1.out; omega⟩, ⟨by (with_reducible repeat (first | refine blk_drewN ?_ _ | refine blk_drew ?_ | refine blk_alloc ?_ _)); exact BK205.out⟩, ⟨by (with_reducible repeat (first | refine blk_drewN ?_ _ | refine blk_drew ?_ | refine blk_alloc ?_ _)); exact BK209.out⟩, ⟨by repeat ((with_reducible (exact HB.out)))⟩⟩
           rw [if_neg c16] at H
           have c16b0 : ((bt a0 x8_1) == 46) = false := beq_eq_false_iff_ne.mpr c16
           have c16b1 : ((bt a0 x8_1) != 46) = true := bne_iff_ne.mpr c16
           by_cases c17 : x210001_1.toList = ([] : List UInt8)
           · rw [if_pos c17] at H
             have c17b0 : (x210001_1.toList == ([] : List UInt8)) = true := beq_iff_eq.mpr c17
             have c17b7 : x210001_1.toList.isEmpty = true := by rw [← beq_nil_isEmpty]; exact c17b0
             have c17b1 : (x210001_1.toList != ([] : List UInt8)) = false := bne_eq_false_iff_eq.mpr c17
             clear c17
             by_cases c19 : (bt a0 x8_1) = 48
             · rw [if_pos c19] at H
               have c19b0 : ((bt a0 x8_1) == 48) = true := beq_iff_eq.mpr c19
               have c19b1 : ((bt a0 x8_1) != 48) = false := bne_eq_false_iff_eq.mpr c19
               clear c19
               have H' := Aside0.mk H
               clear H
               have p11 : 0 ≤ (x8_1 : Int) := of_decide_eq_true (by (with_reducible assumption))
               have q11 : x8_1 < (a0.size : Int) := of_decide_eq_true (by (with_reducible assumption))
               have hx11 := bt_at a0 x8_1
               replace p11 := eq_true p11
               replace q11 := eq_true q11
               have p15 : 0 ≤ (x8_1 : Int) := of_decide_eq_true (by (with_reducible assumption))
               have q15 : x8_1 < (a0.size : Int) := of_decide_eq_true (by (with_reducible assumption))
               have hx15 := bt_at a0 x8_1
               replace p15 := eq_true p15
               replace q15 := eq_true q15
               have hnb20 := NB209_205.out
               have hnc20 := NB205_209.out
               have hcz21_0 : wr.cell? ⟨gb209, 0, none⟩ = some (.bool x210000_1) := (blk_cell BK209.out 0).trans rfl
               have hcz21_1 : wr.cell? ⟨gb209, 1, none⟩ = some (.string x210001_1) := (blk_cell BK209.out 1).trans rfl
               have hcz21_2 : wr.cell? ⟨gb209, 2, none⟩ = some (.int .i64 0) := (blk_cell BK209.out 2).trans rfl
               have hfz21_0 := blk_frozen BK209.out 0
               have hfz21_1 := blk_frozen BK209.out 1
               have hfz21_2 := blk_frozen BK209.out 2
               have p18 : 0 ≤ (x8_1 : Int) := of_decide_eq_true (by (with_reducible assumption))
               have q18 : x8_1 < (a0.size : Int) := of_decide_eq_true (by (with_reducible assumption))
               have hx18 := bt_at a0 x8_1
               replace p18 := eq_true p18
               replace q18 := eq_true q18
               go_wp2
               go_roundg k1
               case measure => have := HK1.out; omega
               case rel => exact ⟨(wrap64 (x8_1 + 1)), (x210000_1), (x210001_1), (by (rfl)), (by (exact H')), ⟨by have := HK1.out; omega⟩, ⟨by (with_reducible repeat (first | refine blk_drewN ?_ _ | refine blk_drew ?_ | refine blk_alloc ?_ _)); exact BK205.out⟩, ⟨by (with_reducible repeat (first | refine blk_drewN ?_ _ | refine blk_drew ?_ | refine blk_alloc ?_ _)); exact BK209.out⟩, ⟨by repeat ((with_reducible (exact HB.out)))⟩⟩
             rw [if_neg c19] at H
             have c19b0 : ((bt a0 x8_1) == 48) = false := beq_eq_false_iff_ne.mpr c19
             have c19b1 : ((bt a0 x8_1) != 48) = true := bne_iff_ne.mpr c19
             have c22b0 := eq_true (of_decide_eq_true (by (with_reducible assumption)) : 0 ≤ x8_1)
             by_cases c23 : x8_1 ≤ (wrap64 (x8_1 + 1))
             · rw [if_pos c23] at H
               have c23b0 := eq_true c23
               have c23b1 : decide (x8_1 ≤ (wrap64 (x8_1 + 1))) = true := decide_eq_true c23
               by_cases c24 : (wrap64 (x8_1 + 1)) ≤ (a0.size : Int)
               · rw [if_pos c24] at H
                 have c24b0 := eq_true c24
                 have c24b1 : decide ((wrap64 (x8_1 + 1)) ≤ (a0.size : Int)) = true := decide_eq_true c24
                 by_cases c25 : x210001_1.size + (a0.extract (x8_1 : Int).toNat ((wrap64 (x8_1 + 1)) : Int).toNat).size ≤ 9223372036854775807
                 · rw [if_pos c25] at H
                   have c25b0 := eq_true c25
                   try have c25b8 : (9223372036854775807 < x210001_1.size + ((wrap64 (x8_1 + 1)).toNat - x8_1.toNat)) = False := eq_false (Nat.not_lt.2 (by have h_ := c25; have g0_ : (wrap64 (x8_1 + 1) : Int) ≤ (a0.size : Int) := of_decide_eq_true (by (with_reducible assumption)); simp only [ByteArray.size_extract, ByteArray.size_append] at h_; omega))
                   have c25b1 : decide (x210001_1.size + (a0.extract (x8_1 : Int).toNat ((wrap64 (x8_1 + 1)) : Int).toNat).size ≤ 9223372036854775807) = true := decide_eq_true c25
                   try have c25b2 : (9223372036854775807 < x210001_1.size + (a0.extract (x8_1 : Int).toNat ((wrap64 (x8_1 + 1)) : Int).toNat).size) = False := eq_false (Nat.not_lt.2 c25)
                   have H' := Aside0.mk H
                   clear H
                   have p11 : 0 ≤ (x8_1 : Int) := of_decide_eq_true (by (with_reducible assumption))
                   have q11 : x8_1 < (a0.size : Int) := of_decide_eq_true (by (with_reducible assumption))
                   have hx11 := bt_at a0 x8_1
                   replace p11 := eq_true p11
                   replace q11 := eq_true q11
                   have p15 : 0 ≤ (x8_1 : Int) := of_decide_eq_true (by (with_reducible assumption))
                   have q15 : x8_1 < (a0.size : Int) := of_decide_eq_true (by (with_reducible assumption))
                   have hx15 := bt_at a0 x8_1
                   replace p15 := eq_true p15
                   replace q15 := eq_true q15
                   have hnb26 := NB209_205.out
                   have hnc26 := NB205_209.out
                   have hcz27_0 : wr.cell? ⟨gb209, 0, none⟩ = some (.bool x210000_1) := (blk_cell BK209.out 0).trans rfl
                   have hcz27_1 : wr.cell? ⟨gb209, 1, none⟩ = some (.string x210001_1) := (blk_cell BK209.out 1).trans rfl
                   have hcz27_2 : wr.cell? ⟨gb209, 2, none⟩ = some (.int .i64 0) := (blk_cell BK209.out 2).trans rfl
                   have hfz27_0 := blk_frozen BK209.out 0
                   have hfz27_1 := blk_frozen BK209.out 1
                   have hfz27_2 := blk_frozen BK209.out 2
                   have p18 : 0 ≤ (x8_1 : Int) := of_decide_eq_true (by (with_reducible assumption))
                   have q18 : x8_1 < (a0.size : Int) := of_decide_eq_true (by (with_reducible assumption))
                   have hx18 := bt_at a0 x8_1
                   replace p18 := eq_true p18
                   replace q18 := eq_true q18
                   try go_wp2
                   have n0_ := Aside0.mk (blk_drew BK205.out)
                   have n1_ := Aside0.mk (blk_drew BK209.out)
                   have n2_ := Aside0.mk (below_drew1 HB.out)
                   clear BK205
                   clear BK209
                   clear HB
                   have BK205 := n0_
                   have BK209 := n1_
                   have HB := n2_
                   clear n0_ n1_ n2_
                   refine start_ (n := 10) (S := fun w' => w'.cell? ⟨gb209, 0, none⟩ = some (.bool x210000_1) ∧ w'.cell? ⟨gb209, 1, none⟩ = some (.string x210001_1) ∧ w'.cell? ⟨gb209, 2, none⟩ = some (.int .i64 0)) (ds := [9]) #[false, false, false, false, false, false, false, false, false, false] (by kernel_rfl) rfl rfl ⟨(blk_cell BK209.out 0).trans rfl, (blk_cell BK209.out 1).trans rfl, (blk_cell BK209.out 2).trans rfl⟩ (fun hHeld => ?_); refine with_tabW R4Parse.tab11 R4Parse.bits11 (fun HT_ HW_ => ?_)
                   generalize wr.drew = w28 at BK205 BK209 HB hHeld ⊢
                   refine pure_ (i := 0) (N := some 48) (v := ?_) (a' := ?_) #[true, false, false, false, false, false, false, false, false, false] rfl rfl (any_of HT_.out (by kernel_rfl)) (fun _ _ _ h => h) (Or.inl ⟨by rfl, ?_⟩) ?_ ?_
                   rotate_left
                   · intro w'
                     go_simp
                     with_reducible rfl
                   rotate_left
                   · simp only [Act.put, List.setIfInBounds_toArray, List.set_cons_zero, List.set_cons_succ, i64_w, i32_w]
                     rfl
                   refine pure_ (i := 2) (N := some 50) (v := ?_) (a' := ?_) #[true, false, true, false, false, false, false, false, false, false] rfl rfl (any_of HT_.out (by kernel_rfl)) (fun _ _ _ h => h) (Or.inl ⟨by rfl, ?_⟩) ?_ ?_
                   rotate_left
                   · intro w'
                     go_simp
                     with_reducible rfl
                   rotate_left
                   · simp only [Act.put, List.setIfInBounds_toArray, List.set_cons_zero, List.set_cons_succ, i64_w, i32_w]
                     rfl
                   refine pure_ (i := 3) (N := some 51) (v := ?_) (a' := ?_) #[true, false, true, true, false, false, false, false, false, false] rfl rfl (any_of HT_.out (by kernel_rfl)) (fun _ _ _ h => h) (Or.inl ⟨by rfl, ?_⟩) ?_ ?_
                   rotate_left
                   · intro w'
                     go_simp
                     with_reducible rfl
                   rotate_left
                   · simp only [Act.put, List.setIfInBounds_toArray, List.set_cons_zero, List.set_cons_succ, i64_w, i32_w]
                     rfl
                   refine pure_ (i := 4) (N := some 52) (v := ?_) (a' := ?_) #[true, false, true, true, true, false, false, false, false, false] rfl rfl (any_of HT_.out (by kernel_rfl)) (fun _ _ _ h => h) (Or.inl ⟨by rfl, ?_⟩) ?_ ?_
                   rotate_left
                   · intro w'
                     go_simp
                     with_reducible rfl
                   rotate_left
                   · simp only [Act.put, List.setIfInBounds_toArray, List.set_cons_zero, List.set_cons_succ, i64_w, i32_w]
                     rfl
                   refine pure_ (i := 5) (N := some 53) (v := ?_) (a' := ?_) #[true, false, true, true, true, true, false, false, false, false] rfl rfl (any_of HT_.out (by kernel_rfl)) (fun _ _ _ h => h) (Or.inl ⟨by rfl, ?_⟩) ?_ ?_
                   rotate_left
                   · intro w'
                     go_simp
                     with_reducible rfl
                   rotate_left
                   · simp only [Act.put, List.setIfInBounds_toArray, List.set_cons_zero, List.set_cons_succ, i64_w, i32_w]
                     rfl
                   refine pure_ (i := 6) (N := some 54) (v := ?_) (a' := ?_) #[true, false, true, true, true, true, true, false, false, false] rfl rfl (any_of HT_.out (by kernel_rfl)) (fun _ _ _ h => h) (Or.inl ⟨by rfl, ?_⟩) ?_ ?_
                   rotate_left
                   · intro w'
                     go_simp
                     with_reducible rfl
                   rotate_left
                   · simp only [Act.put, List.setIfInBounds_toArray, List.set_cons_zero, List.set_cons_succ, i64_w, i32_w]
                     rfl
                   refine take_ (i := 1) (N := some 49) (v := ?_) (a' := ?_) #[true, true, true, true, true, true, true, false, false, false] rfl rfl (take_ofW HT_.out HW_.out (by kernel_rfl)) (fun _ _ _ h => h) (Or.inl ⟨by rfl, ?_⟩) hHeld ?_ ?_
                   rotate_left
                   · rintro w' ⟨s0, s1, s2⟩
                     go_simp
                     with_reducible rfl
                   rotate_left
                   · simp only [Act.put, List.setIfInBounds_toArray, List.set_cons_zero, List.set_cons_succ, i64_w, i32_w]
                     rfl
                   refine pure_ (i := 7) (N := some 55) (v := ?_) (a' := ?_) #[true, true, true, true, true, true, true, true, false, false] rfl rfl (any_of HT_.out (by kernel_rfl)) (fun _ _ _ h => h) (Or.inl ⟨by rfl, ?_⟩) ?_ ?_
                   rotate_left
                   · intro w'
                     go_simp
                     with_reducible rfl
                   rotate_left
                   · simp only [Act.put, List.setIfInBounds_toArray, List.set_cons_zero, List.set_cons_succ, i64_w, i32_w]
                     rfl
                   refine pure_ (i := 8) (N := some 56) (v := ?_) (a' := ?_) #[true, true, true, true, true, true, true, true, true, false] rfl rfl (any_of HT_.out (by kernel_rfl)) (fun _ _ _ h => h) (Or.inl ⟨by rfl, ?_⟩) ?_ ?_
                   rotate_left
                   · intro w'
                     go_simp
                     with_reducible rfl
                   rotate_left
                   · simp only [Act.put, List.setIfInBounds_toArray, List.set_cons_zero, List.set_cons_succ, i64_w, i32_w]
                     rfl
                   refine last_ (i := 9) (N := none) #[true, true, true, true, true, true, true, true, true, true] rfl rfl (one_of HT_.out (by kernel_rfl)) (by decide) (fun K hK => ?_)
                   have hs29 : w28.cell? ⟨gb209, 1, none⟩ = some (.string x210001_1) := (blk_cell BK209.out 1).trans rfl
                   have hfs29 := blk_frozen BK209.out 1
                   have hns29_0 := NB205_209.out
                   have hms29_0 := NB209_205.out
                   refine skip_ (w1 := ?_) (by rfl) rfl ?_ ?_
                   rotate_left
                   · go_simp
                     rfl
                   refine hK.out _ _ ?_
                   clear hK K
                   refine done_ (done_of HT_.out (by kernel_rfl)) ?_
                   try go_wp2
                   go_roundg k1
                   case measure => have := HK1.out; omega
                   case rel => exact ⟨(wrap64 (x8_1 + 1)), (x210000_1), (x210001_1 ++ (a0.extract (x8_1 : Int).toNat ((wrap64 (x8_1 + 1)) : Int).toNat)), (by (rfl)), (by (exact H')), ⟨by have := HK1.out; omega⟩, ⟨by (with_reducible repeat (first | refine blk_drewN ?_ _ | refine blk_drew ?_ | refine blk_alloc ?_ _)); refine blk_far ?_ NB205_209.out _; (with_reducible repeat (first | refine blk_drewN ?_ _ | refine blk_drew ?_ | refine blk_alloc ?_ _)); exact BK205.out⟩, ⟨by (with_reducible repeat (first | refine blk_drewN ?_ _ | refine blk_drew ?_ | refine blk_alloc ?_ _)); refine blk_put (cs := #[.bool x210000_1, .string x210001_1, .int .i64 0]) ?_ 1 _ rfl; (with_reducible repeat (first | refine blk_drewN ?_ _ | refine blk_drew ?_ | refine blk_alloc ?_ _)); exact BK209.out⟩, ⟨by repeat ((with_reducible first | exact HB.out | refine below_set ?_ GE209.out))⟩⟩
                 rw [if_neg c25] at H
                 exact absurd H (by simp)
               rw [if_neg c24] at H
               exact absurd H (by simp)
             rw [if_neg c23] at H
             exact absurd H (by simp)
           rw [if_neg c17] at H
           have c17b0 : (x210001_1.toList == ([] : List UInt8)) = false := beq_eq_false_iff_ne.mpr c17
           have c17b7 : x210001_1.toList.isEmpty = false := by rw [← beq_nil_isEmpty]; exact c17b0
           have c17b1 : (x210001_1.toList != ([] : List UInt8)) = true := bne_iff_ne.mpr c17
           have c30b0 := eq_true (of_decide_eq_true (by (with_reducible assumption)) : 0 ≤ x8_1)
           by_cases c31 : x8_1 ≤ (wrap64 (x8_1 + 1))
           · rw [if_pos c31] at H
             have c31b0 := eq_true c31
             have c31b1 : decide (x8_1 ≤ (wrap64 (x8_1 + 1))) = true := decide_eq_true c31
             by_cases c32 : (wrap64 (x8_1 + 1)) ≤ (a0.size : Int)
             · rw [if_pos c32] at H
               have c32b0 := eq_true c32
               have c32b1 : decide ((wrap64 (x8_1 + 1)) ≤ (a0.size : Int)) = true := decide_eq_true c32
               by_cases c33 : x210001_1.size + (a0.extract (x8_1 : Int).toNat ((wrap64 (x8_1 + 1)) : Int).toNat).size ≤ 9223372036854775807
               · rw [if_pos c33] at H
                 have c33b0 := eq_true c33
                 try have c33b8 : (9223372036854775807 < x210001_1.size + ((wrap64 (x8_1 + 1)).toNat - x8_1.toNat)) = False := eq_false (Nat.not_lt.2 (by have h_ := c33; have g0_ : (wrap64 (x8_1 + 1) : Int) ≤ (a0.size : Int) := of_decide_eq_true (by (with_reducible assumption)); simp only [ByteArray.size_extract, ByteArray.size_append] at h_; omega))
                 have c33b1 : decide (x210001_1.size + (a0.extract (x8_1 : Int).toNat ((wrap64 (x8_1 + 1)) : Int).toNat).size ≤ 9223372036854775807) = true := decide_eq_true c33
                 try have c33b2 : (9223372036854775807 < x210001_1.size + (a0.extract (x8_1 : Int).toNat ((wrap64 (x8_1 + 1)) : Int).toNat).size) = False := eq_false (Nat.not_lt.2 c33)
                 have H' := Aside0.mk H
                 clear H
                 have p11 : 0 ≤ (x8_1 : Int) := of_decide_eq_true (by (with_reducible assumption))
                 have q11 : x8_1 < (a0.size : Int) := of_decide_eq_true (by (with_reducible assumption))
                 have hx11 := bt_at a0 x8_1
                 replace p11 := eq_true p11
                 replace q11 := eq_true q11
                 have p15 : 0 ≤ (x8_1 : Int) := of_decide_eq_true (by (with_reducible assumption))
                 have q15 : x8_1 < (a0.size : Int) := of_decide_eq_true (by (with_reducible assumption))
                 have hx15 := bt_at a0 x8_1
                 replace p15 := eq_true p15
                 replace q15 := eq_true q15
                 have hnb34 := NB209_205.out
                 have hnc34 := NB205_209.out
                 have hcz35_0 : wr.cell? ⟨gb209, 0, none⟩ = some (.bool x210000_1) := (blk_cell BK209.out 0).trans rfl
                 have hcz35_1 : wr.cell? ⟨gb209, 1, none⟩ = some (.string x210001_1) := (blk_cell BK209.out 1).trans rfl
                 have hcz35_2 : wr.cell? ⟨gb209, 2, none⟩ = some (.int .i64 0) := (blk_cell BK209.out 2).trans rfl
                 have hfz35_0 := blk_frozen BK209.out 0
                 have hfz35_1 := blk_frozen BK209.out 1
                 have hfz35_2 := blk_frozen BK209.out 2
                 try go_wp2
                 have n0_ := Aside0.mk (blk_drew BK205.out)
                 have n1_ := Aside0.mk (blk_drew BK209.out)
                 have n2_ := Aside0.mk (below_drew1 HB.out)
                 clear BK205
                 clear BK209
                 clear HB
                 have BK205 := n0_
                 have BK209 := n1_
                 have HB := n2_
                 clear n0_ n1_ n2_
                 refine start_ (n := 10) (S := fun w' => w'.cell? ⟨gb209, 0, none⟩ = some (.bool x210000_1) ∧ w'.cell? ⟨gb209, 1, none⟩ = some (.string x210001_1) ∧ w'.cell? ⟨gb209, 2, none⟩ = some (.int .i64 0)) (ds := [9]) #[false, false, false, false, false, false, false, false, false, false] (by kernel_rfl) rfl rfl ⟨(blk_cell BK209.out 0).trans rfl, (blk_cell BK209.out 1).trans rfl, (blk_cell BK209.out 2).trans rfl⟩ (fun hHeld => ?_); refine with_tabW R4Parse.tab11 R4Parse.bits11 (fun HT_ HW_ => ?_)
                 generalize wr.drew = w36 at BK205 BK209 HB hHeld ⊢
                 refine pure_ (i := 0) (N := some 48) (v := ?_) (a' := ?_) #[true, false, false, false, false, false, false, false, false, false] rfl rfl (any_of HT_.out (by kernel_rfl)) (fun _ _ _ h => h) (Or.inl ⟨by rfl, ?_⟩) ?_ ?_
                 rotate_left
                 · intro w'
                   go_simp
                   with_reducible rfl
                 rotate_left
                 · simp only [Act.put, List.setIfInBounds_toArray, List.set_cons_zero, List.set_cons_succ, i64_w, i32_w]
                   rfl
                 refine pure_ (i := 2) (N := some 50) (v := ?_) (a' := ?_) #[true, false, true, false, false, false, false, false, false, false] rfl rfl (any_of HT_.out (by kernel_rfl)) (fun _ _ _ h => h) (Or.inl ⟨by rfl, ?_⟩) ?_ ?_
                 rotate_left
                 · intro w'
                   go_simp
                   with_reducible rfl
                 rotate_left
                 · simp only [Act.put, List.setIfInBounds_toArray, List.set_cons_zero, List.set_cons_succ, i64_w, i32_w]
                   rfl
                 refine pure_ (i := 3) (N := some 51) (v := ?_) (a' := ?_) #[true, false, true, true, false, false, false, false, false, false] rfl rfl (any_of HT_.out (by kernel_rfl)) (fun _ _ _ h => h) (Or.inl ⟨by rfl, ?_⟩) ?_ ?_
                 rotate_left
                 · intro w'
                   go_simp
                   with_reducible rfl
                 rotate_left
                 · simp only [Act.put, List.setIfInBounds_toArray, List.set_cons_zero, List.set_cons_succ, i64_w, i32_w]
                   rfl
                 refine pure_ (i := 4) (N := some 52) (v := ?_) (a' := ?_) #[true, false, true, true, true, false, false, false, false, false] rfl rfl (any_of HT_.out (by kernel_rfl)) (fun _ _ _ h => h) (Or.inl ⟨by rfl, ?_⟩) ?_ ?_
                 rotate_left
                 · intro w'
                   go_simp
                   with_reducible rfl
                 rotate_left
                 · simp only [Act.put, List.setIfInBounds_toArray, List.set_cons_zero, List.set_cons_succ, i64_w, i32_w]
                   rfl
                 refine pure_ (i := 5) (N := some 53) (v := ?_) (a' := ?_) #[true, false, true, true, true, true, false, false, false, false] rfl rfl (any_of HT_.out (by kernel_rfl)) (fun _ _ _ h => h) (Or.inl ⟨by rfl, ?_⟩) ?_ ?_
                 rotate_left
                 · intro w'
                   go_simp
                   with_reducible rfl
                 rotate_left
                 · simp only [Act.put, List.setIfInBounds_toArray, List.set_cons_zero, List.set_cons_succ, i64_w, i32_w]
                   rfl
                 refine pure_ (i := 6) (N := some 54) (v := ?_) (a' := ?_) #[true, false, true, true, true, true, true, false, false, false] rfl rfl (any_of HT_.out (by kernel_rfl)) (fun _ _ _ h => h) (Or.inl ⟨by rfl, ?_⟩) ?_ ?_
                 rotate_left
                 · intro w'
                   go_simp
                   with_reducible rfl
                 rotate_left
                 · simp only [Act.put, List.setIfInBounds_toArray, List.set_cons_zero, List.set_cons_succ, i64_w, i32_w]
                   rfl
                 refine take_ (i := 1) (N := some 49) (v := ?_) (a' := ?_) #[true, true, true, true, true, true, true, false, false, false] rfl rfl (take_ofW HT_.out HW_.out (by kernel_rfl)) (fun _ _ _ h => h) (Or.inl ⟨by rfl, ?_⟩) hHeld ?_ ?_
                 rotate_left
                 · rintro w' ⟨s0, s1, s2⟩
                   go_simp
                   with_reducible rfl
                 rotate_left
                 · simp only [Act.put, List.setIfInBounds_toArray, List.set_cons_zero, List.set_cons_succ, i64_w, i32_w]
                   rfl
                 refine pure_ (i := 7) (N := some 55) (v := ?_) (a' := ?_) #[true, true, true, true, true, true, true, true, false, false] rfl rfl (any_of HT_.out (by kernel_rfl)) (fun _ _ _ h => h) (Or.inl ⟨by rfl, ?_⟩) ?_ ?_
                 rotate_left
                 · intro w'
                   go_simp
                   with_reducible rfl
                 rotate_left
                 · simp only [Act.put, List.setIfInBounds_toArray, List.set_cons_zero, List.set_cons_succ, i64_w, i32_w]
                   rfl
                 refine pure_ (i := 8) (N := some 56) (v := ?_) (a' := ?_) #[true, true, true, true, true, true, true, true, true, false] rfl rfl (any_of HT_.out (by kernel_rfl)) (fun _ _ _ h => h) (Or.inl ⟨by rfl, ?_⟩) ?_ ?_
                 rotate_left
                 · intro w'
                   go_simp
                   with_reducible rfl
                 rotate_left
                 · simp only [Act.put, List.setIfInBounds_toArray, List.set_cons_zero, List.set_cons_succ, i64_w, i32_w]
                   rfl
                 refine last_ (i := 9) (N := none) #[true, true, true, true, true, true, true, true, true, true] rfl rfl (one_of HT_.out (by kernel_rfl)) (by decide) (fun K hK => ?_)
                 have hs37 : w36.cell? ⟨gb209, 1, none⟩ = some (.string x210001_1) := (blk_cell BK209.out 1).trans rfl
                 have hfs37 := blk_frozen BK209.out 1
                 have hns37_0 := NB205_209.out
                 have hms37_0 := NB209_205.out
                 refine skip_ (w1 := ?_) (by rfl) rfl ?_ ?_
                 rotate_left
                 · go_simp
                   rfl
                 refine hK.out _ _ ?_
                 clear hK K
                 refine done_ (done_of HT_.out (by kernel_rfl)) ?_
                 try go_wp2
                 go_roundg k1
                 case measure => have := HK1.out; omega
                 case rel => exact ⟨(wrap64 (x8_1 + 1)), (x210000_1), (x210001_1 ++ (a0.extract (x8_1 : Int).toNat ((wrap64 (x8_1 + 1)) : Int).toNat)), (by (rfl)), (by (exact H')), ⟨by have := HK1.out; omega⟩, ⟨by (with_reducible repeat (first | refine blk_drewN ?_ _ | refine blk_drew ?_ | refine blk_alloc ?_ _)); refine blk_far ?_ NB205_209.out _; (with_reducible repeat (first | refine blk_drewN ?_ _ | refine blk_drew ?_ | refine blk_alloc ?_ _)); exact BK205.out⟩, ⟨by (with_reducible repeat (first | refine blk_drewN ?_ _ | refine blk_drew ?_ | refine blk_alloc ?_ _)); refine blk_put (cs := #[.bool x210000_1, .string x210001_1, .int .i64 0]) ?_ 1 _ rfl; (with_reducible repeat (first | refine blk_drewN ?_ _ | refine blk_drew ?_ | refine blk_alloc ?_ _)); exact BK209.out⟩, ⟨by repeat ((with_reducible first | exact HB.out | refine below_set ?_ GE209.out))⟩⟩
               rw [if_neg c33] at H
               exact absurd H (by simp)
             rw [if_neg c32] at H
             exact absurd H (by simp)
           rw [if_neg c31] at H
           exact absurd H (by simp)
         rw [if_neg c10] at H
         exact absurd H (by simp)
       rw [if_neg c9] at H
       exact absurd H (by simp)
     rw [if_neg c8] at H
     have c8b0 : decide (x8_1 < t208) = false := decide_eq_false c8
     clear c8
     have HC38 := Aside0.mk H
     clear H
     go_upto_if 59 with (fail)
     go_cut [] (fun wc => ∃ (kq : Nat) (x210002_37 : Int), Aside0 (R4Parse.j1 kq a0 t208 x210000_1 x210001_1 x210002_37 = some (r1, r2, r3, r4)) ∧ Aside0 (kq ≤ k1) ∧ Aside0 (wc.heap[gb205]? = some (.cells #[.bool false, .string (⟨#[]⟩ : ByteArray), .int .i64 0] 32 (0, 0))) ∧ Aside0 (wc.heap[gb209]? = some (.cells #[.bool x210000_1, .string x210001_1, .int .i64 x210002_37] 32 (0, 0))) ∧ Aside0 (Below w.heap.size w wc))
     case first =>
      have H := HC38.out
      clear HC38
      by_cases c39 : t208 > t207
      · rw [if_pos c39] at H
        have c39b0 : decide (t207 < t208) = true := decide_eq_true c39
        clear c39
        (rw [c39b0])
        have H' := Aside0.mk H
        clear H
        have hnb40 := NB209_205.out
        have hnc40 := NB205_209.out
        have hcz41_0 : wr.cell? ⟨gb209, 0, none⟩ = some (.bool x210000_1) := (blk_cell BK209.out 0).trans rfl
        have hcz41_1 : wr.cell? ⟨gb209, 1, none⟩ = some (.string x210001_1) := (blk_cell BK209.out 1).trans rfl
        have hcz41_2 : wr.cell? ⟨gb209, 2, none⟩ = some (.int .i64 0) := (blk_cell BK209.out 2).trans rfl
        have hfz41_0 := blk_frozen BK209.out 0
        have hfz41_1 := blk_frozen BK209.out 1
        have hfz41_2 := blk_frozen BK209.out 2
        go_wp2
        go_meet
        case rel => exact ⟨_, (wrap64 ((wrap64 (t207 + 1)) - t208)), (by (exact H')), ⟨by have := HK1.out; (omega)⟩, ⟨by (with_reducible repeat (first | refine blk_drewN ?_ _ | refine blk_drew ?_ | refine blk_alloc ?_ _)); refine blk_far ?_ NB205_209.out _; (with_reducible repeat (first | refine blk_drewN ?_ _ | refine blk_drew ?_ | refine blk_alloc ?_ _)); exact BK205.out⟩, ⟨by (with_reducible repeat (first | refine blk_drewN ?_ _ | refine blk_drew ?_ | refine blk_alloc ?_ _)); refine blk_put (cs := #[.bool x210000_1, .string x210001_1, .int .i64 0]) ?_ 2 _ rfl; (with_reducible repeat (first | refine blk_drewN ?_ _ | refine blk_drew ?_ | refine blk_alloc ?_ _)); exact BK209.out⟩, ⟨by repeat ((with_reducible first | exact HB.out | refine below_set ?_ GE209.out))⟩⟩
      rw [if_neg c39] at H
      have c39b0 : decide (t207 < t208) = false := decide_eq_false c39
      clear c39
      (rw [c39b0])
      have H' := Aside0.mk H
      clear H
      go_wp2
      go_meet
      case rel => exact ⟨_, (0), (by (exact H')), ⟨by have := HK1.out; (omega)⟩, ⟨by (with_reducible repeat (first | refine blk_drewN ?_ _ | refine blk_drew ?_ | refine blk_alloc ?_ _)); exact BK205.out⟩, ⟨by (with_reducible repeat (first | refine blk_drewN ?_ _ | refine blk_drew ?_ | refine blk_alloc ?_ _)); exact BK209.out⟩, ⟨by repeat ((with_reducible (exact HB.out)))⟩⟩
     case rest =>
      clear HC38
      try clear c8b0
      obtain ⟨kq, x210002_37, HA, HJ37, BK205, BK209, HB⟩ := hcut
      cases kq with
      | zero => exact absurd HA.out (by simp [R4Parse.j1])
      | succ kj37 =>
       have H := HA.out
       clear HA
       simp only [R4Parse.j1] at H
       have H' := Aside0.mk H
       clear H
       go_wp2
       go_loopg [9, 10, 11] kj37 (fun kq v9 v10 v11 w' => ∃ (x9_3 : Int) (x10_3 : Bool) (x11_3 : Int), v9 = .int .i64 x9_3 ∧ v10 = .bool x10_3 ∧ v11 = .int .i64 x11_3 ∧ Aside0 (R4Parse.l1 kq a0 x9_3 x10_3 x11_3 x210000_1 x210001_1 x210002_37 = some (r1, r2, r3, r4)) ∧ Aside0 (kq ≤ kj37) ∧ Aside0 (w'.heap[gb205]? = some (.cells #[.bool false, .string (⟨#[]⟩ : ByteArray), .int .i64 0] 32 (0, 0))) ∧ Aside0 (w'.heap[gb209]? = some (.cells #[.bool x210000_1, .string x210001_1, .int .i64 x210002_37] 32 (0, 0))) ∧ Aside0 (Below w.heap.size w w'))
       case atStart => exact ⟨(0), (false), (wrap64 (t208 + 1)), (by (rfl)), (by (rfl)), (by (rfl)), H', ⟨Nat.le_refl _⟩, ⟨by (with_reducible repeat (first | refine blk_drewN ?_ _ | refine blk_drew ?_ | refine blk_alloc ?_ _)); exact BK205.out⟩, ⟨by (with_reducible repeat (first | refine blk_drewN ?_ _ | refine blk_drew ?_ | refine blk_alloc ?_ _)); exact BK209.out⟩, ⟨by repeat ((with_reducible (exact HB.out)))⟩⟩
       case round =>
        clear H'
        obtain ⟨x9_3, x10_3, x11_3, rfl, rfl, rfl, HA, HK3, BK205, BK209, HB⟩ := hrel
        cases gk with
        | zero => exact absurd HA.out (by simp [R4Parse.l1])
        | succ k3 =>
         have H := HA.out
         clear HA
         simp only [R4Parse.l1] at H
         by_cases c42 : x11_3 < (a0.size : Int)
         · rw [if_pos c42] at H
           have c42b0 : decide (x11_3 < (a0.size : Int)) = true := decide_eq_true c42
           clear c42
           by_cases c43 : 0 ≤ x11_3
           · rw [if_pos c43] at H
             have c43b0 : decide (0 ≤ x11_3) = true := decide_eq_true c43
             clear c43
             by_cases c45 : (bt a0 x11_3) = 45
             · rw [if_pos c45] at H
               have c45b0 : ((bt a0 x11_3) == 45) = true := beq_iff_eq.mpr c45
               have c45b1 : ((bt a0 x11_3) != 45) = false := bne_eq_false_iff_eq.mpr c45
               clear c45
               have H' := Aside0.mk H
               clear H
               have p44 : 0 ≤ (x11_3 : Int) := of_decide_eq_true (by (with_reducible assumption))
               have q44 : x11_3 < (a0.size : Int) := of_decide_eq_true (by (with_reducible assumption))
               have hx44 := bt_at a0 x11_3
               replace p44 := eq_true p44
               replace q44 := eq_true q44
               go_wp2
               go_roundg k3
               case measure => have := HK1.out; have := HJ37.out; have := HK3.out; omega
               case rel => exact ⟨(x9_3), (true), (wrap64 (x11_3 + 1)), (by (rfl)), (by (rfl)), (by (rfl)), (by (exact H')), ⟨by have := HK1.out; have := HJ37.out; have := HK3.out; omega⟩, ⟨by (with_reducible repeat (first | refine blk_drewN ?_ _ | refine blk_drew ?_ | refine blk_alloc ?_ _)); exact BK205.out⟩, ⟨by (with_reducible repeat (first | refine blk_drewN ?_ _ | refine blk_drew ?_ | refine blk_alloc ?_ _)); exact BK209.out⟩, ⟨by repeat ((with_reducible (exact HB.out)))⟩⟩
             rw [if_neg c45] at H
             have c45b0 : ((bt a0 x11_3) == 45) = false := beq_eq_false_iff_ne.mpr c45
             have c45b1 : ((bt a0 x11_3) != 45) = true := bne_iff_ne.mpr c45
             by_cases c47 : (bt a0 x11_3) = 43
             · rw [if_pos c47] at H
               have c47b0 : ((bt a0 x11_3) == 43) = true := beq_iff_eq.mpr c47
               have c47b1 : ((bt a0 x11_3) != 43) = false := bne_eq_false_iff_eq.mpr c47
               clear c47
               have H' := Aside0.mk H
               clear H
               have p44 : 0 ≤ (x11_3 : Int) := of_decide_eq_true (by (with_reducible assumption))
               have q44 : x11_3 < (a0.size : Int) := of_decide_eq_true (by (with_reducible assumption))
               have hx44 := bt_at a0 x11_3
               replace p44 := eq_true p44
               replace q44 := eq_true q44
               have p46 : 0 ≤ (x11_3 : Int) := of_decide_eq_true (by (with_reducible assumption))
               have q46 : x11_3 < (a0.size : Int) := of_decide_eq_true (by (with_reducible assumption))
               have hx46 := bt_at a0 x11_3
               replace p46 := eq_true p46
               replace q46 := eq_true q46
               go_wp2
               go_roundg k3
               case measure => have := HK1.out; have := HJ37.out; have := HK3.out; omega
               case rel => exact ⟨(x9_3), (x10_3), (wrap64 (x11_3 + 1)), (by (rfl)), (by (rfl)), (by (rfl)), (by (exact H')), ⟨by have := HK1.out; have := HJ37.out; have := HK3.out; omega⟩, ⟨by (with_reducible repeat (first | refine blk_drewN ?_ _ | refine blk_drew ?_ | refine blk_alloc ?_ _)); exact BK205.out⟩, ⟨by (with_reducible repeat (first | refine blk_drewN ?_ _ | refine blk_drew ?_ | refine blk_alloc ?_ _)); exact BK209.out⟩, ⟨by repeat ((with_reducible (exact HB.out)))⟩⟩
             rw [if_neg c47] at H
             have c47b0 : ((bt a0 x11_3) == 43) = false := beq_eq_false_iff_ne.mpr c47
             have c47b1 : ((bt a0 x11_3) != 43) = true := bne_iff_ne.mpr c47
             obtain ⟨ji49, hji49⟩ : ∃ j_ : Int, (mn (wrap64 ((wrap64 ((wrap64 (10 * x9_3)) + (wrap64 (bt a0 x11_3)))) - 48)) 1000000) = j_ := ⟨_, rfl⟩
             replace H : (R4Parse.l1 k3 a0 ji49 x10_3 (wrap64 (x11_3 + 1)) x210000_1 x210001_1 x210002_37) = some (r1, r2, r3, r4) := by (rw [hji49] at H; exact H)
             have hji49_ : (if 1000000 < (wrap64 ((wrap64 ((wrap64 (10 * x9_3)) + (wrap64 (bt a0 x11_3)))) - 48)) then 1000000 else (wrap64 ((wrap64 ((wrap64 (10 * x9_3)) + (wrap64 (bt a0 x11_3)))) - 48))) = ji49 := hji49
             have H' := Aside0.mk H
             clear H
             have p44 : 0 ≤ (x11_3 : Int) := of_decide_eq_true (by (with_reducible assumption))
             have q44 : x11_3 < (a0.size : Int) := of_decide_eq_true (by (with_reducible assumption))
             have hx44 := bt_at a0 x11_3
             replace p44 := eq_true p44
             replace q44 := eq_true q44
             have p46 : 0 ≤ (x11_3 : Int) := of_decide_eq_true (by (with_reducible assumption))
             have q46 : x11_3 < (a0.size : Int) := of_decide_eq_true (by (with_reducible assumption))
             have hx46 := bt_at a0 x11_3
             replace p46 := eq_true p46
             replace q46 := eq_true q46
             have p48 : 0 ≤ (x11_3 : Int) := of_decide_eq_true (by (with_reducible assumption))
             have q48 : x11_3 < (a0.size : Int) := of_decide_eq_true (by (with_reducible assumption))
             have hx48 := bt_at a0 x11_3
             replace p48 := eq_true p48
             replace q48 := eq_true q48
             go_wp2
             go_roundg k3
             case measure => have := HK1.out; have := HJ37.out; have := HK3.out; omega
             case rel => exact ⟨(ji49), (x10_3), (wrap64 (x11_3 + 1)), (by (rfl)), (by (rfl)), (by (rfl)), (by (exact H')), ⟨by have := HK1.out; have := HJ37.out; have := HK3.out; omega⟩, ⟨by (with_reducible repeat (first | refine blk_drewN ?_ _ | refine blk_drew ?_ | refine blk_alloc ?_ _)); exact BK205.out⟩, ⟨by (with_reducible repeat (first | refine blk_drewN ?_ _ | refine blk_drew ?_ | refine blk_alloc ?_ _)); exact BK209.out⟩, ⟨by repeat ((with_reducible (exact HB.out)))⟩⟩
           rw [if_neg c43] at H
           exact absurd H (by simp)
         rw [if_neg c42] at H
         have c42b0 : decide (x11_3 < (a0.size : Int)) = false := decide_eq_false c42
         clear c42
         have HC50 := Aside0.mk H
         clear H
         go_upto_if 90 with (fail)
         go_cut [9] (fun v9 wc => ∃ (kq : Nat) (x9_49 : Int), v9 = .int .i64 x9_49 ∧ Aside0 (R4Parse.j3 kq x9_49 x210000_1 x210001_1 x210002_37 = some (r1, r2, r3, r4)) ∧ Aside0 (kq ≤ k3) ∧ Aside0 (wc.heap[gb205]? = some (.cells #[.bool false, .string (⟨#[]⟩ : ByteArray), .int .i64 0] 32 (0, 0))) ∧ Aside0 (wc.heap[gb209]? = some (.cells #[.bool x210000_1, .string x210001_1, .int .i64 x210002_37] 32 (0, 0))) ∧ Aside0 (Below w.heap.size w wc))
         case first =>
          have H := HC50.out
          clear HC50
          by_cases c51 : x10_3 = true
          · subst c51
            have H1 : (R4Parse.j3 k3 (wrap64 (-x9_3)) x210000_1 x210001_1 x210002_37) = some (r1, r2, r3, r4) := by rw [if_pos rfl] at H; exact H
            clear H
            have H := H1
            clear H1
            have H' := Aside0.mk H
            clear H
            go_wp2
            go_meet
            case rel => exact ⟨_, (wrap64 (-x9_3)), (by (rfl)), (by (exact H')), ⟨by have := HK1.out; have := HJ37.out; have := HK3.out; (omega)⟩, ⟨by (with_reducible repeat (first | refine blk_drewN ?_ _ | refine blk_drew ?_ | refine blk_alloc ?_ _)); exact BK205.out⟩, ⟨by (with_reducible repeat (first | refine blk_drewN ?_ _ | refine blk_drew ?_ | refine blk_alloc ?_ _)); exact BK209.out⟩, ⟨by repeat ((with_reducible (exact HB.out)))⟩⟩
          replace c51 := Bool.eq_false_iff.mpr c51
          subst c51
          have H1 : (R4Parse.j3 k3 x9_3 x210000_1 x210001_1 x210002_37) = some (r1, r2, r3, r4) := by rw [if_neg (show ¬ (false = true) by decide)] at H; exact H
          clear H
          have H := H1
          clear H1
          have H' := Aside0.mk H
          clear H
          go_wp2
          go_meet
          case rel => exact ⟨_, (x9_3), (by (rfl)), (by (exact H')), ⟨by have := HK1.out; have := HJ37.out; have := HK3.out; (omega)⟩, ⟨by (with_reducible repeat (first | refine blk_drewN ?_ _ | refine blk_drew ?_ | refine blk_alloc ?_ _)); exact BK205.out⟩, ⟨by (with_reducible repeat (first | refine blk_drewN ?_ _ | refine blk_drew ?_ | refine blk_alloc ?_ _)); exact BK209.out⟩, ⟨by repeat ((with_reducible (exact HB.out)))⟩⟩
         case rest =>
          clear HC50
          try clear c42b0
          obtain ⟨kq, x9_49, rfl, HA, HJ49, BK205, BK209, HB⟩ := hcut
          cases kq with
          | zero => exact absurd HA.out (by simp [R4Parse.j3])
          | succ kj49 =>
           have H := HA.out
           clear HA
           simp only [R4Parse.j3] at H
           have HC52 := Aside0.mk H
           clear H
           have hnb53 := NB209_205.out
           have hnc53 := NB205_209.out
           have hcz54_0 : wc.cell? ⟨gb209, 0, none⟩ = some (.bool x210000_1) := (blk_cell BK209.out 0).trans rfl
           have hcz54_1 : wc.cell? ⟨gb209, 1, none⟩ = some (.string x210001_1) := (blk_cell BK209.out 1).trans rfl
           have hcz54_2 : wc.cell? ⟨gb209, 2, none⟩ = some (.int .i64 x210002_37) := (blk_cell BK209.out 2).trans rfl
           have hfz54_0 := blk_frozen BK209.out 0
           have hfz54_1 := blk_frozen BK209.out 1
           have hfz54_2 := blk_frozen BK209.out 2
           go_upto_block 4 with (fail)
           go_cut [] (fun wc => ∃ (kq : Nat) (x210001_51 : ByteArray) (x210002_51 : Int), Aside0 (R4Parse.j5 kq x210000_1 x210001_51 x210002_51 = some (r1, r2, r3, r4)) ∧ Aside0 (kq ≤ kj49) ∧ Aside0 (wc.heap[gb205]? = some (.cells #[.bool false, .string (⟨#[]⟩ : ByteArray), .int .i64 0] 32 (0, 0))) ∧ Aside0 (wc.heap[gb209]? = some (.cells #[.bool x210000_1, .string x210001_51, .int .i64 x210002_51] 32 (0, 0))) ∧ Aside0 (Below w.heap.size w wc))
           case first =>
            have H := HC52.out
            clear HC52
            have H' := Aside0.mk H
            clear H
            go_wp2
            go_loopg [] kj49 (fun kq w' => ∃ (x210001_5 : ByteArray) (x210002_5 : Int), Aside0 (R4Parse.l2 kq x210000_1 x210001_5 x210002_5 = some (r1, r2, r3, r4)) ∧ Aside0 (kq ≤ kj49) ∧ Aside0 (w'.heap[gb205]? = some (.cells #[.bool false, .string (⟨#[]⟩ : ByteArray), .int .i64 0] 32 (0, 0))) ∧ Aside0 (w'.heap[gb209]? = some (.cells #[.bool x210000_1, .string x210001_5, .int .i64 x210002_5] 32 (0, 0))) ∧ Aside0 (Below w.heap.size w w'))
            case atStart => exact ⟨(x210001_1), (wrap64 (x210002_37 + x9_49)), H', ⟨Nat.le_refl _⟩, ⟨by (with_reducible repeat (first | refine blk_drewN ?_ _ | refine blk_drew ?_ | refine blk_alloc ?_ _)); refine blk_far ?_ NB205_209.out _; (with_reducible repeat (first | refine blk_drewN ?_ _ | refine blk_drew ?_ | refine blk_alloc ?_ _)); exact BK205.out⟩, ⟨by (with_reducible repeat (first | refine blk_drewN ?_ _ | refine blk_drew ?_ | refine blk_alloc ?_ _)); refine blk_put (cs := #[.bool x210000_1, .string x210001_1, .int .i64 x210002_37]) ?_ 2 _ rfl; (with_reducible repeat (first | refine blk_drewN ?_ _ | refine blk_drew ?_ | refine blk_alloc ?_ _)); exact BK209.out⟩, ⟨by repeat ((with_reducible first | exact HB.out | refine below_set ?_ GE209.out))⟩⟩
            case round =>
             clear H'
             try clear hcz54_0
             try clear hcz54_1
             try clear hcz54_2
             try clear hfz54_0
             try clear hfz54_1
             try clear hfz54_2
             obtain ⟨x210001_5, x210002_5, HA, HK5, BK205, BK209, HB⟩ := hrel
             cases gk with
             | zero => exact absurd HA.out (by simp [R4Parse.l2])
             | succ k5 =>
              have H := HA.out
              clear HA
              simp only [R4Parse.l2] at H
              by_cases c55 : (x210001_5.size : Int) > 0
              · rw [if_pos c55] at H
                have c55b0 : decide (0 < (x210001_5.size : Int)) = true := decide_eq_true c55
                have c55b1 : decide (0 < x210001_5.size) = true := decide_eq_true (by omega)
                clear c55
                (skip)
                obtain ⟨ji56, hji56⟩ : ∃ j_ : Int, (wrap64 ((x210001_5.size : Int) - 1)) = j_ := ⟨_, rfl⟩
                replace H : (if 0 ≤ (ji56) then (if (ji56) < (x210001_5.size : Int) then (if (bt x210001_5 (ji56)) = 48 then (if (ji56) ≤ (x210001_5.size : Int) then (R4Parse.l2 k5 x210000_1 (x210001_5.extract 0 ((ji56) : Int).toNat) (wrap64 (x210002_5 + 1))) else (none)) else (R4Parse.j5 k5 x210000_1 x210001_5 x210002_5)) else (none)) else (none)) = some (r1, r2, r3, r4) := by (rw [hji56] at H; exact H)
                have hji56w : (IntKind.i64.wrap ((x210001_5.size : Int) - 1)) = ji56 := (i64_w _).trans hji56
                by_cases c57 : 0 ≤ (ji56)
                · rw [if_pos c57] at H
                  have c57b0 : decide (0 ≤ (ji56)) = true := decide_eq_true c57
                  clear c57
                  by_cases c58 : (ji56) < (x210001_5.size : Int)
                  · rw [if_pos c58] at H
                    have c58b0 : decide ((ji56) < (x210001_5.size : Int)) = true := decide_eq_true c58
                    clear c58
                    by_cases c60 : (bt x210001_5 (ji56)) = 48
                    · rw [if_pos c60] at H
                      have c60b0 : ((bt x210001_5 (ji56)) == 48) = true := beq_iff_eq.mpr c60
                      have c60b1 : ((bt x210001_5 (ji56)) != 48) = false := bne_eq_false_iff_eq.mpr c60
                      clear c60
                      have c61b0 := eq_true (of_decide_eq_true (by (with_reducible assumption)) : 0 ≤ (ji56))
                      by_cases c62 : (ji56) ≤ (x210001_5.size : Int)
                      · rw [if_pos c62] at H
                        have c62b0 := eq_true c62
                        have c62b1 : decide ((ji56) ≤ (x210001_5.size : Int)) = true := decide_eq_true c62
                        clear c62
                        have H' := Aside0.mk H
                        clear H
                        have hnb63 := NB209_205.out
                        have hnc63 := NB205_209.out
                        have hcz64_0 : wr.cell? ⟨gb209, 0, none⟩ = some (.bool x210000_1) := (blk_cell BK209.out 0).trans rfl
                        have hcz64_1 : wr.cell? ⟨gb209, 1, none⟩ = some (.string x210001_5) := (blk_cell BK209.out 1).trans rfl
                        have hcz64_2 : wr.cell? ⟨gb209, 2, none⟩ = some (.int .i64 x210002_5) := (blk_cell BK209.out 2).trans rfl
                        have hfz64_0 := blk_frozen BK209.out 0
                        have hfz64_1 := blk_frozen BK209.out 1
                        have hfz64_2 := blk_frozen BK209.out 2
                        have p59 : 0 ≤ ((ji56) : Int) := of_decide_eq_true (by (with_reducible assumption))
                        have q59 : (ji56) < (x210001_5.size : Int) := of_decide_eq_true (by (with_reducible assumption))
                        have hx59 := bt_at x210001_5 (ji56)
                        replace p59 := eq_true p59
                        replace q59 := eq_true q59
                        go_wp2
                        go_roundg k5
                        case measure => have := HK1.out; have := HJ37.out; have := HK3.out; have := HJ49.out; have := HK5.out; omega
                        case rel => exact ⟨(x210001_5.extract 0 ((ji56) : Int).toNat), (wrap64 (x210002_5 + 1)), (by (exact H')), ⟨by have := HK1.out; have := HJ37.out; have := HK3.out; have := HJ49.out; have := HK5.out; omega⟩, ⟨by (with_reducible repeat (first | refine blk_drewN ?_ _ | refine blk_drew ?_ | refine blk_alloc ?_ _)); refine blk_far ?_ NB205_209.out _; (with_reducible repeat (first | refine blk_drewN ?_ _ | refine blk_drew ?_ | refine blk_alloc ?_ _)); refine blk_far ?_ NB205_209.out _; (with_reducible repeat (first | refine blk_drewN ?_ _ | refine blk_drew ?_ | refine blk_alloc ?_ _)); exact BK205.out⟩, ⟨by (with_reducible repeat (first | refine blk_drewN ?_ _ | refine blk_drew ?_ | refine blk_alloc ?_ _)); refine blk_put (cs := #[.bool x210000_1, .string (x210001_5.extract 0 ((ji56) : Int).toNat), .int .i64 x210002_5]) ?_ 2 _ rfl; (with_reducible repeat (first | refine blk_drewN ?_ _ | refine blk_drew ?_ | refine blk_alloc ?_ _)); refine blk_put (cs := #[.bool x210000_1, .string x210001_5, .int .i64 x210002_5]) ?_ 1 _ rfl; (with_reducible repeat (first | refine blk_drewN ?_ _ | refine blk_drew ?_ | refine blk_alloc ?_ _)); exact BK209.out⟩, ⟨by repeat ((with_reducible first | exact HB.out | refine below_set ?_ GE209.out))⟩⟩
                      rw [if_neg c62] at H
                      exact absurd H (by simp)
                    rw [if_neg c60] at H
                    have c60b0 : ((bt x210001_5 (ji56)) == 48) = false := beq_eq_false_iff_ne.mpr c60
                    have c60b1 : ((bt x210001_5 (ji56)) != 48) = true := bne_iff_ne.mpr c60
                    have H' := Aside0.mk H
                    clear H
                    have hnb65 := NB209_205.out
                    have hnc65 := NB205_209.out
                    have hcz66_0 : wr.cell? ⟨gb209, 0, none⟩ = some (.bool x210000_1) := (blk_cell BK209.out 0).trans rfl
                    have hcz66_1 : wr.cell? ⟨gb209, 1, none⟩ = some (.string x210001_5) := (blk_cell BK209.out 1).trans rfl
                    have hcz66_2 : wr.cell? ⟨gb209, 2, none⟩ = some (.int .i64 x210002_5) := (blk_cell BK209.out 2).trans rfl
                    have hfz66_0 := blk_frozen BK209.out 0
                    have hfz66_1 := blk_frozen BK209.out 1
                    have hfz66_2 := blk_frozen BK209.out 2
                    have p59 : 0 ≤ ((ji56) : Int) := of_decide_eq_true (by (with_reducible assumption))
                    have q59 : (ji56) < (x210001_5.size : Int) := of_decide_eq_true (by (with_reducible assumption))
                    have hx59 := bt_at x210001_5 (ji56)
                    replace p59 := eq_true p59
                    replace q59 := eq_true q59
                    go_wp2
                    go_meet
                    case rel => exact ⟨_, (x210001_5), (x210002_5), (by (exact H')), ⟨by have := HK1.out; have := HJ37.out; have := HK3.out; have := HJ49.out; have := HK5.out; (omega)⟩, ⟨by (with_reducible repeat (first | refine blk_drewN ?_ _ | refine blk_drew ?_ | refine blk_alloc ?_ _)); exact BK205.out⟩, ⟨by (with_reducible repeat (first | refine blk_drewN ?_ _ | refine blk_drew ?_ | refine blk_alloc ?_ _)); exact BK209.out⟩, ⟨by repeat ((with_reducible (exact HB.out)))⟩⟩
                  rw [if_neg c58] at H
                  exact absurd H (by simp)
                rw [if_neg c57] at H
                exact absurd H (by simp)
              rw [if_neg c55] at H
              have c55b0 : decide (0 < (x210001_5.size : Int)) = false := decide_eq_false c55
              have c55b1 : decide (0 < x210001_5.size) = false := decide_eq_false (by omega)
              clear c55
              (skip)
              have H' := Aside0.mk H
              clear H
              have hnb67 := NB209_205.out
              have hnc67 := NB205_209.out
              have hcz68_0 : wr.cell? ⟨gb209, 0, none⟩ = some (.bool x210000_1) := (blk_cell BK209.out 0).trans rfl
              have hcz68_1 : wr.cell? ⟨gb209, 1, none⟩ = some (.string x210001_5) := (blk_cell BK209.out 1).trans rfl
              have hcz68_2 : wr.cell? ⟨gb209, 2, none⟩ = some (.int .i64 x210002_5) := (blk_cell BK209.out 2).trans rfl
              have hfz68_0 := blk_frozen BK209.out 0
              have hfz68_1 := blk_frozen BK209.out 1
              have hfz68_2 := blk_frozen BK209.out 2
              go_wp2
              go_meet
              case rel => exact ⟨_, (x210001_5), (x210002_5), (by (exact H')), ⟨by have := HK1.out; have := HJ37.out; have := HK3.out; have := HJ49.out; have := HK5.out; (omega)⟩, ⟨by (with_reducible repeat (first | refine blk_drewN ?_ _ | refine blk_drew ?_ | refine blk_alloc ?_ _)); exact BK205.out⟩, ⟨by (with_reducible repeat (first | refine blk_drewN ?_ _ | refine blk_drew ?_ | refine blk_alloc ?_ _)); exact BK209.out⟩, ⟨by repeat ((with_reducible (exact HB.out)))⟩⟩
           case rest =>
            clear HC52
            try clear hcz54_0
            try clear hcz54_1
            try clear hcz54_2
            try clear hfz54_0
            try clear hfz54_1
            try clear hfz54_2
            obtain ⟨kq, x210001_51, x210002_51, HA, HJ51, BK205, BK209, HB⟩ := hcut
            cases kq with
            | zero => exact absurd HA.out (by simp [R4Parse.j5])
            | succ kj51 =>
             have H := HA.out
             clear HA
             simp only [R4Parse.j5] at H
             by_cases c69 : x210001_51.toList = ([] : List UInt8)
             · rw [if_pos c69] at H
               have c69b0 : (x210001_51.toList == ([] : List UInt8)) = true := beq_iff_eq.mpr c69
               have c69b7 : x210001_51.toList.isEmpty = true := by rw [← beq_nil_isEmpty]; exact c69b0
               have c69b1 : (x210001_51.toList != ([] : List UInt8)) = false := bne_eq_false_iff_eq.mpr c69
               clear c69
               simp only [Option.some.injEq, Prod.mk.injEq] at H
               obtain ⟨rfl, rfl, rfl, rfl⟩ := H
               have hnb70 := NB209_205.out
               have hnc70 := NB205_209.out
               have hcz71_0 : wc.cell? ⟨gb209, 0, none⟩ = some (.bool x210000_1) := (blk_cell BK209.out 0).trans rfl
               have hcz71_1 : wc.cell? ⟨gb209, 1, none⟩ = some (.string x210001_51) := (blk_cell BK209.out 1).trans rfl
               have hcz71_2 : wc.cell? ⟨gb209, 2, none⟩ = some (.int .i64 x210002_51) := (blk_cell BK209.out 2).trans rfl
               have hfz71_0 := blk_frozen BK209.out 0
               have hfz71_1 := blk_frozen BK209.out 1
               have hfz71_2 := blk_frozen BK209.out 2
               have hcz72_0 : wc.cell? ⟨gb205, 0, none⟩ = some (.bool false) := (blk_cell BK205.out 0).trans rfl
               have hcz72_1 : wc.cell? ⟨gb205, 1, none⟩ = some (.string (⟨#[]⟩ : ByteArray)) := (blk_cell BK205.out 1).trans rfl
               have hcz72_2 : wc.cell? ⟨gb205, 2, none⟩ = some (.int .i64 0) := (blk_cell BK205.out 2).trans rfl
               have hfz72_0 := blk_frozen BK205.out 0
               have hfz72_1 := blk_frozen BK205.out 1
               have hfz72_2 := blk_frozen BK205.out 2
               go_wp2
               refine bodyPost_ret (results_ct rfl _ _ gb205 32 #[.bool false, .string (⟨#[]⟩ : ByteArray), .int .i64 0] (0, 0) _ rfl (by (with_reducible repeat (first | refine blk_drewN ?_ _ | refine blk_drew ?_ | refine blk_alloc ?_ _)); refine blk_put (cs := #[.bool false, .string (⟨#[]⟩ : ByteArray), .int .i64 0]) ?_ 2 _ rfl; (with_reducible repeat (first | refine blk_drewN ?_ _ | refine blk_drew ?_ | refine blk_alloc ?_ _)); refine blk_put (cs := #[.bool false, .string (⟨#[]⟩ : ByteArray), .int .i64 0]) ?_ 1 _ rfl; (with_reducible repeat (first | refine blk_drewN ?_ _ | refine blk_drew ?_ | refine blk_alloc ?_ _)); refine blk_put (cs := #[.bool false, .string (⟨#[]⟩ : ByteArray), .int .i64 0]) ?_ 0 _ rfl; (with_reducible repeat (first | refine blk_drewN ?_ _ | refine blk_drew ?_ | refine blk_alloc ?_ _)); exact BK205.out) Tryz.underlying32 rfl (by kernel_rfl)) rfl ?_
               try simp only [beq_nil_isEmpty, bytesLess_gtr]
               exact ⟨by (rfl), by repeat ((with_reducible first | exact HB.out | refine below_set ?_ GE205.out ))⟩
             rw [if_neg c69] at H
             have c69b0 : (x210001_51.toList == ([] : List UInt8)) = false := beq_eq_false_iff_ne.mpr c69
             have c69b7 : x210001_51.toList.isEmpty = false := by rw [← beq_nil_isEmpty]; exact c69b0
             have c69b1 : (x210001_51.toList != ([] : List UInt8)) = true := bne_iff_ne.mpr c69
             replace H := Option.bind_eq_some_iff.mp H
             obtain ⟨t210, A730, H⟩ := H
             replace H : (if t210 = true then (some (x210000_1, x210001_51, x210002_51, 0)) else (some (false, (⟨#[]⟩ : ByteArray), 0, 13))) = some (r1, r2, r3, r4) := H
             have A73 := Aside0.mk A730
             clear A730
             by_cases c74 : t210 = true
             · subst c74
               have H1 : (some (x210000_1, x210001_51, x210002_51, 0)) = some (r1, r2, r3, r4) := by rw [if_pos rfl] at H; exact H
               clear H
               have H := H1
               clear H1
               simp only [Option.some.injEq, Prod.mk.injEq] at H
               obtain ⟨rfl, rfl, rfl, rfl⟩ := H
               have hnb75 := NB209_205.out
               have hnc75 := NB205_209.out
               have hcz76_0 : wc.cell? ⟨gb209, 0, none⟩ = some (.bool x210000_1) := (blk_cell BK209.out 0).trans rfl
               have hcz76_1 : wc.cell? ⟨gb209, 1, none⟩ = some (.string x210001_51) := (blk_cell BK209.out 1).trans rfl
               have hcz76_2 : wc.cell? ⟨gb209, 2, none⟩ = some (.int .i64 x210002_51) := (blk_cell BK209.out 2).trans rfl
               have hfz76_0 := blk_frozen BK209.out 0
               have hfz76_1 := blk_frozen BK209.out 1
               have hfz76_2 := blk_frozen BK209.out 2
               go_wp2_with (((with_reducible refine gate_callee (f := 141) rfl ?_); refine goesL_ (some 129) rfl rfl Tryz.func141 (by kernel_rfl) rfl #[.agg #[.bool x210000_1, .string x210001_51, .int .i64 x210002_51]] rfl (by (try simp only [List.map_toArray, List.map_cons, List.map_nil]); (rfl)) ?_; (with_reducible refine (R4Right.calls kj51 x210000_1 x210001_51 x210002_51 true _ A73.out).mono ?_); rintro e w77 ⟨rfl, hb⟩; refine ⟨_, rfl, ?_⟩; have n0_ := Aside0.mk (blk_below (g := gb205) (o := .cells #[.bool false, .string (⟨#[]⟩ : ByteArray), .int .i64 0] 32 (0, 0)) (by (with_reducible repeat (first | refine blk_drewN ?_ _ | refine blk_drew ?_ | refine blk_alloc ?_ _)); exact BK205.out) hb); have n1_ := Aside0.mk (blk_below (g := gb209) (o := .cells #[.bool x210000_1, .string x210001_51, .int .i64 x210002_51] 32 (0, 0)) (by (with_reducible repeat (first | refine blk_drewN ?_ _ | refine blk_drew ?_ | refine blk_alloc ?_ _)); exact BK209.out) hb); have n2_ := Aside0.mk (below_step (by repeat ((with_reducible (exact HB.out)))) hb); clear BK205; clear BK209; clear HB; have BK205 := n0_; have BK209 := n1_; have HB := n2_; clear n0_ n1_ n2_; (try clear hb); have hcz78_0 : w77.cell? ⟨gb209, 0, none⟩ = some (.bool x210000_1) := (blk_cell BK209.out 0).trans rfl; have hcz78_1 : w77.cell? ⟨gb209, 1, none⟩ = some (.string x210001_51) := (blk_cell BK209.out 1).trans rfl; have hcz78_2 : w77.cell? ⟨gb209, 2, none⟩ = some (.int .i64 x210002_51) := (blk_cell BK209.out 2).trans rfl; have hfz78_0 := blk_frozen BK209.out 0; have hfz78_1 := blk_frozen BK209.out 1; have hfz78_2 := blk_frozen BK209.out 2; have hcz79_0 : w77.cell? ⟨gb205, 0, none⟩ = some (.bool false) := (blk_cell BK205.out 0).trans rfl; have hcz79_1 : w77.cell? ⟨gb205, 1, none⟩ = some (.string (⟨#[]⟩ : ByteArray)) := (blk_cell BK205.out 1).trans rfl; have hcz79_2 : w77.cell? ⟨gb205, 2, none⟩ = some (.int .i64 0) := (blk_cell BK205.out 2).trans rfl; have hfz79_0 := blk_frozen BK205.out 0; have hfz79_1 := blk_frozen BK205.out 1; have hfz79_2 := blk_frozen BK205.out 2))
               refine bodyPost_ret (results_ct rfl _ _ gb205 32 #[.bool x210000_1, .string x210001_51, .int .i64 x210002_51] (0, 0) _ rfl (by (with_reducible repeat (first | refine blk_drewN ?_ _ | refine blk_drew ?_ | refine blk_alloc ?_ _)); refine blk_put (cs := #[.bool x210000_1, .string x210001_51, .int .i64 0]) ?_ 2 _ rfl; (with_reducible repeat (first | refine blk_drewN ?_ _ | refine blk_drew ?_ | refine blk_alloc ?_ _)); refine blk_put (cs := #[.bool x210000_1, .string (⟨#[]⟩ : ByteArray), .int .i64 0]) ?_ 1 _ rfl; (with_reducible repeat (first | refine blk_drewN ?_ _ | refine blk_drew ?_ | refine blk_alloc ?_ _)); refine blk_put (cs := #[.bool false, .string (⟨#[]⟩ : ByteArray), .int .i64 0]) ?_ 0 _ rfl; (with_reducible repeat (first | refine blk_drewN ?_ _ | refine blk_drew ?_ | refine blk_alloc ?_ _)); exact BK205.out) Tryz.underlying32 rfl (by kernel_rfl)) rfl ?_
               try simp only [beq_nil_isEmpty, bytesLess_gtr]
               exact ⟨by (rfl), by repeat ((with_reducible first | exact HB.out | refine below_set ?_ GE205.out ))⟩
             replace c74 := Bool.eq_false_iff.mpr c74
             subst c74
             have H1 : (some (false, (⟨#[]⟩ : ByteArray), 0, 13)) = some (r1, r2, r3, r4) := by rw [if_neg (show ¬ (false = true) by decide)] at H; exact H
             clear H
             have H := H1
             clear H1
             simp only [Option.some.injEq, Prod.mk.injEq] at H
             obtain ⟨rfl, rfl, rfl, rfl⟩ := H
             have hnb80 := NB209_205.out
             have hnc80 := NB205_209.out
             have hcz81_0 : wc.cell? ⟨gb209, 0, none⟩ = some (.bool x210000_1) := (blk_cell BK209.out 0).trans rfl
             have hcz81_1 : wc.cell? ⟨gb209, 1, none⟩ = some (.string x210001_51) := (blk_cell BK209.out 1).trans rfl
             have hcz81_2 : wc.cell? ⟨gb209, 2, none⟩ = some (.int .i64 x210002_51) := (blk_cell BK209.out 2).trans rfl
             have hfz81_0 := blk_frozen BK209.out 0
             have hfz81_1 := blk_frozen BK209.out 1
             have hfz81_2 := blk_frozen BK209.out 2
             go_wp2_with (((with_reducible refine gate_callee (f := 141) rfl ?_); refine goesL_ (some 129) rfl rfl Tryz.func141 (by kernel_rfl) rfl #[.agg #[.bool x210000_1, .string x210001_51, .int .i64 x210002_51]] rfl (by (try simp only [List.map_toArray, List.map_cons, List.map_nil]); (rfl)) ?_; (with_reducible refine (R4Right.calls kj51 x210000_1 x210001_51 x210002_51 false _ A73.out).mono ?_); rintro e w82 ⟨rfl, hb⟩; refine ⟨_, rfl, ?_⟩; have n0_ := Aside0.mk (blk_below (g := gb205) (o := .cells #[.bool false, .string (⟨#[]⟩ : ByteArray), .int .i64 0] 32 (0, 0)) (by (with_reducible repeat (first | refine blk_drewN ?_ _ | refine blk_drew ?_ | refine blk_alloc ?_ _)); exact BK205.out) hb); have n1_ := Aside0.mk (blk_below (g := gb209) (o := .cells #[.bool x210000_1, .string x210001_51, .int .i64 x210002_51] 32 (0, 0)) (by (with_reducible repeat (first | refine blk_drewN ?_ _ | refine blk_drew ?_ | refine blk_alloc ?_ _)); exact BK209.out) hb); have n2_ := Aside0.mk (below_step (by repeat ((with_reducible (exact HB.out)))) hb); clear BK205; clear BK209; clear HB; have BK205 := n0_; have BK209 := n1_; have HB := n2_; clear n0_ n1_ n2_; (try clear hb); have hcz83_0 : w82.cell? ⟨gb205, 0, none⟩ = some (.bool false) := (blk_cell BK205.out 0).trans rfl; have hcz83_1 : w82.cell? ⟨gb205, 1, none⟩ = some (.string (⟨#[]⟩ : ByteArray)) := (blk_cell BK205.out 1).trans rfl; have hcz83_2 : w82.cell? ⟨gb205, 2, none⟩ = some (.int .i64 0) := (blk_cell BK205.out 2).trans rfl; have hfz83_0 := blk_frozen BK205.out 0; have hfz83_1 := blk_frozen BK205.out 1; have hfz83_2 := blk_frozen BK205.out 2))
             refine bodyPost_ret (results_ct rfl _ _ gb205 32 #[.bool false, .string (⟨#[]⟩ : ByteArray), .int .i64 0] (0, 0) _ rfl (by (with_reducible repeat (first | refine blk_drewN ?_ _ | refine blk_drew ?_ | refine blk_alloc ?_ _)); refine blk_put (cs := #[.bool false, .string (⟨#[]⟩ : ByteArray), .int .i64 0]) ?_ 2 _ rfl; (with_reducible repeat (first | refine blk_drewN ?_ _ | refine blk_drew ?_ | refine blk_alloc ?_ _)); refine blk_put (cs := #[.bool false, .string (⟨#[]⟩ : ByteArray), .int .i64 0]) ?_ 1 _ rfl; (with_reducible repeat (first | refine blk_drewN ?_ _ | refine blk_drew ?_ | refine blk_alloc ?_ _)); refine blk_put (cs := #[.bool false, .string (⟨#[]⟩ : ByteArray), .int .i64 0]) ?_ 0 _ rfl; (with_reducible repeat (first | refine blk_drewN ?_ _ | refine blk_drew ?_ | refine blk_alloc ?_ _)); exact BK205.out) Tryz.underlying32 rfl (by kernel_rfl)) rfl ?_
             try simp only [beq_nil_isEmpty, bytesLess_gtr]
             exact ⟨by (rfl), by repeat ((with_reducible first | exact HB.out | refine below_set ?_ GE205.out ))⟩
 · replace c3 := Bool.eq_false_iff.mpr c3
   subst c3
   have H1 : (some (false, (⟨#[]⟩ : ByteArray), 0, 11)) = some (r1, r2, r3, r4) := by rw [if_neg (show ¬ (false = true) by decide)] at H; exact H
   clear H
   have H := H1
   clear H1
   simp only [Option.some.injEq, Prod.mk.injEq] at H
   obtain ⟨rfl, rfl, rfl, rfl⟩ := H
   go_enter Tryz.func110, Tryz.ntmps110
   go_wp2_with (first | ((with_reducible refine gate_dst (N := 2) rfl ?_); (try (refine gate_guard (by rfl) ?_; dsimp only)); refine box_event ?hg (N := 2) ?hd (cs := #[.bool false, .string (⟨#[]⟩ : ByteArray), .int .i64 0]) (t := 32) ?hr ?_; (case hd => rfl); (case hg => rfl); (case hr => (go_simp; done)); intro gb205 hg w84 hbox hb; have n0_ := Aside0.mk (below_step (by repeat ((with_reducible (exact HB.out)))) hb); have n1_ := Aside0.mk (hbox); have n2_ := Aside0.mk ((by rw [hg]; exact (below_size (by repeat ((with_reducible (exact HB.out))))) : w.heap.size ≤ gb205)); have n3_ := Aside0.mk ((by rw [hg]; exact (below_size (by repeat ((with_reducible (exact HB.out))))) : w.heap.size ≤ gb205)); clear HB; have HB := n0_; have BK205 := n1_; have GW205 := n2_; have GE205 := n3_; clear n0_ n1_ n2_ n3_; clear hb hbox hg) | ((with_reducible refine gate_callee (f := 140) rfl ?_); refine goesL_ (some 15) rfl rfl Tryz.func140 (by kernel_rfl) rfl #[.string a0] rfl (by (try simp only [List.map_toArray, List.map_cons, List.map_nil]); (rfl)) ?_; (with_reducible refine (R4Grammar.calls k a0 false t207 t208 _ A2.out).mono ?_); rintro e w' ⟨rfl, ⟨nd, rfl⟩⟩; refine ⟨_, rfl, ?_⟩; (try (rw [drewN_self w84]; generalize hq_ : World.drewN w84 _ = w84; have n0_ : Aside0 (w84.heap[gb205]? = some (.cells #[.bool false, .string (⟨#[]⟩ : ByteArray), .int .i64 0] 32 (0, 0))) := ⟨by rw [← hq_]; exact (by (with_reducible repeat (refine blk_drewN ?_ _)); exact BK205.out)⟩; have n1_ : Aside0 (Below w.heap.size w w84) := ⟨by rw [← hq_]; exact (by repeat ((with_reducible first | exact HB.out | apply pw_below_drewN )))⟩; clear BK205 HB hq_; have BK205 := n0_; have HB := n1_; clear n0_ n1_)); have hcz85_0 : w84.cell? ⟨gb205, 0, none⟩ = some (.bool false) := (blk_cell BK205.out 0).trans rfl; have hcz85_1 : w84.cell? ⟨gb205, 1, none⟩ = some (.string (⟨#[]⟩ : ByteArray)) := (blk_cell BK205.out 1).trans rfl; have hcz85_2 : w84.cell? ⟨gb205, 2, none⟩ = some (.int .i64 0) := (blk_cell BK205.out 2).trans rfl; have hfz85_0 := blk_frozen BK205.out 0; have hfz85_1 := blk_frozen BK205.out 1; have hfz85_2 := blk_frozen BK205.out 2))
   refine bodyPost_ret (results_ct rfl _ _ gb205 32 #[.bool false, .string (⟨#[]⟩ : ByteArray), .int .i64 0] (0, 0) _ rfl (by (with_reducible repeat (first | refine blk_drewN ?_ _ | refine blk_drew ?_ | refine blk_alloc ?_ _)); refine blk_put (cs := #[.bool false, .string (⟨#[]⟩ : ByteArray), .int .i64 0]) ?_ 2 _ rfl; (with_reducible repeat (first | refine blk_drewN ?_ _ | refine blk_drew ?_ | refine blk_alloc ?_ _)); refine blk_put (cs := #[.bool false, .string (⟨#[]⟩ : ByteArray), .int .i64 0]) ?_ 1 _ rfl; (with_reducible repeat (first | refine blk_drewN ?_ _ | refine blk_drew ?_ | refine blk_alloc ?_ _)); refine blk_put (cs := #[.bool false, .string (⟨#[]⟩ : ByteArray), .int .i64 0]) ?_ 0 _ rfl; (with_reducible repeat (first | refine blk_drewN ?_ _ | refine blk_drew ?_ | refine blk_alloc ?_ _)); exact BK205.out) Tryz.underlying32 rfl (by kernel_rfl)) rfl ?_
   try simp only [beq_nil_isEmpty, bytesLess_gtr]
   exact ⟨by (rfl), by repeat ((with_reducible first | exact HB.out | refine below_set ?_ GE205.out))⟩
def R5_word.f (s0_0 : ByteArray) (s0_1 : Int) (s0_2 : Int) (s0_3 : Int) (a1 : ByteArray) : Option (ByteArray × Int × Int × Int) := if (wrap64 (s0_1 + (a1.size : Int))) > (s0_0.size : Int) then ((R5_fail.f s0_0 s0_1 s0_2 s0_3 11).bind fun bt222 => (some (bt222.1, bt222.2.1, bt222.2.2.1, bt222.2.2.2))) else (if 0 ≤ s0_1 then (if s0_1 ≤ (wrap64 (s0_1 + (a1.size : Int))) then (if (wrap64 (s0_1 + (a1.size : Int))) ≤ (s0_0.size : Int) then (if (s0_0.extract (s0_1 : Int).toNat ((wrap64 (s0_1 + (a1.size : Int))) : Int).toNat).toList = a1.toList then (some (s0_0, wrap64 (s0_1 + (a1.size : Int)), s0_2, s0_3)) else ((R5_fail.f s0_0 s0_1 s0_2 s0_3 11).bind fun bt226 => (some (bt226.1, bt226.2.1, bt226.2.2.1, bt226.2.2.2)))) else (none)) else (none)) else (none))
set_option maxHeartbeats 8000000 in
set_option maxRecDepth 100000 in
theorem R5_word.calls (g : Nat) (s0_0 : ByteArray) (s0_1 : Int) (s0_2 : Int) (s0_3 : Int) (a1 : ByteArray) (r1 : ByteArray) (r2 : Int) (r3 : Int) (r4 : Int) (w0 w : World) (hI : IsS84 w0 w g s0_0 s0_1 s0_2 s0_3) (hB : Below w0.heap.size w0 w) (h : R5_word.f s0_0 s0_1 s0_2 s0_3 a1 = some (r1, r2, r3, r4)) :
    Calls Tryz.prog 73 #[.pointer (some ⟨g, 0, none⟩), .string a1] w fun e w' => e = .returned (.tuple #[]) ∧ IsS84 w0 w' g r1 r2 r3 r4 ∧ Below w0.heap.size w0 w' ∧ KeepBut w w' g none := by
 have HI0 := Aside0.mk hI
 have HK := Aside0.mk (KeepBut.refl w g none)
 have HL := Aside0.mk hB.size
 clear hI
 have HW0 := Aside0.mk hB.size
 have HB := Aside0.mk hB
 clear hB
 have H : (if (wrap64 (s0_1 + (a1.size : Int))) > (s0_0.size : Int) then ((R5_fail.f s0_0 s0_1 s0_2 s0_3 11).bind fun bt222 => (some (bt222.1, bt222.2.1, bt222.2.2.1, bt222.2.2.2))) else (if 0 ≤ s0_1 then (if s0_1 ≤ (wrap64 (s0_1 + (a1.size : Int))) then (if (wrap64 (s0_1 + (a1.size : Int))) ≤ (s0_0.size : Int) then (if (s0_0.extract (s0_1 : Int).toNat ((wrap64 (s0_1 + (a1.size : Int))) : Int).toNat).toList = a1.toList then (some (s0_0, wrap64 (s0_1 + (a1.size : Int)), s0_2, s0_3)) else ((R5_fail.f s0_0 s0_1 s0_2 s0_3 11).bind fun bt226 => (some (bt226.1, bt226.2.1, bt226.2.2.1, bt226.2.2.2)))) else (none)) else (none)) else (none))) = some (r1, r2, r3, r4) := h
 clear h
 by_cases c3 : (wrap64 (s0_1 + (a1.size : Int))) > (s0_0.size : Int)
 · rw [if_pos c3] at H
   have c3b0 : decide ((s0_0.size : Int) < (wrap64 (s0_1 + (a1.size : Int)))) = true := decide_eq_true c3
   clear c3
   replace H := Option.bind_eq_some_iff.mp H
   obtain ⟨⟨t222, t223, t224, t225⟩, A40, H⟩ := H
   have A4 := Aside0.mk A40
   clear A40
   simp only [Option.some.injEq, Prod.mk.injEq] at H
   obtain ⟨rfl, rfl, rfl, rfl⟩ := H
   obtain ⟨HGz5, hgz5⟩ := HI0.out
   have hcz5_0 := cellS84_0 HGz5
   have hcz5_1 := cellS84_1 HGz5
   have hcz5_2 := cellS84_2 HGz5
   have hcz5_3 := cellS84_3 HGz5
   clear HGz5 hgz5
   go_enter Tryz.func73, Tryz.ntmps73
   go_wp2_with ((go_at_call 39; (with_reducible refine (R5_fail.calls g s0_0 s0_1 s0_2 s0_3 11 t222 t223 t224 t225 w0 _ ?side1 ?side2 A4.out).mono ?_); (case side1 => repeat (first | (with_reducible first | exact HI0.out | apply IsS84.alloc | apply IsS84.drewN | apply IsS84.drew | apply IsS84.set_0 | apply IsS84.set_1 | apply IsS84.set_2 | apply IsS84.set_3) | exact HI0.out)); (case side2 => repeat (first | (with_reducible first | exact HB.out | apply below_alloc | apply pw_below_drewN | apply below_drew1 | refine below_set ?_ (IsS84.ge HI0.out)) | exact HB.out)); rintro e w6 ⟨rfl, hi, hb, hk⟩; have n0_ := Aside0.mk (KeepBut.trans (by repeat (first | (with_reducible first | exact HK.out | apply KeepBut.set_ | apply keep_drewN | apply keep_drew | apply keep_alloc) | exact HK.out)) hk (.inl rfl)); have n1_ := Aside0.mk (hb); have n2_ := Aside0.mk (hi); clear HK; clear HB; clear HI0; have HK := n0_; have HB := n1_; have HI0 := n2_; clear n0_ n1_ n2_))
   repeat (go_quiet ((go_at_call 39; (with_reducible refine (R5_fail.calls g s0_0 s0_1 s0_2 s0_3 11 t222 t223 t224 t225 w0 _ ?side1 ?side2 A4.out).mono ?_); (case side1 => repeat (first | (with_reducible first | exact HI0.out | apply IsS84.alloc | apply IsS84.drewN | apply IsS84.drew | apply IsS84.set_0 | apply IsS84.set_1 | apply IsS84.set_2 | apply IsS84.set_3) | exact HI0.out)); (case side2 => repeat (first | (with_reducible first | exact HB.out | apply below_alloc | apply pw_below_drewN | apply below_drew1 | refine below_set ?_ (IsS84.ge HI0.out)) | exact HB.out)); rintro e w6 ⟨rfl, hi, hb, hk⟩; have n0_ := Aside0.mk (KeepBut.trans (by repeat (first | (with_reducible first | exact HK.out | apply KeepBut.set_ | apply keep_drewN | apply keep_drew | apply keep_alloc) | exact HK.out)) hk (.inl rfl)); have n1_ := Aside0.mk (hb); have n2_ := Aside0.mk (hi); clear HK; clear HB; clear HI0; have HK := n0_; have HB := n1_; have HI0 := n2_; clear n0_ n1_ n2_)); try go_wp2_with ((go_at_call 39; (with_reducible refine (R5_fail.calls g s0_0 s0_1 s0_2 s0_3 11 t222 t223 t224 t225 w0 _ ?side1 ?side2 A4.out).mono ?_); (case side1 => repeat ((with_reducible first | exact HI0.out | apply IsS84.drewN ))); (case side2 => repeat ((with_reducible first | exact HB.out | apply pw_below_drewN ))); rintro e w6 ⟨rfl, hi, hb, hk⟩; have n0_ := Aside0.mk (KeepBut.trans (by repeat ((with_reducible first | exact HK.out | apply keep_drewN ))) hk (.inl rfl)); have n1_ := Aside0.mk (hb); have n2_ := Aside0.mk (hi); clear HK; clear HB; clear HI0; have HK := n0_; have HB := n1_; have HI0 := n2_; clear n0_ n1_ n2_; (try clear hb); (try clear hk); (try clear hi))))
   (refine bodyPost_ret (results_none rfl _ _ _) rfl ?_)
   exact ⟨by (simp [errW_none, errW_some] <;> rfl), by repeat ((with_reducible (exact HI0.out))), by repeat ((with_reducible (exact HB.out))), by repeat ((with_reducible (exact HK.out)))⟩
 · rw [if_neg c3] at H
   have c3b0 : decide ((s0_0.size : Int) < (wrap64 (s0_1 + (a1.size : Int)))) = false := decide_eq_false c3
   clear c3
   by_cases c7 : 0 ≤ s0_1
   · rw [if_pos c7] at H
     have c7b0 := eq_true c7
     have c7b1 : decide (0 ≤ s0_1) = true := decide_eq_true c7
     clear c7
     by_cases c8 : s0_1 ≤ (wrap64 (s0_1 + (a1.size : Int)))
     · rw [if_pos c8] at H
       have c8b0 := eq_true c8
       have c8b1 : decide (s0_1 ≤ (wrap64 (s0_1 + (a1.size : Int)))) = true := decide_eq_true c8
       by_cases c9 : (wrap64 (s0_1 + (a1.size : Int))) ≤ (s0_0.size : Int)
       · rw [if_pos c9] at H
         have c9b0 := eq_true c9
         have c9b1 : decide ((wrap64 (s0_1 + (a1.size : Int))) ≤ (s0_0.size : Int)) = true := decide_eq_true c9
         by_cases c10 : (s0_0.extract (s0_1 : Int).toNat ((wrap64 (s0_1 + (a1.size : Int))) : Int).toNat).toList = a1.toList
         · rw [if_pos c10] at H
           have c10b0 : ((s0_0.extract (s0_1 : Int).toNat ((wrap64 (s0_1 + (a1.size : Int))) : Int).toNat).toList == a1.toList) = true := beq_iff_eq.mpr c10
           have c10b1 : ((s0_0.extract (s0_1 : Int).toNat ((wrap64 (s0_1 + (a1.size : Int))) : Int).toNat).toList != a1.toList) = false := bne_eq_false_iff_eq.mpr c10
           clear c10
           obtain ⟨rfl, rfl, rfl, rfl⟩ := H
           obtain ⟨HGz11, hgz11⟩ := HI0.out
           have hcz11_0 := cellS84_0 HGz11
           have hcz11_1 := cellS84_1 HGz11
           have hcz11_2 := cellS84_2 HGz11
           have hcz11_3 := cellS84_3 HGz11
           have hfz11_0 := blk_frozen HGz11 0
           have hfz11_1 := blk_frozen HGz11 1
           have hfz11_2 := blk_frozen HGz11 2
           have hfz11_3 := blk_frozen HGz11 3
           clear HGz11 hgz11
           go_enter Tryz.func73, Tryz.ntmps73
           go_wp2
           repeat (go_quiet (fail); try go_wp2)
           (go_end0)
           exact ⟨by (simp [errW_none, errW_some] <;> rfl), by repeat ((with_reducible first | exact HI0.out | apply IsS84.drewN | apply IsS84.set_1 )), by repeat ((with_reducible first | exact HB.out | apply pw_below_drewN | refine below_set ?_ (IsS84.ge HI0.out))), by repeat ((with_reducible first | exact HK.out | apply KeepBut.set_ | apply keep_drewN ))⟩
         rw [if_neg c10] at H
         have c10b0 : ((s0_0.extract (s0_1 : Int).toNat ((wrap64 (s0_1 + (a1.size : Int))) : Int).toNat).toList == a1.toList) = false := beq_eq_false_iff_ne.mpr c10
         have c10b1 : ((s0_0.extract (s0_1 : Int).toNat ((wrap64 (s0_1 + (a1.size : Int))) : Int).toNat).toList != a1.toList) = true := bne_iff_ne.mpr c10
         replace H := Option.bind_eq_some_iff.mp H
         obtain ⟨⟨t226, t227, t228, t229⟩, A120, H⟩ := H
         have A12 := Aside0.mk A120
         clear A120
         simp only [Option.some.injEq, Prod.mk.injEq] at H
         obtain ⟨rfl, rfl, rfl, rfl⟩ := H
         obtain ⟨HGz13, hgz13⟩ := HI0.out
         have hcz13_0 := cellS84_0 HGz13
         have hcz13_1 := cellS84_1 HGz13
         have hcz13_2 := cellS84_2 HGz13
         have hcz13_3 := cellS84_3 HGz13
         clear HGz13 hgz13
         go_enter Tryz.func73, Tryz.ntmps73
         go_wp2_with ((go_at_call 39; (with_reducible refine (R5_fail.calls g s0_0 s0_1 s0_2 s0_3 11 t226 t227 t228 t229 w0 _ ?side1 ?side2 A12.out).mono ?_); (case side1 => repeat (first | (with_reducible first | exact HI0.out | apply IsS84.alloc | apply IsS84.drewN | apply IsS84.drew | apply IsS84.set_0 | apply IsS84.set_1 | apply IsS84.set_2 | apply IsS84.set_3) | exact HI0.out)); (case side2 => repeat (first | (with_reducible first | exact HB.out | apply below_alloc | apply pw_below_drewN | apply below_drew1 | refine below_set ?_ (IsS84.ge HI0.out)) | exact HB.out)); rintro e w14 ⟨rfl, hi, hb, hk⟩; have n0_ := Aside0.mk (KeepBut.trans (by repeat (first | (with_reducible first | exact HK.out | apply KeepBut.set_ | apply keep_drewN | apply keep_drew | apply keep_alloc) | exact HK.out)) hk (.inl rfl)); have n1_ := Aside0.mk (hb); have n2_ := Aside0.mk (hi); clear HK; clear HB; clear HI0; have HK := n0_; have HB := n1_; have HI0 := n2_; clear n0_ n1_ n2_))
         repeat (go_quiet ((go_at_call 39; (with_reducible refine (R5_fail.calls g s0_0 s0_1 s0_2 s0_3 11 t226 t227 t228 t229 w0 _ ?side1 ?side2 A12.out).mono ?_); (case side1 => repeat (first | (with_reducible first | exact HI0.out | apply IsS84.alloc | apply IsS84.drewN | apply IsS84.drew | apply IsS84.set_0 | apply IsS84.set_1 | apply IsS84.set_2 | apply IsS84.set_3) | exact HI0.out)); (case side2 => repeat (first | (with_reducible first | exact HB.out | apply below_alloc | apply pw_below_drewN | apply below_drew1 | refine below_set ?_ (IsS84.ge HI0.out)) | exact HB.out)); rintro e w14 ⟨rfl, hi, hb, hk⟩; have n0_ := Aside0.mk (KeepBut.trans (by repeat (first | (with_reducible first | exact HK.out | apply KeepBut.set_ | apply keep_drewN | apply keep_drew | apply keep_alloc) | exact HK.out)) hk (.inl rfl)); have n1_ := Aside0.mk (hb); have n2_ := Aside0.mk (hi); clear HK; clear HB; clear HI0; have HK := n0_; have HB := n1_; have HI0 := n2_; clear n0_ n1_ n2_)); try go_wp2_with ((go_at_call 39; (with_reducible refine (R5_fail.calls g s0_0 s0_1 s0_2 s0_3 11 t226 t227 t228 t229 w0 _ ?side1 ?side2 A12.out).mono ?_); (case side1 => repeat ((with_reducible first | exact HI0.out | apply IsS84.drewN ))); (case side2 => repeat ((with_reducible first | exact HB.out | apply pw_below_drewN ))); rintro e w14 ⟨rfl, hi, hb, hk⟩; have n0_ := Aside0.mk (KeepBut.trans (by repeat ((with_reducible first | exact HK.out | apply keep_drewN ))) hk (.inl rfl)); have n1_ := Aside0.mk (hb); have n2_ := Aside0.mk (hi); clear HK; clear HB; clear HI0; have HK := n0_; have HB := n1_; have HI0 := n2_; clear n0_ n1_ n2_; (try clear hb); (try clear hk); (try clear hi))))
         (refine bodyPost_ret (results_none rfl _ _ _) rfl ?_)
         exact ⟨by (simp [errW_none, errW_some] <;> rfl), by repeat ((with_reducible (exact HI0.out))), by repeat ((with_reducible (exact HB.out))), by repeat ((with_reducible (exact HK.out)))⟩
       rw [if_neg c9] at H
       exact absurd H (by simp)
     rw [if_neg c8] at H
     exact absurd H (by simp)
   rw [if_neg c7] at H
   exact absurd H (by simp)
end Go.Proofs.YtapcpndplnkfjaaGreatDoor
namespace Go.Proofs.YtapcpndplnkfjaaGreatDoor.Pr
open Go.RowKit Go.Proofs.YtapcpndplnkfjaaGreatDoorW.PrintWords Go.Proofs.YtapcpndplnkfjaaGreatDoorW.PrintLast Go.Proofs.YtapcpndplnkfjaaGreatDoorW.PrintMore
attribute [local go_sem] max2_int min2_int max_two min_two max_three min_three max_four min_four
end Go.Proofs.YtapcpndplnkfjaaGreatDoor.Pr
namespace Go.Proofs.YtapcpndplnkfjaaGreatDoor
open Go.RowKit Go.Proofs.YtapcpndplnkfjaaGreatDoorW.PrintWords Go.Proofs.YtapcpndplnkfjaaGreatDoorW.PrintLast Go.Proofs.YtapcpndplnkfjaaGreatDoorW.PrintMore
namespace Js
theorem jparseR (s : List UInt8) (w : World) (hT : Tabs w) (x : S28) (e : Int) (h : pv s = (x, e)) :
    Calls Tryz.prog 16 #[.string (ofL s)] w fun E w' => ∃ A c B c', E = .returned (.tuple #[.agg #[.int .i64 x.f0, .bool x.f1, .bool x.f2.f0, .string x.f2.f1, .int .i64 x.f2.f2, .string x.f3, .slice A x.f4.length c, .slice B x.f5.length c'], .int .i64 e]) ∧
     JC w' x A x.f4.length c B x.f5.length c' ∧ Kd.string.R 9 w' w.heap.size (fun _ => True) (.slice B x.f5.length c') x.f5 ∧ Below w.heap.size w w' := by
 have hx : x = (parseV (fvN 17) s).1 := by rw [show parseV (fvN 17) s = (x, e) from h]
 have he : e = (parseV (fvN 17) s).2 := by rw [show parseV (fvN 17) s = (x, e) from h]
 subst hx he
 refine (json_calls s w hT).mono fun E w' ⟨v, h1, ⟨cs, h2, h3⟩, h4⟩ => ?_
 obtain ⟨v6, v7, rfl, g6, g7⟩ := k28_openM h3
 obtain ⟨A, c, rfl, hl6, h6⟩ := Kd.R_reads g6
 obtain ⟨B, c', rfl, hl7, h7⟩ := Kd.R_reads g7
 exact ⟨A, c, B, c', by rw [h1, h2], ⟨rfl, hl6, h6, rfl, hl7, h7⟩, Kd.R_mono g7 (fun _ _ => trivial), h4⟩
theorem fail_e {a : S} (h : a.e ≠ 0) (x : Int) : (a.fail x).e = a.e := by unfold S.fail; simp [h]
theorem fail_e0 {a : S} (h : a.e = 0) (x : Int) : (a.fail x).e = x := by unfold S.fail; simp [h]
theorem take_e (a : S) (p : List UInt8) : (a.take p).e = a.e := by unfold S.take; split <;> rfl
theorem took_bad {a : S} (h : a.e ≠ 0) (p : List UInt8) : a.took p = false := by unfold S.took; simp [h]
theorem take_no {a : S} {p : List UInt8} (h : a.took p = false) : a.take p = a.skip := by unfold S.take; simp [h]
theorem take_yes {a : S} {p : List UInt8} (h : a.took p = true) : a.take p = ⟨Lib.trimPrefix a.skip.s p, a.o, a.e⟩ := by unfold S.take; rw [if_pos h]; rfl
theorem need_e {a : S} (h : a.e ≠ 0) (p : List UInt8) : (a.need p).e = a.e := by
 unfold S.need
 split
 · exact take_e a p
 exact (fail_e (by rw [take_e]; exact h) 11).trans (take_e a p)
theorem st_bad {a : S} (h : a.e ≠ 0) : a.st = ([], a.tl) := by
 unfold S.st S.str
 rw [strLoop, if_pos (show a.tl.e ≠ 0 from h)]
def gv : Nat → S → S28 × S
 | 0, a => (z28, if a.e = 0 then a.skip.fail 11 else a.skip)
 | n + 1, a => S.value textV (S.arr (gv n)) (S.obj (gv n)) a
theorem gv_bad {a : S} (h : a.e ≠ 0) : ∀ n, gv n a = (z28, a.skip)
 | 0 => by unfold gv; rw [if_neg h]
 | n + 1 => by
  show S.value _ _ _ a = _
  unfold S.value S.value1
  rw [if_pos (show a.skip.e ≠ 0 from h)]
theorem keeps_gv : ∀ n a, Keeps a (gv n a).2
 | 0, a => by
  unfold gv
  split
  · exact (keeps_skip a).trans (keeps_fail _ 11 (by decide))
  exact keeps_skip a
 | n + 1, a => keeps_value (ft := textV) (fa := S.arr (gv n)) (fo := S.obj (gv n)) (fun a => keeps_st a) (fun a => keeps_list (st := arrT (gv n)) (fun x a => keeps_gv n a) [93] [] a) (fun a => keeps_list (st := objT (gv n)) (fun x a => by
     unfold objT
     split
     · exact (keeps_skip a).trans (keeps_fail _ 11 (by decide))
     exact (keeps_objA _ a).trans (keeps_gv n _)) [125] ([], []) a) a
theorem loop_congr {σ : Type} {st st' : σ → S → σ × S} {P : S → Prop} (hP : ∀ x a, P a → st x a = st' x a) (hn : ∀ x a, P a → P (st x a).2) (ht : ∀ a p, P a → P (a.take p)) :
    ∀ n x a, P a → listLoop st n x a = listLoop st' n x a
 | 0, x, a, h => rfl
 | n + 1, x, a, h => by
  unfold listLoop
  split
  · have h1 := ht a [44] h
    rw [← hP x _ h1]
    exact loop_congr hP hn ht n _ _ (hn x _ h1)
  rfl
theorem list_congr {σ : Type} {st st' : σ → S → σ × S} {P : S → Prop} (hP : ∀ x a, P a → st x a = st' x a) (hn : ∀ x a, P a → P (st x a).2) (ht : ∀ a p, P a → P (a.take p)) (p : List UInt8) (x : σ) (a : S) (h : P a.enter) :
    listF st p x a = listF st' p x a := by
 unfold listF
 split
 · rfl
 · have h1 := ht a.enter p h
   rw [← hP x _ h1]
   simp only []
   rw [loop_congr hP hn ht _ _ _ (hn x _ h1)]
theorem gv_eq : ∀ n a, Qn n a → fvN n a = gv n a
 | 0, a, h => by unfold gv fvN; rw [if_neg (h.2.2.1 rfl)]
 | n + 1, a, h => by
  have hs : Qn n a.skip.enter := (h.keeps (keeps_skip a)).enter
  have ha : S.arr (fvN n) a.skip = S.arr (gv n) a.skip := by
   unfold S.arr
   rw [list_congr (st' := arrT (gv n)) (P := Qn n) (fun x b hb => by unfold arrT; rw [gv_eq n b hb]) (fun x b hb => hb.keeps (keeps_fv n b)) (fun b p hb => hb.keeps (keeps_take b p)) [93] [] a.skip hs]
  have ho : S.obj (fvN n) a.skip = S.obj (gv n) a.skip := by
   unfold S.obj
   rw [list_congr (st' := objT (gv n)) (P := Qn n) (fun x b hb => by unfold objT; rw [gv_eq n _ (hb.keeps (keeps_objA x.2 b))]) (fun x b hb => by
    unfold objT
    split
    · exact hb.keeps ((keeps_skip b).trans (keeps_fail _ 11 (by decide)))
    exact (hb.keeps (keeps_objA _ b)).keeps (keeps_fv n _)) (fun b p hb => hb.keeps (keeps_take b p)) [125] ([], []) a.skip hs]
  show S.value _ _ _ a = S.value _ _ _ a
  unfold S.value S.value1
  rw [ha, ho]
theorem twice_e {a : S} (h : a.e ≠ 0) (b : Bool) : (a.twice b).e = a.e := by
 unfold S.twice; split
 · exact fail_e h _
 rfl
theorem objA_e {a : S} (h : a.e ≠ 0) (ns : List ByteArray) : (objA ns a).e = a.e := by
 unfold objA
 have h1 : a.skip.st.2 = a.skip.tl := by rw [st_bad (show a.skip.e ≠ 0 from h)]
 have h2 : a.skip.st.2.e = a.e := by rw [h1]; rfl
 have h3 : (S.twice a.skip.st.2 (has ns (objN a))).e = a.e := (twice_e (by rw [h2]; exact h) _).trans h2
 exact (need_e (by rw [h3]; exact h) _).trans h3
theorem loop_bad {σ : Type} (st : σ → S → σ × S) {a : S} (h : a.e ≠ 0) : ∀ n x, (listLoop st n x a).2.e = a.e
 | 0, x => rfl
 | n + 1, x => by
  unfold listLoop
  rw [took_bad h]
  exact take_e a _
def listG {σ : Type} (st : σ → S → σ × S) (p : List UInt8) (x : σ) (a : S) : σ × S :=
 if a.took p = true then (x, (a.take p).left) else
 ((listLoop st ((st x (a.take p)).2.s.length + 1) (st x (a.take p)).1 (st x (a.take p)).2).1, ((listLoop st ((st x (a.take p)).2.s.length + 1) (st x (a.take p)).1 (st x (a.take p)).2).2.need p).left)
theorem listG_e {σ : Type} {st : σ → S → σ × S} (hst : ∀ x a, a.e ≠ 0 → (st x a).2.e = a.e) (p : List UInt8) (x : σ) {a : S} (h : a.e ≠ 0) : (listG st p x a).2.e = a.e := by
 unfold listG
 rw [took_bad h]
 have h1 : (a.take p).e ≠ 0 := by rw [take_e]; exact h
 have h2 := hst x _ h1
 have h3 := loop_bad st (by rw [h2]; exact h1) ((st x (a.take p)).2.s.length + 1) (st x (a.take p)).1
 have h4 := need_e (by rw [h3, h2]; exact h1) p
 show ((listLoop st _ _ _).2.need p).e = a.e
 rw [h4, h3, h2, take_e]
theorem decN_more (n n' b0 b1 b2 b3 c1 c2 c3 : Nat) (hnn : n ≤ n') (h1 : 1 < n → c1 = b1) (h2 : 2 < n → c2 = b2) (h3 : 3 < n → c3 = b3)
    (hw : ¬ ((Lib.decodeN n b0 b1 b2 b3).1 = 65533 ∧ (Lib.decodeN n b0 b1 b2 b3).2 = 1)) : Lib.decodeN n' b0 c1 c2 c3 = Lib.decodeN n b0 b1 b2 b3 := by
 have e2 : ∀ (k m : Nat) (x y : Nat), n ≤ n' → (k < n → y = x) → (k < n ∧ x / 64 = m) → (k < n' ∧ y / 64 = m) := fun k m x y hn hy h => ⟨by omega, by rw [hy h.1]; exact h.2⟩
 unfold Lib.decodeN at hw ⊢
 by_cases g0 : b0 < 128
 · rw [if_pos g0, if_pos g0]
 rw [if_neg g0] at hw ⊢
 rw [if_neg g0]
 by_cases g1 : b0 / 32 = 6 ∧ (1 < n ∧ b1 / 64 = 2)
 · have := h1 g1.2.1
   subst this
   rw [if_pos g1, if_pos ⟨g1.1, by omega, g1.2.2⟩]
 rw [if_neg g1] at hw ⊢
 by_cases g2 : b0 / 16 = 14 ∧ (1 < n ∧ b1 / 64 = 2) ∧ (2 < n ∧ b2 / 64 = 2)
 · have k1 := h1 g2.2.1.1
   have k2 := h2 g2.2.2.1
   subst k1 k2
   rw [if_neg (by omega), if_pos ⟨g2.1, ⟨by omega, g2.2.1.2⟩, ⟨by omega, g2.2.2.2⟩⟩, if_pos g2]
 rw [if_neg g2] at hw ⊢
 by_cases g3 : b0 / 8 = 30 ∧ (1 < n ∧ b1 / 64 = 2) ∧ (2 < n ∧ b2 / 64 = 2) ∧ (3 < n ∧ b3 / 64 = 2)
 · have k1 := h1 g3.2.1.1
   have k2 := h2 g3.2.2.1.1
   have k3 := h3 g3.2.2.2.1
   subst k1 k2 k3
   rw [if_neg (by omega), if_neg (by omega), if_pos ⟨g3.1, ⟨by omega, g3.2.1.2⟩, ⟨by omega, g3.2.2.1.2⟩, ⟨by omega, g3.2.2.2.2⟩⟩, if_pos g3]
 rw [if_neg g3] at hw
 exact absurd ⟨rfl, rfl⟩ hw
theorem getD_app (s t : List UInt8) (k : Nat) (h : k < s.length) : (s ++ t).getD k 0 = s.getD k 0 := by
 simp [List.getD, List.getElem?_append_left h]
theorem dec_more (s t : List UInt8) (k : Nat) (hk : k < s.length) (hw : ¬ ((Utf8.decode (ofL s) k).1 = 65533 ∧ (Utf8.decode (ofL s) k).2 = 1)) :
    Utf8.decode (ofL (s ++ t)) k = Utf8.decode (ofL s) k := by
 rw [Lib.decode_N] at hw
 rw [Lib.decode_N, Lib.decode_N]
 rw [ofL_data] at hw
 rw [ofL_data, ofL_data, getD_app s t k hk]
 refine decN_more _ _ _ _ _ _ _ _ _ (by simp; omega) (fun h => ?_) (fun h => ?_) (fun h => ?_) hw
 · rw [getD_app s t _ (by omega)]
 · rw [getD_app s t _ (by omega)]
 · rw [getD_app s t _ (by omega)]
theorem strLoop_ok (esc : S → List UInt8 × S) (n : Nat) (out s : List UInt8) (o : Int) : strLoop esc (n + 1) out ⟨s, o, 0⟩ =
    if (S.plain ⟨s, o, 0⟩).2 = false then (out ++ s.take (S.plain ⟨s, o, 0⟩).1, S.fail ⟨s, o, 0⟩ 11) else
    if s.getD (S.plain ⟨s, o, 0⟩).1 0 = 34 then (out ++ s.take (S.plain ⟨s, o, 0⟩).1, S.cut ⟨s, o, 0⟩) else
    strLoop esc n (out ++ s.take (S.plain ⟨s, o, 0⟩).1 ++ (esc (S.cut ⟨s, o, 0⟩)).1) (esc (S.cut ⟨s, o, 0⟩)).2 := by
 rw [strLoop, if_neg (show ¬ (S.mk s o 0).e ≠ 0 from fun h => h rfl)]
variable {σ : Type}
variable {σ : Type}
theorem fail_ne (a : S) (x : Int) (hx : x ≠ 0) : (a.fail x).e ≠ 0 := by
 by_cases h : a.e = 0
 · rw [fail_e0 h]; exact hx
 rw [fail_e h]; exact h
theorem pv_gv (s : List UInt8) (hl : s.length ≤ 4096) : pv s = if (gv 17 ⟨s, 0, 0⟩).2.ended.e = 0 then ((gv 17 ⟨s, 0, 0⟩).1, 0) else (z28, (gv 17 ⟨s, 0, 0⟩).2.ended.e) := by
 unfold pv parseV
 rw [if_neg (by omega), gv_eq 17 _ ⟨by show s.length ≤ 900000; omega, rfl, (fun e => absurd e (by decide)), Nat.le_refl _⟩]
end Js
end Go.Proofs.YtapcpndplnkfjaaGreatDoor
namespace Go.Proofs.YtapcpndplnkfjaaGreatDoor.Pr
open Go.RowKit Go.Proofs.YtapcpndplnkfjaaGreatDoorW.PrintWords Go.Proofs.YtapcpndplnkfjaaGreatDoorW.PrintLast Go.Proofs.YtapcpndplnkfjaaGreatDoorW.PrintMore
attribute [local go_sem] max2_int min2_int max_two min_two max_three min_three max_four min_four
end Go.Proofs.YtapcpndplnkfjaaGreatDoor.Pr
namespace Go.Proofs.YtapcpndplnkfjaaGreatDoor
open Go.RowKit Go.Proofs.YtapcpndplnkfjaaGreatDoorW.PrintWords Pr
def dH (r : List UInt8) : Bool := match r with | [] => false | c :: _ => NumP.isD c
theorem at_drop (s : List UInt8) (i : Nat) (h : i < s.length) : s.drop i = s[i] :: s.drop (i + 1) := List.drop_eq_getElem_cons h
theorem hd_is (s : List UInt8) (i : Nat) (c : UInt8) (h : i < s.length) : (bt (ofL s) (i : Int) == (c.toNat : Int)) = ((s.drop i).head? == some c) := by
 rw [bt_ofL s i h, at_drop s i h, Bool.eq_iff_iff]
 simp only [beq_iff_eq, List.head?_cons, Option.some.injEq]
 exact head_byte _ _
theorem hd_iff (s : List UInt8) (i : Nat) (c : UInt8) (h : i < s.length) : bt (ofL s) (i : Int) = (c.toNat : Int) ↔ (s.drop i).head? = some c := by
 have := hd_is s i c h
 rw [Bool.eq_iff_iff] at this
 simpa using this
theorem dig_f (s : List UInt8) (i : Nat) : R4digit.f (ofL s) (i : Int) = some (dH (s.drop i)) := by
 unfold R4digit.f
 rw [ofL_size]
 by_cases h : i < s.length
 · rw [if_pos (by omega), if_pos (by omega), bt_ofL s i h, at_drop s i h]
   unfold dH NumP.isD
   by_cases h2 : ((s[i].toNat : Int)) ≥ 48
   · rw [if_pos h2]; congr 1; rw [decide_eq_decide]; omega
   rw [if_neg h2]; congr 1; symm; rw [decide_eq_false_iff_not]; omega
 rw [if_neg (by omega), List.drop_of_length_le (by omega)]; rfl
theorem w1 (i n : Nat) (h : i ≤ n) (hn : n ≤ 1000000000000000000) : wrap64 ((i : Int) + 1) = ((i + 1 : Nat) : Int) := by unfold wrap64; omega
theorem tw_step (r : List UInt8) : dH r = false → r.takeWhile NumP.isD = [] ∧ r.dropWhile NumP.isD = r := by
 cases r with
 | nil => simp
 | cons c t => intro h; have h : NumP.isD c = false := h; simp [h]
theorem tw_next (s : List UInt8) (i : Nat) (h : dH (s.drop i) = true) : i < s.length ∧ (s.drop i).takeWhile NumP.isD = (s.drop i).head?.toList ++ (s.drop (i + 1)).takeWhile NumP.isD ∧ ((s.drop i).takeWhile NumP.isD).length = ((s.drop (i + 1)).takeWhile NumP.isD).length + 1 := by
 by_cases hl : i < s.length
 · rw [at_drop s i hl] at h ⊢
   have h' : NumP.isD s[i] = true := h
   refine ⟨hl, ?_, ?_⟩ <;> simp only [List.takeWhile_cons, h', if_true, List.head?_cons, Option.toList, List.length_cons, List.singleton_append]
 rw [List.drop_of_length_le (by omega)] at h; exact absurd h (by simp [dH])
theorem l0_ev (s : List UInt8) (hs : s.length ≤ 1000000000000000000) (R : Bool × Int × Int) (n : Nat) : ∀ i, i ≤ s.length → ((s.drop i).takeWhile NumP.isD).length = n →
    Ev (fun k => R4Grammar.j4 k (ofL s) ((i + n : Nat) : Int) ((i + n : Nat) : Int) ((s.drop (i + n)).head? == some 46)) R → Ev (fun k => R4Grammar.l0 k (ofL s) (i : Int)) R := by
 induction n with
 | zero =>
  intro i hi hn he
  have hd : dH (s.drop i) = false := by
   cases h : dH (s.drop i) with
   | false => rfl
   | true => have := (tw_next s i h).2.2; omega
  refine Ev.step (f := fun k => R4Grammar.j4 k (ofL s) (i : Int) (i : Int) ((s.drop i).head? == some 46)) (fun k => ?_) he
  simp only [R4Grammar.l0]
  rw [dig_f, hd]
  simp only [Option.bind_some, Bool.false_eq_true, if_false, ofL_size]
  by_cases hl : i < s.length
  · rw [if_pos (by omega), if_pos (by omega)]
    rw [show (46 : Int) = ((46 : UInt8).toNat : Int) from rfl, hd_is s i 46 hl]
  rw [if_neg (by omega), List.drop_of_length_le (by omega)]; rfl
 | succ n ih =>
  intro i hi hn he
  have hd : dH (s.drop i) = true := by
   cases h : dH (s.drop i) with
   | true => rfl
   | false => have := (tw_step _ h).1; rw [this] at hn; simp at hn
  obtain ⟨hl, -, h2⟩ := tw_next s i hd
  refine Ev.step (f := fun k => R4Grammar.l0 k (ofL s) ((i + 1 : Nat) : Int)) (fun k => ?_) (ih (i + 1) (by omega) (by omega) ?_)
  · simp only [R4Grammar.l0]
    rw [dig_f, hd]
    simp only [Option.bind_some, if_true]
    rw [w1 i s.length hi hs]
  rw [show i + 1 + n = i + (n + 1) by omega]; exact he
theorem l1_ev (s : List UInt8) (hs : s.length ≤ 1000000000000000000) (p : Int) (R : Bool × Int × Int) (n : Nat) : ∀ i, i ≤ s.length → ((s.drop i).takeWhile NumP.isD).length = n →
    Ev (fun k => R4Grammar.j6 k (ofL s) ((i + n : Nat) : Int) p) R → Ev (fun k => R4Grammar.l1 k (ofL s) (i : Int) p) R := by
 induction n with
 | zero =>
  intro i hi hn he
  have hd : dH (s.drop i) = false := by
   cases h : dH (s.drop i) with
   | false => rfl
   | true => have := (tw_next s i h).2.2; omega
  refine Ev.step (f := fun k => R4Grammar.j6 k (ofL s) (i : Int) p) (fun k => ?_) he
  simp only [R4Grammar.l1]
  rw [dig_f, hd]
  simp only [Option.bind_some, Bool.false_eq_true, if_false]
 | succ n ih =>
  intro i hi hn he
  have hd : dH (s.drop i) = true := by
   cases h : dH (s.drop i) with
   | true => rfl
   | false => have := (tw_step _ h).1; rw [this] at hn; simp at hn
  obtain ⟨hl, -, h2⟩ := tw_next s i hd
  refine Ev.step (f := fun k => R4Grammar.l1 k (ofL s) ((i + 1 : Nat) : Int) p) (fun k => ?_) (ih (i + 1) (by omega) (by omega) ?_)
  · simp only [R4Grammar.l1]
    rw [dig_f, hd]
    simp only [Option.bind_some, if_true]
    rw [w1 i s.length hi hs]
  rw [show i + 1 + n = i + (n + 1) by omega]; exact he
theorem l2_ev (s : List UInt8) (hs : s.length ≤ 1000000000000000000) (p q : Int) (n : Nat) : ∀ i, i ≤ s.length → ((s.drop i).takeWhile NumP.isD).length = n →
    Ev (fun k => R4Grammar.l2 k (ofL s) (i : Int) p q) (((s.drop (i + n)).isEmpty, p, q)) := by
 induction n with
 | zero =>
  intro i hi hn
  have hd : dH (s.drop i) = false := by
   cases h : dH (s.drop i) with
   | false => rfl
   | true => have := (tw_next s i h).2.2; omega
  refine Ev.step (f := fun k => some ((s.drop i).isEmpty, p, q)) (fun k => ?_) (Ev.now _)
  simp only [R4Grammar.l2]
  rw [dig_f, hd]
  simp only [Option.bind_some, Bool.false_eq_true, if_false, ofL_size]
  congr 2
  rw [Bool.eq_iff_iff]; simp; omega
 | succ n ih =>
  intro i hi hn
  have hd : dH (s.drop i) = true := by
   cases h : dH (s.drop i) with
   | true => rfl
   | false => have := (tw_step _ h).1; rw [this] at hn; simp at hn
  obtain ⟨hl, -, h2⟩ := tw_next s i hd
  refine Ev.step (f := fun k => R4Grammar.l2 k (ofL s) ((i + 1 : Nat) : Int) p q) (fun k => ?_) ?_
  · simp only [R4Grammar.l2]
    rw [dig_f, hd]
    simp only [Option.bind_some, if_true]
    rw [w1 i s.length hi hs]
  rw [show i + (n + 1) = i + 1 + n by omega]; exact ih (i + 1) (by omega) (by omega)
theorem drop_tw : ∀ r : List UInt8, r.drop (r.takeWhile NumP.isD).length = r.dropWhile NumP.isD
 | [] => rfl
 | c :: t => by
  by_cases h : NumP.isD c = true
  · simp [h, drop_tw t]
  simp [h]
theorem j6_ev (s : List UInt8) (hs : s.length ≤ 1000000000000000000) (p : Int) (i : Nat) (hi : i ≤ s.length) :
    ∃ R, Ev (fun k => R4Grammar.j6 k (ofL s) (i : Int) p) R ∧ R.1 = (!NumP.expB (s.drop i) && (NumP.expR (s.drop i)).isEmpty) ∧ (R.1 = true → R = (true, p, (i : Int))) := by
 have h101 : (101 : Int) = ((101 : UInt8).toNat : Int) := rfl
 have h69 : (69 : Int) = ((69 : UInt8).toNat : Int) := rfl
 have h43 : (43 : Int) = ((43 : UInt8).toNat : Int) := rfl
 have h45 : (45 : Int) = ((45 : UInt8).toNat : Int) := rfl
 have s6 : ∀ k, R4Grammar.j6 (k + 1) (ofL s) (i : Int) p = R4Grammar.j7 k (ofL s) (i : Int) p (i : Int) (NumP.isE (s.drop i)) := fun k => by
  simp only [R4Grammar.j6, ofL_size]
  by_cases hl : i < s.length
  · rw [if_pos (by omega), if_pos (by omega)]
    unfold NumP.isE
    rw [h69, hd_is s i 69 hl]
    by_cases he : (s.drop i).head? = some 101
    · rw [if_pos (by rw [h101]; exact (hd_iff s i 101 hl).2 he), he]; rfl
    rw [if_neg (by rw [h101]; exact fun z => he ((hd_iff s i 101 hl).1 z))]
    have : ((s.drop i).head? == some 101) = false := by simpa using he
    rw [this, Bool.false_or]
  rw [if_neg (by omega), List.drop_of_length_le (by omega)]; rfl
 cases hE : NumP.isE (s.drop i) with
 | false =>
  refine ⟨((i : Int) == (s.length : Int), p, (i : Int)), Ev.step s6 (Ev.step (f := fun k => some ((i : Int) == (s.length : Int), p, (i : Int))) (fun k => ?_) (Ev.now _)), ?_, ?_⟩
  · rw [hE]; simp only [R4Grammar.j7, ofL_size]; rfl
  · simp only [NumP.expB, NumP.expR, hE]
    rw [Bool.eq_iff_iff]; simp; omega
  intro h; simp only at h; rw [h]
 | true =>
  have hl : i < s.length := by
   by_cases h : i < s.length
   · exact h
   rw [List.drop_of_length_le (by omega)] at hE; simp [NumP.isE] at hE
  have ht : (s.drop i).tail = s.drop (i + 1) := by rw [at_drop s i hl]; rfl
  have hw1 := w1 i s.length hi hs
  have s7 : ∀ k, R4Grammar.j7 (k + 1) (ofL s) (i : Int) p (i : Int) true = R4Grammar.j8 k (ofL s) ((i + 1 : Nat) : Int) p (i : Int) (NumP.isS (s.drop (i + 1))) := fun k => by
   simp only [R4Grammar.j7, ofL_size, hw1]
   by_cases hl2 : i + 1 < s.length
   · rw [if_pos trivial, if_pos (by omega), if_pos (by omega)]
     unfold NumP.isS
     rw [h45, hd_is s (i + 1) 45 hl2]
     by_cases he : (s.drop (i + 1)).head? = some 43
     · rw [if_pos (by rw [h43]; exact (hd_iff s (i + 1) 43 hl2).2 he), he]; rfl
     rw [if_neg (by rw [h43]; exact fun z => he ((hd_iff s (i + 1) 43 hl2).1 z))]
     have : ((s.drop (i + 1)).head? == some 43) = false := by simpa using he
     rw [this, Bool.false_or]
   rw [if_pos trivial, if_neg (by omega), List.drop_of_length_le (by omega)]; rfl
  obtain ⟨j, hj, hjt, s8⟩ : ∃ j, j ≤ s.length ∧ s.drop j = NumP.expT (s.drop i) ∧ (∀ k, R4Grammar.j8 (k + 1) (ofL s) ((i + 1 : Nat) : Int) p (i : Int) (NumP.isS (s.drop (i + 1))) = R4Grammar.j9 k (ofL s) (j : Int) p (i : Int)) := by
   unfold NumP.expT
   rw [ht]
   cases hS : NumP.isS (s.drop (i + 1)) with
   | false => exact ⟨i + 1, by omega, by simp, fun k => by simp only [R4Grammar.j8]; rfl⟩
   | true =>
    have hl2 : i + 1 < s.length := by
     by_cases h : i + 1 < s.length
     · exact h
     rw [List.drop_of_length_le (by omega)] at hS; simp [NumP.isS] at hS
    refine ⟨i + 2, by omega, ?_, fun k => ?_⟩
    · rw [at_drop s (i + 1) hl2]; rfl
    simp only [R4Grammar.j8, if_true]
    rw [w1 (i + 1) s.length (by omega) hs]
  have hP : NumP.expP (s.drop i) = (s.drop j).takeWhile NumP.isD := by simp [NumP.expP, hE, hjt]
  have hR : NumP.expR (s.drop i) = (s.drop j).dropWhile NumP.isD := by simp [NumP.expR, hE, hjt]
  have hB : NumP.expB (s.drop i) = ((s.drop j).takeWhile NumP.isD).isEmpty := by simp [NumP.expB, hE, hP]
  cases hd : dH (s.drop j) with
  | false =>
   obtain ⟨e1, e2⟩ := tw_step _ hd
   refine ⟨(false, 0, 0), Ev.step s6 ?_, ?_, fun h => by cases h⟩
   · rw [hE]
     refine Ev.step s7 (Ev.step s8 (Ev.step (f := fun _ => some (false, 0, 0)) (fun k => ?_) (Ev.now _)))
     simp only [R4Grammar.j9]
     rw [dig_f, hd]; rfl
   rw [hB, e1]; rfl
  | true =>
   have h2 := l2_ev s hs p (i : Int) _ j hj rfl
   refine ⟨((s.drop (j + ((s.drop j).takeWhile NumP.isD).length)).isEmpty, p, (i : Int)), Ev.step s6 ?_, ?_, fun h => ?_⟩
   · rw [hE]
     refine Ev.step s7 (Ev.step s8 (Ev.step (f := fun k => R4Grammar.l2 k (ofL s) (j : Int) p (i : Int)) (fun k => ?_) h2))
     simp only [R4Grammar.j9]
     rw [dig_f, hd]; rfl
   · obtain ⟨-, -, h3⟩ := tw_next s j hd
     have hne : ((s.drop j).takeWhile NumP.isD).isEmpty = false := by
      cases z : (s.drop j).takeWhile NumP.isD with
      | nil => rw [z] at h3; simp at h3
      | cons _ _ => rfl
     rw [hB, hne, hR]
     show (s.drop (j + ((s.drop j).takeWhile NumP.isD).length)).isEmpty = _
     rw [← List.drop_drop]
     rw [drop_tw]; rfl
   simp only at h; rw [h]
theorem grammar_ev (s : List UInt8) (hs : s.length ≤ 1000000000000000000) :
    ∃ R, Ev (fun k => R4Grammar.f k (ofL s)) R ∧ R.1 = NumP.ok s ∧ (R.1 = true → R = (true, (((NumP.sgn (NumP.down s)).length + (NumP.whole s).length : Nat) : Int), (((NumP.sgn (NumP.down s)).length + (NumP.whole s).length + (NumP.dot (NumP.dotP (NumP.rest1 s))).length : Nat) : Int))) := by
 have h45 : (45 : Int) = ((45 : UInt8).toNat : Int) := rfl
 have h48 : (48 : Int) = ((48 : UInt8).toNat : Int) := rfl
 have e0 : ∀ k, R4Grammar.f k (ofL s) = R4Grammar.j0 k (ofL s) 0 (NumP.down s) := fun k => by
  unfold R4Grammar.f
  rw [ofL_size]
  cases s with
  | nil => rfl
  | cons c t =>
   rw [if_pos (by simp), h45]
   have := hd_is (c :: t) 0 45 (by simp)
   simp only [List.drop_zero] at this
   rw [show ((0 : Int)) = ((0 : Nat) : Int) from rfl, this]; rfl
 have hsg : (NumP.sgn (NumP.down s)).length ≤ s.length ∧ s.drop (NumP.sgn (NumP.down s)).length = NumP.dropSign s := by
  cases s with
  | nil => simp [NumP.down, NumP.sgn, NumP.dropSign]
  | cons c t => by_cases e : c = 45 <;> simp [NumP.down, NumP.sgn, NumP.dropSign, e]
 have e1 : ∀ k, R4Grammar.j0 (k + 1) (ofL s) 0 (NumP.down s) = R4Grammar.j1 k (ofL s) (((NumP.sgn (NumP.down s)).length : Nat) : Int) := fun k => by
  simp only [R4Grammar.j0]
  cases NumP.down s with
  | true => rw [if_pos rfl, show wrap64 (0 + 1) = 1 by unfold wrap64; omega]; rfl
  | false => rw [if_neg (by simp)]; rfl
 obtain ⟨hi, hdr⟩ := hsg
 generalize (NumP.sgn (NumP.down s)).length = i at *
 have e2 : ∀ k, R4Grammar.j1 (k + 1) (ofL s) (i : Int) = R4Grammar.j2 k (ofL s) (i : Int) (NumP.wholeB (NumP.whole s)) := fun k => by
  simp only [R4Grammar.j1]
  rw [dig_f]
  simp only [Option.bind_some]
  unfold NumP.whole
  rw [← hdr]
  cases hd : dH (s.drop i) with
  | false =>
   rw [if_neg (by simp), (tw_step _ hd).1]; rfl
  | true =>
   obtain ⟨hl, ht, htl⟩ := tw_next s i hd
   rw [if_pos rfl, if_pos (by omega), ofL_size, if_pos (by omega)]
   have hne : ((s.drop i).takeWhile NumP.isD).isEmpty = false := by
    cases z : (s.drop i).takeWhile NumP.isD with
    | nil => rw [z] at htl; simp at htl
    | cons _ _ => rfl
   have hh : ((s.drop i).takeWhile NumP.isD).head? = (s.drop i).head? := by
    rw [ht, at_drop s i hl]; rfl
   unfold NumP.wholeB
   rw [hne, hh, Bool.false_or]
   by_cases e : (s.drop i).head? = some 48
   · rw [if_pos (by rw [h48]; exact (hd_iff s i 48 hl).2 e), w1 i s.length hi hs, dig_f]
     simp only [Option.bind_some]
     congr 1
     rw [e, htl]
     cases hd2 : dH (s.drop (i + 1)) with
     | false => rw [(tw_step _ hd2).1]; rfl
     | true =>
      have := (tw_next s (i + 1) hd2).2.2
      have : decide (1 < ((s.drop (i + 1)).takeWhile NumP.isD).length + 1) = true := by rw [decide_eq_true_eq]; omega
      rw [this]; rfl
   rw [if_neg (by rw [h48]; exact fun z => e ((hd_iff s i 48 hl).1 z))]
   have : ((s.drop i).head? == some 48) = false := by simpa using e
   rw [this, Bool.and_false]
 cases hW : NumP.wholeB (NumP.whole s) with
 | true =>
  refine ⟨(false, 0, 0), Ev.congr e0 (Ev.step e1 (Ev.step e2 ?_)), ?_, fun h => by cases h⟩
  · rw [hW]; exact Ev.step (f := fun _ => some (false, 0, 0)) (fun k => by simp only [R4Grammar.j2]; rfl) (Ev.now _)
  simp [NumP.ok, NumP.bad, hW]
 | false =>
  have hj : s.drop (i + (NumP.whole s).length) = NumP.rest1 s := by
   rw [← List.drop_drop, hdr]; exact drop_tw _
  have hjl : i + (NumP.whole s).length ≤ s.length := by
   have h1 := (List.takeWhile_prefix (l := s.drop i) NumP.isD).length_le
   rw [hdr] at h1
   have h2 : (NumP.dropSign s).length = s.length - i := by rw [← hdr, List.length_drop]
   have h3 : (NumP.whole s).length ≤ (NumP.dropSign s).length := h1
   omega
  have step : ∀ R, Ev (fun k => R4Grammar.j4 k (ofL s) ((i + (NumP.whole s).length : Nat) : Int) ((i + (NumP.whole s).length : Nat) : Int) ((NumP.rest1 s).head? == some 46)) R →
      Ev (fun k => R4Grammar.f k (ofL s)) R := fun R hR => by
   refine Ev.congr e0 (Ev.step e1 (Ev.step e2 ?_))
   rw [hW]
   refine Ev.step (f := fun k => R4Grammar.l0 k (ofL s) (i : Int)) (fun k => by simp only [R4Grammar.j2]; rfl) ?_
   refine l0_ev s hs R (NumP.whole s).length i hi (by rw [hdr]; rfl) ?_
   rw [hj]; exact hR
  generalize hm : i + (NumP.whole s).length = m at *
  cases hD : (NumP.rest1 s).head? == some 46 with
  | false =>
   have hd : (NumP.rest1 s).head? ≠ some 46 := by simpa using hD
   obtain ⟨R, hR, h1, h2⟩ := j6_ev s hs (m : Int) m hjl
   have q1 : NumP.rest2 s = NumP.rest1 s := by simp [NumP.rest2, NumP.dotR, hd]
   have q2 : NumP.dotP (NumP.rest1 s) = [] := by simp [NumP.dotP, hd]
   have q3 : NumP.dotB (NumP.rest1 s) = false := by simp [NumP.dotB, hd]
   refine ⟨R, step R ?_, ?_, fun h => ?_⟩
   · rw [hD]
     exact Ev.step (f := fun k => R4Grammar.j6 k (ofL s) (m : Int) (m : Int)) (fun k => by simp only [R4Grammar.j4]; rfl) hR
   · rw [h1, hj, NumP.ok, NumP.bad, hW, q3, NumP.rest3, q1]; rfl
   rw [h2 h, q2]; rfl
  | true =>
   have hd : (NumP.rest1 s).head? = some 46 := by simpa using hD
   have hml : m < s.length := by
    by_cases h : m < s.length
    · exact h
    rw [List.drop_of_length_le (by omega)] at hj; rw [← hj] at hd; simp at hd
   have ht : s.drop (m + 1) = (NumP.rest1 s).tail := by rw [← hj, at_drop s m hml]; rfl
   have q2 : NumP.dotP (NumP.rest1 s) = (s.drop (m + 1)).takeWhile NumP.isD := by simp [NumP.dotP, hd, ht]
   have q1 : NumP.rest2 s = (s.drop (m + 1)).dropWhile NumP.isD := by simp [NumP.rest2, NumP.dotR, hd, ht]
   have q3 : NumP.dotB (NumP.rest1 s) = ((s.drop (m + 1)).takeWhile NumP.isD).isEmpty := by simp [NumP.dotB, q2, hd]
   cases hd2 : dH (s.drop (m + 1)) with
   | false =>
    refine ⟨(false, 0, 0), step _ ?_, ?_, fun h => by cases h⟩
    · rw [hD]
      refine Ev.step (f := fun _ => some (false, 0, 0)) (fun k => ?_) (Ev.now _)
      simp only [R4Grammar.j4, if_true]
      rw [w1 m s.length (by omega) hs, dig_f, hd2]; rfl
    rw [NumP.ok, NumP.bad, hW, q3, (tw_step _ hd2).1]; rfl
   | true =>
    obtain ⟨-, -, htl⟩ := tw_next s (m + 1) hd2
    have hne : ((s.drop (m + 1)).takeWhile NumP.isD).isEmpty = false := by
     cases z : (s.drop (m + 1)).takeWhile NumP.isD with
     | nil => rw [z] at htl; simp at htl
     | cons _ _ => rfl
    have hjl2 : m + 1 + ((s.drop (m + 1)).takeWhile NumP.isD).length ≤ s.length := by
     have h1 := (List.takeWhile_prefix (l := s.drop (m + 1)) NumP.isD).length_le
     rw [List.length_drop] at h1; omega
    obtain ⟨R, hR, h1, h2⟩ := j6_ev s hs (m : Int) (m + 1 + ((s.drop (m + 1)).takeWhile NumP.isD).length) hjl2
    have hdr2 : s.drop (m + 1 + ((s.drop (m + 1)).takeWhile NumP.isD).length) = NumP.rest2 s := by
     rw [← List.drop_drop, drop_tw, q1]
    refine ⟨R, step R ?_, ?_, fun h => ?_⟩
    · rw [hD]
      refine Ev.step (f := fun k => R4Grammar.l1 k (ofL s) ((m + 1 : Nat) : Int) (m : Int)) (fun k => ?_) (l1_ev s hs (m : Int) R _ (m + 1) (by omega) rfl hR)
      simp only [R4Grammar.j4, if_true]
      rw [w1 m s.length (by omega) hs, dig_f, hd2]; rfl
    · rw [h1, hdr2, NumP.ok, NumP.bad, hW, q3, hne, NumP.rest3]; rfl
    rw [h2 h, q2, NumP.dot, hne]
    congr 3
    simp; omega
theorem compare_bd (a b : List UInt8) : -1 ≤ Lib.compareBytes a b ∧ Lib.compareBytes a b ≤ 1 := by
 induction a generalizing b with
 | nil => cases b <;> simp [Lib.compareBytes]
 | cons x t ih =>
  cases b with
  | nil => simp [Lib.compareBytes]
  | cons y u =>
   simp only [Lib.compareBytes]
   split
   · omega
   split
   · omega
   exact ih u
end Go.Proofs.YtapcpndplnkfjaaGreatDoor
namespace Go.Proofs.YtapcpndplnkfjaaGreatDoor
open Go.RowKit Go.Proofs.YtapcpndplnkfjaaGreatDoorW.PrintWords Go.Proofs.YtapcpndplnkfjaaGreatDoorW.PrintLast Go.Proofs.YtapcpndplnkfjaaGreatDoorW.PrintMore
namespace Js
variable {σ : Type}
def good (p : Nat × Nat) : Prop := ¬ (p.1 = 65533 ∧ p.2 = 1)
theorem decN_cut (n b0 b1 b2 b3 c1 c2 c3 : Nat) (hn : 1 ≤ n) (hg : good (Lib.decodeN n b0 b1 b2 b3)) (h1 : 1 < (Lib.decodeN n b0 b1 b2 b3).2 → c1 = b1) (h2 : 2 < (Lib.decodeN n b0 b1 b2 b3).2 → c2 = b2) (h3 : 3 < (Lib.decodeN n b0 b1 b2 b3).2 → c3 = b3) :
    Lib.decodeN (Lib.decodeN n b0 b1 b2 b3).2 b0 c1 c2 c3 = Lib.decodeN n b0 b1 b2 b3 ∧ (Lib.decodeN n b0 b1 b2 b3).2 ≤ n ∧ (Lib.decodeN n b0 b1 b2 b3).2 ≤ 4 := by
 unfold good at hg
 generalize hd : Lib.decodeN n b0 b1 b2 b3 = d at *
 unfold Lib.decodeN at hd
 by_cases g0 : b0 < 128
 · rw [if_pos g0] at hd
   subst hd
   refine ⟨?_, hn, by simp⟩
   unfold Lib.decodeN
   rw [if_pos g0]
 rw [if_neg g0] at hd
 by_cases g1 : b0 / 32 = 6 ∧ (1 < n ∧ b1 / 64 = 2)
 · rw [if_pos g1] at hd
   split at hd
   · rename_i k
     subst hd
     have := h1 (by simp)
     subst this
     refine ⟨?_, g1.2.1, by simp⟩
     unfold Lib.decodeN
     rw [if_neg g0, if_pos ⟨g1.1, by simp, g1.2.2⟩, if_pos k]
   subst hd; exact absurd ⟨rfl, rfl⟩ hg
 rw [if_neg g1] at hd
 by_cases g2 : b0 / 16 = 14 ∧ (1 < n ∧ b1 / 64 = 2) ∧ (2 < n ∧ b2 / 64 = 2)
 · rw [if_pos g2] at hd
   split at hd
   · rename_i k
     subst hd
     have k1 := h1 (by simp)
     have k2 := h2 (by simp)
     subst k1 k2
     refine ⟨?_, g2.2.2.1, by simp⟩
     unfold Lib.decodeN
     rw [if_neg g0, if_neg (by omega), if_pos ⟨g2.1, ⟨by simp, g2.2.1.2⟩, ⟨by simp, g2.2.2.2⟩⟩, if_pos k]
   subst hd; exact absurd ⟨rfl, rfl⟩ hg
 rw [if_neg g2] at hd
 by_cases g3 : b0 / 8 = 30 ∧ (1 < n ∧ b1 / 64 = 2) ∧ (2 < n ∧ b2 / 64 = 2) ∧ (3 < n ∧ b3 / 64 = 2)
 · rw [if_pos g3] at hd
   split at hd
   · rename_i k
     subst hd
     have k1 := h1 (by simp)
     have k2 := h2 (by simp)
     have k3 := h3 (by simp)
     subst k1 k2 k3
     refine ⟨?_, g3.2.2.2.1, by simp⟩
     unfold Lib.decodeN
     rw [if_neg g0, if_neg (by omega), if_neg (by omega), if_pos ⟨g3.1, ⟨by simp, g3.2.1.2⟩, ⟨by simp, g3.2.2.1.2⟩, ⟨by simp, g3.2.2.2.2⟩⟩, if_pos k]
   subst hd; exact absurd ⟨rfl, rfl⟩ hg
 rw [if_neg g3] at hd
 subst hd
 exact absurd ⟨rfl, rfl⟩ hg
def Ch (c : List UInt8) : Prop := c ≠ [] ∧ good (Lib.decodeL c) ∧ (Lib.decodeL c).2 = c.length
theorem getD_take (l : List UInt8) (w k : Nat) (h : k < w) : (l.take w).getD k 0 = l.getD k 0 := by simp [List.getD, List.getElem?_take, h]
theorem Ch_take {l : List UInt8} (hl : l ≠ []) (hg : good (Lib.decodeL l)) : Ch (l.take (Lib.decodeL l).2) ∧ Lib.decodeL (l.take (Lib.decodeL l).2) = Lib.decodeL l ∧ (Lib.decodeL l).2 ≤ l.length := by
 have h1 : 1 ≤ l.length := List.length_pos_iff.2 hl
 have hw := Lib.decodeL_width l
 have hle := Lib.decodeL_le l hl
 have hd : Lib.decodeL (l.take (Lib.decodeL l).2) = Lib.decodeL l := by
  have hg' := hg
  rw [Lib.decodeL_N] at hg'
  have hlen : (l.take (Lib.decodeL l).2).length = (Lib.decodeL l).2 := by rw [List.length_take]; omega
  conv => lhs; rw [Lib.decodeL_N]
  rw [hlen]
  have hN := Lib.decodeL_N l
  have := decN_cut l.length (l.getD 0 0).toNat (l.getD 1 0).toNat (l.getD 2 0).toNat (l.getD 3 0).toNat ((l.take (Lib.decodeL l).2).getD 1 0).toNat ((l.take (Lib.decodeL l).2).getD 2 0).toNat ((l.take (Lib.decodeL l).2).getD 3 0).toNat h1 hg'
   (fun h => by rw [← hN] at h; rw [getD_take _ _ _ h]) (fun h => by rw [← hN] at h; rw [getD_take _ _ _ h]) (fun h => by rw [← hN] at h; rw [getD_take _ _ _ h])
  rw [← hN] at this
  rw [getD_take _ _ _ (by omega)]
  exact this.1
 refine ⟨⟨?_, ?_, ?_⟩, hd, hle⟩
 · intro h
   have : (l.take (Lib.decodeL l).2).length = 0 := by rw [h]; rfl
   rw [List.length_take] at this
   omega
 · rw [hd]; exact hg
 rw [hd, List.length_take]; omega
theorem Ch_app {c : List UInt8} (h : Ch c) (t : List UInt8) : Lib.decodeL (c ++ t) = Lib.decodeL c := by
 have hc : 0 < c.length := List.length_pos_iff.2 h.1
 have := dec_more c t 0 hc
 rw [← Lib.decodeL_drop, ← Lib.decodeL_drop, ofL_data, ofL_data, List.drop_zero, List.drop_zero] at this
 exact this h.2.1
inductive U8 : List UInt8 → Prop
  | nil : U8 []
  | cons (c t : List UInt8) : Ch c → U8 t → U8 (c ++ t)
def plainL : Nat → List UInt8 → Nat × Bool
 | 0, _ => (0, false)
 | n + 1, l =>
  if l = [] then (0, false) else
  if (Lib.decodeL l).1 = 34 ∨ (Lib.decodeL l).1 = 92 then (0, true) else
  if (Lib.decodeL l).1 < 32 then (0, false) else
  if (Lib.decodeL l).1 = 65533 ∧ (Lib.decodeL l).2 < 2 then (0, false) else
  ((Lib.decodeL l).2 + (plainL n (l.drop (Lib.decodeL l).2)).1, (plainL n (l.drop (Lib.decodeL l).2)).2)
theorem plainF_L (s : List UInt8) : ∀ n k, k ≤ s.length → s.length < n + k → plainF (ofL s) n k = (k + (plainL n (s.drop k)).1, (plainL n (s.drop k)).2)
 | 0, k, h, h2 => absurd h2 (by omega)
 | n + 1, k, h, h2 => by
  rw [plainF, plainL, ofL_size]
  by_cases hk : k < s.length
  · have hne : s.drop k ≠ [] := by intro e; have := congrArg List.length e; simp at this; omega
    have hd : Lib.decodeL (s.drop k) = Utf8.decode (ofL s) k := Lib.decodeL_drop (ofL s) k
    have hg : (Lib.decodeGo ((ofL s).extract k s.length)).2 = (Utf8.decode (ofL s) k).2 := by
     have := Lib.decodeGo_extract (ofL s) k (by rw [ofL_size]; exact hk)
     rw [ofL_size] at this
     rw [this]
    have hle := Lib.decodeL_le (s.drop k) hne
    have hw := Lib.decodeL_width (s.drop k)
    rw [if_pos hk, if_neg hne, hd, hg]
    rw [hd] at hle hw
    rw [List.length_drop] at hle
    split
    · simp
    split
    · simp
    split
    · simp
    rw [plainF_L s n _ (by omega) (by omega), List.drop_drop]
    simp only [Prod.mk.injEq, and_true]
    omega
  have : s.drop k = [] := List.drop_eq_nil_of_le (by omega)
  rw [if_neg hk, this, if_pos rfl]
  simp; omega
theorem plain_L (s : List UInt8) (o e : Int) : S.plain ⟨s, o, e⟩ = plainL (s.length + 1) s := by
 unfold S.plain
 rw [plainF_L s _ 0 (Nat.zero_le _) (by rw [ofL_size]; show s.length < s.length + 1 + 0; omega), ofL_size, List.drop_zero]
 simp
theorem plainL_fuel : ∀ (n m : Nat) (l : List UInt8), l.length < n → l.length < m → plainL n l = plainL m l
 | 0, _, _, h, _ => absurd h (by omega)
 | _, 0, _, _, h => absurd h (by omega)
 | n + 1, m + 1, l, h, k => by
  rw [plainL, plainL]
  by_cases hl : l = []
  · rw [if_pos hl, if_pos hl]
  have hw := Lib.decodeL_width l
  have hp : 0 < l.length := List.length_pos_iff.2 hl
  rw [plainL_fuel n m (l.drop (Lib.decodeL l).2) (by rw [List.length_drop]; omega) (by rw [List.length_drop]; omega)]
def hexv (b : UInt8) : Option Int :=
 if 48 ≤ b.toNat ∧ b.toNat ≤ 57 then some ((b.toNat : Int) - 48) else if 97 ≤ b.toNat ∧ b.toNat ≤ 102 then some ((b.toNat : Int) - 87) else if 65 ≤ b.toNat ∧ b.toNat ≤ 70 then some ((b.toNat : Int) - 55) else none
theorem hexv_bd {b : UInt8} {v : Int} (h : hexv b = some v) : 0 ≤ v ∧ v < 16 := by
 unfold hexv at h
 repeat' split at h
 all_goals first
  | (cases h; done)
  | (have := Option.some.inj h; omega)
def hexF : List UInt8 → Int → Option Int
 | [], x => some x
 | b :: l, x => (hexv b).bind fun v => hexF l (16 * x + v)
set_option maxRecDepth 100000 in
theorem rows_high : (Lib.caseT.all fun x => decide (x.2.1 < 128) || (decide (128 ≤ x.1) && (decide (x.2.2.2.1 > 1114111) || decide (103 ≤ (x.1 : Int) + x.2.2.2.1)))) = true := by decide +kernel
theorem lower_high (r : Nat) (h : 128 ≤ r) : 103 ≤ Lib.toLowerU (r : Int) := by
 unfold Lib.toLowerU
 rw [if_neg (by omega)]
 unfold Lib.toR Lib.lookupGo
 cases hi : Lib.lookupIdx Lib.caseA r (Lib.caseA.size + 1) 0 Lib.caseA.size with
 | none => simp only [Option.map_none]; omega
 | some i =>
  obtain ⟨hil, hlo, hhi⟩ := Lib.lookupIdx_some Lib.caseA r _ _ _ i hi
  have hm : Lib.caseA.getD i (0, 0, 0, 0, 0) ∈ Lib.caseT := by
   unfold Lib.caseA at hil ⊢
   simp only [List.size_toArray] at hil
   simp [Array.getD, hil]
  have hr := List.all_eq_true.1 rows_high _ hm
  simp only [Option.map_some]
  generalize Lib.caseA.getD i (0, 0, 0, 0, 0) = x at *
  simp only [Bool.or_eq_true, Bool.and_eq_true, decide_eq_true_eq] at hr
  unfold Lib.convertR
  show 103 ≤ (if x.2.2.2.1 > 1114111 then _ else (r : Int) + x.2.2.2.1)
  split
  · omega
  omega
theorem hexI_high (c : Nat) (h : 103 ≤ c) : hexI c = -1 := by
 unfold hexI
 split
 · rename_i h2
   have : ∀ i : Fin 128, 103 ≤ i.val → Lib.indexByte hexS.data.toList i.val.toUInt8 = -1 := by decide +kernel
   exact this ⟨c, h2⟩ h
 rfl
theorem hexI_low : ∀ i : Fin 128, hexI (Lib.lowerB (UInt8.ofNat i.val)).toNat = (hexv (UInt8.ofNat i.val)).getD (-1) ∧ (Lib.lowerB (UInt8.ofNat i.val)).toNat < 128 := by decide +kernel
def fourL : Nat → List UInt8 → Int → Option Int
 | 0, _, _ => none
 | n + 1, l, x => if l = [] then some x else if hexI (Lib.decodeL l).1 < 0 then none else fourL n (l.drop (Lib.decodeL l).2) (stepI x (hexI (Lib.decodeL l).1))
theorem fourLoop_L (s : List UInt8) : ∀ n k x, fourLoop (ofL s) n k x = fourL n (s.drop k) x
 | 0, _, _ => rfl
 | n + 1, k, x => by
  rw [fourLoop, fourL, ofL_size]
  have hd : Lib.decodeL (s.drop k) = Utf8.decode (ofL s) k := Lib.decodeL_drop (ofL s) k
  by_cases hk : k < s.length
  · have hne : s.drop k ≠ [] := by intro e; have := congrArg List.length e; simp at this; omega
    rw [if_pos hk, if_neg hne, hd, fourLoop_L s n, List.drop_drop]
  have : s.drop k = [] := List.drop_eq_nil_of_le (by omega)
  rw [if_neg hk, this, if_pos rfl]
theorem step_is (x i : Int) (h : 0 ≤ x ∧ x < 4096) (hi : 0 ≤ i ∧ i < 16) : stepI x i = 16 * x + i := by
 unfold stepI
 have hw : wrap32 (x * 16) = x * 16 := by unfold wrap32; omega
 rw [hw]
 have := bits_join .i32 17 (by decide) (fun n h0 h1 => by rw [IntKind.wrap_i32]; omega) 4 (x * 16) i (by omega) (by omega) (by omega) hi.1 (by omega) (by omega)
 omega
theorem dec_big (b : UInt8) (l : List UInt8) (h : 128 ≤ b.toNat) : 128 ≤ (Lib.decodeL (b :: l)).1 := by
 rw [Lib.decodeL_N]
 have hb0 : ((b :: l).getD 0 0).toNat = b.toNat := rfl
 rw [hb0]
 unfold Lib.decodeN
 rw [if_neg (by omega)]
 repeat' split
 all_goals (simp only []; omega)
theorem enc_big (v : Int) (h : 103 ≤ v) : ∃ b l, Lib.encodeRune v = b :: l ∧ 103 ≤ b.toNat := by
 unfold Lib.encodeRune Lib.encodeRuneZ
 by_cases h1 : 0 ≤ v ∧ v ≤ 127
 · rw [if_pos h1]; exact ⟨_, _, rfl, by simp; omega⟩
 rw [if_neg h1]
 by_cases h2 : 128 ≤ v ∧ v ≤ 2047
 · rw [if_pos h2]; exact ⟨_, _, rfl, by simp; omega⟩
 rw [if_neg h2]
 by_cases h3 : (2048 ≤ v ∧ v < 55296) ∨ (57343 < v ∧ v ≤ 65535)
 · rw [if_pos h3]; exact ⟨_, _, rfl, by simp; omega⟩
 rw [if_neg h3]
 by_cases h4 : 65536 ≤ v ∧ v ≤ 1114111
 · rw [if_pos h4]; exact ⟨_, _, rfl, by simp; omega⟩
 rw [if_neg h4]; exact ⟨_, _, rfl, by decide⟩
theorem fourL_hex : ∀ (N : Nat) (l : List UInt8), l.length ≤ N → ∀ (n : Nat) (x : Int), l.length ≤ 4 → (0 ≤ x ∧ x < 16 ^ (4 - l.length)) → (Lib.toLowerD l).length < n → fourL n (Lib.toLowerD l) x = hexF l x
 | N, [], _, n, x, _, _, hn => by
  have e : Lib.toLowerD [] = [] := rfl
  obtain ⟨k, rfl⟩ : ∃ k, n = k + 1 := ⟨n - 1, by omega⟩
  rw [e, fourL, if_pos rfl]; rfl
 | 0, b :: l, h, _, _, _, _, _ => absurd h (by simp)
 | N + 1, b :: l, h, n, x, h4, hx, hn => by
  obtain ⟨k, rfl⟩ : ∃ k, n = k + 1 := ⟨n - 1, by omega⟩
  have hstep : Lib.toLowerD (b :: l) = (if 0 ≤ Lib.toLowerU (Lib.decodeL (b :: l)).1 then Lib.encodeRune (Lib.toLowerU (Lib.decodeL (b :: l)).1) else []) ++ Lib.toLowerD ((b :: l).drop (Lib.decodeL (b :: l)).2) := Lib.mapD_step Lib.toLowerU (b :: l) (by simp)
  by_cases hb : b.toNat < 128
  · have hd := Lib.decodeL_ascii b l hb
    have hlow := hexI_low ⟨b.toNat, hb⟩
    simp only [] at hlow
    rw [show UInt8.ofNat b.toNat = b from UInt8.ofNat_toNat] at hlow
    have henc := Lib.lower_byte ⟨b.toNat, hb⟩
    simp only [] at henc
    rw [show UInt8.ofNat b.toNat = b from UInt8.ofNat_toNat] at henc
    rw [hd] at hstep
    simp only [] at hstep
    rw [if_pos (Lib.toLowerU_range b.toNat (by omega)).1, henc, List.drop_succ_cons, List.drop_zero] at hstep
    rw [hstep] at hn ⊢
    have hd2 := Lib.decodeL_ascii (Lib.lowerB b) (Lib.toLowerD l) hlow.2
    show fourL (k + 1) (Lib.lowerB b :: Lib.toLowerD l) x = hexF (b :: l) x
    rw [fourL, if_neg (by simp), hd2]
    simp only []
    unfold hexF
    cases hv : hexv b with
    | none =>
     rw [hv] at hlow
     have h1 : hexI (Lib.lowerB b).toNat = -1 := hlow.1
     rw [h1, if_pos (by decide)]; rfl
    | some v =>
     rw [hv] at hlow
     have hb2 := hexv_bd hv
     have h1 : hexI (Lib.lowerB b).toNat = v := hlow.1
     rw [h1, if_neg (by omega), List.drop_succ_cons, List.drop_zero]
     simp only [List.length_cons] at h4 hx h hn
     have hx2 : x < 4096 := by
      have : (16 : Int) ^ (4 - (l.length + 1)) ≤ 16 ^ 3 := by
       have : 4 - (l.length + 1) ≤ 3 := by omega
       exact_mod_cast Nat.pow_le_pow_right (by decide) this
      have e3 : (16 : Int) ^ 3 = 4096 := by decide
      omega
     rw [step_is x v ⟨hx.1, hx2⟩ hb2]
     refine fourL_hex N l (by omega) k _ (by omega) ⟨by omega, ?_⟩ ?_
     · have e : (4 - l.length) = (4 - (l.length + 1)) + 1 := by omega
       rw [e, Int.pow_succ]
       omega
     simpa using hn
  have hbig := dec_big b l (by omega)
  have hlow := lower_high (Lib.decodeL (b :: l)).1 hbig
  obtain ⟨c, m, he, hc⟩ := enc_big _ hlow
  rw [if_pos (by omega), he] at hstep
  rw [hstep]
  have hnone : hexv b = none := by unfold hexv; rw [if_neg (by omega), if_neg (by omega), if_neg (by omega)]
  rw [hexF, hnone, List.cons_append, fourL, if_neg (by simp)]
  have h103 : 103 ≤ (Lib.decodeL (c :: (m ++ Lib.toLowerD ((b :: l).drop (Lib.decodeL (b :: l)).2)))).1 := by
   by_cases hc2 : c.toNat < 128
   · rw [Lib.decodeL_ascii _ _ hc2]; exact hc
   have := dec_big c (m ++ Lib.toLowerD ((b :: l).drop (Lib.decodeL (b :: l)).2)) (by omega); omega
  rw [hexI_high _ h103, if_pos (by decide)]
  rfl
theorem four_is (l : List UInt8) (o : Int) : S.four ⟨l, o, 0⟩ = match l with
    | b0 :: b1 :: b2 :: b3 :: t => (match hexF [b0, b1, b2, b3] 0 with | some x => (x, ⟨t, o, 0⟩) | none => (0, ⟨l, o, 11⟩))
    | _ => (0, ⟨l, o, 11⟩) := by
 match l with
 | [] => rfl
 | [_] => rfl
 | [_, _] => rfl
 | [_, _, _] => rfl
 | b0 :: b1 :: b2 :: b3 :: t =>
  unfold S.four
  rw [if_neg (by simp)]
  have hlow : S.low ⟨b0 :: b1 :: b2 :: b3 :: t, o, 0⟩ = ofL (Lib.toLowerD [b0, b1, b2, b3]) := rfl
  rw [hlow, fourLoop_L, List.drop_zero, ofL_size, fourL_hex 4 [b0, b1, b2, b3] (by simp) _ 0 (by simp) ⟨by decide, by simp⟩ (by omega)]
  simp only []
  cases hexF [b0, b1, b2, b3] 0 with
  | none => rfl
  | some x => rfl
end Js
end Go.Proofs.YtapcpndplnkfjaaGreatDoor
