/- What the law rests on, part 3: joined by a program of this session (claimx.py). -/
import Derived.Test.YtapcpndplnkfjaaGreatDoorOrderStandsB
namespace Go.Proofs.YtapcpndplnkfjaaGreatDoor
open Go.RowKit Go.Proofs.YtapcpndplnkfjaaGreatDoorW.PrintWords Go.Proofs.YtapcpndplnkfjaaGreatDoorW.PrintLast Go.Proofs.YtapcpndplnkfjaaGreatDoorW.PrintMore
set_option linter.unusedVariables false
set_option linter.unusedSimpArgs false
namespace Js
theorem right_ok {n : NumP.NumV} (h : NumP.right n = true) : okNum ⟨n.1, ofL n.2.1, n.2.2⟩ := by
  unfold NumP.right at h
  unfold okNum
  split at h
  · rename_i h0
    simp only [Bool.and_eq_true, beq_iff_eq] at h
    rw [h0, h.2]
    exact ⟨Nat.zero_le _, rfl, by show (-999 : Int) ≤ 0; omega, by show (0 : Int) ≤ 999; omega⟩
  · simp only [Bool.and_eq_true, decide_eq_true_eq] at h
    exact ⟨h.1.1.2, h.1.1.1.1.1, h.1.2, h.2⟩
theorem parse_ok (l : List UInt8) : okNum ⟨(NumP.parse l).1.1, ofL (NumP.parse l).1.2.1, (NumP.parse l).1.2.2⟩ := by
  have hz : okNum ⟨NumP.zero.1, ofL NumP.zero.2.1, NumP.zero.2.2⟩ := ⟨by decide, by decide, by decide, by decide⟩
  unfold NumP.parse
  split
  · split
    · rename_i h; exact right_ok h
    · exact hz
  · exact hz
theorem loop_out : ∀ (n : Nat) (out : List UInt8) (a : S), (strLoop S.esc n out a).1.length ≤ out.length + 17 * a.s.length
  | 0, out, a => by unfold strLoop; show out.length ≤ _; omega
  | n + 1, out, a => by
    unfold strLoop
    have ht : (a.s.take a.plain.1).length ≤ a.s.length := by rw [List.length_take]; omega
    split
    · show out.length ≤ _; omega
    · split
      · simp only [List.length_append]; omega
      · rename_i h2
        split
        · simp only [List.length_append]; omega
        · have h3 : a.plain.1 < a.s.length := (plain_le a).2 (by simpa using h2)
          have h4 := loop_out n (out ++ a.s.take a.plain.1 ++ a.cut.esc.1) a.cut.esc.2
          have h5 := esc_len a.cut
          have h6 : a.cut.s.length = a.s.length - (a.plain.1 + 1) := by unfold S.cut; simp
          have h7 : (a.s.take a.plain.1).length = a.plain.1 := by rw [List.length_take]; omega
          simp only [List.length_append] at h4
          refine Nat.le_trans h4 ?_
          omega
structure Top (N : Nat) (x : S28) : Prop where
  k : 0 ≤ x.f0 ∧ x.f0 ≤ 5
  n : okNum x.f2
  t : x.f3.data.toList.length ≤ 17 * N
theorem top_z (N : Nat) : Top N z28 := ⟨by decide, ⟨by decide, by decide, by decide, by decide⟩, by show (0 : Nat) ≤ _; omega⟩
theorem top_fv (n : Nat) (a : S) : Top a.s.length (fvN n a).1 := by
  cases n with
  | zero => exact top_z _
  | succ n =>
    have hl : a.skip.s.length ≤ a.s.length := skip_len a
    show Top _ (S.value textV (S.arr (fvN n)) (S.obj (fvN n)) a).1
    unfold S.value
    generalize a.skip = b at hl ⊢
    unfold S.value1
    have hz : okNum z24 := ⟨by decide, by decide, by decide, by decide⟩
    have h0 : ∀ k c, (0 ≤ k ∧ k ≤ (5 : Int)) → Top a.s.length (S28.mk k c z24 ⟨#[]⟩ [] []) := fun k c hk => ⟨hk, hz, by show (0 : Nat) ≤ _; omega⟩
    repeat' split
    all_goals first | exact top_z _ | exact h0 _ _ (by decide) | skip
    · refine ⟨by show (0 : Int) ≤ 3 ∧ (3 : Int) ≤ 5; decide, hz, ?_⟩
      show (strLoop S.esc (b.s.length + 1) [] b.tl).1.length ≤ _
      have := loop_out (b.s.length + 1) [] b.tl
      have h2 : b.tl.s.length ≤ b.s.length := by unfold S.tl; simp
      simp only [List.length_nil] at this
      omega
    · exact ⟨by show (0 : Int) ≤ 4 ∧ (4 : Int) ≤ 5; decide, hz, by show (0 : Nat) ≤ _; omega⟩
    · exact ⟨by show (0 : Int) ≤ 5 ∧ (5 : Int) ≤ 5; decide, hz, by show (0 : Nat) ≤ _; omega⟩
    · exact ⟨by show (0 : Int) ≤ 2 ∧ (2 : Int) ≤ 5; decide, parse_ok _, by show (0 : Nat) ≤ _; omega⟩
theorem top_parse (s : List UInt8) : Top s.length (parseV (fvN 17) s).1 := by
  unfold parseV
  split
  · exact top_z _
  · split
    · exact top_fv 17 ⟨s, 0, 0⟩
    · exact top_z _
end Js
end Go.Proofs.YtapcpndplnkfjaaGreatDoor
namespace Go.Proofs.YtapcpndplnkfjaaGreatDoor
open Go.RowKit Go.Proofs.YtapcpndplnkfjaaGreatDoorW.PrintWords Go.Proofs.YtapcpndplnkfjaaGreatDoorW.PrintLast Go.Proofs.YtapcpndplnkfjaaGreatDoorW.PrintMore
set_option linter.unusedVariables false
set_option linter.unusedSimpArgs false
namespace Js
structure JC (w : World) (x : S28) (A : Option Addr) (n c : Nat) (B : Option Addr) (m c' : Nat) : Prop where
  ln : n = x.f4.length
  nc : n ≤ c
  i : k28.C w A n x.f4
  lm : m = x.f5.length
  mc : m ≤ c'
  s : Kd.string.C w B m x.f5
theorem JC.below {w w' : World} {x : S28} {A B : Option Addr} {n c m c' : Nat} (h : JC w x A n c B m c') (hb : Below w.heap.size w w') : JC w' x A n c B m c' :=
  ⟨h.ln, h.nc, Kd.C_below h.i hb, h.lm, h.mc, Kd.C_below h.s hb⟩
theorem eight {w : World} {g : Nat} {a0 a1 a2 a3 a4 a5 a6 a7 : Value} {t : TypeId} (h : w.heap[g]? = some (.cells #[a0, a1, a2, a3, a4, a5, a6, a7] t (0, 0))) :
    w.cell? ⟨g, 0, none⟩ = some a0 ∧ w.cell? ⟨g, 1, none⟩ = some a1 ∧ w.cell? ⟨g, 2, none⟩ = some a2 ∧ w.cell? ⟨g, 3, none⟩ = some a3 ∧ w.cell? ⟨g, 4, none⟩ = some a4 ∧ w.cell? ⟨g, 5, none⟩ = some a5 ∧ w.cell? ⟨g, 6, none⟩ = some a6 ∧ w.cell? ⟨g, 7, none⟩ = some a7 :=
  ⟨(blk_cell h 0).trans rfl, (blk_cell h 1).trans rfl, (blk_cell h 2).trans rfl, (blk_cell h 3).trans rfl, (blk_cell h 4).trans rfl, (blk_cell h 5).trans rfl, (blk_cell h 6).trans rfl, (blk_cell h 7).trans rfl⟩
theorem kept {W w' : World} {o : Obj} (hb : Below (W.alloc o).heap.size (W.alloc o) w') : w'.heap[W.heap.size]? = some o ∧ W.heap.size < w'.heap.size := by
  have h := hb.size
  have h2 : (W.alloc o).heap.size = W.heap.size + 1 := by simp
  exact ⟨(hb.block _ (by omega)).trans (heap_alloc_new W o), by omega⟩
theorem thru {W w' : World} {g : Nat} {o : Obj} (h : W.heap[g]? = some o) (hb : Below W.heap.size W w') : w'.heap[g]? = some o := (hb.block _ (blk_lt h)).trans h
def pv (s : List UInt8) : S28 × Int := parseV (fvN 17) s
theorem jparse (s : List UInt8) (w : World) (hT : Tabs w) (x : S28) (e : Int) (h : pv s = (x, e)) :
    Calls Tryz.prog 16 #[.string (ofL s)] w fun E w' => ∃ A n c B m c', E = .returned (.tuple #[.agg #[.int .i64 x.f0, .bool x.f1, .bool x.f2.f0, .string x.f2.f1, .int .i64 x.f2.f2, .string x.f3, .slice A n c, .slice B m c'], .int .i64 e]) ∧
      JC w' x A n c B m c' ∧ Below w.heap.size w w' := by
  have hx : x = (parseV (fvN 17) s).1 := by rw [show parseV (fvN 17) s = (x, e) from h]
  have he : e = (parseV (fvN 17) s).2 := by rw [show parseV (fvN 17) s = (x, e) from h]
  subst hx he
  refine (json_calls s w hT).mono fun E w' ⟨v, h1, ⟨cs, h2, h3⟩, h4⟩ => ?_
  obtain ⟨v6, v7, rfl, g6, g7⟩ := k28_openM h3
  obtain ⟨A, c, rfl, hl6, h6⟩ := Kd.R_reads g6
  obtain ⟨B, c', rfl, hl7, h7⟩ := Kd.R_reads g7
  exact ⟨A, _, c, B, _, c', by rw [h1, h2], ⟨rfl, hl6, h6, rfl, hl7, h7⟩, h4⟩
theorem p7 : pv [55] = (⟨2, false, ⟨false, ⟨#[55]⟩, 0⟩, ⟨#[]⟩, [], []⟩, 0) := by kernel_rfl
theorem pA : pv [91, 93] = (⟨4, false, ⟨false, ⟨#[]⟩, 0⟩, ⟨#[]⟩, [], []⟩, 0) := by kernel_rfl
theorem str_run (w : World) (A : Option Addr) (n c : Nat) (xs : List Int) (h : (Kd.int .u8).C w A n xs) : (convert 38 9 (.slice A n c)).run Tryz.prog w = .ok (.string (strOfNums xs)) w :=
  Kd.C_string Tryz.underlying38 Tryz.underlying5 Tryz.underlying9 h
theorem okNum7 : okNum ⟨false, ⟨#[55]⟩, 0⟩ := ⟨by decide, by decide, by decide, by decide⟩
theorem okNumZ : okNum ⟨false, ⟨#[]⟩, 0⟩ := ⟨by decide, by decide, by decide, by decide⟩
set_option maxRecDepth 100000 in
set_option maxHeartbeats 4000000 in
theorem awake17_calls (w : World) (hT : KTabs w) : Calls Tryz.prog 15 #[] w fun e w' => e = .returned (.bool true) ∧ Below w.heap.size w w' := by
  have HT := Lib.hid hT
  clear hT
  go_enter Tryz.func15, Tryz.ntmps15
  go_wp2_with fail
  refine (jparse [55] w HT.out.t _ _ p7).mono ?_
  rintro E w1 ⟨A, n, c, B, m, c', rfl, hJ, hB⟩
  have HJ := Lib.hid hJ
  have HB := Lib.hid hB
  clear hJ hB
  go_wp2_with fail
  refine (jparse [91, 93] _ (HT.out.below (below_alloc HB.out _)).t _ _ pA).mono ?_
  rintro E w2 ⟨A2, n2, c2, B2, m2, c2', rfl, hJ2, hB2⟩
  obtain ⟨hk1, hs1⟩ := kept hB2
  obtain ⟨q0, q1, q2, q3, q4, q5, q6, q7⟩ := eight hk1
  have HK1 := Lib.hid hk1
  have HB2 := Lib.hid ((below_alloc HB.out _).trans (hB2.mono (by have := HB.out.size; simp; omega)))
  clear hk1 hB2 hJ2 HJ
  go_wp2_with fail
  have hB2a := fun o => below_alloc HB2.out o
  refine (key_calls ⟨2, false, ⟨false, ⟨#[55]⟩, 0⟩, ⟨#[]⟩, [], []⟩ (by decide) okNum7 (by decide) A B n m c c' _ (HT.out.below (hB2a _))).mono ?_
  rintro E w3 ⟨v, rfl, hR, hB3⟩
  rw [show keyL ⟨2, false, ⟨false, ⟨#[55]⟩, 0⟩, ⟨#[]⟩, [], []⟩ = ([4, 2, 7, 209, 8, 0], 0) by decide +kernel] at hR ⊢
  obtain ⟨hk2, hs2⟩ := kept hB3
  obtain ⟨p0, p1, p2, p3, p4, p5, p6, p7⟩ := eight hk2
  have hk1 := thru (blk_alloc HK1.out _) hB3
  obtain ⟨q0, q1, q2, q3, q4, q5, q6, q7⟩ := eight hk1
  have hs13 := Nat.lt_trans hs1 hs2
  have HK1 := Lib.hid hk1
  have HB3 := Lib.hid ((hB2a _).trans (hB3.mono (hB2a _).size))
  obtain ⟨A3, c3, rfl, hl3, hC3⟩ := Kd.R_reads hR
  have HC3 := Lib.hid hC3
  clear hk1 hk2 hB3 hB2a hR hC3 hs1
  go_wp2_with fail
  refine (key_calls ⟨4, false, ⟨false, ⟨#[]⟩, 0⟩, ⟨#[]⟩, [], []⟩ (by decide) okNumZ (by decide) A2 B2 n2 m2 c2 c2' _ (HT.out.below HB3.out)).mono ?_
  rintro E w4 ⟨v, rfl, hR, hB4⟩
  rw [show keyL ⟨4, false, ⟨false, ⟨#[]⟩, 0⟩, ⟨#[]⟩, [], []⟩ = ([], 36) by decide +kernel] at hR ⊢
  have hk1 := thru HK1.out hB4
  obtain ⟨q0, q1, q2, q3, q4, q5, q6, q7⟩ := eight hk1
  have HB4 := Lib.hid (HB3.out.trans (hB4.mono HB3.out.size))
  have HC4 := Lib.hid (Kd.C_below HC3.out hB4)
  clear p0 p1 p2 p3 p4 p5 p6 p7 hk1 hB4 HC3 hR
  go_wp2_with fail
  refine (kind_calls 2 (by decide) false false ⟨#[55]⟩ ⟨#[]⟩ 0 A B n m c c' _ (HT.out.below HB4.out)).mono ?_
  rintro E w5 ⟨rfl, hB5⟩
  rw [show k1 2 = 4 from rfl, show k2 2 = 5 from rfl]
  have hst : (convert 38 9 (.slice A3 6 c3)).run Tryz.prog w5 = .ok (.string ⟨#[4, 2, 7, 209, 8, 0]⟩) w5 :=
    (str_run w5 A3 6 c3 _ (Kd.C_below HC4.out hB5)).trans (by rw [show strOfNums [4, 2, 7, 209, 8, 0] = ⟨#[4, 2, 7, 209, 8, 0]⟩ by kernel_rfl])
  have HB5 := Lib.hid (HB4.out.trans (hB5.mono HB4.out.size))
  clear hB5
  go_wp2_with fail
  go_ret
  exact ⟨rfl, HB5.out⟩
end Js
end Go.Proofs.YtapcpndplnkfjaaGreatDoor
namespace Go.Proofs.YtapcpndplnkfjaaGreatDoor
open Go.RowKit Go.Proofs.YtapcpndplnkfjaaGreatDoorW.PrintWords
set_option linter.unusedVariables false
end Go.Proofs.YtapcpndplnkfjaaGreatDoor
namespace Go.Proofs.YtapcpndplnkfjaaGreatDoor
open Go.RowKit Go.Proofs.YtapcpndplnkfjaaGreatDoorW.PrintWords Go.Proofs.YtapcpndplnkfjaaGreatDoorW.PrintLast Go.Proofs.YtapcpndplnkfjaaGreatDoorW.PrintMore
attribute [local go_sem] max2_int min2_int max_two min_two max_three min_three max_four min_four
set_option linter.unusedVariables false
set_option linter.unusedSimpArgs false
end Go.Proofs.YtapcpndplnkfjaaGreatDoor
namespace Go.Proofs.YtapcpndplnkfjaaGreatDoor
open Go.RowKit Go.Proofs.YtapcpndplnkfjaaGreatDoorW.PrintWords Go.Proofs.YtapcpndplnkfjaaGreatDoorW.PrintLast Go.Proofs.YtapcpndplnkfjaaGreatDoorW.PrintMore
attribute [local go_sem] max2_int min2_int max_two min_two max_three min_three max_four min_four
set_option linter.unusedVariables false
set_option linter.unusedSimpArgs false
end Go.Proofs.YtapcpndplnkfjaaGreatDoor
namespace Go.Proofs.YtapcpndplnkfjaaGreatDoor
open Go.RowKit Go.Proofs.YtapcpndplnkfjaaGreatDoorW.PrintWords Go.Proofs.YtapcpndplnkfjaaGreatDoorW.PrintLast Go.Proofs.YtapcpndplnkfjaaGreatDoorW.PrintMore
attribute [local go_sem] max2_int min2_int max_two min_two max_three min_three max_four min_four
set_option linter.unusedVariables false
set_option linter.unusedSimpArgs false
end Go.Proofs.YtapcpndplnkfjaaGreatDoor
namespace Go.Proofs.YtapcpndplnkfjaaGreatDoor
open Go.RowKit Go.Proofs.YtapcpndplnkfjaaGreatDoorW.PrintWords Go.Proofs.YtapcpndplnkfjaaGreatDoorW.PrintLast Go.Proofs.YtapcpndplnkfjaaGreatDoorW.PrintMore
attribute [local go_sem] max2_int min2_int max_two min_two max_three min_three max_four min_four
set_option linter.unusedVariables false
set_option linter.unusedSimpArgs false
end Go.Proofs.YtapcpndplnkfjaaGreatDoor
namespace Go.Proofs.YtapcpndplnkfjaaGreatDoor
open Go.RowKit Go.Proofs.YtapcpndplnkfjaaGreatDoorW.PrintWords Go.Proofs.YtapcpndplnkfjaaGreatDoorW.PrintLast Go.Proofs.YtapcpndplnkfjaaGreatDoorW.PrintMore
attribute [local go_sem] max2_int min2_int max_two min_two max_three min_three max_four min_four
set_option linter.unusedVariables false
set_option linter.unusedSimpArgs false
end Go.Proofs.YtapcpndplnkfjaaGreatDoor
namespace Go.Proofs.YtapcpndplnkfjaaGreatDoor
open Go.RowKit Go.Proofs.YtapcpndplnkfjaaGreatDoorW.PrintWords Go.Proofs.YtapcpndplnkfjaaGreatDoorW.PrintLast Go.Proofs.YtapcpndplnkfjaaGreatDoorW.PrintMore
attribute [local go_sem] max2_int min2_int max_two min_two max_three min_three max_four min_four
set_option linter.unusedVariables false
set_option linter.unusedSimpArgs false
end Go.Proofs.YtapcpndplnkfjaaGreatDoor
namespace Go.Proofs.YtapcpndplnkfjaaGreatDoor
open Go.RowKit Go.Proofs.YtapcpndplnkfjaaGreatDoorW.PrintWords Go.Proofs.YtapcpndplnkfjaaGreatDoorW.PrintLast Go.Proofs.YtapcpndplnkfjaaGreatDoorW.PrintMore
attribute [local go_sem] max2_int min2_int max_two min_two max_three min_three max_four min_four
set_option linter.unusedVariables false
set_option linter.unusedSimpArgs false
end Go.Proofs.YtapcpndplnkfjaaGreatDoor
namespace Go.Proofs.YtapcpndplnkfjaaGreatDoor
open Go.RowKit Go.Proofs.YtapcpndplnkfjaaGreatDoorW.PrintWords Go.Proofs.YtapcpndplnkfjaaGreatDoorW.PrintLast Go.Proofs.YtapcpndplnkfjaaGreatDoorW.PrintMore
attribute [local go_sem] max2_int min2_int max_two min_two max_three min_three max_four min_four
set_option linter.unusedVariables false
set_option linter.unusedSimpArgs false
end Go.Proofs.YtapcpndplnkfjaaGreatDoor
namespace Go.Proofs.YtapcpndplnkfjaaGreatDoor.Pr
open Go.RowKit Go.Proofs.YtapcpndplnkfjaaGreatDoorW.PrintWords Go.Proofs.YtapcpndplnkfjaaGreatDoorW.PrintLast Go.Proofs.YtapcpndplnkfjaaGreatDoorW.PrintMore
attribute [local go_sem] max2_int min2_int max_two min_two max_three min_three max_four min_four
set_option linter.unusedVariables false
set_option linter.unusedSimpArgs false
end Go.Proofs.YtapcpndplnkfjaaGreatDoor.Pr
namespace Go.Proofs.YtapcpndplnkfjaaGreatDoor.Pr
open Go.RowKit Go.Proofs.YtapcpndplnkfjaaGreatDoorW.PrintWords Go.Proofs.YtapcpndplnkfjaaGreatDoorW.PrintLast Go.Proofs.YtapcpndplnkfjaaGreatDoorW.PrintMore
attribute [local go_sem] max2_int min2_int max_two min_two max_three min_three max_four min_four
set_option linter.unusedVariables false
set_option linter.unusedSimpArgs false
def cmp_isNaN_int.f (a0 : Int) : Option (Bool) := some (a0 != a0)
set_option maxHeartbeats 8000000 in
set_option maxRecDepth 100000 in
theorem cmp_isNaN_int.calls (a0 : Int) (r : Bool) (w : World) (h : cmp_isNaN_int.f a0 = some r) :
    Calls Tryz.prog 80 #[.int .i64 a0] w fun e w' => e = .returned (.bool r) ∧ Drawn0 w w' := by
  have H : (some (a0 != a0)) = some r := h
  clear h
  obtain rfl := Option.some.inj H
  go_enter Tryz.func80, Tryz.ntmps80
  go_wp2
  go_ret
  try simp only [beq_nil_isEmpty, bytesLess_gtr]
  exact ⟨by first | rfl | (simp; done) | (simp [*]; done), by repeat (first | exact Drawn0.refl _ | apply Drawn0.step)⟩
def cmp_Compare_int.f (a0 : Int) (a1 : Int) : Option (Int) := (cmp_isNaN_int.f a0).bind fun t101 => ((cmp_isNaN_int.f a1).bind fun t102 => (if t101 = true then (if t102 = true then (some 0) else (some (-1))) else (if t102 = true then (some 1) else (if a0 < a1 then (some (-1)) else (if a0 > a1 then (some 1) else (some 0))))))
set_option maxHeartbeats 8000000 in
set_option maxRecDepth 100000 in
theorem cmp_Compare_int.calls (a0 : Int) (a1 : Int) (r : Int) (w : World) (h : cmp_Compare_int.f a0 a1 = some r) :
    Calls Tryz.prog 50 #[.int .i64 a0, .int .i64 a1] w fun e w' => e = .returned (.int .i64 r) ∧ Drawn0 w w' := by
  have H : ((cmp_isNaN_int.f a0).bind fun t101 => ((cmp_isNaN_int.f a1).bind fun t102 => (if t101 = true then (if t102 = true then (some 0) else (some (-1))) else (if t102 = true then (some 1) else (if a0 < a1 then (some (-1)) else (if a0 > a1 then (some 1) else (some 0))))))) = some r := h
  clear h
  replace H := Option.bind_eq_some_iff.mp H
  obtain ⟨t101, A30, H⟩ := H
  replace H : ((cmp_isNaN_int.f a1).bind fun t102 => (if t101 = true then (if t102 = true then (some 0) else (some (-1))) else (if t102 = true then (some 1) else (if a0 < a1 then (some (-1)) else (if a0 > a1 then (some 1) else (some 0)))))) = some r := H
  have A3 := Aside0.mk A30
  clear A30
  replace H := Option.bind_eq_some_iff.mp H
  obtain ⟨t102, A40, H⟩ := H
  replace H : (if t101 = true then (if t102 = true then (some 0) else (some (-1))) else (if t102 = true then (some 1) else (if a0 < a1 then (some (-1)) else (if a0 > a1 then (some 1) else (some 0))))) = some r := H
  have A4 := Aside0.mk A40
  clear A40
  by_cases c5 : t101 = true
  · subst c5
    have H1 : (if t102 = true then (some 0) else (some (-1))) = some r := by rw [if_pos rfl] at H; exact H
    clear H
    have H := H1
    clear H1
    by_cases c6 : t102 = true
    · subst c6
      have H1 : (some 0) = some r := by rw [if_pos rfl] at H; exact H
      clear H
      have H := H1
      clear H1
      obtain rfl := Option.some.inj H
      go_enter Tryz.func50, Tryz.ntmps50
      go_wp2_with (first | ((with_reducible refine gate_callee (f := 80) rfl ?_); refine goesL_ (some 8) rfl rfl Tryz.func80 (by kernel_rfl) rfl #[.int .i64 a0] rfl (by (try simp only [List.map_toArray, List.map_cons, List.map_nil]); first | done | rfl | (simp only [List.length_drop, List.length_take]; rfl)) ?_; (with_reducible refine (cmp_isNaN_int.calls a0 true _ A3.out).mono ?_); rintro e w' ⟨rfl, ⟨nd, rfl⟩⟩; refine ⟨_, rfl, ?_⟩) | ((with_reducible refine gate_callee (f := 80) rfl ?_); refine goesL_ (some 10) rfl rfl Tryz.func80 (by kernel_rfl) rfl #[.int .i64 a1] rfl (by (try simp only [List.map_toArray, List.map_cons, List.map_nil]); first | done | rfl | (simp only [List.length_drop, List.length_take]; rfl)) ?_; (with_reducible refine (cmp_isNaN_int.calls a1 true _ A4.out).mono ?_); rintro e w' ⟨rfl, ⟨nd, rfl⟩⟩; refine ⟨_, rfl, ?_⟩))
      go_ret
      try simp only [beq_nil_isEmpty, bytesLess_gtr]
      exact ⟨by first | rfl | (simp; done) | (simp [*]; done), by repeat (first | exact Drawn0.refl _ | apply Drawn0.step)⟩
    · replace c6 := Bool.eq_false_iff.mpr c6
      subst c6
      have H1 : (some (-1)) = some r := by rw [if_neg (show ¬ (false = true) by decide)] at H; exact H
      clear H
      have H := H1
      clear H1
      obtain rfl := Option.some.inj H
      go_enter Tryz.func50, Tryz.ntmps50
      go_wp2_with (first | ((with_reducible refine gate_callee (f := 80) rfl ?_); refine goesL_ (some 8) rfl rfl Tryz.func80 (by kernel_rfl) rfl #[.int .i64 a0] rfl (by (try simp only [List.map_toArray, List.map_cons, List.map_nil]); first | done | rfl | (simp only [List.length_drop, List.length_take]; rfl)) ?_; (with_reducible refine (cmp_isNaN_int.calls a0 true _ A3.out).mono ?_); rintro e w' ⟨rfl, ⟨nd, rfl⟩⟩; refine ⟨_, rfl, ?_⟩) | ((with_reducible refine gate_callee (f := 80) rfl ?_); refine goesL_ (some 10) rfl rfl Tryz.func80 (by kernel_rfl) rfl #[.int .i64 a1] rfl (by (try simp only [List.map_toArray, List.map_cons, List.map_nil]); first | done | rfl | (simp only [List.length_drop, List.length_take]; rfl)) ?_; (with_reducible refine (cmp_isNaN_int.calls a1 false _ A4.out).mono ?_); rintro e w' ⟨rfl, ⟨nd, rfl⟩⟩; refine ⟨_, rfl, ?_⟩))
      go_ret
      try simp only [beq_nil_isEmpty, bytesLess_gtr]
      exact ⟨by first | rfl | (simp; done) | (simp [*]; done), by repeat (first | exact Drawn0.refl _ | apply Drawn0.step)⟩
  · replace c5 := Bool.eq_false_iff.mpr c5
    subst c5
    have H1 : (if t102 = true then (some 1) else (if a0 < a1 then (some (-1)) else (if a0 > a1 then (some 1) else (some 0)))) = some r := by rw [if_neg (show ¬ (false = true) by decide)] at H; exact H
    clear H
    have H := H1
    clear H1
    by_cases c7 : t102 = true
    · subst c7
      have H1 : (some 1) = some r := by rw [if_pos rfl] at H; exact H
      clear H
      have H := H1
      clear H1
      obtain rfl := Option.some.inj H
      go_enter Tryz.func50, Tryz.ntmps50
      go_wp2_with (first | ((with_reducible refine gate_callee (f := 80) rfl ?_); refine goesL_ (some 8) rfl rfl Tryz.func80 (by kernel_rfl) rfl #[.int .i64 a0] rfl (by (try simp only [List.map_toArray, List.map_cons, List.map_nil]); first | done | rfl | (simp only [List.length_drop, List.length_take]; rfl)) ?_; (with_reducible refine (cmp_isNaN_int.calls a0 false _ A3.out).mono ?_); rintro e w' ⟨rfl, ⟨nd, rfl⟩⟩; refine ⟨_, rfl, ?_⟩) | ((with_reducible refine gate_callee (f := 80) rfl ?_); refine goesL_ (some 10) rfl rfl Tryz.func80 (by kernel_rfl) rfl #[.int .i64 a1] rfl (by (try simp only [List.map_toArray, List.map_cons, List.map_nil]); first | done | rfl | (simp only [List.length_drop, List.length_take]; rfl)) ?_; (with_reducible refine (cmp_isNaN_int.calls a1 true _ A4.out).mono ?_); rintro e w' ⟨rfl, ⟨nd, rfl⟩⟩; refine ⟨_, rfl, ?_⟩))
      go_ret
      try simp only [beq_nil_isEmpty, bytesLess_gtr]
      exact ⟨by first | rfl | (simp; done) | (simp [*]; done), by repeat (first | exact Drawn0.refl _ | apply Drawn0.step)⟩
    · replace c7 := Bool.eq_false_iff.mpr c7
      subst c7
      have H1 : (if a0 < a1 then (some (-1)) else (if a0 > a1 then (some 1) else (some 0))) = some r := by rw [if_neg (show ¬ (false = true) by decide)] at H; exact H
      clear H
      have H := H1
      clear H1
      by_cases c8 : a0 < a1
      · rw [if_pos c8] at H
        have c8b0 : decide (a0 < a1) = true := decide_eq_true c8
        clear c8
        obtain rfl := Option.some.inj H
        go_enter Tryz.func50, Tryz.ntmps50
        go_wp2_with (first | ((with_reducible refine gate_callee (f := 80) rfl ?_); refine goesL_ (some 8) rfl rfl Tryz.func80 (by kernel_rfl) rfl #[.int .i64 a0] rfl (by (try simp only [List.map_toArray, List.map_cons, List.map_nil]); first | done | rfl | (simp only [List.length_drop, List.length_take]; rfl)) ?_; (with_reducible refine (cmp_isNaN_int.calls a0 false _ A3.out).mono ?_); rintro e w' ⟨rfl, ⟨nd, rfl⟩⟩; refine ⟨_, rfl, ?_⟩) | ((with_reducible refine gate_callee (f := 80) rfl ?_); refine goesL_ (some 10) rfl rfl Tryz.func80 (by kernel_rfl) rfl #[.int .i64 a1] rfl (by (try simp only [List.map_toArray, List.map_cons, List.map_nil]); first | done | rfl | (simp only [List.length_drop, List.length_take]; rfl)) ?_; (with_reducible refine (cmp_isNaN_int.calls a1 false _ A4.out).mono ?_); rintro e w' ⟨rfl, ⟨nd, rfl⟩⟩; refine ⟨_, rfl, ?_⟩))
        go_ret
        try simp only [beq_nil_isEmpty, bytesLess_gtr]
        exact ⟨by first | rfl | (simp; done) | (simp [*]; done), by repeat (first | exact Drawn0.refl _ | apply Drawn0.step)⟩
      · rw [if_neg c8] at H
        have c8b0 : decide (a0 < a1) = false := decide_eq_false c8
        clear c8
        by_cases c9 : a0 > a1
        · rw [if_pos c9] at H
          have c9b0 : decide (a1 < a0) = true := decide_eq_true c9
          clear c9
          obtain rfl := Option.some.inj H
          go_enter Tryz.func50, Tryz.ntmps50
          go_wp2_with (first | ((with_reducible refine gate_callee (f := 80) rfl ?_); refine goesL_ (some 8) rfl rfl Tryz.func80 (by kernel_rfl) rfl #[.int .i64 a0] rfl (by (try simp only [List.map_toArray, List.map_cons, List.map_nil]); first | done | rfl | (simp only [List.length_drop, List.length_take]; rfl)) ?_; (with_reducible refine (cmp_isNaN_int.calls a0 false _ A3.out).mono ?_); rintro e w' ⟨rfl, ⟨nd, rfl⟩⟩; refine ⟨_, rfl, ?_⟩) | ((with_reducible refine gate_callee (f := 80) rfl ?_); refine goesL_ (some 10) rfl rfl Tryz.func80 (by kernel_rfl) rfl #[.int .i64 a1] rfl (by (try simp only [List.map_toArray, List.map_cons, List.map_nil]); first | done | rfl | (simp only [List.length_drop, List.length_take]; rfl)) ?_; (with_reducible refine (cmp_isNaN_int.calls a1 false _ A4.out).mono ?_); rintro e w' ⟨rfl, ⟨nd, rfl⟩⟩; refine ⟨_, rfl, ?_⟩))
          go_ret
          try simp only [beq_nil_isEmpty, bytesLess_gtr]
          exact ⟨by first | rfl | (simp; done) | (simp [*]; done), by repeat (first | exact Drawn0.refl _ | apply Drawn0.step)⟩
        · rw [if_neg c9] at H
          have c9b0 : decide (a1 < a0) = false := decide_eq_false c9
          clear c9
          obtain rfl := Option.some.inj H
          go_enter Tryz.func50, Tryz.ntmps50
          go_wp2_with (first | ((with_reducible refine gate_callee (f := 80) rfl ?_); refine goesL_ (some 8) rfl rfl Tryz.func80 (by kernel_rfl) rfl #[.int .i64 a0] rfl (by (try simp only [List.map_toArray, List.map_cons, List.map_nil]); first | done | rfl | (simp only [List.length_drop, List.length_take]; rfl)) ?_; (with_reducible refine (cmp_isNaN_int.calls a0 false _ A3.out).mono ?_); rintro e w' ⟨rfl, ⟨nd, rfl⟩⟩; refine ⟨_, rfl, ?_⟩) | ((with_reducible refine gate_callee (f := 80) rfl ?_); refine goesL_ (some 10) rfl rfl Tryz.func80 (by kernel_rfl) rfl #[.int .i64 a1] rfl (by (try simp only [List.map_toArray, List.map_cons, List.map_nil]); first | done | rfl | (simp only [List.length_drop, List.length_take]; rfl)) ?_; (with_reducible refine (cmp_isNaN_int.calls a1 false _ A4.out).mono ?_); rintro e w' ⟨rfl, ⟨nd, rfl⟩⟩; refine ⟨_, rfl, ?_⟩))
          go_ret
          try simp only [beq_nil_isEmpty, bytesLess_gtr]
          exact ⟨by first | rfl | (simp; done) | (simp [*]; done), by repeat (first | exact Drawn0.refl _ | apply Drawn0.step)⟩
def cmp_Or_int.l0 : Nat → Int → List Int → Int → Int → Option (Int)
  | 0, _, _, _, _ => none
  | k + 1, x3, x6, x7, x8 => if x8 < x7 then (if 0 ≤ x8 then (if x8 < (x6.length : Int) then (if (rd x6 x8) = x3 then (cmp_Or_int.l0 k x3 x6 x7 (wrap64 (x8 + 1))) else (some (rd x6 x8))) else (none)) else (none)) else (some x3)
def cmp_Or_int.f (k : Nat) (l0 : List Int) : Option (Int) := cmp_Or_int.l0 k 0 l0 (l0.length : Int) 0
theorem cmp_Or_int.mono_l : ∀ k, (∀ y0 y1 y2 y3, LeO (cmp_Or_int.l0 k y0 y1 y2 y3) (cmp_Or_int.l0 (k + 1) y0 y1 y2 y3))
  | 0 => fun _ _ _ _ r h => by simp [cmp_Or_int.l0] at h
  | k + 1 => by
    have ih0 := cmp_Or_int.mono_l k
    · intro y0 y1 y2 y3
      unfold cmp_Or_int.l0
      repeat' first
      | (with_reducible exact ih0 _ _ _ _)
      | (with_reducible exact LeO.refl _)
      | (with_reducible exact LeO.none _)
      | (with_reducible refine LeO.ite ?_ ?_)
      | (with_reducible refine LeO.bind ?_ (fun _ => ?_))
      | exact ih0 _ _ _ _
      | exact LeO.none _
      | refine LeO.ite ?_ ?_
      | refine LeO.bind ?_ (fun _ => ?_)
theorem cmp_Or_int.mono : ∀ a0 k, LeO (cmp_Or_int.f k a0) (cmp_Or_int.f (k + 1) a0) := by
  intro a0 k
  have ih0 := cmp_Or_int.mono_l k
  unfold cmp_Or_int.f
  repeat' first
      | (with_reducible exact ih0 _ _ _ _)
      | (with_reducible exact LeO.refl _)
      | (with_reducible exact LeO.none _)
      | (with_reducible refine LeO.ite ?_ ?_)
      | (with_reducible refine LeO.bind ?_ (fun _ => ?_))
      | exact ih0 _ _ _ _
      | exact LeO.none _
      | refine LeO.ite ?_ ?_
      | refine LeO.bind ?_ (fun _ => ?_)
set_option maxHeartbeats 8000000 in
set_option maxRecDepth 100000 in
theorem cmp_Or_int.calls (k : Nat) (A0 : Option Addr) (c0 : Nat) (l0 : List Int) (r : Int) (w : World) (hr0 : Kd.C (Kd.int .i64) w A0 l0.length l0) (hc0 : l0.length ≤ c0) (h : cmp_Or_int.f k l0 = some r) :
    Calls Tryz.prog 55 #[.slice A0 l0.length c0] w fun e w' => e = .returned (.int .i64 r) ∧ Drawn0 w w' := by
  have HR0 := Aside0.mk hr0
  have HC0 := Aside0.mk hc0
  clear hr0 hc0
  have H : (cmp_Or_int.l0 k 0 l0 (l0.length : Int) 0) = some r := h
  clear h
  have H' := Aside0.mk H
  clear H
  go_enter Tryz.func55, Tryz.ntmps55
  go_wp2
  go_loopg [8] k (fun kq v8 w' => ∃ (x8_1 : Int), v8 = .int .i64 x8_1 ∧ Aside0 (cmp_Or_int.l0 kq 0 l0 (l0.length : Int) x8_1 = some r) ∧ Aside0 (kq ≤ k) ∧ Drawn0 w w')
  case atStart => exact ⟨(0), (by first | rfl | (simp; done) | (simp [*]; done) | (simp [wrap64]; done)), H', ⟨Nat.le_refl _⟩, by repeat (first | exact Drawn0.refl _ | apply Drawn0.step)⟩
  case round =>
    clear H'
    obtain ⟨x8_1, rfl, HA, HK1, ⟨m1, rfl⟩⟩ := hrel
    cases gk with
    | zero => exact absurd HA.out (by simp [cmp_Or_int.l0])
    | succ k1 =>
      have H := HA.out
      clear HA
      simp only [cmp_Or_int.l0] at H
      by_cases c2 : x8_1 < (l0.length : Int)
      · rw [if_pos c2] at H
        have c2b0 : decide (x8_1 < (l0.length : Int)) = true := decide_eq_true c2
        clear c2
        by_cases c3 : 0 ≤ x8_1
        · rw [if_pos c3] at H
          have c3b0 : decide (0 ≤ x8_1) = true := decide_eq_true c3
          clear c3
          by_cases c4 : x8_1 < (l0.length : Int)
          · rw [if_pos c4] at H
            have c4b0 : decide (x8_1 < (l0.length : Int)) = true := decide_eq_true c4
            clear c4
            by_cases c5 : (rd l0 x8_1) = 0
            · rw [if_pos c5] at H
              have c5b0 : ((rd l0 x8_1) == 0) = true := beq_iff_eq.mpr c5
              have c5b1 : ((rd l0 x8_1) != 0) = false := bne_eq_false_iff_eq.mpr c5
              clear c5
              have H' := Aside0.mk H
              clear H
              have p103 : 0 ≤ (x8_1 : Int) := of_decide_eq_true (by first | (with_reducible assumption) | assumption)
              have q103 : x8_1 < (l0.length : Int) := of_decide_eq_true (by first | (with_reducible assumption) | assumption)
              obtain ⟨ad103, e103, hx103_0⟩ := Kd.at_int HR0.out x8_1 p103 q103
              cases e103
              replace p103 := eq_true p103
              replace q103 := eq_true q103
              go_wp2
              go_roundg k1
              case measure => have := HK1.out; omega
              case rel => exact ⟨(wrap64 (x8_1 + 1)), (by first | rfl | (simp; done) | (simp [*]; done) | (simp [wrap64]; done)), H', ⟨by have := HK1.out; omega⟩, by repeat (first | exact Drawn0.refl _ | apply Drawn0.step)⟩
            · rw [if_neg c5] at H
              have c5b0 : ((rd l0 x8_1) == 0) = false := beq_eq_false_iff_ne.mpr c5
              have c5b1 : ((rd l0 x8_1) != 0) = true := bne_iff_ne.mpr c5
              obtain rfl := Option.some.inj H
              have p103 : 0 ≤ (x8_1 : Int) := of_decide_eq_true (by first | (with_reducible assumption) | assumption)
              have q103 : x8_1 < (l0.length : Int) := of_decide_eq_true (by first | (with_reducible assumption) | assumption)
              obtain ⟨ad103, e103, hx103_0⟩ := Kd.at_int HR0.out x8_1 p103 q103
              cases e103
              replace p103 := eq_true p103
              replace q103 := eq_true q103
              go_wp2
              go_ret
              try simp only [beq_nil_isEmpty, bytesLess_gtr]
              exact ⟨by first | rfl | (simp; done) | (simp [*]; done), by repeat (first | exact Drawn0.refl _ | apply Drawn0.step)⟩
          · rw [if_neg c4] at H
            exact absurd H (by simp)
        · rw [if_neg c3] at H
          exact absurd H (by simp)
      · rw [if_neg c2] at H
        have c2b0 : decide (x8_1 < (l0.length : Int)) = false := decide_eq_false c2
        clear c2
        obtain rfl := Option.some.inj H
        go_wp2
        go_ret
        try simp only [beq_nil_isEmpty, bytesLess_gtr]
        exact ⟨by first | rfl | (simp; done) | (simp [*]; done), by repeat (first | exact Drawn0.refl _ | apply Drawn0.step)⟩
def num_Num_side.f (a0_0 : Bool) (a0_1 : ByteArray) (a0_2 : Int) : Option (Int) := if a0_1.toList = ([] : List UInt8) then (some 0) else (if a0_0 = true then (some (-1)) else (some 1))
set_option maxHeartbeats 8000000 in
set_option maxRecDepth 100000 in
theorem num_Num_side.calls (a0_0 : Bool) (a0_1 : ByteArray) (a0_2 : Int) (r : Int) (w : World) (h : num_Num_side.f a0_0 a0_1 a0_2 = some r) :
    Calls Tryz.prog 81 #[.agg #[.bool a0_0, .string a0_1, .int .i64 a0_2]] w fun e w' => e = .returned (.int .i64 r) ∧ Below w.heap.size w w' := by
  have hu24 := Tryz.underlying24
  have HB := Aside0.mk (Below.refl w.heap.size w)
  have H : (if a0_1.toList = ([] : List UInt8) then (some 0) else (if a0_0 = true then (some (-1)) else (some 1))) = some r := h
  clear h
  by_cases c2 : a0_1.toList = ([] : List UInt8)
  · rw [if_pos c2] at H
    have c2b0 : (a0_1.toList == ([] : List UInt8)) = true := beq_iff_eq.mpr c2
    have c2b7 : a0_1.toList.isEmpty = true := by rw [← beq_nil_isEmpty]; exact c2b0
    have c2b1 : (a0_1.toList != ([] : List UInt8)) = false := bne_eq_false_iff_eq.mpr c2
    clear c2
    obtain rfl := Option.some.inj H
    go_enter Tryz.func81, Tryz.ntmps81
    go_wp2_with (first | ((with_reducible refine gate_dst (N := 1) rfl ?_); refine box_event ?hg (N := 1) ?hd (cs := #[.bool a0_0, .string a0_1, .int .i64 a0_2]) (t := 24) ?hr ?_; (case hd => rfl); (case hg => rfl); (case hr => first | (go_simp; done) | (go_simp; rfl)); intro gb104 hg w3 hbox hb; have n0_ := Aside0.mk (below_step (by repeat (first | (with_reducible first | exact HB.out | apply below_alloc | apply pw_below_drewN | apply below_drew1) | exact HB.out)) hb); have n1_ := Aside0.mk (hbox); have n2_ := Aside0.mk ((by rw [hg]; exact (below_size (by repeat (first | (with_reducible first | exact HB.out | apply below_alloc | apply pw_below_drewN | apply below_drew1) | exact HB.out))) : w.heap.size ≤ gb104)); have n3_ := Aside0.mk ((by rw [hg]; exact (below_size (by repeat (first | (with_reducible first | exact HB.out | apply below_alloc | apply pw_below_drewN | apply below_drew1) | exact HB.out))) : w.heap.size ≤ gb104)); clear HB; have HB := n0_; have BK104 := n1_; have GW104 := n2_; have GE104 := n3_; clear n0_ n1_ n2_ n3_; clear hb hbox hg; have hcz4_0 : w3.cell? ⟨gb104, 0, none⟩ = some (.bool a0_0) := (blk_cell BK104.out 0).trans rfl; have hcz4_1 : w3.cell? ⟨gb104, 1, none⟩ = some (.string a0_1) := (blk_cell BK104.out 1).trans rfl; have hcz4_2 : w3.cell? ⟨gb104, 2, none⟩ = some (.int .i64 a0_2) := (blk_cell BK104.out 2).trans rfl; have hfz4_0 := blk_frozen BK104.out 0; have hfz4_1 := blk_frozen BK104.out 1; have hfz4_2 := blk_frozen BK104.out 2))
    go_ret
    try simp only [beq_nil_isEmpty, bytesLess_gtr]
    exact ⟨by first | rfl | (simp [errW_none, errW_some] <;> rfl) | (simp [*, errW_none, errW_some] <;> rfl), by repeat (first | (with_reducible first | exact HB.out | apply below_alloc | apply pw_below_drewN | apply below_drew1 | refine below_set ?_ GE104.out) | exact HB.out)⟩
  · rw [if_neg c2] at H
    have c2b0 : (a0_1.toList == ([] : List UInt8)) = false := beq_eq_false_iff_ne.mpr c2
    have c2b7 : a0_1.toList.isEmpty = false := by rw [← beq_nil_isEmpty]; exact c2b0
    have c2b1 : (a0_1.toList != ([] : List UInt8)) = true := bne_iff_ne.mpr c2
    by_cases c5 : a0_0 = true
    · subst c5
      have H1 : (some (-1)) = some r := by rw [if_pos rfl] at H; exact H
      clear H
      have H := H1
      clear H1
      obtain rfl := Option.some.inj H
      go_enter Tryz.func81, Tryz.ntmps81
      go_wp2_with (first | ((with_reducible refine gate_dst (N := 1) rfl ?_); refine box_event ?hg (N := 1) ?hd (cs := #[.bool true, .string a0_1, .int .i64 a0_2]) (t := 24) ?hr ?_; (case hd => rfl); (case hg => rfl); (case hr => first | (go_simp; done) | (go_simp; rfl)); intro gb104 hg w6 hbox hb; have n0_ := Aside0.mk (below_step (by repeat (first | (with_reducible first | exact HB.out | apply below_alloc | apply pw_below_drewN | apply below_drew1) | exact HB.out)) hb); have n1_ := Aside0.mk (hbox); have n2_ := Aside0.mk ((by rw [hg]; exact (below_size (by repeat (first | (with_reducible first | exact HB.out | apply below_alloc | apply pw_below_drewN | apply below_drew1) | exact HB.out))) : w.heap.size ≤ gb104)); have n3_ := Aside0.mk ((by rw [hg]; exact (below_size (by repeat (first | (with_reducible first | exact HB.out | apply below_alloc | apply pw_below_drewN | apply below_drew1) | exact HB.out))) : w.heap.size ≤ gb104)); clear HB; have HB := n0_; have BK104 := n1_; have GW104 := n2_; have GE104 := n3_; clear n0_ n1_ n2_ n3_; clear hb hbox hg; have hcz7_0 : w6.cell? ⟨gb104, 0, none⟩ = some (.bool true) := (blk_cell BK104.out 0).trans rfl; have hcz7_1 : w6.cell? ⟨gb104, 1, none⟩ = some (.string a0_1) := (blk_cell BK104.out 1).trans rfl; have hcz7_2 : w6.cell? ⟨gb104, 2, none⟩ = some (.int .i64 a0_2) := (blk_cell BK104.out 2).trans rfl; have hfz7_0 := blk_frozen BK104.out 0; have hfz7_1 := blk_frozen BK104.out 1; have hfz7_2 := blk_frozen BK104.out 2))
      go_ret
      try simp only [beq_nil_isEmpty, bytesLess_gtr]
      exact ⟨by first | rfl | (simp [errW_none, errW_some] <;> rfl) | (simp [*, errW_none, errW_some] <;> rfl), by repeat (first | (with_reducible first | exact HB.out | apply below_alloc | apply pw_below_drewN | apply below_drew1 | refine below_set ?_ GE104.out) | exact HB.out)⟩
    · replace c5 := Bool.eq_false_iff.mpr c5
      subst c5
      have H1 : (some 1) = some r := by rw [if_neg (show ¬ (false = true) by decide)] at H; exact H
      clear H
      have H := H1
      clear H1
      obtain rfl := Option.some.inj H
      go_enter Tryz.func81, Tryz.ntmps81
      go_wp2_with (first | ((with_reducible refine gate_dst (N := 1) rfl ?_); refine box_event ?hg (N := 1) ?hd (cs := #[.bool false, .string a0_1, .int .i64 a0_2]) (t := 24) ?hr ?_; (case hd => rfl); (case hg => rfl); (case hr => first | (go_simp; done) | (go_simp; rfl)); intro gb104 hg w8 hbox hb; have n0_ := Aside0.mk (below_step (by repeat (first | (with_reducible first | exact HB.out | apply below_alloc | apply pw_below_drewN | apply below_drew1) | exact HB.out)) hb); have n1_ := Aside0.mk (hbox); have n2_ := Aside0.mk ((by rw [hg]; exact (below_size (by repeat (first | (with_reducible first | exact HB.out | apply below_alloc | apply pw_below_drewN | apply below_drew1) | exact HB.out))) : w.heap.size ≤ gb104)); have n3_ := Aside0.mk ((by rw [hg]; exact (below_size (by repeat (first | (with_reducible first | exact HB.out | apply below_alloc | apply pw_below_drewN | apply below_drew1) | exact HB.out))) : w.heap.size ≤ gb104)); clear HB; have HB := n0_; have BK104 := n1_; have GW104 := n2_; have GE104 := n3_; clear n0_ n1_ n2_ n3_; clear hb hbox hg; have hcz9_0 : w8.cell? ⟨gb104, 0, none⟩ = some (.bool false) := (blk_cell BK104.out 0).trans rfl; have hcz9_1 : w8.cell? ⟨gb104, 1, none⟩ = some (.string a0_1) := (blk_cell BK104.out 1).trans rfl; have hcz9_2 : w8.cell? ⟨gb104, 2, none⟩ = some (.int .i64 a0_2) := (blk_cell BK104.out 2).trans rfl; have hfz9_0 := blk_frozen BK104.out 0; have hfz9_1 := blk_frozen BK104.out 1; have hfz9_2 := blk_frozen BK104.out 2))
      go_ret
      try simp only [beq_nil_isEmpty, bytesLess_gtr]
      exact ⟨by first | rfl | (simp [errW_none, errW_some] <;> rfl) | (simp [*, errW_none, errW_some] <;> rfl), by repeat (first | (with_reducible first | exact HB.out | apply below_alloc | apply pw_below_drewN | apply below_drew1 | refine below_set ?_ GE104.out) | exact HB.out)⟩
def num_Compare.j0 : Nat → Int → Bool → Bool → ByteArray → Int → Bool → ByteArray → Int → Option (Int)
  | 0, _, _, _, _, _, _, _, _ => none
  | k + 1, x5, x18, x106000, x106001, x106002, x107000, x107001, x107002 => if x18 = true then (some x5) else ((cmp_Compare_int.f (wrap64 ((x106001.size : Int) + x106002)) (wrap64 ((x107001.size : Int) + x107002))).bind fun t111 => ((num_Num_side.f x106000 x106001 x106002).bind fun t112 => ((strings_Compare.f x106001 x107001).bind fun t113 => ((cmp_Or_int.f k (([t111, t113] : List Int))).bind fun t117 => (some (wrap64 (t112 * t117)))))))
def num_Compare.f (k : Nat) (a0_0 : Bool) (a0_1 : ByteArray) (a0_2 : Int) (a1_0 : Bool) (a1_1 : ByteArray) (a1_2 : Int) : Option (Int) := (num_Num_side.f a0_0 a0_1 a0_2).bind fun t107 => ((num_Num_side.f a1_0 a1_1 a1_2).bind fun t108 => ((cmp_Compare_int.f t107 t108).bind fun t109 => (if t109 = 0 then ((num_Num_side.f a0_0 a0_1 a0_2).bind fun t110 => (num_Compare.j0 k t109 (t110 == 0) a0_0 a0_1 a0_2 a1_0 a1_1 a1_2)) else (num_Compare.j0 k t109 true a0_0 a0_1 a0_2 a1_0 a1_1 a1_2))))
theorem num_Compare.mono_l : ∀ k, (∀ y0 y1 y2 y3 y4 y5 y6 y7, LeO (num_Compare.j0 k y0 y1 y2 y3 y4 y5 y6 y7) (num_Compare.j0 (k + 1) y0 y1 y2 y3 y4 y5 y6 y7))
  | 0 => fun _ _ _ _ _ _ _ _ r h => by simp [num_Compare.j0] at h
  | k + 1 => by
    have ih0 := num_Compare.mono_l k
    · intro y0 y1 y2 y3 y4 y5 y6 y7
      unfold num_Compare.j0
      repeat' first
      | (with_reducible exact ih0 _ _ _ _ _ _ _ _)
      | (with_reducible exact cmp_Or_int.mono _ _)
      | (with_reducible exact LeO.refl _)
      | (with_reducible exact LeO.none _)
      | (with_reducible refine LeO.ite ?_ ?_)
      | (with_reducible refine LeO.bind ?_ (fun _ => ?_))
      | exact ih0 _ _ _ _ _ _ _ _
      | exact cmp_Or_int.mono _ _
      | exact LeO.none _
      | refine LeO.ite ?_ ?_
      | refine LeO.bind ?_ (fun _ => ?_)
theorem num_Compare.mono : ∀ a0 a1 a2 a3 a4 a5 k, LeO (num_Compare.f k a0 a1 a2 a3 a4 a5) (num_Compare.f (k + 1) a0 a1 a2 a3 a4 a5) := by
  intro a0 a1 a2 a3 a4 a5 k
  have ih0 := num_Compare.mono_l k
  unfold num_Compare.f
  repeat' first
      | (with_reducible exact ih0 _ _ _ _ _ _ _ _)
      | (with_reducible exact cmp_Or_int.mono _ _)
      | (with_reducible exact LeO.refl _)
      | (with_reducible exact LeO.none _)
      | (with_reducible refine LeO.ite ?_ ?_)
      | (with_reducible refine LeO.bind ?_ (fun _ => ?_))
      | exact ih0 _ _ _ _ _ _ _ _
      | exact cmp_Or_int.mono _ _
      | exact LeO.none _
      | refine LeO.ite ?_ ?_
      | refine LeO.bind ?_ (fun _ => ?_)
def num_Compare.T5 : Bool × List (List Nat × List Nat) := (true, [([], []), ([0], [0]), ([], []), ([], []), ([3], [3]), ([], []), ([5], [5]), ([4, 6, 1], [4, 6]), ([2, 7], [2, 7]), ([8, 7], [8]), ([1, 9], [1, 9]), ([10, 9, 0, 1, 2, 3, 4, 5, 6, 7, 8, 9, 10], [10])])
def num_Compare.B5 : List Nat := [0, 1, 0, 0, 8, 0, 32, 123, 255, 511, 1023, 2047]
theorem num_Compare.tab5 : rtab .any (opsOf Tryz.f52 5) = num_Compare.T5 := by kernel_rfl
theorem num_Compare.bits5 : waitsOk num_Compare.T5.2 num_Compare.B5 = true := by kernel_rfl
set_option maxHeartbeats 8000000 in
set_option maxRecDepth 100000 in
theorem num_Compare.calls (k : Nat) (a0_0 : Bool) (a0_1 : ByteArray) (a0_2 : Int) (a1_0 : Bool) (a1_1 : ByteArray) (a1_2 : Int) (r : Int) (w : World) (h : num_Compare.f k a0_0 a0_1 a0_2 a1_0 a1_1 a1_2 = some r) :
    Calls Tryz.prog 52 #[.agg #[.bool a0_0, .string a0_1, .int .i64 a0_2], .agg #[.bool a1_0, .string a1_1, .int .i64 a1_2]] w fun e w' => e = .returned (.int .i64 r) ∧ Below w.heap.size w w' := by
  have hu24 := Tryz.underlying24
  have HB := Aside0.mk (Below.refl w.heap.size w)
  have H : ((num_Num_side.f a0_0 a0_1 a0_2).bind fun t107 => ((num_Num_side.f a1_0 a1_1 a1_2).bind fun t108 => ((cmp_Compare_int.f t107 t108).bind fun t109 => (if t109 = 0 then ((num_Num_side.f a0_0 a0_1 a0_2).bind fun t110 => (num_Compare.j0 k t109 (t110 == 0) a0_0 a0_1 a0_2 a1_0 a1_1 a1_2)) else (num_Compare.j0 k t109 true a0_0 a0_1 a0_2 a1_0 a1_1 a1_2))))) = some r := h
  clear h
  replace H := Option.bind_eq_some_iff.mp H
  obtain ⟨t107, A30, H⟩ := H
  replace H : ((num_Num_side.f a1_0 a1_1 a1_2).bind fun t108 => ((cmp_Compare_int.f t107 t108).bind fun t109 => (if t109 = 0 then ((num_Num_side.f a0_0 a0_1 a0_2).bind fun t110 => (num_Compare.j0 k t109 (t110 == 0) a0_0 a0_1 a0_2 a1_0 a1_1 a1_2)) else (num_Compare.j0 k t109 true a0_0 a0_1 a0_2 a1_0 a1_1 a1_2)))) = some r := H
  have A3 := Aside0.mk A30
  clear A30
  replace H := Option.bind_eq_some_iff.mp H
  obtain ⟨t108, A40, H⟩ := H
  replace H : ((cmp_Compare_int.f t107 t108).bind fun t109 => (if t109 = 0 then ((num_Num_side.f a0_0 a0_1 a0_2).bind fun t110 => (num_Compare.j0 k t109 (t110 == 0) a0_0 a0_1 a0_2 a1_0 a1_1 a1_2)) else (num_Compare.j0 k t109 true a0_0 a0_1 a0_2 a1_0 a1_1 a1_2))) = some r := H
  have A4 := Aside0.mk A40
  clear A40
  replace H := Option.bind_eq_some_iff.mp H
  obtain ⟨t109, A50, H⟩ := H
  replace H : (if t109 = 0 then ((num_Num_side.f a0_0 a0_1 a0_2).bind fun t110 => (num_Compare.j0 k t109 (t110 == 0) a0_0 a0_1 a0_2 a1_0 a1_1 a1_2)) else (num_Compare.j0 k t109 true a0_0 a0_1 a0_2 a1_0 a1_1 a1_2)) = some r := H
  have A5 := Aside0.mk A50
  clear A50
  have HC6 := Aside0.mk H
  clear H
  go_enter Tryz.func52, Tryz.ntmps52
  try go_wp2_with (first | ((with_reducible refine gate_dst (N := 2) rfl ?_); refine box_event ?hg (N := 2) ?hd (cs := #[.bool a0_0, .string a0_1, .int .i64 a0_2]) (t := 24) ?hr ?_; (case hd => rfl); (case hg => rfl); (case hr => first | (go_simp; done) | (go_simp; rfl)); intro gb105 hg w7 hbox hb; have n0_ := Aside0.mk (below_step (by repeat (first | (with_reducible first | exact HB.out | apply below_alloc | apply pw_below_drewN | apply below_drew1) | exact HB.out)) hb); have n1_ := Aside0.mk (hbox); have n2_ := Aside0.mk ((by rw [hg]; exact (below_size (by repeat (first | (with_reducible first | exact HB.out | apply below_alloc | apply pw_below_drewN | apply below_drew1) | exact HB.out))) : w.heap.size ≤ gb105)); have n3_ := Aside0.mk ((by rw [hg]; exact (below_size (by repeat (first | (with_reducible first | exact HB.out | apply below_alloc | apply pw_below_drewN | apply below_drew1) | exact HB.out))) : w.heap.size ≤ gb105)); clear HB; have HB := n0_; have BK105 := n1_; have GW105 := n2_; have GE105 := n3_; clear n0_ n1_ n2_ n3_; clear hb hbox hg) | ((with_reducible refine gate_dst (N := 3) rfl ?_); refine box_event ?hg (N := 3) ?hd (cs := #[.bool a1_0, .string a1_1, .int .i64 a1_2]) (t := 24) ?hr ?_; (case hd => rfl); (case hg => rfl); (case hr => first | (go_simp; done) | (go_simp; rfl)); intro gb106 hg w8 hbox hb; have n0_ := Aside0.mk (blk_below (g := gb105) (o := .cells #[.bool a0_0, .string a0_1, .int .i64 a0_2] 24 (0, 0)) (by (with_reducible repeat (first | refine blk_drewN ?_ _ | refine blk_drew ?_ | refine blk_alloc ?_ _)); exact BK105.out) hb); have n1_ := Aside0.mk (below_step (by repeat (first | (with_reducible first | exact HB.out | apply below_alloc | apply pw_below_drewN | apply below_drew1 | refine below_set ?_ GE105.out) | exact HB.out)) hb); have n2_ := Aside0.mk (hbox); have n3_ := Aside0.mk ((by rw [hg]; exact (below_size (by repeat (first | (with_reducible first | exact HB.out | apply below_alloc | apply pw_below_drewN | apply below_drew1 | refine below_set ?_ GE105.out) | exact HB.out))) : w.heap.size ≤ gb106)); have n4_ := Aside0.mk ((by rw [hg]; exact (below_size (by repeat (first | (with_reducible first | exact HB.out | apply below_alloc | apply pw_below_drewN | apply below_drew1 | refine below_set ?_ GE105.out) | exact HB.out))) : w.heap.size ≤ gb106)); have n5_ := Aside0.mk ((by rw [hg]; exact Nat.ne_of_lt (blk_lt (g := gb105) (o := .cells #[.bool a0_0, .string a0_1, .int .i64 a0_2] 24 (0, 0)) (by (with_reducible repeat (first | refine blk_drewN ?_ _ | refine blk_drew ?_ | refine blk_alloc ?_ _)); exact BK105.out)) : gb105 ≠ gb106)); have n6_ := Aside0.mk ((by rw [hg]; exact Nat.ne_of_gt (blk_lt (g := gb105) (o := .cells #[.bool a0_0, .string a0_1, .int .i64 a0_2] 24 (0, 0)) (by (with_reducible repeat (first | refine blk_drewN ?_ _ | refine blk_drew ?_ | refine blk_alloc ?_ _)); exact BK105.out)) : gb106 ≠ gb105)); clear BK105; clear HB; have BK105 := n0_; have HB := n1_; have BK106 := n2_; have GW106 := n3_; have GE106 := n4_; have NB105_106 := n5_; have NB106_105 := n6_; clear n0_ n1_ n2_ n3_ n4_ n5_ n6_; clear hb hbox hg))
  have n0_ := Aside0.mk (blk_drew BK105.out)
  have n1_ := Aside0.mk (blk_drew BK106.out)
  have n2_ := Aside0.mk (below_drew1 HB.out)
  clear BK105
  clear BK106
  clear HB
  have BK105 := n0_
  have BK106 := n1_
  have HB := n2_
  clear n0_ n1_ n2_
  refine start_ (n := 6) (S := fun w' => w'.cell? ⟨gb105, 0, none⟩ = some (.bool a0_0) ∧ w'.cell? ⟨gb105, 1, none⟩ = some (.string a0_1) ∧ w'.cell? ⟨gb105, 2, none⟩ = some (.int .i64 a0_2) ∧ w'.cell? ⟨gb106, 0, none⟩ = some (.bool a1_0) ∧ w'.cell? ⟨gb106, 1, none⟩ = some (.string a1_1) ∧ w'.cell? ⟨gb106, 2, none⟩ = some (.int .i64 a1_2)) (ds := []) #[false, false, false, false, false, false] (by kernel_rfl) rfl rfl ⟨(blk_cell BK105.out 0).trans rfl, (blk_cell BK105.out 1).trans rfl, (blk_cell BK105.out 2).trans rfl, (blk_cell BK106.out 0).trans rfl, (blk_cell BK106.out 1).trans rfl, (blk_cell BK106.out 2).trans rfl⟩ (fun hHeld => ?_)
  generalize w8.drew = w9 at BK105 BK106 HB hHeld ⊢
  refine take_ (i := 0) (N := some 7) (v := ?_) (a' := ?_) #[true, false, false, false, false, false] rfl rfl (by kernel_rfl) (fun _ _ _ h => h) (Or.inl ⟨by rfl, ?_⟩) hHeld ?_ ?_
  rotate_left
  · rintro w' ⟨s0, s1, s2, s3, s4, s5⟩
    go_simp
    with_reducible rfl
  rotate_left
  · simp only [Act.put, List.setIfInBounds_toArray, List.set_cons_zero, List.set_cons_succ, i64_w, i32_w]
    rfl
  refine take_ (i := 2) (N := some 9) (v := ?_) (a' := ?_) #[true, false, true, false, false, false] rfl rfl (by kernel_rfl) (fun _ _ _ h => h) (Or.inl ⟨by rfl, ?_⟩) hHeld ?_ ?_
  rotate_left
  · rintro w' ⟨s0, s1, s2, s3, s4, s5⟩
    go_simp
    with_reducible rfl
  rotate_left
  · simp only [Act.put, List.setIfInBounds_toArray, List.set_cons_zero, List.set_cons_succ, i64_w, i32_w]
    rfl
  refine one_ (i := 1) (N := some 8) #[true, true, true, false, false, false] rfl rfl (by kernel_rfl) (by decide) (fun K hK => ?_)
  refine goes_ Tryz.func81 (by kernel_rfl) rfl #[.agg #[.bool a0_0, .string a0_1, .int .i64 a0_2]] (by rfl) rfl rfl (by (try simp only [List.map_toArray, List.map_cons, List.map_nil]); first | done | rfl | (simp only [List.length_drop, List.length_take]; rfl)) ?_
  with_reducible refine (num_Num_side.calls a0_0 a0_1 a0_2 t107 _ A3.out).mono ?_
  rintro e w10 ⟨rfl, hb⟩
  refine ⟨_, rfl, ?_⟩
  have n0_ := Aside0.mk (blk_below (g := gb105) (o := .cells #[.bool a0_0, .string a0_1, .int .i64 a0_2] 24 (0, 0)) (by (with_reducible repeat (first | refine blk_drewN ?_ _ | refine blk_drew ?_ | refine blk_alloc ?_ _)); exact BK105.out) hb)
  have n1_ := Aside0.mk (blk_below (g := gb106) (o := .cells #[.bool a1_0, .string a1_1, .int .i64 a1_2] 24 (0, 0)) (by (with_reducible repeat (first | refine blk_drewN ?_ _ | refine blk_drew ?_ | refine blk_alloc ?_ _)); exact BK106.out) hb)
  have n2_ := Aside0.mk (below_step (by repeat (first | (with_reducible first | exact HB.out | apply below_alloc | apply pw_below_drewN | apply below_drew1 | refine below_set ?_ GE105.out | refine below_set ?_ GE106.out) | exact HB.out)) hb)
  clear BK105
  clear BK106
  clear HB
  have BK105 := n0_
  have BK106 := n1_
  have HB := n2_
  clear n0_ n1_ n2_
  (try clear hb)
  (try clear hb2)
  (try clear hk)
  (try clear hi)
  refine hK.out _ _ ⟨(blk_cell BK105.out 0).trans rfl, (blk_cell BK105.out 1).trans rfl, (blk_cell BK105.out 2).trans rfl, (blk_cell BK106.out 0).trans rfl, (blk_cell BK106.out 1).trans rfl, (blk_cell BK106.out 2).trans rfl⟩ (fun hHeld => ?_)
  clear hK K
  refine norm_ (a' := ?_) ?_ ?_
  rotate_left
  · show Act.put _ (some 8) _ = _
    simp only [Act.put, List.setIfInBounds_toArray, List.set_cons_zero, List.set_cons_succ, i64_w, i32_w]
    rfl
  refine one_ (i := 3) (N := some 10) #[true, true, true, true, false, false] rfl rfl (by kernel_rfl) (by decide) (fun K hK => ?_)
  refine goes_ Tryz.func81 (by kernel_rfl) rfl #[.agg #[.bool a1_0, .string a1_1, .int .i64 a1_2]] (by rfl) rfl rfl (by (try simp only [List.map_toArray, List.map_cons, List.map_nil]); first | done | rfl | (simp only [List.length_drop, List.length_take]; rfl)) ?_
  with_reducible refine (num_Num_side.calls a1_0 a1_1 a1_2 t108 _ A4.out).mono ?_
  rintro e w11 ⟨rfl, hb⟩
  refine ⟨_, rfl, ?_⟩
  have n0_ := Aside0.mk (blk_below (g := gb105) (o := .cells #[.bool a0_0, .string a0_1, .int .i64 a0_2] 24 (0, 0)) (by (with_reducible repeat (first | refine blk_drewN ?_ _ | refine blk_drew ?_ | refine blk_alloc ?_ _)); exact BK105.out) hb)
  have n1_ := Aside0.mk (blk_below (g := gb106) (o := .cells #[.bool a1_0, .string a1_1, .int .i64 a1_2] 24 (0, 0)) (by (with_reducible repeat (first | refine blk_drewN ?_ _ | refine blk_drew ?_ | refine blk_alloc ?_ _)); exact BK106.out) hb)
  have n2_ := Aside0.mk (below_step (by repeat (first | (with_reducible first | exact HB.out | apply below_alloc | apply pw_below_drewN | apply below_drew1 | refine below_set ?_ GE105.out | refine below_set ?_ GE106.out) | exact HB.out)) hb)
  clear BK105
  clear BK106
  clear HB
  have BK105 := n0_
  have BK106 := n1_
  have HB := n2_
  clear n0_ n1_ n2_
  (try clear hb)
  (try clear hb2)
  (try clear hk)
  (try clear hi)
  refine hK.out _ _ ⟨(blk_cell BK105.out 0).trans rfl, (blk_cell BK105.out 1).trans rfl, (blk_cell BK105.out 2).trans rfl, (blk_cell BK106.out 0).trans rfl, (blk_cell BK106.out 1).trans rfl, (blk_cell BK106.out 2).trans rfl⟩ (fun hHeld => ?_)
  clear hK K
  refine norm_ (a' := ?_) ?_ ?_
  rotate_left
  · show Act.put _ (some 10) _ = _
    simp only [Act.put, List.setIfInBounds_toArray, List.set_cons_zero, List.set_cons_succ, i64_w, i32_w]
    rfl
  refine one_ (i := 4) (N := some 11) #[true, true, true, true, true, false] rfl rfl (by kernel_rfl) (by decide) (fun K hK => ?_)
  refine goes_ Tryz.func50 (by kernel_rfl) rfl #[.int .i64 t107, .int .i64 t108] (by rfl) rfl rfl (by (try simp only [List.map_toArray, List.map_cons, List.map_nil]); first | done | rfl | (simp only [List.length_drop, List.length_take]; rfl)) ?_
  with_reducible refine (cmp_Compare_int.calls t107 t108 t109 _ A5.out).mono ?_
  rintro e w' ⟨rfl, ⟨nd, rfl⟩⟩
  refine ⟨_, rfl, ?_⟩
  refine hK.out _ _ ⟨(blk_cell BK105.out 0).trans rfl, (blk_cell BK105.out 1).trans rfl, (blk_cell BK105.out 2).trans rfl, (blk_cell BK106.out 0).trans rfl, (blk_cell BK106.out 1).trans rfl, (blk_cell BK106.out 2).trans rfl⟩ (fun hHeld => ?_)
  clear hK K
  refine norm_ (a' := ?_) ?_ ?_
  rotate_left
  · show Act.put _ (some 11) _ = _
    simp only [Act.put, List.setIfInBounds_toArray, List.set_cons_zero, List.set_cons_succ, i64_w, i32_w]
    rfl
  refine pure_ (i := 5) (N := some 5) (v := ?_) (a' := ?_) #[true, true, true, true, true, true] rfl rfl (by kernel_rfl) (fun _ _ _ h => h) (Or.inl ⟨by rfl, ?_⟩) ?_ ?_
  rotate_left
  · intro w'
    go_simp
    with_reducible rfl
  rotate_left
  · simp only [Act.put, List.setIfInBounds_toArray, List.set_cons_zero, List.set_cons_succ, i64_w, i32_w]
    rfl
  refine done_ (by kernel_rfl) ?_
  go_upto_region 2 with (fail)
  go_cut [18] (fun v18 wc => ∃ (kq : Nat) (x18_5 : Bool), v18 = .bool x18_5 ∧ Aside0 (num_Compare.j0 kq t109 x18_5 a0_0 a0_1 a0_2 a1_0 a1_1 a1_2 = some r) ∧ Aside0 (kq ≤ k) ∧ Aside0 (wc.heap[gb105]? = some (.cells #[.bool a0_0, .string a0_1, .int .i64 a0_2] 24 (0, 0))) ∧ Aside0 (wc.heap[gb106]? = some (.cells #[.bool a1_0, .string a1_1, .int .i64 a1_2] 24 (0, 0))) ∧ Aside0 (Below w.heap.size w wc))
  case first =>
    have H := HC6.out
    clear HC6
    by_cases c12 : t109 = 0
    · rw [if_pos c12] at H
      have c12b0 : (t109 == 0) = true := beq_iff_eq.mpr c12
      have c12b1 : (t109 != 0) = false := bne_eq_false_iff_eq.mpr c12
      clear c12
      (first | rw [c12b0] | (simp only [i64_w, i32_w]; rw [c12b0]) | skip)
      replace H := Option.bind_eq_some_iff.mp H
      obtain ⟨t110, A130, H⟩ := H
      replace H : (num_Compare.j0 k t109 (t110 == 0) a0_0 a0_1 a0_2 a1_0 a1_1 a1_2) = some r := H
      have A13 := Aside0.mk A130
      clear A130
      have H' := Aside0.mk H
      clear H
      have hnb14 := NB105_106.out
      have hnc14 := NB106_105.out
      have hcz15_0 : w11.cell? ⟨gb105, 0, none⟩ = some (.bool a0_0) := (blk_cell BK105.out 0).trans rfl
      have hcz15_1 : w11.cell? ⟨gb105, 1, none⟩ = some (.string a0_1) := (blk_cell BK105.out 1).trans rfl
      have hcz15_2 : w11.cell? ⟨gb105, 2, none⟩ = some (.int .i64 a0_2) := (blk_cell BK105.out 2).trans rfl
      have hfz15_0 := blk_frozen BK105.out 0
      have hfz15_1 := blk_frozen BK105.out 1
      have hfz15_2 := blk_frozen BK105.out 2
      go_wp2_with (first | (go_at_call 81; (with_reducible refine (num_Num_side.calls a0_0 a0_1 a0_2 t110 _ A13.out).mono ?_); rintro e w16 ⟨rfl, hb⟩; have n0_ := Aside0.mk (blk_below (g := gb105) (o := .cells #[.bool a0_0, .string a0_1, .int .i64 a0_2] 24 (0, 0)) (by (with_reducible repeat (first | refine blk_drewN ?_ _ | refine blk_drew ?_ | refine blk_alloc ?_ _)); exact BK105.out) hb); have n1_ := Aside0.mk (blk_below (g := gb106) (o := .cells #[.bool a1_0, .string a1_1, .int .i64 a1_2] 24 (0, 0)) (by (with_reducible repeat (first | refine blk_drewN ?_ _ | refine blk_drew ?_ | refine blk_alloc ?_ _)); exact BK106.out) hb); have n2_ := Aside0.mk (below_step (by repeat (first | (with_reducible first | exact HB.out | apply below_alloc | apply pw_below_drewN | apply below_drew1 | refine below_set ?_ GE105.out | refine below_set ?_ GE106.out) | exact HB.out)) hb); clear BK105; clear BK106; clear HB; have BK105 := n0_; have BK106 := n1_; have HB := n2_; clear n0_ n1_ n2_; (try clear hb); (try clear hb2); (try clear hk); (try clear hi)))
      go_meet
      case rel => exact ⟨_, ((t110 == 0)), (by first | rfl | (simp; done) | (simp [*]; done) | (simp [wrap64]; done)), H', ⟨by first | omega | exact Nat.le_refl _⟩, ⟨by (with_reducible repeat (first | refine blk_drewN ?_ _ | refine blk_drew ?_ | refine blk_alloc ?_ _)); exact BK105.out⟩, ⟨by (with_reducible repeat (first | refine blk_drewN ?_ _ | refine blk_drew ?_ | refine blk_alloc ?_ _)); exact BK106.out⟩, ⟨by repeat (first | (with_reducible first | exact HB.out | apply below_alloc | apply pw_below_drewN | apply below_drew1 | refine below_set ?_ GE105.out | refine below_set ?_ GE106.out) | exact HB.out)⟩⟩
    · rw [if_neg c12] at H
      have c12b0 : (t109 == 0) = false := beq_eq_false_iff_ne.mpr c12
      have c12b1 : (t109 != 0) = true := bne_iff_ne.mpr c12
      (first | rw [c12b0] | (simp only [i64_w, i32_w]; rw [c12b0]) | skip)
      have H' := Aside0.mk H
      clear H
      go_wp2
      go_meet
      case rel => exact ⟨_, (true), (by first | rfl | (simp; done) | (simp [*]; done) | (simp [wrap64]; done)), H', ⟨by first | omega | exact Nat.le_refl _⟩, ⟨by (with_reducible repeat (first | refine blk_drewN ?_ _ | refine blk_drew ?_ | refine blk_alloc ?_ _)); exact BK105.out⟩, ⟨by (with_reducible repeat (first | refine blk_drewN ?_ _ | refine blk_drew ?_ | refine blk_alloc ?_ _)); exact BK106.out⟩, ⟨by repeat (first | (with_reducible first | exact HB.out | apply below_alloc | apply pw_below_drewN | apply below_drew1 | refine below_set ?_ GE105.out | refine below_set ?_ GE106.out) | exact HB.out)⟩⟩
  case rest =>
    clear HC6
    try clear c1
    try clear p2
    try clear c5
    try clear c8
    try clear c12
    try clear c12b0
    try clear c12b1
    try clear c14
    try clear hcz15_0
    try clear hcz15_1
    try clear hcz15_2
    try clear hfz15_0
    try clear hfz15_1
    try clear hfz15_2
    obtain ⟨kq, x18_5, rfl, HA, HJ5, BK105, BK106, HB⟩ := hcut
    cases kq with
    | zero => exact absurd HA.out (by simp [num_Compare.j0])
    | succ kj5 =>
      have H := HA.out
      clear HA
      simp only [num_Compare.j0] at H
      by_cases c17 : x18_5 = true
      · subst c17
        have H1 : (some t109) = some r := by rw [if_pos rfl] at H; exact H
        clear H
        have H := H1
        clear H1
        obtain rfl := Option.some.inj H
        go_wp2
        go_ret
        try simp only [beq_nil_isEmpty, bytesLess_gtr]
        exact ⟨by first | rfl | (simp [errW_none, errW_some] <;> rfl) | (simp [*, errW_none, errW_some] <;> rfl), by repeat (first | (with_reducible first | exact HB.out | apply below_alloc | apply pw_below_drewN | apply below_drew1 | refine below_set ?_ GE105.out | refine below_set ?_ GE106.out) | exact HB.out)⟩
      · replace c17 := Bool.eq_false_iff.mpr c17
        subst c17
        have H1 : ((cmp_Compare_int.f (wrap64 ((a0_1.size : Int) + a0_2)) (wrap64 ((a1_1.size : Int) + a1_2))).bind fun t111 => ((num_Num_side.f a0_0 a0_1 a0_2).bind fun t112 => ((strings_Compare.f a0_1 a1_1).bind fun t113 => ((cmp_Or_int.f kj5 (([t111, t113] : List Int))).bind fun t117 => (some (wrap64 (t112 * t117))))))) = some r := by rw [if_neg (show ¬ (false = true) by decide)] at H; exact H
        clear H
        have H := H1
        clear H1
        replace H := Option.bind_eq_some_iff.mp H
        obtain ⟨t111, A180, H⟩ := H
        replace H : ((num_Num_side.f a0_0 a0_1 a0_2).bind fun t112 => ((strings_Compare.f a0_1 a1_1).bind fun t113 => ((cmp_Or_int.f kj5 (([t111, t113] : List Int))).bind fun t117 => (some (wrap64 (t112 * t117)))))) = some r := H
        have A18 := Aside0.mk A180
        clear A180
        replace H := Option.bind_eq_some_iff.mp H
        obtain ⟨t112, A190, H⟩ := H
        replace H : ((strings_Compare.f a0_1 a1_1).bind fun t113 => ((cmp_Or_int.f kj5 (([t111, t113] : List Int))).bind fun t117 => (some (wrap64 (t112 * t117))))) = some r := H
        have A19 := Aside0.mk A190
        clear A190
        replace H := Option.bind_eq_some_iff.mp H
        obtain ⟨t113, A200, H⟩ := H
        replace H : ((cmp_Or_int.f kj5 (([t111, t113] : List Int))).bind fun t117 => (some (wrap64 (t112 * t117)))) = some r := H
        have A20 := Aside0.mk A200
        clear A200
        obtain ⟨y114, hy114⟩ : ∃ y_ : List Int, y_ = (([t111, t113] : List Int)) := ⟨_, rfl⟩
        replace H : ((cmp_Or_int.f kj5 y114).bind fun t117 => (some (wrap64 (t112 * t117)))) = some r := by first | (rw [hy114]; with_reducible exact H) | (have H2_ := (Option.bind_some _ _).symm.trans H; rw [hy114]; with_reducible exact H2_) | (have H2_ := (Option.bind_some _ _).symm.trans H; with_reducible exact H2_) | with_reducible exact H | (rw [hy114]; exact H) | exact H
        have Ny114 := Aside0.mk hy114
        clear hy114
        replace H := Option.bind_eq_some_iff.mp H
        obtain ⟨t117, A210, H⟩ := H
        replace H : (some (wrap64 (t112 * t117))) = some r := H
        have A21 := Aside0.mk A210
        clear A210
        obtain rfl := Option.some.inj H
        have hnb22 := NB105_106.out
        have hnc22 := NB106_105.out
        have hcz23_0 : wc.cell? ⟨gb105, 0, none⟩ = some (.bool a0_0) := (blk_cell BK105.out 0).trans rfl
        have hcz23_1 : wc.cell? ⟨gb105, 1, none⟩ = some (.string a0_1) := (blk_cell BK105.out 1).trans rfl
        have hcz23_2 : wc.cell? ⟨gb105, 2, none⟩ = some (.int .i64 a0_2) := (blk_cell BK105.out 2).trans rfl
        have hfz23_0 := blk_frozen BK105.out 0
        have hfz23_1 := blk_frozen BK105.out 1
        have hfz23_2 := blk_frozen BK105.out 2
        have hcz24_0 : wc.cell? ⟨gb106, 0, none⟩ = some (.bool a1_0) := (blk_cell BK106.out 0).trans rfl
        have hcz24_1 : wc.cell? ⟨gb106, 1, none⟩ = some (.string a1_1) := (blk_cell BK106.out 1).trans rfl
        have hcz24_2 : wc.cell? ⟨gb106, 2, none⟩ = some (.int .i64 a1_2) := (blk_cell BK106.out 2).trans rfl
        have hfz24_0 := blk_frozen BK106.out 0
        have hfz24_1 := blk_frozen BK106.out 1
        have hfz24_2 := blk_frozen BK106.out 2
        try go_wp2_with (first | ((with_reducible refine gate_callee (f := 50) rfl ?_); refine goesL_ (some 32) rfl rfl Tryz.func50 (by kernel_rfl) rfl #[.int .i64 (wrap64 ((a0_1.size : Int) + a0_2)), .int .i64 (wrap64 ((a1_1.size : Int) + a1_2))] rfl (by (try simp only [List.map_toArray, List.map_cons, List.map_nil]); first | done | rfl | (simp only [List.length_drop, List.length_take]; rfl)) ?_; (with_reducible refine (cmp_Compare_int.calls (wrap64 ((a0_1.size : Int) + a0_2)) (wrap64 ((a1_1.size : Int) + a1_2)) t111 _ A18.out).mono ?_); rintro e w' ⟨rfl, ⟨nd, rfl⟩⟩; refine ⟨_, rfl, ?_⟩))
        (try (rw [drewN_self wc]; generalize hq_ : World.drewN wc _ = wc; have n0_ : Aside0 (wc.heap[gb105]? = some (.cells #[.bool a0_0, .string a0_1, .int .i64 a0_2] 24 (0, 0))) := ⟨by rw [← hq_]; exact (by (with_reducible repeat (first | refine blk_drewN ?_ _ | refine blk_drew ?_ | refine blk_alloc ?_ _)); exact BK105.out)⟩; have n1_ : Aside0 (wc.heap[gb106]? = some (.cells #[.bool a1_0, .string a1_1, .int .i64 a1_2] 24 (0, 0))) := ⟨by rw [← hq_]; exact (by (with_reducible repeat (first | refine blk_drewN ?_ _ | refine blk_drew ?_ | refine blk_alloc ?_ _)); exact BK106.out)⟩; have n2_ : Aside0 (Below w.heap.size w wc) := ⟨by rw [← hq_]; exact (by repeat (first | (with_reducible first | exact HB.out | apply below_alloc | apply pw_below_drewN | apply below_drew1 | refine below_set ?_ GE105.out | refine below_set ?_ GE106.out) | exact HB.out))⟩; clear BK105 BK106 HB hq_; have BK105 := n0_; have BK106 := n1_; have HB := n2_; clear n0_ n1_ n2_))
        have n0_ := Aside0.mk (blk_drew BK105.out)
        have n1_ := Aside0.mk (blk_drew BK106.out)
        have n2_ := Aside0.mk (below_drew1 HB.out)
        clear BK105
        clear BK106
        clear HB
        have BK105 := n0_
        have BK106 := n1_
        have HB := n2_
        clear n0_ n1_ n2_
        refine start_ (n := 12) (S := fun w' => w'.cell? ⟨gb105, 0, none⟩ = some (.bool a0_0) ∧ w'.cell? ⟨gb105, 1, none⟩ = some (.string a0_1) ∧ w'.cell? ⟨gb105, 2, none⟩ = some (.int .i64 a0_2) ∧ w'.cell? ⟨gb106, 0, none⟩ = some (.bool a1_0) ∧ w'.cell? ⟨gb106, 1, none⟩ = some (.string a1_1) ∧ w'.cell? ⟨gb106, 2, none⟩ = some (.int .i64 a1_2)) (ds := []) #[false, false, false, false, false, false, false, false, false, false, false, false] (by kernel_rfl) rfl rfl ⟨(blk_cell BK105.out 0).trans rfl, (blk_cell BK105.out 1).trans rfl, (blk_cell BK105.out 2).trans rfl, (blk_cell BK106.out 0).trans rfl, (blk_cell BK106.out 1).trans rfl, (blk_cell BK106.out 2).trans rfl⟩ (fun hHeld => ?_); refine with_tabW num_Compare.tab5 num_Compare.bits5 (fun HT_ HW_ => ?_)
        generalize wc.drew = w25 at BK105 BK106 HB hHeld ⊢
        refine pure_ (i := 2) (N := some 35) (v := ?_) (a' := ?_) #[false, false, true, false, false, false, false, false, false, false, false, false] rfl rfl (any_of HT_.out (by kernel_rfl)) (fun _ _ _ h => h) (Or.inl ⟨by rfl, ?_⟩) ?_ ?_
        rotate_left
        · intro w'
          go_simp
          with_reducible rfl
        rotate_left
        · simp only [Act.put, List.setIfInBounds_toArray, List.set_cons_zero, List.set_cons_succ, i64_w, i32_w]
          rfl
        refine pure_ (i := 3) (N := some 36) (v := ?_) (a' := ?_) #[false, false, true, true, false, false, false, false, false, false, false, false] rfl rfl (any_of HT_.out (by kernel_rfl)) (fun _ _ _ h => h) (Or.inl ⟨by rfl, ?_⟩) ?_ ?_
        rotate_left
        · intro w'
          go_simp
          with_reducible rfl
        rotate_left
        · simp only [Act.put, List.setIfInBounds_toArray, List.set_cons_zero, List.set_cons_succ, i64_w, i32_w]
          rfl
        refine pure_ (i := 5) (N := some 38) (v := ?_) (a' := ?_) #[false, false, true, true, false, true, false, false, false, false, false, false] rfl rfl (any_of HT_.out (by kernel_rfl)) (fun _ _ _ h => h) (Or.inl ⟨by rfl, ?_⟩) ?_ ?_
        rotate_left
        · intro w'
          go_simp
          with_reducible rfl
        rotate_left
        · simp only [Act.put, List.setIfInBounds_toArray, List.set_cons_zero, List.set_cons_succ, i64_w, i32_w]
          rfl
        refine take_ (i := 0) (N := some 33) (v := ?_) (a' := ?_) #[true, false, true, true, false, true, false, false, false, false, false, false] rfl rfl (take_ofW HT_.out HW_.out (by kernel_rfl)) (fun _ _ _ h => h) (Or.inl ⟨by rfl, ?_⟩) hHeld ?_ ?_
        rotate_left
        · rintro w' ⟨s0, s1, s2, s3, s4, s5⟩
          go_simp
          with_reducible rfl
        rotate_left
        · simp only [Act.put, List.setIfInBounds_toArray, List.set_cons_zero, List.set_cons_succ, i64_w, i32_w]
          rfl
        refine take_ (i := 4) (N := some 37) (v := ?_) (a' := ?_) #[true, false, true, true, true, true, false, false, false, false, false, false] rfl rfl (take_ofW HT_.out HW_.out (by kernel_rfl)) (fun _ _ _ h => h) (Or.inl ⟨by rfl, ?_⟩) hHeld ?_ ?_
        rotate_left
        · rintro w' ⟨s0, s1, s2, s3, s4, s5⟩
          go_simp
          with_reducible rfl
        rotate_left
        · simp only [Act.put, List.setIfInBounds_toArray, List.set_cons_zero, List.set_cons_succ, i64_w, i32_w]
          rfl
        refine take_ (i := 6) (N := some 39) (v := ?_) (a' := ?_) #[true, false, true, true, true, true, true, false, false, false, false, false] rfl rfl (take_ofW HT_.out HW_.out (by kernel_rfl)) (fun _ _ _ h => h) (Or.inl ⟨by rfl, ?_⟩) hHeld ?_ ?_
        rotate_left
        · rintro w' ⟨s0, s1, s2, s3, s4, s5⟩
          go_simp
          with_reducible rfl
        rotate_left
        · simp only [Act.put, List.setIfInBounds_toArray, List.set_cons_zero, List.set_cons_succ, i64_w, i32_w]
          rfl
        refine one_ (i := 1) (N := some 34) #[true, true, true, true, true, true, true, false, false, false, false, false] rfl rfl (one_of HT_.out (by kernel_rfl)) (by decide) (fun K hK => ?_)
        refine goes_ Tryz.func81 (by kernel_rfl) rfl #[.agg #[.bool a0_0, .string a0_1, .int .i64 a0_2]] (by rfl) rfl rfl (by (try simp only [List.map_toArray, List.map_cons, List.map_nil]); first | done | rfl | (simp only [List.length_drop, List.length_take]; rfl)) ?_
        with_reducible refine (num_Num_side.calls a0_0 a0_1 a0_2 t112 _ A19.out).mono ?_
        rintro e w26 ⟨rfl, hb⟩
        refine ⟨_, rfl, ?_⟩
        have n0_ := Aside0.mk (blk_below (g := gb105) (o := .cells #[.bool a0_0, .string a0_1, .int .i64 a0_2] 24 (0, 0)) (by (with_reducible repeat (first | refine blk_drewN ?_ _ | refine blk_drew ?_ | refine blk_alloc ?_ _)); exact BK105.out) hb)
        have n1_ := Aside0.mk (blk_below (g := gb106) (o := .cells #[.bool a1_0, .string a1_1, .int .i64 a1_2] 24 (0, 0)) (by (with_reducible repeat (first | refine blk_drewN ?_ _ | refine blk_drew ?_ | refine blk_alloc ?_ _)); exact BK106.out) hb)
        have n2_ := Aside0.mk (below_step (by repeat (first | (with_reducible first | exact HB.out | apply below_alloc | apply pw_below_drewN | apply below_drew1 | refine below_set ?_ GE105.out | refine below_set ?_ GE106.out) | exact HB.out)) hb)
        clear BK105
        clear BK106
        clear HB
        have BK105 := n0_
        have BK106 := n1_
        have HB := n2_
        clear n0_ n1_ n2_
        (try clear hb)
        (try clear hb2)
        (try clear hk)
        (try clear hi)
        refine hK.out _ _ ⟨(blk_cell BK105.out 0).trans rfl, (blk_cell BK105.out 1).trans rfl, (blk_cell BK105.out 2).trans rfl, (blk_cell BK106.out 0).trans rfl, (blk_cell BK106.out 1).trans rfl, (blk_cell BK106.out 2).trans rfl⟩ (fun hHeld => ?_)
        clear hK K
        refine norm_ (a' := ?_) ?_ ?_
        rotate_left
        · show Act.put _ (some 34) _ = _
          simp only [Act.put, List.setIfInBounds_toArray, List.set_cons_zero, List.set_cons_succ, i64_w, i32_w]
          rfl
        refine one_ (i := 7) (N := some 40) #[true, true, true, true, true, true, true, true, false, false, false, false] rfl rfl (one_of HT_.out (by kernel_rfl)) (by decide) (fun K hK => ?_)
        refine goes_ Tryz.func53 (by kernel_rfl) rfl #[.string a0_1, .string a1_1] (by rfl) rfl rfl (by (try simp only [List.map_toArray, List.map_cons, List.map_nil]); first | done | rfl | (simp only [List.length_drop, List.length_take]; rfl)) ?_
        with_reducible refine (strings_Compare.calls a0_1 a1_1 t113 _ A20.out).mono ?_
        rintro e w' ⟨rfl, ⟨nd, rfl⟩⟩
        refine ⟨_, rfl, ?_⟩
        refine hK.out _ _ ⟨(blk_cell BK105.out 0).trans rfl, (blk_cell BK105.out 1).trans rfl, (blk_cell BK105.out 2).trans rfl, (blk_cell BK106.out 0).trans rfl, (blk_cell BK106.out 1).trans rfl, (blk_cell BK106.out 2).trans rfl⟩ (fun hHeld => ?_)
        clear hK K
        refine norm_ (a' := ?_) ?_ ?_
        rotate_left
        · show Act.put _ (some 40) _ = _
          simp only [Act.put, List.setIfInBounds_toArray, List.set_cons_zero, List.set_cons_succ, i64_w, i32_w]
          rfl
        refine one_ (i := 8) (N := some 41) #[true, true, true, true, true, true, true, true, true, false, false, false] rfl rfl (one_of HT_.out (by kernel_rfl)) (by decide) (fun K hK => ?_)
        refine Kd.R_lit_step (Kd.int .i64) _ 3 ?hg (N := 41) ?hd (xs := ([t111, t113] : List Int)) (inner := [.int .i64 t111, .int .i64 t113]) (ok := fun _ => True) (okp := fun _ => True) ?hr ?hp (fun _ hk => hk) trivial (Below.refl _ _) (Nat.le_refl _) (by simp) ?_; (case hd => rfl); (case hg => rfl); (case hr => first | (go_simp; done) | (go_simp; rfl)); (case hp => exact (Reps.one (show Kd.M (Kd.int .i64) _ _ _ t111 [.int .i64 t111] from rfl) (Reps.one (show Kd.M (Kd.int .i64) _ _ _ t113 [.int .i64 t113] from rfl) (Reps.none _ _))))
        intro v115 w27 ho28 hb hg_ hnew_
        clear hg_ hnew_
        (first | rw [← Ny114.out] at ho28 | (simp only [Int.reduceToNat] at ho28; rw [← Ny114.out] at ho28))
        have n0_ := Aside0.mk (Kd.R_lower ho28 (below_size (by repeat (first | (with_reducible first | exact HB.out | apply below_alloc | apply pw_below_drewN | apply below_drew1 | refine below_set ?_ GE105.out | refine below_set ?_ GE106.out) | exact HB.out))))
        have n1_ := Aside0.mk (blk_below (g := gb105) (o := .cells #[.bool a0_0, .string a0_1, .int .i64 a0_2] 24 (0, 0)) (by (with_reducible repeat (first | refine blk_drewN ?_ _ | refine blk_drew ?_ | refine blk_alloc ?_ _)); exact BK105.out) hb)
        have n2_ := Aside0.mk (blk_below (g := gb106) (o := .cells #[.bool a1_0, .string a1_1, .int .i64 a1_2] 24 (0, 0)) (by (with_reducible repeat (first | refine blk_drewN ?_ _ | refine blk_drew ?_ | refine blk_alloc ?_ _)); exact BK106.out) hb)
        have n3_ := Aside0.mk (below_step (by repeat (first | (with_reducible first | exact HB.out | apply below_alloc | apply pw_below_drewN | apply below_drew1 | refine below_set ?_ GE105.out | refine below_set ?_ GE106.out) | exact HB.out)) hb)
        clear BK105
        clear BK106
        clear HB
        have HO116 := n0_
        have BK105 := n1_
        have BK106 := n2_
        have HB := n3_
        clear n0_ n1_ n2_ n3_
        clear hb ho28
        obtain ⟨Ao29, co29, eo29⟩ := Kd.R_slice HO116.out
        (first | subst eo29 | (injection eo29 with f1_ f2_ f3_; have f4_ := f1_.symm; have f5_ := f3_.symm; clear f1_ f2_ f3_; subst f4_; subst f5_))
        refine hK.out _ _ ⟨(blk_cell BK105.out 0).trans rfl, (blk_cell BK105.out 1).trans rfl, (blk_cell BK105.out 2).trans rfl, (blk_cell BK106.out 0).trans rfl, (blk_cell BK106.out 1).trans rfl, (blk_cell BK106.out 2).trans rfl⟩ (fun hHeld => ?_)
        clear hK K
        refine norm_ (a' := ?_) ?_ ?_
        rotate_left
        · show Act.put _ (some 41) _ = _
          simp only [Act.put, List.setIfInBounds_toArray, List.set_cons_zero, List.set_cons_succ, i64_w, i32_w]
          rfl
        refine one_ (i := 9) (N := some 42) #[true, true, true, true, true, true, true, true, true, true, false, false] rfl rfl (one_of HT_.out (by kernel_rfl)) (by decide) (fun K hK => ?_)
        refine goes_ Tryz.func55 (by kernel_rfl) rfl #[.slice Ao29 y114.length co29] (by rfl) rfl rfl (by (try simp only [List.map_toArray, List.map_cons, List.map_nil]); first | done | rfl | (simp only [List.length_drop, List.length_take]; rfl)) ?_
        with_reducible refine (cmp_Or_int.calls kj5 _ _ y114 t117 _ ?side1 ?side2 A21.out).mono ?_
        (case side1 => repeat (first | exact (Kd.R_reads' HO116.out).2.2 | (with_reducible refine Kd.C_alloc ?_ _) | (with_reducible refine Kd.C_drewN ?_ _) | (with_reducible refine Kd.C_drew ?_)))
        (case side2 => exact (Kd.R_reads' HO116.out).2.1)
        rintro e w' ⟨rfl, ⟨nd, rfl⟩⟩
        refine ⟨_, rfl, ?_⟩
        refine hK.out _ _ ⟨(blk_cell BK105.out 0).trans rfl, (blk_cell BK105.out 1).trans rfl, (blk_cell BK105.out 2).trans rfl, (blk_cell BK106.out 0).trans rfl, (blk_cell BK106.out 1).trans rfl, (blk_cell BK106.out 2).trans rfl⟩ (fun hHeld => ?_)
        clear hK K
        refine norm_ (a' := ?_) ?_ ?_
        rotate_left
        · show Act.put _ (some 42) _ = _
          simp only [Act.put, List.setIfInBounds_toArray, List.set_cons_zero, List.set_cons_succ, i64_w, i32_w]
          rfl
        refine pure_ (i := 10) (N := some 43) (v := ?_) (a' := ?_) #[true, true, true, true, true, true, true, true, true, true, true, false] rfl rfl (any_of HT_.out (by kernel_rfl)) (fun _ _ _ h => h) (Or.inl ⟨by rfl, ?_⟩) ?_ ?_
        rotate_left
        · intro w'
          go_simp
          with_reducible rfl
        rotate_left
        · simp only [Act.put, List.setIfInBounds_toArray, List.set_cons_zero, List.set_cons_succ, i64_w, i32_w]
          rfl
        refine pure_ (i := 11) (N := some 4) (v := ?_) (a' := ?_) #[true, true, true, true, true, true, true, true, true, true, true, true] rfl rfl (any_of HT_.out (by kernel_rfl)) (fun _ _ _ h => h) (Or.inl ⟨by rfl, ?_⟩) ?_ ?_
        rotate_left
        · intro w'
          go_simp
          with_reducible rfl
        rotate_left
        · simp only [Act.put, List.setIfInBounds_toArray, List.set_cons_zero, List.set_cons_succ, i64_w, i32_w]
          rfl
        refine done_ (done_of HT_.out (by kernel_rfl)) ?_
        try go_wp2
        go_ret
        try simp only [beq_nil_isEmpty, bytesLess_gtr]
        exact ⟨by first | rfl | (simp [errW_none, errW_some] <;> rfl) | (simp [*, errW_none, errW_some] <;> rfl), by repeat (first | (with_reducible first | exact HB.out | apply below_alloc | apply pw_below_drewN | apply below_drew1 | refine below_set ?_ GE105.out | refine below_set ?_ GE106.out) | exact HB.out)⟩
end Go.Proofs.YtapcpndplnkfjaaGreatDoor.Pr
namespace Go.Proofs.YtapcpndplnkfjaaGreatDoor.Pr
open Go.RowKit Go.Proofs.YtapcpndplnkfjaaGreatDoorW.PrintWords Go.Proofs.YtapcpndplnkfjaaGreatDoorW.PrintLast Go.Proofs.YtapcpndplnkfjaaGreatDoorW.PrintMore
attribute [local go_sem] max2_int min2_int max_two min_two max_three min_three max_four min_four
set_option linter.unusedVariables false
set_option linter.unusedSimpArgs false
end Go.Proofs.YtapcpndplnkfjaaGreatDoor.Pr
namespace Go.Proofs.YtapcpndplnkfjaaGreatDoor.Pr
open Go.RowKit Go.Proofs.YtapcpndplnkfjaaGreatDoorW.PrintWords Go.Proofs.YtapcpndplnkfjaaGreatDoorW.PrintLast Go.Proofs.YtapcpndplnkfjaaGreatDoorW.PrintMore
attribute [local go_sem] max2_int min2_int max_two min_two max_three min_three max_four min_four
set_option linter.unusedVariables false
set_option linter.unusedSimpArgs false
end Go.Proofs.YtapcpndplnkfjaaGreatDoor.Pr
namespace Go.Proofs.YtapcpndplnkfjaaGreatDoor.Pr
open Go.RowKit Go.Proofs.YtapcpndplnkfjaaGreatDoorW.PrintWords Go.Proofs.YtapcpndplnkfjaaGreatDoorW.PrintLast Go.Proofs.YtapcpndplnkfjaaGreatDoorW.PrintMore
attribute [local go_sem] max2_int min2_int max_two min_two max_three min_three max_four min_four
set_option linter.unusedVariables false
set_option linter.unusedSimpArgs false
end Go.Proofs.YtapcpndplnkfjaaGreatDoor.Pr
namespace Go.Proofs.YtapcpndplnkfjaaGreatDoor.Pr
open Go.RowKit Go.Proofs.YtapcpndplnkfjaaGreatDoorW.PrintWords Go.Proofs.YtapcpndplnkfjaaGreatDoorW.PrintLast Go.Proofs.YtapcpndplnkfjaaGreatDoorW.PrintMore
attribute [local go_sem] max2_int min2_int max_two min_two max_three min_three max_four min_four
set_option linter.unusedVariables false
set_option linter.unusedSimpArgs false
end Go.Proofs.YtapcpndplnkfjaaGreatDoor.Pr
namespace Go.Proofs.YtapcpndplnkfjaaGreatDoor
open Go.RowKit Go.Proofs.YtapcpndplnkfjaaGreatDoorW.PrintWords Pr
theorem w1 (i n : Nat) (h : i ≤ n) (hn : n ≤ 1000000000000000000) : wrap64 ((i : Int) + 1) = ((i + 1 : Nat) : Int) := by unfold wrap64; omega
end Go.Proofs.YtapcpndplnkfjaaGreatDoor
namespace Go.Proofs.YtapcpndplnkfjaaGreatDoor
open Go.RowKit Go.Proofs.YtapcpndplnkfjaaGreatDoorW.PrintWords Pr
def sideP (n : NumP.NumV) : Int := if n.2.1 = [] then 0 else if n.1 = true then -1 else 1
def cmpI (a b : Int) : Int := if a < b then -1 else if a > b then 1 else 0
def cmpA (a b : NumP.NumV) : Int := if cmpI ((a.2.1.length : Int) + a.2.2) ((b.2.1.length : Int) + b.2.2) = 0 then Lib.compareBytes a.2.1 b.2.1 else cmpI ((a.2.1.length : Int) + a.2.2) ((b.2.1.length : Int) + b.2.2)
def cmpP (a b : NumP.NumV) : Int := if cmpI (sideP a) (sideP b) ≠ 0 ∨ sideP a = 0 then cmpI (sideP a) (sideP b) else sideP a * cmpA a b
theorem side_f (d : Bool) (D : List UInt8) (e : Int) : num_Num_side.f d (ofL D) e = some (sideP (d, D, e)) := by
  unfold num_Num_side.f sideP
  rw [ofL_toList]
  by_cases h : D = []
  · rw [if_pos h, if_pos h]
  · rw [if_neg h, if_neg h]; cases d <;> rfl
theorem cmpI_f (a b : Int) : cmp_Compare_int.f a b = some (cmpI a b) := by
  unfold cmp_Compare_int.f cmp_isNaN_int.f cmpI
  simp only [Option.bind_some, bne_self_eq_false, Bool.false_eq_true, if_false]
  by_cases h : a < b
  · rw [if_pos h, if_pos h]
  · rw [if_neg h, if_neg h]; by_cases h2 : a > b
    · rw [if_pos h2, if_pos h2]
    · rw [if_neg h2, if_neg h2]
theorem or_ev (a b : Int) : Ev (fun k => cmp_Or_int.f k [a, b]) (if a = 0 then b else a) := by
  refine Ev.of (fun k => cmp_Or_int.mono _ k) (k := 3) ?_
  unfold cmp_Or_int.f
  simp only [cmp_Or_int.l0, List.length_cons, List.length_nil]
  have w1 : wrap64 (0 + 1) = 1 := by unfold wrap64; omega
  have w2 : wrap64 (1 + 1) = 2 := by unfold wrap64; omega
  simp only [w1, w2, rd]
  by_cases h : a = 0
  · subst h; by_cases h2 : b = 0 <;> simp [h2]
  · simp [h]
theorem compare_bd (a b : List UInt8) : -1 ≤ Lib.compareBytes a b ∧ Lib.compareBytes a b ≤ 1 := by
  induction a generalizing b with
  | nil => cases b <;> simp [Lib.compareBytes]
  | cons x t ih =>
    cases b with
    | nil => simp [Lib.compareBytes]
    | cons y u =>
      simp only [Lib.compareBytes]
      split
      · omega
      · split
        · omega
        · exact ih u
theorem cmpA_bd (a b : NumP.NumV) : -1 ≤ cmpA a b ∧ cmpA a b ≤ 1 := by
  have := compare_bd a.2.1 b.2.1
  unfold cmpA
  by_cases h : cmpI ((a.2.1.length : Int) + a.2.2) ((b.2.1.length : Int) + b.2.2) = 0
  · rw [if_pos h]; exact this
  · rw [if_neg h]; unfold cmpI; split
    · omega
    · split <;> omega
theorem compare_ev (a b : NumP.NumV) (ha : a.2.1.length ≤ 1000000000000000000 ∧ -1000000000000000000 ≤ a.2.2 ∧ a.2.2 ≤ 1000000000000000000) (hb : b.2.1.length ≤ 1000000000000000000 ∧ -1000000000000000000 ≤ b.2.2 ∧ b.2.2 ≤ 1000000000000000000) :
    Ev (fun k => num_Compare.f k a.1 (ofL a.2.1) a.2.2 b.1 (ofL b.2.1) b.2.2) (cmpP a b) := by
  have sa := side_f a.1 a.2.1 a.2.2
  have sb := side_f b.1 b.2.1 b.2.2
  unfold cmpP
  by_cases hc : cmpI (sideP a) (sideP b) = 0
  · by_cases h0 : sideP a = 0
    · rw [if_pos (.inr h0)]
      refine Ev.congr (f := fun k => num_Compare.j0 k (cmpI (sideP a) (sideP b)) true a.1 (ofL a.2.1) a.2.2 b.1 (ofL b.2.1) b.2.2) (fun k => ?_) (Ev.step (f := fun _ => some (cmpI (sideP a) (sideP b))) (fun k => by simp only [num_Compare.j0, if_true]) (Ev.now _))
      unfold num_Compare.f
      rw [sa, sb]; simp only [Option.bind_some]; rw [cmpI_f]; simp only [Option.bind_some]
      rw [if_pos hc, show (sideP (a.1, a.2.1, a.2.2) == 0) = true by simpa using h0]
    · rw [if_neg (by rintro (h | h); exact h hc; exact h0 h)]
      refine Ev.congr (f := fun k => num_Compare.j0 k (cmpI (sideP a) (sideP b)) false a.1 (ofL a.2.1) a.2.2 b.1 (ofL b.2.1) b.2.2) (fun k => ?_) ?_
      · unfold num_Compare.f
        rw [sa, sb]; simp only [Option.bind_some]; rw [cmpI_f]; simp only [Option.bind_some]
        rw [if_pos hc, show (sideP (a.1, a.2.1, a.2.2) == 0) = false by simpa using h0]
      · have hor := or_ev (cmpI ((a.2.1.length : Int) + a.2.2) ((b.2.1.length : Int) + b.2.2)) (Lib.compareBytes a.2.1 b.2.1)
        refine Ev.step (f := fun k => (cmp_Or_int.f k [cmpI ((a.2.1.length : Int) + a.2.2) ((b.2.1.length : Int) + b.2.2), Lib.compareBytes a.2.1 b.2.1]).bind fun t => some (wrap64 (sideP a * t))) (fun k => ?_) (Ev.bind hor ?_)
        · simp only [num_Compare.j0, ofL_size]
          rw [if_neg (by simp), show wrap64 ((a.2.1.length : Int) + a.2.2) = (a.2.1.length : Int) + a.2.2 by unfold wrap64; omega, show wrap64 ((b.2.1.length : Int) + b.2.2) = (b.2.1.length : Int) + b.2.2 by unfold wrap64; omega, cmpI_f]
          simp only [Option.bind_some]
          rw [sa]; simp only [Option.bind_some]
          rfl
        · refine Ev.congr (fun k => ?_) (Ev.now _)
          have hbd := cmpA_bd a b
          have hs : sideP a = 1 ∨ sideP a = -1 := by
            unfold sideP at h0 ⊢
            split at h0
            · exact absurd rfl h0
            · rename_i h; rw [if_neg h]; split <;> simp
          change some (wrap64 (sideP a * cmpA a b)) = _
          rcases hs with h | h <;> rw [h] <;> congr 1 <;> unfold wrap64 <;> omega
  · rw [if_pos (.inl hc)]
    refine Ev.congr (f := fun k => num_Compare.j0 k (cmpI (sideP a) (sideP b)) true a.1 (ofL a.2.1) a.2.2 b.1 (ofL b.2.1) b.2.2) (fun k => ?_) (Ev.step (f := fun _ => some (cmpI (sideP a) (sideP b))) (fun k => by simp only [num_Compare.j0, if_true]) (Ev.now _))
    unfold num_Compare.f
    rw [sa, sb]; simp only [Option.bind_some]; rw [cmpI_f]; simp only [Option.bind_some]
    rw [if_neg hc]
theorem compare_self : ∀ D : List UInt8, Lib.compareBytes D D = 0
  | [] => rfl
  | c :: t => by
    have : ¬ c < c := by rw [UInt8.lt_iff_toNat_lt]; omega
    simp only [Lib.compareBytes, this, if_false]
    exact compare_self t
end Go.Proofs.YtapcpndplnkfjaaGreatDoor
namespace Go.Proofs.YtapcpndplnkfjaaGreatDoor
open Go.RowKit Go.Proofs.YtapcpndplnkfjaaGreatDoorW.PrintWords Pr
theorem cmpI_vals (a b : Int) : (a < b ∧ cmpI a b = -1) ∨ (a = b ∧ cmpI a b = 0) ∨ (a > b ∧ cmpI a b = 1) := by unfold cmpI; (repeat' split) <;> omega
theorem cmpB_zero : ∀ a b : List UInt8, Lib.compareBytes a b = 0 → a = b
  | [], [], _ => rfl
  | [], _ :: _, h => by simp [Lib.compareBytes] at h
  | _ :: _, [], h => by simp [Lib.compareBytes] at h
  | x :: a, y :: b, h => by
    simp only [Lib.compareBytes] at h
    by_cases h1 : x < y
    · simp [h1] at h
    · by_cases h2 : y < x
      · simp [h1, h2] at h
      · simp only [h1, h2, if_false] at h
        have : x = y := by rw [← UInt8.toNat_inj]; rw [UInt8.lt_iff_toNat_lt] at *; omega
        rw [this, cmpB_zero a b h]
theorem cmpP_cases (a b : NumP.NumV) : cmpP a b = if sideP a < sideP b then -1 else if sideP a > sideP b then 1 else sideP a * cmpA a b := by
  unfold cmpP
  rcases cmpI_vals (sideP a) (sideP b) with ⟨p, q⟩ | ⟨p, q⟩ | ⟨p, q⟩
  · rw [q, if_pos (.inl (by omega)), if_pos p]
  · rw [q]
    by_cases h : sideP a = 0
    · rw [if_pos (.inr h), if_neg (by omega), if_neg (by omega), h]; omega
    · rw [if_neg (by rintro (z | z); exact z rfl; exact h z), if_neg (by omega), if_neg (by omega)]
  · rw [q, if_pos (.inl (by omega)), if_neg (by omega), if_pos p]
end Go.Proofs.YtapcpndplnkfjaaGreatDoor
namespace Go.Proofs.YtapcpndplnkfjaaGreatDoor
open Go.RowKit Go.Proofs.YtapcpndplnkfjaaGreatDoorW.PrintWords Go.Proofs.YtapcpndplnkfjaaGreatDoorW.PrintLast Go.Proofs.YtapcpndplnkfjaaGreatDoorW.PrintMore
set_option linter.unusedVariables false
set_option linter.unusedSimpArgs false
namespace Js
def nv (n : S24) : NumP.NumV := (n.f0, n.f1.data.toList, n.f2)
def told (b : Bool) : Int := if b = true then 1 else 0
def cmpFlat (x y : S28) : Int :=
  if x.f0 = y.f0 then
    if x.f0 = 1 then told x.f1 - told y.f1 else
    if x.f0 = 2 then cmpP (nv x.f2) (nv y.f2) else
    if x.f0 = 3 then Lib.compareBytes x.f3.data.toList y.f3.data.toList else 0
  else Lib.compareInt x.f0 y.f0
theorem told_calls (b : Bool) (w : World) : Calls Tryz.prog 51 #[.bool b] w fun e w' => e = .returned (.int .i64 (told b)) ∧ w' = w := by
  cases b
  · go_enter Tryz.func51, Tryz.ntmps51
    go_wp2
    go_ret
    exact ⟨rfl, rfl⟩
  · go_enter Tryz.func51, Tryz.ntmps51
    go_wp2
    go_ret
    exact ⟨rfl, rfl⟩
theorem compare_ne (x y : S28) (hne : x.f0 ≠ y.f0) (A A' B B' : Option Addr) (n n' m m' c c' d d' : Nat) (w : World) :
    Calls Tryz.prog 28 #[.agg #[.int .i64 x.f0, .bool x.f1, .bool x.f2.f0, .string x.f2.f1, .int .i64 x.f2.f2, .string x.f3, .slice A n c, .slice B m d], .agg #[.int .i64 y.f0, .bool y.f1, .bool y.f2.f0, .string y.f2.f1, .int .i64 y.f2.f2, .string y.f3, .slice A' n' c', .slice B' m' d']] w
      fun e w' => e = .returned (.int .i64 (Lib.compareInt x.f0 y.f0)) ∧ Below w.heap.size w w' := by
  have h1 : (x.f0 != y.f0) = true := by simpa using hne
  have h2 : (x.f0 == y.f0) = false := by simpa using hne
  clear hne
  go_enter Tryz.func28, Tryz.ntmps28
  go_wp2_with fail
  refine (Tryz.cmp_Compare_int _ _ _).mono ?_
  rintro E w1 ⟨rfl, rfl⟩
  go_wp2_with fail
  go_ret
  exact ⟨rfl, below_alloc (below_alloc (Below.refl _ _) _) _⟩
set_option maxRecDepth 100000 in
set_option maxHeartbeats 4000000 in
theorem compare_flat (x y : S28) (he : x.f0 = y.f0) (hk : 0 ≤ x.f0 ∧ x.f0 ≤ 3) (hx : okNum x.f2) (hy : okNum y.f2) (A A' B B' : Option Addr) (n n' m m' c c' d d' : Nat) (w : World) :
    Calls Tryz.prog 28 #[.agg #[.int .i64 x.f0, .bool x.f1, .bool x.f2.f0, .string x.f2.f1, .int .i64 x.f2.f2, .string x.f3, .slice A n c, .slice B m d], .agg #[.int .i64 y.f0, .bool y.f1, .bool y.f2.f0, .string y.f2.f1, .int .i64 y.f2.f2, .string y.f3, .slice A' n' c', .slice B' m' d']] w
      fun e w' => e = .returned (.int .i64 (cmpFlat x y)) ∧ Below w.heap.size w w' := by
  obtain ⟨k, bx, ⟨dx, Dx, ex⟩, tx, ix, nx⟩ := x
  obtain ⟨k', by', ⟨dy, Dy, ey⟩, ty, iy, ny⟩ := y
  simp only at he hk
  subst he
  have HX := Lib.hid hx
  have HY := Lib.hid hy
  clear hx hy
  obtain ⟨h0, h3⟩ := hk
  have hc : k = 0 ∨ k = 1 ∨ k = 2 ∨ k = 3 := by omega
  have HB : ∀ o p, Below w.heap.size w ((w.alloc o).alloc p) := fun o p => below_alloc (below_alloc (Below.refl _ _) _) _
  have HB := Lib.hid HB
  clear h0 h3
  rcases hc with rfl | rfl | rfl | rfl
  · go_enter Tryz.func28, Tryz.ntmps28
    go_wp2_with fail
    go_ret
    exact ⟨rfl, HB.out _ _⟩
  · cases bx <;> cases by'
    all_goals
      go_enter Tryz.func28, Tryz.ntmps28
      go_wp2_with fail
      go_quiet ((go_at_call 51; exact Calls.quiet_of_same (told_calls _ _)))
      go_wp2_with fail
      go_ret
      refine ⟨?_, by first | exact pw_below_drewN (HB.out _ _) _ | exact HB.out _ _⟩
      first | rfl | (exact congrArg (fun z => Ending.returned (Value.int .i64 z)) (by decide +kernel : wrap64 (told false - told true) = told false - told true)) | (exact congrArg (fun z => Ending.returned (Value.int .i64 z)) (by decide +kernel : wrap64 (told true - told false) = told true - told false))
  · have hc : Ev (fun k => Pr.num_Compare.f k dx Dx ex dy Dy ey) (cmpP (dx, Dx.data.toList, ex) (dy, Dy.data.toList, ey)) := by
      have := compare_ev (dx, Dx.data.toList, ex) (dy, Dy.data.toList, ey) ⟨by have := HX.out.1; simp only at *; omega, by have := HX.out.2.2; simp only at *; omega, by have := HX.out.2.2; simp only at *; omega⟩ ⟨by have := HY.out.1; simp only at *; omega, by have := HY.out.2.2; simp only at *; omega, by have := HY.out.2.2; simp only at *; omega⟩
      exact this
    obtain ⟨K, hK⟩ := hc
    have HK := Lib.hid (hK K (Nat.le_refl _))
    clear hK
    go_enter Tryz.func28, Tryz.ntmps28
    go_wp2_with fail
    refine (Pr.num_Compare.calls K _ _ _ _ _ _ _ _ HK.out).mono ?_
    rintro E w1 ⟨rfl, hB⟩
    go_wp2_with fail
    go_ret
    exact ⟨rfl, (HB.out _ _).trans (hB.mono (HB.out _ _).size)⟩
  · go_enter Tryz.func28, Tryz.ntmps28
    go_wp2_with fail
    refine (strings_Compare.calls tx ty _ _ rfl).mono ?_
    rintro E w1 ⟨rfl, ⟨q, rfl⟩⟩
    go_wp2_with fail
    go_ret
    exact ⟨rfl, pw_below_drewN (HB.out _ _) _⟩
end Js
end Go.Proofs.YtapcpndplnkfjaaGreatDoor
namespace Go.Proofs.YtapcpndplnkfjaaGreatDoor
open Go.RowKit Go.Proofs.YtapcpndplnkfjaaGreatDoorW.PrintWords
set_option linter.unusedVariables false
set_option linter.unusedSimpArgs false
namespace Js
inductive Diff : List UInt8 → List UInt8 → Int → Prop where
  | eq (l : List UInt8) : Diff l l 0
  | lt (a b : UInt8) (l m : List UInt8) : a < b → Diff (a :: l) (b :: m) (-1)
  | gt (a b : UInt8) (l m : List UInt8) : b < a → Diff (a :: l) (b :: m) 1
  | cons (a : UInt8) (l m : List UInt8) (c : Int) : Diff l m c → Diff (a :: l) (a :: m) c
theorem u8_irr (a : UInt8) : ¬ a < a := by rw [UInt8.lt_iff_toNat_lt]; omega
theorem u8_asy {a b : UInt8} (h : a < b) : ¬ b < a := by rw [UInt8.lt_iff_toNat_lt] at *; omega
theorem Diff.cmp {l m : List UInt8} {c : Int} (h : Diff l m c) : Lib.compareBytes l m = c := by
  induction h with
  | eq l => exact compare_self l
  | lt a b l m h => simp [Lib.compareBytes, h]
  | gt a b l m h => simp [Lib.compareBytes, h, u8_asy h]
  | cons a l m c h ih => simp [Lib.compareBytes, u8_irr, ih]
theorem Diff.ends {l m : List UInt8} {c : Int} (h : Diff l m c) : c = 0 ∨ m.take l.length ≠ l := by
  induction h with
  | eq l => exact .inl rfl
  | lt a b l m h => exact .inr (fun e => by simp at e; have := e.1; subst this; exact u8_irr _ h)
  | gt a b l m h => exact .inr (fun e => by simp at e; have := e.1; subst this; exact u8_irr _ h)
  | cons a l m c h ih =>
    rcases ih with ih | ih
    · exact .inl ih
    · exact .inr (fun e => by simp at e; exact ih e)
theorem Diff.app {l m : List UInt8} {c : Int} (p : List UInt8) (h : Diff l m c) : Diff (p ++ l) (p ++ m) c := by
  induction p with
  | nil => exact h
  | cons a p ih => exact .cons a _ _ _ ih
theorem Diff.anti {l m : List UInt8} {c : Int} (h : Diff l m c) : Diff (l.map (255 - ·)) (m.map (255 - ·)) (-c) := by
  induction h with
  | eq l => exact .eq _
  | lt a b l m h => exact .gt _ _ _ _ (by
      rw [UInt8.lt_iff_toNat_lt] at *
      have ha := a.toNat_lt; have hb := b.toNat_lt
      rw [UInt8.toNat_sub_of_le _ _ (by rw [UInt8.le_iff_toNat_le]; show b.toNat ≤ 255; omega), UInt8.toNat_sub_of_le _ _ (by rw [UInt8.le_iff_toNat_le]; show a.toNat ≤ 255; omega)]
      show 255 - b.toNat < 255 - a.toNat
      omega)
  | gt a b l m h => exact .lt _ _ _ _ (by
      rw [UInt8.lt_iff_toNat_lt] at *
      have ha := a.toNat_lt; have hb := b.toNat_lt
      rw [UInt8.toNat_sub_of_le _ _ (by rw [UInt8.le_iff_toNat_le]; show a.toNat ≤ 255; omega), UInt8.toNat_sub_of_le _ _ (by rw [UInt8.le_iff_toNat_le]; show b.toNat ≤ 255; omega)]
      show 255 - a.toNat < 255 - b.toNat
      omega)
  | cons a l m c h ih => exact .cons _ _ _ _ ih
def toI (l : List UInt8) : List Int := l.map fun c => (c.toNat : Int)
theorem strOf_toI (l : List UInt8) : strOfNums (toI l) = ofL l := by
  unfold strOfNums toI ofL
  rw [List.map_map]
  congr 2
  conv => rhs; rw [← List.map_id l]
  refine List.map_congr_left fun c _ => ?_
  show UInt8.ofNat ((c.toNat : Int)).toNat = id c
  simp
def escU (c : UInt8) : List UInt8 := if c = 0 then [0, 255] else [c]
def textU (s : List UInt8) : List UInt8 := s.flatMap escU ++ [0, 0]
theorem textU_I (s : List UInt8) : textL s = toI (textU s) := by
  unfold textL textU toI
  rw [List.map_append]
  congr 1
  induction s with
  | nil => rfl
  | cons c t ih =>
    rw [List.flatMap_cons, List.flatMap_cons, List.map_append, ← ih]
    congr 1
    unfold escO escU
    split <;> rfl
theorem pos_of_ne {a : UInt8} (h : a ≠ 0) : (0 : UInt8) < a := by
  rw [UInt8.lt_iff_toNat_lt]
  have : a.toNat ≠ 0 := fun e => h (by rw [← UInt8.toNat_inj]; exact e)
  show 0 < a.toNat
  omega
theorem text_diff : ∀ s t : List UInt8, Diff (textU s) (textU t) (Lib.compareBytes s t)
  | [], [] => .eq _
  | [], b :: t => by
    show Diff [0, 0] (textU (b :: t)) (-1)
    unfold textU
    rw [List.flatMap_cons]
    unfold escU
    split
    · exact .cons _ _ _ _ (.lt _ _ _ _ (by decide))
    · rename_i h; exact .lt _ _ _ _ (pos_of_ne h)
  | a :: s, [] => by
    show Diff (textU (a :: s)) [0, 0] 1
    unfold textU
    rw [List.flatMap_cons]
    unfold escU
    split
    · exact .cons _ _ _ _ (.gt _ _ _ _ (by decide))
    · rename_i h; exact .gt _ _ _ _ (pos_of_ne h)
  | a :: s, b :: t => by
    have ih := text_diff s t
    have e1 : ∀ c (r : List UInt8), textU (c :: r) = escU c ++ textU r := fun c r => by unfold textU; rw [List.flatMap_cons, List.append_assoc]
    rw [e1, e1]
    unfold Lib.compareBytes
    by_cases h : a < b
    · rw [if_pos h]
      unfold escU
      by_cases ha : a = 0
      · rw [if_pos ha, if_neg (fun hb => by subst ha; subst hb; exact u8_irr _ h)]
        exact .lt _ _ _ _ (by subst ha; exact h)
      · rw [if_neg ha, if_neg (fun hb => by subst hb; exact u8_asy h (pos_of_ne ha))]
        exact .lt _ _ _ _ h
    · rw [if_neg h]
      by_cases h2 : b < a
      · rw [if_pos h2]
        unfold escU
        by_cases hb : b = 0
        · rw [if_pos hb, if_neg (fun ha => by subst ha; subst hb; exact u8_irr _ h2)]
          exact .gt _ _ _ _ (by subst hb; exact h2)
        · rw [if_neg hb, if_neg (fun ha => by subst ha; exact u8_asy h2 (pos_of_ne hb))]
          exact .gt _ _ _ _ h2
      · rw [if_neg h2]
        have : a = b := by rw [← UInt8.toNat_inj]; rw [UInt8.lt_iff_toNat_lt] at h h2; omega
        subst this
        exact ih.app _
def hiU (h : Int) : UInt8 := UInt8.ofNat (h / 256 % 256).toNat
def loU (h : Int) : UInt8 := UInt8.ofNat (h % 256).toNat
def bodyU (D : List UInt8) (e : Int) : List UInt8 := hiU (D.length + e + 2000) :: loU (D.length + e + 2000) :: (D.map (· - 47) ++ [0])
def numU (n : NumP.NumV) : List UInt8 := if n.2.1 = [] then [1] else if n.1 = true then 0 :: (bodyU n.2.1 n.2.2).map (255 - ·) else 2 :: bodyU n.2.1 n.2.2
theorem ofNat_I (x : Int) (h : 0 ≤ x ∧ x < 256) : (((UInt8.ofNat x.toNat).toNat : Nat) : Int) = x := by
  rw [UInt8.toNat_ofNat']; omega
theorem dig_I (c : UInt8) (h : NumP.isD c = true) : (((c - 47 : UInt8).toNat : Nat) : Int) = (c.toNat : Int) - 47 := by
  simp only [NumP.isD, decide_eq_true_eq] at h
  rw [UInt8.toNat_sub_of_le _ _ (by rw [UInt8.le_iff_toNat_le]; show 47 ≤ c.toNat; omega)]
  show (((c.toNat - 47 : Nat)) : Int) = _
  omega
theorem bodyU_I (D : List UInt8) (e : Int) (hd : D.all NumP.isD = true) : numI D e = toI (bodyU D e) := by
  unfold numI bodyU toI heightL hiU loU
  simp only [List.map_cons, List.map_append, List.cons_append, List.nil_append, List.map_nil]
  rw [ofNat_I _ (by omega), ofNat_I _ (by omega), List.map_map]
  congr 3
  unfold dgs
  exact List.map_congr_left fun c hc => (dig_I c (List.all_eq_true.1 hd c hc)).symm
theorem numU_I (n : NumP.NumV) (hd : n.2.1.all NumP.isD = true) : numberL n.1 n.2.1 n.2.2 = toI (numU n) := by
  unfold numberL numU
  split
  · rfl
  · split
    · rw [bodyU_I _ _ hd]
      unfold toI
      rw [List.map_cons, List.map_map, List.map_map]
      congr 1
      refine List.map_congr_left fun c _ => ?_
      show (255 : Int) - (c.toNat : Int) = (((255 - c : UInt8).toNat : Nat) : Int)
      have := c.toNat_lt
      rw [UInt8.toNat_sub_of_le _ _ (by rw [UInt8.le_iff_toNat_le]; show c.toNat ≤ 255; omega)]
      show (255 : Int) - (c.toNat : Int) = ((255 - c.toNat : Nat) : Int)
      omega
    · rw [bodyU_I _ _ hd]; rfl
theorem sub_lt {a b : UInt8} (ha : NumP.isD a = true) (hb : NumP.isD b = true) (h : a < b) : a - 47 < b - 47 := by
  have h1 := dig_I a ha
  have h2 := dig_I b hb
  rw [UInt8.lt_iff_toNat_lt] at *
  omega
theorem sub_pos {a : UInt8} (ha : NumP.isD a = true) : (0 : UInt8) < a - 47 := by
  have h1 := dig_I a ha
  simp only [NumP.isD, decide_eq_true_eq] at ha
  rw [UInt8.lt_iff_toNat_lt]
  show 0 < (a - 47).toNat
  omega
theorem digs_diff : ∀ C D : List UInt8, C.all NumP.isD = true → D.all NumP.isD = true → Diff (C.map (· - 47) ++ [0]) (D.map (· - 47) ++ [0]) (Lib.compareBytes C D)
  | [], [], _, _ => .eq _
  | [], b :: t, _, hd => .lt _ _ _ _ (sub_pos (by simp only [List.all_cons, Bool.and_eq_true] at hd; exact hd.1))
  | a :: s, [], hc, _ => .gt _ _ _ _ (sub_pos (by simp only [List.all_cons, Bool.and_eq_true] at hc; exact hc.1))
  | a :: s, b :: t, hc, hd => by
    simp only [List.all_cons, Bool.and_eq_true] at hc hd
    have ih := digs_diff s t hc.2 hd.2
    unfold Lib.compareBytes
    by_cases h : a < b
    · rw [if_pos h]; exact .lt _ _ _ _ (sub_lt hc.1 hd.1 h)
    · rw [if_neg h]
      by_cases h2 : b < a
      · rw [if_pos h2]; exact .gt _ _ _ _ (sub_lt hd.1 hc.1 h2)
      · rw [if_neg h2]
        have : a = b := by rw [← UInt8.toNat_inj]; rw [UInt8.lt_iff_toNat_lt] at h h2; omega
        subst this
        exact .cons _ _ _ _ ih
theorem body_diff (a b : NumP.NumV) (ha : a.2.1.all NumP.isD = true) (hb : b.2.1.all NumP.isD = true) (ha2 : a.2.1.length ≤ 40 ∧ -999 ≤ a.2.2 ∧ a.2.2 ≤ 999) (hb2 : b.2.1.length ≤ 40 ∧ -999 ≤ b.2.2 ∧ b.2.2 ≤ 999) :
    Diff (bodyU a.2.1 a.2.2) (bodyU b.2.1 b.2.2) (cmpA a b) := by
  have hdig := digs_diff a.2.1 b.2.1 ha hb
  unfold bodyU cmpA cmpI
  obtain ⟨g, hg⟩ : ∃ g, g = (a.2.1.length : Int) + a.2.2 := ⟨_, rfl⟩
  obtain ⟨h, hh⟩ : ∃ h, h = (b.2.1.length : Int) + b.2.2 := ⟨_, rfl⟩
  rw [← hg, ← hh]
  have g1 : -999 ≤ g ∧ g ≤ 1039 := by omega
  have h1 : -999 ≤ h ∧ h ≤ 1039 := by omega
  have u : ∀ x y : Int, 0 ≤ x → x < y → y < 256 → UInt8.ofNat x.toNat < UInt8.ofNat y.toNat := fun x y hx hxy hy => by
    rw [UInt8.lt_iff_toNat_lt, UInt8.toNat_ofNat', UInt8.toNat_ofNat']; omega
  rcases Int.lt_trichotomy g h with hlt | heq | hgt
  · rw [if_neg (by rw [if_pos hlt]; decide), if_pos hlt]
    by_cases hq : (g + 2000) / 256 = (h + 2000) / 256
    · have : hiU (g + 2000) = hiU (h + 2000) := by unfold hiU; rw [hq]
      rw [this]
      exact .cons _ _ _ _ (.lt _ _ _ _ (u _ _ (by omega) (by omega) (by omega)))
    · exact .lt _ _ _ _ (u _ _ (by omega) (by omega) (by omega))
  · subst heq
    rw [if_pos (by rw [if_neg (by omega), if_neg (by omega)])]
    exact .cons _ _ _ _ (.cons _ _ _ _ hdig)
  · rw [if_neg (by rw [if_neg (by omega), if_pos hgt]; decide), if_neg (by omega), if_pos hgt]
    by_cases hq : (g + 2000) / 256 = (h + 2000) / 256
    · have : hiU (g + 2000) = hiU (h + 2000) := by unfold hiU; rw [hq]
      rw [this]
      exact .cons _ _ _ _ (.gt _ _ _ _ (u _ _ (by omega) (by omega) (by omega)))
    · exact .gt _ _ _ _ (u _ _ (by omega) (by omega) (by omega))
theorem num_diff (a b : NumP.NumV) (ha : a.2.1.all NumP.isD = true) (hb : b.2.1.all NumP.isD = true) (ha2 : a.2.1.length ≤ 40 ∧ -999 ≤ a.2.2 ∧ a.2.2 ≤ 999) (hb2 : b.2.1.length ≤ 40 ∧ -999 ≤ b.2.2 ∧ b.2.2 ≤ 999) :
    Diff (numU a) (numU b) (cmpP a b) := by
  have hA := body_diff a b ha hb ha2 hb2
  rw [cmpP_cases]
  unfold numU sideP
  by_cases a0 : a.2.1 = []
  · rw [if_pos a0, if_pos a0]
    by_cases b0 : b.2.1 = []
    · rw [if_pos b0, if_pos b0]; simp; exact .eq _
    · rw [if_neg b0, if_neg b0]
      by_cases bd : b.1 = true
      · rw [if_pos bd, if_pos bd]; simp; exact .gt _ _ _ _ (by decide)
      · rw [if_neg bd, if_neg bd]; simp; exact .lt _ _ _ _ (by decide)
  · rw [if_neg a0, if_neg a0]
    by_cases b0 : b.2.1 = []
    · rw [if_pos b0, if_pos b0]
      by_cases ad : a.1 = true
      · rw [if_pos ad, if_pos ad]; simp; exact .lt _ _ _ _ (by decide)
      · rw [if_neg ad, if_neg ad]; simp; exact .gt _ _ _ _ (by decide)
    · rw [if_neg b0, if_neg b0]
      by_cases ad : a.1 = true <;> by_cases bd : b.1 = true
      · rw [if_pos ad, if_pos ad, if_pos bd, if_pos bd]; simp; exact .cons _ _ _ _ hA.anti
      · rw [if_pos ad, if_pos ad, if_neg bd, if_neg bd]; simp; exact .lt _ _ _ _ (by decide)
      · rw [if_neg ad, if_neg ad, if_pos bd, if_pos bd]; simp; exact .gt _ _ _ _ (by decide)
      · rw [if_neg ad, if_neg ad, if_neg bd, if_neg bd]; simp; exact .cons _ _ _ _ hA
def keyU (x : S28) : List UInt8 :=
  if x.f0 = 0 then [1] else if x.f0 = 1 then [if x.f1 = true then 3 else 2] else if x.f0 = 2 then 4 :: numU (nv x.f2) else 5 :: textU x.f3.data.toList
theorem keyU_I (x : S28) (hk : 0 ≤ x.f0 ∧ x.f0 ≤ 3) (hn : okNum x.f2) : keyL x = (toI (keyU x), 0) := by
  unfold keyL keyU
  by_cases h0 : x.f0 = 0
  · rw [if_pos h0, if_pos h0]; rfl
  · rw [if_neg h0, if_neg h0]
    by_cases h1 : x.f0 = 1
    · rw [if_pos h1, if_pos h1]; cases x.f1 <;> rfl
    · rw [if_neg h1, if_neg h1]
      by_cases h2 : x.f0 = 2
      · rw [if_pos h2, if_pos h2]
        have := numU_I (nv x.f2) hn.2.1
        rw [show numberL x.f2.f0 x.f2.f1.data.toList x.f2.f2 = toI (numU (nv x.f2)) from this]; rfl
      · rw [if_neg h2, if_neg h2, if_pos (by omega), textU_I]; rfl
theorem key_diff (x y : S28) (hx : 0 ≤ x.f0 ∧ x.f0 ≤ 3) (hy : 0 ≤ y.f0 ∧ y.f0 ≤ 3) (nx : okNum x.f2) (ny : okNum y.f2) : Diff (keyU x) (keyU y) (cmpFlat x y) := by
  have hx' : x.f0 = 0 ∨ x.f0 = 1 ∨ x.f0 = 2 ∨ x.f0 = 3 := by omega
  have hy' : y.f0 = 0 ∨ y.f0 = 1 ∨ y.f0 = 2 ∨ y.f0 = 3 := by omega
  unfold keyU cmpFlat Lib.compareInt
  rcases hx' with e | e | e | e <;> rcases hy' with f | f | f | f <;> rw [e, f]
  all_goals simp
  · exact .eq _
  · cases y.f1 <;> exact .lt _ _ _ _ (by decide)
  · exact .lt _ _ _ _ (by decide)
  · exact .lt _ _ _ _ (by decide)
  · cases x.f1 <;> exact .gt _ _ _ _ (by decide)
  · cases x.f1 <;> cases y.f1 <;> first | exact .eq _ | exact .lt _ _ _ _ (by decide) | exact .gt _ _ _ _ (by decide)
  · cases x.f1 <;> exact .lt _ _ _ _ (by decide)
  · cases x.f1 <;> exact .lt _ _ _ _ (by decide)
  · exact .gt _ _ _ _ (by decide)
  · cases y.f1 <;> exact .gt _ _ _ _ (by decide)
  · exact .cons _ _ _ _ (num_diff (nv x.f2) (nv y.f2) nx.2.1 ny.2.1 ⟨nx.1, nx.2.2.1, nx.2.2.2⟩ ⟨ny.1, ny.2.2.1, ny.2.2.2⟩)
  · exact .lt _ _ _ _ (by decide)
  · exact .gt _ _ _ _ (by decide)
  · cases y.f1 <;> exact .gt _ _ _ _ (by decide)
  · exact .gt _ _ _ _ (by decide)
  · exact .cons _ _ _ _ (text_diff _ _)
end Js
end Go.Proofs.YtapcpndplnkfjaaGreatDoor
namespace Go.Proofs.YtapcpndplnkfjaaGreatDoor
open Go.RowKit Go.Proofs.YtapcpndplnkfjaaGreatDoorW.PrintWords Go.Proofs.YtapcpndplnkfjaaGreatDoorW.PrintLast Go.Proofs.YtapcpndplnkfjaaGreatDoorW.PrintMore
set_option linter.unusedVariables false
set_option linter.unusedSimpArgs false
namespace Js
theorem less_cmp : ∀ a b : List UInt8, Op.bytesLess a b = decide (Lib.compareBytes a b = -1)
  | [], [] => rfl
  | [], _ :: _ => rfl
  | _ :: _, [] => rfl
  | x :: a, y :: b => by
    simp only [Op.bytesLess, Lib.compareBytes]
    by_cases h : x < y
    · simp [h]
    · by_cases h2 : y < x
      · have : x ≠ y := fun e => by subst e; exact h h2
        simp [h, h2, this]
      · have : x = y := by rw [← UInt8.toNat_inj]; rw [UInt8.lt_iff_toNat_lt] at *; omega
        subst this
        simp only [h, if_false, decide_false, Bool.false_or, beq_self_eq_true, Bool.true_and]
        exact less_cmp a b
theorem toI_len (l : List UInt8) : (toI l).length = l.length := by simp [toI]
theorem key_rest4 (x : S28) (h4 : ¬ x.f0 ≤ 3) : keyL x = ([], 36) := by
  unfold keyL; rw [if_neg (by omega), if_neg (by omega), if_neg (by omega), if_neg (by omega)]
set_option maxRecDepth 100000 in
set_option maxHeartbeats 4000000 in
theorem stands_main (s t : List UInt8) (hs : s.length ≤ 600) (ht : t.length ≤ 600) (w : World) (hT : KTabs w) :
    Calls Tryz.prog 8 #[.string (ofL s), .string (ofL t)] w fun e w' => e = .returned (.bool true) ∧ Below w.heap.size w w' := by
  have HT := Lib.hid hT
  have HS : Hid ((ofL s).size = s.length) := Lib.hid (ofL_size s)
  have HS2 : Hid ((ofL t).size = t.length) := Lib.hid (ofL_size t)
  have hs1 : ((ofL s).size : Int) ≤ 600 := by rw [HS.out]; omega
  have ht1 : ((ofL t).size : Int) ≤ 600 := by rw [HS2.out]; omega
  obtain ⟨x, ex, hx⟩ : ∃ x e, pv s = (x, e) := ⟨_, _, rfl⟩
  obtain ⟨y, ey, hy⟩ : ∃ y e, pv t = (y, e) := ⟨_, _, rfl⟩
  have tx : Top s.length x := by have := top_parse s; rwa [show parseV (fvN 17) s = (x, ex) from hx] at this
  have ty : Top t.length y := by have := top_parse t; rwa [show parseV (fvN 17) t = (y, ey) from hy] at this
  have HX := Lib.hid hx
  have HY := Lib.hid hy
  have TX := Lib.hid tx
  have TY := Lib.hid ty
  have HL := Lib.hid hs
  have HL2 := Lib.hid ht
  clear hT hx hy tx ty hs ht
  go_enter Tryz.func8, Tryz.ntmps8
  go_wp2_with fail
  refine (awake17_calls _ HT.out).mono ?_
  rintro E w1 ⟨rfl, hB⟩
  have HB := Lib.hid hB
  clear hB
  go_wp2_with fail
  refine (jparse s _ (HT.out.below HB.out).t _ _ HX.out).mono ?_
  rintro E w2 ⟨A, n, c, B, m, c', rfl, hJ, hB⟩
  have HB2 := Lib.hid (HB.out.trans (hB.mono HB.out.size))
  clear hJ hB
  go_wp2_with fail
  refine (jparse t _ (HT.out.below (below_alloc HB2.out _)).t _ _ HY.out).mono ?_
  rintro E w3 ⟨A', n', d, B', m', d', rfl, hJ, hB⟩
  obtain ⟨hk1, hs1'⟩ := kept hB
  obtain ⟨q0, q1, q2, q3, q4, q5, q6, q7⟩ := eight hk1
  have HK1 := Lib.hid hk1
  have HB3 := Lib.hid ((below_alloc HB2.out _).trans (hB.mono (below_alloc HB2.out _).size))
  clear hk1 hB hJ
  go_wp2_with fail
  refine (key_calls x TX.out.k TX.out.n (by have := TX.out.t; have := HL.out; omega) A B n m c c' _ (HT.out.below (below_alloc HB3.out _))).mono ?_
  rintro E w4 ⟨v, rfl, hR, hB⟩
  obtain ⟨hk2, hs2'⟩ := kept hB
  obtain ⟨p0, p1, p2, p3, p4, p5, p6, p7⟩ := eight hk2
  have HK1 := Lib.hid (thru (blk_alloc HK1.out _) hB)
  have HK2 := Lib.hid hk2
  have HB4 := Lib.hid ((below_alloc HB3.out _).trans (hB.mono (below_alloc HB3.out _).size))
  obtain ⟨A4, c4, rfl, hl4, hC4⟩ := Kd.R_reads hR
  have HC4 := Lib.hid hC4
  clear hk2 hB hs1' hR hC4
  go_wp2_with fail
  refine (key_calls y TY.out.k TY.out.n (by have := TY.out.t; have := HL2.out; omega) A' B' n' m' d d' _ (HT.out.below HB4.out)).mono ?_
  rintro E w5 ⟨v, rfl, hR, hB⟩
  obtain ⟨A5, c5, rfl, hl5, hC5⟩ := Kd.R_reads hR
  have HK1 := Lib.hid (thru HK1.out hB)
  have HK2 := Lib.hid (thru HK2.out hB)
  have HC4 := Lib.hid (Kd.C_below HC4.out hB)
  have HB5 := Lib.hid (HB4.out.trans (hB.mono HB4.out.size))
  have HC5 := Lib.hid hC5
  clear hB hR hC5 p0 p1 p2 p3 p4 p5 p6 p7
  by_cases hx3 : x.f0 ≤ 3
  case neg =>
    have hke : keyL x = ([], 36) := key_rest4 x hx3
    rw [hke] at HC4 hl4
    have he : (keyL x).2 = 36 := by rw [hke]
    rw [he]
    clear hke he
    go_wp2_with fail
    go_ret
    exact ⟨rfl, HB5.out⟩
  by_cases hy3 : y.f0 ≤ 3
  case neg =>
    have hke : keyL y = ([], 36) := key_rest4 y hy3
    rw [hke] at HC5 hl5
    have he : (keyL y).2 = 36 := by rw [hke]
    have he2 : (keyL x).2 = 0 := by rw [keyU_I x ⟨TX.out.k.1, hx3⟩ TX.out.n]
    rw [he, he2]
    clear hke he he2
    go_wp2_with fail
    go_ret
    exact ⟨rfl, HB5.out⟩
  have ex1 := keyU_I x ⟨TX.out.k.1, hx3⟩ TX.out.n
  have ey1 := keyU_I y ⟨TY.out.k.1, hy3⟩ TY.out.n
  have hD := key_diff x y ⟨TX.out.k.1, hx3⟩ ⟨TY.out.k.1, hy3⟩ TX.out.n TY.out.n
  rw [ex1] at HC4 hl4 ⊢
  rw [ey1] at HC5 hl5 ⊢
  clear ex1 ey1
  simp only [toI_len] at HC4 HC5 hl4 hl5 ⊢
  have HC4 : Hid (Kd.C (Kd.int .u8) w5 A4 (keyU x).length (toI (keyU x))) := HC4
  have HC5 : Hid (Kd.C (Kd.int .u8) w5 A5 (keyU y).length (toI (keyU y))) := HC5
  have HCF : ∀ w6, Below w5.heap.size w5 w6 → (cmpFlat x y = Lib.compareBytes (keyU x) (keyU y)) ∧ Kd.C (Kd.int .u8) w6 A4 (keyU x).length (toI (keyU x)) ∧ Kd.C (Kd.int .u8) w6 A5 (keyU y).length (toI (keyU y)) ∧ (cmpFlat x y = 0 ∨ (keyU y).take (keyU x).length ≠ keyU x) := fun w6 hb =>
    ⟨hD.cmp.symm, Kd.C_below HC4.out hb, Kd.C_below HC5.out hb, hD.ends⟩
  have HF := Lib.hid HCF
  clear HCF HC4 HC5 hD
  have hcx : Calls Tryz.prog 28 #[.agg #[.int .i64 x.f0, .bool x.f1, .bool x.f2.f0, .string x.f2.f1, .int .i64 x.f2.f2, .string x.f3, .slice A n c, .slice B m c'], .agg #[.int .i64 y.f0, .bool y.f1, .bool y.f2.f0, .string y.f2.f1, .int .i64 y.f2.f2, .string y.f3, .slice A' n' d, .slice B' m' d']] w5
      fun e w' => e = .returned (.int .i64 (cmpFlat x y)) ∧ Below w5.heap.size w5 w' := by
    by_cases he : x.f0 = y.f0
    · exact compare_flat x y he ⟨TX.out.k.1, hx3⟩ TX.out.n TY.out.n _ _ _ _ _ _ _ _ _ _ _ _ w5
    · have : cmpFlat x y = Lib.compareInt x.f0 y.f0 := by unfold cmpFlat; rw [if_neg he]
      rw [this]
      exact compare_ne x y he _ _ _ _ _ _ _ _ _ _ _ _ w5
  have HCX := Lib.hid hcx
  clear hcx
  obtain ⟨U, hU⟩ : ∃ U, U = keyU x := ⟨_, rfl⟩
  obtain ⟨V, hV⟩ : ∃ V, V = keyU y := ⟨_, rfl⟩
  rw [← hU] at HF hl4 ⊢
  rw [← hV] at HF hl5 ⊢
  obtain ⟨g, hg⟩ : ∃ g, g = cmpFlat x y := ⟨_, rfl⟩
  rw [← hg] at HF HCX
  clear hU hV hg
  obtain ⟨q0, q1, q2, q3, q4, q5, q6, q7⟩ := eight HK1.out
  obtain ⟨p0, p1, p2, p3, p4, p5, p6, p7⟩ := eight HK2.out
  go_wp2_with fail
  refine HCX.out.mono ?_
  rintro E w6 ⟨rfl, hB⟩
  obtain ⟨hgc, hC4, hC5, hend⟩ := HF.out w6 hB
  have HB6 := Lib.hid (HB5.out.trans (hB.mono HB5.out.size))
  have r4 : (convert 38 9 (.slice A4 U.length c4)).run Tryz.prog w6 = .ok (.string (ofL U)) w6 := (str_run w6 A4 _ c4 _ hC4).trans (by rw [strOf_toI])
  have r5 : (convert 38 9 (.slice A5 V.length c5)).run Tryz.prog w6 = .ok (.string (ofL V)) w6 := (str_run w6 A5 _ c5 _ hC5).trans (by rw [strOf_toI])
  have r4q : ∀ q, (convert 38 9 (.slice A4 U.length c4)).run Tryz.prog (w6.drewN q) = .ok (.string (ofL U)) (w6.drewN q) := fun q => (str_run _ A4 _ c4 _ (Kd.C_drewN hC4 q)).trans (by rw [strOf_toI])
  have hle : U.length ≤ V.length → ∀ q, (convert 38 9 (.slice A5 U.length c5)).run Tryz.prog (w6.drewN q) = .ok (.string (ofL (V.take U.length))) (w6.drewN q) := fun h q => by
    have h1 : Kd.C (Kd.int .u8) w6 A5 (toI V).length (toI V) := by rw [toI_len]; exact hC5
    have h2 := Kd.C_take h1 (m := U.length) (by rw [toI_len]; exact h)
    have e1 : ((toI V).take U.length) = toI (V.take U.length) := by unfold toI; rw [List.map_take]
    rw [e1, toI_len, List.length_take, Nat.min_eq_left h] at h2
    exact (str_run _ A5 _ c5 _ (Kd.C_drewN h2 q)).trans (by rw [strOf_toI])
  have HLE := Lib.hid hle
  have hlu : U.length ≤ 9223372036854775807 := hC4.2.1
  have hlv : V.length ≤ 9223372036854775807 := hC5.2.1
  clear hB hC4 hC5 HF HCX q0 q1 q2 q3 q4 q5 q6 q7 p0 p1 p2 p3 p4 p5 p6 p7 hle
  have hg3 := compare_bd U V
  have hless : Op.bytesLess (ofL U).toList (ofL V).toList = decide (g = -1) := by rw [ofL_toList, ofL_toList, hgc]; exact less_cmp U V
  have heq : ((ofL U).toList == (ofL V).toList) = decide (g = 0) := by
    rw [ofL_toList, ofL_toList, Bool.eq_iff_iff, beq_iff_eq, decide_eq_true_iff, hgc]
    exact ⟨fun e => by rw [e]; exact compare_self V, cmpB_zero U V⟩
  rw [← hgc] at hg3
  have hg4 : g = -1 ∨ g = 0 ∨ g = 1 := by omega
  have hne : g = 0 ∨ ((ofL U).toList == (ofL (V.take U.length)).toList) = false := by
    rcases hend with h | h
    · exact .inl h
    · exact .inr (by rw [ofL_toList, ofL_toList, Bool.eq_false_iff]; intro e; exact h (beq_iff_eq.1 e).symm)
  clear hgc hg3 hend
  obtain ⟨SU, hSU⟩ : ∃ SU, SU = ofL U := ⟨_, rfl⟩
  obtain ⟨SV, hSV⟩ : ∃ SV, SV = ofL V := ⟨_, rfl⟩
  obtain ⟨ST, hST⟩ : ∃ ST, ST = ofL (V.take U.length) := ⟨_, rfl⟩
  rw [← hSU] at r4 r4q hless heq hne
  rw [← hSV] at r5 hless heq
  rw [← hST] at HLE hne
  clear hSU hSV hST
  rcases hg4 with rfl | rfl | rfl
  · have hne := hne.resolve_left (by decide)
    have hless : Op.bytesLess SU.toList SV.toList = true := hless
    have heq : (SU.toList == SV.toList) = false := heq
    by_cases hlen : U.length ≤ V.length
    · have r6 := HLE.out hlen
      have hlen' : ¬ (V.length < U.length) := by omega
      go_wp2_with fail
      go_quiet (fail)
      go_wp2_with fail
      go_ret
      exact ⟨rfl, pw_below_drewN HB6.out _⟩
    · have hlen' : V.length < U.length := by omega
      go_wp2_with fail
      go_quiet (fail)
      go_wp2_with fail
      go_ret
      exact ⟨rfl, pw_below_drewN HB6.out _⟩
  · have hless : Op.bytesLess SU.toList SV.toList = false := hless
    have heq : (SU.toList == SV.toList) = true := heq
    go_wp2_with fail
    go_quiet (fail)
    go_wp2_with fail
    go_ret
    exact ⟨rfl, pw_below_drewN HB6.out _⟩
  · have hne := hne.resolve_left (by decide)
    have hless : Op.bytesLess SU.toList SV.toList = false := hless
    have heq : (SU.toList == SV.toList) = false := heq
    by_cases hlen : U.length ≤ V.length
    · have r6 := HLE.out hlen
      have hlen' : ¬ (V.length < U.length) := by omega
      go_wp2_with fail
      go_quiet (fail)
      go_wp2_with fail
      go_ret
      exact ⟨rfl, pw_below_drewN HB6.out _⟩
    · have hlen' : V.length < U.length := by omega
      go_wp2_with fail
      go_quiet (fail)
      go_wp2_with fail
      go_ret
      exact ⟨rfl, pw_below_drewN HB6.out _⟩
set_option maxRecDepth 100000 in
set_option maxHeartbeats 4000000 in
theorem stands_long (s t : List UInt8) (h : 600 < s.length ∨ 600 < t.length) (w : World) (hT : KTabs w) :
    Calls Tryz.prog 8 #[.string (ofL s), .string (ofL t)] w fun e w' => e = .returned (.bool true) ∧ Below w.heap.size w w' := by
  have HT := Lib.hid hT
  have HS : Hid ((ofL s).size = s.length) := Lib.hid (ofL_size s)
  have HS2 : Hid ((ofL t).size = t.length) := Lib.hid (ofL_size t)
  by_cases hs : 600 < s.length
  · have hs1 : (600 : Int) < ((ofL s).size : Int) := by rw [HS.out]; omega
    clear h hs hT
    go_enter Tryz.func8, Tryz.ntmps8
    go_wp2_with fail
    refine (awake17_calls _ HT.out).mono ?_
    rintro E w1 ⟨rfl, hB⟩
    go_wp2_with fail
    go_ret
    exact ⟨rfl, hB⟩
  · have hs1 : ((ofL s).size : Int) ≤ 600 := by rw [HS.out]; omega
    have ht1 : (600 : Int) < ((ofL t).size : Int) := by rw [HS2.out]; omega
    clear h hs hT
    go_enter Tryz.func8, Tryz.ntmps8
    go_wp2_with fail
    refine (awake17_calls _ HT.out).mono ?_
    rintro E w1 ⟨rfl, hB⟩
    go_wp2_with fail
    go_ret
    exact ⟨rfl, hB⟩
theorem OrderStands_calls (s t : ByteArray) (w : World) (hT : KTabs w) :
    Calls Tryz.prog 8 #[.string s, .string t] w fun e w' => e = .returned (.bool true) ∧ Below w.heap.size w w' := by
  by_cases h : 600 < s.data.toList.length ∨ 600 < t.data.toList.length
  · exact stands_long s.data.toList t.data.toList h w hT
  · exact stands_main s.data.toList t.data.toList (by omega) (by omega) w hT
end Js
end Go.Proofs.YtapcpndplnkfjaaGreatDoor
