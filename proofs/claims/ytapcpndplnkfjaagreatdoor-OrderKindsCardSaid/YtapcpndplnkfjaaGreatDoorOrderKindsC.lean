/- What the law rests on, part 3: joined by a program of this session (claimx.py). -/
import Derived.Test.YtapcpndplnkfjaaGreatDoorOrderKindsB
namespace Go.Proofs.YtapcpndplnkfjaaGreatDoor
open Go.RowKit Go.Proofs.YtapcpndplnkfjaaGreatDoorW.PrintWords Go.Proofs.YtapcpndplnkfjaaGreatDoorW.PrintLast Go.Proofs.YtapcpndplnkfjaaGreatDoorW.PrintMore
set_option linter.unusedVariables false
set_option linter.unusedSimpArgs false
namespace Js
theorem right_ok {n : NumP.NumV} (h : NumP.right n = true) : okNum ⟨n.1, ofL n.2.1, n.2.2⟩ := by
  unfold NumP.right at h
  unfold okNum
  split at h
  · rename_i h0
    simp only [Bool.and_eq_true, beq_iff_eq] at h
    rw [h0, h.2]
    exact ⟨Nat.zero_le _, rfl, by show (-999 : Int) ≤ 0; omega, by show (0 : Int) ≤ 999; omega⟩
  · simp only [Bool.and_eq_true, decide_eq_true_eq] at h
    exact ⟨h.1.1.2, h.1.1.1.1.1, h.1.2, h.2⟩
theorem parse_ok (l : List UInt8) : okNum ⟨(NumP.parse l).1.1, ofL (NumP.parse l).1.2.1, (NumP.parse l).1.2.2⟩ := by
  have hz : okNum ⟨NumP.zero.1, ofL NumP.zero.2.1, NumP.zero.2.2⟩ := ⟨by decide, by decide, by decide, by decide⟩
  unfold NumP.parse
  split
  · split
    · rename_i h; exact right_ok h
    · exact hz
  · exact hz
theorem loop_out : ∀ (n : Nat) (out : List UInt8) (a : S), (strLoop S.esc n out a).1.length ≤ out.length + 17 * a.s.length
  | 0, out, a => by unfold strLoop; show out.length ≤ _; omega
  | n + 1, out, a => by
    unfold strLoop
    have ht : (a.s.take a.plain.1).length ≤ a.s.length := by rw [List.length_take]; omega
    split
    · show out.length ≤ _; omega
    · split
      · simp only [List.length_append]; omega
      · rename_i h2
        split
        · simp only [List.length_append]; omega
        · have h3 : a.plain.1 < a.s.length := (plain_le a).2 (by simpa using h2)
          have h4 := loop_out n (out ++ a.s.take a.plain.1 ++ a.cut.esc.1) a.cut.esc.2
          have h5 := esc_len a.cut
          have h6 : a.cut.s.length = a.s.length - (a.plain.1 + 1) := by unfold S.cut; simp
          have h7 : (a.s.take a.plain.1).length = a.plain.1 := by rw [List.length_take]; omega
          simp only [List.length_append] at h4
          refine Nat.le_trans h4 ?_
          omega
structure Top (N : Nat) (x : S28) : Prop where
  k : 0 ≤ x.f0 ∧ x.f0 ≤ 5
  n : okNum x.f2
  t : x.f3.data.toList.length ≤ 17 * N
theorem top_z (N : Nat) : Top N z28 := ⟨by decide, ⟨by decide, by decide, by decide, by decide⟩, by show (0 : Nat) ≤ _; omega⟩
theorem top_fv (n : Nat) (a : S) : Top a.s.length (fvN n a).1 := by
  cases n with
  | zero => exact top_z _
  | succ n =>
    have hl : a.skip.s.length ≤ a.s.length := skip_len a
    show Top _ (S.value textV (S.arr (fvN n)) (S.obj (fvN n)) a).1
    unfold S.value
    generalize a.skip = b at hl ⊢
    unfold S.value1
    have hz : okNum z24 := ⟨by decide, by decide, by decide, by decide⟩
    have h0 : ∀ k c, (0 ≤ k ∧ k ≤ (5 : Int)) → Top a.s.length (S28.mk k c z24 ⟨#[]⟩ [] []) := fun k c hk => ⟨hk, hz, by show (0 : Nat) ≤ _; omega⟩
    repeat' split
    all_goals first | exact top_z _ | exact h0 _ _ (by decide) | skip
    · refine ⟨by show (0 : Int) ≤ 3 ∧ (3 : Int) ≤ 5; decide, hz, ?_⟩
      show (strLoop S.esc (b.s.length + 1) [] b.tl).1.length ≤ _
      have := loop_out (b.s.length + 1) [] b.tl
      have h2 : b.tl.s.length ≤ b.s.length := by unfold S.tl; simp
      simp only [List.length_nil] at this
      omega
    · exact ⟨by show (0 : Int) ≤ 4 ∧ (4 : Int) ≤ 5; decide, hz, by show (0 : Nat) ≤ _; omega⟩
    · exact ⟨by show (0 : Int) ≤ 5 ∧ (5 : Int) ≤ 5; decide, hz, by show (0 : Nat) ≤ _; omega⟩
    · exact ⟨by show (0 : Int) ≤ 2 ∧ (2 : Int) ≤ 5; decide, parse_ok _, by show (0 : Nat) ≤ _; omega⟩
theorem top_parse (s : List UInt8) : Top s.length (parseV (fvN 17) s).1 := by
  unfold parseV
  split
  · exact top_z _
  · split
    · exact top_fv 17 ⟨s, 0, 0⟩
    · exact top_z _
end Js
end Go.Proofs.YtapcpndplnkfjaaGreatDoor
namespace Go.Proofs.YtapcpndplnkfjaaGreatDoor
open Go.RowKit Go.Proofs.YtapcpndplnkfjaaGreatDoorW.PrintWords Go.Proofs.YtapcpndplnkfjaaGreatDoorW.PrintLast Go.Proofs.YtapcpndplnkfjaaGreatDoorW.PrintMore
set_option linter.unusedVariables false
set_option linter.unusedSimpArgs false
namespace Js
structure JC (w : World) (x : S28) (A : Option Addr) (n c : Nat) (B : Option Addr) (m c' : Nat) : Prop where
  ln : n = x.f4.length
  nc : n ≤ c
  i : k28.C w A n x.f4
  lm : m = x.f5.length
  mc : m ≤ c'
  s : Kd.string.C w B m x.f5
theorem JC.below {w w' : World} {x : S28} {A B : Option Addr} {n c m c' : Nat} (h : JC w x A n c B m c') (hb : Below w.heap.size w w') : JC w' x A n c B m c' :=
  ⟨h.ln, h.nc, Kd.C_below h.i hb, h.lm, h.mc, Kd.C_below h.s hb⟩
theorem eight {w : World} {g : Nat} {a0 a1 a2 a3 a4 a5 a6 a7 : Value} {t : TypeId} (h : w.heap[g]? = some (.cells #[a0, a1, a2, a3, a4, a5, a6, a7] t (0, 0))) :
    w.cell? ⟨g, 0, none⟩ = some a0 ∧ w.cell? ⟨g, 1, none⟩ = some a1 ∧ w.cell? ⟨g, 2, none⟩ = some a2 ∧ w.cell? ⟨g, 3, none⟩ = some a3 ∧ w.cell? ⟨g, 4, none⟩ = some a4 ∧ w.cell? ⟨g, 5, none⟩ = some a5 ∧ w.cell? ⟨g, 6, none⟩ = some a6 ∧ w.cell? ⟨g, 7, none⟩ = some a7 :=
  ⟨(blk_cell h 0).trans rfl, (blk_cell h 1).trans rfl, (blk_cell h 2).trans rfl, (blk_cell h 3).trans rfl, (blk_cell h 4).trans rfl, (blk_cell h 5).trans rfl, (blk_cell h 6).trans rfl, (blk_cell h 7).trans rfl⟩
theorem kept {W w' : World} {o : Obj} (hb : Below (W.alloc o).heap.size (W.alloc o) w') : w'.heap[W.heap.size]? = some o ∧ W.heap.size < w'.heap.size := by
  have h := hb.size
  have h2 : (W.alloc o).heap.size = W.heap.size + 1 := by simp
  exact ⟨(hb.block _ (by omega)).trans (heap_alloc_new W o), by omega⟩
theorem thru {W w' : World} {g : Nat} {o : Obj} (h : W.heap[g]? = some o) (hb : Below W.heap.size W w') : w'.heap[g]? = some o := (hb.block _ (blk_lt h)).trans h
def pv (s : List UInt8) : S28 × Int := parseV (fvN 17) s
theorem jparse (s : List UInt8) (w : World) (hT : Tabs w) (x : S28) (e : Int) (h : pv s = (x, e)) :
    Calls Tryz.prog 16 #[.string (ofL s)] w fun E w' => ∃ A n c B m c', E = .returned (.tuple #[.agg #[.int .i64 x.f0, .bool x.f1, .bool x.f2.f0, .string x.f2.f1, .int .i64 x.f2.f2, .string x.f3, .slice A n c, .slice B m c'], .int .i64 e]) ∧
      JC w' x A n c B m c' ∧ Below w.heap.size w w' := by
  have hx : x = (parseV (fvN 17) s).1 := by rw [show parseV (fvN 17) s = (x, e) from h]
  have he : e = (parseV (fvN 17) s).2 := by rw [show parseV (fvN 17) s = (x, e) from h]
  subst hx he
  refine (json_calls s w hT).mono fun E w' ⟨v, h1, ⟨cs, h2, h3⟩, h4⟩ => ?_
  obtain ⟨v6, v7, rfl, g6, g7⟩ := k28_openM h3
  obtain ⟨A, c, rfl, hl6, h6⟩ := Kd.R_reads g6
  obtain ⟨B, c', rfl, hl7, h7⟩ := Kd.R_reads g7
  exact ⟨A, _, c, B, _, c', by rw [h1, h2], ⟨rfl, hl6, h6, rfl, hl7, h7⟩, h4⟩
theorem p7 : pv [55] = (⟨2, false, ⟨false, ⟨#[55]⟩, 0⟩, ⟨#[]⟩, [], []⟩, 0) := by kernel_rfl
theorem pA : pv [91, 93] = (⟨4, false, ⟨false, ⟨#[]⟩, 0⟩, ⟨#[]⟩, [], []⟩, 0) := by kernel_rfl
theorem str_run (w : World) (A : Option Addr) (n c : Nat) (xs : List Int) (h : (Kd.int .u8).C w A n xs) : (convert 38 9 (.slice A n c)).run Tryz.prog w = .ok (.string (strOfNums xs)) w :=
  Kd.C_string Tryz.underlying38 Tryz.underlying5 Tryz.underlying9 h
theorem okNum7 : okNum ⟨false, ⟨#[55]⟩, 0⟩ := ⟨by decide, by decide, by decide, by decide⟩
theorem okNumZ : okNum ⟨false, ⟨#[]⟩, 0⟩ := ⟨by decide, by decide, by decide, by decide⟩
set_option maxRecDepth 100000 in
set_option maxHeartbeats 4000000 in
theorem awake17_calls (w : World) (hT : KTabs w) : Calls Tryz.prog 15 #[] w fun e w' => e = .returned (.bool true) ∧ Below w.heap.size w w' := by
  have HT := Lib.hid hT
  clear hT
  go_enter Tryz.func15, Tryz.ntmps15
  go_wp2_with fail
  refine (jparse [55] w HT.out.t _ _ p7).mono ?_
  rintro E w1 ⟨A, n, c, B, m, c', rfl, hJ, hB⟩
  have HJ := Lib.hid hJ
  have HB := Lib.hid hB
  clear hJ hB
  go_wp2_with fail
  refine (jparse [91, 93] _ (HT.out.below (below_alloc HB.out _)).t _ _ pA).mono ?_
  rintro E w2 ⟨A2, n2, c2, B2, m2, c2', rfl, hJ2, hB2⟩
  obtain ⟨hk1, hs1⟩ := kept hB2
  obtain ⟨q0, q1, q2, q3, q4, q5, q6, q7⟩ := eight hk1
  have HK1 := Lib.hid hk1
  have HB2 := Lib.hid ((below_alloc HB.out _).trans (hB2.mono (by have := HB.out.size; simp; omega)))
  clear hk1 hB2 hJ2 HJ
  go_wp2_with fail
  have hB2a := fun o => below_alloc HB2.out o
  refine (key_calls ⟨2, false, ⟨false, ⟨#[55]⟩, 0⟩, ⟨#[]⟩, [], []⟩ (by decide) okNum7 (by decide) A B n m c c' _ (HT.out.below (hB2a _))).mono ?_
  rintro E w3 ⟨v, rfl, hR, hB3⟩
  rw [show keyL ⟨2, false, ⟨false, ⟨#[55]⟩, 0⟩, ⟨#[]⟩, [], []⟩ = ([4, 2, 7, 209, 8, 0], 0) by decide +kernel] at hR ⊢
  obtain ⟨hk2, hs2⟩ := kept hB3
  obtain ⟨p0, p1, p2, p3, p4, p5, p6, p7⟩ := eight hk2
  have hk1 := thru (blk_alloc HK1.out _) hB3
  obtain ⟨q0, q1, q2, q3, q4, q5, q6, q7⟩ := eight hk1
  have hs13 := Nat.lt_trans hs1 hs2
  have HK1 := Lib.hid hk1
  have HB3 := Lib.hid ((hB2a _).trans (hB3.mono (hB2a _).size))
  obtain ⟨A3, c3, rfl, hl3, hC3⟩ := Kd.R_reads hR
  have HC3 := Lib.hid hC3
  clear hk1 hk2 hB3 hB2a hR hC3 hs1
  go_wp2_with fail
  refine (key_calls ⟨4, false, ⟨false, ⟨#[]⟩, 0⟩, ⟨#[]⟩, [], []⟩ (by decide) okNumZ (by decide) A2 B2 n2 m2 c2 c2' _ (HT.out.below HB3.out)).mono ?_
  rintro E w4 ⟨v, rfl, hR, hB4⟩
  rw [show keyL ⟨4, false, ⟨false, ⟨#[]⟩, 0⟩, ⟨#[]⟩, [], []⟩ = ([], 36) by decide +kernel] at hR ⊢
  have hk1 := thru HK1.out hB4
  obtain ⟨q0, q1, q2, q3, q4, q5, q6, q7⟩ := eight hk1
  have HB4 := Lib.hid (HB3.out.trans (hB4.mono HB3.out.size))
  have HC4 := Lib.hid (Kd.C_below HC3.out hB4)
  clear p0 p1 p2 p3 p4 p5 p6 p7 hk1 hB4 HC3 hR
  go_wp2_with fail
  refine (kind_calls 2 (by decide) false false ⟨#[55]⟩ ⟨#[]⟩ 0 A B n m c c' _ (HT.out.below HB4.out)).mono ?_
  rintro E w5 ⟨rfl, hB5⟩
  rw [show k1 2 = 4 from rfl, show k2 2 = 5 from rfl]
  have hst : (convert 38 9 (.slice A3 6 c3)).run Tryz.prog w5 = .ok (.string ⟨#[4, 2, 7, 209, 8, 0]⟩) w5 :=
    (str_run w5 A3 6 c3 _ (Kd.C_below HC4.out hB5)).trans (by rw [show strOfNums [4, 2, 7, 209, 8, 0] = ⟨#[4, 2, 7, 209, 8, 0]⟩ by kernel_rfl])
  have HB5 := Lib.hid (HB4.out.trans (hB5.mono HB4.out.size))
  clear hB5
  go_wp2_with fail
  go_ret
  exact ⟨rfl, HB5.out⟩
end Js
end Go.Proofs.YtapcpndplnkfjaaGreatDoor
namespace Go.Proofs.YtapcpndplnkfjaaGreatDoor
open Go.RowKit Go.Proofs.YtapcpndplnkfjaaGreatDoorW.PrintWords Go.Proofs.YtapcpndplnkfjaaGreatDoorW.PrintLast Go.Proofs.YtapcpndplnkfjaaGreatDoorW.PrintMore
set_option linter.unusedVariables false
set_option linter.unusedSimpArgs false
namespace Js
theorem kinds_stand (a b : Int) (ha : 0 ≤ a ∧ a ≤ 5) (hb : 0 ≤ b ∧ b ≤ 5) (h : a < b) (h4 : a < 4) : k2 a ≤ k1 b := by
  have h1 : a = 0 ∨ a = 1 ∨ a = 2 ∨ a = 3 := by omega
  have h2 : b = 0 ∨ b = 1 ∨ b = 2 ∨ b = 3 ∨ b = 4 ∨ b = 5 := by omega
  rcases h1 with rfl | rfl | rfl | rfl <;> rcases h2 with rfl | rfl | rfl | rfl | rfl | rfl <;> first | omega | decide
theorem key_kind (x : S28) (h : 0 ≤ x.f0 ∧ x.f0 ≤ 5) (h4 : x.f0 < 4) : (keyL x).2 = 0 ∧ ∃ c l, (keyL x).1 = c :: l ∧ k1 x.f0 ≤ c ∧ c < k2 x.f0 := by
  have h1 : x.f0 = 0 ∨ x.f0 = 1 ∨ x.f0 = 2 ∨ x.f0 = 3 := by omega
  rcases h1 with e | e | e | e <;> unfold keyL <;> rw [e]
  · exact ⟨rfl, 1, [], rfl, by decide, by decide⟩
  · by_cases hb : x.f1 = true
    · refine ⟨rfl, 3, [], ?_, by decide, by decide⟩; rw [hb]; rfl
    · refine ⟨rfl, 2, [], ?_, by decide, by decide⟩
      have : x.f1 = false := by simpa using hb
      rw [this]; rfl
  · exact ⟨rfl, 4, _, rfl, by decide, by decide⟩
  · exact ⟨rfl, 5, _, rfl, by decide, by decide⟩
theorem key_rest (x : S28) (h4 : ¬ x.f0 < 4) : keyL x = ([], 36) := by
  unfold keyL; rw [if_neg (by omega), if_neg (by omega), if_neg (by omega), if_neg (by omega)]
set_option maxRecDepth 100000 in
set_option maxHeartbeats 4000000 in
theorem kinds_main (s t : List UInt8) (hs : s.length ≤ 600) (ht : t.length ≤ 600) (w : World) (hT : KTabs w) :
    Calls Tryz.prog 4 #[.string (ofL s), .string (ofL t)] w fun e w' => e = .returned (.bool true) ∧ Below w.heap.size w w' := by
  have HT := Lib.hid hT
  have HS : Hid ((ofL s).size = s.length) := Lib.hid (ofL_size s)
  have HS2 : Hid ((ofL t).size = t.length) := Lib.hid (ofL_size t)
  have hs1 : ((ofL s).size : Int) ≤ 600 := by rw [HS.out]; omega
  have ht1 : ((ofL t).size : Int) ≤ 600 := by rw [HS2.out]; omega
  obtain ⟨x, ex, hx⟩ : ∃ x e, pv s = (x, e) := ⟨_, _, rfl⟩
  obtain ⟨y, ey, hy⟩ : ∃ y e, pv t = (y, e) := ⟨_, _, rfl⟩
  have tx : Top s.length x := by have := top_parse s; rwa [show parseV (fvN 17) s = (x, ex) from hx] at this
  have ty : Top t.length y := by have := top_parse t; rwa [show parseV (fvN 17) t = (y, ey) from hy] at this
  have HX := Lib.hid hx
  have HY := Lib.hid hy
  have TX := Lib.hid tx
  have TY := Lib.hid ty
  have HL := Lib.hid hs
  have HL2 := Lib.hid ht
  clear hT hx hy tx ty hs ht
  go_enter Tryz.func4, Tryz.ntmps4
  go_wp2_with fail
  refine (awake17_calls _ HT.out).mono ?_
  rintro E w1 ⟨rfl, hB⟩
  have HB := Lib.hid hB
  clear hB
  go_wp2_with fail
  refine (jparse s _ (HT.out.below HB.out).t _ _ HX.out).mono ?_
  rintro E w2 ⟨A, n, c, B, m, c', rfl, hJ, hB⟩
  have HB2 := Lib.hid (HB.out.trans (hB.mono HB.out.size))
  clear hJ hB
  go_wp2_with fail
  refine (jparse t _ (HT.out.below (below_alloc HB2.out _)).t _ _ HY.out).mono ?_
  rintro E w3 ⟨A', n', d, B', m', d', rfl, hJ, hB⟩
  obtain ⟨hk1, hs1'⟩ := kept hB
  obtain ⟨q0, q1, q2, q3, q4, q5, q6, q7⟩ := eight hk1
  have HK1 := Lib.hid hk1
  have HB3 := Lib.hid ((below_alloc HB2.out _).trans (hB.mono (below_alloc HB2.out _).size))
  clear hk1 hB hJ
  go_wp2_with fail
  refine (kind_calls x.f0 TX.out.k _ _ _ _ _ _ _ _ _ _ _ _ (HT.out.below (below_alloc HB3.out _))).mono ?_
  rintro E w4 ⟨rfl, hB⟩
  obtain ⟨hk2, hs2'⟩ := kept hB
  obtain ⟨p0, p1, p2, p3, p4, p5, p6, p7⟩ := eight hk2
  have hk1 := thru (blk_alloc HK1.out _) hB
  obtain ⟨q0, q1, q2, q3, q4, q5, q6, q7⟩ := eight hk1
  have HK1 := Lib.hid hk1
  have HK2 := Lib.hid hk2
  have HB4 := Lib.hid ((below_alloc HB3.out _).trans (hB.mono (below_alloc HB3.out _).size))
  clear hk1 hk2 hB hs1'
  obtain ⟨a, ha⟩ : ∃ a, a = k1 x.f0 := ⟨_, rfl⟩
  obtain ⟨b, hb⟩ : ∃ b, b = k2 x.f0 := ⟨_, rfl⟩
  rw [← ha, ← hb]
  have HA := Lib.hid ha
  have HBb := Lib.hid hb
  clear ha hb
  go_wp2_with fail
  refine (kind_calls y.f0 TY.out.k _ _ _ _ _ _ _ _ _ _ _ _ (HT.out.below HB4.out)).mono ?_
  rintro E w5 ⟨rfl, hB⟩
  have hk1 := thru HK1.out hB
  obtain ⟨q0, q1, q2, q3, q4, q5, q6, q7⟩ := eight hk1
  have hk2 := thru HK2.out hB
  obtain ⟨p0, p1, p2, p3, p4, p5, p6, p7⟩ := eight hk2
  have HK1 := Lib.hid hk1
  have HB5 := Lib.hid (HB4.out.trans (hB.mono HB4.out.size))
  clear hk1 hk2 hB
  obtain ⟨a2, ha2⟩ : ∃ a, a = k1 y.f0 := ⟨_, rfl⟩
  obtain ⟨b2, hb2⟩ : ∃ b, b = k2 y.f0 := ⟨_, rfl⟩
  rw [← ha2, ← hb2]
  have HA2 := Lib.hid ha2
  have HBb2 := Lib.hid hb2
  clear ha2 hb2
  have hkey : (x.f0 < 4 ∧ ∃ c0 l, Hid (keyL x = (c0 :: l, 0)) ∧ a ≤ c0 ∧ c0 < b) ∨ (4 ≤ x.f0 ∧ Hid (keyL x = ([], 36))) := by
    by_cases h4 : x.f0 < 4
    · obtain ⟨h0, c0, l, h1, h2, h3⟩ := key_kind x TX.out.k h4
      exact .inl ⟨h4, c0, l, Lib.hid (Prod.ext h1 h0), by rw [HA.out]; exact h2, by rw [HBb.out]; exact h3⟩
    · exact .inr ⟨by omega, Lib.hid (key_rest x h4)⟩
  have hord : (x.f0 < y.f0 ∧ (x.f0 == y.f0) = false ∧ (x.f0 < 4 → b ≤ a2)) ∨ (y.f0 ≤ x.f0 ∧ (x.f0 == y.f0) = true ∧ a = a2 ∧ b = b2) ∨ (y.f0 ≤ x.f0 ∧ (x.f0 == y.f0) = false) := by
    rcases Int.lt_trichotomy x.f0 y.f0 with h | h | h
    · exact .inl ⟨h, by simp; omega, fun h4 => by rw [HBb.out, HA2.out]; exact kinds_stand _ _ TX.out.k TY.out.k h h4⟩
    · exact .inr (.inl ⟨by omega, by simp [h], by rw [HA.out, HA2.out, h], by rw [HBb.out, HBb2.out, h]⟩)
    · exact .inr (.inr ⟨by omega, by simp; omega⟩)
  have hb1 : ∀ (w6 : World), Below w5.heap.size w5 w6 → w2.heap.size < w5.heap.size → w6.cell? ⟨w2.heap.size, 0, none⟩ = some (.int .i64 x.f0) := fun w6 hB h => (blk_cell (thru HK1.out hB) 0).trans rfl
  have HQ := Lib.hid hb1
  have hlt5 := blk_lt HK1.out
  clear hb1
  rcases hkey with ⟨h4, c0, l, HK, hc1, hc2⟩ | ⟨h4, HK⟩
  · rcases hord with ⟨o1, o2, o3⟩ | ⟨o1, o2, rfl, rfl⟩ | ⟨o1, o2⟩
    all_goals
      try have o3 := o3 h4
      go_wp2_with fail
      refine (key_calls x TX.out.k TX.out.n (by have := TX.out.t; have := HL.out; omega) A B n m c c' _ (HT.out.below HB5.out)).mono ?_
      rintro E w6 ⟨v, rfl, hR, hB⟩
      rw [HK.out] at hR ⊢
      have hq := HQ.out w6 hB hlt5
      obtain ⟨A6, c6, rfl, hl6, hC⟩ := Kd.R_reads hR
      obtain ⟨ad, rfl, hc⟩ := u8_at hC 0 (by simp)
      have HB6 := Lib.hid (HB5.out.trans (hB.mono HB5.out.size))
      have hc : w6.cell? ad = some (.int .u8 c0) := by
        cases ad
        simpa [Addr.add] using hc
      clear hB hR hC
      go_wp2_with fail
      go_ret
      exact ⟨rfl, HB6.out⟩
  · rcases hord with ⟨o1, o2, o3⟩ | ⟨o1, o2, rfl, rfl⟩ | ⟨o1, o2⟩
    all_goals
      try clear o3
      have h4' : decide (x.f0 < 4) = false := by simp; omega
      go_wp2_with fail
      refine (key_calls x TX.out.k TX.out.n (by have := TX.out.t; have := HL.out; omega) A B n m c c' _ (HT.out.below HB5.out)).mono ?_
      rintro E w6 ⟨v, rfl, hR, hB⟩
      rw [HK.out] at hR ⊢
      have hq := HQ.out w6 hB hlt5
      have HB6 := Lib.hid (HB5.out.trans (hB.mono HB5.out.size))
      clear hB hR
      go_wp2_with fail
      go_ret
      exact ⟨rfl, HB6.out⟩
set_option maxRecDepth 100000 in
set_option maxHeartbeats 4000000 in
theorem kinds_long (s t : List UInt8) (h : 600 < s.length ∨ 600 < t.length) (w : World) (hT : KTabs w) :
    Calls Tryz.prog 4 #[.string (ofL s), .string (ofL t)] w fun e w' => e = .returned (.bool true) ∧ Below w.heap.size w w' := by
  have HT := Lib.hid hT
  have HS : Hid ((ofL s).size = s.length) := Lib.hid (ofL_size s)
  have HS2 : Hid ((ofL t).size = t.length) := Lib.hid (ofL_size t)
  by_cases hs : 600 < s.length
  · have hs1 : (600 : Int) < ((ofL s).size : Int) := by rw [HS.out]; omega
    clear h hs hT
    go_enter Tryz.func4, Tryz.ntmps4
    go_wp2_with fail
    refine (awake17_calls _ HT.out).mono ?_
    rintro E w1 ⟨rfl, hB⟩
    go_wp2_with fail
    go_ret
    exact ⟨rfl, hB⟩
  · have hs1 : ((ofL s).size : Int) ≤ 600 := by rw [HS.out]; omega
    have ht1 : (600 : Int) < ((ofL t).size : Int) := by rw [HS2.out]; omega
    clear h hs hT
    go_enter Tryz.func4, Tryz.ntmps4
    go_wp2_with fail
    refine (awake17_calls _ HT.out).mono ?_
    rintro E w1 ⟨rfl, hB⟩
    go_wp2_with fail
    go_ret
    exact ⟨rfl, hB⟩
theorem OrderKinds_calls (s t : ByteArray) (w : World) (hT : KTabs w) :
    Calls Tryz.prog 4 #[.string s, .string t] w fun e w' => e = .returned (.bool true) ∧ Below w.heap.size w w' := by
  by_cases h : 600 < s.data.toList.length ∨ 600 < t.data.toList.length
  · exact kinds_long s.data.toList t.data.toList h w hT
  · exact kinds_main s.data.toList t.data.toList (by omega) (by omega) w hT
end Js
end Go.Proofs.YtapcpndplnkfjaaGreatDoor
