/- What the law rests on, part 4: joined by a program of this session (claimx.py). -/
import Derived.Test.YtapcpndplnkfjaaGreatDoorJsonBackC
namespace Go.Proofs.YtapcpndplnkfjaaGreatDoor
open Go.RowKit Go.Proofs.YtapcpndplnkfjaaGreatDoorW.PrintWords Go.Proofs.YtapcpndplnkfjaaGreatDoorW.PrintLast Go.Proofs.YtapcpndplnkfjaaGreatDoorW.PrintMore
set_option linter.unusedVariables false
set_option linter.unusedSimpArgs false
namespace Js
def nv (n : S24) : NumP.NumV := (n.f0, n.f1.data.toList, n.f2)
def told (b : Bool) : Int := if b = true then 1 else 0
def cmpFlat (x y : S28) : Int :=
  if x.f0 = y.f0 then
    if x.f0 = 1 then told x.f1 - told y.f1 else
    if x.f0 = 2 then cmpP (nv x.f2) (nv y.f2) else
    if x.f0 = 3 then Lib.compareBytes x.f3.data.toList y.f3.data.toList else 0
  else Lib.compareInt x.f0 y.f0
theorem told_calls (b : Bool) (w : World) : Calls Tryz.prog 51 #[.bool b] w fun e w' => e = .returned (.int .i64 (told b)) ∧ w' = w := by
  cases b
  · go_enter Tryz.func51, Tryz.ntmps51
    go_wp2
    go_ret
    exact ⟨rfl, rfl⟩
  · go_enter Tryz.func51, Tryz.ntmps51
    go_wp2
    go_ret
    exact ⟨rfl, rfl⟩
theorem compare_ne (x y : S28) (hne : x.f0 ≠ y.f0) (A A' B B' : Option Addr) (n n' m m' c c' d d' : Nat) (w : World) :
    Calls Tryz.prog 28 #[.agg #[.int .i64 x.f0, .bool x.f1, .bool x.f2.f0, .string x.f2.f1, .int .i64 x.f2.f2, .string x.f3, .slice A n c, .slice B m d], .agg #[.int .i64 y.f0, .bool y.f1, .bool y.f2.f0, .string y.f2.f1, .int .i64 y.f2.f2, .string y.f3, .slice A' n' c', .slice B' m' d']] w
      fun e w' => e = .returned (.int .i64 (Lib.compareInt x.f0 y.f0)) ∧ Below w.heap.size w w' := by
  have h1 : (x.f0 != y.f0) = true := by simpa using hne
  have h2 : (x.f0 == y.f0) = false := by simpa using hne
  clear hne
  go_enter Tryz.func28, Tryz.ntmps28
  go_wp2_with fail
  refine (Tryz.cmp_Compare_int _ _ _).mono ?_
  rintro E w1 ⟨rfl, rfl⟩
  go_wp2_with fail
  go_ret
  exact ⟨rfl, below_alloc (below_alloc (Below.refl _ _) _) _⟩
set_option maxRecDepth 100000 in
set_option maxHeartbeats 4000000 in
theorem compare_flat (x y : S28) (he : x.f0 = y.f0) (hk : 0 ≤ x.f0 ∧ x.f0 ≤ 3) (hx : okNum x.f2) (hy : okNum y.f2) (A A' B B' : Option Addr) (n n' m m' c c' d d' : Nat) (w : World) :
    Calls Tryz.prog 28 #[.agg #[.int .i64 x.f0, .bool x.f1, .bool x.f2.f0, .string x.f2.f1, .int .i64 x.f2.f2, .string x.f3, .slice A n c, .slice B m d], .agg #[.int .i64 y.f0, .bool y.f1, .bool y.f2.f0, .string y.f2.f1, .int .i64 y.f2.f2, .string y.f3, .slice A' n' c', .slice B' m' d']] w
      fun e w' => e = .returned (.int .i64 (cmpFlat x y)) ∧ Below w.heap.size w w' := by
  obtain ⟨k, bx, ⟨dx, Dx, ex⟩, tx, ix, nx⟩ := x
  obtain ⟨k', by', ⟨dy, Dy, ey⟩, ty, iy, ny⟩ := y
  simp only at he hk
  subst he
  have HX := Lib.hid hx
  have HY := Lib.hid hy
  clear hx hy
  obtain ⟨h0, h3⟩ := hk
  have hc : k = 0 ∨ k = 1 ∨ k = 2 ∨ k = 3 := by omega
  have HB : ∀ o p, Below w.heap.size w ((w.alloc o).alloc p) := fun o p => below_alloc (below_alloc (Below.refl _ _) _) _
  have HB := Lib.hid HB
  clear h0 h3
  rcases hc with rfl | rfl | rfl | rfl
  · go_enter Tryz.func28, Tryz.ntmps28
    go_wp2_with fail
    go_ret
    exact ⟨rfl, HB.out _ _⟩
  · cases bx <;> cases by'
    all_goals
      go_enter Tryz.func28, Tryz.ntmps28
      go_wp2_with fail
      go_quiet ((go_at_call 51; exact Calls.quiet_of_same (told_calls _ _)))
      go_wp2_with fail
      go_ret
      refine ⟨?_, by first | exact pw_below_drewN (HB.out _ _) _ | exact HB.out _ _⟩
      first | rfl | (exact congrArg (fun z => Ending.returned (Value.int .i64 z)) (by decide +kernel : wrap64 (told false - told true) = told false - told true)) | (exact congrArg (fun z => Ending.returned (Value.int .i64 z)) (by decide +kernel : wrap64 (told true - told false) = told true - told false))
  · have hc : Ev (fun k => Pr.num_Compare.f k dx Dx ex dy Dy ey) (cmpP (dx, Dx.data.toList, ex) (dy, Dy.data.toList, ey)) := by
      have := compare_ev (dx, Dx.data.toList, ex) (dy, Dy.data.toList, ey) ⟨by have := HX.out.1; simp only at *; omega, by have := HX.out.2.2; simp only at *; omega, by have := HX.out.2.2; simp only at *; omega⟩ ⟨by have := HY.out.1; simp only at *; omega, by have := HY.out.2.2; simp only at *; omega, by have := HY.out.2.2; simp only at *; omega⟩
      exact this
    obtain ⟨K, hK⟩ := hc
    have HK := Lib.hid (hK K (Nat.le_refl _))
    clear hK
    go_enter Tryz.func28, Tryz.ntmps28
    go_wp2_with fail
    refine (Pr.num_Compare.calls K _ _ _ _ _ _ _ _ HK.out).mono ?_
    rintro E w1 ⟨rfl, hB⟩
    go_wp2_with fail
    go_ret
    exact ⟨rfl, (HB.out _ _).trans (hB.mono (HB.out _ _).size)⟩
  · go_enter Tryz.func28, Tryz.ntmps28
    go_wp2_with fail
    refine (strings_Compare.calls tx ty _ _ rfl).mono ?_
    rintro E w1 ⟨rfl, ⟨q, rfl⟩⟩
    go_wp2_with fail
    go_ret
    exact ⟨rfl, pw_below_drewN (HB.out _ _) _⟩
end Js
end Go.Proofs.YtapcpndplnkfjaaGreatDoor
namespace Go.Proofs.YtapcpndplnkfjaaGreatDoor
open Go.RowKit Go.Proofs.YtapcpndplnkfjaaGreatDoorW.PrintWords Go.Proofs.YtapcpndplnkfjaaGreatDoorW.PrintLast Go.Proofs.YtapcpndplnkfjaaGreatDoorW.PrintMore
set_option linter.unusedVariables false
set_option linter.unusedSimpArgs false
namespace Js
structure JTabs (w : World) : Prop where
  t : Tabs w
  p : PTabs w
theorem JTabs.below {w w' : World} (h : JTabs w) (hb : Below w.heap.size w w') : JTabs w' := ⟨h.t.below hb, h.p.below hb⟩
def A1 : List UInt8 := [32, 123, 34, 98, 34, 58, 49, 46, 48, 44, 32, 34, 97, 34, 58, 91, 93, 125]
def A2 : List UInt8 := [34, 92, 117, 48, 48, 101, 57, 92, 117, 100, 56, 51, 100, 92, 117, 100, 101, 48, 48, 92, 110, 34]
def A3 : List UInt8 := [91, 49, 44, 93]
def A4 : List UInt8 := [123, 34, 97, 34, 58, 49, 44, 34, 97, 34, 58, 50, 125]
theorem e1_ : (pv A1).2 = 0 := by decide +kernel
theorem k1_ : (pv A1).1.f0 = 5 := by decide +kernel
theorem t1_ : txF 3 (pv A1).1 = some [123, 34, 97, 34, 58, 91, 93, 44, 34, 98, 34, 58, 49, 125] := by decide +kernel
theorem f1_ : pos (pv A1).1.f5 ⟨#[98]⟩ = 1 ∧ has (pv A1).1.f5 ⟨#[98]⟩ = true ∧ (pv A1).1.f5.length ≤ 1000000 := by decide +kernel
theorem e2_ : (pv A2).2 = 0 := by decide +kernel
theorem k2_ : (pv A2).1.f0 = 3 ∧ (pv A2).1.f3.data.toList = [195, 169, 240, 159, 152, 128, 10] := by decide +kernel
theorem t2_ : txF 3 (pv A2).1 = some [34, 195, 169, 240, 159, 152, 128, 92, 117, 48, 48, 48, 97, 34] := by decide +kernel
theorem e3_ : (pv A3).2 = 11 := by decide +kernel
theorem e4_ : (pv A4).2 = 31 := by decide +kernel
set_option maxRecDepth 100000 in
set_option maxHeartbeats 4000000 in
theorem awake15_calls (w : World) (hT : JTabs w) : Calls Tryz.prog 29 #[] w fun e w' => e = .returned (.bool true) ∧ Below w.heap.size w w' := by
  have HT := Lib.hid hT
  obtain ⟨X, hX⟩ : ∃ X, X = (pv A1).1 := ⟨_, rfl⟩
  obtain ⟨Y, hY⟩ : ∃ Y, Y = (pv A2).1 := ⟨_, rfl⟩
  obtain ⟨Z, hZ⟩ : ∃ Z, Z = (pv A3).1 := ⟨_, rfl⟩
  obtain ⟨V, hV⟩ : ∃ V, V = (pv A4).1 := ⟨_, rfl⟩
  have H1 : Hid (pv A1 = (X, 0)) := Lib.hid (by rw [hX, ← e1_])
  have H2 : Hid (pv A2 = (Y, 0)) := Lib.hid (by rw [hY, ← e2_])
  have H3 : Hid (pv A3 = (Z, 11)) := Lib.hid (by rw [hZ, ← e3_])
  have H4 : Hid (pv A4 = (V, 31)) := Lib.hid (by rw [hV, ← e4_])
  have HX5 : Hid (X.f0 = 5) := Lib.hid (by rw [hX]; exact k1_)
  have HXT : Hid (txF 3 X = some [123, 34, 97, 34, 58, 91, 93, 44, 34, 98, 34, 58, 49, 125]) := Lib.hid (by rw [hX]; exact t1_)
  have HXF : Hid (pos X.f5 ⟨#[98]⟩ = 1 ∧ has X.f5 ⟨#[98]⟩ = true ∧ X.f5.length ≤ 1000000) := Lib.hid (by rw [hX]; exact f1_)
  have HY3 : Hid (Y.f0 = 3 ∧ Y.f3.data.toList = [195, 169, 240, 159, 152, 128, 10]) := Lib.hid (by rw [hY]; exact k2_)
  have HYT : Hid (txF 3 Y = some [34, 195, 169, 240, 159, 152, 128, 92, 117, 48, 48, 48, 97, 34]) := Lib.hid (by rw [hY]; exact t2_)
  clear hT hX hY hZ hV
  go_enter Tryz.func29, Tryz.ntmps29
  go_wp2_with fail
  refine (jparseR A1 w HT.out.t X 0 H1.out).mono ?_
  rintro E w1 ⟨A, c, B, c', rfl, hJ, hR, hB⟩
  have HJ := Lib.hid hJ
  have HR := Lib.hid hR
  have HB1 := Lib.hid (below_alloc hB (.cells #[.int .i64 X.f0, .bool X.f1, .bool X.f2.f0, .string X.f2.f1, .int .i64 X.f2.f2, .string X.f3, .slice A X.f4.length c, .slice B X.f5.length c'] 28))
  have HK1 := Lib.hid (blk_new w1 (.cells #[.int .i64 X.f0, .bool X.f1, .bool X.f2.f0, .string X.f2.f1, .int .i64 X.f2.f2, .string X.f3, .slice A X.f4.length c, .slice B X.f5.length c'] 28))
  have HW1 := Lib.hid (below_alloc (Below.refl w1.heap.size w1) (.cells #[.int .i64 X.f0, .bool X.f1, .bool X.f2.f0, .string X.f2.f1, .int .i64 X.f2.f2, .string X.f3, .slice A X.f4.length c, .slice B X.f5.length c'] 28))
  clear hJ hR hB
  go_wp2_with fail
  refine (jparseR A2 _ (HT.out.below HB1.out).t Y 0 H2.out).mono ?_
  rintro E w2 ⟨A', d, B', d', rfl, hJ, hR, hB⟩
  have HJY := Lib.hid hJ
  have HB2 := Lib.hid (below_alloc (HB1.out.trans (hB.mono HB1.out.size)) (.cells #[.int .i64 Y.f0, .bool Y.f1, .bool Y.f2.f0, .string Y.f2.f1, .int .i64 Y.f2.f2, .string Y.f3, .slice A' Y.f4.length d, .slice B' Y.f5.length d'] 28))
  have HK2 := Lib.hid (blk_new w2 (.cells #[.int .i64 Y.f0, .bool Y.f1, .bool Y.f2.f0, .string Y.f2.f1, .int .i64 Y.f2.f2, .string Y.f3, .slice A' Y.f4.length d, .slice B' Y.f5.length d'] 28))
  have HK1 := Lib.hid (blk_alloc (thru HK1.out hB) (.cells #[.int .i64 Y.f0, .bool Y.f1, .bool Y.f2.f0, .string Y.f2.f1, .int .i64 Y.f2.f2, .string Y.f3, .slice A' Y.f4.length d, .slice B' Y.f5.length d'] 28))
  have hw12 := HW1.out.trans (hB.mono HW1.out.size)
  have HW1 := Lib.hid (hw12.trans ((below_alloc (Below.refl w2.heap.size w2) (.cells #[.int .i64 Y.f0, .bool Y.f1, .bool Y.f2.f0, .string Y.f2.f1, .int .i64 Y.f2.f2, .string Y.f3, .slice A' Y.f4.length d, .slice B' Y.f5.length d'] 28)).mono hw12.size))
  have HW2 := Lib.hid (below_alloc (Below.refl w2.heap.size w2) (.cells #[.int .i64 Y.f0, .bool Y.f1, .bool Y.f2.f0, .string Y.f2.f1, .int .i64 Y.f2.f2, .string Y.f3, .slice A' Y.f4.length d, .slice B' Y.f5.length d'] 28))
  clear hJ hR hB hw12
  go_wp2_with fail
  refine (jparseR A3 _ (HT.out.below HB2.out).t Z 11 H3.out).mono ?_
  rintro E w3 ⟨A3', d3, B3', d3', rfl, hJ, hR, hB⟩
  have HB3 := Lib.hid (HB2.out.trans (hB.mono HB2.out.size))
  have HK1 := Lib.hid (thru HK1.out hB)
  have HK2 := Lib.hid (thru HK2.out hB)
  have HW1 := Lib.hid (HW1.out.trans (hB.mono HW1.out.size))
  have HW2 := Lib.hid (HW2.out.trans (hB.mono HW2.out.size))
  clear hJ hR hB
  go_wp2_with fail
  have ha3 := fun o => below_alloc (Below.refl w3.heap.size w3) o
  have HA3 := Lib.hid ha3
  clear ha3
  refine (jparseR A4 _ (HT.out.below (HB3.out.trans ((HA3.out _).mono HB3.out.size))).t V 31 H4.out).mono ?_
  rintro E w4 ⟨A4', d4, B4', d4', rfl, hJ, hR, hB⟩
  have hB := (HA3.out _).trans (hB.mono (HA3.out _).size)
  have HB4 := Lib.hid (HB3.out.trans (hB.mono HB3.out.size))
  have HK1 := Lib.hid (thru HK1.out hB)
  have HK2 := Lib.hid (thru HK2.out hB)
  have HW1 := Lib.hid (HW1.out.trans (hB.mono HW1.out.size))
  have HW2 := Lib.hid (HW2.out.trans (hB.mono HW2.out.size))
  clear hJ hR hB HA3
  have ha4 := fun o => below_alloc (Below.refl w4.heap.size w4) o
  have HA4 := Lib.hid ha4
  obtain ⟨p0, p1, p2, p3, p4, p5, p6, p7⟩ := eight (HK1.out)
  have hlt1 : w1.heap.size < w4.heap.size := blk_lt HK1.out
  clear ha4
  go_wp2_with fail
  have hR5 := Kd.R_below HR.out (HW1.out.trans ((HA4.out (.cells #[.int .i64 V.f0, .bool V.f1, .bool V.f2.f0, .string V.f2.f1, .int .i64 V.f2.f2, .string V.f3, .slice A4' V.f4.length d4, .slice B4' V.f5.length d4'] 28)).mono HW1.out.size))
  refine (find_calls X ⟨#[98]⟩ HX5.out _ _ _ _ hR5 HXF.out.2.2).mono ?_
  rintro E w5 ⟨rfl, hB⟩
  rw [HXF.out.1, HXF.out.2.1]
  have hB := (HA4.out _).trans (hB.mono (HA4.out _).size)
  have HB5 := Lib.hid (HB4.out.trans (hB.mono HB4.out.size))
  have HK1 := Lib.hid (thru HK1.out hB)
  have HK2 := Lib.hid (thru HK2.out hB)
  have HW1 := Lib.hid (HW1.out.trans (hB.mono HW1.out.size))
  have HW2 := Lib.hid (HW2.out.trans (hB.mono HW2.out.size))
  clear hB hR5 HA4 p0 p1 p2 p3 p4 p5 p6 p7 hlt1
  obtain ⟨p0, p1, p2, p3, p4, p5, p6, p7⟩ := eight (HK1.out)
  go_wp2_with fail
  refine (jtext_calls 3 X _ HXT.out A B c c' w5 (HT.out.below HB5.out).p (HJ.out.below HW1.out)).mono ?_
  rintro E w6 ⟨rfl, hB⟩
  have HB6 := Lib.hid (HB5.out.trans (hB.mono HB5.out.size))
  have HK1 := Lib.hid (thru HK1.out hB)
  have HK2 := Lib.hid (thru HK2.out hB)
  have HW1 := Lib.hid (HW1.out.trans (hB.mono HW1.out.size))
  have HW2 := Lib.hid (HW2.out.trans (hB.mono HW2.out.size))
  clear hB p0 p1 p2 p3 p4 p5 p6 p7
  obtain ⟨p0, p1, p2, p3, p4, p5, p6, p7⟩ := eight (HK2.out)
  have hg1 : ((ofL [123, 34, 97, 34, 58, 91, 93, 44, 34, 98, 34, 58, 49, 125]).toList == [123, 34, 97, 34, 58, 91, 93, 44, 34, 98, 34, 58, 49, 125]) = true := by rw [ofL_toList]; exact beq_self_eq_true _
  have hg2 : (Y.f3.toList == [195, 169, 240, 159, 152, 128, 10]) = true := by rw [ByteArray.toList_eq, HY3.out.2]; exact beq_self_eq_true _
  go_wp2_with fail
  refine (jtext_calls 3 Y _ HYT.out A' B' d d' w6 (HT.out.below HB6.out).p (HJY.out.below HW2.out)).mono ?_
  rintro E w7 ⟨rfl, hB⟩
  have HB7 := Lib.hid (HB6.out.trans (hB.mono HB6.out.size))
  have HK1 := Lib.hid (thru HK1.out hB)
  have HK2 := Lib.hid (thru HK2.out hB)
  have hg4 : ((ofL [34, 195, 169, 240, 159, 152, 128, 92, 117, 48, 48, 48, 97, 34]).toList == [34, 195, 169, 240, 159, 152, 128, 92, 117, 48, 48, 48, 97, 34]) = true := by rw [ofL_toList]; exact beq_self_eq_true _
  clear hB p0 p1 p2 p3 p4 p5 p6 p7 hg1 hg2
  obtain ⟨p0, p1, p2, p3, p4, p5, p6, p7⟩ := eight (HK1.out)
  obtain ⟨q0, q1, q2, q3, q4, q5, q6, q7⟩ := eight (HK2.out)
  go_wp2_with fail
  refine (compare_ne X Y (by rw [HX5.out, HY3.out.1]; decide) A A' B B' _ _ _ _ c d c' d' w7).mono ?_
  rintro E w8 ⟨rfl, hB⟩
  have HB8 := Lib.hid (HB7.out.trans (hB.mono HB7.out.size))
  rw [show Lib.compareInt X.f0 Y.f0 = 1 by rw [HX5.out, HY3.out.1]; rfl]
  clear hB p0 p1 p2 p3 p4 p5 p6 p7 q0 q1 q2 q3 q4 q5 q6 q7
  go_wp2_with fail
  go_ret
  exact ⟨rfl, HB8.out⟩
end Js
end Go.Proofs.YtapcpndplnkfjaaGreatDoor
namespace Go.Proofs.YtapcpndplnkfjaaGreatDoor
open Go.ChangeShapes Go.WideShapes Go.ChangeAt Go.RowKit Go.Lib
namespace Frame
theorem own : ownKnob Tryz.prog.godebug = none := by kernel_rfl
theorem plainLaid {W : World} {l : List (String × DataW Unit)} (h : laidMetH Tryz.prog l W) (hh : (l.all fun x => x.2.handleName?.isNone) = true) : laidMet Tryz.prog l W := by
  have h1 := (laidMetH_iff.1 h).1
  rwa [List.filter_eq_self.2 (fun x hx => List.all_eq_true.1 hh x hx)] at h1
theorem tabsOf {W : World} {l : List (String × DataW Unit)} (h : laidMet Tryz.prog l W) (h1 : ("unicode/utf8.first", Rows.laid_unicode_utf8_first) ∈ l) (h2 : ("unicode/utf8.acceptRanges", Rows.laid_unicode_utf8_acceptRanges) ∈ l) (h3 : ("unicode.CaseRanges", Rows.laid_unicode_CaseRanges) ∈ l) : Js.Tabs W := by
  have e1 : Rows.laid_unicode_utf8_first = firstData := Pinned.utf8First_eq
  have e3 : Rows.laid_unicode_CaseRanges = caseData := Pinned.caseRanges_eq
  have e2 : (Rows.laid_unicode_utf8_acceptRanges : DataW Unit) = acceptData := by kernel_rfl
  rw [e1] at h1
  rw [e2] at h2
  rw [e3] at h3
  exact ⟨utf8Tabs_of_reads Tryz.lays260 ⟨by kernel_rfl, by kernel_rfl, by kernel_rfl, by kernel_rfl, by kernel_rfl, by kernel_rfl, by kernel_rfl⟩ (laidMet.reads h h1) (laidMet.reads h h2),
    caseVar_of_reads (ρ := Tryz.lays159_ren) { Tryz.lays159 with } (by kernel_rfl) ⟨by kernel_rfl, by kernel_rfl, by kernel_rfl, by kernel_rfl, by kernel_rfl, by kernel_rfl⟩ (laidMet.reads h h3)⟩
theorem gPow : (Tryz.prog.globals[4]?).map (·.type) = some 195 := by kernel_rfl
theorem cArr : Tryz.prog.cellsOf 195 = 20 := by kernel_rfl
theorem cElt : Tryz.prog.cellsOf 89 = 1 := by kernel_rfl
theorem tabs {W : World} (h : laidMetH Tryz.prog Rows.jsonDeepRow.laid W) : Js.JTabs W := by
  have h2 := plainLaid h (by kernel_rfl)
  exact ⟨tabsOf h2 (.tail _ (.tail _ (.tail _ (.tail _ (.tail _ (.head _)))))) (.tail _ (.tail _ (.tail _ (.head _)))) (.tail _ (.tail _ (.tail _ (.tail _ (.head _))))),
    Lib.tabIs_of_head (name := "internal/strconv.uint64pow10") (k := .u64) (zs := Lib.pow10Tab) (g := 4) (t := 195) (e := 89) (n := 20) gPow10 gPow Tryz.underlying195 Tryz.underlying89 cElt cArr (laidMet.tail (laidMet.tail h2))⟩
noncomputable def laidWorld (os : Os) : World := World.laidAll Tryz.prog os Rows.jsonDeepRow.laid
theorem met (os : Os) (args : Array Value) : laidMet Tryz.prog Rows.jsonDeepRow.laid ((laidWorld os).forCall (fun _ _ => 0) ⟨#[], args, []⟩).memory :=
  laidMet_laidAll _ (by kernel_rfl) (by kernel_rfl)
theorem shaped (os : Os) (args : Array Value) : ((laidWorld os).forCall (fun _ _ => 0) ⟨#[], args, []⟩).Shaped Tryz.checked.prog := World.shaped_of_ZipB (by kernel_rfl) (by kernel_rfl)
theorem witness {H : Type} {enc : TypeId × Value → H} {os : Os} {f : FuncId} {fn : Func} {s : OpenSpec} {conds : List PathCond} {apart : Bool} {laid : List (String × DataW Unit)} (modest : Bool) (args : Array Value)
    (hok : Input.okWideB Tryz.checked.prog ((laidWorld os).forCall (fun _ _ => 0) ⟨#[], args, []⟩) f ⟨#[], args, []⟩ = true)
    (hrow : s.preRow enc Tryz.checked.prog fn conds apart laid ((laidWorld os).forCall (fun _ _ => 0) ⟨#[], args, []⟩).memory args) :
    ∃ (w : World) (tape : Tape) (i : Input), w.os = os ∧ (w.forCall tape i).Shaped Tryz.checked.prog ∧ i.vars = [] ∧ Input.okWide Tryz.checked.prog (w.forCall tape i) .any w.heap.size f i ∧
      s.preRow enc Tryz.checked.prog fn conds apart laid (w.forCall tape i).memory i.args ∧ ({ modest := modest } : Assume).holds Tryz.checked.prog (lone (Go.Frame.enter Tryz.checked.prog f i.args .normal) [] (w.forCall tape i)) :=
  ⟨laidWorld os, fun _ _ => 0, ⟨#[], args, []⟩, World.laidAll_os _ _ _, shaped os args, (Input.okWide_of_okWideB (base := 0) hok).1, (Input.okWide_of_okWideB hok).2, hrow, by
    simp only [Assume.holds]
    exact ⟨by simp, by simp, fun _ => Modest.zero, by simp, by simp⟩⟩
end Frame
end Go.Proofs.YtapcpndplnkfjaaGreatDoor
namespace Go.Proofs.YtapcpndplnkfjaaGreatDoor
open Go.RowKit Go.Proofs.YtapcpndplnkfjaaGreatDoorW.PrintWords Go.Proofs.YtapcpndplnkfjaaGreatDoorW.PrintLast Go.Proofs.YtapcpndplnkfjaaGreatDoorW.PrintMore
set_option linter.unusedVariables false
set_option linter.unusedSimpArgs false
namespace Js
theorem fail_e {a : S} (h : a.e ≠ 0) (x : Int) : (a.fail x).e = a.e := by unfold S.fail; simp [h]
theorem fail_e0 {a : S} (h : a.e = 0) (x : Int) : (a.fail x).e = x := by unfold S.fail; simp [h]
theorem take_e (a : S) (p : List UInt8) : (a.take p).e = a.e := by unfold S.take; split <;> rfl
theorem took_bad {a : S} (h : a.e ≠ 0) (p : List UInt8) : a.took p = false := by unfold S.took; simp [h]
theorem take_no {a : S} {p : List UInt8} (h : a.took p = false) : a.take p = a.skip := by unfold S.take; simp [h]
theorem take_yes {a : S} {p : List UInt8} (h : a.took p = true) : a.take p = ⟨Lib.trimPrefix a.skip.s p, a.o, a.e⟩ := by unfold S.take; rw [if_pos h]; rfl
theorem need_e {a : S} (h : a.e ≠ 0) (p : List UInt8) : (a.need p).e = a.e := by
  unfold S.need
  split
  · exact take_e a p
  · exact (fail_e (by rw [take_e]; exact h) 11).trans (take_e a p)
theorem st_bad {a : S} (h : a.e ≠ 0) : a.st = ([], a.tl) := by
  unfold S.st S.str
  rw [strLoop, if_pos (show a.tl.e ≠ 0 from h)]
def gv : Nat → S → S28 × S
  | 0, a => (z28, if a.e = 0 then a.skip.fail 11 else a.skip)
  | n + 1, a => S.value textV (S.arr (gv n)) (S.obj (gv n)) a
theorem gv_bad {a : S} (h : a.e ≠ 0) : ∀ n, gv n a = (z28, a.skip)
  | 0 => by unfold gv; rw [if_neg h]
  | n + 1 => by
    show S.value _ _ _ a = _
    unfold S.value S.value1
    rw [if_pos (show a.skip.e ≠ 0 from h)]
theorem keeps_gv : ∀ n a, Keeps a (gv n a).2
  | 0, a => by
    unfold gv
    split
    · exact (keeps_skip a).trans (keeps_fail _ 11 (by decide))
    · exact keeps_skip a
  | n + 1, a => keeps_value (ft := textV) (fa := S.arr (gv n)) (fo := S.obj (gv n)) (fun a => keeps_st a) (fun a => keeps_list (st := arrT (gv n)) (fun x a => keeps_gv n a) [93] [] a) (fun a => keeps_list (st := objT (gv n)) (fun x a => by
      unfold objT
      split
      · exact (keeps_skip a).trans (keeps_fail _ 11 (by decide))
      · exact (keeps_objA _ a).trans (keeps_gv n _)) [125] ([], []) a) a
theorem loop_congr {σ : Type} {st st' : σ → S → σ × S} {P : S → Prop} (hP : ∀ x a, P a → st x a = st' x a) (hn : ∀ x a, P a → P (st x a).2) (ht : ∀ a p, P a → P (a.take p)) :
    ∀ n x a, P a → listLoop st n x a = listLoop st' n x a
  | 0, x, a, h => rfl
  | n + 1, x, a, h => by
    unfold listLoop
    split
    · have h1 := ht a [44] h
      rw [← hP x _ h1]
      exact loop_congr hP hn ht n _ _ (hn x _ h1)
    · rfl
theorem list_congr {σ : Type} {st st' : σ → S → σ × S} {P : S → Prop} (hP : ∀ x a, P a → st x a = st' x a) (hn : ∀ x a, P a → P (st x a).2) (ht : ∀ a p, P a → P (a.take p)) (p : List UInt8) (x : σ) (a : S) (h : P a.enter) :
    listF st p x a = listF st' p x a := by
  unfold listF
  split
  · rfl
  · have h1 := ht a.enter p h
    rw [← hP x _ h1]
    simp only []
    rw [loop_congr hP hn ht _ _ _ (hn x _ h1)]
theorem gv_eq : ∀ n a, Qn n a → fvN n a = gv n a
  | 0, a, h => by unfold gv fvN; rw [if_neg (h.2.2.1 rfl)]
  | n + 1, a, h => by
    have hs : Qn n a.skip.enter := (h.keeps (keeps_skip a)).enter
    have ha : S.arr (fvN n) a.skip = S.arr (gv n) a.skip := by
      unfold S.arr
      rw [list_congr (st' := arrT (gv n)) (P := Qn n) (fun x b hb => by unfold arrT; rw [gv_eq n b hb]) (fun x b hb => hb.keeps (keeps_fv n b)) (fun b p hb => hb.keeps (keeps_take b p)) [93] [] a.skip hs]
    have ho : S.obj (fvN n) a.skip = S.obj (gv n) a.skip := by
      unfold S.obj
      rw [list_congr (st' := objT (gv n)) (P := Qn n) (fun x b hb => by unfold objT; rw [gv_eq n _ (hb.keeps (keeps_objA x.2 b))]) (fun x b hb => by
        unfold objT
        split
        · exact hb.keeps ((keeps_skip b).trans (keeps_fail _ 11 (by decide)))
        · exact (hb.keeps (keeps_objA _ b)).keeps (keeps_fv n _)) (fun b p hb => hb.keeps (keeps_take b p)) [125] ([], []) a.skip hs]
    show S.value _ _ _ a = S.value _ _ _ a
    unfold S.value S.value1
    rw [ha, ho]
theorem numS_e {a : S} (h : a.e ≠ 0) : a.numS.e = a.e := by
  unfold S.numS
  simp only []
  split
  · rfl
  · exact fail_e h _
theorem twice_e {a : S} (h : a.e ≠ 0) (b : Bool) : (a.twice b).e = a.e := by
  unfold S.twice; split
  · exact fail_e h _
  · rfl
theorem objA_e {a : S} (h : a.e ≠ 0) (ns : List ByteArray) : (objA ns a).e = a.e := by
  unfold objA
  have h1 : a.skip.st.2 = a.skip.tl := by rw [st_bad (show a.skip.e ≠ 0 from h)]
  have h2 : a.skip.st.2.e = a.e := by rw [h1]; rfl
  have h3 : (S.twice a.skip.st.2 (has ns (objN a))).e = a.e := (twice_e (by rw [h2]; exact h) _).trans h2
  exact (need_e (by rw [h3]; exact h) _).trans h3
theorem objT_e {a : S} (h : a.e ≠ 0) (n : Nat) (p : List S28 × List ByteArray) : (objT (gv n) p a).2.e = a.e := by
  unfold objT
  split
  · exact fail_e (a := a.skip) h _
  · have h1 := objA_e h p.2
    rw [gv_bad (by rw [h1]; exact h)]
    exact h1
theorem arrT_e {a : S} (h : a.e ≠ 0) (n : Nat) (p : List S28) : (arrT (gv n) p a).2.e = a.e := by
  unfold arrT
  rw [gv_bad h]; rfl
theorem loop_bad {σ : Type} (st : σ → S → σ × S) {a : S} (h : a.e ≠ 0) : ∀ n x, (listLoop st n x a).2.e = a.e
  | 0, x => rfl
  | n + 1, x => by
    unfold listLoop
    rw [took_bad h]
    exact take_e a _
def listG {σ : Type} (st : σ → S → σ × S) (p : List UInt8) (x : σ) (a : S) : σ × S :=
  if a.took p = true then (x, (a.take p).left) else
  ((listLoop st ((st x (a.take p)).2.s.length + 1) (st x (a.take p)).1 (st x (a.take p)).2).1, ((listLoop st ((st x (a.take p)).2.s.length + 1) (st x (a.take p)).1 (st x (a.take p)).2).2.need p).left)
theorem listF_G {σ : Type} (st : σ → S → σ × S) (p : List UInt8) (x : σ) (a : S) : listF st p x a = listG st p x a.enter := rfl
theorem listG_e {σ : Type} {st : σ → S → σ × S} (hst : ∀ x a, a.e ≠ 0 → (st x a).2.e = a.e) (p : List UInt8) (x : σ) {a : S} (h : a.e ≠ 0) : (listG st p x a).2.e = a.e := by
  unfold listG
  rw [took_bad h]
  have h1 : (a.take p).e ≠ 0 := by rw [take_e]; exact h
  have h2 := hst x _ h1
  have h3 := loop_bad st (by rw [h2]; exact h1) ((st x (a.take p)).2.s.length + 1) (st x (a.take p)).1
  have h4 := need_e (by rw [h3, h2]; exact h1) p
  show ((listLoop st _ _ _).2.need p).e = a.e
  rw [h4, h3, h2, take_e]
def stop (t : List UInt8) : Prop := ∀ c ∈ t.head?, [32, 9, 10, 13, 44, 93, 125].contains c = true
def Ext (t : List UInt8) (a b : S) : Prop := (a.e ≠ 0 ∧ a.e ≠ 35) ∨ (a.e = 35 ∧ b.e = 35) ∨ (a.e = 0 ∧ b = ⟨a.s ++ t, a.o, 0⟩)
def Dry (a : S) : Prop := a.e = 0 ∧ a.skip.s = []
def Ext' (t : List UInt8) (a b : S) : Prop := Ext t a b ∨ Dry a
def ExtV {σ : Type} (t : List UInt8) (p q : σ × S) : Prop := Ext t p.2 q.2 ∧ (p.2.e = 0 → q.1 = p.1)
theorem Ext.bad {t : List UInt8} {a b : S} (h1 : a.e ≠ 0) (h2 : a.e ≠ 35) : Ext t a b := .inl ⟨h1, h2⟩
theorem Ext.ok (t s : List UInt8) (o : Int) : Ext t ⟨s, o, 0⟩ ⟨s ++ t, o, 0⟩ := .inr (.inr ⟨rfl, rfl⟩)
theorem Ext.fail0 (t s : List UInt8) (o x : Int) (hx : x ≠ 0) (b : S) (hb : b.e = 0) : Ext t (S.fail ⟨s, o, 0⟩ x) (b.fail x) := by
  by_cases h : x = 35
  · subst h; exact .inr (.inl ⟨rfl, fail_e0 hb _⟩)
  · exact .inl ⟨hx, h⟩
theorem Ext.fail {t : List UInt8} {a b : S} (h : Ext t a b) (x : Int) (hx : x ≠ 0) : Ext t (a.fail x) (b.fail x) := by
  rcases h with h | h | h
  · have := fail_e h.1 x; exact .inl (by rw [this]; exact h)
  · have h1 := fail_e (a := a) (by rw [h.1]; decide) x
    have h2 := fail_e (a := b) (by rw [h.2]; decide) x
    exact .inr (.inl ⟨h1.trans h.1, h2.trans h.2⟩)
  · obtain ⟨s, o, e⟩ := a
    obtain ⟨h1, h2⟩ := h
    simp only at h1; subst h1
    exact Ext.fail0 t s o x hx b (by rw [h2])
theorem trim_app (s t cs : List UInt8) (h : Lib.trimLeftS s cs ≠ []) : Lib.trimLeftS (s ++ t) cs = Lib.trimLeftS s cs ++ t := by
  unfold Lib.trimLeftS at *
  rw [List.dropWhile_append]
  rw [if_neg (by simpa using h)]
theorem trim_app2 (s t cs : List UInt8) (h : ∀ c ∈ t.head?, cs.contains c = false) : Lib.trimLeftS (s ++ t) cs = Lib.trimLeftS s cs ++ t := by
  unfold Lib.trimLeftS at *
  rw [List.dropWhile_append]
  split
  · rename_i h1
    have : List.dropWhile (fun x => cs.contains x) s = [] := by simpa using h1
    rw [this, List.nil_append]
    cases t with
    | nil => rfl
    | cons c l => rw [List.dropWhile_cons, h c (by simp)]; rfl
  · rfl
theorem pref_app {s p : List UInt8} (t : List UInt8) (h : Lib.hasPrefix s p = true) : Lib.hasPrefix (s ++ t) p = true := by
  unfold Lib.hasPrefix at *
  rw [List.isPrefixOf_iff_prefix] at *
  exact h.trans (List.prefix_append _ _)
theorem pref_one (c d : UInt8) (l : List UInt8) : Lib.hasPrefix (c :: l) [d] = (d == c) := by
  unfold Lib.hasPrefix; simp [List.isPrefixOf]
theorem trimP_app {s p : List UInt8} (t : List UInt8) (h : Lib.hasPrefix s p = true) : Lib.trimPrefix (s ++ t) p = Lib.trimPrefix s p ++ t := by
  unfold Lib.trimPrefix
  rw [if_pos h, if_pos (pref_app t h)]
  unfold Lib.hasPrefix at h
  rw [List.isPrefixOf_iff_prefix] at h
  exact List.drop_append_of_le_length h.length_le
theorem Ext'.cases {t : List UInt8} {a b : S} (h : Ext' t a b) : (a.e ≠ 0 ∧ a.e ≠ 35) ∨ (a.e = 35 ∧ b.e = 35) ∨ (a.e = 0 ∧ a.skip.s = []) ∨
    ∃ c l, a.e = 0 ∧ b.e = 0 ∧ b.o = a.o ∧ a.skip = ⟨c :: l, a.o, 0⟩ ∧ b.skip = ⟨c :: (l ++ t), a.o, 0⟩ := by
  rcases h with (h | h | h) | h
  · exact .inl h
  · exact .inr (.inl h)
  · by_cases h0 : a.skip.s = []
    · exact .inr (.inr (.inl ⟨h.1, h0⟩))
    · refine .inr (.inr (.inr ?_))
      obtain ⟨s, o, e⟩ := a
      obtain ⟨h1, h2⟩ := h
      simp only at h1; subst h1
      have h3 : Lib.trimLeftS s [32, 9, 10, 13] ≠ [] := h0
      have h4 := trim_app s t [32, 9, 10, 13] h3
      obtain ⟨c, l, hc⟩ : ∃ c l, Lib.trimLeftS s [32, 9, 10, 13] = c :: l := List.exists_cons_of_ne_nil h3
      refine ⟨c, l, rfl, by rw [h2], by rw [h2], ?_, ?_⟩
      · show S.mk _ _ _ = _; rw [hc]
      · rw [h2]; show S.mk (Lib.trimLeftS (s ++ t) _) o 0 = _; rw [h4, hc]; rfl
  · exact .inr (.inr (.inl h))
theorem dry_took {a : S} (h : a.skip.s = []) (p : List UInt8) (hp : p ≠ []) : a.took p = false := by
  unfold S.took
  rw [h]
  cases p with
  | nil => exact absurd rfl hp
  | cons c l => rfl
theorem dry_need {a : S} (he : a.e = 0) (h : a.skip.s = []) (p : List UInt8) (hp : p ≠ []) : (a.need p).e = 11 := by
  unfold S.need
  rw [dry_took h p hp, if_neg (by decide)]
  exact fail_e0 (by rw [take_e]; exact he) _
theorem Ext'.need {t : List UInt8} {a b : S} (h : Ext' t a b) (p : List UInt8) (hp : p ≠ []) : Ext t (a.need p) (b.need p) := by
  rcases h.cases with h | h | h | ⟨c, l, h1, h2, h3, h4, h5⟩
  · have := need_e h.1 p; exact .inl (by rw [this]; exact h)
  · have h1 := need_e (a := a) (by rw [h.1]; decide) p
    have h2 := need_e (a := b) (by rw [h.2]; decide) p
    exact .inr (.inl ⟨h1.trans h.1, h2.trans h.2⟩)
  · exact .inl (by rw [dry_need h.1 h.2 p hp]; decide)
  · cases ht : a.took p with
    | false =>
      refine .inl ?_
      have : (a.need p).e = 11 := by
        unfold S.need; rw [ht, if_neg (by decide)]; exact fail_e0 (by rw [take_e]; exact h1) _
      rw [this]; decide
    | true =>
      have hp1 : Lib.hasPrefix (c :: l) p = true := by unfold S.took at ht; rw [h4] at ht; simp at ht; exact ht.1
      have hb : b.took p = true := by
        unfold S.took; rw [h5, h2]
        have := pref_app t hp1
        simp only [List.cons_append] at this
        simp [this]
      unfold S.need
      rw [if_pos ht, if_pos hb, take_yes ht, take_yes hb, h4, h5, h1, h2, h3]
      have := trimP_app t hp1
      simp only [List.cons_append] at this
      refine .inr (.inr ⟨rfl, ?_⟩)
      show S.mk _ _ _ = _
      rw [this]
theorem took_one {a b : S} {t l : List UInt8} {c : UInt8} (h1 : a.e = 0) (h2 : b.e = 0) (h3 : b.o = a.o) (h4 : a.skip = ⟨c :: l, a.o, 0⟩) (h5 : b.skip = ⟨c :: (l ++ t), a.o, 0⟩) (d : UInt8) :
    (a.took [d] = (d == c) ∧ b.took [d] = (d == c)) ∧ (d = c → a.take [d] = ⟨l, a.o, 0⟩ ∧ b.take [d] = ⟨l ++ t, a.o, 0⟩) ∧ (d ≠ c → a.take [d] = ⟨c :: l, a.o, 0⟩ ∧ b.take [d] = ⟨c :: (l ++ t), a.o, 0⟩) := by
  have k1 : a.took [d] = (d == c) := by unfold S.took; rw [h4, h1, pref_one]; simp
  have k2 : b.took [d] = (d == c) := by unfold S.took; rw [h5, h2, pref_one]; simp
  refine ⟨⟨k1, k2⟩, fun e => ?_, fun e => ?_⟩
  · subst e
    have q : Lib.hasPrefix (d :: l) [d] = true := by rw [pref_one]; simp
    have q2 : Lib.hasPrefix (d :: (l ++ t)) [d] = true := by rw [pref_one]; simp
    rw [take_yes (by rw [k1]; simp), take_yes (by rw [k2]; simp), h4, h5, h1, h2, h3]
    unfold Lib.trimPrefix
    rw [if_pos q, if_pos q2]
    exact ⟨rfl, rfl⟩
  · rw [take_no (by rw [k1]; simpa using e), take_no (by rw [k2]; simpa using e), h4, h5]
    exact ⟨rfl, rfl⟩
end Js
end Go.Proofs.YtapcpndplnkfjaaGreatDoor
namespace Go.Proofs.YtapcpndplnkfjaaGreatDoor
open Go.RowKit Go.Proofs.YtapcpndplnkfjaaGreatDoorW.PrintWords Go.Proofs.YtapcpndplnkfjaaGreatDoorW.PrintLast Go.Proofs.YtapcpndplnkfjaaGreatDoorW.PrintMore
set_option linter.unusedVariables false
set_option linter.unusedSimpArgs false
namespace Js
theorem decN_more (n n' b0 b1 b2 b3 c1 c2 c3 : Nat) (hnn : n ≤ n') (h1 : 1 < n → c1 = b1) (h2 : 2 < n → c2 = b2) (h3 : 3 < n → c3 = b3)
    (hw : ¬ ((Lib.decodeN n b0 b1 b2 b3).1 = 65533 ∧ (Lib.decodeN n b0 b1 b2 b3).2 = 1)) : Lib.decodeN n' b0 c1 c2 c3 = Lib.decodeN n b0 b1 b2 b3 := by
  have e2 : ∀ (k m : Nat) (x y : Nat), n ≤ n' → (k < n → y = x) → (k < n ∧ x / 64 = m) → (k < n' ∧ y / 64 = m) := fun k m x y hn hy h => ⟨by omega, by rw [hy h.1]; exact h.2⟩
  unfold Lib.decodeN at hw ⊢
  by_cases g0 : b0 < 128
  · rw [if_pos g0, if_pos g0]
  rw [if_neg g0] at hw ⊢
  rw [if_neg g0]
  by_cases g1 : b0 / 32 = 6 ∧ (1 < n ∧ b1 / 64 = 2)
  · have := h1 g1.2.1
    subst this
    rw [if_pos g1, if_pos ⟨g1.1, by omega, g1.2.2⟩]
  rw [if_neg g1] at hw ⊢
  by_cases g2 : b0 / 16 = 14 ∧ (1 < n ∧ b1 / 64 = 2) ∧ (2 < n ∧ b2 / 64 = 2)
  · have k1 := h1 g2.2.1.1
    have k2 := h2 g2.2.2.1
    subst k1 k2
    rw [if_neg (by omega), if_pos ⟨g2.1, ⟨by omega, g2.2.1.2⟩, ⟨by omega, g2.2.2.2⟩⟩, if_pos g2]
  rw [if_neg g2] at hw ⊢
  by_cases g3 : b0 / 8 = 30 ∧ (1 < n ∧ b1 / 64 = 2) ∧ (2 < n ∧ b2 / 64 = 2) ∧ (3 < n ∧ b3 / 64 = 2)
  · have k1 := h1 g3.2.1.1
    have k2 := h2 g3.2.2.1.1
    have k3 := h3 g3.2.2.2.1
    subst k1 k2 k3
    rw [if_neg (by omega), if_neg (by omega), if_pos ⟨g3.1, ⟨by omega, g3.2.1.2⟩, ⟨by omega, g3.2.2.1.2⟩, ⟨by omega, g3.2.2.2.2⟩⟩, if_pos g3]
  rw [if_neg g3] at hw
  exact absurd ⟨rfl, rfl⟩ hw
theorem getD_app (s t : List UInt8) (k : Nat) (h : k < s.length) : (s ++ t).getD k 0 = s.getD k 0 := by
  simp [List.getD, List.getElem?_append_left h]
theorem dec_more (s t : List UInt8) (k : Nat) (hk : k < s.length) (hw : ¬ ((Utf8.decode (ofL s) k).1 = 65533 ∧ (Utf8.decode (ofL s) k).2 = 1)) :
    Utf8.decode (ofL (s ++ t)) k = Utf8.decode (ofL s) k := by
  rw [Lib.decode_N] at hw
  rw [Lib.decode_N, Lib.decode_N]
  rw [ofL_data] at hw
  rw [ofL_data, ofL_data, getD_app s t k hk]
  refine decN_more _ _ _ _ _ _ _ _ _ (by simp; omega) (fun h => ?_) (fun h => ?_) (fun h => ?_) hw
  · rw [getD_app s t _ (by omega)]
  · rw [getD_app s t _ (by omega)]
  · rw [getD_app s t _ (by omega)]
theorem plainF_app (s t : List UInt8) : ∀ n m k, s.length < n + k → s.length + t.length < m + k → 1 ≤ n → 1 ≤ m → (plainF (ofL s) n k).2 = true →
    plainF (ofL (s ++ t)) m k = plainF (ofL s) n k
  | 0, _, _, _, _, h, _, _ => absurd h (by decide)
  | _, 0, _, _, _, _, h, _ => absurd h (by decide)
  | n + 1, m + 1, k, hn, hm, _, _, h => by
    rw [plainF] at h ⊢
    rw [plainF]
    rw [ofL_size] at h ⊢
    rw [ofL_size]
    by_cases hk : k < s.length
    · rw [if_pos hk] at h ⊢
      rw [if_pos (by simp; omega)]
      have hg : (Lib.decodeGo ((ofL s).extract k s.length)).2 = (Utf8.decode (ofL s) k).2 := by
        have := Lib.decodeGo_extract (ofL s) k (by rw [ofL_size]; exact hk)
        rw [ofL_size] at this
        rw [this]
      have hadv := decode_adv (ofL s) k
      by_cases hbad : (Utf8.decode (ofL s) k).1 = 65533 ∧ (Utf8.decode (ofL s) k).2 = 1
      · rw [if_neg (by omega), if_neg (by omega), if_pos ⟨hbad.1, by rw [hg, hbad.2]; decide⟩] at h
        cases h
      · have hd := dec_more s t k hk hbad
        rw [hd]
        have hg2 : (Lib.decodeGo ((ofL (s ++ t)).extract k (s ++ t).length)).2 = (Utf8.decode (ofL s) k).2 := by
          have := Lib.decodeGo_extract (ofL (s ++ t)) k (by rw [ofL_size]; simp; omega)
          rw [ofL_size] at this
          rw [this, hd]
        rw [hg2, hg]
        split
        · rfl
        split
        · rfl
        split
        · rfl
        · rename_i h1 h2 h3
          rw [if_neg h1, if_neg h2, if_neg (by rw [hg]; exact h3)] at h
          refine plainF_app s t n m _ (by omega) (by omega) ?_ ?_ h
          · cases n with
            | zero => exact absurd h (by simp [plainF])
            | succ n => omega
          · by_cases hm0 : 1 ≤ m
            · exact hm0
            · exfalso
              omega
    · rw [if_neg hk] at h
      cases h
theorem plain_app (s t : List UInt8) (o e o' e' : Int) (h : (S.plain ⟨s, o, e⟩).2 = true) : S.plain ⟨s ++ t, o', e'⟩ = S.plain ⟨s, o, e⟩ := by
  unfold S.plain at *
  exact plainF_app s t _ _ 0 (by rw [ofL_size]; show s.length < s.length + 1 + 0; omega) (by rw [ofL_size]; show s.length + t.length < (s ++ t).length + 1 + 0; simp) (by omega) (by omega) h
theorem four_ext (t s : List UInt8) (o : Int) : ExtV t (S.four ⟨s, o, 0⟩) (S.four ⟨s ++ t, o, 0⟩) := by
  unfold S.four
  by_cases h : s.length < 4
  · rw [if_pos h]
    exact ⟨.inl ⟨by show (11 : Int) ≠ 0; decide, by show (11 : Int) ≠ 35; decide⟩, fun e => absurd e (by show (11 : Int) ≠ 0; decide)⟩
  · rw [if_neg h, if_neg (by simp; omega)]
    have hl : S.low ⟨s ++ t, o, 0⟩ = S.low ⟨s, o, 0⟩ := by
      unfold S.low
      rw [List.take_append_of_le_length (by omega)]
    rw [hl]
    cases fourLoop (S.low ⟨s, o, 0⟩) ((S.low ⟨s, o, 0⟩).size + 1) 0 0 with
    | none => exact ⟨.inl ⟨by show (11 : Int) ≠ 0; decide, by show (11 : Int) ≠ 35; decide⟩, fun _ => rfl⟩
    | some x =>
      refine ⟨.inr (.inr ⟨rfl, ?_⟩), fun _ => rfl⟩
      show S.mk ((s ++ t).drop 4) o 0 = S.mk (s.drop 4 ++ t) o 0
      rw [List.drop_append_of_le_length (by omega)]
theorem four_e (a : S) : a.e ≠ 0 → (a.four).2.e = a.e := by
  intro h
  unfold S.four
  split
  · exact fail_e h _
  · unfold fourV; split
    · exact fail_e h _
    · rfl
theorem ExtV.cases {σ : Type} {t : List UInt8} {p q : σ × S} (h : ExtV t p q) : (p.2.e ≠ 0 ∧ p.2.e ≠ 35) ∨ (p.2.e = 35 ∧ q.2.e = 35) ∨
    ∃ x s o, p = (x, ⟨s, o, 0⟩) ∧ q = (x, ⟨s ++ t, o, 0⟩) := by
  obtain ⟨x, s, o, e⟩ := p
  obtain ⟨y, b⟩ := q
  obtain ⟨h, hv⟩ := h
  rcases h with h | h | h
  · exact .inl h
  · exact .inr (.inl h)
  · obtain ⟨h1, h2⟩ := h
    simp only at h1 h2 hv
    subst h1 h2
    exact .inr (.inr ⟨x, s, o, rfl, by rw [hv rfl]⟩)
theorem sign_ext (t s : List UInt8) (o : Int) : ExtV t (S.sign ⟨s, o, 0⟩) (S.sign ⟨s ++ t, o, 0⟩) := by
  rcases (four_ext t s o).cases with h | h | ⟨x, s1, o1, hx, hy⟩
  · have he := four_e (S.four ⟨s, o, 0⟩).2
    have hb : (S.sign ⟨s, o, 0⟩).2.e = (S.four ⟨s, o, 0⟩).2.e := by
      unfold S.sign
      split
      · rfl
      split
      · exact fail_e h.1 _
      · have hp : (S.four ⟨s, o, 0⟩).2.pre.e = (S.four ⟨s, o, 0⟩).2.e := rfl
        have h5 := four_e (S.four ⟨s, o, 0⟩).2.pre (by rw [hp]; exact h.1)
        unfold S.sgn
        simp only []
        split
        · exact (fail_e (by rw [h5, hp]; exact h.1) _).trans (h5.trans hp)
        · exact h5.trans hp
    exact ⟨.inl (by rw [hb]; exact h), fun e => absurd e (by rw [hb]; exact h.1)⟩
  · exfalso
    have : ∀ (a : S), a.e = 0 → (S.four a).2.e = 0 ∨ (S.four a).2.e = 11 := fun a ha => by
      unfold S.four
      split
      · exact .inr (fail_e0 ha _)
      · unfold fourV; split
        · exact .inr (fail_e0 ha _)
        · exact .inl ha
    rcases this ⟨s, o, 0⟩ rfl with k | k <;> rw [k] at h <;> exact absurd h.1 (by decide)
  · unfold S.sign
    rw [hx, hy]
    simp only []
    split
    · exact ⟨Ext.ok _ _ _, fun _ => rfl⟩
    · by_cases hp : Lib.hasPrefix s1 [92, 117] = true
      · have hp2 := pref_app t hp
        rw [hp, hp2]
        split
        · exact ⟨.inl ⟨by show (11 : Int) ≠ 0; decide, by show (11 : Int) ≠ 35; decide⟩, fun e => absurd e (by show (11 : Int) ≠ 0; decide)⟩
        · unfold S.sgn
          have hpre : S.pre ⟨s1 ++ t, o1, 0⟩ = ⟨(S.pre ⟨s1, o1, 0⟩).s ++ t, o1, 0⟩ := by
            unfold S.pre; simp only []; rw [trimP_app t hp]
          rw [hpre]
          have hpre2 : S.pre ⟨s1, o1, 0⟩ = ⟨(S.pre ⟨s1, o1, 0⟩).s, o1, 0⟩ := rfl
          rw [hpre2]
          generalize (S.pre ⟨s1, o1, 0⟩).s = s2
          have hf := four_ext t s2 o1
          have hf0 := hf
          rcases hf0.cases with h | h | ⟨y, s3, o3, h6, h7⟩
          · refine ⟨.inl ?_, fun e => ?_⟩
            · simp only []
              split
              · rw [fail_e h.1]; exact h
              · exact h
            · exfalso
              simp only [] at e
              split at e
              · rw [fail_e h.1] at e; exact h.1 e
              · exact h.1 e
          · refine ⟨.inr (.inl ⟨?_, ?_⟩), fun e => ?_⟩
            · simp only []
              split
              · rw [fail_e (by rw [h.1]; decide)]; exact h.1
              · exact h.1
            · simp only []
              split
              · rw [fail_e (by rw [h.2]; decide)]; exact h.2
              · exact h.2
            · exfalso
              simp only [] at e
              split at e
              · rw [fail_e (by rw [h.1]; decide), h.1] at e; exact absurd e (by decide)
              · rw [h.1] at e; exact absurd e (by decide)
          · rw [h6, h7]
            simp only []
            refine ⟨?_, fun _ => rfl⟩
            split
            · exact Ext.fail0 t s3 o3 11 (by decide) _ rfl
            · exact Ext.ok _ _ _
      · have hp' : Lib.hasPrefix s1 [92, 117] = false := by simpa using hp
        rw [if_pos (.inr hp')]
        exact ⟨.inl ⟨by show (11 : Int) ≠ 0; decide, by show (11 : Int) ≠ 35; decide⟩, fun e => absurd e (by show (11 : Int) ≠ 0; decide)⟩
theorem esc_ext (t s : List UInt8) (o : Int) : ExtV t (S.esc ⟨s, o, 0⟩) (S.esc ⟨s ++ t, o, 0⟩) := by
  cases s with
  | nil => exact ⟨.inl ⟨by show (11 : Int) ≠ 0; decide, by show (11 : Int) ≠ 35; decide⟩, fun e => absurd e (by show (11 : Int) ≠ 0; decide)⟩
  | cons c l =>
    show ExtV t (S.escT c ⟨l, o, 0⟩) (S.escT c ⟨l ++ t, o, 0⟩)
    unfold S.escT
    split
    · exact sign_ext t l o
    split
    · exact ⟨Ext.fail0 t l o 11 (by decide) _ rfl, fun _ => rfl⟩
    · exact ⟨Ext.ok _ _ _, fun _ => rfl⟩
theorem strLoop_bad (esc : S → List UInt8 × S) (n : Nat) (out : List UInt8) {a : S} (h : a.e ≠ 0) : strLoop esc n out a = (out, a) := by
  cases n with
  | zero => rfl
  | succ n => rw [strLoop, if_pos h]
theorem strLoop_ok (esc : S → List UInt8 × S) (n : Nat) (out s : List UInt8) (o : Int) : strLoop esc (n + 1) out ⟨s, o, 0⟩ =
    if (S.plain ⟨s, o, 0⟩).2 = false then (out ++ s.take (S.plain ⟨s, o, 0⟩).1, S.fail ⟨s, o, 0⟩ 11) else
    if s.getD (S.plain ⟨s, o, 0⟩).1 0 = 34 then (out ++ s.take (S.plain ⟨s, o, 0⟩).1, S.cut ⟨s, o, 0⟩) else
    strLoop esc n (out ++ s.take (S.plain ⟨s, o, 0⟩).1 ++ (esc (S.cut ⟨s, o, 0⟩)).1) (esc (S.cut ⟨s, o, 0⟩)).2 := by
  rw [strLoop, if_neg (show ¬ (S.mk s o 0).e ≠ 0 from fun h => h rfl)]
theorem strLoop_ext (t : List UInt8) : ∀ (n m : Nat) (out s : List UInt8) (o : Int), s.length < n → s.length + t.length < m →
    ExtV t (strLoop S.esc n out ⟨s, o, 0⟩) (strLoop S.esc m out ⟨s ++ t, o, 0⟩)
  | 0, _, _, _, _, h, _ => absurd h (by omega)
  | _, 0, _, _, _, _, h => absurd h (by omega)
  | n + 1, m + 1, out, s, o, hn, hm => by
    rw [strLoop_ok, strLoop_ok]
    cases hp : (S.plain ⟨s, o, 0⟩).2 with
    | false =>
      rw [if_pos rfl]
      exact ⟨.inl ⟨by show (11 : Int) ≠ 0; decide, by show (11 : Int) ≠ 35; decide⟩, fun e => absurd e (by show (11 : Int) ≠ 0; decide)⟩
    | true =>
      have hq := plain_app s t o 0 o 0 hp
      have hlt := (plain_le ⟨s, o, 0⟩).2 hp
      have htf : ¬ (true = false) := by decide
      rw [hq, hp, if_neg htf, if_neg htf]
      have hlt' : (S.plain ⟨s, o, 0⟩).1 < s.length := hlt
      have hc : S.cut ⟨s ++ t, o, 0⟩ = ⟨(S.cut ⟨s, o, 0⟩).s ++ t, o, 0⟩ := by
        unfold S.cut
        rw [hq]
        simp only []
        rw [List.drop_append_of_le_length (by omega)]
      have hc2 : S.cut ⟨s, o, 0⟩ = ⟨(S.cut ⟨s, o, 0⟩).s, o, 0⟩ := rfl
      have hcl : (S.cut ⟨s, o, 0⟩).s.length < s.length := by unfold S.cut; simp; omega
      rw [getD_app s t _ hlt', List.take_append_of_le_length (by omega), hc]
      by_cases h34 : s.getD (S.plain ⟨s, o, 0⟩).1 0 = 34
      · rw [if_pos h34, if_pos h34, hc2]; exact ⟨Ext.ok _ _ _, fun _ => rfl⟩
      · rw [if_neg h34, if_neg h34, hc2]
        generalize (S.cut ⟨s, o, 0⟩).s = s1 at hcl
        have hl := (esc_len ⟨s1, o, 0⟩).1
        rcases (esc_ext t s1 o).cases with h | h | ⟨x, s2, o2, h6, h7⟩
        · rw [strLoop_bad _ _ _ h.1]; exact ⟨.inl h, fun e => absurd e h.1⟩
        · rw [strLoop_bad _ _ _ (by rw [h.1]; decide), strLoop_bad _ _ _ (by rw [h.2]; decide)]
          exact ⟨.inr (.inl h), fun e => absurd (h.1.symm.trans e) (by decide)⟩
        · rw [h6] at hl
          rw [h6, h7]
          have hl2 : s2.length ≤ s1.length := hl
          exact strLoop_ext t n m _ s2 o2 (by omega) (by omega)
theorem st_ext (t s : List UInt8) (o : Int) (hs : s ≠ []) : ExtV t (S.st ⟨s, o, 0⟩) (S.st ⟨s ++ t, o, 0⟩) := by
  cases s with
  | nil => exact absurd rfl hs
  | cons c l =>
    unfold S.st S.str
    show ExtV t (strLoop S.esc ((c :: l).length + 1) [] ⟨l, o, 0⟩) (strLoop S.esc ((c :: l ++ t).length + 1) [] ⟨l ++ t, o, 0⟩)
    exact strLoop_ext t _ _ _ _ _ (by simp; omega) (by simp; omega)
theorem num_ext (t s : List UInt8) (o : Int) (ht : stop t) : Ext t (S.numS ⟨s, o, 0⟩) (S.numS ⟨s ++ t, o, 0⟩) ∧ S.numV ⟨s ++ t, o, 0⟩ = S.numV ⟨s, o, 0⟩ := by
  have hR : S.numR ⟨s ++ t, o, 0⟩ = S.numR ⟨s, o, 0⟩ ++ t := by
    unfold S.numR
    refine trim_app2 _ _ _ (fun c hc => ?_)
    have := ht c hc
    simp at this ⊢
    rcases this with h | h | h | h | h | h | h <;> subst h <;> decide
  have hL : S.numL ⟨s ++ t, o, 0⟩ = S.numL ⟨s, o, 0⟩ := by
    unfold S.numL
    rw [hR]
    have : (S.numR ⟨s, o, 0⟩).length ≤ s.length := numR_le ⟨s, o, 0⟩
    simp only []
    rw [List.length_append, List.length_append, show s.length + t.length - ((S.numR ⟨s, o, 0⟩).length + t.length) = s.length - (S.numR ⟨s, o, 0⟩).length by omega, List.take_append_of_le_length (by omega)]
  refine ⟨?_, by unfold S.numV; rw [hL]⟩
  unfold S.numS
  rw [hR, hL]
  simp only []
  split
  · exact Ext.ok _ _ _
  · rename_i h
    by_cases h35 : (NumP.parse (S.numL ⟨s, o, 0⟩)).2 = 35
    · exact .inr (.inl ⟨h35, by show (S.fail ⟨s ++ t, o, 0⟩ _).e = 35; rw [fail_e0 rfl]; exact h35⟩)
    · exact .inl ⟨h, h35⟩
end Js
end Go.Proofs.YtapcpndplnkfjaaGreatDoor
namespace Go.Proofs.YtapcpndplnkfjaaGreatDoor
open Go.RowKit Go.Proofs.YtapcpndplnkfjaaGreatDoorW.PrintWords Go.Proofs.YtapcpndplnkfjaaGreatDoorW.PrintLast Go.Proofs.YtapcpndplnkfjaaGreatDoorW.PrintMore
set_option linter.unusedVariables false
set_option linter.unusedSimpArgs false
namespace Js
variable {σ : Type}
theorem ExtV.bad {t : List UInt8} {p q : σ × S} (h1 : p.2.e ≠ 0) (h2 : p.2.e ≠ 35) : ExtV t p q := ⟨.inl ⟨h1, h2⟩, fun e => absurd e h1⟩
theorem ExtV.deep {t : List UInt8} {p q : σ × S} (h1 : p.2.e = 35) (h2 : q.2.e = 35) : ExtV t p q := ⟨.inr (.inl ⟨h1, h2⟩), fun e => absurd (h1.symm.trans e) (by decide)⟩
theorem ExtV.b11 {t : List UInt8} {p q : σ × S} (h1 : p.2.e = 11) : ExtV t p q := ExtV.bad (by rw [h1]; decide) (by rw [h1]; decide)
theorem Dry.skip {a : S} (h : Dry a) : Dry a.skip := ⟨h.1, by show Lib.trimLeftS a.skip.s _ = _; rw [h.2]; rfl⟩
structure Far (t : List UInt8) (st : σ → S → σ × S) : Prop where
  e : ∀ x a, a.e ≠ 0 → (st x a).2.e = a.e
  ext : ∀ x a b, Ext' t a b → ExtV t (st x a) (st x b)
  dry : ∀ x a, Dry a → (st x a).2.e = 11
  len : ∀ x a, (st x a).2.s.length ≤ a.s.length
theorem ExtV.look {t : List UInt8} {p q : σ × S} (h : ExtV t p q) : (p.2.e ≠ 0 ∧ p.2.e ≠ 35) ∨ (p.2.e = 35 ∧ q.2.e = 35) ∨ (p.2.e = 0 ∧ q.1 = p.1 ∧ Ext t p.2 q.2) := by
  rcases h.1 with k | k | k
  · exact .inl k
  · exact .inr (.inl k)
  · exact .inr (.inr ⟨k.1, h.2 k.1, h.1⟩)
theorem loop_ext {t : List UInt8} {st : σ → S → σ × S} (hs : Far t st) : ∀ (n m : Nat) (x : σ) (a b : S), a.s.length < n → b.s.length < m → Ext t a b →
    ExtV t (listLoop st n x a) (listLoop st m x b) ∨ Dry (listLoop st n x a).2
  | 0, _, _, _, _, h, _, _ => absurd h (by omega)
  | _, 0, _, _, _, _, h, _ => absurd h (by omega)
  | n + 1, m + 1, x, a, b, hn, hm, h => by
    rcases (show Ext' t a b from .inl h).cases with h | h | h | ⟨c, l, h1, h2, h3, h4, h5⟩
    · have := loop_bad st h.1 (n + 1) x
      exact .inl (ExtV.bad (by rw [this]; exact h.1) (by rw [this]; exact h.2))
    · have k1 := loop_bad st (a := a) (by rw [h.1]; decide) (n + 1) x
      have k2 := loop_bad st (a := b) (by rw [h.2]; decide) (m + 1) x
      exact .inl (ExtV.deep (k1.trans h.1) (k2.trans h.2))
    · right
      have k := dry_took h.2 [44] (by simp)
      unfold listLoop
      rw [k, if_neg (by decide), take_no k]
      exact Dry.skip h
    · have k := took_one h1 h2 h3 h4 h5 44
      by_cases hc : 44 = c
      · have k2 := k.2.1 hc
        have t1 : a.took [44] = true := by rw [k.1.1]; simpa using hc
        have t2 : b.took [44] = true := by rw [k.1.2]; simpa using hc
        have l1 := took_lt a 44 t1
        have l2 := took_lt b 44 t2
        unfold listLoop
        rw [if_pos t1, if_pos t2]
        have he : Ext' t (a.take [44]) (b.take [44]) := .inl (by rw [k2.1, k2.2]; exact Ext.ok _ _ _)
        have e1 := hs.ext x _ _ he
        have g1 := hs.len x (a.take [44])
        have g2 := hs.len x (b.take [44])
        rcases e1.look with h | h | h
        · have := loop_bad st h.1 n (st x (a.take [44])).1
          exact .inl (ExtV.bad (by rw [this]; exact h.1) (by rw [this]; exact h.2))
        · have k1 := loop_bad st (a := (st x (a.take [44])).2) (by rw [h.1]; decide) n (st x (a.take [44])).1
          have k2 := loop_bad st (a := (st x (b.take [44])).2) (by rw [h.2]; decide) m (st x (b.take [44])).1
          exact .inl (ExtV.deep (k1.trans h.1) (k2.trans h.2))
        · rw [h.2.1]
          exact loop_ext hs n m _ _ _ (by omega) (by omega) h.2.2
      · have k2 := k.2.2 hc
        have t1 : a.took [44] = false := by rw [k.1.1]; simpa using hc
        have t2 : b.took [44] = false := by rw [k.1.2]; simpa using hc
        unfold listLoop
        rw [t1, t2, if_neg (by decide), if_neg (by decide)]
        left
        rw [k2.1, k2.2]
        exact ⟨Ext.ok _ _ _, fun _ => rfl⟩
theorem Ext.left {t : List UInt8} {a b : S} (h : Ext t a b) : Ext t a.left b.left := by
  rcases h with h | h | h
  · exact .inl h
  · exact .inr (.inl h)
  · exact .inr (.inr ⟨h.1, by rw [h.2]; rfl⟩)
theorem tail_ext {t : List UInt8} {st : σ → S → σ × S} (hs : Far t st) (c : UInt8) (x : σ) {a b : S} (h : Ext t a b) :
    ExtV t ((listLoop st (a.s.length + 1) x a).1, ((listLoop st (a.s.length + 1) x a).2.need [c]).left) ((listLoop st (b.s.length + 1) x b).1, ((listLoop st (b.s.length + 1) x b).2.need [c]).left) := by
  have hk : ∀ d : S, (d.need [c]).left.e = 0 → d.e = 0 := fun d hd => by
    by_cases h0 : d.e = 0
    · exact h0
    · have := need_e h0 [c]
      exact absurd (this.symm.trans hd) h0
  rcases loop_ext hs (a.s.length + 1) (b.s.length + 1) x a b (by omega) (by omega) h with h | h
  · refine ⟨(Ext'.need (.inl h.1) [c] (by simp)).left, fun e => h.2 (hk _ e)⟩
  · exact ExtV.b11 (dry_need h.1 h.2 [c] (by simp))
theorem listG_ext {t : List UInt8} {st : σ → S → σ × S} (hs : Far t st) (d : UInt8) (x : σ) {a b : S} (h : Ext' t a b) : ExtV t (listG st [d] x a) (listG st [d] x b) := by
  rcases h.cases with h | h | h | ⟨c, l, h1, h2, h3, h4, h5⟩
  · have := listG_e hs.e [d] x h.1
    exact ExtV.bad (by rw [this]; exact h.1) (by rw [this]; exact h.2)
  · have k1 := listG_e hs.e [d] x (a := a) (by rw [h.1]; decide)
    have k2 := listG_e hs.e [d] x (a := b) (by rw [h.2]; decide)
    exact ExtV.deep (k1.trans h.1) (k2.trans h.2)
  · refine ExtV.b11 ?_
    have k := dry_took h.2 [d] (by simp)
    have k0 : Dry (a.take [d]) := by rw [take_no k]; exact Dry.skip h
    have k1 := hs.dry x _ k0
    have k2 := loop_bad st (a := (st x (a.take [d])).2) (by rw [k1]; decide) ((st x (a.take [d])).2.s.length + 1) (st x (a.take [d])).1
    have k3 := need_e (a := (listLoop st ((st x (a.take [d])).2.s.length + 1) (st x (a.take [d])).1 (st x (a.take [d])).2).2) (by rw [k2, k1]; decide) [d]
    unfold listG
    rw [k, if_neg (by decide)]
    exact k3.trans (k2.trans k1)
  · have k := took_one h1 h2 h3 h4 h5 d
    by_cases hc : d = c
    · have k2 := k.2.1 hc
      have t1 : a.took [d] = true := by rw [k.1.1]; simpa using hc
      have t2 : b.took [d] = true := by rw [k.1.2]; simpa using hc
      unfold listG
      rw [if_pos t1, if_pos t2, k2.1, k2.2]
      exact ⟨(Ext.ok _ _ _).left, fun _ => rfl⟩
    · have k2 := k.2.2 hc
      have t1 : a.took [d] = false := by rw [k.1.1]; simpa using hc
      have t2 : b.took [d] = false := by rw [k.1.2]; simpa using hc
      unfold listG
      rw [t1, t2, if_neg (by decide), if_neg (by decide), k2.1, k2.2]
      have e1 := hs.ext x _ _ (.inl (Ext.ok t (c :: l) a.o))
      simp only [List.cons_append] at e1
      rcases e1.look with h | h | h
      · have q2 := loop_bad st h.1 ((st x ⟨c :: l, a.o, 0⟩).2.s.length + 1) (st x ⟨c :: l, a.o, 0⟩).1
        have q3 := need_e (by rw [q2]; exact h.1) [d]
        exact ExtV.bad (by show (S.need _ _).e ≠ 0; rw [q3, q2]; exact h.1) (by show (S.need _ _).e ≠ 35; rw [q3, q2]; exact h.2)
      · have q2 := loop_bad st (a := (st x ⟨c :: l, a.o, 0⟩).2) (by rw [h.1]; decide) ((st x ⟨c :: l, a.o, 0⟩).2.s.length + 1) (st x ⟨c :: l, a.o, 0⟩).1
        have q3 := need_e (by rw [q2, h.1]; decide) [d]
        have r2 := loop_bad st (a := (st x ⟨c :: (l ++ t), a.o, 0⟩).2) (by rw [h.2]; decide) ((st x ⟨c :: (l ++ t), a.o, 0⟩).2.s.length + 1) (st x ⟨c :: (l ++ t), a.o, 0⟩).1
        have r3 := need_e (by rw [r2, h.2]; decide) [d]
        exact ExtV.deep (q3.trans (q2.trans h.1)) (r3.trans (r2.trans h.2))
      · rw [h.2.1]
        exact tail_ext hs d _ h.2.2
theorem enter_ext {t : List UInt8} (s : List UInt8) (o : Int) (hs : s ≠ []) : Ext t (S.enter ⟨s, o, 0⟩) (S.enter ⟨s ++ t, o, 0⟩) := by
  unfold S.enter
  by_cases h : o = 16
  · have h1 : S.enter0 ⟨s, o, 0⟩ = ⟨s, o, 35⟩ := by unfold S.enter0; rw [if_pos h]; rfl
    have h2 : S.enter0 ⟨s ++ t, o, 0⟩ = ⟨s ++ t, o, 35⟩ := by unfold S.enter0; rw [if_pos h]; rfl
    rw [h1, h2]
    exact .inr (.inl ⟨rfl, rfl⟩)
  · have h1 : S.enter0 ⟨s, o, 0⟩ = ⟨s, o, 0⟩ := by unfold S.enter0; rw [if_neg h]
    have h2 : S.enter0 ⟨s ++ t, o, 0⟩ = ⟨s ++ t, o, 0⟩ := by unfold S.enter0; rw [if_neg h]
    rw [h1, h2]
    unfold S.enter1
    rw [if_pos rfl, if_pos rfl]
    refine .inr (.inr ⟨rfl, ?_⟩)
    cases s with
    | nil => exact absurd rfl hs
    | cons c l => rfl
theorem value_ext {t : List UInt8} (ht : stop t) {ft fa fo : S → S28 × S} (h1 : ∀ s o, s ≠ [] → ExtV t (ft ⟨s, o, 0⟩) (ft ⟨s ++ t, o, 0⟩)) (h2 : ∀ s o, s ≠ [] → ExtV t (fa ⟨s, o, 0⟩) (fa ⟨s ++ t, o, 0⟩)) (h3 : ∀ s o, s ≠ [] → ExtV t (fo ⟨s, o, 0⟩) (fo ⟨s ++ t, o, 0⟩))
    {a b : S} (h : Ext' t a b) : ExtV t (S.value ft fa fo a) (S.value ft fa fo b) := by
  unfold S.value
  rcases h.cases with h | h | h | ⟨c, l, e1, e2, e3, e4, e5⟩
  · have k : S.value1 ft fa fo a.skip = (z28, a.skip) := by unfold S.value1; rw [if_pos (show a.skip.e ≠ 0 from h.1)]
    rw [k]
    exact ExtV.bad h.1 h.2
  · have k : S.value1 ft fa fo a.skip = (z28, a.skip) := by unfold S.value1; rw [if_pos (show a.skip.e ≠ 0 from by show a.e ≠ 0; rw [h.1]; decide)]
    have k2 : S.value1 ft fa fo b.skip = (z28, b.skip) := by unfold S.value1; rw [if_pos (show b.skip.e ≠ 0 from by show b.e ≠ 0; rw [h.2]; decide)]
    rw [k, k2]
    exact ExtV.deep h.1 h.2
  · refine ExtV.b11 ?_
    unfold S.value1
    rw [if_neg (by show ¬ a.e ≠ 0; rw [h.1]; decide), h.2]
    exact fail_e0 (a := a.skip) h.1 _
  · rw [e4, e5]
    have hne : c :: l ≠ [] := by simp
    have nd : ∀ p : List UInt8, p ≠ [] → Ext t (S.need ⟨c :: l, a.o, 0⟩ p) (S.need ⟨c :: (l ++ t), a.o, 0⟩ p) := fun p hp => Ext'.need (.inl (Ext.ok t (c :: l) a.o)) p hp
    unfold S.value1
    rw [if_neg (show ¬ (S.mk (c :: l) a.o 0).e ≠ 0 from fun h => h rfl), if_neg (show ¬ (S.mk (c :: (l ++ t)) a.o 0).e ≠ 0 from fun h => h rfl)]
    simp only []
    split
    · exact ⟨nd _ (by simp), fun _ => rfl⟩
    split
    · exact ⟨nd _ (by simp), fun _ => rfl⟩
    split
    · exact ⟨nd _ (by simp), fun _ => rfl⟩
    split
    · exact h1 _ _ hne
    split
    · exact h2 _ _ hne
    split
    · exact h3 _ _ hne
    split
    · have := num_ext t (c :: l) a.o ht
      exact ⟨this.1, fun _ => this.2⟩
    · exact ⟨Ext.fail0 t (c :: l) a.o 11 (by decide) _ rfl, fun _ => rfl⟩
theorem objA_ext {t : List UInt8} (ns : List ByteArray) {a b : S} {l : List UInt8} {c : UInt8} (h4 : a.skip = ⟨c :: l, a.o, 0⟩) (h5 : b.skip = ⟨c :: (l ++ t), a.o, 0⟩) :
    Ext t (objA ns a) (objA ns b) ∧ ((objA ns a).e = 0 → objN b = objN a) := by
  unfold objA objN
  rw [h4, h5]
  rcases (st_ext t (c :: l) a.o (by simp)).cases with h | h | ⟨x, s2, o2, h6, h7⟩
  · have k1 := twice_e h.1 (has ns (ofL (S.st ⟨c :: l, a.o, 0⟩).1))
    have k2 := need_e (by rw [k1]; exact h.1) [58]
    have k3 := k2.trans k1
    exact ⟨.inl (by rw [k3]; exact h), fun e => absurd (k3.symm.trans e) h.1⟩
  · have n1 : (S.st ⟨c :: l, a.o, 0⟩).2.e ≠ 0 := by rw [h.1]; decide
    have n2 : (S.st ⟨c :: l ++ t, a.o, 0⟩).2.e ≠ 0 := by rw [h.2]; decide
    have k1 := twice_e n1 (has ns (ofL (S.st ⟨c :: l, a.o, 0⟩).1))
    have k2 := need_e (by rw [k1]; exact n1) [58]
    have k3 := k2.trans k1
    have q1 := twice_e n2 (has ns (ofL (S.st ⟨c :: l ++ t, a.o, 0⟩).1))
    have q2 := need_e (by rw [q1]; exact n2) [58]
    have q3 := q2.trans q1
    exact ⟨.inr (.inl ⟨k3.trans h.1, q3.trans h.2⟩), fun e => absurd (k3.symm.trans e) n1⟩
  · simp only [List.cons_append] at h7
    rw [h6, h7]
    refine ⟨?_, fun _ => rfl⟩
    refine Ext'.need (.inl ?_) [58] (by simp)
    show Ext t (S.twice ⟨s2, o2, 0⟩ (has ns (ofL x))) (S.twice ⟨s2 ++ t, o2, 0⟩ (has ns (ofL x)))
    unfold S.twice
    split
    · exact Ext.fail0 t s2 o2 31 (by decide) _ rfl
    · exact Ext.ok _ _ _
theorem arr_far {t : List UInt8} {n : Nat} (h1 : ∀ a b, Ext' t a b → ExtV t (gv n a) (gv n b)) (h2 : ∀ a, Dry a → (gv n a).2.e = 11) : Far t (arrT (gv n)) where
  e := fun x a h => arrT_e h n x
  ext := fun x a b h => ⟨(h1 a b h).1, fun e => by unfold arrT at *; rw [(h1 a b h).2 e]⟩
  dry := fun x a h => h2 a h
  len := fun x a => (keeps_gv n a).len
theorem obj_far {t : List UInt8} {n : Nat} (h1 : ∀ a b, Ext' t a b → ExtV t (gv n a) (gv n b)) (h2 : ∀ a, Dry a → (gv n a).2.e = 11) : Far t (objT (gv n)) where
  e := fun x a h => objT_e h n x
  len := fun x a => by
    unfold objT
    split
    · exact ((keeps_skip a).trans (keeps_fail _ 11 (by decide))).len
    · exact ((keeps_objA _ a).trans (keeps_gv n _)).len
  dry := fun x a h => by
    unfold objT
    rw [h.2]
    rw [if_pos (by rfl)]
    exact fail_e0 (a := a.skip) h.1 _
  ext := fun x a b h => by
    rcases h.cases with h | h | h | ⟨c, l, e1, e2, e3, e4, e5⟩
    · have := objT_e h.1 n x
      exact ExtV.bad (by rw [this]; exact h.1) (by rw [this]; exact h.2)
    · have k1 := objT_e (a := a) (by rw [h.1]; decide) n x
      have k2 := objT_e (a := b) (by rw [h.2]; decide) n x
      exact ExtV.deep (k1.trans h.1) (k2.trans h.2)
    · refine ExtV.b11 ?_
      unfold objT
      rw [h.2]
      rw [if_pos (by rfl)]
      exact fail_e0 (a := a.skip) h.1 _
    · have ho := objA_ext x.2 e4 e5
      unfold objT
      rw [e4, e5, pref_one, pref_one]
      split
      · exact ⟨Ext.fail0 t (c :: l) a.o 11 (by decide) _ rfl, fun _ => rfl⟩
      · have hv := h1 _ _ (.inl ho.1)
        refine ⟨hv.1, fun e => ?_⟩
        have e0 : (objA x.2 a).e = 0 := by
          by_cases h0 : (objA x.2 a).e = 0
          · exact h0
          · have := gv_bad h0 n
            simp only [] at e
            rw [this] at e
            exact absurd e h0
        simp only []
        rw [ho.2 e0, hv.2 e]
theorem gv_dry : ∀ n a, Dry a → (gv n a).2.e = 11
  | 0, a, h => by unfold gv; rw [if_pos h.1]; exact fail_e0 (a := a.skip) h.1 _
  | n + 1, a, h => by
    show (S.value _ _ _ a).2.e = 11
    unfold S.value S.value1
    rw [if_neg (by show ¬ a.e ≠ 0; rw [h.1]; decide), h.2]
    exact fail_e0 (a := a.skip) h.1 _
theorem gv_ext {t : List UInt8} (ht : stop t) : ∀ (n : Nat) (a b : S), Ext' t a b → ExtV t (gv n a) (gv n b)
  | 0, a, b, h => by
    rcases h.cases with h | h | h | ⟨c, l, e1, e2, e3, e4, e5⟩
    · rw [gv_bad h.1]; exact ExtV.bad h.1 h.2
    · rw [gv_bad (a := a) (by rw [h.1]; decide), gv_bad (a := b) (by rw [h.2]; decide)]; exact ExtV.deep h.1 h.2
    · exact ExtV.b11 (gv_dry 0 a h)
    · refine ExtV.b11 ?_
      unfold gv; rw [if_pos e1]; exact fail_e0 (a := a.skip) e1 _
  | n + 1, a, b, h => by
    have ih := gv_ext ht n
    refine value_ext ht (fun s o hs => ?_) (fun s o hs => ?_) (fun s o hs => ?_) h
    · have := st_ext t s o hs
      exact ⟨this.1, fun e => by unfold textV at *; rw [this.2 e]⟩
    · have := listG_ext (arr_far ih (gv_dry n)) 93 [] (.inl (enter_ext (t := t) s o hs))
      unfold S.arr
      rw [listF_G, listF_G]
      exact ⟨this.1, fun e => by simp only []; rw [this.2 e]⟩
    · have := listG_ext (obj_far ih (gv_dry n)) 125 ([], []) (.inl (enter_ext (t := t) s o hs))
      unfold S.obj
      rw [listF_G, listF_G]
      exact ⟨this.1, fun e => by simp only []; rw [this.2 e]⟩
end Js
end Go.Proofs.YtapcpndplnkfjaaGreatDoor
namespace Go.Proofs.YtapcpndplnkfjaaGreatDoor
open Go.RowKit Go.Proofs.YtapcpndplnkfjaaGreatDoorW.PrintWords Go.Proofs.YtapcpndplnkfjaaGreatDoorW.PrintLast Go.Proofs.YtapcpndplnkfjaaGreatDoorW.PrintMore
set_option linter.unusedVariables false
set_option linter.unusedSimpArgs false
namespace Js
variable {σ : Type}
def S.up (a : S) : S := ⟨a.s, a.o + 1, a.e⟩
theorem up_fail (a : S) (x : Int) : a.up.fail x = (a.fail x).up := rfl
theorem up_took (a : S) (p : List UInt8) : a.up.took p = a.took p := rfl
theorem up_take (a : S) (p : List UInt8) : a.up.take p = (a.take p).up := by
  unfold S.take
  rw [up_took]
  split <;> rfl
theorem up_need (a : S) (p : List UInt8) : a.up.need p = (a.need p).up := by
  unfold S.need
  rw [up_took, up_take]
  split
  · rfl
  · exact up_fail _ _
theorem up_four (a : S) : a.up.four = (a.four.1, a.four.2.up) := by
  unfold S.four
  show (if a.s.length < 4 then _ else _) = _
  split
  · rfl
  · show fourV a.up (fourLoop a.low (a.low.size + 1) 0 0) = _
    cases fourLoop a.low (a.low.size + 1) 0 0 <;> rfl
theorem up_sgn (x : Int) (c : S) : S.sgn x c.up = ((S.sgn x c).1, (S.sgn x c).2.up) := by
  unfold S.sgn
  rw [up_four]
  simp only []
  split
  · rw [up_fail]
  · rfl
theorem up_sign (a : S) : a.up.sign = (a.sign.1, a.sign.2.up) := by
  unfold S.sign
  rw [up_four]
  simp only []
  split
  · rfl
  show (if 56320 ≤ a.four.1 ∨ Lib.hasPrefix a.four.2.s [92, 117] = false then _ else _) = _
  split
  · rfl
  · show S.sgn a.four.1 a.four.2.pre.up = _
    exact up_sgn _ _
theorem up_esc (a : S) : a.up.esc = (a.esc.1, a.esc.2.up) := by
  obtain ⟨s, o, e⟩ := a
  cases s with
  | nil => rfl
  | cons c l =>
    show S.escT c (S.up ⟨l, o, e⟩) = ((S.escT c ⟨l, o, e⟩).1, (S.escT c ⟨l, o, e⟩).2.up)
    unfold S.escT
    split
    · exact up_sign _
    split <;> rfl
theorem up_loop : ∀ (n : Nat) (out : List UInt8) (a : S), strLoop S.esc n out a.up = ((strLoop S.esc n out a).1, (strLoop S.esc n out a).2.up)
  | 0, out, a => rfl
  | n + 1, out, a => by
    rw [strLoop, strLoop]
    show (if a.e ≠ 0 then _ else if a.plain.2 = false then _ else if a.s.getD a.plain.1 0 = 34 then _ else _) = _
    split
    · rfl
    split
    · rfl
    split
    · rfl
    · show strLoop S.esc n (out ++ a.s.take a.plain.1 ++ (a.cut.up.esc).1) (a.cut.up.esc).2 = _
      rw [up_esc]
      exact up_loop n _ _
theorem up_st (a : S) : a.up.st = (a.st.1, a.st.2.up) := by
  show strLoop S.esc (a.s.length + 1) [] a.tl.up = _
  exact up_loop _ _ _
theorem up_num (a : S) : a.up.numS = a.numS.up ∧ a.up.numV = a.numV := by
  refine ⟨?_, rfl⟩
  unfold S.numS
  show S.mk _ _ _ = S.up _
  simp only []
  show S.mk a.numR (if (NumP.parse a.numL).2 = 0 then a.up else a.up.fail (NumP.parse a.numL).2).o (if (NumP.parse a.numL).2 = 0 then a.up else a.up.fail (NumP.parse a.numL).2).e = _
  split <;> rfl
def Dp (n : Nat) (a b : S) : Prop := b.e = 35 ∨ (b = a.up ∧ a.o + 1 + n = 17 ∧ (n = 0 → a.e ≠ 0))
def DpV (n : Nat) (p q : σ × S) : Prop := Dp n p.2 q.2 ∧ (q.2.e ≠ 35 → q.1 = p.1)
theorem Dp.map {n : Nat} {a b : S} {f : S → S} (h : Dp n a b) (hu : f a.up = (f a).up) (he : ∀ c : S, c.e ≠ 0 → (f c).e = c.e) (ho : (f a).o = a.o) : Dp n (f a) (f b) := by
  rcases h with h | ⟨h1, h2, h3⟩
  · exact .inl ((he b (by rw [h]; decide)).trans h)
  · exact .inr ⟨by rw [h1, hu], by rw [ho]; exact h2, fun e => by rw [he a (h3 e)]; exact h3 e⟩
theorem Dp.take {n : Nat} {a b : S} (h : Dp n a b) (p : List UInt8) : Dp n (a.take p) (b.take p) := h.map (f := fun c => c.take p) (up_take a p) (fun c _ => take_e c p) (take_o a p)
theorem Dp.need {n : Nat} {a b : S} (h : Dp n a b) (p : List UInt8) : Dp n (a.need p) (b.need p) := h.map (f := fun c => c.need p) (up_need a p) (fun c hc => need_e hc p) (need_o a p)
theorem Dp.skip {n : Nat} {a b : S} (h : Dp n a b) : Dp n a.skip b.skip := h.map (f := fun c => c.skip) rfl (fun c _ => rfl) rfl
theorem Dp.fail {n : Nat} {a b : S} (h : Dp n a b) (x : Int) : Dp n (a.fail x) (b.fail x) := h.map (f := fun c => c.fail x) rfl (fun c hc => fail_e hc x) (fail_o a x)
theorem DpV.deep {n : Nat} {p q : σ × S} (h : q.2.e = 35) : DpV n p q := ⟨.inl h, fun e => absurd h e⟩
theorem loop_dp {n : Nat} {st st' : σ → S → σ × S} (h1 : ∀ x a b, Dp n a b → DpV n (st x a) (st' x b)) :
    ∀ (k m : Nat) (x : σ) (a b : S), (b.e ≠ 35 → m = k) → Dp n a b → DpV n (listLoop st k x a) (listLoop st' m x b) := by
  intro k
  induction k with
  | zero =>
    intro m x a b hm h
    rcases h with h | h
    · have := loop_bad st' (a := b) (by rw [h]; decide) m x
      exact DpV.deep (this.trans h)
    · by_cases hb : b.e = 35
      · have := loop_bad st' (a := b) (by rw [hb]; decide) m x
        exact DpV.deep (this.trans hb)
      · have := hm hb; subst this
        exact ⟨.inr h, fun _ => rfl⟩
  | succ k ih =>
    intro m x a b hm h
    by_cases hb : b.e = 35
    · have := loop_bad st' (a := b) (by rw [hb]; decide) m x
      exact DpV.deep (this.trans hb)
    · have := hm hb; subst this
      rcases h with h | h
      · exact absurd h hb
      · have ht : b.took [44] = a.took [44] := by rw [h.1]; rfl
        unfold listLoop
        rw [ht]
        have hk := (show Dp n a b from .inr h).take [44]
        split
        · have h2 := h1 x _ _ hk
          by_cases hq : (st' x (b.take [44])).2.e = 35
          · have := loop_bad st' (a := (st' x (b.take [44])).2) (by rw [hq]; decide) k (st' x (b.take [44])).1
            exact DpV.deep (this.trans hq)
          · rw [h2.2 hq]
            exact ih k _ _ _ (fun _ => rfl) h2.1
        · exact ⟨hk, fun _ => rfl⟩
theorem Dp.left {n : Nat} {a b : S} (h : Dp n a b) : Dp (n + 1) a.left b.left := by
  rcases h with h | ⟨h1, h2, h3⟩
  · exact .inl h
  · refine .inr ⟨?_, ?_, fun e => by cases e⟩
    · rw [h1]; show S.mk _ _ _ = S.mk _ _ _; congr 1
      show a.o + 1 - 1 = a.o - 1 + 1; omega
    · show a.o - 1 + 1 + ((n + 1 : Nat) : Int) = 17; push_cast; omega
theorem listG_dp {n : Nat} {st st' : σ → S → σ × S} (he : ∀ x a, a.e ≠ 0 → (st' x a).2.e = a.e) (h1 : ∀ x a b, Dp n a b → DpV n (st x a) (st' x b)) (p : List UInt8) (x : σ) {a b : S} (h : Dp n a b) :
    DpV (n + 1) (listG st p x a) (listG st' p x b) := by
  by_cases hb : b.e = 35
  · exact DpV.deep ((listG_e he p x (by rw [hb]; decide)).trans hb)
  · rcases h with h | h
    · exact absurd h hb
    · have ht : b.took p = a.took p := by rw [h.1]; rfl
      have hk := (show Dp n a b from .inr h).take p
      unfold listG
      rw [ht]
      split
      · exact ⟨hk.left, fun _ => rfl⟩
      · have h2 := h1 x _ _ hk
        have hl := loop_dp h1 ((st x (a.take p)).2.s.length + 1) ((st' x (b.take p)).2.s.length + 1) (st x (a.take p)).1 (st x (a.take p)).2 (st' x (b.take p)).2 (fun hq => by
          rcases h2.1 with k | k
          · exact absurd k hq
          · rw [k.1]; rfl) h2.1
        refine ⟨?_, fun hq => ?_⟩
        · by_cases hq : (st' x (b.take p)).2.e = 35
          · have k1 := loop_bad st' (a := (st' x (b.take p)).2) (by rw [hq]; decide) ((st' x (b.take p)).2.s.length + 1) (st' x (b.take p)).1
            have k2 := need_e (by rw [k1, hq]; decide) p
            exact .inl (k2.trans (k1.trans hq))
          · rw [h2.2 hq]
            exact (hl.1.need p).left
        · by_cases hq2 : (st' x (b.take p)).2.e = 35
          · have k1 := loop_bad st' (a := (st' x (b.take p)).2) (by rw [hq2]; decide) ((st' x (b.take p)).2.s.length + 1) (st' x (b.take p)).1
            have k2 := need_e (by rw [k1, hq2]; decide) p
            exact absurd (k2.trans (k1.trans hq2)) hq
          · simp only [] at hq ⊢
            rw [h2.2 hq2] at hq ⊢
            refine hl.2 (fun e => ?_)
            have k2 := need_e (a := (listLoop st' ((st' x (b.take p)).2.s.length + 1) (st x (a.take p)).1 (st' x (b.take p)).2).2) (by rw [e]; decide) p
            exact hq (k2.trans e)
theorem enter_dp {n : Nat} {a : S} (he : a.e = 0) (ho : a.o + 1 + (n + 1) = 17) : Dp n a.enter a.up.enter := by
  have h0 : a.enter0 = a := by unfold S.enter0; rw [if_neg (by omega)]
  unfold S.enter
  rw [h0]
  by_cases h1 : a.o = 15
  · have h2 : a.up.enter0 = ⟨a.s, a.o + 1, 35⟩ := by
      unfold S.enter0
      rw [if_pos (by show a.o + 1 = 16; omega)]
      unfold S.fail S.up
      rw [he]; rfl
    rw [h2]
    exact .inl rfl
  · have h2 : a.up.enter0 = a.up := by unfold S.enter0; rw [if_neg (by show a.o + 1 ≠ 16; omega)]
    rw [h2]
    unfold S.enter1
    rw [if_pos he, if_pos (show a.up.e = 0 from he)]
    exact .inr ⟨rfl, by show a.o + 1 + 1 + (n : Int) = 17; omega, fun e => by subst e; exact absurd ho (by push_cast; omega)⟩
theorem objA_dp {n : Nat} (ns : List ByteArray) {a b : S} (h : Dp n a b) : Dp n (objA ns a) (objA ns b) ∧ (b.e ≠ 35 → objN b = objN a) := by
  refine ⟨h.map (f := objA ns) ?_ (fun c hc => objA_e hc ns) ?_, fun hb => ?_⟩
  · unfold objA objN
    show S.need (S.twice a.skip.up.st.2 (has ns (ofL a.skip.up.st.1))) [58] = _
    rw [up_st]
    show S.need (S.twice a.skip.st.2.up (has ns (ofL a.skip.st.1))) [58] = _
    have : ∀ (c : S) (q : Bool), S.twice c.up q = (S.twice c q).up := fun c q => by unfold S.twice; split <;> rfl
    rw [this, up_need]
  · exact (keeps_objA ns a).o
  · rcases h with h | h
    · exact absurd h hb
    · unfold objN
      rw [h.1]
      show ofL a.skip.up.st.1 = _
      rw [up_st]
theorem gv_dp : ∀ (n : Nat) (a b : S), Dp n a b → DpV n (gv (n + 1) a) (gv n b) := by
  intro n
  induction n with
  | zero =>
    intro a b h
    by_cases hb : b.e = 35
    · rw [gv_bad (a := b) (by rw [hb]; decide)]; exact DpV.deep hb
    · rcases h with h | h
      · exact absurd h hb
      · have ha := h.2.2 rfl
        rw [gv_bad (a := a) ha, gv_bad (a := b) (by rw [h.1]; exact ha)]
        exact ⟨(show Dp 0 a b from .inr h).skip, fun _ => rfl⟩
  | succ n ih =>
    intro a b h
    by_cases hb : b.e = 35
    · rw [gv_bad (a := b) (by rw [hb]; decide)]; exact DpV.deep hb
    · rcases h with h | h
      · exact absurd h hb
      · by_cases ha : a.e = 0
        · have hk := (show Dp (n + 1) a b from .inr h).skip
          obtain ⟨h1, h2, -⟩ := h
          subst h1
          show DpV (n + 1) (S.value1 textV (S.arr (gv (n + 1))) (S.obj (gv (n + 1))) a.skip) (S.value1 textV (S.arr (gv n)) (S.obj (gv n)) a.skip.up)
          rw [show a.up.skip = a.skip.up from rfl] at hk
          have hc2 : a.skip.o + 1 + ((n : Int) + 1) = 17 := by show a.o + 1 + _ = _; push_cast at h2; omega
          have hce : a.skip.e = 0 := ha
          generalize a.skip = c at *
          have hen := enter_dp hce hc2
          unfold S.value1
          rw [if_neg (fun h => h hce), if_neg (show ¬ c.up.e ≠ 0 from fun h => h hce)]
          have hs : c.up.s = c.s := rfl
          rw [hs]
          cases hl : c.s with
          | nil => exact ⟨hk.fail 11, fun _ => rfl⟩
          | cons d l =>
            simp only []
            split
            · exact ⟨hk.need _, fun _ => rfl⟩
            split
            · exact ⟨hk.need _, fun _ => rfl⟩
            split
            · exact ⟨hk.need _, fun _ => rfl⟩
            split
            · refine ⟨?_, fun _ => ?_⟩
              · exact hk.map (f := fun a => a.st.2) (by show (c.up.st).2 = _; rw [up_st]) (fun c hc => by rw [st_bad hc]; rfl) (keeps_st c).o
              · unfold textV; rw [up_st]
            split
            · have := listG_dp (st := arrT (gv (n + 1))) (st' := arrT (gv n)) (fun x a h => arrT_e h n x) (fun x a b h => ⟨(ih a b h).1, fun e => by unfold arrT at *; rw [(ih a b h).2 e]⟩) [93] [] hen
              unfold S.arr
              rw [listF_G, listF_G]
              exact ⟨this.1, fun e => by simp only []; rw [this.2 e]⟩
            split
            · have := listG_dp (st := objT (gv (n + 1))) (st' := objT (gv n)) (fun x a h => objT_e h n x) (fun x a b h => by
                by_cases hb : b.e = 35
                · exact DpV.deep ((objT_e (by rw [hb]; decide) n x).trans hb)
                · have ho := objA_dp x.2 h
                  have hpp : Lib.hasPrefix b.skip.s [34] = Lib.hasPrefix a.skip.s [34] := by
                    rcases h with h | h
                    · exact absurd h hb
                    · rw [h.1]; rfl
                  unfold objT
                  rw [hpp]
                  split
                  · exact ⟨h.skip.fail 11, fun _ => rfl⟩
                  · have hv := ih _ _ ho.1
                    refine ⟨hv.1, fun e => ?_⟩
                    simp only []
                    rw [ho.2 hb, hv.2 e]) [125] ([], []) hen
              unfold S.obj
              rw [listF_G, listF_G]
              exact ⟨this.1, fun e => by simp only []; rw [this.2 e]⟩
            split
            · exact ⟨hk.map (f := fun a => a.numS) (up_num c).1 (fun c hc => numS_e hc) (keeps_num c).o, fun _ => (up_num c).2⟩
            · exact ⟨hk.fail 11, fun _ => rfl⟩
        · rw [gv_bad (a := a) ha, gv_bad (a := b) (by rw [h.1]; exact ha)]
          exact ⟨(show Dp (n + 1) a b from .inr h).skip, fun _ => rfl⟩
theorem fail_ne (a : S) (x : Int) (hx : x ≠ 0) : (a.fail x).e ≠ 0 := by
  by_cases h : a.e = 0
  · rw [fail_e0 h]; exact hx
  · rw [fail_e h]; exact h
theorem pv_gv (s : List UInt8) (hl : s.length ≤ 4096) : pv s = if (gv 17 ⟨s, 0, 0⟩).2.ended.e = 0 then ((gv 17 ⟨s, 0, 0⟩).1, 0) else (z28, (gv 17 ⟨s, 0, 0⟩).2.ended.e) := by
  unfold pv parseV
  rw [if_neg (by omega), gv_eq 17 _ ⟨by show s.length ≤ 900000; omega, rfl, (fun e => absurd e (by decide)), Nat.le_refl _⟩]
theorem pv_ok {s : List UInt8} {x : S28} (h : pv s = (x, 0)) : s.length ≤ 4096 ∧ ∃ r, gv 17 ⟨s, 0, 0⟩ = (x, ⟨r, 0, 0⟩) ∧ Lib.trimLeftS r [32, 9, 10, 13] = [] := by
  by_cases hl : s.length ≤ 4096
  · refine ⟨hl, ?_⟩
    rw [pv_gv s hl] at h
    have hk := (keeps_gv 17 ⟨s, 0, 0⟩).o
    generalize gv 17 ⟨s, 0, 0⟩ = q at hk h ⊢
    obtain ⟨y, r, o, e⟩ := q
    simp only [] at hk h
    subst hk
    split at h
    · rename_i h1
      refine ⟨r, ?_, ?_⟩
      · have hy : y = x := congrArg Prod.fst h
        have he : e = 0 := by
          by_cases h0 : e = 0
          · exact h0
          · exfalso
            unfold S.ended at h1
            split at h1
            · exact h0 h1
            · exact fail_ne _ 11 (by decide) h1
        rw [hy, he]
      · unfold S.ended at h1
        split at h1
        · rename_i h2; exact h2
        · exact absurd h1 (fail_ne _ 11 (by decide))
    · rename_i h1
      exact absurd (congrArg Prod.snd h) h1
  · unfold pv parseV at h
    rw [if_pos (by omega)] at h
    exact absurd (show (13 : Int) = 0 from congrArg Prod.snd h) (by decide)
theorem pv_of {s r : List UInt8} {x : S28} (hl : s.length ≤ 4096) (h : gv 17 ⟨s, 0, 0⟩ = (x, ⟨r, 0, 0⟩)) (hr : Lib.trimLeftS r [32, 9, 10, 13] = []) : pv s = (x, 0) := by
  rw [pv_gv s hl, h]
  have : (S.ended ⟨r, 0, 0⟩).e = 0 := by unfold S.ended; rw [if_pos (show (S.skip ⟨r, 0, 0⟩).s = [] from hr)]; rfl
  simp only []
  rw [if_pos this]
structure Reads (s : List UInt8) (x : S28) (r : List UInt8) : Prop where
  at0 : ∀ t, stop t → gv 17 ⟨s ++ t, 0, 0⟩ = (x, ⟨r ++ t, 0, 0⟩)
  dry : Lib.trimLeftS r [32, 9, 10, 13] = []
  at1 : (∀ t, stop t → gv 16 ⟨s ++ t, 1, 0⟩ = (x, ⟨r ++ t, 1, 0⟩)) ∨ (∀ t, stop t → (gv 16 ⟨s ++ t, 1, 0⟩).2.e = 35)
theorem stop_nil : stop [] := fun c hc => by cases hc
theorem ExtV.at {t : List UInt8} {p q : S28 × S} {x : S28} {r : List UInt8} {o : Int} (h : ExtV t p q) (hp : p = (x, ⟨r, o, 0⟩)) : q = (x, ⟨r ++ t, o, 0⟩) := by
  subst hp
  obtain ⟨y, b⟩ := q
  obtain ⟨h1, h2⟩ := h
  have h3 : y = x := h2 rfl
  rcases h1 with h | h | h
  · exact absurd rfl h.1
  · exact absurd (show (0 : Int) = 35 from h.1) (by decide)
  · rw [h3, show b = _ from h.2]
theorem reads {s : List UInt8} {x : S28} (h : pv s = (x, 0)) : ∃ r, Reads s x r := by
  obtain ⟨hl, r, hg, hr⟩ := pv_ok h
  refine ⟨r, fun t ht => ?_, hr, ?_⟩
  · exact (gv_ext ht 17 ⟨s, 0, 0⟩ ⟨s ++ t, 0, 0⟩ (.inl (Ext.ok _ _ _))).at hg
  · have hd := gv_dp 16 ⟨s, 0, 0⟩ ⟨s, 1, 0⟩ (.inr ⟨rfl, (show (0 : Int) + 1 + ((16 : Nat) : Int) = 17 by decide), fun e => absurd e (by decide)⟩)
    rw [hg] at hd
    by_cases hb : (gv 16 ⟨s, 1, 0⟩).2.e = 35
    · right
      intro t ht
      have := gv_ext ht 16 ⟨s, 1, 0⟩ ⟨s ++ t, 1, 0⟩ (.inl (Ext.ok _ _ _))
      rcases this.1 with h | h | h
      · exact absurd hb h.2
      · exact h.2
      · exact absurd (h.1.symm.trans hb) (by decide)
    · left
      intro t ht
      refine (gv_ext ht 16 ⟨s, 1, 0⟩ ⟨s ++ t, 1, 0⟩ (.inl (Ext.ok _ _ _))).at ?_
      have h2 := hd.2 hb
      rcases hd.1 with h | h
      · exact absurd h hb
      · have h3 := h.1
        generalize gv 16 ⟨s, 1, 0⟩ = q at *
        obtain ⟨y, b⟩ := q
        simp only [] at h2 h3
        rw [h2, h3]; rfl
end Js
end Go.Proofs.YtapcpndplnkfjaaGreatDoor
namespace Go.Proofs.YtapcpndplnkfjaaGreatDoor
open Go.RowKit Go.Proofs.YtapcpndplnkfjaaGreatDoorW.PrintWords Go.Proofs.YtapcpndplnkfjaaGreatDoorW.PrintLast Go.Proofs.YtapcpndplnkfjaaGreatDoorW.PrintMore
set_option linter.unusedVariables false
set_option linter.unusedSimpArgs false
namespace Js
variable {σ : Type}
theorem e0_of {f : S → S} (hf : ∀ a : S, a.e ≠ 0 → (f a).e = a.e) {a : S} (h : (f a).e = 0) : a.e = 0 := by
  by_cases h0 : a.e = 0
  · exact h0
  · exact absurd ((hf a h0).symm.trans h) h0
theorem take_le (a : S) (p : List UInt8) : (a.take p).s.length ≤ a.s.length := (keeps_take a p).len
theorem loop_inv {st : σ → S → σ × S} {Inv : σ → Nat → Prop} (he : ∀ x a, a.e ≠ 0 → (st x a).2.e = a.e) (hm : ∀ x k j, Inv x k → j ≤ k → Inv x j)
    (hst : ∀ x a, a.e = 0 → Inv x (a.s.length + 1) → (st x a).2.e = 0 → Inv (st x a).1 (st x a).2.s.length) :
    ∀ n x a, Inv x a.s.length → (listLoop st n x a).2.e = 0 → Inv (listLoop st n x a).1 (listLoop st n x a).2.s.length
  | 0, x, a, h, _ => h
  | n + 1, x, a, h, h0 => by
    unfold listLoop at h0 ⊢
    by_cases ht : a.took [44] = true
    · rw [if_pos ht] at h0 ⊢
      have h1 : (st x (a.take [44])).2.e = 0 := by
        by_cases hq : (st x (a.take [44])).2.e = 0
        · exact hq
        · exact absurd ((loop_bad st hq n _).symm.trans h0) hq
      have h2 : (a.take [44]).e = 0 := e0_of (f := fun a => (st x a).2) (fun a => he x a) h1
      exact loop_inv he hm hst n _ _ (hst x _ h2 (hm _ _ _ h (took_lt a 44 ht)) h1) h0
    · rw [if_neg ht]
      exact hm _ _ _ h (take_le a _)
theorem need_lt {a : S} {d : UInt8} (h : (a.need [d]).e = 0) : (a.need [d]).s.length + 1 ≤ a.s.length := by
  unfold S.need at h ⊢
  by_cases ht : a.took [d] = true
  · rw [if_pos ht]
    exact took_lt a d ht
  · rw [if_neg ht] at h
    exact absurd h (fail_ne _ 11 (by decide))
theorem listG_inv {st : σ → S → σ × S} {Inv : σ → Nat → Prop} (he : ∀ x a, a.e ≠ 0 → (st x a).2.e = a.e) (hm : ∀ x k j, Inv x k → j ≤ k → Inv x j)
    (hst : ∀ x a, a.e = 0 → Inv x (a.s.length + 1) → (st x a).2.e = 0 → Inv (st x a).1 (st x a).2.s.length) (d : UInt8) (x : σ) (a : S) (h : Inv x (a.s.length + 1)) (h0 : (listG st [d] x a).2.e = 0) :
    Inv (listG st [d] x a).1 ((listG st [d] x a).2.s.length + 1) := by
  unfold listG at h0 ⊢
  by_cases ht : a.took [d] = true
  · rw [if_pos ht]
    exact hm _ _ _ h (by have := took_lt a d ht; show (a.take [d]).s.length + 1 ≤ _; omega)
  · rw [if_neg ht] at h0 ⊢
    have h3 : ((listLoop st ((st x (a.take [d])).2.s.length + 1) (st x (a.take [d])).1 (st x (a.take [d])).2).2.need [d]).e = 0 := h0
    have h2 := e0_of (f := fun a => a.need [d]) (fun a ha => need_e ha [d]) h3
    have h1 : (st x (a.take [d])).2.e = 0 := by
      by_cases hq : (st x (a.take [d])).2.e = 0
      · exact hq
      · exact absurd ((loop_bad st hq _ _).symm.trans h2) hq
    have h4 : (a.take [d]).e = 0 := e0_of (f := fun a => (st x a).2) (fun a => he x a) h1
    have h5 := hst x _ h4 (hm _ _ _ h (by have := take_le a [d]; omega)) h1
    have h6 := loop_inv he hm hst _ _ _ h5 h2
    exact hm _ _ _ h6 (need_lt h3)
theorem quoteF_app (a b : List UInt8) : (a ++ b).flatMap quoteB = a.flatMap quoteB ++ b.flatMap quoteB := by simp
theorem four_lt (a : S) (h : (a.four).2.e = 0) : (a.four).2.s.length + 4 ≤ a.s.length := by
  unfold S.four at h ⊢
  split at h
  · exact absurd h (fail_ne _ 11 (by decide))
  · rename_i hl
    rw [if_neg hl]
    unfold fourV at h ⊢
    split at h
    · exact absurd h (fail_ne _ 11 (by decide))
    · simp; omega
theorem sign_sz (a : S) (h : (a.sign).2.e = 0) : (a.sign).1.length ≤ 4 ∧ (a.sign).2.s.length + 4 ≤ a.s.length := by
  refine ⟨(sign_len a).2.1, ?_⟩
  have h4 : (a.four).2.e = 0 := by
    by_cases hq : (a.four).2.e = 0
    · exact hq
    · exfalso
      unfold S.sign at h
      split at h
      · exact hq h
      split at h
      · rw [fail_e hq] at h; exact hq h
      · have h5 := four_e a.four.2.pre hq
        unfold S.sgn at h
        simp only [] at h
        split at h
        · rw [fail_e (by rw [h5]; exact hq), h5] at h; exact hq h
        · rw [h5] at h; exact hq h
  have h6 := four_lt a h4
  have h7 : (a.sign).2.s.length ≤ (a.four).2.s.length := by
    unfold S.sign
    split
    · exact Nat.le_refl _
    split
    · rw [fail_s]; exact Nat.le_refl _
    · have h8 := (sgn_len a.four.1 a.four.2.pre).1
      have h9 : a.four.2.pre.s.length ≤ a.four.2.s.length := by
        unfold S.pre Lib.trimPrefix
        simp only []
        split <;> simp
      omega
  omega
theorem esc_sz (a : S) (h : (a.esc).2.e = 0) : ((a.esc).1.flatMap quoteB).length + 6 * (a.esc).2.s.length ≤ 6 * a.s.length := by
  obtain ⟨s, o, e⟩ := a
  cases s with
  | nil => exact absurd h (fail_ne ⟨[], o, e⟩ 11 (by decide))
  | cons c l =>
    have hh : (S.escT c ⟨l, o, e⟩).2.e = 0 := h
    show ((S.escT c ⟨l, o, e⟩).1.flatMap quoteB).length + 6 * (S.escT c ⟨l, o, e⟩).2.s.length ≤ 6 * (l.length + 1)
    unfold S.escT at hh ⊢
    split at hh
    · rename_i hc
      rw [if_pos hc]
      have := sign_sz ⟨l, o, e⟩ hh
      have h2 := quoteF_len (S.sign ⟨l, o, e⟩).1
      have h3 : (S.sign ⟨l, o, e⟩).2.s.length + 4 ≤ l.length := this.2
      omega
    · rename_i hc
      rw [if_neg hc]
      split at hh
      · exact absurd hh (fail_ne _ 11 (by decide))
      · rename_i h9
        rw [if_neg h9]
        have h2 := quoteF_len (escL (escI c))
        have h3 : (escL (escI c)).length ≤ 1 := by
          have := (escI_b c).2
          unfold escL
          simp [ByteArray.data_extract, Array.toList_extract, List.extract]
          omega
        show (List.flatMap quoteB (escL (escI c))).length + 6 * l.length ≤ _
        omega
theorem strLoop_sz : ∀ (n : Nat) (out : List UInt8) (a : S), a.e = 0 → a.s.length < n → (strLoop S.esc n out a).2.e = 0 →
    ((strLoop S.esc n out a).1.flatMap quoteB).length + 6 * (strLoop S.esc n out a).2.s.length + 6 ≤ (out.flatMap quoteB).length + 6 * a.s.length
  | 0, out, a, _, h, _ => absurd h (by omega)
  | n + 1, out, a, he, hn, h => by
    rw [strLoop] at h ⊢
    rw [if_neg (by simp [he])] at h ⊢
    by_cases hp : a.plain.2 = false
    · rw [if_pos hp] at h; exact absurd h (fail_ne _ 11 (by decide))
    rw [if_neg hp] at h ⊢
    have hlt := (plain_le a).2 (by simpa using hp)
    have hq := quoteF_len (a.s.take a.plain.1)
    have hk : (a.s.take a.plain.1).length = a.plain.1 := by rw [List.length_take]; omega
    have hc : a.cut.s.length = a.s.length - (a.plain.1 + 1) := by unfold S.cut; simp
    split at h
    · rename_i h34
      rw [if_pos h34]
      show ((out ++ a.s.take a.plain.1).flatMap quoteB).length + 6 * a.cut.s.length + 6 ≤ _
      rw [quoteF_app, List.length_append]
      omega
    · rename_i h34
      rw [if_neg h34]
      have h5 : (a.cut.esc).2.e = 0 := by
        by_cases hb : (a.cut.esc).2.e = 0
        · exact hb
        · rw [strLoop_bad _ _ _ hb] at h; exact absurd h hb
      have h6 := esc_sz a.cut h5
      have h7 := (esc_len a.cut).1
      have h8 := strLoop_sz n (out ++ a.s.take a.plain.1 ++ a.cut.esc.1) a.cut.esc.2 h5 (by omega) h
      rw [quoteF_app, quoteF_app, List.length_append, List.length_append] at h8
      omega
theorem st_sz (a : S) (hs : a.s ≠ []) (h : (a.st).2.e = 0) : (quoteL (a.st).1).length + 6 * (a.st).2.s.length ≤ 6 * a.s.length := by
  have he : a.e = 0 := by
    by_cases hb : a.e = 0
    · exact hb
    · rw [st_bad hb] at h; exact absurd h hb
  obtain ⟨s, o, e⟩ := a
  cases s with
  | nil => exact absurd rfl hs
  | cons c l =>
    have h1 := strLoop_sz ((c :: l).length + 1) [] ⟨l, o, e⟩ he (by show l.length < _; simp; omega) h
    have h2 : (quoteL (S.st ⟨c :: l, o, e⟩).1).length = ((S.st ⟨c :: l, o, e⟩).1.flatMap quoteB).length + 2 := by unfold quoteL; simp
    have h3 : (strLoop S.esc ((c :: l).length + 1) [] ⟨l, o, e⟩) = S.st ⟨c :: l, o, e⟩ := rfl
    rw [h3] at h1
    simp only [List.flatMap_nil, List.length_nil, List.length_cons] at h1 ⊢
    omega
theorem st_bd (a : S) : (a.st).1.length ≤ 17 * a.s.length := by
  have := loop_out (a.s.length + 1) [] a.tl
  have h2 : a.tl.s.length ≤ a.s.length := by unfold S.tl; simp
  simp only [List.length_nil] at this
  show (strLoop S.esc (a.s.length + 1) [] a.tl).1.length ≤ _
  omega
theorem itoa_4 (e : Int) (h : -999 ≤ e ∧ e ≤ 999) : (Lib.itoa e).length ≤ 4 := by
  have : ∀ i : Fin 1999, (Lib.itoa ((i.val : Int) - 999)).length ≤ 4 := by decide +kernel
  have h2 := this ⟨(e + 999).toNat, by omega⟩
  rwa [show (((⟨(e + 999).toNat, by omega⟩ : Fin 1999).val : Int) - 999) = e by show ((e + 999).toNat : Int) - 999 = e; omega] at h2
theorem num_one (c : UInt8) : (NumP.parse [c]).2 = 0 → (NumP.text (NumP.parse [c]).1).length ≤ 6 := by
  have : ∀ k : Fin 256, (NumP.parse [UInt8.ofNat k.val]).2 = 0 → (NumP.text (NumP.parse [UInt8.ofNat k.val]).1).length ≤ 6 := by decide +kernel
  have h := this ⟨c.toNat, c.toNat_lt⟩
  rwa [show UInt8.ofNat (⟨c.toNat, c.toNat_lt⟩ : Fin 256).val = c from UInt8.ofNat_toNat] at h
theorem parse_0 {l : List UInt8} (h : (NumP.parse l).2 = 0) : NumP.ok l = true ∧ NumP.right (NumP.num l) = true ∧ (NumP.parse l).1 = NumP.num l := by
  unfold NumP.parse at h ⊢
  split at h
  · rename_i h1
    split at h
    · rename_i h2
      exact ⟨h1, h2, by rw [if_pos h1, if_pos h2]⟩
    · exact absurd h (by decide)
  · exact absurd h (by decide)
theorem rstrip_le' (D : List UInt8) : (NumP.rstrip D).length ≤ D.length := by
  unfold NumP.rstrip
  rw [List.length_reverse]
  have := (List.dropWhile_sublist (l := D.reverse) NumP.isZ).length_le
  rwa [List.length_reverse] at this
theorem strips (D : List UInt8) : (NumP.rstrip (NumP.lstrip D)).length ≤ D.length := by
  have h1 := rstrip_le' (NumP.lstrip D)
  have h2 : (NumP.lstrip D).length ≤ D.length := (List.dropWhile_sublist _).length_le
  omega
theorem tw_len (p : UInt8 → Bool) (l : List UInt8) : (l.takeWhile p).length + (l.dropWhile p).length = l.length := by
  rw [← List.length_append, List.takeWhile_append_dropWhile]
theorem num_tx (l : List UInt8) (h : (NumP.parse l).2 = 0) : (NumP.text (NumP.parse l).1).length ≤ 6 * l.length ∧ 1 ≤ l.length := by
  obtain ⟨h1, h2, h3⟩ := parse_0 h
  have hne : 1 ≤ l.length := by
    cases l with
    | nil => exact absurd h1 (by decide)
    | cons c l => simp
  refine ⟨?_, hne⟩
  by_cases h4 : l.length = 1
  · obtain ⟨c, rfl⟩ := List.length_eq_one_iff.1 h4
    exact num_one c h
  · rw [h3]
    obtain ⟨d, D, e, hn⟩ : ∃ d D e, NumP.num l = (d, D, e) := ⟨_, _, _, rfl⟩
    rw [hn] at h2
    have hb := right_bd' h2
    have hD : D.length ≤ l.length := by
      have : D = (NumP.num l).2.1 := by rw [hn]
      rw [this]
      unfold NumP.num NumP.form
      split
      · simp [NumP.zero]
      · have k1 := strips (NumP.whole l ++ NumP.dotP (NumP.rest1 l))
        have k2 : (NumP.whole l).length + (NumP.rest1 l).length = (NumP.dropSign l).length := tw_len _ _
        have k3 : (NumP.dropSign l).length ≤ l.length := by unfold NumP.dropSign; split <;> simp
        have k4 : (NumP.dotP (NumP.rest1 l)).length ≤ (NumP.rest1 l).length := by
          unfold NumP.dotP
          split
          · exact Nat.le_trans ((List.takeWhile_sublist _).length_le) (by simp)
          · simp
        rw [List.length_append] at k1
        simp only []
        omega
    rw [hn]
    have hi := itoa_4 e hb.2
    have hs : (NumP.sgn d).length ≤ 1 := by cases d <;> decide
    unfold NumP.text
    simp only []
    (repeat' split) <;> simp <;> omega
theorem num_txF (l : List UInt8) (h : (NumP.parse l).2 = 0) (m : List UInt8 × Int) (n : Nat) (hm : m = ((NumP.parse l).1.2.1, (NumP.parse l).1.2.2)) :
    Pr.num_Text.f (NumP.parse l).1.1 (ofL m.1) m.2 = some (ofL (NumP.text (NumP.parse l).1)) := by
  obtain ⟨h1, h2, h3⟩ := parse_0 h
  obtain ⟨d, D, e, hn⟩ : ∃ d D e, NumP.num l = (d, D, e) := ⟨_, _, _, rfl⟩
  rw [hn] at h2 h3
  have hb := right_bd' h2
  subst hm
  rw [h3]
  exact text_f' d D e (by omega) (by omega)
def jl (l : List (List UInt8)) : Nat := (l.map fun x => x.length + 1).sum
theorem jl_app (a b : List (List UInt8)) : jl (a ++ b) = jl a + jl b := by unfold jl; simp
theorem jl_one (x : List UInt8) : jl [x] = x.length + 1 := by unfold jl; simp
theorem jl_cons (x : List UInt8) (l : List (List UInt8)) : jl (x :: l) = x.length + 1 + jl l := by unfold jl; simp
theorem jl_lens : ∀ l : List (List UInt8), Lib.lens l + l.length = jl l
  | [] => rfl
  | x :: l => by
    have := jl_lens l
    rw [jl_cons, ← this]
    unfold Lib.lens
    simp
    omega
theorem join_le (l : List (List UInt8)) : (Lib.join l [44]).length ≤ jl l := by
  cases l with
  | nil => exact Nat.zero_le _
  | cons x r =>
    rw [Lib.join_length, ← jl_lens]
    simp
    omega
theorem len_jl (l : List (List UInt8)) : l.length ≤ jl l := by rw [← jl_lens]; omega
theorem wrap_ok {l : List (List UInt8)} (a b : UInt8) (h : jl l ≤ 1000000) : wrapF a b l = some (a :: Lib.join l [44] ++ [b]) ∧ (a :: Lib.join l [44] ++ [b]).length ≤ jl l + 2 := by
  have h1 := join_le l
  have h2 := len_jl l
  refine ⟨?_, by simp; omega⟩
  unfold wrapF
  rw [if_pos ⟨by omega, by omega⟩]
theorem items_app {f : S28 → Option (List UInt8)} : ∀ {xs l ys m}, itemsF f xs = some l → itemsF f ys = some m → itemsF f (xs ++ ys) = some (l ++ m)
  | [], l, ys, m, h, k => by simp [itemsF] at h; subst h; exact k
  | x :: t, l, ys, m, h, k => by
    simp only [itemsF, Option.bind_eq_some_iff] at h
    obtain ⟨a, ha, r, hr, h⟩ := h
    obtain rfl : a :: r = l := by simpa using h
    simp [itemsF, ha, items_app hr k]
theorem items_one {f : S28 → Option (List UInt8)} {x : S28} {r : List UInt8} (h : f x = some r) : itemsF f [x] = some [r] := by simp [itemsF, h]
theorem pairs_put {f : S28 → Option (List UInt8)} {x : S28} {r : List UInt8} {k : ByteArray} (hx : f x = some r) (hk : k.data.toList.length ≤ 1000000) (hr : r.length ≤ 1000000000) :
    ∀ (i : Nat) {xs ns l}, xs.length = ns.length → i ≤ xs.length → pairsF f xs ns = some l → pairsF f (put xs i x) (put ns i k) = some (put l i (quoteL k.data.toList ++ [58] ++ r))
  | 0, xs, ns, l, _, _, h => by
    simp only [put, List.take_zero, List.nil_append, List.drop_zero, List.cons_append, pairsF]
    rw [if_pos hk, hx]
    simp only [Option.bind_some]
    rw [if_pos hr, h]
    rfl
  | i + 1, [], ns, l, _, h, _ => absurd h (by simp)
  | i + 1, x' :: xs, [], l, h, _, _ => absurd h (by simp)
  | i + 1, x' :: xs, k' :: ns, l, hl, hi, h => by
    simp only [pairsF] at h
    split at h
    case isFalse => simp at h
    next hk' =>
    rw [Option.bind_eq_some_iff] at h
    obtain ⟨a, ha, h⟩ := h
    split at h
    case isFalse => simp at h
    next hl' =>
    rw [Option.bind_eq_some_iff] at h
    obtain ⟨q, hq, h⟩ := h
    obtain rfl : (quoteL k'.data.toList ++ [58] ++ a) :: q = l := Option.some.inj h
    have ih := pairs_put hx hk hr i (by simpa using hl) (by simpa using hi) hq
    simp only [put, List.take_succ_cons, List.drop_succ_cons, List.cons_append, pairsF] at ih ⊢
    rw [if_pos hk', ha]
    simp only [Option.bind_some]
    rw [if_pos hl', ih]
    rfl
theorem jl_put (l : List (List UInt8)) (i : Nat) (x : List UInt8) : jl (put l i x) = jl l + x.length + 1 := by
  unfold put
  rw [jl_app, jl_app, jl_one]
  have : jl (l.take i) + jl (l.drop i) = jl l := by rw [← jl_app, List.take_append_drop]
  omega
theorem txF_4 (n : Nat) (l : List S28) : txF (n + 1) ⟨4, false, z24, ⟨#[]⟩, l, []⟩ = (itemsF (txF n) l).bind (wrapF 91 93) := rfl
theorem txF_5 (n : Nat) (l : List S28) (m : List ByteArray) : txF (n + 1) ⟨5, false, z24, ⟨#[]⟩, l, m⟩ = (pairsF (txF n) l m).bind (wrapF 123 125) := rfl
theorem txF_3 (n : Nat) (l : List UInt8) (h : l.length ≤ 1000000) : txF (n + 1) ⟨3, false, z24, ofL l, [], []⟩ = some (quoteL l) := (show txF (n + 1) ⟨3, false, z24, ofL l, [], []⟩ = if l.length ≤ 1000000 then some (quoteL l) else none from rfl).trans (if_pos h)
theorem txF_2 (n : Nat) (a : S24) : txF (n + 1) ⟨2, false, a, ⟨#[]⟩, [], []⟩ = (Pr.num_Text.f a.f0 a.f1 a.f2).bind fun b => some b.data.toList := rfl
def Sized (n : Nat) (f : S → S28 × S) : Prop := ∀ a, a.s.length ≤ 50000 → (f a).2.e = 0 → ∃ r, txF n (f a).1 = some r ∧ r.length + 6 * (f a).2.s.length ≤ 6 * a.s.length
theorem skip_le (a : S) : a.skip.s.length ≤ a.s.length := skip_len a
theorem need_w {a : S} {p : List UInt8} (h : (a.need p).e = 0) : (a.need p).s.length + p.length ≤ a.s.length := by
  unfold S.need at h ⊢
  by_cases ht : a.took p = true
  · rw [if_pos ht, take_yes ht]
    have hp : Lib.hasPrefix a.skip.s p = true := by unfold S.took at ht; simp at ht; exact ht.1
    unfold Lib.trimPrefix
    rw [if_pos hp]
    unfold Lib.hasPrefix at hp
    rw [List.isPrefixOf_iff_prefix] at hp
    have := hp.length_le
    have := skip_le a
    simp only [List.length_drop]
    omega
  · rw [if_neg ht] at h
    exact absurd h (fail_ne _ 11 (by decide))
theorem arr_sized {n : Nat} (h : Sized n (gv n)) (c : UInt8) (l : List UInt8) (o : Int) (hl : (c :: l).length ≤ 50000) (h0 : (S.arr (gv n) ⟨c :: l, o, 0⟩).2.e = 0) :
    ∃ r, txF (n + 1) (S.arr (gv n) ⟨c :: l, o, 0⟩).1 = some r ∧ r.length + 6 * (S.arr (gv n) ⟨c :: l, o, 0⟩).2.s.length ≤ 6 * (c :: l).length := by
  have hen : S.enter ⟨c :: l, o, 0⟩ = ⟨l, o + 1, 0⟩ ∨ (S.enter ⟨c :: l, o, 0⟩).e = 35 := by
    unfold S.enter S.enter0
    split
    · right; rfl
    · left; rfl
  have h1 : (listG (arrT (gv n)) [93] [] (S.enter ⟨c :: l, o, 0⟩)).2.e = 0 := h0
  rcases hen with hen | hen
  · rw [hen] at h1
    have := listG_inv (st := arrT (gv n)) (Inv := fun xs k => ∃ t, itemsF (txF n) xs = some t ∧ jl t + 6 * k ≤ 6 * l.length + 6 ∧ k ≤ l.length + 1) (fun x a h => arrT_e h n x) (fun x k j ⟨t, h1, h2, h3⟩ hj => ⟨t, h1, by omega, by omega⟩)
      (fun x a ha ⟨t, h1, h2, h3⟩ hv => by
        have hv' : (gv n a).2.e = 0 := hv
        obtain ⟨r, k1, k2⟩ := h a (by simp at hl; omega) hv'
        refine ⟨t ++ [r], items_app h1 (items_one k1), ?_, ?_⟩
        · rw [jl_app, jl_one]
          show jl t + (r.length + 1) + 6 * (gv n a).2.s.length ≤ _
          omega
        · have := (keeps_gv n a).len
          show (gv n a).2.s.length ≤ _
          omega) 93 [] ⟨l, o + 1, 0⟩ ⟨[], rfl, by simp [jl]; omega, Nat.le_refl _⟩ h1
    obtain ⟨t, k1, k2, k3⟩ := this
    have hw := wrap_ok (l := t) 91 93 (by simp at hl; omega)
    unfold S.arr
    rw [listF_G, hen]
    refine ⟨91 :: Lib.join t [44] ++ [93], ?_, ?_⟩
    · simp only []
      rw [txF_4, k1]
      exact hw.1
    · simp only [List.length_cons]
      have := hw.2
      omega
  · exact absurd h1 (by rw [listG_e (fun x a h => arrT_e h n x) _ _ (by rw [hen]; decide), hen]; decide)
theorem pos_len (ns : List ByteArray) (x : ByteArray) : pos ns x ≤ ns.length := pos_le ns x
theorem obj_sized {n : Nat} (h : Sized n (gv n)) (c : UInt8) (l : List UInt8) (o : Int) (hl : (c :: l).length ≤ 50000) (h0 : (S.obj (gv n) ⟨c :: l, o, 0⟩).2.e = 0) :
    ∃ r, txF (n + 1) (S.obj (gv n) ⟨c :: l, o, 0⟩).1 = some r ∧ r.length + 6 * (S.obj (gv n) ⟨c :: l, o, 0⟩).2.s.length ≤ 6 * (c :: l).length := by
  have hen : S.enter ⟨c :: l, o, 0⟩ = ⟨l, o + 1, 0⟩ ∨ (S.enter ⟨c :: l, o, 0⟩).e = 35 := by
    unfold S.enter S.enter0
    split
    · right; rfl
    · left; rfl
  have h1 : (listG (objT (gv n)) [125] ([], []) (S.enter ⟨c :: l, o, 0⟩)).2.e = 0 := h0
  rcases hen with hen | hen
  · rw [hen] at h1
    have := listG_inv (st := objT (gv n)) (Inv := fun p k => ∃ t, pairsF (txF n) p.1 p.2 = some t ∧ p.1.length = p.2.length ∧ jl t + 6 * k ≤ 6 * l.length + 6 ∧ k ≤ l.length + 1) (fun x a h => objT_e h n x) (fun x k j ⟨t, h1, h2, h3, h4⟩ hj => ⟨t, h1, h2, by omega, by omega⟩)
      (fun x a ha ⟨t, h1, h2, h3, h4⟩ hv => by
        unfold objT at hv ⊢
        by_cases hp : Lib.hasPrefix a.skip.s [34] = false
        · rw [if_pos hp] at hv
          exact absurd hv (fail_ne _ 11 (by decide))
        rw [if_neg hp] at hv ⊢
        have hv' : (gv n (objA x.2 a)).2.e = 0 := hv
        have he := e0_of (f := fun a => (gv n a).2) (fun a ha => by rw [gv_bad ha]; rfl) hv'
        have hk : a.skip.s ≠ [] := fun e => hp (by rw [e]; rfl)
        have hst : (a.skip.st).2.e = 0 := by
          refine e0_of (f := fun b => S.need (S.twice b (has x.2 (objN a))) [58]) (fun b hb => ?_) (a := a.skip.st.2) he
          have := twice_e hb (has x.2 (objN a))
          rw [need_e (by rw [this]; exact hb), this]
        have hs1 := st_sz a.skip hk hst
        have hs2 := skip_le a
        have hs3 : (objA x.2 a).s.length + 1 ≤ (a.skip.st).2.s.length := by
          have h7 := need_w (a := S.twice a.skip.st.2 (has x.2 (objN a))) (p := [58]) he
          have h8 : (S.twice a.skip.st.2 (has x.2 (objN a))).s = a.skip.st.2.s := by
            unfold S.twice
            split
            · exact fail_s _ _
            · rfl
          rw [h8] at h7
          exact h7
        have hb1 := st_bd a.skip
        obtain ⟨r, k1, k2⟩ := h (objA x.2 a) (by simp at hl; omega) hv'
        have hN : (objN a).data.toList = (a.skip.st).1 := ofL_data _
        have hp2 := pairs_put (k := objN a) k1 (by rw [hN]; simp at hl; omega) (by simp at hl; omega) (pos x.2 (objN a)) h2 (by rw [h2]; exact pos_len _ _) h1
        refine ⟨_, hp2, ?_, ?_, ?_⟩
        · have := pos_len x.2 (objN a)
          simp only [put, List.length_append, List.length_take, List.length_drop, List.length_cons, List.length_nil]
          omega
        · rw [jl_put, hN]
          simp only [List.length_append, List.length_cons, List.length_nil]
          omega
        · have := (keeps_gv n (objA x.2 a)).len
          simp only []
          omega) 125 ([], []) ⟨l, o + 1, 0⟩ ⟨[], rfl, rfl, by simp [jl]; omega, Nat.le_refl _⟩ h1
    obtain ⟨t, k1, k4, k2, k3⟩ := this
    have hw := wrap_ok (l := t) 123 125 (by simp at hl; omega)
    unfold S.obj
    rw [listF_G, hen]
    refine ⟨123 :: Lib.join t [44] ++ [125], ?_, ?_⟩
    · simp only []
      rw [txF_5, k1]
      exact hw.1
    · simp only [List.length_cons]
      have := hw.2
      omega
  · exact absurd h1 (by rw [listG_e (fun x a h => objT_e h n x) _ _ (by rw [hen]; decide), hen]; decide)
theorem gv_sized : ∀ n, Sized n (gv n)
  | 0 => fun a hl h => by
    exfalso
    unfold gv at h
    split at h
    · exact fail_ne _ 11 (by decide) h
    · rename_i h1; exact h1 h
  | n + 1 => fun a hl h => by
    have he : a.e = 0 := e0_of (f := fun a => (gv (n + 1) a).2) (fun a ha => by rw [gv_bad ha]; rfl) h
    have hs := skip_le a
    have hv : gv (n + 1) a = S.value1 textV (S.arr (gv n)) (S.obj (gv n)) a.skip := rfl
    rw [hv] at h ⊢
    have hse : a.skip.e = 0 := he
    generalize a.skip = b at h hs hse ⊢
    obtain ⟨s, o, e⟩ := b
    simp only [] at hs hse
    subst hse
    suffices ∃ r, txF (n + 1) (S.value1 textV (S.arr (gv n)) (S.obj (gv n)) ⟨s, o, 0⟩).1 = some r ∧ r.length + 6 * (S.value1 textV (S.arr (gv n)) (S.obj (gv n)) ⟨s, o, 0⟩).2.s.length ≤ 6 * s.length by
      obtain ⟨r, h1, h2⟩ := this
      exact ⟨r, h1, by omega⟩
    unfold S.value1 at h ⊢
    rw [if_neg (show ¬ (S.mk s o 0).e ≠ 0 from fun h => h rfl)] at h ⊢
    cases s with
    | nil => exact absurd h (fail_ne ⟨[], o, 0⟩ 11 (by decide))
    | cons c l =>
      simp only [] at h ⊢
      have nd : ∀ p r x, p.length = 4 ∨ p.length = 5 → r.length ≤ 5 → txF (n + 1) x = some r → (S.need ⟨c :: l, o, 0⟩ p).e = 0 → ∃ r, txF (n + 1) x = some r ∧ r.length + 6 * (S.need ⟨c :: l, o, 0⟩ p).s.length ≤ 6 * (c :: l).length := fun p r x hp hr hx hn => by
        have h1 := need_w hn
        refine ⟨r, hx, ?_⟩
        simp only [] at h1
        omega
      split at h
      · rename_i hc; rw [if_pos hc]; exact nd _ [110, 117, 108, 108] _ (.inl rfl) (by decide) rfl h
      rename_i hc; rw [if_neg hc]
      split at h
      · rename_i hc; rw [if_pos hc]; exact nd _ [116, 114, 117, 101] _ (.inl rfl) (by decide) rfl h
      rename_i hc; rw [if_neg hc]
      split at h
      · rename_i hc; rw [if_pos hc]; exact nd _ [102, 97, 108, 115, 101] _ (.inr rfl) (by decide) rfl h
      rename_i hc; rw [if_neg hc]
      split at h
      · rename_i hc; rw [if_pos hc]
        have h1 := st_sz ⟨c :: l, o, 0⟩ (by simp) h
        have h2 := st_bd ⟨c :: l, o, 0⟩
        refine ⟨quoteL (S.st ⟨c :: l, o, 0⟩).1, ?_, h1⟩
        exact txF_3 n _ (by simp only [] at h2; omega)
      rename_i hc; rw [if_neg hc]
      split at h
      · rename_i hc; rw [if_pos hc]
        exact arr_sized (gv_sized n) c l o (by omega) h
      rename_i hc; rw [if_neg hc]
      split at h
      · rename_i hc; rw [if_pos hc]
        exact obj_sized (gv_sized n) c l o (by omega) h
      rename_i hc; rw [if_neg hc]
      split at h
      · rename_i hc; rw [if_pos hc]
        have hn : (NumP.parse (S.numL ⟨c :: l, o, 0⟩)).2 = 0 := by
          unfold S.numS at h
          simp only [] at h
          split at h
          · assumption
          · rename_i h9
            rw [fail_e0 rfl] at h
            exact absurd h h9
        have ht := num_tx _ hn
        have hL : (S.numL ⟨c :: l, o, 0⟩).length + (S.numS ⟨c :: l, o, 0⟩).s.length = (c :: l).length := by
          have hle := numR_le ⟨c :: l, o, 0⟩
          show (List.take _ _).length + (S.numR ⟨c :: l, o, 0⟩).length = _
          rw [List.length_take]
          simp only [] at hle ⊢
          omega
        refine ⟨NumP.text (NumP.parse (S.numL ⟨c :: l, o, 0⟩)).1, ?_, by simp only []; omega⟩
        refine (txF_2 n _).trans ?_
        have := num_txF _ hn _ 0 rfl
        simp only [] at this
        rw [this]
        rfl
      · exact absurd h (fail_ne ⟨c :: l, o, 0⟩ 11 (by decide))
theorem pv_text (s : List UInt8) : ∃ r, txF 17 (pv s).1 = some r ∧ ((pv s).2 = 0 → r.length ≤ 6 * s.length) := by
  generalize hp : pv s = q
  obtain ⟨x, e⟩ := q
  simp only []
  by_cases he : e = 0
  · subst he
    obtain ⟨hl, r, hg, hr⟩ := pv_ok hp
    obtain ⟨t, h1, h2⟩ := gv_sized 17 ⟨s, 0, 0⟩ (by show s.length ≤ _; omega) (by rw [hg])
    rw [hg] at h1 h2
    exact ⟨t, h1, fun _ => by simp only [] at h2; omega⟩
  · refine ⟨[110, 117, 108, 108], ?_, fun h => absurd h he⟩
    have hx : x = z28 := by
      by_cases hl : s.length ≤ 4096
      · rw [pv_gv s hl] at hp
        split at hp
        · exact absurd (congrArg Prod.snd hp).symm he
        · exact (congrArg Prod.fst hp).symm
      · unfold pv parseV at hp
        rw [if_pos (by omega)] at hp
        exact (congrArg Prod.fst hp).symm
    rw [hx]
    rfl
end Js
end Go.Proofs.YtapcpndplnkfjaaGreatDoor
namespace Go.Proofs.YtapcpndplnkfjaaGreatDoor
open Go.RowKit Go.Proofs.YtapcpndplnkfjaaGreatDoorW.PrintWords Go.Proofs.YtapcpndplnkfjaaGreatDoorW.PrintLast Go.Proofs.YtapcpndplnkfjaaGreatDoorW.PrintMore
set_option linter.unusedVariables false
set_option linter.unusedSimpArgs false
namespace Js
def good (p : Nat × Nat) : Prop := ¬ (p.1 = 65533 ∧ p.2 = 1)
theorem decN_cut (n b0 b1 b2 b3 c1 c2 c3 : Nat) (hn : 1 ≤ n) (hg : good (Lib.decodeN n b0 b1 b2 b3)) (h1 : 1 < (Lib.decodeN n b0 b1 b2 b3).2 → c1 = b1) (h2 : 2 < (Lib.decodeN n b0 b1 b2 b3).2 → c2 = b2) (h3 : 3 < (Lib.decodeN n b0 b1 b2 b3).2 → c3 = b3) :
    Lib.decodeN (Lib.decodeN n b0 b1 b2 b3).2 b0 c1 c2 c3 = Lib.decodeN n b0 b1 b2 b3 ∧ (Lib.decodeN n b0 b1 b2 b3).2 ≤ n ∧ (Lib.decodeN n b0 b1 b2 b3).2 ≤ 4 := by
  unfold good at hg
  generalize hd : Lib.decodeN n b0 b1 b2 b3 = d at *
  unfold Lib.decodeN at hd
  by_cases g0 : b0 < 128
  · rw [if_pos g0] at hd
    subst hd
    refine ⟨?_, hn, by simp⟩
    unfold Lib.decodeN
    rw [if_pos g0]
  rw [if_neg g0] at hd
  by_cases g1 : b0 / 32 = 6 ∧ (1 < n ∧ b1 / 64 = 2)
  · rw [if_pos g1] at hd
    split at hd
    · rename_i k
      subst hd
      have := h1 (by simp)
      subst this
      refine ⟨?_, g1.2.1, by simp⟩
      unfold Lib.decodeN
      rw [if_neg g0, if_pos ⟨g1.1, by simp, g1.2.2⟩, if_pos k]
    · subst hd; exact absurd ⟨rfl, rfl⟩ hg
  rw [if_neg g1] at hd
  by_cases g2 : b0 / 16 = 14 ∧ (1 < n ∧ b1 / 64 = 2) ∧ (2 < n ∧ b2 / 64 = 2)
  · rw [if_pos g2] at hd
    split at hd
    · rename_i k
      subst hd
      have k1 := h1 (by simp)
      have k2 := h2 (by simp)
      subst k1 k2
      refine ⟨?_, g2.2.2.1, by simp⟩
      unfold Lib.decodeN
      rw [if_neg g0, if_neg (by omega), if_pos ⟨g2.1, ⟨by simp, g2.2.1.2⟩, ⟨by simp, g2.2.2.2⟩⟩, if_pos k]
    · subst hd; exact absurd ⟨rfl, rfl⟩ hg
  rw [if_neg g2] at hd
  by_cases g3 : b0 / 8 = 30 ∧ (1 < n ∧ b1 / 64 = 2) ∧ (2 < n ∧ b2 / 64 = 2) ∧ (3 < n ∧ b3 / 64 = 2)
  · rw [if_pos g3] at hd
    split at hd
    · rename_i k
      subst hd
      have k1 := h1 (by simp)
      have k2 := h2 (by simp)
      have k3 := h3 (by simp)
      subst k1 k2 k3
      refine ⟨?_, g3.2.2.2.1, by simp⟩
      unfold Lib.decodeN
      rw [if_neg g0, if_neg (by omega), if_neg (by omega), if_pos ⟨g3.1, ⟨by simp, g3.2.1.2⟩, ⟨by simp, g3.2.2.1.2⟩, ⟨by simp, g3.2.2.2.2⟩⟩, if_pos k]
    · subst hd; exact absurd ⟨rfl, rfl⟩ hg
  rw [if_neg g3] at hd
  subst hd
  exact absurd ⟨rfl, rfl⟩ hg
def Ch (c : List UInt8) : Prop := c ≠ [] ∧ good (Lib.decodeL c) ∧ (Lib.decodeL c).2 = c.length
theorem getD_take (l : List UInt8) (w k : Nat) (h : k < w) : (l.take w).getD k 0 = l.getD k 0 := by simp [List.getD, List.getElem?_take, h]
theorem Ch_take {l : List UInt8} (hl : l ≠ []) (hg : good (Lib.decodeL l)) : Ch (l.take (Lib.decodeL l).2) ∧ Lib.decodeL (l.take (Lib.decodeL l).2) = Lib.decodeL l ∧ (Lib.decodeL l).2 ≤ l.length := by
  have h1 : 1 ≤ l.length := List.length_pos_iff.2 hl
  have hw := Lib.decodeL_width l
  have hle := Lib.decodeL_le l hl
  have hd : Lib.decodeL (l.take (Lib.decodeL l).2) = Lib.decodeL l := by
    have hg' := hg
    rw [Lib.decodeL_N] at hg'
    have hlen : (l.take (Lib.decodeL l).2).length = (Lib.decodeL l).2 := by rw [List.length_take]; omega
    conv => lhs; rw [Lib.decodeL_N]
    rw [hlen]
    have hN := Lib.decodeL_N l
    have := decN_cut l.length (l.getD 0 0).toNat (l.getD 1 0).toNat (l.getD 2 0).toNat (l.getD 3 0).toNat ((l.take (Lib.decodeL l).2).getD 1 0).toNat ((l.take (Lib.decodeL l).2).getD 2 0).toNat ((l.take (Lib.decodeL l).2).getD 3 0).toNat h1 hg'
      (fun h => by rw [← hN] at h; rw [getD_take _ _ _ h]) (fun h => by rw [← hN] at h; rw [getD_take _ _ _ h]) (fun h => by rw [← hN] at h; rw [getD_take _ _ _ h])
    rw [← hN] at this
    rw [getD_take _ _ _ (by omega)]
    exact this.1
  refine ⟨⟨?_, ?_, ?_⟩, hd, hle⟩
  · intro h
    have : (l.take (Lib.decodeL l).2).length = 0 := by rw [h]; rfl
    rw [List.length_take] at this
    omega
  · rw [hd]; exact hg
  · rw [hd, List.length_take]; omega
theorem Ch_app {c : List UInt8} (h : Ch c) (t : List UInt8) : Lib.decodeL (c ++ t) = Lib.decodeL c := by
  have hc : 0 < c.length := List.length_pos_iff.2 h.1
  have := dec_more c t 0 hc
  rw [← Lib.decodeL_drop, ← Lib.decodeL_drop, ofL_data, ofL_data, List.drop_zero, List.drop_zero] at this
  exact this h.2.1
inductive U8 : List UInt8 → Prop
  | nil : U8 []
  | cons (c t : List UInt8) : Ch c → U8 t → U8 (c ++ t)
theorem U8.app {a b : List UInt8} (h : U8 a) (k : U8 b) : U8 (a ++ b) := by
  induction h with
  | nil => exact k
  | cons c t hc _ ih => rw [List.append_assoc]; exact .cons c _ hc ih
theorem U8.one {c : List UInt8} (h : Ch c) : U8 c := by have := U8.cons c [] h .nil; rwa [List.append_nil] at this
theorem Ch_ascii (b : UInt8) (h : b.toNat < 128) : Ch [b] := by
  have hd : Lib.decodeL [b] = (b.toNat, 1) := Lib.decodeL_ascii b [] h
  exact ⟨by simp, by rw [hd]; rintro ⟨k, -⟩; simp only [] at k; omega, by rw [hd]; rfl⟩
def plainL : Nat → List UInt8 → Nat × Bool
  | 0, _ => (0, false)
  | n + 1, l =>
    if l = [] then (0, false) else
    if (Lib.decodeL l).1 = 34 ∨ (Lib.decodeL l).1 = 92 then (0, true) else
    if (Lib.decodeL l).1 < 32 then (0, false) else
    if (Lib.decodeL l).1 = 65533 ∧ (Lib.decodeL l).2 < 2 then (0, false) else
    ((Lib.decodeL l).2 + (plainL n (l.drop (Lib.decodeL l).2)).1, (plainL n (l.drop (Lib.decodeL l).2)).2)
theorem plainF_L (s : List UInt8) : ∀ n k, k ≤ s.length → s.length < n + k → plainF (ofL s) n k = (k + (plainL n (s.drop k)).1, (plainL n (s.drop k)).2)
  | 0, k, h, h2 => absurd h2 (by omega)
  | n + 1, k, h, h2 => by
    rw [plainF, plainL, ofL_size]
    by_cases hk : k < s.length
    · have hne : s.drop k ≠ [] := by intro e; have := congrArg List.length e; simp at this; omega
      have hd : Lib.decodeL (s.drop k) = Utf8.decode (ofL s) k := Lib.decodeL_drop (ofL s) k
      have hg : (Lib.decodeGo ((ofL s).extract k s.length)).2 = (Utf8.decode (ofL s) k).2 := by
        have := Lib.decodeGo_extract (ofL s) k (by rw [ofL_size]; exact hk)
        rw [ofL_size] at this
        rw [this]
      have hle := Lib.decodeL_le (s.drop k) hne
      have hw := Lib.decodeL_width (s.drop k)
      rw [if_pos hk, if_neg hne, hd, hg]
      rw [hd] at hle hw
      rw [List.length_drop] at hle
      split
      · simp
      split
      · simp
      split
      · simp
      · rw [plainF_L s n _ (by omega) (by omega), List.drop_drop]
        simp only [Prod.mk.injEq, and_true]
        omega
    · have : s.drop k = [] := List.drop_eq_nil_of_le (by omega)
      rw [if_neg hk, this, if_pos rfl]
      simp; omega
theorem plain_L (s : List UInt8) (o e : Int) : S.plain ⟨s, o, e⟩ = plainL (s.length + 1) s := by
  unfold S.plain
  rw [plainF_L s _ 0 (Nat.zero_le _) (by rw [ofL_size]; show s.length < s.length + 1 + 0; omega), ofL_size, List.drop_zero]
  simp
theorem plainL_fuel : ∀ (n m : Nat) (l : List UInt8), l.length < n → l.length < m → plainL n l = plainL m l
  | 0, _, _, h, _ => absurd h (by omega)
  | _, 0, _, _, h => absurd h (by omega)
  | n + 1, m + 1, l, h, k => by
    rw [plainL, plainL]
    by_cases hl : l = []
    · rw [if_pos hl, if_pos hl]
    · have hw := Lib.decodeL_width l
      have hp : 0 < l.length := List.length_pos_iff.2 hl
      rw [plainL_fuel n m (l.drop (Lib.decodeL l).2) (by rw [List.length_drop]; omega) (by rw [List.length_drop]; omega)]
theorem plainL_U8 : ∀ (n : Nat) (l : List UInt8), (plainL n l).2 = true → U8 (l.take (plainL n l).1)
  | 0, _, h => by cases h
  | n + 1, l, h => by
    rw [plainL] at h ⊢
    by_cases h0 : l = []
    · rw [if_pos h0] at h; cases h
    rw [if_neg h0] at h ⊢
    split
    · exact .nil
    rename_i h1
    rw [if_neg h1] at h
    split
    · exact .nil
    rename_i h2
    rw [if_neg h2] at h
    split
    · exact .nil
    rename_i h3
    rw [if_neg h3] at h
    have hg : good (Lib.decodeL l) := fun hh => h3 ⟨hh.1, by omega⟩
    have hc := Ch_take h0 hg
    have ih := plainL_U8 n (l.drop (Lib.decodeL l).2) h
    simp only []
    rw [List.take_add]
    exact .cons _ _ hc.1 ih
theorem Ch_enc (x : Int) : Ch (encL x) := by
  have key : ∀ c : Nat, c < 55296 ∨ (57343 < c ∧ c ≤ 1114111) → Ch (if c < 128 then [UInt8.ofNat c] else if c < 2048 then [UInt8.ofNat (192 + c / 64), UInt8.ofNat (128 + c % 64)] else if c < 65536 then [UInt8.ofNat (224 + c / 4096), UInt8.ofNat (128 + c / 64 % 64), UInt8.ofNat (128 + c % 64)] else [UInt8.ofNat (240 + c / 262144), UInt8.ofNat (128 + c / 4096 % 64), UInt8.ofNat (128 + c / 64 % 64), UInt8.ofNat (128 + c % 64)]) := by
    intro c hc
    have tn : ∀ k, k < 256 → (UInt8.ofNat k).toNat = k := fun k hk => by rw [UInt8.toNat_ofNat']; omega
    split
    · exact Ch_ascii _ (by rw [tn _ (by omega)]; omega)
    split
    · have hd : Lib.decodeL [UInt8.ofNat (192 + c / 64), UInt8.ofNat (128 + c % 64)] = (c, 2) := by
        rw [Lib.decodeL_N]
        show Lib.decodeN 2 (UInt8.ofNat (192 + c / 64)).toNat (UInt8.ofNat (128 + c % 64)).toNat _ _ = _
        rw [tn _ (by omega), tn _ (by omega)]
        unfold Lib.decodeN
        rw [if_neg (by omega), if_pos ⟨by omega, by decide, by omega⟩, if_pos (by omega)]
        simp; omega
      exact ⟨by simp, by rw [hd]; rintro ⟨-, k⟩; simp at k, by rw [hd]; rfl⟩
    split
    · have hd : Lib.decodeL [UInt8.ofNat (224 + c / 4096), UInt8.ofNat (128 + c / 64 % 64), UInt8.ofNat (128 + c % 64)] = (c, 3) := by
        rw [Lib.decodeL_N]
        show Lib.decodeN 3 (UInt8.ofNat (224 + c / 4096)).toNat (UInt8.ofNat (128 + c / 64 % 64)).toNat (UInt8.ofNat (128 + c % 64)).toNat _ = _
        rw [tn _ (by omega), tn _ (by omega), tn _ (by omega)]
        unfold Lib.decodeN
        rw [if_neg (by omega), if_neg (by omega), if_pos ⟨by omega, ⟨by decide, by omega⟩, ⟨by decide, by omega⟩⟩, if_pos (by omega)]
        simp; omega
      exact ⟨by simp, by rw [hd]; rintro ⟨-, k⟩; simp at k, by rw [hd]; rfl⟩
    · have hd : Lib.decodeL [UInt8.ofNat (240 + c / 262144), UInt8.ofNat (128 + c / 4096 % 64), UInt8.ofNat (128 + c / 64 % 64), UInt8.ofNat (128 + c % 64)] = (c, 4) := by
        rw [Lib.decodeL_N]
        show Lib.decodeN 4 (UInt8.ofNat (240 + c / 262144)).toNat (UInt8.ofNat (128 + c / 4096 % 64)).toNat (UInt8.ofNat (128 + c / 64 % 64)).toNat (UInt8.ofNat (128 + c % 64)).toNat = _
        rw [tn _ (by omega), tn _ (by omega), tn _ (by omega), tn _ (by omega)]
        unfold Lib.decodeN
        rw [if_neg (by omega), if_neg (by omega), if_neg (by omega), if_pos ⟨by omega, ⟨by decide, by omega⟩, ⟨by decide, by omega⟩, ⟨by decide, by omega⟩⟩, if_pos (by omega)]
        simp; omega
      exact ⟨by simp, by rw [hd]; rintro ⟨-, k⟩; simp at k, by rw [hd]; rfl⟩
  unfold encL Utf8.encode
  have hv : ∀ c : Nat, c = (if Utf8.valid x then x.toNat else Utf8.runeError) → c < 55296 ∨ (57343 < c ∧ c ≤ 1114111) := by
    intro c hc
    rw [hc]
    split
    · rename_i h
      simp only [Utf8.valid, Bool.or_eq_true, Bool.and_eq_true, decide_eq_true_eq] at h
      omega
    · right; decide
  have := key _ (hv _ rfl)
  simp only []
  generalize (if Utf8.valid x then x.toNat else Utf8.runeError) = c at *
  by_cases h1 : c < 128
  · rw [if_pos h1] at this ⊢; exact this
  rw [if_neg h1] at this ⊢
  by_cases h2 : c < 2048
  · rw [if_pos h2] at this ⊢; exact this
  rw [if_neg h2] at this ⊢
  by_cases h3 : c < 65536
  · rw [if_pos h3] at this ⊢; exact this
  · rw [if_neg h3] at this ⊢; exact this
theorem escL_U8 (c : UInt8) (h : ¬ escI c < 0) : U8 (escL (escI c)) := by
  have hb := escI_b c
  have : ∀ i : Fin 8, ∃ b : UInt8, b.toNat < 128 ∧ escL (i.val : Int) = [b] := by
    intro i
    match i with
    | ⟨0, _⟩ => exact ⟨34, by decide, by rfl⟩
    | ⟨1, _⟩ => exact ⟨92, by decide, by rfl⟩
    | ⟨2, _⟩ => exact ⟨47, by decide, by rfl⟩
    | ⟨3, _⟩ => exact ⟨8, by decide, by rfl⟩
    | ⟨4, _⟩ => exact ⟨12, by decide, by rfl⟩
    | ⟨5, _⟩ => exact ⟨10, by decide, by rfl⟩
    | ⟨6, _⟩ => exact ⟨13, by decide, by rfl⟩
    | ⟨7, _⟩ => exact ⟨9, by decide, by rfl⟩
  obtain ⟨b, h1, h2⟩ := this ⟨(escI c).toNat, by omega⟩
  rw [show (((⟨(escI c).toNat, by omega⟩ : Fin 8).val : Int)) = escI c by show ((escI c).toNat : Int) = _; omega] at h2
  rw [h2]
  exact U8.one (Ch_ascii b h1)
theorem sign_U8 (a : S) : U8 (a.sign).1 := by
  unfold S.sign
  split
  · exact U8.one (Ch_enc _)
  split
  · exact .nil
  · exact U8.one (Ch_enc _)
theorem esc_U8 (a : S) : U8 (a.esc).1 := by
  obtain ⟨s, o, e⟩ := a
  cases s with
  | nil => exact .nil
  | cons c l =>
    show U8 (S.escT c ⟨l, o, e⟩).1
    unfold S.escT
    split
    · exact sign_U8 _
    split
    · exact .nil
    · rename_i h; exact escL_U8 c h
theorem strLoop_U8 : ∀ (n : Nat) (out : List UInt8) (a : S), U8 out → (strLoop S.esc n out a).2.e = 0 → U8 (strLoop S.esc n out a).1
  | 0, out, a, h, _ => h
  | n + 1, out, a, h, he => by
    rw [strLoop] at he ⊢
    split
    · exact h
    rename_i h0
    rw [if_neg h0] at he
    split
    · rename_i h1
      rw [if_pos h1] at he
      exact absurd he (fail_ne _ 11 (by decide))
    rename_i h1
    rw [if_neg h1] at he
    have hu : U8 (a.s.take a.plain.1) := by
      have hp : a.plain.2 = true := by simpa using h1
      rw [show a.plain = plainL (a.s.length + 1) a.s from plain_L a.s a.o a.e] at hp ⊢
      exact plainL_U8 _ _ hp
    split
    · exact h.app hu
    · rename_i h2
      rw [if_neg h2] at he
      exact strLoop_U8 n _ _ ((h.app hu).app (esc_U8 _)) he
theorem st_U8 (a : S) (h : (a.st).2.e = 0) : U8 (a.st).1 := strLoop_U8 _ [] _ .nil h
theorem Ch_len {c : List UInt8} (h : Ch c) (h1 : 128 ≤ (Lib.decodeL c).1) : ∀ b ∈ c, 128 ≤ b.toNat := by
  have hg := h.2.1
  have hl := h.2.2
  rw [Lib.decodeL_N] at hg hl h1
  intro b hb
  obtain ⟨i, hi, rfl⟩ := List.mem_iff_getElem.1 hb
  have hget : ∀ k, k < c.length → c.getD k 0 = c[k]! := fun k hk => by simp [List.getD, hk]
  have hgi : c.getD i 0 = c[i] := by simp [List.getD, hi]
  rw [← hgi]
  generalize hd : Lib.decodeN c.length (c.getD 0 0).toNat (c.getD 1 0).toNat (c.getD 2 0).toNat (c.getD 3 0).toNat = d at *
  unfold Lib.decodeN at hd
  by_cases g0 : (c.getD 0 0).toNat < 128
  · rw [if_pos g0] at hd; subst hd; simp only [] at h1; omega
  rw [if_neg g0] at hd
  have cs : ∀ w, c.length = w → w ≤ 4 → i < w → (i = 0 ∨ i = 1 ∨ i = 2 ∨ i = 3) := fun w _ _ _ => by omega
  by_cases g1 : (c.getD 0 0).toNat / 32 = 6 ∧ (1 < c.length ∧ (c.getD 1 0).toNat / 64 = 2)
  · rw [if_pos g1] at hd
    split at hd
    · subst hd
      have : i = 0 ∨ i = 1 := by simp only [] at hl; omega
      rcases this with rfl | rfl <;> omega
    · subst hd; exact absurd ⟨rfl, rfl⟩ hg
  rw [if_neg g1] at hd
  by_cases g2 : (c.getD 0 0).toNat / 16 = 14 ∧ (1 < c.length ∧ (c.getD 1 0).toNat / 64 = 2) ∧ (2 < c.length ∧ (c.getD 2 0).toNat / 64 = 2)
  · rw [if_pos g2] at hd
    split at hd
    · subst hd
      have : i = 0 ∨ i = 1 ∨ i = 2 := by simp only [] at hl; omega
      rcases this with rfl | rfl | rfl <;> omega
    · subst hd; exact absurd ⟨rfl, rfl⟩ hg
  rw [if_neg g2] at hd
  by_cases g3 : (c.getD 0 0).toNat / 8 = 30 ∧ (1 < c.length ∧ (c.getD 1 0).toNat / 64 = 2) ∧ (2 < c.length ∧ (c.getD 2 0).toNat / 64 = 2) ∧ (3 < c.length ∧ (c.getD 3 0).toNat / 64 = 2)
  · rw [if_pos g3] at hd
    split at hd
    · subst hd
      have : i = 0 ∨ i = 1 ∨ i = 2 ∨ i = 3 := by simp only [] at hl; omega
      rcases this with rfl | rfl | rfl | rfl <;> omega
    · subst hd; exact absurd ⟨rfl, rfl⟩ hg
  rw [if_neg g3] at hd
  subst hd; exact absurd ⟨rfl, rfl⟩ hg
end Js
end Go.Proofs.YtapcpndplnkfjaaGreatDoor
namespace Go.Proofs.YtapcpndplnkfjaaGreatDoor
open Go.RowKit Go.Proofs.YtapcpndplnkfjaaGreatDoorW.PrintWords Go.Proofs.YtapcpndplnkfjaaGreatDoorW.PrintLast Go.Proofs.YtapcpndplnkfjaaGreatDoorW.PrintMore
set_option linter.unusedVariables false
set_option linter.unusedSimpArgs false
namespace Js
def cmpL (f : S28 → S28 → Int) : List S28 → List S28 → Int
  | [], [] => 0
  | [], _ :: _ => -1
  | _ :: _, [] => 1
  | x :: xs, y :: ys => if f x y = 0 then cmpL f xs ys else f x y
def cmpS (a b : ByteArray) : Int := Lib.compareBytes a.data.toList b.data.toList
def cmpM (f : S28 → S28 → Int) (x y : S28) (a b : ByteArray) : Int := if cmpS a b = 0 then f x y else cmpS a b
def cmpO (f : S28 → S28 → Int) : List S28 → List ByteArray → List S28 → List ByteArray → Int
  | x :: xs, a :: ns, y :: ys, b :: ms => if cmpM f x y a b = 0 then cmpO f xs ns ys ms else cmpM f x y a b
  | _, ns, _, ms => Lib.compareInt ns.length ms.length
def cmpF : Nat → S28 → S28 → Int
  | 0, _, _ => 0
  | n + 1, x, y => if x.f0 = y.f0 then (if x.f0 = 4 then cmpL (cmpF n) x.f4 y.f4 else if x.f0 = 5 then cmpO (cmpF n) x.f4 x.f5 y.f4 y.f5 else cmpFlat x y) else Lib.compareInt x.f0 y.f0
def Cv : Nat → S28 → Prop
  | 0, _ => False
  | n + 1, x => (0 ≤ x.f0 ∧ x.f0 ≤ 5) ∧ okNum x.f2 ∧ (x.f0 = 5 → x.f4.length = x.f5.length) ∧ ∀ i, i < x.f4.length → Cv n (x.f4.getD i z28)
def CCalls (f : S28 → S28 → Int) (x y : S28) : Prop := ∀ (A1 B1 A2 B2 : Option Addr) (c1 d1 c2 d2 : Nat) (w : World), JC w x A1 x.f4.length c1 B1 x.f5.length d1 → JC w y A2 y.f4.length c2 B2 y.f5.length d2 →
  Calls Tryz.prog 28 #[.agg #[.int .i64 x.f0, .bool x.f1, .bool x.f2.f0, .string x.f2.f1, .int .i64 x.f2.f2, .string x.f3, .slice A1 x.f4.length c1, .slice B1 x.f5.length d1], .agg #[.int .i64 y.f0, .bool y.f1, .bool y.f2.f0, .string y.f2.f1, .int .i64 y.f2.f2, .string y.f3, .slice A2 y.f4.length c2, .slice B2 y.f5.length d2]] w fun e w' => e = .returned (.int .i64 (f x y)) ∧ Below w.heap.size w w'
theorem cmpL_at (f : S28 → S28 → Int) : ∀ (xs ys : List S28) (i : Nat), i < xs.length → i < ys.length → cmpL f (xs.drop i) (ys.drop i) = if f (xs.getD i z28) (ys.getD i z28) = 0 then cmpL f (xs.drop (i + 1)) (ys.drop (i + 1)) else f (xs.getD i z28) (ys.getD i z28)
  | [], _, _, h, _ => absurd h (by simp)
  | _, [], _, _, h => absurd h (by simp)
  | x :: xs, y :: ys, 0, _, _ => rfl
  | x :: xs, y :: ys, i + 1, h, k => by simpa using cmpL_at f xs ys i (by simpa using h) (by simpa using k)
theorem cmpL_end (f : S28 → S28 → Int) (xs ys : List S28) (i : Nat) (h : xs.length ≤ i) (hi : i ≤ ys.length) (hx : i = xs.length) : cmpL f (xs.drop i) (ys.drop i) = if xs.length < ys.length then -1 else 0 := by
  rw [List.drop_eq_nil_of_le h]
  by_cases hl : xs.length < ys.length
  · rw [if_pos hl, hx, List.drop_eq_getElem_cons hl]; rfl
  · rw [if_neg hl, List.drop_eq_nil_of_le (by omega)]; rfl
theorem cmpL_more (f : S28 → S28 → Int) (xs ys : List S28) (i : Nat) (h : i < xs.length) (hi : ys.length ≤ i) : cmpL f (xs.drop i) (ys.drop i) = 1 := by
  rw [List.drop_eq_nil_of_le hi, List.drop_eq_getElem_cons h]; rfl
theorem cmpO_at (f : S28 → S28 → Int) : ∀ (xs : List S28) (ns : List ByteArray) (ys : List S28) (ms : List ByteArray) (i : Nat), i < xs.length → xs.length = ns.length → i < ys.length → ys.length = ms.length →
    cmpO f (xs.drop i) (ns.drop i) (ys.drop i) (ms.drop i) = if cmpM f (xs.getD i z28) (ys.getD i z28) (ns.getD i ⟨#[]⟩) (ms.getD i ⟨#[]⟩) = 0 then cmpO f (xs.drop (i + 1)) (ns.drop (i + 1)) (ys.drop (i + 1)) (ms.drop (i + 1)) else cmpM f (xs.getD i z28) (ys.getD i z28) (ns.getD i ⟨#[]⟩) (ms.getD i ⟨#[]⟩)
  | [], _, _, _, _, h, _, _, _ => absurd h (by simp)
  | _ :: _, [], _, _, _, _, h, _, _ => absurd h (by simp)
  | _, _, [], _, _, _, _, h, _ => absurd h (by simp)
  | _, _, _ :: _, [], _, _, _, _, h => absurd h (by simp)
  | x :: xs, a :: ns, y :: ys, b :: ms, 0, _, _, _, _ => rfl
  | x :: xs, a :: ns, y :: ys, b :: ms, i + 1, h, h2, k, k2 => by simpa using cmpO_at f xs ns ys ms i (by simpa using h) (by simpa using h2) (by simpa using k) (by simpa using k2)
theorem lt_cast (a b c : Nat) (h : c ≤ a) (k : c ≤ b) : Lib.compareInt ((a - c : Nat) : Int) ((b - c : Nat) : Int) = Lib.compareInt (a : Int) (b : Int) := by
  unfold Lib.compareInt
  (repeat' split) <;> omega
theorem cmpO_end (f : S28 → S28 → Int) (xs : List S28) (ns : List ByteArray) (ys : List S28) (ms : List ByteArray) (i : Nat) (hx : xs.length = ns.length) (hy : ys.length = ms.length) (hi : i = min ns.length ms.length) :
    cmpO f (xs.drop i) (ns.drop i) (ys.drop i) (ms.drop i) = Lib.compareInt ns.length ms.length := by
  have h2 := lt_cast ns.length ms.length i (by omega) (by omega)
  rw [← List.length_drop, ← List.length_drop] at h2
  rw [← h2]
  have : ns.drop i = [] ∨ ms.drop i = [] := by
    by_cases h : ns.length ≤ i
    · exact .inl (List.drop_eq_nil_of_le h)
    · exact .inr (List.drop_eq_nil_of_le (by omega))
  generalize xs.drop i = p at *
  generalize ys.drop i = q at *
  generalize ns.drop i = u at *
  generalize ms.drop i = v at *
  rcases this with rfl | rfl
  · cases p <;> cases q <;> cases v <;> rfl
  · cases p <;> cases q <;> cases u <;> rfl
set_option maxRecDepth 100000 in
set_option maxHeartbeats 2000000 in
theorem compareFunc_calls (f : S28 → S28 → Int) (xs ys : List S28) (HF : ∀ i, i < xs.length → i < ys.length → CCalls f (xs.getD i z28) (ys.getD i z28)) (A A' : Option Addr) (c c' : Nat) (w : World) (hA : k28.C w A xs.length xs) (hc : xs.length ≤ c) (hA' : k28.C w A' ys.length ys) (hc' : ys.length ≤ c') :
    Calls Tryz.prog 54 #[.slice A xs.length c, .slice A' ys.length c', .func (.func 28) #[] #[]] w fun e w' => e = .returned (.int .i64 (cmpL f xs ys)) ∧ Below w.heap.size w w' := by
  have HFF := Lib.hid HF
  have HA := Lib.hid hA
  have HA' := Lib.hid hA'
  have hm := Kd.C_max hA
  have hm' := Kd.C_max hA'
  obtain ⟨R, hR⟩ : ∃ R, R = cmpL f xs ys := ⟨_, rfl⟩
  have HR0 : Hid (R = cmpL f (xs.drop 0) (ys.drop 0)) := Lib.hid hR
  rw [← hR]
  clear HF hA hA' hR
  go_enter Tryz.func54, Tryz.ntmps54
  go_wp2_with fail
  go_loopw [13] (fun vi wr => ∃ (i : Nat), i ≤ xs.length ∧ i ≤ ys.length ∧ vi = .int .i64 i ∧ Hid (R = cmpL f (xs.drop i) (ys.drop i)) ∧ Hid (Below w.heap.size w wr)) (fun vi _ => xs.length - (intOf vi).toNat)
  case atStart => exact ⟨0, by omega, by omega, rfl, HR0, Lib.hid (Below.refl _ _)⟩
  case round =>
    clear HR0
    obtain ⟨i, hi, hi2, rfl, HR, HB⟩ := hrel
    by_cases hix : i < xs.length
    · obtain ⟨ad, A1, c1, B1, d1, rfl, q0, q1, q2, q3, q4, q5, q6, q7, l6, g6, l7, g7⟩ := at_T28 (Kd.C_below HA.out HB.out) (i : Int) (by omega) (by omega)
      simp only [rd_T28, Int.toNat_natCast] at q0 q1 q2 q3 q4 q5 q6 q7 l6 g6 l7 g7
      by_cases hiy : i < ys.length
      · have hF1 := HFF.out i hix hiy
        have hat := cmpL_at f xs ys i hix hiy
        obtain ⟨x, hx⟩ : ∃ x, x = xs.getD i z28 := ⟨_, rfl⟩
        rw [← hx] at q0 q1 q2 q3 q4 q5 q6 q7 l6 g6 l7 g7 hF1 hat
        obtain ⟨ad2, A2, c2, B2, d2, rfl, p0, p1, p2, p3, p4, p5, p6, p7, m6, n6, m7, n7⟩ := at_T28 (Kd.C_below HA'.out (below_alloc HB.out (.cells #[.int .i64 x.f0, .bool x.f1, .bool x.f2.f0, .string x.f2.f1, .int .i64 x.f2.f2, .string x.f3, .slice A1 x.f4.length c1, .slice B1 x.f5.length d1] 28))) (i : Int) (by omega) (by omega)
        simp only [rd_T28, Int.toNat_natCast] at p0 p1 p2 p3 p4 p5 p6 p7 m6 n6 m7 n7
        obtain ⟨y, hy⟩ : ∃ y, y = ys.getD i z28 := ⟨_, rfl⟩
        rw [← hy] at p0 p1 p2 p3 p4 p5 p6 p7 m6 n6 m7 n7 hF1 hat
        have HJX : Hid (JC wr x A1 x.f4.length c1 B1 x.f5.length d1) := Lib.hid ⟨rfl, l6, g6, rfl, l7, g7⟩
        have HJY : Hid (JC (wr.alloc (.cells #[.int .i64 x.f0, .bool x.f1, .bool x.f2.f0, .string x.f2.f1, .int .i64 x.f2.f2, .string x.f3, .slice A1 x.f4.length c1, .slice B1 x.f5.length d1] 28)) y A2 y.f4.length c2 B2 y.f5.length d2) := Lib.hid ⟨rfl, m6, n6, rfl, m7, n7⟩
        have HF1 := Lib.hid hF1
        have hat2 := HR.out.trans hat
        obtain ⟨V, hV⟩ : ∃ V, V = f x y := ⟨_, rfl⟩
        rw [← hV] at hat2
        have HATT := Lib.hid hat2
        have HV := Lib.hid hV
        have HBA : Hid (∀ o p, Below wr.heap.size wr ((wr.alloc o).alloc p)) := Lib.hid (fun o p => below_alloc (below_alloc (Below.refl _ _) _) _)
        clear l6 g6 l7 g7 m6 n6 m7 n7 hx hy hF1 hat hat2 hV
        go_wp2_with fail
        have hk1 := blk_alloc (blk_new wr (.cells #[.int .i64 x.f0, .bool x.f1, .bool x.f2.f0, .string x.f2.f1, .int .i64 x.f2.f2, .string x.f3, .slice A1 x.f4.length c1, .slice B1 x.f5.length d1] 28)) (.cells #[.int .i64 y.f0, .bool y.f1, .bool y.f2.f0, .string y.f2.f1, .int .i64 y.f2.f2, .string y.f3, .slice A2 y.f4.length c2, .slice B2 y.f5.length d2] 28)
        have hk2 := blk_new (wr.alloc (.cells #[.int .i64 x.f0, .bool x.f1, .bool x.f2.f0, .string x.f2.f1, .int .i64 x.f2.f2, .string x.f3, .slice A1 x.f4.length c1, .slice B1 x.f5.length d1] 28)) (.cells #[.int .i64 y.f0, .bool y.f1, .bool y.f2.f0, .string y.f2.f1, .int .i64 y.f2.f2, .string y.f3, .slice A2 y.f4.length c2, .slice B2 y.f5.length d2] 28)
        refine (HF1.out A1 B1 A2 B2 c1 d1 c2 d2 _ (HJX.out.below (HBA.out _ _)) (HJY.out.below (below_alloc (Below.refl _ _) _))).mono ?_
        rintro E w2 ⟨rfl, hB⟩
        rw [← HV.out]
        have HB2 := Lib.hid (HB.out.trans (((HBA.out _ _).trans (hB.mono (HBA.out _ _).size)).mono HB.out.size))
        clear hB hk1 hk2 p0 p1 p2 p3 p4 p5 p6 p7 q0 q1 q2 q3 q4 q5 q6 q7
        have h := HATT.out
        by_cases hV0 : V = 0
        · rw [if_pos hV0] at h
          have HN := Lib.hid h
          have e1 : (V == 0) = true := by simp [hV0]
          clear h hV0
          go_wp2_with fail
          exact ⟨⟨i + 1, by omega, by omega, by simp, HN, HB2⟩, by simp [intOf]; omega⟩
        · rw [if_neg hV0] at h
          have e1 : (V == 0) = false := by simpa using hV0
          have HN := Lib.hid h
          clear h hV0
          go_wp2_with fail
          go_ret
          exact ⟨by rw [HN.out]; rfl, HB2.out⟩
      · have h1 := HR.out.trans (cmpL_more f xs ys i hix (by omega))
        have hge : (ys.length : Int) ≤ (i : Int) := by omega
        have HN := Lib.hid h1
        clear h1
        obtain ⟨x, hx⟩ : ∃ x, x = xs.getD i z28 := ⟨_, rfl⟩
        rw [← hx] at q0 q1 q2 q3 q4 q5 q6 q7 l6 g6 l7 g7
        clear hx l6 g6 l7 g7
        go_wp2_with fail
        go_ret
        exact ⟨by rw [HN.out]; rfl, below_alloc HB.out _⟩
    · have : i = xs.length := by omega
      have h1 := HR.out.trans (cmpL_end f xs ys i (by omega) hi2 this)
      by_cases hl : xs.length < ys.length
      · rw [if_pos hl] at h1
        have HN := Lib.hid h1
        clear h1
        go_wp2_with fail
        go_ret
        exact ⟨by rw [HN.out]; rfl, HB.out⟩
      · rw [if_neg hl] at h1
        have HN := Lib.hid h1
        clear h1
        go_wp2_with fail
        go_ret
        exact ⟨by rw [HN.out]; rfl, HB.out⟩
set_option maxRecDepth 100000 in
set_option maxHeartbeats 2000000 in
theorem compare_arr (f : S28 → S28 → Int) (x y : S28) (hx : x.f0 = 4) (hy : y.f0 = 4) (HF : ∀ i, i < x.f4.length → i < y.f4.length → CCalls f (x.f4.getD i z28) (y.f4.getD i z28)) : CCalls (fun x y => cmpL f x.f4 y.f4) x y := by
  intro A1 B1 A2 B2 c1 d1 c2 d2 w hJ hK
  have HFF := Lib.hid HF
  have HJ := Lib.hid hJ
  have HK := Lib.hid hK
  have e4 : (x.f0 == 4) = true := by simp [hx]
  have e1 : (x.f0 == 1) = false := by simp [hx]
  have e2 : (x.f0 == 2) = false := by simp [hx]
  have e3 : (x.f0 == 3) = false := by simp [hx]
  have ee : (x.f0 == y.f0) = true := by simp [hx, hy]
  have en : (x.f0 != y.f0) = false := by simp [hx, hy]
  have HBA : Hid (∀ o p, Below w.heap.size w ((w.alloc o).alloc p)) := Lib.hid (fun o p => below_alloc (below_alloc (Below.refl _ _) _) _)
  have l1 := hJ.nc
  have l2 := hK.nc
  clear hJ hK HF hx hy
  go_enter Tryz.func28, Tryz.ntmps28
  go_wp2_with fail
  refine (compareFunc_calls f x.f4 y.f4 HFF.out A1 A2 c1 c2 _ (Kd.C_below HJ.out.i (HBA.out _ _)) l1 (Kd.C_below HK.out.i (HBA.out _ _)) l2).mono ?_
  rintro E w1 ⟨rfl, hB⟩
  have HB := Lib.hid ((HBA.out _ _).trans (hB.mono (HBA.out _ _).size))
  clear hB
  go_wp2_with fail
  go_ret
  exact ⟨rfl, HB.out⟩
set_option maxRecDepth 100000 in
set_option maxHeartbeats 2000000 in
theorem compare_obj (f : S28 → S28 → Int) (x y : S28) (hx : x.f0 = 5) (hy : y.f0 = 5) (hlx : x.f4.length = x.f5.length) (hly : y.f4.length = y.f5.length) (HF : ∀ i, i < x.f4.length → i < y.f4.length → CCalls f (x.f4.getD i z28) (y.f4.getD i z28)) : CCalls (fun x y => cmpO f x.f4 x.f5 y.f4 y.f5) x y := by
  intro A1 B1 A2 B2 c1 d1 c2 d2 w hJ hK
  have HFF := Lib.hid HF
  have HJ := Lib.hid hJ
  have HK := Lib.hid hK
  have e5 : (x.f0 == 5) = true := by simp [hx]
  have e4 : (x.f0 == 4) = false := by simp [hx]
  have e1 : (x.f0 == 1) = false := by simp [hx]
  have e2 : (x.f0 == 2) = false := by simp [hx]
  have e3 : (x.f0 == 3) = false := by simp [hx]
  have ee : (x.f0 == y.f0) = true := by simp [hx, hy]
  have en : (x.f0 != y.f0) = false := by simp [hx, hy]
  have l1 := hJ.nc
  have l2 := hK.nc
  have l3 := hJ.mc
  have l4 := hK.mc
  have l5 := Kd.C_max hJ.s
  have l6 := Kd.C_max hK.s
  have HLX := Lib.hid hlx
  have HLY := Lib.hid hly
  obtain ⟨R, hR⟩ : ∃ R, R = cmpO f x.f4 x.f5 y.f4 y.f5 := ⟨_, rfl⟩
  have HR0 : Hid (R = cmpO f (x.f4.drop 0) (x.f5.drop 0) (y.f4.drop 0) (y.f5.drop 0)) := Lib.hid hR
  show Calls Tryz.prog 28 _ _ fun e w' => e = .returned (.int .i64 (cmpO f x.f4 x.f5 y.f4 y.f5)) ∧ _
  rw [← hR]
  have hka := blk_alloc (blk_new w (.cells #[.int .i64 x.f0, .bool x.f1, .bool x.f2.f0, .string x.f2.f1, .int .i64 x.f2.f2, .string x.f3, .slice A1 x.f4.length c1, .slice B1 x.f5.length d1] 28)) (.cells #[.int .i64 y.f0, .bool y.f1, .bool y.f2.f0, .string y.f2.f1, .int .i64 y.f2.f2, .string y.f3, .slice A2 y.f4.length c2, .slice B2 y.f5.length d2] 28)
  have hkb := blk_new (w.alloc (.cells #[.int .i64 x.f0, .bool x.f1, .bool x.f2.f0, .string x.f2.f1, .int .i64 x.f2.f2, .string x.f3, .slice A1 x.f4.length c1, .slice B1 x.f5.length d1] 28)) (.cells #[.int .i64 y.f0, .bool y.f1, .bool y.f2.f0, .string y.f2.f1, .int .i64 y.f2.f2, .string y.f3, .slice A2 y.f4.length c2, .slice B2 y.f5.length d2] 28)
  have hbb := below_alloc (below_alloc (Below.refl w.heap.size w) (.cells #[.int .i64 x.f0, .bool x.f1, .bool x.f2.f0, .string x.f2.f1, .int .i64 x.f2.f2, .string x.f3, .slice A1 x.f4.length c1, .slice B1 x.f5.length d1] 28)) (.cells #[.int .i64 y.f0, .bool y.f1, .bool y.f2.f0, .string y.f2.f1, .int .i64 y.f2.f2, .string y.f3, .slice A2 y.f4.length c2, .slice B2 y.f5.length d2] 28)
  have hsz : (w.alloc (.cells #[.int .i64 x.f0, .bool x.f1, .bool x.f2.f0, .string x.f2.f1, .int .i64 x.f2.f2, .string x.f3, .slice A1 x.f4.length c1, .slice B1 x.f5.length d1] 28)).heap.size = w.heap.size + 1 := by simp
  rw [hsz] at hkb
  clear hJ hK HF hx hy hR hlx hly hsz
  go_enter Tryz.func28, Tryz.ntmps28
  go_wp2_with fail
  obtain ⟨w0, hw0⟩ : ∃ w0, w0 = (w.alloc (.cells #[.int .i64 x.f0, .bool x.f1, .bool x.f2.f0, .string x.f2.f1, .int .i64 x.f2.f2, .string x.f3, .slice A1 x.f4.length c1, .slice B1 x.f5.length d1] 28)).alloc (.cells #[.int .i64 y.f0, .bool y.f1, .bool y.f2.f0, .string y.f2.f1, .int .i64 y.f2.f2, .string y.f3, .slice A2 y.f4.length c2, .slice B2 y.f5.length d2] 28) := ⟨_, rfl⟩
  rw [← hw0] at hka hkb hbb ⊢
  have HKA := Lib.hid hka
  have HKB := Lib.hid hkb
  have HBB := Lib.hid hbb
  clear hka hkb hbb hw0
  obtain ⟨m, hm⟩ : ∃ m : Nat, m = min x.f5.length y.f5.length := ⟨_, rfl⟩
  have hmi : min (x.f5.length : Int) (y.f5.length : Int) = (m : Int) := by omega
  rw [hmi]
  have hmx : m ≤ x.f5.length := by omega
  have hmy : m ≤ y.f5.length := by omega
  have HM := Lib.hid hm
  clear hmi hm
  go_loopw [58] (fun vi wr => ∃ (i : Nat), i ≤ m ∧ vi = .int .i64 i ∧ Hid (R = cmpO f (x.f4.drop i) (x.f5.drop i) (y.f4.drop i) (y.f5.drop i)) ∧ Hid (Below w0.heap.size w0 wr)) (fun vi _ => m - (intOf vi).toNat)
  case atStart => exact ⟨0, by omega, rfl, HR0, Lib.hid (Below.refl _ _)⟩
  case round =>
    clear HR0
    obtain ⟨i, hi, rfl, HR, HBW⟩ := hrel
    by_cases him : i < m
    · have HBX := Lib.hid (HBB.out.trans (HBW.out.mono HBB.out.size))
      have hix : (i : Int) < (x.f4.length : Int) := by rw [HLX.out]; omega
      have hiy : (i : Int) < (y.f4.length : Int) := by rw [HLY.out]; omega
      have hnx : (i : Int) < (x.f5.length : Int) := by omega
      have hny : (i : Int) < (y.f5.length : Int) := by omega
      have hbd := below_drew1 HBX.out
      have hbd0 := below_drew1 HBW.out
      have hat := HR.out.trans (cmpO_at f x.f4 x.f5 y.f4 y.f5 i (by omega) HLX.out (by omega) HLY.out)
      have hF1 := HFF.out i (by omega) (by omega)
      obtain ⟨ad, A3, c3, B3, d3, rfl, q0, q1, q2, q3, q4, q5, q6, q7, k6, g6, k7, g7⟩ := at_T28 (Kd.C_below HJ.out.i hbd) (i : Int) (by omega) (by omega)
      simp only [rd_T28, Int.toNat_natCast] at q0 q1 q2 q3 q4 q5 q6 q7 k6 g6 k7 g7
      obtain ⟨ad2, A4, c4, B4, d4, rfl, p0, p1, p2, p3, p4, p5, p6, p7, m6, n6, m7, n7⟩ := at_T28 (Kd.C_below HK.out.i hbd) (i : Int) (by omega) (by omega)
      simp only [rd_T28, Int.toNat_natCast] at p0 p1 p2 p3 p4 p5 p6 p7 m6 n6 m7 n7
      obtain ⟨bd, cc, rfl, -, hK1, hc0⟩ := Kd.C_get (Kd.C_below HJ.out.s hbd) (⟨#[]⟩ : ByteArray) (i : Int) (by omega) (by omega)
      obtain ⟨bd2, cc2, rfl, -, hK2, hc02⟩ := Kd.C_get (Kd.C_below HK.out.s hbd) (⟨#[]⟩ : ByteArray) (i : Int) (by omega) (by omega)
      obtain ⟨z, hz⟩ : ∃ z, z = x.f4.getD i z28 := ⟨_, rfl⟩
      obtain ⟨u, hu⟩ : ∃ u, u = y.f4.getD i z28 := ⟨_, rfl⟩
      obtain ⟨a, ha⟩ : ∃ a, a = x.f5.getD i ⟨#[]⟩ := ⟨_, rfl⟩
      obtain ⟨b, hb⟩ : ∃ b, b = y.f5.getD i ⟨#[]⟩ := ⟨_, rfl⟩
      have ek1 : cc = [.string a] := by rw [ha]; exact hK1
      have ek2 : cc2 = [.string b] := by rw [hb]; exact hK2
      have t1 := hc0 0 (.string a) (by rw [ek1]; rfl)
      have t2 := hc02 0 (.string b) (by rw [ek2]; rfl)
      rw [show (i : Int).toNat * Kd.string.sz + 0 = i by rw [Int.toNat_natCast]; exact Nat.mul_one i] at t1 t2
      rw [← hz] at q0 q1 q2 q3 q4 q5 q6 q7 k6 g6 k7 g7 hF1 hat
      rw [← hu] at p0 p1 p2 p3 p4 p5 p6 p7 m6 n6 m7 n7 hF1 hat
      rw [← ha, ← hb] at hat
      clear hc0 hc02 hK1 hK2 ek1 ek2 hz hu ha hb
      have HJZ0 : JC wr.drew z A3 z.f4.length c3 B3 z.f5.length d3 := ⟨rfl, k6, g6, rfl, k7, g7⟩
      have HJU0 : JC wr.drew u A4 u.f4.length c4 B4 u.f5.length d4 := ⟨rfl, m6, n6, rfl, m7, n7⟩
      have hka := blk_drew (thru HKA.out HBW.out)
      have hkb := blk_drew (thru HKB.out HBW.out)
      have HF1 := Lib.hid hF1
      obtain ⟨V, hV⟩ : ∃ V, V = f z u := ⟨_, rfl⟩
      obtain ⟨C, hC⟩ : ∃ C, C = cmpS a b := ⟨_, rfl⟩
      have hat2 : R = if (if C = 0 then V else C) = 0 then cmpO f (x.f4.drop (i + 1)) (x.f5.drop (i + 1)) (y.f4.drop (i + 1)) (y.f5.drop (i + 1)) else (if C = 0 then V else C) := by
        rw [hV, hC]; exact hat
      have HATT := Lib.hid hat2
      have HV := Lib.hid hV
      have HC := Lib.hid hC
      clear k6 g6 k7 g7 m6 n6 m7 n7 hat hat2 hF1 hV hC
      go_upto_region 16 with fail
      refine start_ (n := 25) (S := fun w' => Below wr.drew.heap.size wr.drew w') (ds := []) #[false, false, false, false, false, false, false, false, false, false, false, false, false, false, false, false, false, false, false, false, false, false, false, false, false] (by kernel_rfl) rfl rfl (Below.refl _ _) (fun hHeld => ?_)
      generalize wr.drew = wd at hbd hbd0 t1 t2 q0 q1 q2 q3 q4 q5 q6 q7 p0 p1 p2 p3 p4 p5 p6 p7 HJZ0 HJU0 hka hkb hHeld ⊢
      have T1 := Lib.hid t1
      have T2 := Lib.hid t2
      have Q0 := Lib.hid q0
      have Q1 := Lib.hid q1
      have Q2 := Lib.hid q2
      have Q3 := Lib.hid q3
      have Q4 := Lib.hid q4
      have Q5 := Lib.hid q5
      have Q6 := Lib.hid q6
      have Q7 := Lib.hid q7
      have P0 := Lib.hid p0
      have P1 := Lib.hid p1
      have P2 := Lib.hid p2
      have P3 := Lib.hid p3
      have P4 := Lib.hid p4
      have P5 := Lib.hid p5
      have P6 := Lib.hid p6
      have P7 := Lib.hid p7
      have HJZ := Lib.hid HJZ0
      have HJU := Lib.hid HJU0
      have HKa := Lib.hid hka
      have HKb := Lib.hid hkb
      have HBD := Lib.hid hbd
      have HBD0 := Lib.hid hbd0
      clear hbd hbd0 t1 t2 q0 q1 q2 q3 q4 q5 q6 q7 p0 p1 p2 p3 p4 p5 p6 p7 HJZ0 HJU0 hka hkb HR
      refine pure_ (i := 0) (N := some 61) (v := ?_) (a' := ?_) #[true, false, false, false, false, false, false, false, false, false, false, false, false, false, false, false, false, false, false, false, false, false, false, false, false] rfl rfl (by kernel_rfl) (fun _ _ _ h => h) (Or.inl ⟨by rfl, ?_⟩) ?_ ?_
      rotate_left
      · intro w'
        go_simp
        with_reducible rfl
      rotate_left
      · simp only [Act.put, List.setIfInBounds_toArray, List.set_cons_zero, List.set_cons_succ, i64_w, i32_w]
        rfl
      refine take_ (i := 1) (N := some 62) (v := ?_) (a' := ?_) #[true, true, false, false, false, false, false, false, false, false, false, false, false, false, false, false, false, false, false, false, false, false, false, false, false] rfl rfl (by kernel_rfl) (fun _ _ _ h => h) (Or.inl ⟨by rfl, ?_⟩) hHeld ?_ ?_
      rotate_left
      · intro w' hb
        obtain ⟨s0, s1, s2, s3, s4, s5, s6, s7⟩ := eight (thru HKa.out hb)
        go_simp
        with_reducible rfl
      rotate_left
      · simp only [Act.put, List.setIfInBounds_toArray, List.set_cons_zero, List.set_cons_succ, i64_w, i32_w]
        rfl
      refine pure_ (i := 2) (N := some 63) (v := ?_) (a' := ?_) #[true, true, true, false, false, false, false, false, false, false, false, false, false, false, false, false, false, false, false, false, false, false, false, false, false] rfl rfl (by kernel_rfl) (fun _ _ _ h => h) (Or.inl ⟨by rfl, ?_⟩) ?_ ?_
      rotate_left
      · intro w'
        go_simp
        with_reducible rfl
      rotate_left
      · simp only [Act.put, List.setIfInBounds_toArray, List.set_cons_zero, List.set_cons_succ, i64_w, i32_w]
        rfl
      refine pure_ (i := 3) (N := some 64) (v := ?_) (a' := ?_) #[true, true, true, true, false, false, false, false, false, false, false, false, false, false, false, false, false, false, false, false, false, false, false, false, false] rfl rfl (by kernel_rfl) (fun _ _ _ h => h) (Or.inl ⟨by rfl, ?_⟩) ?_ ?_
      rotate_left
      · intro w'
        go_simp
        with_reducible rfl
      rotate_left
      · simp only [Act.put, List.setIfInBounds_toArray, List.set_cons_zero, List.set_cons_succ, i64_w, i32_w]
        rfl
      refine take_ (i := 4) (N := some 65) (v := ?_) (a' := ?_) #[true, true, true, true, true, false, false, false, false, false, false, false, false, false, false, false, false, false, false, false, false, false, false, false, false] rfl rfl (by kernel_rfl) (fun _ _ _ h => h) (Or.inl ⟨by rfl, ?_⟩) hHeld ?_ ?_
      rotate_left
      · intro w' hb
        have s_t1 := pw_cell_below hb T1.out
        go_simp
        with_reducible rfl
      rotate_left
      · simp only [Act.put, List.setIfInBounds_toArray, List.set_cons_zero, List.set_cons_succ, i64_w, i32_w]
        rfl
      refine pure_ (i := 5) (N := some 66) (v := ?_) (a' := ?_) #[true, true, true, true, true, true, false, false, false, false, false, false, false, false, false, false, false, false, false, false, false, false, false, false, false] rfl rfl (by kernel_rfl) (fun _ _ _ h => h) (Or.inl ⟨by rfl, ?_⟩) ?_ ?_
      rotate_left
      · intro w'
        go_simp
        with_reducible rfl
      rotate_left
      · simp only [Act.put, List.setIfInBounds_toArray, List.set_cons_zero, List.set_cons_succ, i64_w, i32_w]
        rfl
      refine take_ (i := 6) (N := some 67) (v := ?_) (a' := ?_) #[true, true, true, true, true, true, true, false, false, false, false, false, false, false, false, false, false, false, false, false, false, false, false, false, false] rfl rfl (by kernel_rfl) (fun _ _ _ h => h) (Or.inl ⟨by rfl, ?_⟩) hHeld ?_ ?_
      rotate_left
      · intro w' hb
        obtain ⟨s0, s1, s2, s3, s4, s5, s6, s7⟩ := eight (thru HKb.out hb)
        go_simp
        with_reducible rfl
      rotate_left
      · simp only [Act.put, List.setIfInBounds_toArray, List.set_cons_zero, List.set_cons_succ, i64_w, i32_w]
        rfl
      refine pure_ (i := 7) (N := some 68) (v := ?_) (a' := ?_) #[true, true, true, true, true, true, true, true, false, false, false, false, false, false, false, false, false, false, false, false, false, false, false, false, false] rfl rfl (by kernel_rfl) (fun _ _ _ h => h) (Or.inl ⟨by rfl, ?_⟩) ?_ ?_
      rotate_left
      · intro w'
        go_simp
        with_reducible rfl
      rotate_left
      · simp only [Act.put, List.setIfInBounds_toArray, List.set_cons_zero, List.set_cons_succ, i64_w, i32_w]
        rfl
      refine pure_ (i := 8) (N := some 69) (v := ?_) (a' := ?_) #[true, true, true, true, true, true, true, true, true, false, false, false, false, false, false, false, false, false, false, false, false, false, false, false, false] rfl rfl (by kernel_rfl) (fun _ _ _ h => h) (Or.inl ⟨by rfl, ?_⟩) ?_ ?_
      rotate_left
      · intro w'
        go_simp
        with_reducible rfl
      rotate_left
      · simp only [Act.put, List.setIfInBounds_toArray, List.set_cons_zero, List.set_cons_succ, i64_w, i32_w]
        rfl
      refine take_ (i := 9) (N := some 70) (v := ?_) (a' := ?_) #[true, true, true, true, true, true, true, true, true, true, false, false, false, false, false, false, false, false, false, false, false, false, false, false, false] rfl rfl (by kernel_rfl) (fun _ _ _ h => h) (Or.inl ⟨by rfl, ?_⟩) hHeld ?_ ?_
      rotate_left
      · intro w' hb
        have s_t2 := pw_cell_below hb T2.out
        go_simp
        with_reducible rfl
      rotate_left
      · simp only [Act.put, List.setIfInBounds_toArray, List.set_cons_zero, List.set_cons_succ, i64_w, i32_w]
        rfl
      refine pure_ (i := 11) (N := some 72) (v := ?_) (a' := ?_) #[true, true, true, true, true, true, true, true, true, true, false, true, false, false, false, false, false, false, false, false, false, false, false, false, false] rfl rfl (by kernel_rfl) (fun _ _ _ h => h) (Or.inl ⟨by rfl, ?_⟩) ?_ ?_
      rotate_left
      · intro w'
        go_simp
        with_reducible rfl
      rotate_left
      · simp only [Act.put, List.setIfInBounds_toArray, List.set_cons_zero, List.set_cons_succ, i64_w, i32_w]
        rfl
      refine take_ (i := 12) (N := some 73) (v := ?_) (a' := ?_) #[true, true, true, true, true, true, true, true, true, true, false, true, true, false, false, false, false, false, false, false, false, false, false, false, false] rfl rfl (by kernel_rfl) (fun _ _ _ h => h) (Or.inl ⟨by rfl, ?_⟩) hHeld ?_ ?_
      rotate_left
      · intro w' hb
        obtain ⟨s0, s1, s2, s3, s4, s5, s6, s7⟩ := eight (thru HKa.out hb)
        go_simp
        with_reducible rfl
      rotate_left
      · simp only [Act.put, List.setIfInBounds_toArray, List.set_cons_zero, List.set_cons_succ, i64_w, i32_w]
        rfl
      refine pure_ (i := 13) (N := some 74) (v := ?_) (a' := ?_) #[true, true, true, true, true, true, true, true, true, true, false, true, true, true, false, false, false, false, false, false, false, false, false, false, false] rfl rfl (by kernel_rfl) (fun _ _ _ h => h) (Or.inl ⟨by rfl, ?_⟩) ?_ ?_
      rotate_left
      · intro w'
        go_simp
        with_reducible rfl
      rotate_left
      · simp only [Act.put, List.setIfInBounds_toArray, List.set_cons_zero, List.set_cons_succ, i64_w, i32_w]
        rfl
      refine pure_ (i := 14) (N := some 75) (v := ?_) (a' := ?_) #[true, true, true, true, true, true, true, true, true, true, false, true, true, true, true, false, false, false, false, false, false, false, false, false, false] rfl rfl (by kernel_rfl) (fun _ _ _ h => h) (Or.inl ⟨by rfl, ?_⟩) ?_ ?_
      rotate_left
      · intro w'
        go_simp
        with_reducible rfl
      rotate_left
      · simp only [Act.put, List.setIfInBounds_toArray, List.set_cons_zero, List.set_cons_succ, i64_w, i32_w]
        rfl
      refine take_ (i := 15) (N := some 76) (v := ?_) (a' := ?_) #[true, true, true, true, true, true, true, true, true, true, false, true, true, true, true, true, false, false, false, false, false, false, false, false, false] rfl rfl (by kernel_rfl) (fun _ _ _ h => h) (Or.inl ⟨by rfl, ?_⟩) hHeld ?_ ?_
      rotate_left
      · intro w' hb
        have s_q0 := pw_cell_below hb Q0.out
        have s_q1 := pw_cell_below hb Q1.out
        have s_q2 := pw_cell_below hb Q2.out
        have s_q3 := pw_cell_below hb Q3.out
        have s_q4 := pw_cell_below hb Q4.out
        have s_q5 := pw_cell_below hb Q5.out
        have s_q6 := pw_cell_below hb Q6.out
        have s_q7 := pw_cell_below hb Q7.out
        go_simp
        with_reducible rfl
      rotate_left
      · simp only [Act.put, List.setIfInBounds_toArray, List.set_cons_zero, List.set_cons_succ, i64_w, i32_w]
        rfl
      refine pure_ (i := 16) (N := some 77) (v := ?_) (a' := ?_) #[true, true, true, true, true, true, true, true, true, true, false, true, true, true, true, true, true, false, false, false, false, false, false, false, false] rfl rfl (by kernel_rfl) (fun _ _ _ h => h) (Or.inl ⟨by rfl, ?_⟩) ?_ ?_
      rotate_left
      · intro w'
        go_simp
        with_reducible rfl
      rotate_left
      · simp only [Act.put, List.setIfInBounds_toArray, List.set_cons_zero, List.set_cons_succ, i64_w, i32_w]
        rfl
      refine take_ (i := 17) (N := some 78) (v := ?_) (a' := ?_) #[true, true, true, true, true, true, true, true, true, true, false, true, true, true, true, true, true, true, false, false, false, false, false, false, false] rfl rfl (by kernel_rfl) (fun _ _ _ h => h) (Or.inl ⟨by rfl, ?_⟩) hHeld ?_ ?_
      rotate_left
      · intro w' hb
        obtain ⟨s0, s1, s2, s3, s4, s5, s6, s7⟩ := eight (thru HKb.out hb)
        go_simp
        with_reducible rfl
      rotate_left
      · simp only [Act.put, List.setIfInBounds_toArray, List.set_cons_zero, List.set_cons_succ, i64_w, i32_w]
        rfl
      refine pure_ (i := 18) (N := some 79) (v := ?_) (a' := ?_) #[true, true, true, true, true, true, true, true, true, true, false, true, true, true, true, true, true, true, true, false, false, false, false, false, false] rfl rfl (by kernel_rfl) (fun _ _ _ h => h) (Or.inl ⟨by rfl, ?_⟩) ?_ ?_
      rotate_left
      · intro w'
        go_simp
        with_reducible rfl
      rotate_left
      · simp only [Act.put, List.setIfInBounds_toArray, List.set_cons_zero, List.set_cons_succ, i64_w, i32_w]
        rfl
      refine pure_ (i := 19) (N := some 80) (v := ?_) (a' := ?_) #[true, true, true, true, true, true, true, true, true, true, false, true, true, true, true, true, true, true, true, true, false, false, false, false, false] rfl rfl (by kernel_rfl) (fun _ _ _ h => h) (Or.inl ⟨by rfl, ?_⟩) ?_ ?_
      rotate_left
      · intro w'
        go_simp
        with_reducible rfl
      rotate_left
      · simp only [Act.put, List.setIfInBounds_toArray, List.set_cons_zero, List.set_cons_succ, i64_w, i32_w]
        rfl
      refine take_ (i := 20) (N := some 81) (v := ?_) (a' := ?_) #[true, true, true, true, true, true, true, true, true, true, false, true, true, true, true, true, true, true, true, true, true, false, false, false, false] rfl rfl (by kernel_rfl) (fun _ _ _ h => h) (Or.inl ⟨by rfl, ?_⟩) hHeld ?_ ?_
      rotate_left
      · intro w' hb
        have s_p0 := pw_cell_below hb P0.out
        have s_p1 := pw_cell_below hb P1.out
        have s_p2 := pw_cell_below hb P2.out
        have s_p3 := pw_cell_below hb P3.out
        have s_p4 := pw_cell_below hb P4.out
        have s_p5 := pw_cell_below hb P5.out
        have s_p6 := pw_cell_below hb P6.out
        have s_p7 := pw_cell_below hb P7.out
        go_simp
        with_reducible rfl
      rotate_left
      · simp only [Act.put, List.setIfInBounds_toArray, List.set_cons_zero, List.set_cons_succ, i64_w, i32_w]
        rfl
      refine one_ (i := 10) (N := some 71) #[true, true, true, true, true, true, true, true, true, true, true, true, true, true, true, true, true, true, true, true, true, false, false, false, false] rfl rfl (by kernel_rfl) (by decide) (fun K hK => ?_)
      refine call_ 53 #[.string a, .string b] (by rfl) rfl ?_ ?_
      · go_simp
      refine (strings_Compare.calls a b (cmpS a b) _ rfl).mono ?_
      rintro E v1 ⟨rfl, hq⟩
      have HV1 : Hid (Below wd.heap.size wd v1) := Lib.hid (by obtain ⟨q, rfl⟩ := hq; exact pw_below_drewN (Below.refl _ _) _)
      rw [← HC.out]
      refine ⟨_, rfl, hK.out _ _ HV1.out (fun hHeld => ?_)⟩
      clear hK K hq
      refine norm_ (a' := ?_) ?_ ?_
      rotate_left
      · show Act.put _ (some 71) _ = _
        simp only [Act.put, List.setIfInBounds_toArray, List.set_cons_zero, List.set_cons_succ, i64_w, i32_w]
        rfl
      refine one_ (i := 21) (N := some 82) #[true, true, true, true, true, true, true, true, true, true, true, true, true, true, true, true, true, true, true, true, true, true, false, false, false] rfl rfl (by kernel_rfl) (by decide) (fun K hK => ?_)
      refine call_ 28 #[.agg #[.int .i64 z.f0, .bool z.f1, .bool z.f2.f0, .string z.f2.f1, .int .i64 z.f2.f2, .string z.f3, .slice A3 z.f4.length c3, .slice B3 z.f5.length d3], .agg #[.int .i64 u.f0, .bool u.f1, .bool u.f2.f0, .string u.f2.f1, .int .i64 u.f2.f2, .string u.f3, .slice A4 u.f4.length c4, .slice B4 u.f5.length d4]] (by rfl) rfl ?_ ?_
      · go_simp
      refine (HF1.out A3 B3 A4 B4 c3 d3 c4 d4 v1 (HJZ.out.below HV1.out) (HJU.out.below HV1.out)).mono ?_
      rintro E v2 ⟨rfl, hB⟩
      have HV2 := Lib.hid (HV1.out.trans (hB.mono HV1.out.size))
      rw [← HV.out]
      refine ⟨_, rfl, hK.out _ _ HV2.out (fun hHeld => ?_)⟩
      clear hK K hB
      refine norm_ (a' := ?_) ?_ ?_
      rotate_left
      · show Act.put _ (some 82) _ = _
        simp only [Act.put, List.setIfInBounds_toArray, List.set_cons_zero, List.set_cons_succ, i64_w, i32_w]
        rfl
      refine one_ (i := 22) (N := some 83) #[true, true, true, true, true, true, true, true, true, true, true, true, true, true, true, true, true, true, true, true, true, true, true, false, false] rfl rfl (by kernel_rfl) (by decide) (fun K hK => ?_)
      refine Kd.R_lit_step (Kd.int .i64) v2.heap.size 3 ?hg (N := 83) ?hd (xs := ([C, V] : List Int)) (inner := [.int .i64 C, .int .i64 V]) (ok := fun _ => True) (okp := fun _ => True) ?hr ?hp (fun _ hk => hk) trivial (Below.refl _ _) (Nat.le_refl _) (by simp) ?_; (case hd => rfl); (case hg => rfl); (case hr => first | (go_simp; done) | (go_simp; rfl)); (case hp => exact (Reps.one (show Kd.M (Kd.int .i64) _ _ _ C [.int .i64 C] from rfl) (Reps.one (show Kd.M (Kd.int .i64) _ _ _ V [.int .i64 V] from rfl) (Reps.none _ _))))
      intro v9 v3 hR9 hb hg_ hnew_
      clear hg_ hnew_
      have HV3 := Lib.hid (HV2.out.trans (hb.mono HV2.out.size))
      obtain ⟨A9, c9, rfl, h9, hC9⟩ := Kd.R_reads hR9
      refine hK.out _ _ HV3.out (fun hHeld => ?_)
      clear hK K
      refine norm_ (a' := ?_) ?_ ?_
      rotate_left
      · show Act.put _ (some 83) _ = _
        simp only [Act.put, List.setIfInBounds_toArray, List.set_cons_zero, List.set_cons_succ, i64_w, i32_w]
        rfl
      refine one_ (i := 23) (N := some 84) #[true, true, true, true, true, true, true, true, true, true, true, true, true, true, true, true, true, true, true, true, true, true, true, true, false] rfl rfl (by kernel_rfl) (by decide) (fun K hK => ?_)
      refine call_ 55 #[.slice A9 ([C, V] : List Int).length c9] (by rfl) rfl ?_ ?_
      · go_simp
      obtain ⟨kj, hkj⟩ := or_ev C V
      refine (Pr.cmp_Or_int.calls kj A9 c9 [C, V] _ v3 hC9 h9 (hkj kj (Nat.le_refl _))).mono ?_
      rintro E v4 ⟨rfl, hq⟩
      have HV4 := Lib.hid (HV3.out.trans ((show Below v3.heap.size v3 v4 by obtain ⟨q, rfl⟩ := hq; exact pw_below_drewN (Below.refl _ _) _).mono HV3.out.size))
      refine ⟨_, rfl, hK.out _ _ HV4.out (fun hHeld => ?_)⟩
      clear hK K hq hkj hC9 h9 hR9 hb
      refine norm_ (a' := ?_) ?_ ?_
      rotate_left
      · show Act.put _ (some 84) _ = _
        simp only [Act.put, List.setIfInBounds_toArray, List.set_cons_zero, List.set_cons_succ, i64_w, i32_w]
        rfl
      refine pure_ (i := 24) (N := some 6) (v := ?_) (a' := ?_) #[true, true, true, true, true, true, true, true, true, true, true, true, true, true, true, true, true, true, true, true, true, true, true, true, true] rfl rfl (by kernel_rfl) (fun _ _ _ h => h) (Or.inl ⟨by rfl, ?_⟩) ?_ ?_
      rotate_left
      · intro w'
        go_simp
        with_reducible rfl
      rotate_left
      · simp only [Act.put, List.setIfInBounds_toArray, List.set_cons_zero, List.set_cons_succ, i64_w, i32_w]
        rfl
      refine done_ (by kernel_rfl) ?_
      have h := HATT.out
      obtain ⟨W, hW⟩ : ∃ W, W = (if C = 0 then V else C) := ⟨_, rfl⟩
      rw [← hW] at h ⊢
      clear hW
      have HBF := Lib.hid (HBD0.out.trans (HV4.out.mono HBD0.out.size))
      by_cases hW0 : W = 0
      · rw [if_pos hW0] at h
        have HN := Lib.hid h
        have e9 : (W == 0) = true := by simp [hW0]
        clear h hW0
        go_wp2_with fail
        exact ⟨⟨i + 1, by omega, by simp, HN, HBF⟩, by simp [intOf]; omega⟩
      · rw [if_neg hW0] at h
        have HN := Lib.hid h
        have e9 : (W == 0) = false := by simpa using hW0
        clear h hW0
        go_wp2_with fail
        go_ret
        exact ⟨by rw [HN.out]; rfl, HBB.out.trans (HBF.out.mono HBB.out.size)⟩
    · have : i = m := by omega
      have h1 := HR.out.trans (cmpO_end f x.f4 x.f5 y.f4 y.f5 i HLX.out HLY.out (by rw [this]; exact HM.out))
      have hka := thru HKA.out HBW.out
      have hkb := thru HKB.out HBW.out
      obtain ⟨q0, q1, q2, q3, q4, q5, q6, q7⟩ := eight hka
      obtain ⟨p0, p1, p2, p3, p4, p5, p6, p7⟩ := eight hkb
      have HBX := Lib.hid (HBB.out.trans (HBW.out.mono HBB.out.size))
      have HN := Lib.hid h1
      have hlt : ¬ (i : Int) < (m : Int) := by omega
      clear h1 this him hka hkb
      go_wp2_with fail
      refine (Tryz.cmp_Compare_int _ _ _).mono ?_
      rintro E w1 ⟨rfl, rfl⟩
      go_wp2_with fail
      go_ret
      exact ⟨by rw [HN.out]; rfl, HBX.out⟩
theorem compare_calls : ∀ (n : Nat) (x y : S28), Cv n x → Cv n y → CCalls (cmpF n) x y
  | 0, _, _, h, _ => h.elim
  | n + 1, x, y, ⟨hk, ho, hl, hi⟩, ⟨hk', ho', hl', hi'⟩ => by
    have IH : ∀ i, i < x.f4.length → i < y.f4.length → CCalls (cmpF n) (x.f4.getD i z28) (y.f4.getD i z28) := fun i h k => compare_calls n _ _ (hi i h) (hi' i k)
    intro A1 B1 A2 B2 c1 d1 c2 d2 w hJ hK
    unfold cmpF
    by_cases h0 : x.f0 = y.f0
    · rw [if_pos h0]
      by_cases h4 : x.f0 = 4
      · rw [if_pos h4]; exact compare_arr (cmpF n) x y h4 (h0 ▸ h4) IH A1 B1 A2 B2 c1 d1 c2 d2 w hJ hK
      · rw [if_neg h4]
        by_cases h5 : x.f0 = 5
        · rw [if_pos h5]; exact compare_obj (cmpF n) x y h5 (h0 ▸ h5) (hl h5) (hl' (h0 ▸ h5)) IH A1 B1 A2 B2 c1 d1 c2 d2 w hJ hK
        · rw [if_neg h5]
          exact compare_flat x y h0 ⟨hk.1, by omega⟩ ho ho' A1 A2 B1 B2 _ _ _ _ c1 c2 d1 d2 w
    · rw [if_neg h0]
      exact compare_ne x y h0 A1 A2 B1 B2 _ _ _ _ c1 c2 d1 d2 w
end Js
end Go.Proofs.YtapcpndplnkfjaaGreatDoor
namespace Go.Proofs.YtapcpndplnkfjaaGreatDoor
open Go.RowKit Go.Proofs.YtapcpndplnkfjaaGreatDoorW.PrintWords Go.Proofs.YtapcpndplnkfjaaGreatDoorW.PrintLast Go.Proofs.YtapcpndplnkfjaaGreatDoorW.PrintMore
set_option linter.unusedVariables false
set_option linter.unusedSimpArgs false
namespace Js
theorem lexA (c c' f f' : Int) (h : c = -c') (k : f = -f') : (if c = 0 then f else c) = -(if c' = 0 then f' else c') := by split <;> split <;> omega
def cmpG {α : Type} (g : α → α → Int) : List α → List α → Int
  | [], [] => 0
  | [], _ :: _ => -1
  | _ :: _, [] => 1
  | x :: xs, y :: ys => if g x y = 0 then cmpG g xs ys else g x y
theorem cmpG_anti {α : Type} {g : α → α → Int} (h : ∀ a b, g a b = - g b a) : ∀ l m : List α, cmpG g l m = - cmpG g m l
  | [], [] => rfl
  | [], _ :: _ => rfl
  | _ :: _, [] => rfl
  | x :: xs, y :: ys => lexA _ _ _ _ (h x y) (cmpG_anti h xs ys)
theorem cmpL_G (f : S28 → S28 → Int) : ∀ l m, cmpL f l m = cmpG f l m
  | [], [] => rfl
  | [], _ :: _ => rfl
  | _ :: _, [] => rfl
  | x :: xs, y :: ys => by unfold cmpL cmpG; rw [cmpL_G f xs ys]
def gM (f : S28 → S28 → Int) (p q : S28 × ByteArray) : Int := cmpM f p.1 q.1 p.2 q.2
theorem cmpO_G (f : S28 → S28 → Int) : ∀ (xs : List S28) (ns : List ByteArray) (ys : List S28) (ms : List ByteArray), xs.length = ns.length → ys.length = ms.length → cmpO f xs ns ys ms = cmpG (gM f) (xs.zip ns) (ys.zip ms)
  | [], [], [], [], _, _ => rfl
  | [], [], _ :: ys, _ :: ms, _, _ => by
    show Lib.compareInt ((0 : Nat) : Int) ((ms.length + 1 : Nat) : Int) = -1
    unfold Lib.compareInt; rw [if_pos (by omega)]
  | _ :: xs, _ :: ns, [], [], _, _ => by
    show Lib.compareInt ((ns.length + 1 : Nat) : Int) ((0 : Nat) : Int) = 1
    unfold Lib.compareInt; rw [if_neg (by omega), if_pos (by omega)]
  | x :: xs, a :: ns, y :: ys, b :: ms, h, k => by
    show (if cmpM f x y a b = 0 then cmpO f xs ns ys ms else cmpM f x y a b) = (if cmpM f x y a b = 0 then cmpG (gM f) (xs.zip ns) (ys.zip ms) else cmpM f x y a b)
    rw [cmpO_G f xs ns ys ms (by simpa using h) (by simpa using k)]
  | [], _ :: _, _, _, h, _ => absurd h (by simp)
  | _ :: _, [], _, _, h, _ => absurd h (by simp)
  | _, _, [], _ :: _, _, h => absurd h (by simp)
  | _, _, _ :: _, [], _, h => absurd h (by simp)
theorem cI_anti (a b : Int) : Lib.compareInt a b = - Lib.compareInt b a := by unfold Lib.compareInt; (repeat' split) <;> omega
theorem cmpO_anti {f : S28 → S28 → Int} (h : ∀ a b, f a b = - f b a) : ∀ (xs : List S28) (ns : List ByteArray) (ys : List S28) (ms : List ByteArray), cmpO f xs ns ys ms = - cmpO f ys ms xs ns
  | [], _, [], _ => cI_anti _ _
  | [], _, _ :: _, [] => cI_anti _ _
  | [], _, _ :: _, _ :: _ => cI_anti _ _
  | _ :: _, [], [], _ => cI_anti _ _
  | _ :: _, [], _ :: _, [] => cI_anti _ _
  | _ :: _, [], _ :: _, _ :: _ => cI_anti _ _
  | _ :: _, _ :: _, [], _ => cI_anti _ _
  | _ :: _, _ :: _, _ :: _, [] => cI_anti _ _
  | x :: xs, a :: ns, y :: ys, b :: ms => by
    show (if cmpM f x y a b = 0 then cmpO f xs ns ys ms else cmpM f x y a b) = -(if cmpM f y x b a = 0 then cmpO f ys ms xs ns else cmpM f y x b a)
    refine lexA _ _ _ _ (lexA _ _ _ _ (cmpB_anti _ _) (h x y)) (cmpO_anti h xs ns ys ms)
theorem flat_anti (x y : S28) : cmpFlat x y = - cmpFlat y x := by
  unfold cmpFlat
  by_cases h : x.f0 = y.f0
  · rw [if_pos h, if_pos h.symm, h]
    split
    · omega
    split
    · exact cmpP_anti _ _
    split
    · exact cmpB_anti _ _
    · rfl
  · rw [if_neg h, if_neg (Ne.symm h)]; exact cI_anti _ _
theorem cmpF_anti : ∀ (n : Nat) (x y : S28), cmpF n x y = - cmpF n y x
  | 0, _, _ => rfl
  | n + 1, x, y => by
    unfold cmpF
    by_cases h : x.f0 = y.f0
    · rw [if_pos h, if_pos h.symm, h]
      split
      · rw [cmpL_G, cmpL_G]; exact cmpG_anti (cmpF_anti n) _ _
      split
      · exact cmpO_anti (cmpF_anti n) _ _ _ _
      · exact flat_anti x y
    · rw [if_neg h, if_neg (Ne.symm h)]; exact cI_anti _ _
theorem Cv_z (n : Nat) : Cv (n + 1) z28 := ⟨by decide, ⟨by decide, by decide, by decide, by decide⟩, fun h => absurd h (by decide), fun i hi => absurd hi (by show ¬ i < 0; omega)⟩
theorem Cv_flat {n : Nat} {x : S28} (h1 : 0 ≤ x.f0 ∧ x.f0 ≤ 4) (h2 : okNum x.f2) (h3 : x.f4 = []) : Cv (n + 1) x := ⟨⟨h1.1, by omega⟩, h2, fun h => by omega, fun i hi => by rw [h3] at hi; exact absurd hi (by simp)⟩
theorem okz : okNum z24 := ⟨by decide, by decide, by decide, by decide⟩
theorem gv_Cv : ∀ (n : Nat) (a : S), (gv n a).2.e = 0 → Cv n (gv n a).1
  | 0, a, h => by
    exfalso
    unfold gv at h
    split at h
    · exact fail_ne _ 11 (by decide) h
    · rename_i h1; exact h1 h
  | n + 1, a, h => by
    have hv : gv (n + 1) a = S.value1 textV (S.arr (gv n)) (S.obj (gv n)) a.skip := rfl
    rw [hv] at h ⊢
    generalize a.skip = b at h ⊢
    unfold S.value1 at h ⊢
    split at h
    · rename_i h0; exact absurd h h0
    rename_i h0; rw [if_neg h0]
    split at h
    · exact absurd h (fail_ne _ 11 (by decide))
    rename_i c l hs
    have hfl : ∀ k q, (0 ≤ k ∧ k ≤ (4 : Int)) → Cv (n + 1) (S28.mk k q z24 ⟨#[]⟩ [] []) := fun k q hk => Cv_flat hk okz rfl
    split at h
    · rename_i hc; rw [if_pos hc]; exact Cv_z n
    rename_i hc; rw [if_neg hc]
    split at h
    · rename_i hc; rw [if_pos hc]; exact hfl _ _ (by decide)
    rename_i hc; rw [if_neg hc]
    split at h
    · rename_i hc; rw [if_pos hc]; exact hfl _ _ (by decide)
    rename_i hc; rw [if_neg hc]
    split at h
    · rename_i hc; rw [if_pos hc]; exact Cv_flat (show (0 : Int) ≤ 3 ∧ (3 : Int) ≤ 4 by decide) okz rfl
    rename_i hc; rw [if_neg hc]
    split at h
    · rename_i hc; rw [if_pos hc]
      have h1 : (listG (arrT (gv n)) [93] [] b.enter).2.e = 0 := h
      have := listG_inv (st := arrT (gv n)) (Inv := fun xs k => ∀ i, i < xs.length → Cv n (xs.getD i z28)) (fun x a h => arrT_e h n x) (fun x k j h1 hj => h1)
        (fun x a ha hi hv i hil => by
          unfold arrT at hil ⊢
          simp only [List.length_append, List.length_cons, List.length_nil] at hil
          by_cases hx : i < x.length
          · have := hi i hx
            rw [List.getD_eq_getElem?_getD] at this ⊢
            rwa [List.getElem?_append_left hx]
          · have : i = x.length := by omega
            subst this
            rw [List.getD_eq_getElem?_getD, List.getElem?_append_right (by omega)]
            simp
            exact gv_Cv n a hv) 93 [] b.enter (fun i hi => absurd hi (by simp)) h1
      exact ⟨⟨by show (0 : Int) ≤ 4; decide, by show (4 : Int) ≤ 5; decide⟩, okz, fun e => absurd (show (4 : Int) = 5 from e) (by decide), this⟩
    rename_i hc; rw [if_neg hc]
    split at h
    · rename_i hc; rw [if_pos hc]
      have h1 : (listG (objT (gv n)) [125] ([], []) b.enter).2.e = 0 := h
      have := listG_inv (st := objT (gv n)) (Inv := fun p k => p.1.length = p.2.length ∧ ∀ a ∈ p.1, Cv n a) (fun x a h => objT_e h n x) (fun x k j h1 hj => h1)
        (fun x a ha ⟨hi1, hi2⟩ hv => by
          unfold objT at hv ⊢
          by_cases hp : Lib.hasPrefix a.skip.s [34] = false
          · rw [if_pos hp] at hv
            exact absurd hv (fail_ne _ 11 (by decide))
          rw [if_neg hp] at hv ⊢
          have hv' : (gv n (objA x.2 a)).2.e = 0 := hv
          have h9 := pos_len x.2 (objN a)
          refine ⟨?_, fun q hq => ?_⟩
          · simp only [put, List.length_append, List.length_take, List.length_drop, List.length_cons, List.length_nil]
            omega
          · simp only [put, List.mem_append, List.mem_singleton] at hq
            rcases hq with (hq | hq) | hq
            · exact hi2 q (List.mem_of_mem_take hq)
            · rw [hq]; exact gv_Cv n _ hv'
            · exact hi2 q (List.mem_of_mem_drop hq)) 125 ([], []) b.enter ⟨rfl, fun a ha => by cases ha⟩ h1
      exact ⟨⟨by show (0 : Int) ≤ 5; decide, by show (5 : Int) ≤ 5; decide⟩, okz, fun _ => this.1, fun i hi => this.2 _ (by rw [List.getD_eq_getElem?_getD, List.getElem?_eq_getElem hi]; exact List.getElem_mem hi)⟩
    rename_i hc; rw [if_neg hc]
    split at h
    · rename_i hc; rw [if_pos hc]
      exact Cv_flat (show (0 : Int) ≤ 2 ∧ (2 : Int) ≤ 4 by decide) (parse_ok _) rfl
    · exact absurd h (fail_ne _ 11 (by decide))
theorem pv_Cv (s : List UInt8) : Cv 17 (pv s).1 := by
  generalize hp : pv s = q
  obtain ⟨x, e⟩ := q
  by_cases he : e = 0
  · subst he
    obtain ⟨hl, r, hg, hr⟩ := pv_ok hp
    have := gv_Cv 17 ⟨s, 0, 0⟩ (by rw [hg])
    rwa [hg] at this
  · have hx : x = z28 := by
      by_cases hl : s.length ≤ 4096
      · rw [pv_gv s hl] at hp
        split at hp
        · exact absurd (congrArg Prod.snd hp).symm he
        · exact (congrArg Prod.fst hp).symm
      · unfold pv parseV at hp
        rw [if_pos (by omega)] at hp
        exact (congrArg Prod.fst hp).symm
    rw [hx]
    exact Cv_z 16
end Js
end Go.Proofs.YtapcpndplnkfjaaGreatDoor
namespace Go.Proofs.YtapcpndplnkfjaaGreatDoor
open Go.RowKit Go.Proofs.YtapcpndplnkfjaaGreatDoorW.PrintWords Go.Proofs.YtapcpndplnkfjaaGreatDoorW.PrintLast Go.Proofs.YtapcpndplnkfjaaGreatDoorW.PrintMore
set_option linter.unusedVariables false
set_option linter.unusedSimpArgs false
namespace Js
theorem lessC : ∀ a b : List UInt8, Op.bytesLess a b = decide (Lib.compareBytes a b = -1)
  | [], [] => by decide
  | [], _ :: _ => by simp [Op.bytesLess, Lib.compareBytes]
  | _ :: _, [] => by simp [Op.bytesLess, Lib.compareBytes]
  | x :: a, y :: b => by
    simp only [Op.bytesLess, Lib.compareBytes]
    by_cases h : x < y
    · simp [h]
    · by_cases h2 : y < x
      · have : x ≠ y := by rintro rfl; exact h h2
        simp [h, h2, this]
      · have : x = y := by rw [← UInt8.toNat_inj]; rw [UInt8.lt_iff_toNat_lt] at *; omega
        subst this
        simp only [h, if_false, decide_false, Bool.false_or, beq_self_eq_true, Bool.true_and]
        exact lessC a b
theorem cmpS_anti (a b : ByteArray) : cmpS a b = - cmpS b a := cmpB_anti _ _
theorem cmpS_bd (a b : ByteArray) : -1 ≤ cmpS a b ∧ cmpS a b ≤ 1 := compare_bd _ _
theorem cmpS_zero {a b : ByteArray} (h : cmpS a b = 0) : a = b := by
  have := cmpB_zero _ _ h
  rw [← ofL_of a, ← ofL_of b, this]
theorem cmpS_self (a : ByteArray) : cmpS a a = 0 := by have := cmpS_anti a a; omega
theorem cmpS_lt {a b c : ByteArray} (h : cmpS a b = -1) (k : cmpS b c = -1) : cmpS a c = -1 := by
  have t : cmpS a c ≤ 0 := cmpB_trans _ b.data.toList _ (show cmpS a b ≤ 0 by omega) (show cmpS b c ≤ 0 by omega)
  have hb := cmpS_bd a c
  by_cases h0 : cmpS a c = 0
  · have := cmpS_zero h0
    subst this
    have := cmpS_anti a b
    omega
  · omega
def rises (ns : List ByteArray) : Prop := ns.Pairwise fun a b => cmpS a b = -1
def lessB (x a : ByteArray) : Bool := decide (cmpS a x = -1)
theorem bs_spec (less : Nat → Bool) (k N : Nat) (h1 : ∀ t, t < k → less t = true) (h2 : ∀ t, k ≤ t → t < N → less t = false) : ∀ (f lo hi : Nat), hi - lo ≤ f → lo ≤ k → k ≤ hi → hi ≤ N → Lib.bsGo less f lo hi = k
  | 0, lo, hi, hf, hl, hh, _ => by unfold Lib.bsGo; omega
  | f + 1, lo, hi, hf, hl, hh, hn => by
    unfold Lib.bsGo
    by_cases h : lo < hi
    · rw [if_pos h]
      by_cases hk : (lo + hi) / 2 < k
      · rw [h1 _ hk, if_pos rfl]
        exact bs_spec less k N h1 h2 f _ hi (by omega) (by omega) hh hn
      · rw [h2 _ (by omega) (by omega), if_neg (by decide)]
        exact bs_spec less k N h1 h2 f lo _ (by omega) hl (by omega) (by omega)
    · rw [if_neg h]; omega
theorem tw_lt {p : ByteArray → Bool} {ns : List ByteArray} {i : Nat} (h : i < (ns.takeWhile p).length) : ∃ hi : i < ns.length, p ns[i] = true := by
  have hle := (List.takeWhile_sublist p (l := ns)).length_le
  refine ⟨by omega, ?_⟩
  have h1 : (ns.takeWhile p)[i] ∈ ns.takeWhile p := List.getElem_mem h
  have h2 := List.all_takeWhile (p := p) (l := ns)
  rw [List.all_eq_true] at h2
  have h3 := h2 _ h1
  have h4 : (ns.takeWhile p)[i] = ns[i]'(by omega) := by
    have : ns.takeWhile p <+: ns := List.takeWhile_prefix p
    exact List.IsPrefix.getElem this h
  rwa [h4] at h3
theorem tw_at {p : ByteArray → Bool} : ∀ {ns : List ByteArray} (h : (ns.takeWhile p).length < ns.length), p (ns[(ns.takeWhile p).length]'h) = false
  | [], h => absurd h (by simp)
  | a :: ns, h => by
    by_cases ha : p a = true
    · have e : (a :: ns).takeWhile p = a :: ns.takeWhile p := by simp [List.takeWhile_cons, ha]
      have h' : (ns.takeWhile p).length < ns.length := by rw [e] at h; simpa using h
      have ih := tw_at (p := p) h'
      simp only [e, List.length_cons, List.getElem_cons_succ]
      exact ih
    · have e : (a :: ns).takeWhile p = [] := by simp [List.takeWhile_cons, ha]
      simp only [e, List.length_nil, List.getElem_cons_zero]
      simpa using ha
theorem pos_tw {ns : List ByteArray} (h : rises ns) (x : ByteArray) : pos ns x = (ns.takeWhile (lessB x)).length := by
  have hle := (List.takeWhile_sublist (lessB x) (l := ns)).length_le
  have hg : ∀ t, (ht : t < ns.length) → Op.bytesLess (ns.getD t ⟨#[]⟩).toList x.toList = lessB x ns[t] := fun t ht => by
    have : ns.getD t ⟨#[]⟩ = ns[t] := by simp [List.getD, ht]
    rw [this, lessC, ByteArray.toList_eq, ByteArray.toList_eq]; rfl
  refine bs_spec _ _ ns.length (fun t ht => ?_) (fun t ht htn => ?_) _ _ _ (by omega) (Nat.zero_le _) hle (Nat.le_refl _)
  · obtain ⟨hi, hp⟩ := tw_lt ht
    rw [hg t hi]; exact hp
  · rw [hg t htn]
    have hk : (ns.takeWhile (lessB x)).length < ns.length := by omega
    have hf := tw_at hk
    by_cases e : t = (ns.takeWhile (lessB x)).length
    · subst e; exact hf
    · have hr := List.pairwise_iff_getElem.1 h _ t hk htn (by omega)
      unfold lessB at hf ⊢
      rw [decide_eq_false_iff_not] at hf ⊢
      exact fun h2 => hf (cmpS_lt hr h2)
theorem has_iff {ns : List ByteArray} (h : rises ns) (x : ByteArray) : has ns x = true ↔ x ∈ ns := by
  unfold has
  rw [decide_eq_true_iff, pos_tw h x]
  constructor
  · rintro ⟨h1, h2⟩
    have : ns.getD (ns.takeWhile (lessB x)).length ⟨#[]⟩ = ns[(ns.takeWhile (lessB x)).length] := by simp [List.getD, h1]
    rw [this] at h2
    rw [← h2]; exact List.getElem_mem h1
  · intro hx
    obtain ⟨i, hi, rfl⟩ := List.mem_iff_getElem.1 hx
    have e : (ns.takeWhile (lessB ns[i])).length = i := by
      rcases Nat.lt_trichotomy (ns.takeWhile (lessB ns[i])).length i with hlt | heq | hgt
      · exfalso
        have hf := tw_at (p := lessB ns[i]) (ns := ns) (by omega)
        have hr := List.pairwise_iff_getElem.1 h _ i (by omega) hi hlt
        unfold lessB at hf
        rw [decide_eq_false_iff_not] at hf
        exact hf hr
      · exact heq
      · exfalso
        obtain ⟨hi2, hp⟩ := tw_lt hgt
        unfold lessB at hp
        rw [decide_eq_true_iff, cmpS_self] at hp
        exact absurd hp (by decide)
    rw [e]
    exact ⟨hi, by simp [List.getD, hi]⟩
theorem take_tw (p : ByteArray → Bool) (ns : List ByteArray) : ns.take (ns.takeWhile p).length = ns.takeWhile p := by
  conv => lhs; arg 2; rw [← List.takeWhile_append_dropWhile (p := p) (l := ns)]
  rw [List.take_left']
  rfl
theorem drop_tw' (p : ByteArray → Bool) (ns : List ByteArray) : ns.drop (ns.takeWhile p).length = ns.dropWhile p := by
  conv => lhs; arg 2; rw [← List.takeWhile_append_dropWhile (p := p) (l := ns)]
  rw [List.drop_left']
  rfl
theorem put_rises {ns : List ByteArray} (h : rises ns) {x : ByteArray} (hx : has ns x = false) : rises (put ns (pos ns x) x) := by
  have hnx : x ∉ ns := fun hm => by rw [(has_iff h x).2 hm] at hx; cases hx
  have hsp := List.takeWhile_append_dropWhile (p := lessB x) (l := ns)
  have hr : rises (ns.takeWhile (lessB x) ++ ns.dropWhile (lessB x)) := by rw [hsp]; exact h
  unfold rises at hr
  rw [List.pairwise_append] at hr
  unfold put
  rw [pos_tw h x, take_tw, drop_tw']
  have hl : ∀ a ∈ ns.takeWhile (lessB x), cmpS a x = -1 := fun a ha => by
    have h2 := List.all_takeWhile (p := lessB x) (l := ns)
    rw [List.all_eq_true] at h2
    have := h2 a ha
    unfold lessB at this
    rwa [decide_eq_true_iff] at this
  have hd : ∀ b ∈ ns.dropWhile (lessB x), cmpS x b = -1 := fun b hb => by
    have hbn : b ∈ ns := by rw [← hsp]; exact List.mem_append_right _ hb
    have h1 : cmpS b x ≠ -1 := fun hlt => by
      cases hdw : ns.dropWhile (lessB x) with
      | nil => rw [hdw] at hb; cases hb
      | cons c l =>
        have hc : lessB x c = false := by
          have := List.head?_dropWhile_not (lessB x) ns
          rw [hdw] at this
          simpa using this
        rw [hdw] at hb hr
        unfold lessB at hc
        rw [decide_eq_false_iff_not] at hc
        rcases List.mem_cons.1 hb with rfl | hb
        · exact hc hlt
        · exact hc (cmpS_lt ((List.pairwise_cons.1 hr.2.1).1 b hb) hlt)
    have h2 : cmpS b x ≠ 0 := fun h0 => hnx (by rw [← cmpS_zero h0]; exact hbn)
    have h3 := cmpS_bd b x
    have h4 := cmpS_anti x b
    omega
  unfold rises
  rw [List.append_assoc, List.pairwise_append]
  refine ⟨hr.1, ?_, fun a ha b hb => ?_⟩
  · rw [List.singleton_append, List.pairwise_cons]
    exact ⟨hd, hr.2.1⟩
  · rw [List.singleton_append, List.mem_cons] at hb
    rcases hb with rfl | hb
    · exact hl a ha
    · exact cmpS_lt (hl a ha) (hd b hb)
def Wv : Nat → S28 → Prop
  | 0, _ => False
  | n + 1, x => x = z28 ∨ (∃ b, x = ⟨1, b, z24, ⟨#[]⟩, [], []⟩) ∨ (∃ d D e, x = ⟨2, false, ⟨d, ofL D, e⟩, ⟨#[]⟩, [], []⟩ ∧ NumP.right (d, D, e) = true) ∨ (∃ l, x = ⟨3, false, z24, ofL l, [], []⟩ ∧ U8 l) ∨
    (∃ xs, x = ⟨4, false, z24, ⟨#[]⟩, xs, []⟩ ∧ 1 ≤ n ∧ ∀ y ∈ xs, Wv n y) ∨ (∃ xs ns, x = ⟨5, false, z24, ⟨#[]⟩, xs, ns⟩ ∧ 1 ≤ n ∧ xs.length = ns.length ∧ (∀ y ∈ xs, Wv n y) ∧ rises ns ∧ ∀ k ∈ ns, U8 k.data.toList)
variable {σ : Type}
theorem loop_inv2 {st : σ → S → σ × S} {Inv : σ → Prop} {P : S → Prop} (he : ∀ x a, a.e ≠ 0 → (st x a).2.e = a.e) (hP : ∀ a p, P a → P (a.take p)) (hPs : ∀ x a, P a → P (st x a).2)
    (hst : ∀ x a, P a → Inv x → (st x a).2.e = 0 → Inv (st x a).1) :
    ∀ n x a, P a → Inv x → (listLoop st n x a).2.e = 0 → Inv (listLoop st n x a).1
  | 0, x, a, _, h, _ => h
  | n + 1, x, a, hp, h, h0 => by
    unfold listLoop at h0 ⊢
    by_cases ht : a.took [44] = true
    · rw [if_pos ht] at h0 ⊢
      have h1 : (st x (a.take [44])).2.e = 0 := by
        by_cases hq : (st x (a.take [44])).2.e = 0
        · exact hq
        · exact absurd ((loop_bad st hq n _).symm.trans h0) hq
      exact loop_inv2 he hP hPs hst n _ _ (hPs _ _ (hP _ _ hp)) (hst x _ (hP _ _ hp) h h1) h0
    · rw [if_neg ht]; exact h
theorem listG_inv2 {st : σ → S → σ × S} {Inv : σ → Prop} {P : S → Prop} (he : ∀ x a, a.e ≠ 0 → (st x a).2.e = a.e) (hP : ∀ a p, P a → P (a.take p)) (hPs : ∀ x a, P a → P (st x a).2)
    (hst : ∀ x a, P a → Inv x → (st x a).2.e = 0 → Inv (st x a).1) (d : UInt8) (x : σ) (a : S) (hp : P a) (h : Inv x) (h0 : (listG st [d] x a).2.e = 0) : Inv (listG st [d] x a).1 := by
  unfold listG at h0 ⊢
  by_cases ht : a.took [d] = true
  · rw [if_pos ht]; exact h
  · rw [if_neg ht] at h0 ⊢
    have h3 : ((listLoop st ((st x (a.take [d])).2.s.length + 1) (st x (a.take [d])).1 (st x (a.take [d])).2).2.need [d]).e = 0 := h0
    have h2 := e0_of (f := fun a => a.need [d]) (fun a ha => need_e ha [d]) h3
    have h1 : (st x (a.take [d])).2.e = 0 := by
      by_cases hq : (st x (a.take [d])).2.e = 0
      · exact hq
      · exact absurd ((loop_bad st hq _ _).symm.trans h2) hq
    exact loop_inv2 he hP hPs hst _ _ _ (hPs _ _ (hP _ _ hp)) (hst x _ (hP _ _ hp) h h1) h2
theorem gv_Wv : ∀ (n : Nat) (a : S), a.o + n = 17 → (gv n a).2.e = 0 → Wv n (gv n a).1
  | 0, a, _, h => by
    exfalso
    unfold gv at h
    split at h
    · exact fail_ne _ 11 (by decide) h
    · rename_i h1; exact h1 h
  | n + 1, a, ho, h => by
    have hv : gv (n + 1) a = S.value1 textV (S.arr (gv n)) (S.obj (gv n)) a.skip := rfl
    rw [hv] at h ⊢
    have hso : a.skip.o + ((n + 1 : Nat) : Int) = 17 := ho
    generalize a.skip = b at h hso ⊢
    have hen : (b.enter).e = 0 → 1 ≤ n ∧ b.enter.o + (n : Int) = 17 := fun h0 => by
      have hf := enter_facts b
      refine ⟨?_, by rw [hf.2.1]; push_cast at hso; omega⟩
      by_cases h16 : b.o = 16
      · exact absurd h0 (hf.2.2.2 h16)
      · push_cast at hso; omega
    unfold S.value1 at h ⊢
    split at h
    · rename_i h0; exact absurd h h0
    rename_i h0; rw [if_neg h0]
    split at h
    · exact absurd h (fail_ne _ 11 (by decide))
    rename_i c l hs
    split at h
    · rename_i hc; rw [if_pos hc]; exact .inl rfl
    rename_i hc; rw [if_neg hc]
    split at h
    · rename_i hc; rw [if_pos hc]; exact .inr (.inl ⟨true, rfl⟩)
    rename_i hc; rw [if_neg hc]
    split at h
    · rename_i hc; rw [if_pos hc]; exact .inr (.inl ⟨false, rfl⟩)
    rename_i hc; rw [if_neg hc]
    split at h
    · rename_i hc; rw [if_pos hc]; exact .inr (.inr (.inr (.inl ⟨b.st.1, rfl, st_U8 b h⟩)))
    rename_i hc; rw [if_neg hc]
    split at h
    · rename_i hc; rw [if_pos hc]
      have h1 : (listG (arrT (gv n)) [93] [] b.enter).2.e = 0 := h
      have he := hen (e0_of (f := fun a => (listG (arrT (gv n)) [93] [] a).2) (fun a ha => listG_e (fun x a h => arrT_e h n x) _ _ ha) h1)
      have := listG_inv2 (st := arrT (gv n)) (Inv := fun xs => ∀ y ∈ xs, Wv n y) (P := fun a => a.o + (n : Int) = 17) (fun x a h => arrT_e h n x) (fun a p h => by rw [take_o]; exact h) (fun x a h => by show (gv n a).2.o + _ = _; rw [(keeps_gv n a).o]; exact h)
        (fun x a ha hi hv y hy => by
          rcases List.mem_append.1 hy with hy | hy
          · exact hi y hy
          · rw [List.mem_singleton] at hy; rw [hy]; exact gv_Wv n a ha hv) 93 [] b.enter he.2 (fun y hy => by cases hy) h1
      exact .inr (.inr (.inr (.inr (.inl ⟨_, rfl, he.1, this⟩))))
    rename_i hc; rw [if_neg hc]
    split at h
    · rename_i hc; rw [if_pos hc]
      have h1 : (listG (objT (gv n)) [125] ([], []) b.enter).2.e = 0 := h
      have he := hen (e0_of (f := fun a => (listG (objT (gv n)) [125] ([], []) a).2) (fun a ha => listG_e (fun x a h => objT_e h n x) _ _ ha) h1)
      have := listG_inv2 (st := objT (gv n)) (Inv := fun p => p.1.length = p.2.length ∧ (∀ y ∈ p.1, Wv n y) ∧ rises p.2 ∧ ∀ k ∈ p.2, U8 k.data.toList) (P := fun a => a.o + (n : Int) = 17) (fun x a h => objT_e h n x) (fun a p h => by rw [take_o]; exact h)
        (fun x a h => by
          unfold objT
          split
          · show (a.skip.fail 11).o + _ = _; rw [fail_o]; exact h
          · show (gv n (objA x.2 a)).2.o + _ = _; rw [(keeps_gv n _).o, (keeps_objA x.2 a).o]; exact h)
        (fun x a ha ⟨i1, i2, i3, i4⟩ hv => by
          unfold objT at hv ⊢
          by_cases hp : Lib.hasPrefix a.skip.s [34] = false
          · rw [if_pos hp] at hv
            exact absurd hv (fail_ne _ 11 (by decide))
          rw [if_neg hp] at hv ⊢
          have hv' : (gv n (objA x.2 a)).2.e = 0 := hv
          have he := e0_of (f := fun a => (gv n a).2) (fun a ha => by rw [gv_bad ha]; rfl) hv'
          have h9 := pos_len x.2 (objN a)
          have ht : (S.twice a.skip.st.2 (has x.2 (objN a))).e = 0 := e0_of (f := fun b => S.need b [58]) (fun b hb => need_e hb [58]) he
          have hst : (a.skip.st).2.e = 0 := e0_of (f := fun b => S.twice b (has x.2 (objN a))) (fun b hb => twice_e hb _) ht
          have hh : has x.2 (objN a) = false := by
            cases hb : has x.2 (objN a) with
            | false => rfl
            | true =>
              rw [hb] at ht
              unfold S.twice at ht
              rw [if_pos rfl] at ht
              exact absurd ht (fail_ne _ 31 (by decide))
          refine ⟨?_, fun q hq => ?_, put_rises i3 hh, fun k hk => ?_⟩
          · simp only [put, List.length_append, List.length_take, List.length_drop, List.length_cons, List.length_nil]
            omega
          · simp only [put, List.mem_append, List.mem_singleton] at hq
            rcases hq with (hq | hq) | hq
            · exact i2 q (List.mem_of_mem_take hq)
            · rw [hq]; exact gv_Wv n _ (by rw [(keeps_objA x.2 a).o]; exact ha) hv'
            · exact i2 q (List.mem_of_mem_drop hq)
          · simp only [put, List.mem_append, List.mem_singleton] at hk
            rcases hk with (hk | hk) | hk
            · exact i4 k (List.mem_of_mem_take hk)
            · rw [hk]; exact st_U8 a.skip hst
            · exact i4 k (List.mem_of_mem_drop hk)) 125 ([], []) b.enter he.2 ⟨rfl, fun y hy => (by cases hy), List.Pairwise.nil, fun k hk => (by cases hk)⟩ h1
      exact .inr (.inr (.inr (.inr (.inr ⟨_, _, rfl, he.1, this.1, this.2.1, this.2.2.1, this.2.2.2⟩))))
    rename_i hc; rw [if_neg hc]
    split at h
    · rename_i hc; rw [if_pos hc]
      have hn : (NumP.parse b.numL).2 = 0 := by
        unfold S.numS at h
        simp only [] at h
        split at h
        · assumption
        · rename_i h9
          exact absurd h (fail_ne _ _ h9)
      obtain ⟨k1, k2, k3⟩ := parse_0 hn
      refine .inr (.inr (.inl ⟨(NumP.parse b.numL).1.1, (NumP.parse b.numL).1.2.1, (NumP.parse b.numL).1.2.2, rfl, ?_⟩))
      rw [k3]; exact k2
    · exact absurd h (fail_ne _ 11 (by decide))
theorem Wv_z (n : Nat) : Wv (n + 1) z28 := .inl rfl
theorem pv_Wv (s : List UInt8) : Wv 17 (pv s).1 := by
  generalize hp : pv s = q
  obtain ⟨x, e⟩ := q
  by_cases he : e = 0
  · subst he
    obtain ⟨hl, r, hg, hr⟩ := pv_ok hp
    have := gv_Wv 17 ⟨s, 0, 0⟩ rfl (by rw [hg])
    rwa [hg] at this
  · have hx : x = z28 := by
      by_cases hl : s.length ≤ 4096
      · rw [pv_gv s hl] at hp
        split at hp
        · exact absurd (congrArg Prod.snd hp).symm he
        · exact (congrArg Prod.fst hp).symm
      · unfold pv parseV at hp
        rw [if_pos (by omega)] at hp
        exact (congrArg Prod.fst hp).symm
    rw [hx]
    exact Wv_z 16
theorem cmpG_zero {α : Type} {P : α → Prop} {g : α → α → Int} (h : ∀ a b, P a → P b → g a b = 0 → a = b) : ∀ l m : List α, (∀ a ∈ l, P a) → (∀ a ∈ m, P a) → cmpG g l m = 0 → l = m
  | [], [], _, _, _ => rfl
  | [], _ :: _, _, _, h => by simp [cmpG] at h
  | _ :: _, [], _, _, h => by simp [cmpG] at h
  | x :: xs, y :: ys, hl, hm, hz => by
    unfold cmpG at hz
    by_cases h0 : g x y = 0
    · rw [if_pos h0] at hz
      rw [h x y (hl x (by simp)) (hm y (by simp)) h0, cmpG_zero h xs ys (fun a ha => hl a (by simp [ha])) (fun a ha => hm a (by simp [ha])) hz]
    · rw [if_neg h0] at hz; exact absurd hz h0
theorem told_inj {b c : Bool} (h : told b - told c = 0) : b = c := by cases b <;> cases c <;> simp_all [told]
theorem cI_zero {a b : Int} (h : Lib.compareInt a b = 0) : a = b := by
  unfold Lib.compareInt at h
  split at h
  · omega
  · split at h <;> omega
theorem zip_inj {α β : Type} : ∀ {a b : List α} {c d : List β}, a.length = c.length → b.length = d.length → a.zip c = b.zip d → a = b ∧ c = d
  | [], [], [], [], _, _, _ => ⟨rfl, rfl⟩
  | [], _ :: _, [], _ :: _, _, _, h => by simp at h
  | _ :: _, [], _ :: _, [], _, _, h => by simp at h
  | x :: a, y :: b, z :: c, w :: d, h1, h2, h => by
    simp only [List.zip_cons_cons, List.cons.injEq, Prod.mk.injEq] at h
    obtain ⟨i, j⟩ := zip_inj (by simpa using h1) (by simpa using h2) h.2
    exact ⟨by rw [h.1.1, i], by rw [h.1.2, j]⟩
  | [], _, _ :: _, _, h, _, _ => by simp at h
  | _ :: _, _, [], _, h, _, _ => by simp at h
  | _, [], _, _ :: _, _, h, _ => by simp at h
  | _, _ :: _, _, [], _, h, _ => by simp at h
theorem cmpF_zero : ∀ (n : Nat) (x y : S28), Wv n x → Wv n y → cmpF n x y = 0 → x = y
  | 0, _, _, h, _, _ => h.elim
  | n + 1, x, y, hx, hy, h => by
    have ih := cmpF_zero n
    have hk : x.f0 = y.f0 := by
      by_cases hk : x.f0 = y.f0
      · exact hk
      · unfold cmpF at h; rw [if_neg hk] at h; exact absurd (cI_zero h) hk
    unfold cmpF at h
    rw [if_pos hk] at h
    rcases hx with rfl | ⟨b, rfl⟩ | ⟨d, D, e, rfl, hr⟩ | ⟨l, rfl, hu⟩ | ⟨xs, rfl, -, hi⟩ | ⟨xs, ns, rfl, -, hl, hi, -, -⟩ <;> rcases hy with rfl | ⟨b', rfl⟩ | ⟨d', D', e', rfl, hr'⟩ | ⟨l', rfl, hu'⟩ | ⟨xs', rfl, -, hi'⟩ | ⟨xs', ns', rfl, -, hl', hi', -, -⟩
    all_goals try (exfalso; have hk' := hk; simp [z28] at hk'; done)
    · rfl
    · have : told b - told b' = 0 := h
      rw [told_inj this]
    · have h2 : cmpP (d, D, e) (d', D', e') = 0 := h
      have := cmpP_zero _ _ hr hr' h2
      simp only [Prod.mk.injEq] at this
      rw [this.1, this.2.1, this.2.2]
    · have h2 : Lib.compareBytes l l' = 0 := h
      rw [cmpB_zero _ _ h2]
    · have h2 : cmpL (cmpF n) xs xs' = 0 := h
      rw [cmpL_G] at h2
      rw [cmpG_zero (P := Wv n) ih xs xs' hi hi' h2]
    · have h2 : cmpO (cmpF n) xs ns xs' ns' = 0 := h
      rw [cmpO_G _ _ _ _ _ hl hl'] at h2
      have := cmpG_zero (P := fun p : S28 × ByteArray => Wv n p.1) (fun a b ha hb h0 => by
        unfold gM cmpM at h0
        by_cases hc : cmpS a.2 b.2 = 0
        · rw [if_pos hc] at h0
          exact Prod.ext (ih a.1 b.1 ha hb h0) (cmpS_zero hc)
        · rw [if_neg hc] at h0; exact absurd h0 hc) _ _ (fun p hp => hi _ (List.of_mem_zip hp).1) (fun p hp => hi' _ (List.of_mem_zip hp).1) h2
      obtain ⟨e1, e2⟩ := zip_inj hl hl' this
      rw [e1, e2]
theorem cmpF_self (n : Nat) (x : S28) : cmpF n x x = 0 := by have := cmpF_anti n x x; omega
end Js
end Go.Proofs.YtapcpndplnkfjaaGreatDoor
namespace Go.Proofs.YtapcpndplnkfjaaGreatDoor
open Go.RowKit Go.Proofs.YtapcpndplnkfjaaGreatDoorW.PrintWords Go.Proofs.YtapcpndplnkfjaaGreatDoorW.PrintLast Go.Proofs.YtapcpndplnkfjaaGreatDoorW.PrintMore
set_option linter.unusedVariables false
set_option linter.unusedSimpArgs false
namespace Js
theorem trim_cons {c : UInt8} (h : [32, 9, 10, 13].contains c = false) (l : List UInt8) : Lib.trimLeftS (c :: l) [32, 9, 10, 13] = c :: l := by
  unfold Lib.trimLeftS
  rw [List.dropWhile_cons, h]; rfl
theorem stop_cons (c : UInt8) (l : List UInt8) (h : [32, 9, 10, 13, 44, 93, 125].contains c = true) : stop (c :: l) := fun d hd => by simp at hd; subst hd; exact h
theorem skip_of {u : List UInt8} (o : Int) : S.skip ⟨u, o, 0⟩ = ⟨Lib.trimLeftS u [32, 9, 10, 13], o, 0⟩ := rfl
theorem took_of {u l : List UInt8} {c : UInt8} (o : Int) (h : Lib.trimLeftS u [32, 9, 10, 13] = c :: l) (d : UInt8) : S.took ⟨u, o, 0⟩ [d] = (d == c) := by
  unfold S.took
  rw [skip_of, h]
  simp only []
  rw [pref_one]; simp
theorem take_is {u l : List UInt8} {c : UInt8} (o : Int) (h : Lib.trimLeftS u [32, 9, 10, 13] = c :: l) : S.take ⟨u, o, 0⟩ [c] = ⟨l, o, 0⟩ := by
  rw [take_yes (by rw [took_of o h]; simp), skip_of, h]
  unfold Lib.trimPrefix
  rw [if_pos (show Lib.hasPrefix (c :: l) [c] = true by rw [pref_one]; simp)]
  rfl
theorem take_not {u l : List UInt8} {c : UInt8} (o : Int) (h : Lib.trimLeftS u [32, 9, 10, 13] = c :: l) {d : UInt8} (hd : d ≠ c) : S.take ⟨u, o, 0⟩ [d] = ⟨c :: l, o, 0⟩ := by
  rw [take_no (by rw [took_of o h]; simpa using hd), skip_of, h]
theorem need_is {u l : List UInt8} {c : UInt8} (o : Int) (h : Lib.trimLeftS u [32, 9, 10, 13] = c :: l) : S.need ⟨u, o, 0⟩ [c] = ⟨l, o, 0⟩ := by
  unfold S.need
  rw [if_pos (by rw [took_of o h]; simp), take_is o h]
theorem listG_go {σ : Type} {st : σ → S → σ × S} {p : List UInt8} {x y : σ} {a b : S} (ht : a.took p = false) (hb : st x (a.take p) = (y, b)) : listG st p x a = ((listLoop st (b.s.length + 1) y b).1, ((listLoop st (b.s.length + 1) y b).2.need p).left) := by
  unfold listG
  rw [ht, if_neg (by decide), hb]
theorem loop_more {σ : Type} {st : σ → S → σ × S} {n : Nat} {x y : σ} {u l : List UInt8} {o : Int} {b : S} (h : Lib.trimLeftS u [32, 9, 10, 13] = 44 :: l) (hb : st x ⟨l, o, 0⟩ = (y, b)) : listLoop st (n + 1) x ⟨u, o, 0⟩ = listLoop st n y b := by
  conv => lhs; unfold listLoop
  rw [if_pos (by rw [took_of o h]; rfl), take_is o h, hb]
theorem loop_end {σ : Type} (st : σ → S → σ × S) (n : Nat) (x : σ) {u l : List UInt8} {c : UInt8} {o : Int} (h : Lib.trimLeftS u [32, 9, 10, 13] = c :: l) (hc : 44 ≠ c) (hw : [32, 9, 10, 13].contains c = false) (hn : n ≠ 0) : listLoop st n x ⟨u, o, 0⟩ = (x, ⟨c :: l, o, 0⟩) := by
  obtain ⟨k, rfl⟩ : ∃ k, n = k + 1 := ⟨n - 1, by omega⟩
  unfold listLoop
  rw [if_neg (by rw [took_of o h]; simpa using hc), take_not o h hc]
end Js
end Go.Proofs.YtapcpndplnkfjaaGreatDoor
namespace Go.Proofs.YtapcpndplnkfjaaGreatDoor
open Go.RowKit Go.Proofs.YtapcpndplnkfjaaGreatDoorW.PrintWords Go.Proofs.YtapcpndplnkfjaaGreatDoorW.PrintLast Go.Proofs.YtapcpndplnkfjaaGreatDoorW.PrintMore
set_option linter.unusedVariables false
set_option linter.unusedSimpArgs false
namespace Js
theorem plainL_stop (n : Nat) (b : UInt8) (l : List UInt8) (h : b = 34 ∨ b = 92) : plainL (n + 1) (b :: l) = (0, true) := by
  have hb : b.toNat < 128 := by rcases h with rfl | rfl <;> decide
  have hd := Lib.decodeL_ascii b l hb
  rw [plainL, if_neg (by simp), hd, if_pos]
  rcases h with rfl | rfl
  · exact .inl rfl
  · exact .inr rfl
theorem plainL_cons (n : Nat) {c : List UInt8} (hc : Ch c) (h1 : (Lib.decodeL c).1 ≠ 34) (h2 : (Lib.decodeL c).1 ≠ 92) (h3 : 32 ≤ (Lib.decodeL c).1) (l : List UInt8) :
    plainL (n + 1) (c ++ l) = (c.length + (plainL n l).1, (plainL n l).2) := by
  have hne : c ++ l ≠ [] := by simp [hc.1]
  have hw := Lib.decodeL_width c
  have hg : ¬ ((Lib.decodeL c).1 = 65533 ∧ (Lib.decodeL c).2 < 2) := fun h => hc.2.1 ⟨h.1, by omega⟩
  rw [plainL, if_neg hne, Ch_app hc, if_neg (by rintro (h | h) <;> contradiction), if_neg (by omega), if_neg hg, hc.2.2, List.drop_left']
  rfl
theorem Ch_cases {c : List UInt8} (h : Ch c) : (∃ b : UInt8, c = [b] ∧ b.toNat < 128 ∧ (Lib.decodeL c).1 = b.toNat) ∨ (128 ≤ (Lib.decodeL c).1 ∧ ∀ b ∈ c, 128 ≤ b.toNat) := by
  obtain ⟨b, c', rfl⟩ : ∃ b c', c = b :: c' := List.exists_cons_of_ne_nil h.1
  by_cases hb : b.toNat < 128
  · left
    have hd := Lib.decodeL_ascii b c' hb
    have hl := h.2.2
    rw [hd] at hl
    have : c' = [] := by
      cases c' with
      | nil => rfl
      | cons d l => simp at hl
    subst this
    exact ⟨b, rfl, hb, by rw [hd]⟩
  · right
    have h128 : 128 ≤ (Lib.decodeL (b :: c')).1 := by
      have hg := h.2.1
      rw [Lib.decodeL_N] at hg ⊢
      have hb0 : ((b :: c').getD 0 0).toNat = b.toNat := rfl
      generalize ((b :: c').getD 0 0).toNat = b0 at *
      generalize hd : Lib.decodeN _ b0 _ _ _ = d at *
      unfold Lib.decodeN at hd
      rw [if_neg (by omega)] at hd
      repeat' split at hd
      all_goals
        subst hd
        first
          | (simp only []; omega)
          | exact absurd ⟨rfl, rfl⟩ hg
    exact ⟨h128, Ch_len h h128⟩
theorem quote_big {c : List UInt8} (h : ∀ b ∈ c, 128 ≤ b.toNat) : c.flatMap quoteB = c := by
  induction c with
  | nil => rfl
  | cons b c ih =>
    have hb := h b (by simp)
    have : quoteB b = [b] := by
      unfold quoteB
      rw [if_neg (by rintro (rfl | rfl) <;> exact absurd hb (by decide)), if_neg (by omega)]
    rw [List.flatMap_cons, this, ih (fun x hx => h x (by simp [hx]))]
    rfl
theorem Ch_quote {c : List UInt8} (h : Ch c) : (c.flatMap quoteB = c ∧ (Lib.decodeL c).1 ≠ 34 ∧ (Lib.decodeL c).1 ≠ 92 ∧ 32 ≤ (Lib.decodeL c).1) ∨ (∃ b, c = [b] ∧ (b = 34 ∨ b = 92) ∧ c.flatMap quoteB = [92, b]) ∨
    (∃ b : UInt8, c = [b] ∧ b.toNat < 32 ∧ c.flatMap quoteB = [92, 117, 48, 48, hexD (b.toNat / 16), hexD (b.toNat % 16)]) := by
  rcases Ch_cases h with ⟨b, rfl, hb, hd⟩ | ⟨h1, h2⟩
  · by_cases hs : b = 34 ∨ b = 92
    · refine .inr (.inl ⟨b, rfl, hs, ?_⟩)
      simp [quoteB, hs]
    · by_cases h32 : b.toNat < 32
      · refine .inr (.inr ⟨b, rfl, h32, ?_⟩)
        simp [quoteB, hs, h32]
      · refine .inl ⟨by simp [quoteB, hs, h32], ?_, ?_, by omega⟩
        · rw [hd]; intro e; exact hs (.inl (UInt8.toNat_inj.1 e))
        · rw [hd]; intro e; exact hs (.inr (UInt8.toNat_inj.1 e))
  · exact .inl ⟨quote_big h2, by omega, by omega, by omega⟩
theorem plain_quote {l : List UInt8} (h : U8 l) (t : List UInt8) : ∀ n, (l.flatMap quoteB ++ 34 :: t).length < n → (plainL n (l.flatMap quoteB ++ 34 :: t)).2 = true := by
  induction h with
  | nil =>
    intro n hn
    obtain ⟨k, rfl⟩ : ∃ k, n = k + 1 := ⟨n - 1, by omega⟩
    show (plainL (k + 1) (34 :: t)).2 = true
    rw [plainL_stop k 34 t (.inl rfl)]
  | cons c l hc _ ih =>
    intro n hn
    obtain ⟨k, rfl⟩ : ∃ k, n = k + 1 := ⟨n - 1, by omega⟩
    rw [quoteF_app] at hn ⊢
    rcases Ch_quote hc with ⟨e, h1, h2, h3⟩ | ⟨b, e1, h1, e⟩ | ⟨b, e1, h1, e⟩
    · rw [e] at hn ⊢
      rw [List.append_assoc] at hn ⊢
      rw [plainL_cons k hc h1 h2 h3]
      have hp : 0 < c.length := List.length_pos_iff.2 hc.1
      exact ih k (by rw [List.length_append] at hn; omega)
    · rw [e]
      simp only [List.cons_append, List.nil_append]
      rw [plainL_stop k 92 _ (.inr rfl)]
    · rw [e]
      simp only [List.cons_append, List.nil_append]
      rw [plainL_stop k 92 _ (.inr rfl)]
theorem esc_pair (b : UInt8) (h : b = 34 ∨ b = 92) (l : List UInt8) (o : Int) : S.esc ⟨b :: l, o, 0⟩ = ([b], ⟨l, o, 0⟩) := by
  show S.escT b ⟨l, o, 0⟩ = _
  unfold S.escT
  rcases h with rfl | rfl
  · rw [if_neg (by decide), if_neg (by decide)]; rfl
  · rw [if_neg (by decide), if_neg (by decide)]; rfl
theorem four_ctl : ∀ k : Fin 32, fourLoop (ofL (Lib.toLowerD [48, 48, hexD (k.val / 16), hexD (k.val % 16)])) ((ofL (Lib.toLowerD [48, 48, hexD (k.val / 16), hexD (k.val % 16)])).size + 1) 0 0 = some (k.val : Int) := by decide +kernel
theorem enc_ctl : ∀ k : Fin 32, encL (k.val : Int) = [UInt8.ofNat k.val] := by decide +kernel
theorem esc_ctl (b : UInt8) (h : b.toNat < 32) (l : List UInt8) (o : Int) : S.esc ⟨117 :: 48 :: 48 :: hexD (b.toNat / 16) :: hexD (b.toNat % 16) :: l, o, 0⟩ = ([b], ⟨l, o, 0⟩) := by
  show S.escT 117 ⟨48 :: 48 :: hexD (b.toNat / 16) :: hexD (b.toNat % 16) :: l, o, 0⟩ = _
  unfold S.escT
  rw [if_pos rfl]
  have hf : S.four ⟨48 :: 48 :: hexD (b.toNat / 16) :: hexD (b.toNat % 16) :: l, o, 0⟩ = ((b.toNat : Int), ⟨l, o, 0⟩) := by
    unfold S.four
    rw [if_neg (by simp)]
    have hlow : S.low ⟨48 :: 48 :: hexD (b.toNat / 16) :: hexD (b.toNat % 16) :: l, o, 0⟩ = ofL (Lib.toLowerD [48, 48, hexD (b.toNat / 16), hexD (b.toNat % 16)]) := rfl
    rw [hlow]
    have := four_ctl ⟨b.toNat, h⟩
    simp only [] at this
    rw [this]
    rfl
  unfold S.sign
  rw [hf]
  simp only []
  rw [if_pos (.inl (by omega))]
  have := enc_ctl ⟨b.toNat, h⟩
  simp only [] at this
  rw [this, UInt8.ofNat_toNat]
theorem strLoop_plain (n : Nat) (out : List UInt8) {c : List UInt8} (hc : Ch c) (h1 : (Lib.decodeL c).1 ≠ 34) (h2 : (Lib.decodeL c).1 ≠ 92) (h3 : 32 ≤ (Lib.decodeL c).1) (l : List UInt8) (o : Int) (hl : (plainL (l.length + 1) l).2 = true) :
    strLoop S.esc (n + 1) out ⟨c ++ l, o, 0⟩ = strLoop S.esc (n + 1) (out ++ c) ⟨l, o, 0⟩ := by
  have hp : S.plain ⟨c ++ l, o, 0⟩ = (c.length + (S.plain ⟨l, o, 0⟩).1, (S.plain ⟨l, o, 0⟩).2) := by
    have hcl : 0 < c.length := List.length_pos_iff.2 hc.1
    rw [plain_L, plain_L, plainL_cons _ hc h1 h2 h3, plainL_fuel (c ++ l).length (l.length + 1) l (by rw [List.length_append]; omega) (by omega)]
  have hl' : (S.plain ⟨l, o, 0⟩).2 = true := by rw [plain_L]; exact hl
  have hlt := (plain_le ⟨l, o, 0⟩).2 hl'
  simp only [] at hlt
  rw [strLoop_ok, strLoop_ok]
  have hcut : S.cut ⟨c ++ l, o, 0⟩ = S.cut ⟨l, o, 0⟩ := by
    unfold S.cut
    rw [hp]
    simp only []
    rw [show c.length + (S.plain ⟨l, o, 0⟩).1 + 1 = c.length + ((S.plain ⟨l, o, 0⟩).1 + 1) by omega, ← List.drop_drop, List.drop_left' rfl]
  have htk : (c ++ l).take (S.plain ⟨c ++ l, o, 0⟩).1 = c ++ l.take (S.plain ⟨l, o, 0⟩).1 := by
    rw [hp]
    simp only []
    rw [List.take_append, List.take_of_length_le (by omega)]
    congr 2
    omega
  have hgd : (c ++ l).getD (S.plain ⟨c ++ l, o, 0⟩).1 0 = l.getD (S.plain ⟨l, o, 0⟩).1 0 := by
    rw [hp]
    simp only []
    rw [List.getD_eq_getElem?_getD, List.getD_eq_getElem?_getD, List.getElem?_append_right (by omega)]
    congr 2
    omega
  rw [hcut, htk, hgd]
  have h2e : (S.plain ⟨c ++ l, o, 0⟩).2 = true := by rw [hp]; exact hl'
  have htf : ¬ (true = false) := by decide
  rw [h2e, hl', if_neg htf, if_neg htf]
  simp only [List.append_assoc]
theorem quote_loop {l : List UInt8} (h : U8 l) (t : List UInt8) (o : Int) : ∀ n out, (l.flatMap quoteB ++ 34 :: t).length < n → strLoop S.esc n out ⟨l.flatMap quoteB ++ 34 :: t, o, 0⟩ = (out ++ l, ⟨t, o, 0⟩) := by
  induction h with
  | nil =>
    intro n out hn
    obtain ⟨k, rfl⟩ : ∃ k, n = k + 1 := ⟨n - 1, by omega⟩
    show strLoop S.esc (k + 1) out ⟨34 :: t, o, 0⟩ = _
    have hp : S.plain ⟨34 :: t, o, 0⟩ = (0, true) := by rw [plain_L]; exact plainL_stop _ 34 t (.inl rfl)
    rw [strLoop_ok, hp]
    have hcut : S.cut ⟨34 :: t, o, 0⟩ = ⟨t, o, 0⟩ := by unfold S.cut; rw [hp]; rfl
    rw [hcut]
    rfl
  | cons c l hc hu ih =>
    intro n out hn
    obtain ⟨k, rfl⟩ : ∃ k, n = k + 1 := ⟨n - 1, by omega⟩
    rw [quoteF_app] at hn ⊢
    have hpq := plain_quote hu t ((l.flatMap quoteB ++ 34 :: t).length + 1) (by omega)
    rcases Ch_quote hc with ⟨e, h1, h2, h3⟩ | ⟨b, e1, h1, e⟩ | ⟨b, e1, h1, e⟩
    · rw [e] at hn ⊢
      rw [List.append_assoc] at hn ⊢
      rw [strLoop_plain k out hc h1 h2 h3 _ o hpq, ih (k + 1) (out ++ c) (by rw [List.length_append] at hn; omega), List.append_assoc]
    · rw [e] at hn ⊢
      simp only [List.cons_append, List.nil_append] at hn ⊢
      have hp : S.plain ⟨92 :: b :: (l.flatMap quoteB ++ 34 :: t), o, 0⟩ = (0, true) := by rw [plain_L]; exact plainL_stop _ 92 _ (.inr rfl)
      have hcut : S.cut ⟨92 :: b :: (l.flatMap quoteB ++ 34 :: t), o, 0⟩ = ⟨b :: (l.flatMap quoteB ++ 34 :: t), o, 0⟩ := by unfold S.cut; rw [hp]; rfl
      rw [strLoop_ok, hp, hcut, esc_pair b h1]
      show (if (true : Bool) = false then _ else if (92 : UInt8) = 34 then _ else strLoop S.esc k (out ++ [] ++ [b]) ⟨l.flatMap quoteB ++ 34 :: t, o, 0⟩) = _
      rw [if_neg (by decide), if_neg (by decide), ih k _ (by simp only [List.length_cons] at hn; omega), e1]
      simp
    · rw [e] at hn ⊢
      simp only [List.cons_append, List.nil_append] at hn ⊢
      have hp : S.plain ⟨92 :: 117 :: 48 :: 48 :: hexD (b.toNat / 16) :: hexD (b.toNat % 16) :: (l.flatMap quoteB ++ 34 :: t), o, 0⟩ = (0, true) := by rw [plain_L]; exact plainL_stop _ 92 _ (.inr rfl)
      have hcut : S.cut ⟨92 :: 117 :: 48 :: 48 :: hexD (b.toNat / 16) :: hexD (b.toNat % 16) :: (l.flatMap quoteB ++ 34 :: t), o, 0⟩ = ⟨117 :: 48 :: 48 :: hexD (b.toNat / 16) :: hexD (b.toNat % 16) :: (l.flatMap quoteB ++ 34 :: t), o, 0⟩ := by unfold S.cut; rw [hp]; rfl
      rw [strLoop_ok, hp, hcut, esc_ctl b h1]
      show (if (true : Bool) = false then _ else if (92 : UInt8) = 34 then _ else strLoop S.esc k (out ++ [] ++ [b]) ⟨l.flatMap quoteB ++ 34 :: t, o, 0⟩) = _
      rw [if_neg (by decide), if_neg (by decide), ih k _ (by simp only [List.length_cons] at hn; omega), e1]
      simp
theorem st_quote {l : List UInt8} (h : U8 l) (t : List UInt8) (o : Int) : S.st ⟨quoteL l ++ t, o, 0⟩ = (l, ⟨t, o, 0⟩) := by
  have e : quoteL l ++ t = 34 :: (l.flatMap quoteB ++ 34 :: t) := by unfold quoteL; simp
  rw [e]
  show strLoop S.esc ((34 :: (l.flatMap quoteB ++ 34 :: t)).length + 1) [] ⟨l.flatMap quoteB ++ 34 :: t, o, 0⟩ = _
  rw [quote_loop h t o _ [] (by simp only [List.length_cons]; omega)]
  rfl
def numc (c : UInt8) : Bool := [48, 49, 50, 51, 52, 53, 54, 55, 56, 57, 43, 45, 46, 101, 69].contains c
theorem numc_D {c : UInt8} (h : NumP.isD c = true) : numc c = true := by
  have : ∀ k : Fin 256, NumP.isD (UInt8.ofNat k.val) = true → numc (UInt8.ofNat k.val) = true := by decide +kernel
  have h2 := this ⟨c.toNat, c.toNat_lt⟩
  rw [show UInt8.ofNat (⟨c.toNat, c.toNat_lt⟩ : Fin 256).val = c from UInt8.ofNat_toNat] at h2
  exact h2 h
theorem itoa_numc (e : Int) : ∀ c ∈ Lib.itoa e, numc c = true := by
  intro c hc
  have hd : ∀ u, ∀ c ∈ Lib.decDigits u, numc c = true := fun u c hc => numc_D (List.all_eq_true.1 (dec_isD u).1 c hc)
  unfold Lib.itoa at hc
  split at hc
  · rcases List.mem_cons.1 hc with rfl | hc
    · decide
    · exact hd _ c hc
  · exact hd _ c hc
theorem text_numc (d : Bool) (D : List UInt8) (e : Int) (h : NumP.right (d, D, e) = true) : (∀ c ∈ NumP.text (d, D, e), numc c = true) ∧ ∃ c l, NumP.text (d, D, e) = c :: l ∧ (c = 45 ∨ NumP.isD c = true) := by
  unfold NumP.text
  by_cases h0 : D = []
  · simp only []
    rw [if_pos h0]
    exact ⟨fun c hc => by rw [List.mem_singleton] at hc; subst hc; decide, 48, [], rfl, .inr (by decide)⟩
  · simp only []
    rw [if_neg h0]
    have hp := right_parts h h0
    have hD : ∀ c ∈ D, numc c = true := fun c hc => numc_D (List.all_eq_true.1 hp.1 c hc)
    refine ⟨fun c hc => ?_, ?_⟩
    · rcases List.mem_append.1 hc with hc | hc
      · rcases List.mem_append.1 hc with hc | hc
        · unfold NumP.sgn at hc
          split at hc
          · rw [List.mem_singleton] at hc; subst hc; decide
          · cases hc
        · exact hD c hc
      · split at hc
        · cases hc
        · rcases List.mem_cons.1 hc with rfl | hc
          · decide
          · exact itoa_numc e c hc
    · obtain ⟨c, l, rfl⟩ := List.exists_cons_of_ne_nil h0
      have hc : NumP.isD c = true := List.all_eq_true.1 hp.1 c (by simp)
      cases d with
      | true => exact ⟨45, _, rfl, .inl rfl⟩
      | false => exact ⟨c, _, rfl, .inr hc⟩
theorem num_text (d : Bool) (D : List UInt8) (e : Int) (h : NumP.right (d, D, e) = true) (t : List UInt8) (ht : stop t) (o : Int) :
    S.numS ⟨NumP.text (d, D, e) ++ t, o, 0⟩ = ⟨t, o, 0⟩ ∧ S.numV ⟨NumP.text (d, D, e) ++ t, o, 0⟩ = ⟨2, false, ⟨d, ofL D, e⟩, ⟨#[]⟩, [], []⟩ := by
  have hn := (text_numc d D e h).1
  have hR : S.numR ⟨NumP.text (d, D, e) ++ t, o, 0⟩ = t := by
    unfold S.numR
    rw [trim_app2 _ _ _ (fun c hc => by
      have := ht c hc
      simp at this ⊢
      rcases this with h | h | h | h | h | h | h <;> subst h <;> decide)]
    have : Lib.trimLeftS (NumP.text (d, D, e)) [48, 49, 50, 51, 52, 53, 54, 55, 56, 57, 43, 45, 46, 101, 69] = [] := by
      unfold Lib.trimLeftS
      generalize NumP.text (d, D, e) = l at hn
      induction l with
      | nil => rfl
      | cons c l ih =>
        rw [List.dropWhile_cons, show [48, 49, 50, 51, 52, 53, 54, 55, 56, 57, 43, 45, 46, 101, 69].contains c = true from hn c (by simp)]
        exact ih (fun x hx => hn x (by simp [hx]))
    rw [this, List.nil_append]
  have hL : S.numL ⟨NumP.text (d, D, e) ++ t, o, 0⟩ = NumP.text (d, D, e) := by
    unfold S.numL
    rw [hR]
    simp only []
    rw [List.length_append, show (NumP.text (d, D, e)).length + t.length - t.length = (NumP.text (d, D, e)).length by omega, List.take_left' rfl]
  have hp := parse_text (d, D, e) h
  refine ⟨?_, ?_⟩
  · unfold S.numS
    rw [hL, hp, hR]
    rfl
  · unfold S.numV
    rw [hL, hp]
def Lead (r : List UInt8) : Prop := ∃ c l, r = c :: l ∧ [32, 9, 10, 13].contains c = false ∧ c ≠ 93 ∧ c ≠ 125 ∧ c ≠ 44
theorem Lead.trim {r : List UInt8} (h : Lead r) (t : List UInt8) : ∃ c l, Lib.trimLeftS (r ++ t) [32, 9, 10, 13] = c :: l ∧ r ++ t = c :: l ∧ c ≠ 93 ∧ c ≠ 125 ∧ c ≠ 44 := by
  obtain ⟨c, l, rfl, h1, h2, h3, h4⟩ := h
  exact ⟨c, l ++ t, trim_cons h1 _, rfl, h2, h3, h4⟩
theorem lead_of (c : UInt8) (l : List UInt8) (h : [32, 9, 10, 13].contains c = false) (h2 : [93, 125, 44].contains c = false) : Lead (c :: l) := by
  refine ⟨c, l, rfl, h, ?_, ?_, ?_⟩ <;> (rintro rfl; exact absurd h2 (by decide))
theorem digit_lead (c : UInt8) (l : List UInt8) (h : c = 45 ∨ NumP.isD c = true) : Lead (c :: l) := by
  have : ∀ k : Fin 256, NumP.isD (UInt8.ofNat k.val) = true → [32, 9, 10, 13].contains (UInt8.ofNat k.val) = false ∧ [93, 125, 44].contains (UInt8.ofNat k.val) = false := by decide +kernel
  rcases h with rfl | h
  · exact lead_of _ _ (by decide) (by decide)
  · have h2 := this ⟨c.toNat, c.toNat_lt⟩
    rw [show UInt8.ofNat (⟨c.toNat, c.toNat_lt⟩ : Fin 256).val = c from UInt8.ofNat_toNat] at h2
    exact lead_of _ _ (h2 h).1 (h2 h).2
theorem tx_num {n : Nat} {d : Bool} {D : List UInt8} {e : Int} {r : List UInt8} (h : NumP.right (d, D, e) = true) (hr : txF (n + 1) ⟨2, false, ⟨d, ofL D, e⟩, ⟨#[]⟩, [], []⟩ = some r) : r = NumP.text (d, D, e) := by
  rw [txF_2] at hr
  have hb := right_bd' h
  simp only [] at hr
  rw [text_f' d D e (by omega) (by omega)] at hr
  simp only [Option.bind_some, Option.some.injEq] at hr
  exact hr.symm
theorem tx_str {n : Nat} {l r : List UInt8} (hr : txF (n + 1) ⟨3, false, z24, ofL l, [], []⟩ = some r) : r = quoteL l := by
  have : txF (n + 1) ⟨3, false, z24, ofL l, [], []⟩ = if l.length ≤ 1000000 then some (quoteL l) else none := rfl
  rw [this] at hr
  split at hr
  · exact (Option.some.inj hr).symm
  · cases hr
theorem wrap_some {a b : UInt8} {l : List (List UInt8)} {r : List UInt8} (h : wrapF a b l = some r) : r = a :: Lib.join l [44] ++ [b] := by
  unfold wrapF at h
  split at h
  · exact (Option.some.inj h).symm
  · cases h
theorem tx_lead {n : Nat} {x : S28} {r : List UInt8} (hx : Wv n x) (hr : txF n x = some r) : Lead r := by
  cases n with
  | zero => exact hx.elim
  | succ n =>
    rcases hx with rfl | ⟨b, rfl⟩ | ⟨d, D, e, rfl, h⟩ | ⟨l, rfl, hu⟩ | ⟨xs, rfl, -, hi⟩ | ⟨xs, ns, rfl, -, hl, hi, -, -⟩
    · obtain rfl : [110, 117, 108, 108] = r := Option.some.inj hr
      exact lead_of _ _ (by decide) (by decide)
    · have : (if b = true then [116, 114, 117, 101] else [102, 97, 108, 115, 101]) = r := Option.some.inj hr
      subst this
      cases b
      · exact lead_of _ _ (by decide) (by decide)
      · exact lead_of _ _ (by decide) (by decide)
    · rw [tx_num h hr]
      obtain ⟨c, l, e1, e2⟩ := (text_numc d D e h).2
      rw [e1]; exact digit_lead c l e2
    · rw [tx_str hr]
      unfold quoteL
      exact lead_of _ _ (by decide) (by decide)
    · rw [txF_4, Option.bind_eq_some_iff] at hr
      obtain ⟨l, -, hw⟩ := hr
      rw [wrap_some hw]
      exact lead_of _ _ (by decide) (by decide)
    · rw [txF_5, Option.bind_eq_some_iff] at hr
      obtain ⟨l, -, hw⟩ := hr
      rw [wrap_some hw]
      exact lead_of _ _ (by decide) (by decide)
def Reads' (n : Nat) (o : Int) (x : S28) (r : List UInt8) : Prop := ∀ t, stop t → gv n ⟨r ++ t, o, 0⟩ = (x, ⟨t, o, 0⟩)
theorem stop_tail (rs : List (List UInt8)) (c : UInt8) (t : List UInt8) (hc : c = 93 ∨ c = 125) : stop (Lib.joinTail [44] rs ++ c :: t) := by
  cases rs with
  | nil => rcases hc with rfl | rfl <;> exact stop_cons _ _ (by decide)
  | cons r rs => exact stop_cons 44 _ (by decide)
theorem tail_cons (r : List UInt8) (rs : List (List UInt8)) (l : List UInt8) : Lib.joinTail [44] (r :: rs) ++ l = 44 :: (r ++ (Lib.joinTail [44] rs ++ l)) := by
  unfold Lib.joinTail; simp
theorem arr_tail {n : Nat} {o : Int} (t : List UInt8) : ∀ (ys : List S28) (rs : List (List UInt8)) (acc : List S28) (k : Nat), itemsF (txF n) ys = some rs → (∀ y r, y ∈ ys → txF n y = some r → Reads' n o y r) → ys.length < k →
    listLoop (arrT (gv n)) k acc ⟨Lib.joinTail [44] rs ++ 93 :: t, o, 0⟩ = (acc ++ ys, ⟨93 :: t, o, 0⟩)
  | [], rs, acc, k, h, _, hk => by
    simp [itemsF] at h; subst h
    rw [List.append_nil]
    exact loop_end _ _ _ (trim_cons (by decide) t) (by decide) (by decide) (by simp at hk; omega)
  | y :: ys, rs, acc, k, h, hr, hk => by
    simp only [itemsF, Option.bind_eq_some_iff] at h
    obtain ⟨r, h1, rs', h2, h3⟩ := h
    obtain rfl : r :: rs' = rs := by simpa using h3
    obtain ⟨k, rfl⟩ : ∃ j, k = j + 1 := ⟨k - 1, by simp at hk; omega⟩
    rw [tail_cons]
    have e1 : arrT (gv n) acc ⟨r ++ (Lib.joinTail [44] rs' ++ 93 :: t), o, 0⟩ = (acc ++ [y], ⟨Lib.joinTail [44] rs' ++ 93 :: t, o, 0⟩) := by
      unfold arrT
      rw [hr y r (by simp) h1 _ (stop_tail _ _ _ (.inl rfl))]
    rw [loop_more (trim_cons (by decide) _) e1, arr_tail t ys rs' (acc ++ [y]) k h2 (fun y r hy => hr y r (by simp [hy])) (by simpa using hk)]
    simp
theorem tail_len (rs : List (List UInt8)) : rs.length ≤ (Lib.joinTail [44] rs).length := by
  rw [Lib.joinTail_length]; simp
theorem need_left (c : UInt8) (t : List UInt8) (o : Int) (h : [32, 9, 10, 13].contains c = false) : (S.need ⟨c :: t, o, 0⟩ [c]).left = ⟨t, o - 1, 0⟩ := by
  rw [need_is o (trim_cons h t)]; rfl
theorem arr_back {n : Nat} {o : Int} (xs : List S28) (rs : List (List UInt8)) (h : itemsF (txF n) xs = some rs) (hw : ∀ y ∈ xs, Wv n y) (hr : ∀ y r, y ∈ xs → txF n y = some r → Reads' n o y r) (t : List UInt8) :
    listG (arrT (gv n)) [93] [] ⟨Lib.join rs [44] ++ 93 :: t, o, 0⟩ = (xs, ⟨t, o - 1, 0⟩) := by
  cases xs with
  | nil =>
    simp [itemsF] at h; subst h
    show listG (arrT (gv n)) [93] [] ⟨93 :: t, o, 0⟩ = _
    unfold listG
    rw [if_pos (by rw [took_of o (trim_cons (by decide) t)]; rfl), take_is o (trim_cons (by decide) t)]
    rfl
  | cons y ys =>
    simp only [itemsF, Option.bind_eq_some_iff] at h
    obtain ⟨r, h1, rs', h2, h3⟩ := h
    obtain rfl : r :: rs' = rs := by simpa using h3
    rw [Lib.join_cons, List.append_assoc]
    obtain ⟨c, l, q1, q2, q3, -⟩ := (tx_lead (hw y (by simp)) h1).trim (Lib.joinTail [44] rs' ++ 93 :: t)
    have e1 : arrT (gv n) [] (S.take ⟨r ++ (Lib.joinTail [44] rs' ++ 93 :: t), o, 0⟩ [93]) = ([y], ⟨Lib.joinTail [44] rs' ++ 93 :: t, o, 0⟩) := by
      rw [take_not o q1 (Ne.symm q3), ← q2]
      unfold arrT
      rw [hr y r (by simp) h1 _ (stop_tail _ _ _ (.inl rfl))]
      rfl
    have hl : ys.length = rs'.length := (items_len h2).symm
    have hl2 := tail_len rs'
    rw [listG_go (by rw [took_of o q1]; simpa using Ne.symm q3) e1, arr_tail t ys rs' [y] _ h2 (fun y r hy => hr y r (by simp [hy])) (by simp only [List.length_append]; omega)]
    simp only []
    rw [need_left 93 t o (by decide)]
    rfl
theorem pos_end {ns : List ByteArray} {k : ByteArray} (h : rises (ns ++ [k])) : pos ns k = ns.length ∧ has ns k = false := by
  unfold rises at h
  rw [List.pairwise_append] at h
  have hl : ∀ a ∈ ns, lessB k a = true := fun a ha => by
    unfold lessB; rw [decide_eq_true_iff]; exact h.2.2 a ha k (by simp)
  have ht : ns.takeWhile (lessB k) = ns := by
    have hall : ∀ l : List ByteArray, (∀ a ∈ l, lessB k a = true) → l.takeWhile (lessB k) = l := fun l => by
      induction l with
      | nil => intro _; rfl
      | cons a l ih =>
        intro h
        rw [List.takeWhile_cons, h a (by simp), if_pos rfl, ih (fun b hb => h b (by simp [hb]))]
    exact hall ns hl
  refine ⟨by rw [pos_tw h.1 k, ht], ?_⟩
  cases hb : has ns k with
  | false => rfl
  | true =>
    have := (has_iff h.1 k).1 hb
    have h2 := hl k this
    unfold lessB at h2
    rw [decide_eq_true_iff, cmpS_self] at h2
    exact absurd h2 (by decide)
theorem put_end {α : Type} (l : List α) (x : α) : put l l.length x = l ++ [x] := by unfold put; simp
theorem mem_step {n : Nat} {o : Int} {x : S28} {r : List UInt8} {k : ByteArray} (hr : Reads' n o x r) (hk : U8 k.data.toList) (xs : List S28) (ns : List ByteArray) (hl : xs.length = ns.length) (hs : rises (ns ++ [k])) (t : List UInt8) (ht : stop t) :
    objT (gv n) (xs, ns) ⟨quoteL k.data.toList ++ [58] ++ r ++ t, o, 0⟩ = ((xs ++ [x], ns ++ [k]), ⟨t, o, 0⟩) := by
  obtain ⟨p1, p2⟩ := pos_end hs
  have e0 : quoteL k.data.toList ++ [58] ++ r ++ t = quoteL k.data.toList ++ (58 :: (r ++ t)) := by simp
  have hsk : S.skip ⟨quoteL k.data.toList ++ (58 :: (r ++ t)), o, 0⟩ = ⟨quoteL k.data.toList ++ (58 :: (r ++ t)), o, 0⟩ := by
    rw [skip_of]
    unfold quoteL
    rw [List.cons_append, List.cons_append, trim_cons (by decide)]
  have hN : objN ⟨quoteL k.data.toList ++ (58 :: (r ++ t)), o, 0⟩ = k := by unfold objN; rw [hsk, st_quote hk, ofL_of]
  have hA : objA ns ⟨quoteL k.data.toList ++ (58 :: (r ++ t)), o, 0⟩ = ⟨r ++ t, o, 0⟩ := by
    unfold objA
    rw [hN, p2, hsk, st_quote hk]
    exact need_is o (trim_cons (by decide) _)
  unfold objT
  rw [e0, hN, hA, hsk, p1, hr t ht]
  rw [if_neg (by unfold quoteL; rw [List.cons_append, List.cons_append, pref_one]; decide)]
  rw [put_end, ← hl, put_end]
theorem obj_tail {n : Nat} {o : Int} (t : List UInt8) : ∀ (ys : List S28) (ks : List ByteArray) (rs : List (List UInt8)) (xs : List S28) (ns : List ByteArray) (k : Nat), pairsF (txF n) ys ks = some rs → ys.length = ks.length → xs.length = ns.length → (∀ y r, y ∈ ys → txF n y = some r → Reads' n o y r) → (∀ a ∈ ks, U8 a.data.toList) → rises (ns ++ ks) → ys.length < k →
    listLoop (objT (gv n)) k (xs, ns) ⟨Lib.joinTail [44] rs ++ 125 :: t, o, 0⟩ = ((xs ++ ys, ns ++ ks), ⟨125 :: t, o, 0⟩)
  | [], [], rs, xs, ns, k, h, _, _, _, _, _, hk => by
    simp [pairsF] at h; subst h
    rw [List.append_nil, List.append_nil]
    exact loop_end _ _ _ (trim_cons (by decide) t) (by decide) (by decide) (by simp at hk; omega)
  | [], _ :: _, _, _, _, _, _, h, _, _, _, _, _ => by simp at h
  | _ :: _, [], _, _, _, _, _, h, _, _, _, _, _ => by simp at h
  | y :: ys, a :: ks, rs, xs, ns, k, h, h1, h2, hr, hu, hs, hk => by
    simp only [pairsF] at h
    split at h
    case isFalse => simp at h
    rw [Option.bind_eq_some_iff] at h
    obtain ⟨r, g1, h⟩ := h
    split at h
    case isFalse => simp at h
    rw [Option.bind_eq_some_iff] at h
    obtain ⟨rs', g2, h⟩ := h
    obtain rfl : (quoteL a.data.toList ++ [58] ++ r) :: rs' = rs := Option.some.inj h
    obtain ⟨k, rfl⟩ : ∃ j, k = j + 1 := ⟨k - 1, by simp at hk; omega⟩
    have hs1 : rises (ns ++ [a]) := by
      have : (ns ++ a :: ks) = (ns ++ [a]) ++ ks := by simp
      rw [this] at hs
      exact (List.pairwise_append.1 hs).1
    have hs2 : rises ((ns ++ [a]) ++ ks) := by
      have : (ns ++ a :: ks) = (ns ++ [a]) ++ ks := by simp
      rwa [this] at hs
    rw [tail_cons]
    have e1 := mem_step (hr y r (by simp) g1) (hu a (by simp)) xs ns h2 hs1 (Lib.joinTail [44] rs' ++ 125 :: t) (stop_tail _ _ _ (.inr rfl))
    rw [loop_more (trim_cons (by decide) _) e1, obj_tail t ys ks rs' (xs ++ [y]) (ns ++ [a]) k g2 (by simpa using h1) (by simp [h2]) (fun y r hy => hr y r (by simp [hy])) (fun b hb => hu b (by simp [hb])) hs2 (by simpa using hk)]
    simp
theorem obj_back {n : Nat} {o : Int} (xs : List S28) (ns : List ByteArray) (rs : List (List UInt8)) (h : pairsF (txF n) xs ns = some rs) (hl : xs.length = ns.length) (hr : ∀ y r, y ∈ xs → txF n y = some r → Reads' n o y r) (hu : ∀ a ∈ ns, U8 a.data.toList) (hs : rises ns) (t : List UInt8) :
    listG (objT (gv n)) [125] ([], []) ⟨Lib.join rs [44] ++ 125 :: t, o, 0⟩ = ((xs, ns), ⟨t, o - 1, 0⟩) := by
  match xs, ns, hl with
  | [], [], _ =>
    simp [pairsF] at h; subst h
    show listG (objT (gv n)) [125] ([], []) ⟨125 :: t, o, 0⟩ = _
    unfold listG
    rw [if_pos (by rw [took_of o (trim_cons (by decide) t)]; rfl), take_is o (trim_cons (by decide) t)]
    rfl
  | y :: ys, a :: ks, hl =>
    have hlen : rs.length = (y :: ys).length := pairs_len h
    simp only [pairsF] at h
    split at h
    case isFalse => simp at h
    rw [Option.bind_eq_some_iff] at h
    obtain ⟨r, g1, h⟩ := h
    split at h
    case isFalse => simp at h
    rw [Option.bind_eq_some_iff] at h
    obtain ⟨rs', g2, h⟩ := h
    obtain rfl : (quoteL a.data.toList ++ [58] ++ r) :: rs' = rs := Option.some.inj h
    rw [Lib.join_cons, List.append_assoc]
    have q1 : Lib.trimLeftS (quoteL a.data.toList ++ [58] ++ r ++ (Lib.joinTail [44] rs' ++ 125 :: t)) [32, 9, 10, 13] = 34 :: ((a.data.toList.flatMap quoteB ++ [34]) ++ [58] ++ r ++ (Lib.joinTail [44] rs' ++ 125 :: t)) := by
      unfold quoteL
      simp only [List.cons_append]
      exact trim_cons (by decide) _
    have q2 : quoteL a.data.toList ++ [58] ++ r ++ (Lib.joinTail [44] rs' ++ 125 :: t) = 34 :: ((a.data.toList.flatMap quoteB ++ [34]) ++ [58] ++ r ++ (Lib.joinTail [44] rs' ++ 125 :: t)) := by
      unfold quoteL
      simp only [List.cons_append]
    have e0 := mem_step (hr y r (by simp) g1) (hu a (by simp)) [] [] rfl (by simp [rises]) (Lib.joinTail [44] rs' ++ 125 :: t) (stop_tail _ _ _ (.inr rfl))
    have e1 : objT (gv n) ([], []) (S.take ⟨quoteL a.data.toList ++ [58] ++ r ++ (Lib.joinTail [44] rs' ++ 125 :: t), o, 0⟩ [125]) = (([y], [a]), ⟨Lib.joinTail [44] rs' ++ 125 :: t, o, 0⟩) := by
      rw [take_not o q1 (by decide), ← q2]
      exact e0
    have hl2 := tail_len rs'
    have hl3 : rs'.length = ys.length := by simpa using hlen
    rw [listG_go (by rw [took_of o q1]; rfl) e1, obj_tail t ys ks rs' [y] [a] _ g2 (by simpa using hl) rfl (fun y r hy => hr y r (by simp [hy])) (fun b hb => hu b (by simp [hb])) hs (by simp only [List.length_append]; omega)]
    simp only []
    rw [need_left 125 t o (by decide)]
    rfl
theorem back : ∀ (n : Nat) (x : S28) (r : List UInt8) (o : Int), Wv n x → txF n x = some r → o + n = 17 → Reads' n o x r
  | 0, _, _, _, h, _, _ => h.elim
  | n + 1, x, r, o, hx, hr, ho => by
    intro t ht
    have hld := tx_lead hx hr
    obtain ⟨c, l, q1, q2, -⟩ := hld.trim t
    show S.value1 textV (S.arr (gv n)) (S.obj (gv n)) (S.skip ⟨r ++ t, o, 0⟩) = _
    rw [skip_of, q1, ← q2]
    have hen : 1 ≤ n → ∀ d u, S.enter ⟨d :: u, o, 0⟩ = ⟨u, o + 1, 0⟩ := fun hn d u => by
      unfold S.enter S.enter0
      rw [if_neg (by push_cast at ho; show ¬ o = 16; omega)]
      rfl
    have ho1 : o + 1 + (n : Int) = 17 := by push_cast at ho; omega
    rcases hx with rfl | ⟨b, rfl⟩ | ⟨d, D, e, rfl, h⟩ | ⟨l, rfl, hu⟩ | ⟨xs, rfl, hn, hi⟩ | ⟨xs, ns, rfl, hn, hl, hi, hs, hu⟩
    · obtain rfl : [110, 117, 108, 108] = r := Option.some.inj hr
      have e : S.need ⟨[110, 117, 108, 108] ++ t, o, 0⟩ [110, 117, 108, 108] = ⟨t, o, 0⟩ := rfl
      show (z28, S.need ⟨[110, 117, 108, 108] ++ t, o, 0⟩ [110, 117, 108, 108]) = _
      rw [e]
    · have : (if b = true then [116, 114, 117, 101] else [102, 97, 108, 115, 101]) = r := Option.some.inj hr
      subst this
      cases b
      · rfl
      · rfl
    · rw [tx_num h hr]
      obtain ⟨c, l, e1, e2⟩ := (text_numc d D e h).2
      have hnm := num_text d D e h t ht o
      have hv1 : S.value1 textV (S.arr (gv n)) (S.obj (gv n)) ⟨NumP.text (d, D, e) ++ t, o, 0⟩ = (S.numV ⟨NumP.text (d, D, e) ++ t, o, 0⟩, S.numS ⟨NumP.text (d, D, e) ++ t, o, 0⟩) := by
        unfold S.value1
        rw [if_neg (show ¬ (S.mk (NumP.text (d, D, e) ++ t) o 0).e ≠ 0 from fun h => h rfl)]
        rw [e1]
        simp only [List.cons_append]
        have hcd : c = 45 ∨ 48 ≤ c ∧ c ≤ 57 := by
          rcases e2 with h | h
          · exact .inl h
          · right
            unfold NumP.isD at h
            rw [decide_eq_true_iff] at h
            rw [UInt8.le_iff_toNat_le, UInt8.le_iff_toNat_le]
            exact h
        have hne : ∀ k : UInt8, (k ≠ 45 ∧ ¬ (48 ≤ k ∧ k ≤ 57)) → c ≠ k := fun k hk hck => by subst hck; rcases hcd with h | h; exact hk.1 h; exact hk.2 h
        rw [if_neg (hne 110 (by decide)), if_neg (hne 116 (by decide)), if_neg (hne 102 (by decide)), if_neg (hne 34 (by decide)), if_neg (hne 91 (by decide)), if_neg (hne 123 (by decide)), if_pos hcd]
      rw [hv1, hnm.1, hnm.2]
    · rw [tx_str hr]
      have e : quoteL l ++ t = 34 :: (l.flatMap quoteB ++ [34] ++ t) := by unfold quoteL; simp
      have hs := st_quote hu t o
      show S.value1 textV (S.arr (gv n)) (S.obj (gv n)) ⟨quoteL l ++ t, o, 0⟩ = _
      have hv1 : S.value1 textV (S.arr (gv n)) (S.obj (gv n)) ⟨quoteL l ++ t, o, 0⟩ = textV ⟨quoteL l ++ t, o, 0⟩ := by rw [e]; rfl
      rw [hv1]
      unfold textV
      rw [hs]
    · rw [txF_4, Option.bind_eq_some_iff] at hr
      obtain ⟨rs, h1, hw⟩ := hr
      rw [wrap_some hw]
      have e : 91 :: Lib.join rs [44] ++ [93] ++ t = 91 :: (Lib.join rs [44] ++ 93 :: t) := by simp
      rw [e]
      show S.arr (gv n) ⟨91 :: (Lib.join rs [44] ++ 93 :: t), o, 0⟩ = _
      unfold S.arr
      rw [listF_G, hen hn, arr_back xs rs h1 hi (fun y r hy hr => back n y r (o + 1) (hi y hy) hr ho1) t]
      simp only [Prod.mk.injEq, true_and]
      show S.mk t (o + 1 - 1) 0 = _
      rw [show o + 1 - 1 = o by omega]
    · rw [txF_5, Option.bind_eq_some_iff] at hr
      obtain ⟨rs, h1, hw⟩ := hr
      rw [wrap_some hw]
      have e : 123 :: Lib.join rs [44] ++ [125] ++ t = 123 :: (Lib.join rs [44] ++ 125 :: t) := by simp
      rw [e]
      show S.obj (gv n) ⟨123 :: (Lib.join rs [44] ++ 125 :: t), o, 0⟩ = _
      unfold S.obj
      rw [listF_G, hen hn, obj_back xs ns rs h1 hl (fun y r hy hr => back n y r (o + 1) (hi y hy) hr ho1) hu hs t]
      simp only [Prod.mk.injEq, true_and]
      show S.mk t (o + 1 - 1) 0 = _
      rw [show o + 1 - 1 = o by omega]
theorem pv_back {s r : List UInt8} {x : S28} (h : pv s = (x, 0)) (hl : s.length ≤ 600) (hr : txF 17 x = some r) : pv r = (x, 0) := by
  obtain ⟨r', h1, h2⟩ := pv_text s
  rw [h] at h1 h2
  simp only [] at h1
  rw [hr] at h1
  obtain rfl : r = r' := Option.some.inj h1
  have hw := pv_Wv s
  rw [h] at hw
  have := back 17 x r 0 hw hr rfl [] stop_nil
  rw [List.append_nil] at this
  exact pv_of (r := []) (by have := h2 rfl; omega) this rfl
theorem same_text {s t r q : List UInt8} {x y : S28} (hs : pv s = (x, 0)) (ht : pv t = (y, 0)) (hl : s.length ≤ 600) (hl2 : t.length ≤ 600) (hr : txF 17 x = some r) (hq : txF 17 y = some q) : cmpF 17 x y = 0 ↔ r = q := by
  have hx := pv_Wv s
  have hy := pv_Wv t
  rw [hs] at hx
  rw [ht] at hy
  constructor
  · intro h
    have := cmpF_zero 17 x y hx hy h
    subst this
    rw [hr] at hq
    exact Option.some.inj hq
  · rintro rfl
    have h1 := pv_back hs hl hr
    have h2 := pv_back ht hl2 hq
    rw [h1] at h2
    have : x = y := congrArg Prod.fst h2
    subst this
    exact cmpF_self 17 x
end Js
end Go.Proofs.YtapcpndplnkfjaaGreatDoor
namespace Go.Proofs.YtapcpndplnkfjaaGreatDoor
open Go.RowKit Go.Proofs.YtapcpndplnkfjaaGreatDoorW.PrintWords Go.Proofs.YtapcpndplnkfjaaGreatDoorW.PrintLast Go.Proofs.YtapcpndplnkfjaaGreatDoorW.PrintMore
set_option linter.unusedVariables false
set_option linter.unusedSimpArgs false
namespace Js
theorem eq_text (a b : List UInt8) (c : Int) (h : c = 0 ↔ a = b) : ∃ g : Bool, (c == 0) = g ∧ ((ofL a).toList == (ofL b).toList) = g := by
  rw [ofL_toList, ofL_toList]
  by_cases hc : c = 0
  · exact ⟨true, by simp [hc], by simp [h.1 hc]⟩
  · refine ⟨false, by simpa using hc, ?_⟩
    have : a ≠ b := fun e => hc (h.2 e)
    simpa using this
set_option maxRecDepth 100000 in
set_option maxHeartbeats 2000000 in
theorem back_main (s t : List UInt8) (hs : s.length ≤ 600) (ht : t.length ≤ 600) (w : World) (hT : JTabs w) :
    Calls Tryz.prog 11 #[.string (ofL s), .string (ofL t)] w fun e w' => e = .returned (.bool true) ∧ Below w.heap.size w w' := by
  have HT := Lib.hid hT
  have hs1 : ((ofL s).size : Int) ≤ 600 := by rw [ofL_size]; omega
  have ht1 : ((ofL t).size : Int) ≤ 600 := by rw [ofL_size]; omega
  clear hT
  go_enter Tryz.func11, Tryz.ntmps11
  go_wp2_with fail
  refine (awake15_calls _ HT.out).mono ?_
  rintro E w1 ⟨rfl, hB⟩
  have HB1 := Lib.hid hB
  clear hB
  obtain ⟨X, hX⟩ : ∃ X, X = (pv s).1 := ⟨_, rfl⟩
  obtain ⟨e, he⟩ : ∃ e, e = (pv s).2 := ⟨_, rfl⟩
  obtain ⟨Y, hY⟩ : ∃ Y, Y = (pv t).1 := ⟨_, rfl⟩
  obtain ⟨f, hf⟩ : ∃ f, f = (pv t).2 := ⟨_, rfl⟩
  have HPS : Hid (pv s = (X, e)) := Lib.hid (by rw [hX, he])
  have HPT : Hid (pv t = (Y, f)) := Lib.hid (by rw [hY, hf])
  have HCX : Hid (Cv 17 X) := Lib.hid (by rw [hX]; exact pv_Cv s)
  have HCY : Hid (Cv 17 Y) := Lib.hid (by rw [hY]; exact pv_Cv t)
  clear hX he hY hf
  go_wp2_with fail
  refine (jparseR s _ (HT.out.below HB1.out).t X e HPS.out).mono ?_
  rintro E w2 ⟨A1, c1, B1, d1, rfl, hJ, hR, hB⟩
  have HJ1 := Lib.hid hJ
  have HR1 := Lib.hid hR
  have HB2 := Lib.hid (HB1.out.trans (hB.mono HB1.out.size))
  clear hJ hR hB HB1
  go_wp2_with fail
  refine (jparseR t _ (HT.out.below (below_alloc HB2.out (.cells #[.int .i64 X.f0, .bool X.f1, .bool X.f2.f0, .string X.f2.f1, .int .i64 X.f2.f2, .string X.f3, .slice A1 X.f4.length c1, .slice B1 X.f5.length d1] 28))).t Y f HPT.out).mono ?_
  rintro E w3 ⟨A2, c2, B2, d2, rfl, hJ, hR, hB⟩
  have HK1 := Lib.hid (kept hB).1
  have HJ1 := Lib.hid (HJ1.out.below ((below_alloc (Below.refl _ _) _).trans (hB.mono (below_alloc (Below.refl _ _) _).size)))
  have HJ2 := Lib.hid hJ
  have HR2 := Lib.hid hR
  have HB3 := Lib.hid ((below_alloc HB2.out (.cells #[.int .i64 X.f0, .bool X.f1, .bool X.f2.f0, .string X.f2.f1, .int .i64 X.f2.f2, .string X.f3, .slice A1 X.f4.length c1, .slice B1 X.f5.length d1] 28)).trans (hB.mono (below_alloc HB2.out (.cells #[.int .i64 X.f0, .bool X.f1, .bool X.f2.f0, .string X.f2.f1, .int .i64 X.f2.f2, .string X.f3, .slice A1 X.f4.length c1, .slice B1 X.f5.length d1] 28)).size))
  clear hJ hR hB HB2
  have hout := below_alloc HB3.out (.cells #[.int .i64 Y.f0, .bool Y.f1, .bool Y.f2.f0, .string Y.f2.f1, .int .i64 Y.f2.f2, .string Y.f3, .slice A2 Y.f4.length c2, .slice B2 Y.f5.length d2] 28)
  have HOUT := Lib.hid hout
  clear hout
  by_cases h1 : e = 0
  case neg =>
    have he0 : (e == 0) = false := by simpa using h1
    clear h1
    go_wp2_with fail
    all_goals (go_ret; exact ⟨rfl, HOUT.out⟩)
  subst h1
  by_cases h1 : f = 0
  case neg =>
    have hf0 : (f == 0) = false := by simpa using h1
    clear h1
    go_wp2_with fail
    all_goals (go_ret; exact ⟨rfl, HOUT.out⟩)
  subst h1
  clear HOUT
  obtain ⟨rX, hrX, -⟩ := pv_text s
  rw [HPS.out] at hrX
  have HXX := Lib.hid hrX
  obtain ⟨rY, hrY, -⟩ := pv_text t
  rw [HPT.out] at hrY
  have HXY := Lib.hid hrY
  have HBK := Lib.hid (pv_back HPS.out hs hrX)
  obtain ⟨g, hg1, hg2⟩ := eq_text rX rY (cmpF 17 X Y) (same_text HPS.out HPT.out hs ht hrX hrY)
  have hself : (cmpF 17 X X == 0) = true := by rw [cmpF_self]; rfl
  clear hrX hrY
  have HG1 := Lib.hid hg1
  have HG2 := Lib.hid hg2
  have HSF := Lib.hid hself
  clear hg1 hg2 hself
  go_upto_region 10 with fail
  have hal := below_alloc (Below.refl w3.heap.size w3) (.cells #[.int .i64 Y.f0, .bool Y.f1, .bool Y.f2.f0, .string Y.f2.f1, .int .i64 Y.f2.f2, .string Y.f3, .slice A2 Y.f4.length c2, .slice B2 Y.f5.length d2] 28)
  have HK1 := Lib.hid (blk_alloc HK1.out (.cells #[.int .i64 Y.f0, .bool Y.f1, .bool Y.f2.f0, .string Y.f2.f1, .int .i64 Y.f2.f2, .string Y.f3, .slice A2 Y.f4.length c2, .slice B2 Y.f5.length d2] 28))
  have HK2 := Lib.hid (blk_new w3 (.cells #[.int .i64 Y.f0, .bool Y.f1, .bool Y.f2.f0, .string Y.f2.f1, .int .i64 Y.f2.f2, .string Y.f3, .slice A2 Y.f4.length c2, .slice B2 Y.f5.length d2] 28))
  have HJ1 := Lib.hid (HJ1.out.below hal)
  have HJ2 := Lib.hid (HJ2.out.below hal)
  have HB4 := Lib.hid (below_alloc HB3.out (.cells #[.int .i64 Y.f0, .bool Y.f1, .bool Y.f2.f0, .string Y.f2.f1, .int .i64 Y.f2.f2, .string Y.f3, .slice A2 Y.f4.length c2, .slice B2 Y.f5.length d2] 28))
  obtain ⟨w4, hw⟩ : ∃ w', w' = w3.alloc (.cells #[.int .i64 Y.f0, .bool Y.f1, .bool Y.f2.f0, .string Y.f2.f1, .int .i64 Y.f2.f2, .string Y.f3, .slice A2 Y.f4.length c2, .slice B2 Y.f5.length d2] 28) := ⟨_, rfl⟩
  rw [← hw] at HK1 HJ1 HK2 HJ2 HB4 ⊢
  clear hal hw HB3
  obtain ⟨q10, q11, q12, q13, q14, q15, q16, q17⟩ := eight HK1.out
  go_wp2_with fail
  refine (jtext_calls 17 X rX HXX.out A1 B1 c1 d1 _ (HT.out.below HB4.out).p HJ1.out).mono ?_
  rintro E w5 ⟨rfl, hB⟩
  have HK1 := Lib.hid (thru HK1.out hB)
  have HJ1 := Lib.hid (HJ1.out.below hB)
  have HK2 := Lib.hid (thru HK2.out hB)
  have HJ2 := Lib.hid (HJ2.out.below hB)
  have HB5 := Lib.hid (HB4.out.trans (hB.mono HB4.out.size))
  clear hB HB4
  clear q10 q11 q12 q13 q14 q15 q16 q17
  go_wp2_with fail
  refine (jparseR rX _ (HT.out.below HB5.out).t X 0 HBK.out).mono ?_
  rintro E w6 ⟨A3, c3, B3, d3, rfl, hJ, hR, hB⟩
  have HK1 := Lib.hid (thru HK1.out hB)
  have HJ1 := Lib.hid (HJ1.out.below hB)
  have HK2 := Lib.hid (thru HK2.out hB)
  have HJ2 := Lib.hid (HJ2.out.below hB)
  have HJ3 := Lib.hid hJ
  have HR3 := Lib.hid hR
  have HB6 := Lib.hid (HB5.out.trans (hB.mono HB5.out.size))
  clear hJ hR hB HB5
  have hg1 := HG1.out
  have hg2 := HG2.out
  have hself := HSF.out
  go_upto_region 12 with fail
  have hal := below_alloc (Below.refl w6.heap.size w6) (.cells #[.int .i64 X.f0, .bool X.f1, .bool X.f2.f0, .string X.f2.f1, .int .i64 X.f2.f2, .string X.f3, .slice A3 X.f4.length c3, .slice B3 X.f5.length d3] 28)
  have HK1 := Lib.hid (blk_alloc HK1.out (.cells #[.int .i64 X.f0, .bool X.f1, .bool X.f2.f0, .string X.f2.f1, .int .i64 X.f2.f2, .string X.f3, .slice A3 X.f4.length c3, .slice B3 X.f5.length d3] 28))
  have HK2 := Lib.hid (blk_alloc HK2.out (.cells #[.int .i64 X.f0, .bool X.f1, .bool X.f2.f0, .string X.f2.f1, .int .i64 X.f2.f2, .string X.f3, .slice A3 X.f4.length c3, .slice B3 X.f5.length d3] 28))
  have HK3 := Lib.hid (blk_new w6 (.cells #[.int .i64 X.f0, .bool X.f1, .bool X.f2.f0, .string X.f2.f1, .int .i64 X.f2.f2, .string X.f3, .slice A3 X.f4.length c3, .slice B3 X.f5.length d3] 28))
  have HJ1 := Lib.hid (HJ1.out.below hal)
  have HJ2 := Lib.hid (HJ2.out.below hal)
  have HJ3 := Lib.hid (HJ3.out.below hal)
  have HB7 := Lib.hid (below_alloc HB6.out (.cells #[.int .i64 X.f0, .bool X.f1, .bool X.f2.f0, .string X.f2.f1, .int .i64 X.f2.f2, .string X.f3, .slice A3 X.f4.length c3, .slice B3 X.f5.length d3] 28))
  obtain ⟨w7, hw⟩ : ∃ w', w' = w6.alloc (.cells #[.int .i64 X.f0, .bool X.f1, .bool X.f2.f0, .string X.f2.f1, .int .i64 X.f2.f2, .string X.f3, .slice A3 X.f4.length c3, .slice B3 X.f5.length d3] 28) := ⟨_, rfl⟩
  rw [← hw] at HK1 HJ1 HK2 HJ2 HK3 HJ3 HB7 ⊢
  clear hal hw HB6
  have hbd := below_drew1 (Below.refl w7.heap.size w7)
  have hb1 := blk_drew HK1.out
  have hb2 := blk_drew HK2.out
  have hb3 := blk_drew HK3.out
  have hst : (fun w' : World => w'.heap[w2.heap.size]? = some (.cells #[.int .i64 X.f0, .bool X.f1, .bool X.f2.f0, .string X.f2.f1, .int .i64 X.f2.f2, .string X.f3, .slice A1 X.f4.length c1, .slice B1 X.f5.length d1] 28 (0, 0)) ∧ w'.heap[w3.heap.size]? = some (.cells #[.int .i64 Y.f0, .bool Y.f1, .bool Y.f2.f0, .string Y.f2.f1, .int .i64 Y.f2.f2, .string Y.f3, .slice A2 Y.f4.length c2, .slice B2 Y.f5.length d2] 28 (0, 0)) ∧ w'.heap[w6.heap.size]? = some (.cells #[.int .i64 X.f0, .bool X.f1, .bool X.f2.f0, .string X.f2.f1, .int .i64 X.f2.f2, .string X.f3, .slice A3 X.f4.length c3, .slice B3 X.f5.length d3] 28 (0, 0))) w7.drew := ⟨hb1, hb2, hb3⟩
  refine start_ (n := 26) (S := fun w' => w'.heap[w2.heap.size]? = some (.cells #[.int .i64 X.f0, .bool X.f1, .bool X.f2.f0, .string X.f2.f1, .int .i64 X.f2.f2, .string X.f3, .slice A1 X.f4.length c1, .slice B1 X.f5.length d1] 28 (0, 0)) ∧ w'.heap[w3.heap.size]? = some (.cells #[.int .i64 Y.f0, .bool Y.f1, .bool Y.f2.f0, .string Y.f2.f1, .int .i64 Y.f2.f2, .string Y.f3, .slice A2 Y.f4.length c2, .slice B2 Y.f5.length d2] 28 (0, 0)) ∧ w'.heap[w6.heap.size]? = some (.cells #[.int .i64 X.f0, .bool X.f1, .bool X.f2.f0, .string X.f2.f1, .int .i64 X.f2.f2, .string X.f3, .slice A3 X.f4.length c3, .slice B3 X.f5.length d3] 28 (0, 0))) (ds := []) #[false, false, false, false, false, false, false, false, false, false, false, false, false, false, false, false, false, false, false, false, false, false, false, false, false, false] (by kernel_rfl) rfl rfl hst (fun hHeld => ?_)
  generalize w7.drew = wd at hbd hst hHeld hb1 hb2 hb3 ⊢
  have HSB : Hid (∀ w', Below wd.heap.size wd w' → w'.heap[w2.heap.size]? = some (.cells #[.int .i64 X.f0, .bool X.f1, .bool X.f2.f0, .string X.f2.f1, .int .i64 X.f2.f2, .string X.f3, .slice A1 X.f4.length c1, .slice B1 X.f5.length d1] 28 (0, 0)) ∧ w'.heap[w3.heap.size]? = some (.cells #[.int .i64 Y.f0, .bool Y.f1, .bool Y.f2.f0, .string Y.f2.f1, .int .i64 Y.f2.f2, .string Y.f3, .slice A2 Y.f4.length c2, .slice B2 Y.f5.length d2] 28 (0, 0)) ∧ w'.heap[w6.heap.size]? = some (.cells #[.int .i64 X.f0, .bool X.f1, .bool X.f2.f0, .string X.f2.f1, .int .i64 X.f2.f2, .string X.f3, .slice A3 X.f4.length c3, .slice B3 X.f5.length d3] 28 (0, 0))) := Lib.hid (fun w' hb => ⟨thru hb1 hb, thru hb2 hb, thru hb3 hb⟩)
  have HBX : Hid (∀ w', Below wd.heap.size wd w' → Below w.heap.size w w') := Lib.hid (fun w' hb => HB7.out.trans ((hbd.trans (hb.mono hbd.size)).mono HB7.out.size))
  have HJd1 := Lib.hid (HJ1.out.below hbd)
  have HJd2 := Lib.hid (HJ2.out.below hbd)
  have HJd3 := Lib.hid (HJ3.out.below hbd)
  have HV0 := Lib.hid (Below.refl wd.heap.size wd)
  clear hbd hst hb1 hb2 hb3
  refine pure_ (i := 0) (N := some 47) (v := ?_) (a' := ?_) #[true, false, false, false, false, false, false, false, false, false, false, false, false, false, false, false, false, false, false, false, false, false, false, false, false, false] rfl rfl (by kernel_rfl) (fun _ _ _ h => h) (Or.inl ⟨by rfl, ?_⟩) ?_ ?_
  rotate_left
  · intro w'
    go_simp
    with_reducible rfl
  rotate_left
  · simp only [Act.put, List.setIfInBounds_toArray, List.set_cons_zero, List.set_cons_succ, i64_w, i32_w]
    rfl
  refine pure_ (i := 1) (N := some 48) (v := ?_) (a' := ?_) #[true, true, false, false, false, false, false, false, false, false, false, false, false, false, false, false, false, false, false, false, false, false, false, false, false, false] rfl rfl (by kernel_rfl) (fun _ _ _ h => h) (Or.inl ⟨by rfl, ?_⟩) ?_ ?_
  rotate_left
  · intro w'
    go_simp
    with_reducible rfl
  rotate_left
  · simp only [Act.put, List.setIfInBounds_toArray, List.set_cons_zero, List.set_cons_succ, i64_w, i32_w]
    rfl
  refine pure_ (i := 2) (N := some 49) (v := ?_) (a' := ?_) #[true, true, true, false, false, false, false, false, false, false, false, false, false, false, false, false, false, false, false, false, false, false, false, false, false, false] rfl rfl (by kernel_rfl) (fun _ _ _ h => h) (Or.inl ⟨by rfl, ?_⟩) ?_ ?_
  rotate_left
  · intro w'
    go_simp
    with_reducible rfl
  rotate_left
  · simp only [Act.put, List.setIfInBounds_toArray, List.set_cons_zero, List.set_cons_succ, i64_w, i32_w]
    rfl
  refine take_ (i := 3) (N := some 50) (v := ?_) (a' := ?_) #[true, true, true, true, false, false, false, false, false, false, false, false, false, false, false, false, false, false, false, false, false, false, false, false, false, false] rfl rfl (by kernel_rfl) (fun _ _ _ h => h) (Or.inl ⟨by rfl, ?_⟩) hHeld ?_ ?_
  rotate_left
  · rintro w' ⟨s0, s1, s2⟩
    obtain ⟨q0, q1, q2, q3, q4, q5, q6, q7⟩ := eight s2
    clear s0 s1 s2
    go_simp
    with_reducible rfl
  rotate_left
  · simp only [Act.put, List.setIfInBounds_toArray, List.set_cons_zero, List.set_cons_succ, i64_w, i32_w]
    rfl
  refine pure_ (i := 5) (N := some 52) (v := ?_) (a' := ?_) #[true, true, true, true, false, true, false, false, false, false, false, false, false, false, false, false, false, false, false, false, false, false, false, false, false, false] rfl rfl (by kernel_rfl) (fun _ _ _ h => h) (Or.inl ⟨by rfl, ?_⟩) ?_ ?_
  rotate_left
  · intro w'
    go_simp
    with_reducible rfl
  rotate_left
  · simp only [Act.put, List.setIfInBounds_toArray, List.set_cons_zero, List.set_cons_succ, i64_w, i32_w]
    rfl
  refine one_ (i := 4) (N := some 51) #[true, true, true, true, true, true, false, false, false, false, false, false, false, false, false, false, false, false, false, false, false, false, false, false, false, false] rfl rfl (by kernel_rfl) (by decide) (fun K hK => ?_)
  refine call_ 30 #[.agg #[.int .i64 X.f0, .bool X.f1, .bool X.f2.f0, .string X.f2.f1, .int .i64 X.f2.f2, .string X.f3, .slice A3 X.f4.length c3, .slice B3 X.f5.length d3]] (by rfl) rfl ?_ ?_
  · go_simp
  refine (jtext_calls 17 X rX HXX.out A3 B3 c3 d3 wd (HT.out.below (HBX.out _ HV0.out)).p (HJd3.out.below HV0.out)).mono ?_
  rintro E v1 ⟨rfl, hB⟩
  have HV1 := Lib.hid (HV0.out.trans (hB.mono HV0.out.size))
  refine ⟨_, rfl, hK.out _ _ (HSB.out _ HV1.out) (fun hHeld => ?_)⟩
  clear hK K hB
  refine norm_ (a' := ?_) ?_ ?_
  rotate_left
  · show Act.put _ (some 51) _ = _
    simp only [Act.put, List.setIfInBounds_toArray, List.set_cons_zero, List.set_cons_succ, i64_w, i32_w]
    rfl
  refine pure_ (i := 6) (N := some 53) (v := ?_) (a' := ?_) #[true, true, true, true, true, true, true, false, false, false, false, false, false, false, false, false, false, false, false, false, false, false, false, false, false, false] rfl rfl (by kernel_rfl) (fun _ _ _ h => h) (Or.inl ⟨by rfl, ?_⟩) ?_ ?_
  rotate_left
  · intro w'
    go_simp
    with_reducible rfl
  rotate_left
  · simp only [Act.put, List.setIfInBounds_toArray, List.set_cons_zero, List.set_cons_succ, i64_w, i32_w]
    rfl
  refine pure_ (i := 7) (N := some 54) (v := ?_) (a' := ?_) #[true, true, true, true, true, true, true, true, false, false, false, false, false, false, false, false, false, false, false, false, false, false, false, false, false, false] rfl rfl (by kernel_rfl) (fun _ _ _ h => h) (Or.inl ⟨by rfl, ?_⟩) ?_ ?_
  rotate_left
  · intro w'
    go_simp
    with_reducible rfl
  rotate_left
  · simp only [Act.put, List.setIfInBounds_toArray, List.set_cons_zero, List.set_cons_succ, i64_w, i32_w]
    rfl
  refine pure_ (i := 8) (N := some 55) (v := ?_) (a' := ?_) #[true, true, true, true, true, true, true, true, true, false, false, false, false, false, false, false, false, false, false, false, false, false, false, false, false, false] rfl rfl (by kernel_rfl) (fun _ _ _ h => h) (Or.inl ⟨by rfl, ?_⟩) ?_ ?_
  rotate_left
  · intro w'
    go_simp
    with_reducible rfl
  rotate_left
  · simp only [Act.put, List.setIfInBounds_toArray, List.set_cons_zero, List.set_cons_succ, i64_w, i32_w]
    rfl
  refine take_ (i := 9) (N := some 56) (v := ?_) (a' := ?_) #[true, true, true, true, true, true, true, true, true, true, false, false, false, false, false, false, false, false, false, false, false, false, false, false, false, false] rfl rfl (by kernel_rfl) (fun _ _ _ h => h) (Or.inl ⟨by rfl, ?_⟩) hHeld ?_ ?_
  rotate_left
  · rintro w' ⟨s0, s1, s2⟩
    obtain ⟨q0, q1, q2, q3, q4, q5, q6, q7⟩ := eight s0
    clear s0 s1 s2
    go_simp
    with_reducible rfl
  rotate_left
  · simp only [Act.put, List.setIfInBounds_toArray, List.set_cons_zero, List.set_cons_succ, i64_w, i32_w]
    rfl
  refine take_ (i := 10) (N := some 57) (v := ?_) (a' := ?_) #[true, true, true, true, true, true, true, true, true, true, true, false, false, false, false, false, false, false, false, false, false, false, false, false, false, false] rfl rfl (by kernel_rfl) (fun _ _ _ h => h) (Or.inl ⟨by rfl, ?_⟩) hHeld ?_ ?_
  rotate_left
  · rintro w' ⟨s0, s1, s2⟩
    obtain ⟨q0, q1, q2, q3, q4, q5, q6, q7⟩ := eight s2
    clear s0 s1 s2
    go_simp
    with_reducible rfl
  rotate_left
  · simp only [Act.put, List.setIfInBounds_toArray, List.set_cons_zero, List.set_cons_succ, i64_w, i32_w]
    rfl
  refine one_ (i := 11) (N := some 58) #[true, true, true, true, true, true, true, true, true, true, true, true, false, false, false, false, false, false, false, false, false, false, false, false, false, false] rfl rfl (by kernel_rfl) (by decide) (fun K hK => ?_)
  refine call_ 28 #[.agg #[.int .i64 X.f0, .bool X.f1, .bool X.f2.f0, .string X.f2.f1, .int .i64 X.f2.f2, .string X.f3, .slice A1 X.f4.length c1, .slice B1 X.f5.length d1], .agg #[.int .i64 X.f0, .bool X.f1, .bool X.f2.f0, .string X.f2.f1, .int .i64 X.f2.f2, .string X.f3, .slice A3 X.f4.length c3, .slice B3 X.f5.length d3]] (by rfl) rfl ?_ ?_
  · go_simp
  refine (compare_calls 17 X X HCX.out HCX.out A1 B1 A3 B3 c1 d1 c3 d3 v1 (HJd1.out.below HV1.out) (HJd3.out.below HV1.out)).mono ?_
  rintro E v2 ⟨rfl, hB⟩
  have HV2 := Lib.hid (HV1.out.trans (hB.mono HV1.out.size))
  refine ⟨_, rfl, hK.out _ _ (HSB.out _ HV2.out) (fun hHeld => ?_)⟩
  clear hK K hB
  refine norm_ (a' := ?_) ?_ ?_
  rotate_left
  · show Act.put _ (some 58) _ = _
    simp only [Act.put, List.setIfInBounds_toArray, List.set_cons_zero, List.set_cons_succ, i64_w, i32_w]
    rfl
  refine pure_ (i := 12) (N := some 59) (v := ?_) (a' := ?_) #[true, true, true, true, true, true, true, true, true, true, true, true, true, false, false, false, false, false, false, false, false, false, false, false, false, false] rfl rfl (by kernel_rfl) (fun _ _ _ h => h) (Or.inl ⟨by rfl, ?_⟩) ?_ ?_
  rotate_left
  · intro w'
    go_simp
    with_reducible rfl
  rotate_left
  · simp only [Act.put, List.setIfInBounds_toArray, List.set_cons_zero, List.set_cons_succ, i64_w, i32_w]
    rfl
  refine pure_ (i := 13) (N := some 60) (v := ?_) (a' := ?_) #[true, true, true, true, true, true, true, true, true, true, true, true, true, true, false, false, false, false, false, false, false, false, false, false, false, false] rfl rfl (by kernel_rfl) (fun _ _ _ h => h) (Or.inl ⟨by rfl, ?_⟩) ?_ ?_
  rotate_left
  · intro w'
    go_simp
    with_reducible rfl
  rotate_left
  · simp only [Act.put, List.setIfInBounds_toArray, List.set_cons_zero, List.set_cons_succ, i64_w, i32_w]
    rfl
  refine pure_ (i := 14) (N := some 61) (v := ?_) (a' := ?_) #[true, true, true, true, true, true, true, true, true, true, true, true, true, true, true, false, false, false, false, false, false, false, false, false, false, false] rfl rfl (by kernel_rfl) (fun _ _ _ h => h) (Or.inl ⟨by rfl, ?_⟩) ?_ ?_
  rotate_left
  · intro w'
    go_simp
    with_reducible rfl
  rotate_left
  · simp only [Act.put, List.setIfInBounds_toArray, List.set_cons_zero, List.set_cons_succ, i64_w, i32_w]
    rfl
  refine take_ (i := 15) (N := some 62) (v := ?_) (a' := ?_) #[true, true, true, true, true, true, true, true, true, true, true, true, true, true, true, true, false, false, false, false, false, false, false, false, false, false] rfl rfl (by kernel_rfl) (fun _ _ _ h => h) (Or.inl ⟨by rfl, ?_⟩) hHeld ?_ ?_
  rotate_left
  · rintro w' ⟨s0, s1, s2⟩
    obtain ⟨q0, q1, q2, q3, q4, q5, q6, q7⟩ := eight s0
    clear s0 s1 s2
    go_simp
    with_reducible rfl
  rotate_left
  · simp only [Act.put, List.setIfInBounds_toArray, List.set_cons_zero, List.set_cons_succ, i64_w, i32_w]
    rfl
  refine take_ (i := 16) (N := some 63) (v := ?_) (a' := ?_) #[true, true, true, true, true, true, true, true, true, true, true, true, true, true, true, true, true, false, false, false, false, false, false, false, false, false] rfl rfl (by kernel_rfl) (fun _ _ _ h => h) (Or.inl ⟨by rfl, ?_⟩) hHeld ?_ ?_
  rotate_left
  · rintro w' ⟨s0, s1, s2⟩
    obtain ⟨q0, q1, q2, q3, q4, q5, q6, q7⟩ := eight s1
    clear s0 s1 s2
    go_simp
    with_reducible rfl
  rotate_left
  · simp only [Act.put, List.setIfInBounds_toArray, List.set_cons_zero, List.set_cons_succ, i64_w, i32_w]
    rfl
  refine pure_ (i := 19) (N := some 66) (v := ?_) (a' := ?_) #[true, true, true, true, true, true, true, true, true, true, true, true, true, true, true, true, true, false, false, true, false, false, false, false, false, false] rfl rfl (by kernel_rfl) (fun _ _ _ h => h) (Or.inl ⟨by rfl, ?_⟩) ?_ ?_
  rotate_left
  · intro w'
    go_simp
    with_reducible rfl
  rotate_left
  · simp only [Act.put, List.setIfInBounds_toArray, List.set_cons_zero, List.set_cons_succ, i64_w, i32_w]
    rfl
  refine take_ (i := 20) (N := some 67) (v := ?_) (a' := ?_) #[true, true, true, true, true, true, true, true, true, true, true, true, true, true, true, true, true, false, false, true, true, false, false, false, false, false] rfl rfl (by kernel_rfl) (fun _ _ _ h => h) (Or.inl ⟨by rfl, ?_⟩) hHeld ?_ ?_
  rotate_left
  · rintro w' ⟨s0, s1, s2⟩
    obtain ⟨q0, q1, q2, q3, q4, q5, q6, q7⟩ := eight s1
    clear s0 s1 s2
    go_simp
    with_reducible rfl
  rotate_left
  · simp only [Act.put, List.setIfInBounds_toArray, List.set_cons_zero, List.set_cons_succ, i64_w, i32_w]
    rfl
  refine one_ (i := 17) (N := some 64) #[true, true, true, true, true, true, true, true, true, true, true, true, true, true, true, true, true, true, false, true, true, false, false, false, false, false] rfl rfl (by kernel_rfl) (by decide) (fun K hK => ?_)
  refine call_ 28 #[.agg #[.int .i64 X.f0, .bool X.f1, .bool X.f2.f0, .string X.f2.f1, .int .i64 X.f2.f2, .string X.f3, .slice A1 X.f4.length c1, .slice B1 X.f5.length d1], .agg #[.int .i64 Y.f0, .bool Y.f1, .bool Y.f2.f0, .string Y.f2.f1, .int .i64 Y.f2.f2, .string Y.f3, .slice A2 Y.f4.length c2, .slice B2 Y.f5.length d2]] (by rfl) rfl ?_ ?_
  · go_simp
  refine (compare_calls 17 X Y HCX.out HCY.out A1 B1 A2 B2 c1 d1 c2 d2 v2 (HJd1.out.below HV2.out) (HJd2.out.below HV2.out)).mono ?_
  rintro E v3 ⟨rfl, hB⟩
  have HV3 := Lib.hid (HV2.out.trans (hB.mono HV2.out.size))
  refine ⟨_, rfl, hK.out _ _ (HSB.out _ HV3.out) (fun hHeld => ?_)⟩
  clear hK K hB
  refine norm_ (a' := ?_) ?_ ?_
  rotate_left
  · show Act.put _ (some 64) _ = _
    simp only [Act.put, List.setIfInBounds_toArray, List.set_cons_zero, List.set_cons_succ, i64_w, i32_w]
    rfl
  refine pure_ (i := 18) (N := some 65) (v := ?_) (a' := ?_) #[true, true, true, true, true, true, true, true, true, true, true, true, true, true, true, true, true, true, true, true, true, false, false, false, false, false] rfl rfl (by kernel_rfl) (fun _ _ _ h => h) (Or.inl ⟨by rfl, ?_⟩) ?_ ?_
  rotate_left
  · intro w'
    go_simp
    with_reducible rfl
  rotate_left
  · simp only [Act.put, List.setIfInBounds_toArray, List.set_cons_zero, List.set_cons_succ, i64_w, i32_w]
    rfl
  refine one_ (i := 21) (N := some 68) #[true, true, true, true, true, true, true, true, true, true, true, true, true, true, true, true, true, true, true, true, true, true, false, false, false, false] rfl rfl (by kernel_rfl) (by decide) (fun K hK => ?_)
  refine call_ 30 #[.agg #[.int .i64 Y.f0, .bool Y.f1, .bool Y.f2.f0, .string Y.f2.f1, .int .i64 Y.f2.f2, .string Y.f3, .slice A2 Y.f4.length c2, .slice B2 Y.f5.length d2]] (by rfl) rfl ?_ ?_
  · go_simp
  refine (jtext_calls 17 Y rY HXY.out A2 B2 c2 d2 v3 (HT.out.below (HBX.out _ HV3.out)).p (HJd2.out.below HV3.out)).mono ?_
  rintro E v4 ⟨rfl, hB⟩
  have HV4 := Lib.hid (HV3.out.trans (hB.mono HV3.out.size))
  refine ⟨_, rfl, hK.out _ _ (HSB.out _ HV4.out) (fun hHeld => ?_)⟩
  clear hK K hB
  refine norm_ (a' := ?_) ?_ ?_
  rotate_left
  · show Act.put _ (some 68) _ = _
    simp only [Act.put, List.setIfInBounds_toArray, List.set_cons_zero, List.set_cons_succ, i64_w, i32_w]
    rfl
  refine pure_ (i := 22) (N := some 69) (v := ?_) (a' := ?_) #[true, true, true, true, true, true, true, true, true, true, true, true, true, true, true, true, true, true, true, true, true, true, true, false, false, false] rfl rfl (by kernel_rfl) (fun _ _ _ h => h) (Or.inl ⟨by rfl, ?_⟩) ?_ ?_
  rotate_left
  · intro w'
    go_simp
    with_reducible rfl
  rotate_left
  · simp only [Act.put, List.setIfInBounds_toArray, List.set_cons_zero, List.set_cons_succ, i64_w, i32_w]
    rfl
  refine pure_ (i := 23) (N := some 70) (v := ?_) (a' := ?_) #[true, true, true, true, true, true, true, true, true, true, true, true, true, true, true, true, true, true, true, true, true, true, true, true, false, false] rfl rfl (by kernel_rfl) (fun _ _ _ h => h) (Or.inl ⟨by rfl, ?_⟩) ?_ ?_
  rotate_left
  · intro w'
    go_simp
    with_reducible rfl
  rotate_left
  · simp only [Act.put, List.setIfInBounds_toArray, List.set_cons_zero, List.set_cons_succ, i64_w, i32_w]
    rfl
  refine pure_ (i := 24) (N := some 71) (v := ?_) (a' := ?_) #[true, true, true, true, true, true, true, true, true, true, true, true, true, true, true, true, true, true, true, true, true, true, true, true, true, false] rfl rfl (by kernel_rfl) (fun _ _ _ h => h) (Or.inl ⟨by rfl, ?_⟩) ?_ ?_
  rotate_left
  · intro w'
    go_simp
    with_reducible rfl
  rotate_left
  · simp only [Act.put, List.setIfInBounds_toArray, List.set_cons_zero, List.set_cons_succ, i64_w, i32_w]
    rfl
  refine pure_ (i := 25) (N := some 4) (v := ?_) (a' := ?_) #[true, true, true, true, true, true, true, true, true, true, true, true, true, true, true, true, true, true, true, true, true, true, true, true, true, true] rfl rfl (by kernel_rfl) (fun _ _ _ h => h) (Or.inl ⟨by rfl, ?_⟩) ?_ ?_
  rotate_left
  · intro w'
    go_simp
    with_reducible rfl
  rotate_left
  · simp only [Act.put, List.setIfInBounds_toArray, List.set_cons_zero, List.set_cons_succ, i64_w, i32_w]
    rfl
  refine done_ (by kernel_rfl) ?_
  have HK1 := Lib.hid ((HSB.out _ HV4.out).1)
  have HJ1 := Lib.hid (HJd1.out.below HV4.out)
  have HK2 := Lib.hid ((HSB.out _ HV4.out).2.1)
  have HJ2 := Lib.hid (HJd2.out.below HV4.out)
  have HK3 := Lib.hid ((HSB.out _ HV4.out).2.2)
  have HJ3 := Lib.hid (HJd3.out.below HV4.out)
  have HB8 := Lib.hid (HBX.out _ HV4.out)
  clear HV0 HV1 HV2 HV3 HV4 HBX HSB HJd1 HJd2 HJd3
  obtain ⟨w8, hw⟩ : ∃ w', w' = v4 := ⟨_, rfl⟩
  rw [← hw] at HK1 HJ1 HK2 HJ2 HK3 HJ3 HB8 ⊢
  clear hw
  clear hg1 hg2 hself
  go_wp2_with fail
  go_ret
  exact ⟨rfl, HB8.out⟩
set_option maxRecDepth 100000 in
theorem back_long (s : List UInt8) (t : List UInt8) (h : 600 < s.length ∨ 600 < t.length) (w : World) (hT : JTabs w) :
    Calls Tryz.prog 11 #[.string (ofL s), .string (ofL t)] w fun e w' => e = .returned (.bool true) ∧ Below w.heap.size w w' := by
  have HT := Lib.hid hT
  have HSs : Hid ((ofL s).size = s.length) := Lib.hid (ofL_size s)
  have HSt : Hid ((ofL t).size = t.length) := Lib.hid (ofL_size t)
  clear hT
  by_cases h0 : 600 < s.length
  · have hi0 : (600 : Int) < ((ofL s).size : Int) := by rw [HSs.out]; omega
    clear h h0
    go_enter Tryz.func11, Tryz.ntmps11
    go_wp2_with fail
    refine (awake15_calls _ HT.out).mono ?_
    rintro E w1 ⟨rfl, hB⟩
    go_wp2_with fail
    go_ret
    exact ⟨rfl, hB⟩
  have hj0 : ((ofL s).size : Int) ≤ 600 := by rw [HSs.out]; omega
  have hi1 : (600 : Int) < ((ofL t).size : Int) := by rw [HSt.out]; omega
  clear h h0
  go_enter Tryz.func11, Tryz.ntmps11
  go_wp2_with fail
  refine (awake15_calls _ HT.out).mono ?_
  rintro E w1 ⟨rfl, hB⟩
  go_wp2_with fail
  go_ret
  exact ⟨rfl, hB⟩
theorem JsonBack_calls (s : ByteArray) (t : ByteArray) (w : World) (hT : JTabs w) :
    Calls Tryz.prog 11 #[.string s, .string t] w fun e w' => e = .returned (.bool true) ∧ Below w.heap.size w w' := by
  have es : ofL s.data.toList = s := ofL_of s
  have et : ofL t.data.toList = t := ofL_of t
  by_cases hh : 600 < s.data.toList.length ∨ 600 < t.data.toList.length
  · have := back_long s.data.toList t.data.toList hh w hT
    rwa [es, et] at this
  · have := back_main s.data.toList t.data.toList (by omega) (by omega) w hT
    rwa [es, et] at this
end Js
end Go.Proofs.YtapcpndplnkfjaaGreatDoor
