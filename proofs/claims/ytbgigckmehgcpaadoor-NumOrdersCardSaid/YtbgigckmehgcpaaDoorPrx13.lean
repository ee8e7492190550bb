-- written by a program of this session (xprint.py)
import Derived.Test.YtbgigckmehgcpaaDoorPrx0
import Derived.Test.YtbgigckmehgcpaaDoorPrx1
import Derived.Test.YtbgigckmehgcpaaDoorPrx3
import Derived.Test.YtbgigckmehgcpaaDoorPrx4
namespace Go.Proofs.YtbgigckmehgcpaaDoor.Pr
open Go.RowKit Go.Proofs.YtbgigckmehgcpaaDoorW.PrintWords Go.Proofs.YtbgigckmehgcpaaDoorW.PrintLast Go.Proofs.YtbgigckmehgcpaaDoorW.PrintMore
attribute [local go_sem] max2_int min2_int max_two min_two max_three min_three max_four min_four   -- for this text's walks alone
set_option linter.unusedVariables false
set_option linter.unusedSimpArgs false

attribute [local go_sem high] eqA24
/-! ### rubricatorlaw14_NumOrders: function 6 -/
mutual
def rubricatorlaw14_NumOrders.j0 : Nat → Bool → Bool → ByteArray → Int → Bool → ByteArray → Int → Bool → ByteArray → Int → Option (Bool)
  | 0, _, _, _, _, _, _, _, _, _, _ => none
  | k + 1, x26, x203000, x203001, x203002, x204000, x204001, x204002, x205000, x205001, x205002 => if x26 = true then (some true) else ((num_Compare.f k x203000 x203001 x203002 x204000 x204001 x204002).bind fun t209 => ((num_Compare.f k x204000 x204001 x204002 x205000 x205001 x205002).bind fun t210 => ((num_Compare.f k x203000 x203001 x203002 x205000 x205001 x205002).bind fun t211 => ((num_Compare.f k x204000 x204001 x204002 x203000 x203001 x203002).bind fun t212 => (if t209 = (wrap64 (-t212)) then (if ((t209 == 0) != (x203000 == x204000 && (x203001.toList == x204001.toList && (x203002 == x204002)))) = true then (rubricatorlaw14_NumOrders.j1 k t209 true x203000 x203001 x203002 x204000 x204001 x204002) else (if t209 ≤ 0 then (if t210 ≤ 0 then (if t211 > 0 then (rubricatorlaw14_NumOrders.j1 k t209 true x203000 x203001 x203002 x204000 x204001 x204002) else (if t209 ≥ 0 then (if t210 ≥ 0 then (rubricatorlaw14_NumOrders.j1 k t209 (decide (t211 < 0)) x203000 x203001 x203002 x204000 x204001 x204002) else (rubricatorlaw14_NumOrders.j1 k t209 false x203000 x203001 x203002 x204000 x204001 x204002)) else (rubricatorlaw14_NumOrders.j1 k t209 false x203000 x203001 x203002 x204000 x204001 x204002))) else (if t209 ≥ 0 then (if t210 ≥ 0 then (rubricatorlaw14_NumOrders.j1 k t209 (decide (t211 < 0)) x203000 x203001 x203002 x204000 x204001 x204002) else (rubricatorlaw14_NumOrders.j1 k t209 false x203000 x203001 x203002 x204000 x204001 x204002)) else (rubricatorlaw14_NumOrders.j1 k t209 false x203000 x203001 x203002 x204000 x204001 x204002))) else (if t209 ≥ 0 then (if t210 ≥ 0 then (rubricatorlaw14_NumOrders.j1 k t209 (decide (t211 < 0)) x203000 x203001 x203002 x204000 x204001 x204002) else (rubricatorlaw14_NumOrders.j1 k t209 false x203000 x203001 x203002 x204000 x204001 x204002)) else (rubricatorlaw14_NumOrders.j1 k t209 false x203000 x203001 x203002 x204000 x204001 x204002)))) else (rubricatorlaw14_NumOrders.j1 k t209 true x203000 x203001 x203002 x204000 x204001 x204002))))))
def rubricatorlaw14_NumOrders.j1 : Nat → Int → Bool → Bool → ByteArray → Int → Bool → ByteArray → Int → Option (Bool)
  | 0, _, _, _, _, _, _, _, _ => none
  | k + 1, x8, x73, x203000, x203001, x203002, x204000, x204001, x204002 => if x73 = true then (some false) else (if x203001.toList = ([] : List UInt8) then (some true) else (if x204001.toList = ([] : List UInt8) then (some true) else ((num_Compare.f k (!x203000) x203001 x203002 (!x204000) x204001 x204002).bind fun t213 => (some (t213 == (wrap64 (-x8)))))))
end
def rubricatorlaw14_NumOrders.f (k : Nat) (a0_0 : Bool) (a0_1 : ByteArray) (a0_2 : Int) (a1_0 : Bool) (a1_1 : ByteArray) (a1_2 : Int) (a2_0 : Bool) (a2_1 : ByteArray) (a2_2 : Int) : Option (Bool) := (rubricatorlaw14_awake.f).bind fun t205 => (if t205 = true then ((num_Right.f a0_0 a0_1 a0_2).bind fun t206 => (if t206 = true then ((num_Right.f a1_0 a1_1 a1_2).bind fun t207 => (if t207 = true then ((num_Right.f a2_0 a2_1 a2_2).bind fun t208 => (rubricatorlaw14_NumOrders.j0 k (!t208) a0_0 a0_1 a0_2 a1_0 a1_1 a1_2 a2_0 a2_1 a2_2)) else (rubricatorlaw14_NumOrders.j0 k true a0_0 a0_1 a0_2 a1_0 a1_1 a1_2 a2_0 a2_1 a2_2))) else (rubricatorlaw14_NumOrders.j0 k true a0_0 a0_1 a0_2 a1_0 a1_1 a1_2 a2_0 a2_1 a2_2))) else (some false))
theorem rubricatorlaw14_NumOrders.mono_l : ∀ k, (∀ y0 y1 y2 y3 y4 y5 y6 y7 y8 y9, LeO (rubricatorlaw14_NumOrders.j0 k y0 y1 y2 y3 y4 y5 y6 y7 y8 y9) (rubricatorlaw14_NumOrders.j0 (k + 1) y0 y1 y2 y3 y4 y5 y6 y7 y8 y9)) ∧ (∀ y0 y1 y2 y3 y4 y5 y6 y7, LeO (rubricatorlaw14_NumOrders.j1 k y0 y1 y2 y3 y4 y5 y6 y7) (rubricatorlaw14_NumOrders.j1 (k + 1) y0 y1 y2 y3 y4 y5 y6 y7))
  | 0 => ⟨fun _ _ _ _ _ _ _ _ _ _ r h => by simp [rubricatorlaw14_NumOrders.j0] at h, fun _ _ _ _ _ _ _ _ r h => by simp [rubricatorlaw14_NumOrders.j1] at h⟩
  | k + 1 => by
    obtain ⟨ih0, ih1⟩ := rubricatorlaw14_NumOrders.mono_l k
    refine ⟨?_, ?_⟩
    · intro y0 y1 y2 y3 y4 y5 y6 y7 y8 y9
      unfold rubricatorlaw14_NumOrders.j0
      repeat' first
      | (with_reducible exact ih0 _ _ _ _ _ _ _ _ _ _)
      | (with_reducible exact ih1 _ _ _ _ _ _ _ _)
      | (with_reducible exact num_Compare.mono _ _ _ _ _ _ _)
      | (with_reducible exact LeO.refl _)
      | (with_reducible exact LeO.none _)
      | (with_reducible refine LeO.ite ?_ ?_)
      | (with_reducible refine LeO.bind ?_ (fun _ => ?_))
      | exact ih0 _ _ _ _ _ _ _ _ _ _
      | exact ih1 _ _ _ _ _ _ _ _
      | exact num_Compare.mono _ _ _ _ _ _ _
      | exact LeO.none _
      | refine LeO.ite ?_ ?_
      | refine LeO.bind ?_ (fun _ => ?_)
    · intro y0 y1 y2 y3 y4 y5 y6 y7
      unfold rubricatorlaw14_NumOrders.j1
      repeat' first
      | (with_reducible exact ih0 _ _ _ _ _ _ _ _ _ _)
      | (with_reducible exact ih1 _ _ _ _ _ _ _ _)
      | (with_reducible exact num_Compare.mono _ _ _ _ _ _ _)
      | (with_reducible exact LeO.refl _)
      | (with_reducible exact LeO.none _)
      | (with_reducible refine LeO.ite ?_ ?_)
      | (with_reducible refine LeO.bind ?_ (fun _ => ?_))
      | exact ih0 _ _ _ _ _ _ _ _ _ _
      | exact ih1 _ _ _ _ _ _ _ _
      | exact num_Compare.mono _ _ _ _ _ _ _
      | exact LeO.none _
      | refine LeO.ite ?_ ?_
      | refine LeO.bind ?_ (fun _ => ?_)
theorem rubricatorlaw14_NumOrders.mono : ∀ a0 a1 a2 a3 a4 a5 a6 a7 a8 k, LeO (rubricatorlaw14_NumOrders.f k a0 a1 a2 a3 a4 a5 a6 a7 a8) (rubricatorlaw14_NumOrders.f (k + 1) a0 a1 a2 a3 a4 a5 a6 a7 a8) := by
  intro a0 a1 a2 a3 a4 a5 a6 a7 a8 k
  obtain ⟨ih0, ih1⟩ := rubricatorlaw14_NumOrders.mono_l k
  unfold rubricatorlaw14_NumOrders.f
  repeat' first
      | (with_reducible exact ih0 _ _ _ _ _ _ _ _ _ _)
      | (with_reducible exact ih1 _ _ _ _ _ _ _ _)
      | (with_reducible exact num_Compare.mono _ _ _ _ _ _ _)
      | (with_reducible exact LeO.refl _)
      | (with_reducible exact LeO.none _)
      | (with_reducible refine LeO.ite ?_ ?_)
      | (with_reducible refine LeO.bind ?_ (fun _ => ?_))
      | exact ih0 _ _ _ _ _ _ _ _ _ _
      | exact ih1 _ _ _ _ _ _ _ _
      | exact num_Compare.mono _ _ _ _ _ _ _
      | exact LeO.none _
      | refine LeO.ite ?_ ?_
      | refine LeO.bind ?_ (fun _ => ?_)
set_option maxHeartbeats 8000000 in
set_option maxRecDepth 100000 in
theorem rubricatorlaw14_NumOrders.calls (k : Nat) (a0_0 : Bool) (a0_1 : ByteArray) (a0_2 : Int) (a1_0 : Bool) (a1_1 : ByteArray) (a1_2 : Int) (a2_0 : Bool) (a2_1 : ByteArray) (a2_2 : Int) (r : Bool) (w : World) (hT : Tabs w) (h : rubricatorlaw14_NumOrders.f k a0_0 a0_1 a0_2 a1_0 a1_1 a1_2 a2_0 a2_1 a2_2 = some r) :
    Calls Tryd.prog 6 #[.agg #[.bool a0_0, .string a0_1, .int .i64 a0_2], .agg #[.bool a1_0, .string a1_1, .int .i64 a1_2], .agg #[.bool a2_0, .string a2_1, .int .i64 a2_2]] w fun e w' => e = .returned (.bool r) ∧ Below w.heap.size w w' := by
  have HT := Aside0.mk hT
  clear hT
  have hu24 := Tryd.underlying24
  have HB := Aside0.mk (Below.refl w.heap.size w)
  have H : ((rubricatorlaw14_awake.f).bind fun t205 => (if t205 = true then ((num_Right.f a0_0 a0_1 a0_2).bind fun t206 => (if t206 = true then ((num_Right.f a1_0 a1_1 a1_2).bind fun t207 => (if t207 = true then ((num_Right.f a2_0 a2_1 a2_2).bind fun t208 => (rubricatorlaw14_NumOrders.j0 k (!t208) a0_0 a0_1 a0_2 a1_0 a1_1 a1_2 a2_0 a2_1 a2_2)) else (rubricatorlaw14_NumOrders.j0 k true a0_0 a0_1 a0_2 a1_0 a1_1 a1_2 a2_0 a2_1 a2_2))) else (rubricatorlaw14_NumOrders.j0 k true a0_0 a0_1 a0_2 a1_0 a1_1 a1_2 a2_0 a2_1 a2_2))) else (some false))) = some r := h
  clear h
  replace H := Option.bind_eq_some_iff.mp H
  obtain ⟨t205, A40, H⟩ := H
  replace H : (if t205 = true then ((num_Right.f a0_0 a0_1 a0_2).bind fun t206 => (if t206 = true then ((num_Right.f a1_0 a1_1 a1_2).bind fun t207 => (if t207 = true then ((num_Right.f a2_0 a2_1 a2_2).bind fun t208 => (rubricatorlaw14_NumOrders.j0 k (!t208) a0_0 a0_1 a0_2 a1_0 a1_1 a1_2 a2_0 a2_1 a2_2)) else (rubricatorlaw14_NumOrders.j0 k true a0_0 a0_1 a0_2 a1_0 a1_1 a1_2 a2_0 a2_1 a2_2))) else (rubricatorlaw14_NumOrders.j0 k true a0_0 a0_1 a0_2 a1_0 a1_1 a1_2 a2_0 a2_1 a2_2))) else (some false)) = some r := H
  have A4 := Aside0.mk A40
  clear A40
  by_cases c5 : t205 = true
  · subst c5
    have H1 : ((num_Right.f a0_0 a0_1 a0_2).bind fun t206 => (if t206 = true then ((num_Right.f a1_0 a1_1 a1_2).bind fun t207 => (if t207 = true then ((num_Right.f a2_0 a2_1 a2_2).bind fun t208 => (rubricatorlaw14_NumOrders.j0 k (!t208) a0_0 a0_1 a0_2 a1_0 a1_1 a1_2 a2_0 a2_1 a2_2)) else (rubricatorlaw14_NumOrders.j0 k true a0_0 a0_1 a0_2 a1_0 a1_1 a1_2 a2_0 a2_1 a2_2))) else (rubricatorlaw14_NumOrders.j0 k true a0_0 a0_1 a0_2 a1_0 a1_1 a1_2 a2_0 a2_1 a2_2))) = some r := by rw [if_pos rfl] at H; exact H
    clear H
    have H := H1
    clear H1
    have HC6 := Aside0.mk H
    clear H
    go_enter Tryd.func6, Tryd.ntmps6
    go_upto_region 4 with (first | ((with_reducible refine gate_dst (N := 3) rfl ?_); refine box_event ?hg (N := 3) ?hd (cs := #[.bool a0_0, .string a0_1, .int .i64 a0_2]) (t := 24) ?hr ?_; (case hd => rfl); (case hg => rfl); (case hr => first | (go_simp; done) | (go_simp; rfl)); intro gb202 hg w7 hbox hb; have n0_ := Aside0.mk (below_step (by repeat (first | (with_reducible first | exact HB.out | apply below_alloc | apply pw_below_drewN | apply below_drew1) | exact HB.out)) hb); have n1_ := Aside0.mk (hbox); have n2_ := Aside0.mk ((by rw [hg]; exact (below_size (by repeat (first | (with_reducible first | exact HB.out | apply below_alloc | apply pw_below_drewN | apply below_drew1) | exact HB.out))) : w.heap.size ≤ gb202)); have n3_ := Aside0.mk ((by rw [hg]; exact (below_size (by repeat (first | (with_reducible first | exact HB.out | apply below_alloc | apply pw_below_drewN | apply below_drew1) | exact HB.out))) : w.heap.size ≤ gb202)); clear HB; have HB := n0_; have BK202 := n1_; have GW202 := n2_; have GE202 := n3_; clear n0_ n1_ n2_ n3_; clear hb hbox hg) | ((with_reducible refine gate_dst (N := 4) rfl ?_); refine box_event ?hg (N := 4) ?hd (cs := #[.bool a1_0, .string a1_1, .int .i64 a1_2]) (t := 24) ?hr ?_; (case hd => rfl); (case hg => rfl); (case hr => first | (go_simp; done) | (go_simp; rfl)); intro gb203 hg w8 hbox hb; have n0_ := Aside0.mk (blk_below (g := gb202) (o := .cells #[.bool a0_0, .string a0_1, .int .i64 a0_2] 24 (0, 0)) (by (with_reducible repeat (first | refine blk_drewN ?_ _ | refine blk_drew ?_ | refine blk_alloc ?_ _)); exact BK202.out) hb); have n1_ := Aside0.mk (below_step (by repeat (first | (with_reducible first | exact HB.out | apply below_alloc | apply pw_below_drewN | apply below_drew1 | refine below_set ?_ GE202.out) | exact HB.out)) hb); have n2_ := Aside0.mk (hbox); have n3_ := Aside0.mk ((by rw [hg]; exact (below_size (by repeat (first | (with_reducible first | exact HB.out | apply below_alloc | apply pw_below_drewN | apply below_drew1 | refine below_set ?_ GE202.out) | exact HB.out))) : w.heap.size ≤ gb203)); have n4_ := Aside0.mk ((by rw [hg]; exact (below_size (by repeat (first | (with_reducible first | exact HB.out | apply below_alloc | apply pw_below_drewN | apply below_drew1 | refine below_set ?_ GE202.out) | exact HB.out))) : w.heap.size ≤ gb203)); have n5_ := Aside0.mk ((by rw [hg]; exact Nat.ne_of_lt (blk_lt (g := gb202) (o := .cells #[.bool a0_0, .string a0_1, .int .i64 a0_2] 24 (0, 0)) (by (with_reducible repeat (first | refine blk_drewN ?_ _ | refine blk_drew ?_ | refine blk_alloc ?_ _)); exact BK202.out)) : gb202 ≠ gb203)); have n6_ := Aside0.mk ((by rw [hg]; exact Nat.ne_of_gt (blk_lt (g := gb202) (o := .cells #[.bool a0_0, .string a0_1, .int .i64 a0_2] 24 (0, 0)) (by (with_reducible repeat (first | refine blk_drewN ?_ _ | refine blk_drew ?_ | refine blk_alloc ?_ _)); exact BK202.out)) : gb203 ≠ gb202)); clear BK202; clear HB; have BK202 := n0_; have HB := n1_; have BK203 := n2_; have GW203 := n3_; have GE203 := n4_; have NB202_203 := n5_; have NB203_202 := n6_; clear n0_ n1_ n2_ n3_ n4_ n5_ n6_; clear hb hbox hg) | ((with_reducible refine gate_dst (N := 5) rfl ?_); refine box_event ?hg (N := 5) ?hd (cs := #[.bool a2_0, .string a2_1, .int .i64 a2_2]) (t := 24) ?hr ?_; (case hd => rfl); (case hg => rfl); (case hr => first | (go_simp; done) | (go_simp; rfl)); intro gb204 hg w9 hbox hb; have n0_ := Aside0.mk (blk_below (g := gb202) (o := .cells #[.bool a0_0, .string a0_1, .int .i64 a0_2] 24 (0, 0)) (by (with_reducible repeat (first | refine blk_drewN ?_ _ | refine blk_drew ?_ | refine blk_alloc ?_ _)); exact BK202.out) hb); have n1_ := Aside0.mk (blk_below (g := gb203) (o := .cells #[.bool a1_0, .string a1_1, .int .i64 a1_2] 24 (0, 0)) (by (with_reducible repeat (first | refine blk_drewN ?_ _ | refine blk_drew ?_ | refine blk_alloc ?_ _)); exact BK203.out) hb); have n2_ := Aside0.mk (below_step (by repeat (first | (with_reducible first | exact HB.out | apply below_alloc | apply pw_below_drewN | apply below_drew1 | refine below_set ?_ GE202.out | refine below_set ?_ GE203.out) | exact HB.out)) hb); have n3_ := Aside0.mk (hbox); have n4_ := Aside0.mk ((by rw [hg]; exact (below_size (by repeat (first | (with_reducible first | exact HB.out | apply below_alloc | apply pw_below_drewN | apply below_drew1 | refine below_set ?_ GE202.out | refine below_set ?_ GE203.out) | exact HB.out))) : w.heap.size ≤ gb204)); have n5_ := Aside0.mk ((by rw [hg]; exact (below_size (by repeat (first | (with_reducible first | exact HB.out | apply below_alloc | apply pw_below_drewN | apply below_drew1 | refine below_set ?_ GE202.out | refine below_set ?_ GE203.out) | exact HB.out))) : w.heap.size ≤ gb204)); have n6_ := Aside0.mk ((by rw [hg]; exact Nat.ne_of_lt (blk_lt (g := gb202) (o := .cells #[.bool a0_0, .string a0_1, .int .i64 a0_2] 24 (0, 0)) (by (with_reducible repeat (first | refine blk_drewN ?_ _ | refine blk_drew ?_ | refine blk_alloc ?_ _)); exact BK202.out)) : gb202 ≠ gb204)); have n7_ := Aside0.mk ((by rw [hg]; exact Nat.ne_of_gt (blk_lt (g := gb202) (o := .cells #[.bool a0_0, .string a0_1, .int .i64 a0_2] 24 (0, 0)) (by (with_reducible repeat (first | refine blk_drewN ?_ _ | refine blk_drew ?_ | refine blk_alloc ?_ _)); exact BK202.out)) : gb204 ≠ gb202)); have n8_ := Aside0.mk ((by rw [hg]; exact Nat.ne_of_lt (blk_lt (g := gb203) (o := .cells #[.bool a1_0, .string a1_1, .int .i64 a1_2] 24 (0, 0)) (by (with_reducible repeat (first | refine blk_drewN ?_ _ | refine blk_drew ?_ | refine blk_alloc ?_ _)); exact BK203.out)) : gb203 ≠ gb204)); have n9_ := Aside0.mk ((by rw [hg]; exact Nat.ne_of_gt (blk_lt (g := gb203) (o := .cells #[.bool a1_0, .string a1_1, .int .i64 a1_2] 24 (0, 0)) (by (with_reducible repeat (first | refine blk_drewN ?_ _ | refine blk_drew ?_ | refine blk_alloc ?_ _)); exact BK203.out)) : gb204 ≠ gb203)); clear BK202; clear BK203; clear HB; have BK202 := n0_; have BK203 := n1_; have HB := n2_; have BK204 := n3_; have GW204 := n4_; have GE204 := n5_; have NB202_204 := n6_; have NB204_202 := n7_; have NB203_204 := n8_; have NB204_203 := n9_; clear n0_ n1_ n2_ n3_ n4_ n5_ n6_ n7_ n8_ n9_; clear hb hbox hg) | ((with_reducible refine gate_callee (f := 10) rfl ?_); refine goesL_ (some 11) rfl rfl Tryd.func10 (by kernel_rfl) rfl #[] rfl (by (try simp only [List.map_toArray, List.map_cons, List.map_nil]); first | done | rfl | (simp only [List.length_drop, List.length_take]; rfl)) ?_; (with_reducible refine (rubricatorlaw14_awake.calls  true _ (Tabs.below HT.out (by repeat (first | (with_reducible first | exact HB.out | apply below_alloc | apply pw_below_drewN | apply below_drew1 | refine below_set ?_ GE202.out | refine below_set ?_ GE203.out | refine below_set ?_ GE204.out) | exact HB.out))) A4.out).mono ?_); rintro e w10 ⟨rfl, hb⟩; refine ⟨_, rfl, ?_⟩; have n0_ := Aside0.mk (blk_below (g := gb202) (o := .cells #[.bool a0_0, .string a0_1, .int .i64 a0_2] 24 (0, 0)) (by (with_reducible repeat (first | refine blk_drewN ?_ _ | refine blk_drew ?_ | refine blk_alloc ?_ _)); exact BK202.out) hb); have n1_ := Aside0.mk (blk_below (g := gb203) (o := .cells #[.bool a1_0, .string a1_1, .int .i64 a1_2] 24 (0, 0)) (by (with_reducible repeat (first | refine blk_drewN ?_ _ | refine blk_drew ?_ | refine blk_alloc ?_ _)); exact BK203.out) hb); have n2_ := Aside0.mk (blk_below (g := gb204) (o := .cells #[.bool a2_0, .string a2_1, .int .i64 a2_2] 24 (0, 0)) (by (with_reducible repeat (first | refine blk_drewN ?_ _ | refine blk_drew ?_ | refine blk_alloc ?_ _)); exact BK204.out) hb); have n3_ := Aside0.mk (below_step (by repeat (first | (with_reducible first | exact HB.out | apply below_alloc | apply pw_below_drewN | apply below_drew1 | refine below_set ?_ GE202.out | refine below_set ?_ GE203.out | refine below_set ?_ GE204.out) | exact HB.out)) hb); clear BK202; clear BK203; clear BK204; clear HB; have BK202 := n0_; have BK203 := n1_; have BK204 := n2_; have HB := n3_; clear n0_ n1_ n2_ n3_; (try clear hb); (try clear hb2); (try clear hk); (try clear hi)))
    (try simp only [Act.put, List.setIfInBounds_toArray, List.set_cons_zero, List.set_cons_succ])
    go_cut [26] (fun v26 wc => ∃ (kq : Nat) (x26_5 : Bool), v26 = .bool x26_5 ∧ Aside0 (rubricatorlaw14_NumOrders.j0 kq x26_5 a0_0 a0_1 a0_2 a1_0 a1_1 a1_2 a2_0 a2_1 a2_2 = some r) ∧ Aside0 (kq ≤ k) ∧ Aside0 (wc.heap[gb202]? = some (.cells #[.bool a0_0, .string a0_1, .int .i64 a0_2] 24 (0, 0))) ∧ Aside0 (wc.heap[gb203]? = some (.cells #[.bool a1_0, .string a1_1, .int .i64 a1_2] 24 (0, 0))) ∧ Aside0 (wc.heap[gb204]? = some (.cells #[.bool a2_0, .string a2_1, .int .i64 a2_2] 24 (0, 0))) ∧ Aside0 (Below w.heap.size w wc))
    case first =>
      have H := HC6.out
      clear HC6
      replace H := Option.bind_eq_some_iff.mp H
      obtain ⟨t206, A110, H⟩ := H
      replace H : (if t206 = true then ((num_Right.f a1_0 a1_1 a1_2).bind fun t207 => (if t207 = true then ((num_Right.f a2_0 a2_1 a2_2).bind fun t208 => (rubricatorlaw14_NumOrders.j0 k (!t208) a0_0 a0_1 a0_2 a1_0 a1_1 a1_2 a2_0 a2_1 a2_2)) else (rubricatorlaw14_NumOrders.j0 k true a0_0 a0_1 a0_2 a1_0 a1_1 a1_2 a2_0 a2_1 a2_2))) else (rubricatorlaw14_NumOrders.j0 k true a0_0 a0_1 a0_2 a1_0 a1_1 a1_2 a2_0 a2_1 a2_2)) = some r := H
      have A11 := Aside0.mk A110
      clear A110
      by_cases c12 : t206 = true
      · subst c12
        have H1 : ((num_Right.f a1_0 a1_1 a1_2).bind fun t207 => (if t207 = true then ((num_Right.f a2_0 a2_1 a2_2).bind fun t208 => (rubricatorlaw14_NumOrders.j0 k (!t208) a0_0 a0_1 a0_2 a1_0 a1_1 a1_2 a2_0 a2_1 a2_2)) else (rubricatorlaw14_NumOrders.j0 k true a0_0 a0_1 a0_2 a1_0 a1_1 a1_2 a2_0 a2_1 a2_2))) = some r := by rw [if_pos rfl] at H; exact H
        clear H
        have H := H1
        clear H1
        replace H := Option.bind_eq_some_iff.mp H
        obtain ⟨t207, A130, H⟩ := H
        replace H : (if t207 = true then ((num_Right.f a2_0 a2_1 a2_2).bind fun t208 => (rubricatorlaw14_NumOrders.j0 k (!t208) a0_0 a0_1 a0_2 a1_0 a1_1 a1_2 a2_0 a2_1 a2_2)) else (rubricatorlaw14_NumOrders.j0 k true a0_0 a0_1 a0_2 a1_0 a1_1 a1_2 a2_0 a2_1 a2_2)) = some r := H
        have A13 := Aside0.mk A130
        clear A130
        by_cases c14 : t207 = true
        · subst c14
          have H1 : ((num_Right.f a2_0 a2_1 a2_2).bind fun t208 => (rubricatorlaw14_NumOrders.j0 k (!t208) a0_0 a0_1 a0_2 a1_0 a1_1 a1_2 a2_0 a2_1 a2_2)) = some r := by rw [if_pos rfl] at H; exact H
          clear H
          have H := H1
          clear H1
          replace H := Option.bind_eq_some_iff.mp H
          obtain ⟨t208, A150, H⟩ := H
          replace H : (rubricatorlaw14_NumOrders.j0 k (!t208) a0_0 a0_1 a0_2 a1_0 a1_1 a1_2 a2_0 a2_1 a2_2) = some r := H
          have A15 := Aside0.mk A150
          clear A150
          have H' := Aside0.mk H
          clear H
          have hnb16 := NB202_203.out
          have hnc16 := NB203_202.out
          have hnb17 := NB202_204.out
          have hnc17 := NB204_202.out
          have hcz18_0 : w10.cell? ⟨gb202, 0, none⟩ = some (.bool a0_0) := (blk_cell BK202.out 0).trans rfl
          have hcz18_1 : w10.cell? ⟨gb202, 1, none⟩ = some (.string a0_1) := (blk_cell BK202.out 1).trans rfl
          have hcz18_2 : w10.cell? ⟨gb202, 2, none⟩ = some (.int .i64 a0_2) := (blk_cell BK202.out 2).trans rfl
          have hfz18_0 := blk_frozen BK202.out 0
          have hfz18_1 := blk_frozen BK202.out 1
          have hfz18_2 := blk_frozen BK202.out 2
          go_wp2_with (first | ((with_reducible refine gate_callee (f := 16) rfl ?_); refine goesL_ (some 15) rfl rfl Tryd.func16 (by kernel_rfl) rfl #[.agg #[.bool a0_0, .string a0_1, .int .i64 a0_2]] rfl (by (try simp only [List.map_toArray, List.map_cons, List.map_nil]); first | done | rfl | (simp only [List.length_drop, List.length_take]; rfl)) ?_; (with_reducible refine (num_Right.calls a0_0 a0_1 a0_2 true _ A11.out).mono ?_); rintro e w19 ⟨rfl, hb⟩; refine ⟨_, rfl, ?_⟩; have n0_ := Aside0.mk (blk_below (g := gb202) (o := .cells #[.bool a0_0, .string a0_1, .int .i64 a0_2] 24 (0, 0)) (by (with_reducible repeat (first | refine blk_drewN ?_ _ | refine blk_drew ?_ | refine blk_alloc ?_ _)); exact BK202.out) hb); have n1_ := Aside0.mk (blk_below (g := gb203) (o := .cells #[.bool a1_0, .string a1_1, .int .i64 a1_2] 24 (0, 0)) (by (with_reducible repeat (first | refine blk_drewN ?_ _ | refine blk_drew ?_ | refine blk_alloc ?_ _)); exact BK203.out) hb); have n2_ := Aside0.mk (blk_below (g := gb204) (o := .cells #[.bool a2_0, .string a2_1, .int .i64 a2_2] 24 (0, 0)) (by (with_reducible repeat (first | refine blk_drewN ?_ _ | refine blk_drew ?_ | refine blk_alloc ?_ _)); exact BK204.out) hb); have n3_ := Aside0.mk (below_step (by repeat (first | (with_reducible first | exact HB.out | apply below_alloc | apply pw_below_drewN | apply below_drew1 | refine below_set ?_ GE202.out | refine below_set ?_ GE203.out | refine below_set ?_ GE204.out) | exact HB.out)) hb); clear BK202; clear BK203; clear BK204; clear HB; have BK202 := n0_; have BK203 := n1_; have BK204 := n2_; have HB := n3_; clear n0_ n1_ n2_ n3_; (try clear hb); (try clear hb2); (try clear hk); (try clear hi); have hnb20 := NB203_204.out; have hnc20 := NB204_203.out; have hcz21_0 : w19.cell? ⟨gb203, 0, none⟩ = some (.bool a1_0) := (blk_cell BK203.out 0).trans rfl; have hcz21_1 : w19.cell? ⟨gb203, 1, none⟩ = some (.string a1_1) := (blk_cell BK203.out 1).trans rfl; have hcz21_2 : w19.cell? ⟨gb203, 2, none⟩ = some (.int .i64 a1_2) := (blk_cell BK203.out 2).trans rfl; have hfz21_0 := blk_frozen BK203.out 0; have hfz21_1 := blk_frozen BK203.out 1; have hfz21_2 := blk_frozen BK203.out 2) | (go_at_call 16; (with_reducible refine (num_Right.calls a1_0 a1_1 a1_2 true _ A13.out).mono ?_); rintro e w22 ⟨rfl, hb⟩; have n0_ := Aside0.mk (blk_below (g := gb202) (o := .cells #[.bool a0_0, .string a0_1, .int .i64 a0_2] 24 (0, 0)) (by (with_reducible repeat (first | refine blk_drewN ?_ _ | refine blk_drew ?_ | refine blk_alloc ?_ _)); exact BK202.out) hb); have n1_ := Aside0.mk (blk_below (g := gb203) (o := .cells #[.bool a1_0, .string a1_1, .int .i64 a1_2] 24 (0, 0)) (by (with_reducible repeat (first | refine blk_drewN ?_ _ | refine blk_drew ?_ | refine blk_alloc ?_ _)); exact BK203.out) hb); have n2_ := Aside0.mk (blk_below (g := gb204) (o := .cells #[.bool a2_0, .string a2_1, .int .i64 a2_2] 24 (0, 0)) (by (with_reducible repeat (first | refine blk_drewN ?_ _ | refine blk_drew ?_ | refine blk_alloc ?_ _)); exact BK204.out) hb); have n3_ := Aside0.mk (below_step (by repeat (first | (with_reducible first | exact HB.out | apply below_alloc | apply pw_below_drewN | apply below_drew1 | refine below_set ?_ GE202.out | refine below_set ?_ GE203.out | refine below_set ?_ GE204.out) | exact HB.out)) hb); clear BK202; clear BK203; clear BK204; clear HB; have BK202 := n0_; have BK203 := n1_; have BK204 := n2_; have HB := n3_; clear n0_ n1_ n2_ n3_; (try clear hb); (try clear hb2); (try clear hk); (try clear hi); have hcz23_0 : w22.cell? ⟨gb204, 0, none⟩ = some (.bool a2_0) := (blk_cell BK204.out 0).trans rfl; have hcz23_1 : w22.cell? ⟨gb204, 1, none⟩ = some (.string a2_1) := (blk_cell BK204.out 1).trans rfl; have hcz23_2 : w22.cell? ⟨gb204, 2, none⟩ = some (.int .i64 a2_2) := (blk_cell BK204.out 2).trans rfl; have hfz23_0 := blk_frozen BK204.out 0; have hfz23_1 := blk_frozen BK204.out 1; have hfz23_2 := blk_frozen BK204.out 2) | (go_at_call 16; (with_reducible refine (num_Right.calls a2_0 a2_1 a2_2 t208 _ A15.out).mono ?_); rintro e w24 ⟨rfl, hb⟩; have n0_ := Aside0.mk (blk_below (g := gb202) (o := .cells #[.bool a0_0, .string a0_1, .int .i64 a0_2] 24 (0, 0)) (by (with_reducible repeat (first | refine blk_drewN ?_ _ | refine blk_drew ?_ | refine blk_alloc ?_ _)); exact BK202.out) hb); have n1_ := Aside0.mk (blk_below (g := gb203) (o := .cells #[.bool a1_0, .string a1_1, .int .i64 a1_2] 24 (0, 0)) (by (with_reducible repeat (first | refine blk_drewN ?_ _ | refine blk_drew ?_ | refine blk_alloc ?_ _)); exact BK203.out) hb); have n2_ := Aside0.mk (blk_below (g := gb204) (o := .cells #[.bool a2_0, .string a2_1, .int .i64 a2_2] 24 (0, 0)) (by (with_reducible repeat (first | refine blk_drewN ?_ _ | refine blk_drew ?_ | refine blk_alloc ?_ _)); exact BK204.out) hb); have n3_ := Aside0.mk (below_step (by repeat (first | (with_reducible first | exact HB.out | apply below_alloc | apply pw_below_drewN | apply below_drew1 | refine below_set ?_ GE202.out | refine below_set ?_ GE203.out | refine below_set ?_ GE204.out) | exact HB.out)) hb); clear BK202; clear BK203; clear BK204; clear HB; have BK202 := n0_; have BK203 := n1_; have BK204 := n2_; have HB := n3_; clear n0_ n1_ n2_ n3_; (try clear hb); (try clear hb2); (try clear hk); (try clear hi)))
          go_meet
          case rel => exact ⟨_, (!t208), (by first | rfl | (simp; done) | (simp [*]; done) | (simp [wrap64]; done)), H', ⟨by first | omega | exact Nat.le_refl _⟩, ⟨by (with_reducible repeat (first | refine blk_drewN ?_ _ | refine blk_drew ?_ | refine blk_alloc ?_ _)); exact BK202.out⟩, ⟨by (with_reducible repeat (first | refine blk_drewN ?_ _ | refine blk_drew ?_ | refine blk_alloc ?_ _)); exact BK203.out⟩, ⟨by (with_reducible repeat (first | refine blk_drewN ?_ _ | refine blk_drew ?_ | refine blk_alloc ?_ _)); exact BK204.out⟩, ⟨by repeat (first | (with_reducible first | exact HB.out | apply below_alloc | apply pw_below_drewN | apply below_drew1 | refine below_set ?_ GE202.out | refine below_set ?_ GE203.out | refine below_set ?_ GE204.out) | exact HB.out)⟩⟩
        · replace c14 := Bool.eq_false_iff.mpr c14
          subst c14
          have H1 : (rubricatorlaw14_NumOrders.j0 k true a0_0 a0_1 a0_2 a1_0 a1_1 a1_2 a2_0 a2_1 a2_2) = some r := by rw [if_neg (show ¬ (false = true) by decide)] at H; exact H
          clear H
          have H := H1
          clear H1
          have H' := Aside0.mk H
          clear H
          have hnb25 := NB202_203.out
          have hnc25 := NB203_202.out
          have hnb26 := NB202_204.out
          have hnc26 := NB204_202.out
          have hcz27_0 : w10.cell? ⟨gb202, 0, none⟩ = some (.bool a0_0) := (blk_cell BK202.out 0).trans rfl
          have hcz27_1 : w10.cell? ⟨gb202, 1, none⟩ = some (.string a0_1) := (blk_cell BK202.out 1).trans rfl
          have hcz27_2 : w10.cell? ⟨gb202, 2, none⟩ = some (.int .i64 a0_2) := (blk_cell BK202.out 2).trans rfl
          have hfz27_0 := blk_frozen BK202.out 0
          have hfz27_1 := blk_frozen BK202.out 1
          have hfz27_2 := blk_frozen BK202.out 2
          go_wp2_with (first | ((with_reducible refine gate_callee (f := 16) rfl ?_); refine goesL_ (some 15) rfl rfl Tryd.func16 (by kernel_rfl) rfl #[.agg #[.bool a0_0, .string a0_1, .int .i64 a0_2]] rfl (by (try simp only [List.map_toArray, List.map_cons, List.map_nil]); first | done | rfl | (simp only [List.length_drop, List.length_take]; rfl)) ?_; (with_reducible refine (num_Right.calls a0_0 a0_1 a0_2 true _ A11.out).mono ?_); rintro e w28 ⟨rfl, hb⟩; refine ⟨_, rfl, ?_⟩; have n0_ := Aside0.mk (blk_below (g := gb202) (o := .cells #[.bool a0_0, .string a0_1, .int .i64 a0_2] 24 (0, 0)) (by (with_reducible repeat (first | refine blk_drewN ?_ _ | refine blk_drew ?_ | refine blk_alloc ?_ _)); exact BK202.out) hb); have n1_ := Aside0.mk (blk_below (g := gb203) (o := .cells #[.bool a1_0, .string a1_1, .int .i64 a1_2] 24 (0, 0)) (by (with_reducible repeat (first | refine blk_drewN ?_ _ | refine blk_drew ?_ | refine blk_alloc ?_ _)); exact BK203.out) hb); have n2_ := Aside0.mk (blk_below (g := gb204) (o := .cells #[.bool a2_0, .string a2_1, .int .i64 a2_2] 24 (0, 0)) (by (with_reducible repeat (first | refine blk_drewN ?_ _ | refine blk_drew ?_ | refine blk_alloc ?_ _)); exact BK204.out) hb); have n3_ := Aside0.mk (below_step (by repeat (first | (with_reducible first | exact HB.out | apply below_alloc | apply pw_below_drewN | apply below_drew1 | refine below_set ?_ GE202.out | refine below_set ?_ GE203.out | refine below_set ?_ GE204.out) | exact HB.out)) hb); clear BK202; clear BK203; clear BK204; clear HB; have BK202 := n0_; have BK203 := n1_; have BK204 := n2_; have HB := n3_; clear n0_ n1_ n2_ n3_; (try clear hb); (try clear hb2); (try clear hk); (try clear hi); have hnb29 := NB203_204.out; have hnc29 := NB204_203.out; have hcz30_0 : w28.cell? ⟨gb203, 0, none⟩ = some (.bool a1_0) := (blk_cell BK203.out 0).trans rfl; have hcz30_1 : w28.cell? ⟨gb203, 1, none⟩ = some (.string a1_1) := (blk_cell BK203.out 1).trans rfl; have hcz30_2 : w28.cell? ⟨gb203, 2, none⟩ = some (.int .i64 a1_2) := (blk_cell BK203.out 2).trans rfl; have hfz30_0 := blk_frozen BK203.out 0; have hfz30_1 := blk_frozen BK203.out 1; have hfz30_2 := blk_frozen BK203.out 2) | (go_at_call 16; (with_reducible refine (num_Right.calls a1_0 a1_1 a1_2 false _ A13.out).mono ?_); rintro e w31 ⟨rfl, hb⟩; have n0_ := Aside0.mk (blk_below (g := gb202) (o := .cells #[.bool a0_0, .string a0_1, .int .i64 a0_2] 24 (0, 0)) (by (with_reducible repeat (first | refine blk_drewN ?_ _ | refine blk_drew ?_ | refine blk_alloc ?_ _)); exact BK202.out) hb); have n1_ := Aside0.mk (blk_below (g := gb203) (o := .cells #[.bool a1_0, .string a1_1, .int .i64 a1_2] 24 (0, 0)) (by (with_reducible repeat (first | refine blk_drewN ?_ _ | refine blk_drew ?_ | refine blk_alloc ?_ _)); exact BK203.out) hb); have n2_ := Aside0.mk (blk_below (g := gb204) (o := .cells #[.bool a2_0, .string a2_1, .int .i64 a2_2] 24 (0, 0)) (by (with_reducible repeat (first | refine blk_drewN ?_ _ | refine blk_drew ?_ | refine blk_alloc ?_ _)); exact BK204.out) hb); have n3_ := Aside0.mk (below_step (by repeat (first | (with_reducible first | exact HB.out | apply below_alloc | apply pw_below_drewN | apply below_drew1 | refine below_set ?_ GE202.out | refine below_set ?_ GE203.out | refine below_set ?_ GE204.out) | exact HB.out)) hb); clear BK202; clear BK203; clear BK204; clear HB; have BK202 := n0_; have BK203 := n1_; have BK204 := n2_; have HB := n3_; clear n0_ n1_ n2_ n3_; (try clear hb); (try clear hb2); (try clear hk); (try clear hi)))
          go_meet
          case rel => exact ⟨_, (true), (by first | rfl | (simp; done) | (simp [*]; done) | (simp [wrap64]; done)), H', ⟨by first | omega | exact Nat.le_refl _⟩, ⟨by (with_reducible repeat (first | refine blk_drewN ?_ _ | refine blk_drew ?_ | refine blk_alloc ?_ _)); exact BK202.out⟩, ⟨by (with_reducible repeat (first | refine blk_drewN ?_ _ | refine blk_drew ?_ | refine blk_alloc ?_ _)); exact BK203.out⟩, ⟨by (with_reducible repeat (first | refine blk_drewN ?_ _ | refine blk_drew ?_ | refine blk_alloc ?_ _)); exact BK204.out⟩, ⟨by repeat (first | (with_reducible first | exact HB.out | apply below_alloc | apply pw_below_drewN | apply below_drew1 | refine below_set ?_ GE202.out | refine below_set ?_ GE203.out | refine below_set ?_ GE204.out) | exact HB.out)⟩⟩
      · replace c12 := Bool.eq_false_iff.mpr c12
        subst c12
        have H1 : (rubricatorlaw14_NumOrders.j0 k true a0_0 a0_1 a0_2 a1_0 a1_1 a1_2 a2_0 a2_1 a2_2) = some r := by rw [if_neg (show ¬ (false = true) by decide)] at H; exact H
        clear H
        have H := H1
        clear H1
        have H' := Aside0.mk H
        clear H
        have hnb32 := NB202_203.out
        have hnc32 := NB203_202.out
        have hnb33 := NB202_204.out
        have hnc33 := NB204_202.out
        have hcz34_0 : w10.cell? ⟨gb202, 0, none⟩ = some (.bool a0_0) := (blk_cell BK202.out 0).trans rfl
        have hcz34_1 : w10.cell? ⟨gb202, 1, none⟩ = some (.string a0_1) := (blk_cell BK202.out 1).trans rfl
        have hcz34_2 : w10.cell? ⟨gb202, 2, none⟩ = some (.int .i64 a0_2) := (blk_cell BK202.out 2).trans rfl
        have hfz34_0 := blk_frozen BK202.out 0
        have hfz34_1 := blk_frozen BK202.out 1
        have hfz34_2 := blk_frozen BK202.out 2
        go_wp2_with (first | ((with_reducible refine gate_callee (f := 16) rfl ?_); refine goesL_ (some 15) rfl rfl Tryd.func16 (by kernel_rfl) rfl #[.agg #[.bool a0_0, .string a0_1, .int .i64 a0_2]] rfl (by (try simp only [List.map_toArray, List.map_cons, List.map_nil]); first | done | rfl | (simp only [List.length_drop, List.length_take]; rfl)) ?_; (with_reducible refine (num_Right.calls a0_0 a0_1 a0_2 false _ A11.out).mono ?_); rintro e w35 ⟨rfl, hb⟩; refine ⟨_, rfl, ?_⟩; have n0_ := Aside0.mk (blk_below (g := gb202) (o := .cells #[.bool a0_0, .string a0_1, .int .i64 a0_2] 24 (0, 0)) (by (with_reducible repeat (first | refine blk_drewN ?_ _ | refine blk_drew ?_ | refine blk_alloc ?_ _)); exact BK202.out) hb); have n1_ := Aside0.mk (blk_below (g := gb203) (o := .cells #[.bool a1_0, .string a1_1, .int .i64 a1_2] 24 (0, 0)) (by (with_reducible repeat (first | refine blk_drewN ?_ _ | refine blk_drew ?_ | refine blk_alloc ?_ _)); exact BK203.out) hb); have n2_ := Aside0.mk (blk_below (g := gb204) (o := .cells #[.bool a2_0, .string a2_1, .int .i64 a2_2] 24 (0, 0)) (by (with_reducible repeat (first | refine blk_drewN ?_ _ | refine blk_drew ?_ | refine blk_alloc ?_ _)); exact BK204.out) hb); have n3_ := Aside0.mk (below_step (by repeat (first | (with_reducible first | exact HB.out | apply below_alloc | apply pw_below_drewN | apply below_drew1 | refine below_set ?_ GE202.out | refine below_set ?_ GE203.out | refine below_set ?_ GE204.out) | exact HB.out)) hb); clear BK202; clear BK203; clear BK204; clear HB; have BK202 := n0_; have BK203 := n1_; have BK204 := n2_; have HB := n3_; clear n0_ n1_ n2_ n3_; (try clear hb); (try clear hb2); (try clear hk); (try clear hi)))
        go_meet
        case rel => exact ⟨_, (true), (by first | rfl | (simp; done) | (simp [*]; done) | (simp [wrap64]; done)), H', ⟨by first | omega | exact Nat.le_refl _⟩, ⟨by (with_reducible repeat (first | refine blk_drewN ?_ _ | refine blk_drew ?_ | refine blk_alloc ?_ _)); exact BK202.out⟩, ⟨by (with_reducible repeat (first | refine blk_drewN ?_ _ | refine blk_drew ?_ | refine blk_alloc ?_ _)); exact BK203.out⟩, ⟨by (with_reducible repeat (first | refine blk_drewN ?_ _ | refine blk_drew ?_ | refine blk_alloc ?_ _)); exact BK204.out⟩, ⟨by repeat (first | (with_reducible first | exact HB.out | apply below_alloc | apply pw_below_drewN | apply below_drew1 | refine below_set ?_ GE202.out | refine below_set ?_ GE203.out | refine below_set ?_ GE204.out) | exact HB.out)⟩⟩
    case rest =>
      clear HC6
      try clear c1
      try clear c2
      try clear p2
      try clear c3
      try clear c5
      try clear c6
      try clear c10
      try clear c12
      try clear c14
      try clear c16
      try clear c17
      try clear c20
      try clear c25
      try clear c26
      try clear c29
      try clear c32
      try clear c33
      try clear hcz18_0
      try clear hcz18_1
      try clear hcz18_2
      try clear hcz21_0
      try clear hcz21_1
      try clear hcz21_2
      try clear hcz23_0
      try clear hcz23_1
      try clear hcz23_2
      try clear hcz27_0
      try clear hcz27_1
      try clear hcz27_2
      try clear hcz30_0
      try clear hcz30_1
      try clear hcz30_2
      try clear hcz34_0
      try clear hcz34_1
      try clear hcz34_2
      try clear hfz18_0
      try clear hfz18_1
      try clear hfz18_2
      try clear hfz21_0
      try clear hfz21_1
      try clear hfz21_2
      try clear hfz23_0
      try clear hfz23_1
      try clear hfz23_2
      try clear hfz27_0
      try clear hfz27_1
      try clear hfz27_2
      try clear hfz30_0
      try clear hfz30_1
      try clear hfz30_2
      try clear hfz34_0
      try clear hfz34_1
      try clear hfz34_2
      obtain ⟨kq, x26_5, rfl, HA, HJ5, BK202, BK203, BK204, HB⟩ := hcut
      cases kq with
      | zero => exact absurd HA.out (by simp [rubricatorlaw14_NumOrders.j0])
      | succ kj5 =>
        have H := HA.out
        clear HA
        simp only [rubricatorlaw14_NumOrders.j0] at H
        by_cases c36 : x26_5 = true
        · subst c36
          have H1 : (some true) = some r := by rw [if_pos rfl] at H; exact H
          clear H
          have H := H1
          clear H1
          obtain rfl := Option.some.inj H
          go_wp2
          go_ret
          try simp only [beq_nil_isEmpty, bytesLess_gtr]
          exact ⟨by first | rfl | (simp [errW_none, errW_some] <;> rfl) | (simp [*, errW_none, errW_some] <;> rfl), by repeat (first | (with_reducible first | exact HB.out | apply below_alloc | apply pw_below_drewN | apply below_drew1 | refine below_set ?_ GE202.out | refine below_set ?_ GE203.out | refine below_set ?_ GE204.out) | exact HB.out)⟩
        · replace c36 := Bool.eq_false_iff.mpr c36
          subst c36
          have H1 : ((num_Compare.f kj5 a0_0 a0_1 a0_2 a1_0 a1_1 a1_2).bind fun t209 => ((num_Compare.f kj5 a1_0 a1_1 a1_2 a2_0 a2_1 a2_2).bind fun t210 => ((num_Compare.f kj5 a0_0 a0_1 a0_2 a2_0 a2_1 a2_2).bind fun t211 => ((num_Compare.f kj5 a1_0 a1_1 a1_2 a0_0 a0_1 a0_2).bind fun t212 => (if t209 = (wrap64 (-t212)) then (if ((t209 == 0) != (a0_0 == a1_0 && (a0_1.toList == a1_1.toList && (a0_2 == a1_2)))) = true then (rubricatorlaw14_NumOrders.j1 kj5 t209 true a0_0 a0_1 a0_2 a1_0 a1_1 a1_2) else (if t209 ≤ 0 then (if t210 ≤ 0 then (if t211 > 0 then (rubricatorlaw14_NumOrders.j1 kj5 t209 true a0_0 a0_1 a0_2 a1_0 a1_1 a1_2) else (if t209 ≥ 0 then (if t210 ≥ 0 then (rubricatorlaw14_NumOrders.j1 kj5 t209 (decide (t211 < 0)) a0_0 a0_1 a0_2 a1_0 a1_1 a1_2) else (rubricatorlaw14_NumOrders.j1 kj5 t209 false a0_0 a0_1 a0_2 a1_0 a1_1 a1_2)) else (rubricatorlaw14_NumOrders.j1 kj5 t209 false a0_0 a0_1 a0_2 a1_0 a1_1 a1_2))) else (if t209 ≥ 0 then (if t210 ≥ 0 then (rubricatorlaw14_NumOrders.j1 kj5 t209 (decide (t211 < 0)) a0_0 a0_1 a0_2 a1_0 a1_1 a1_2) else (rubricatorlaw14_NumOrders.j1 kj5 t209 false a0_0 a0_1 a0_2 a1_0 a1_1 a1_2)) else (rubricatorlaw14_NumOrders.j1 kj5 t209 false a0_0 a0_1 a0_2 a1_0 a1_1 a1_2))) else (if t209 ≥ 0 then (if t210 ≥ 0 then (rubricatorlaw14_NumOrders.j1 kj5 t209 (decide (t211 < 0)) a0_0 a0_1 a0_2 a1_0 a1_1 a1_2) else (rubricatorlaw14_NumOrders.j1 kj5 t209 false a0_0 a0_1 a0_2 a1_0 a1_1 a1_2)) else (rubricatorlaw14_NumOrders.j1 kj5 t209 false a0_0 a0_1 a0_2 a1_0 a1_1 a1_2)))) else (rubricatorlaw14_NumOrders.j1 kj5 t209 true a0_0 a0_1 a0_2 a1_0 a1_1 a1_2)))))) = some r := by rw [if_neg (show ¬ (false = true) by decide)] at H; exact H
          clear H
          have H := H1
          clear H1
          replace H := Option.bind_eq_some_iff.mp H
          obtain ⟨t209, A370, H⟩ := H
          replace H : ((num_Compare.f kj5 a1_0 a1_1 a1_2 a2_0 a2_1 a2_2).bind fun t210 => ((num_Compare.f kj5 a0_0 a0_1 a0_2 a2_0 a2_1 a2_2).bind fun t211 => ((num_Compare.f kj5 a1_0 a1_1 a1_2 a0_0 a0_1 a0_2).bind fun t212 => (if t209 = (wrap64 (-t212)) then (if ((t209 == 0) != (a0_0 == a1_0 && (a0_1.toList == a1_1.toList && (a0_2 == a1_2)))) = true then (rubricatorlaw14_NumOrders.j1 kj5 t209 true a0_0 a0_1 a0_2 a1_0 a1_1 a1_2) else (if t209 ≤ 0 then (if t210 ≤ 0 then (if t211 > 0 then (rubricatorlaw14_NumOrders.j1 kj5 t209 true a0_0 a0_1 a0_2 a1_0 a1_1 a1_2) else (if t209 ≥ 0 then (if t210 ≥ 0 then (rubricatorlaw14_NumOrders.j1 kj5 t209 (decide (t211 < 0)) a0_0 a0_1 a0_2 a1_0 a1_1 a1_2) else (rubricatorlaw14_NumOrders.j1 kj5 t209 false a0_0 a0_1 a0_2 a1_0 a1_1 a1_2)) else (rubricatorlaw14_NumOrders.j1 kj5 t209 false a0_0 a0_1 a0_2 a1_0 a1_1 a1_2))) else (if t209 ≥ 0 then (if t210 ≥ 0 then (rubricatorlaw14_NumOrders.j1 kj5 t209 (decide (t211 < 0)) a0_0 a0_1 a0_2 a1_0 a1_1 a1_2) else (rubricatorlaw14_NumOrders.j1 kj5 t209 false a0_0 a0_1 a0_2 a1_0 a1_1 a1_2)) else (rubricatorlaw14_NumOrders.j1 kj5 t209 false a0_0 a0_1 a0_2 a1_0 a1_1 a1_2))) else (if t209 ≥ 0 then (if t210 ≥ 0 then (rubricatorlaw14_NumOrders.j1 kj5 t209 (decide (t211 < 0)) a0_0 a0_1 a0_2 a1_0 a1_1 a1_2) else (rubricatorlaw14_NumOrders.j1 kj5 t209 false a0_0 a0_1 a0_2 a1_0 a1_1 a1_2)) else (rubricatorlaw14_NumOrders.j1 kj5 t209 false a0_0 a0_1 a0_2 a1_0 a1_1 a1_2)))) else (rubricatorlaw14_NumOrders.j1 kj5 t209 true a0_0 a0_1 a0_2 a1_0 a1_1 a1_2))))) = some r := H
          have A37 := Aside0.mk A370
          clear A370
          replace H := Option.bind_eq_some_iff.mp H
          obtain ⟨t210, A380, H⟩ := H
          replace H : ((num_Compare.f kj5 a0_0 a0_1 a0_2 a2_0 a2_1 a2_2).bind fun t211 => ((num_Compare.f kj5 a1_0 a1_1 a1_2 a0_0 a0_1 a0_2).bind fun t212 => (if t209 = (wrap64 (-t212)) then (if ((t209 == 0) != (a0_0 == a1_0 && (a0_1.toList == a1_1.toList && (a0_2 == a1_2)))) = true then (rubricatorlaw14_NumOrders.j1 kj5 t209 true a0_0 a0_1 a0_2 a1_0 a1_1 a1_2) else (if t209 ≤ 0 then (if t210 ≤ 0 then (if t211 > 0 then (rubricatorlaw14_NumOrders.j1 kj5 t209 true a0_0 a0_1 a0_2 a1_0 a1_1 a1_2) else (if t209 ≥ 0 then (if t210 ≥ 0 then (rubricatorlaw14_NumOrders.j1 kj5 t209 (decide (t211 < 0)) a0_0 a0_1 a0_2 a1_0 a1_1 a1_2) else (rubricatorlaw14_NumOrders.j1 kj5 t209 false a0_0 a0_1 a0_2 a1_0 a1_1 a1_2)) else (rubricatorlaw14_NumOrders.j1 kj5 t209 false a0_0 a0_1 a0_2 a1_0 a1_1 a1_2))) else (if t209 ≥ 0 then (if t210 ≥ 0 then (rubricatorlaw14_NumOrders.j1 kj5 t209 (decide (t211 < 0)) a0_0 a0_1 a0_2 a1_0 a1_1 a1_2) else (rubricatorlaw14_NumOrders.j1 kj5 t209 false a0_0 a0_1 a0_2 a1_0 a1_1 a1_2)) else (rubricatorlaw14_NumOrders.j1 kj5 t209 false a0_0 a0_1 a0_2 a1_0 a1_1 a1_2))) else (if t209 ≥ 0 then (if t210 ≥ 0 then (rubricatorlaw14_NumOrders.j1 kj5 t209 (decide (t211 < 0)) a0_0 a0_1 a0_2 a1_0 a1_1 a1_2) else (rubricatorlaw14_NumOrders.j1 kj5 t209 false a0_0 a0_1 a0_2 a1_0 a1_1 a1_2)) else (rubricatorlaw14_NumOrders.j1 kj5 t209 false a0_0 a0_1 a0_2 a1_0 a1_1 a1_2)))) else (rubricatorlaw14_NumOrders.j1 kj5 t209 true a0_0 a0_1 a0_2 a1_0 a1_1 a1_2)))) = some r := H
          have A38 := Aside0.mk A380
          clear A380
          replace H := Option.bind_eq_some_iff.mp H
          obtain ⟨t211, A390, H⟩ := H
          replace H : ((num_Compare.f kj5 a1_0 a1_1 a1_2 a0_0 a0_1 a0_2).bind fun t212 => (if t209 = (wrap64 (-t212)) then (if ((t209 == 0) != (a0_0 == a1_0 && (a0_1.toList == a1_1.toList && (a0_2 == a1_2)))) = true then (rubricatorlaw14_NumOrders.j1 kj5 t209 true a0_0 a0_1 a0_2 a1_0 a1_1 a1_2) else (if t209 ≤ 0 then (if t210 ≤ 0 then (if t211 > 0 then (rubricatorlaw14_NumOrders.j1 kj5 t209 true a0_0 a0_1 a0_2 a1_0 a1_1 a1_2) else (if t209 ≥ 0 then (if t210 ≥ 0 then (rubricatorlaw14_NumOrders.j1 kj5 t209 (decide (t211 < 0)) a0_0 a0_1 a0_2 a1_0 a1_1 a1_2) else (rubricatorlaw14_NumOrders.j1 kj5 t209 false a0_0 a0_1 a0_2 a1_0 a1_1 a1_2)) else (rubricatorlaw14_NumOrders.j1 kj5 t209 false a0_0 a0_1 a0_2 a1_0 a1_1 a1_2))) else (if t209 ≥ 0 then (if t210 ≥ 0 then (rubricatorlaw14_NumOrders.j1 kj5 t209 (decide (t211 < 0)) a0_0 a0_1 a0_2 a1_0 a1_1 a1_2) else (rubricatorlaw14_NumOrders.j1 kj5 t209 false a0_0 a0_1 a0_2 a1_0 a1_1 a1_2)) else (rubricatorlaw14_NumOrders.j1 kj5 t209 false a0_0 a0_1 a0_2 a1_0 a1_1 a1_2))) else (if t209 ≥ 0 then (if t210 ≥ 0 then (rubricatorlaw14_NumOrders.j1 kj5 t209 (decide (t211 < 0)) a0_0 a0_1 a0_2 a1_0 a1_1 a1_2) else (rubricatorlaw14_NumOrders.j1 kj5 t209 false a0_0 a0_1 a0_2 a1_0 a1_1 a1_2)) else (rubricatorlaw14_NumOrders.j1 kj5 t209 false a0_0 a0_1 a0_2 a1_0 a1_1 a1_2)))) else (rubricatorlaw14_NumOrders.j1 kj5 t209 true a0_0 a0_1 a0_2 a1_0 a1_1 a1_2))) = some r := H
          have A39 := Aside0.mk A390
          clear A390
          have HC40 := Aside0.mk H
          clear H
          have hnb41 := NB202_203.out
          have hnc41 := NB203_202.out
          have hnb42 := NB202_204.out
          have hnc42 := NB204_202.out
          have hcz43_0 : wc.cell? ⟨gb202, 0, none⟩ = some (.bool a0_0) := (blk_cell BK202.out 0).trans rfl
          have hcz43_1 : wc.cell? ⟨gb202, 1, none⟩ = some (.string a0_1) := (blk_cell BK202.out 1).trans rfl
          have hcz43_2 : wc.cell? ⟨gb202, 2, none⟩ = some (.int .i64 a0_2) := (blk_cell BK202.out 2).trans rfl
          have hfz43_0 := blk_frozen BK202.out 0
          have hfz43_1 := blk_frozen BK202.out 1
          have hfz43_2 := blk_frozen BK202.out 2
          have hnb44 := NB203_204.out
          have hnc44 := NB204_203.out
          have hcz45_0 : wc.cell? ⟨gb203, 0, none⟩ = some (.bool a1_0) := (blk_cell BK203.out 0).trans rfl
          have hcz45_1 : wc.cell? ⟨gb203, 1, none⟩ = some (.string a1_1) := (blk_cell BK203.out 1).trans rfl
          have hcz45_2 : wc.cell? ⟨gb203, 2, none⟩ = some (.int .i64 a1_2) := (blk_cell BK203.out 2).trans rfl
          have hfz45_0 := blk_frozen BK203.out 0
          have hfz45_1 := blk_frozen BK203.out 1
          have hfz45_2 := blk_frozen BK203.out 2
          go_upto_region 9 with (first | ((with_reducible refine gate_callee (f := 18) rfl ?_); refine goesL_ (some 29) rfl rfl Tryd.func18 (by kernel_rfl) rfl #[.agg #[.bool a0_0, .string a0_1, .int .i64 a0_2], .agg #[.bool a1_0, .string a1_1, .int .i64 a1_2]] rfl (by (try simp only [List.map_toArray, List.map_cons, List.map_nil]); first | done | rfl | (simp only [List.length_drop, List.length_take]; rfl)) ?_; (with_reducible refine (num_Compare.calls kj5 a0_0 a0_1 a0_2 a1_0 a1_1 a1_2 t209 _ A37.out).mono ?_); rintro e w46 ⟨rfl, hb⟩; refine ⟨_, rfl, ?_⟩; have n0_ := Aside0.mk (blk_below (g := gb202) (o := .cells #[.bool a0_0, .string a0_1, .int .i64 a0_2] 24 (0, 0)) (by (with_reducible repeat (first | refine blk_drewN ?_ _ | refine blk_drew ?_ | refine blk_alloc ?_ _)); exact BK202.out) hb); have n1_ := Aside0.mk (blk_below (g := gb203) (o := .cells #[.bool a1_0, .string a1_1, .int .i64 a1_2] 24 (0, 0)) (by (with_reducible repeat (first | refine blk_drewN ?_ _ | refine blk_drew ?_ | refine blk_alloc ?_ _)); exact BK203.out) hb); have n2_ := Aside0.mk (blk_below (g := gb204) (o := .cells #[.bool a2_0, .string a2_1, .int .i64 a2_2] 24 (0, 0)) (by (with_reducible repeat (first | refine blk_drewN ?_ _ | refine blk_drew ?_ | refine blk_alloc ?_ _)); exact BK204.out) hb); have n3_ := Aside0.mk (below_step (by repeat (first | (with_reducible first | exact HB.out | apply below_alloc | apply pw_below_drewN | apply below_drew1 | refine below_set ?_ GE202.out | refine below_set ?_ GE203.out | refine below_set ?_ GE204.out) | exact HB.out)) hb); clear BK202; clear BK203; clear BK204; clear HB; have BK202 := n0_; have BK203 := n1_; have BK204 := n2_; have HB := n3_; clear n0_ n1_ n2_ n3_; (try clear hb); (try clear hb2); (try clear hk); (try clear hi); have hcz47_0 : w46.cell? ⟨gb203, 0, none⟩ = some (.bool a1_0) := (blk_cell BK203.out 0).trans rfl; have hcz47_1 : w46.cell? ⟨gb203, 1, none⟩ = some (.string a1_1) := (blk_cell BK203.out 1).trans rfl; have hcz47_2 : w46.cell? ⟨gb203, 2, none⟩ = some (.int .i64 a1_2) := (blk_cell BK203.out 2).trans rfl; have hfz47_0 := blk_frozen BK203.out 0; have hfz47_1 := blk_frozen BK203.out 1; have hfz47_2 := blk_frozen BK203.out 2; have hcz48_0 : w46.cell? ⟨gb204, 0, none⟩ = some (.bool a2_0) := (blk_cell BK204.out 0).trans rfl; have hcz48_1 : w46.cell? ⟨gb204, 1, none⟩ = some (.string a2_1) := (blk_cell BK204.out 1).trans rfl; have hcz48_2 : w46.cell? ⟨gb204, 2, none⟩ = some (.int .i64 a2_2) := (blk_cell BK204.out 2).trans rfl; have hfz48_0 := blk_frozen BK204.out 0; have hfz48_1 := blk_frozen BK204.out 1; have hfz48_2 := blk_frozen BK204.out 2) | ((with_reducible refine gate_callee (f := 18) rfl ?_); refine goesL_ (some 32) rfl rfl Tryd.func18 (by kernel_rfl) rfl #[.agg #[.bool a1_0, .string a1_1, .int .i64 a1_2], .agg #[.bool a2_0, .string a2_1, .int .i64 a2_2]] rfl (by (try simp only [List.map_toArray, List.map_cons, List.map_nil]); first | done | rfl | (simp only [List.length_drop, List.length_take]; rfl)) ?_; (with_reducible refine (num_Compare.calls kj5 a1_0 a1_1 a1_2 a2_0 a2_1 a2_2 t210 _ A38.out).mono ?_); rintro e w49 ⟨rfl, hb⟩; refine ⟨_, rfl, ?_⟩; have n0_ := Aside0.mk (blk_below (g := gb202) (o := .cells #[.bool a0_0, .string a0_1, .int .i64 a0_2] 24 (0, 0)) (by (with_reducible repeat (first | refine blk_drewN ?_ _ | refine blk_drew ?_ | refine blk_alloc ?_ _)); exact BK202.out) hb); have n1_ := Aside0.mk (blk_below (g := gb203) (o := .cells #[.bool a1_0, .string a1_1, .int .i64 a1_2] 24 (0, 0)) (by (with_reducible repeat (first | refine blk_drewN ?_ _ | refine blk_drew ?_ | refine blk_alloc ?_ _)); exact BK203.out) hb); have n2_ := Aside0.mk (blk_below (g := gb204) (o := .cells #[.bool a2_0, .string a2_1, .int .i64 a2_2] 24 (0, 0)) (by (with_reducible repeat (first | refine blk_drewN ?_ _ | refine blk_drew ?_ | refine blk_alloc ?_ _)); exact BK204.out) hb); have n3_ := Aside0.mk (below_step (by repeat (first | (with_reducible first | exact HB.out | apply below_alloc | apply pw_below_drewN | apply below_drew1 | refine below_set ?_ GE202.out | refine below_set ?_ GE203.out | refine below_set ?_ GE204.out) | exact HB.out)) hb); clear BK202; clear BK203; clear BK204; clear HB; have BK202 := n0_; have BK203 := n1_; have BK204 := n2_; have HB := n3_; clear n0_ n1_ n2_ n3_; (try clear hb); (try clear hb2); (try clear hk); (try clear hi); have hcz50_0 : w49.cell? ⟨gb202, 0, none⟩ = some (.bool a0_0) := (blk_cell BK202.out 0).trans rfl; have hcz50_1 : w49.cell? ⟨gb202, 1, none⟩ = some (.string a0_1) := (blk_cell BK202.out 1).trans rfl; have hcz50_2 : w49.cell? ⟨gb202, 2, none⟩ = some (.int .i64 a0_2) := (blk_cell BK202.out 2).trans rfl; have hfz50_0 := blk_frozen BK202.out 0; have hfz50_1 := blk_frozen BK202.out 1; have hfz50_2 := blk_frozen BK202.out 2; have hcz51_0 : w49.cell? ⟨gb204, 0, none⟩ = some (.bool a2_0) := (blk_cell BK204.out 0).trans rfl; have hcz51_1 : w49.cell? ⟨gb204, 1, none⟩ = some (.string a2_1) := (blk_cell BK204.out 1).trans rfl; have hcz51_2 : w49.cell? ⟨gb204, 2, none⟩ = some (.int .i64 a2_2) := (blk_cell BK204.out 2).trans rfl; have hfz51_0 := blk_frozen BK204.out 0; have hfz51_1 := blk_frozen BK204.out 1; have hfz51_2 := blk_frozen BK204.out 2) | ((with_reducible refine gate_callee (f := 18) rfl ?_); refine goesL_ (some 35) rfl rfl Tryd.func18 (by kernel_rfl) rfl #[.agg #[.bool a0_0, .string a0_1, .int .i64 a0_2], .agg #[.bool a2_0, .string a2_1, .int .i64 a2_2]] rfl (by (try simp only [List.map_toArray, List.map_cons, List.map_nil]); first | done | rfl | (simp only [List.length_drop, List.length_take]; rfl)) ?_; (with_reducible refine (num_Compare.calls kj5 a0_0 a0_1 a0_2 a2_0 a2_1 a2_2 t211 _ A39.out).mono ?_); rintro e w52 ⟨rfl, hb⟩; refine ⟨_, rfl, ?_⟩; have n0_ := Aside0.mk (blk_below (g := gb202) (o := .cells #[.bool a0_0, .string a0_1, .int .i64 a0_2] 24 (0, 0)) (by (with_reducible repeat (first | refine blk_drewN ?_ _ | refine blk_drew ?_ | refine blk_alloc ?_ _)); exact BK202.out) hb); have n1_ := Aside0.mk (blk_below (g := gb203) (o := .cells #[.bool a1_0, .string a1_1, .int .i64 a1_2] 24 (0, 0)) (by (with_reducible repeat (first | refine blk_drewN ?_ _ | refine blk_drew ?_ | refine blk_alloc ?_ _)); exact BK203.out) hb); have n2_ := Aside0.mk (blk_below (g := gb204) (o := .cells #[.bool a2_0, .string a2_1, .int .i64 a2_2] 24 (0, 0)) (by (with_reducible repeat (first | refine blk_drewN ?_ _ | refine blk_drew ?_ | refine blk_alloc ?_ _)); exact BK204.out) hb); have n3_ := Aside0.mk (below_step (by repeat (first | (with_reducible first | exact HB.out | apply below_alloc | apply pw_below_drewN | apply below_drew1 | refine below_set ?_ GE202.out | refine below_set ?_ GE203.out | refine below_set ?_ GE204.out) | exact HB.out)) hb); clear BK202; clear BK203; clear BK204; clear HB; have BK202 := n0_; have BK203 := n1_; have BK204 := n2_; have HB := n3_; clear n0_ n1_ n2_ n3_; (try clear hb); (try clear hb2); (try clear hk); (try clear hi)))
          (try simp only [Act.put, List.setIfInBounds_toArray, List.set_cons_zero, List.set_cons_succ])
          go_cut [73] (fun v73 wc => ∃ (kq : Nat) (x73_39 : Bool), v73 = .bool x73_39 ∧ Aside0 (rubricatorlaw14_NumOrders.j1 kq t209 x73_39 a0_0 a0_1 a0_2 a1_0 a1_1 a1_2 = some r) ∧ Aside0 (kq ≤ kj5) ∧ Aside0 (wc.heap[gb202]? = some (.cells #[.bool a0_0, .string a0_1, .int .i64 a0_2] 24 (0, 0))) ∧ Aside0 (wc.heap[gb203]? = some (.cells #[.bool a1_0, .string a1_1, .int .i64 a1_2] 24 (0, 0))) ∧ Aside0 (wc.heap[gb204]? = some (.cells #[.bool a2_0, .string a2_1, .int .i64 a2_2] 24 (0, 0))) ∧ Aside0 (Below w.heap.size w wc))
          case first =>
            have H := HC40.out
            clear HC40
            replace H := Option.bind_eq_some_iff.mp H
            obtain ⟨t212, A530, H⟩ := H
            replace H : (if t209 = (wrap64 (-t212)) then (if ((t209 == 0) != (a0_0 == a1_0 && (a0_1.toList == a1_1.toList && (a0_2 == a1_2)))) = true then (rubricatorlaw14_NumOrders.j1 kj5 t209 true a0_0 a0_1 a0_2 a1_0 a1_1 a1_2) else (if t209 ≤ 0 then (if t210 ≤ 0 then (if t211 > 0 then (rubricatorlaw14_NumOrders.j1 kj5 t209 true a0_0 a0_1 a0_2 a1_0 a1_1 a1_2) else (if t209 ≥ 0 then (if t210 ≥ 0 then (rubricatorlaw14_NumOrders.j1 kj5 t209 (decide (t211 < 0)) a0_0 a0_1 a0_2 a1_0 a1_1 a1_2) else (rubricatorlaw14_NumOrders.j1 kj5 t209 false a0_0 a0_1 a0_2 a1_0 a1_1 a1_2)) else (rubricatorlaw14_NumOrders.j1 kj5 t209 false a0_0 a0_1 a0_2 a1_0 a1_1 a1_2))) else (if t209 ≥ 0 then (if t210 ≥ 0 then (rubricatorlaw14_NumOrders.j1 kj5 t209 (decide (t211 < 0)) a0_0 a0_1 a0_2 a1_0 a1_1 a1_2) else (rubricatorlaw14_NumOrders.j1 kj5 t209 false a0_0 a0_1 a0_2 a1_0 a1_1 a1_2)) else (rubricatorlaw14_NumOrders.j1 kj5 t209 false a0_0 a0_1 a0_2 a1_0 a1_1 a1_2))) else (if t209 ≥ 0 then (if t210 ≥ 0 then (rubricatorlaw14_NumOrders.j1 kj5 t209 (decide (t211 < 0)) a0_0 a0_1 a0_2 a1_0 a1_1 a1_2) else (rubricatorlaw14_NumOrders.j1 kj5 t209 false a0_0 a0_1 a0_2 a1_0 a1_1 a1_2)) else (rubricatorlaw14_NumOrders.j1 kj5 t209 false a0_0 a0_1 a0_2 a1_0 a1_1 a1_2)))) else (rubricatorlaw14_NumOrders.j1 kj5 t209 true a0_0 a0_1 a0_2 a1_0 a1_1 a1_2)) = some r := H
            have A53 := Aside0.mk A530
            clear A530
            by_cases c54 : t209 = (wrap64 (-t212))
            · rw [if_pos c54] at H
              have c54b0 : (t209 == (wrap64 (-t212))) = true := beq_iff_eq.mpr c54
              have c54b1 : (t209 != (wrap64 (-t212))) = false := bne_eq_false_iff_eq.mpr c54
              clear c54
              (first | rw [c54b0] | (simp only [i64_w, i32_w]; rw [c54b0]) | skip)
              by_cases c55 : ((t209 == 0) != (a0_0 == a1_0 && (a0_1.toList == a1_1.toList && (a0_2 == a1_2)))) = true
              · rw [if_pos c55] at H
                have c55b0 : ((t209 == 0) != (a0_0 == a1_0 && (a0_1.toList == a1_1.toList && (a0_2 == a1_2)))) = true := c55
                (try (have c55b1 : decide ((t209 == 0) = (a0_0 == a1_0 && (a0_1.toList == a1_1.toList && (a0_2 == a1_2)))) = false := by simpa using c55))
                (try (have c55b2 : ((t209 == 0) == (a0_0 == a1_0 && (a0_1.toList == a1_1.toList && (a0_2 == a1_2)))) = false := by simpa using c55))
                (try (have c55b3 : ¬ ((t209 == 0) = (a0_0 == a1_0 && (a0_1.toList == a1_1.toList && (a0_2 == a1_2)))) := by simpa using c55))
                clear c55
                have H' := Aside0.mk H
                clear H
                have hnb56 := NB203_202.out
                have hnc56 := NB202_203.out
                have hnb57 := NB203_204.out
                have hnc57 := NB204_203.out
                have hcz58_0 : w52.cell? ⟨gb203, 0, none⟩ = some (.bool a1_0) := (blk_cell BK203.out 0).trans rfl
                have hcz58_1 : w52.cell? ⟨gb203, 1, none⟩ = some (.string a1_1) := (blk_cell BK203.out 1).trans rfl
                have hcz58_2 : w52.cell? ⟨gb203, 2, none⟩ = some (.int .i64 a1_2) := (blk_cell BK203.out 2).trans rfl
                have hfz58_0 := blk_frozen BK203.out 0
                have hfz58_1 := blk_frozen BK203.out 1
                have hfz58_2 := blk_frozen BK203.out 2
                have hnb59 := NB202_204.out
                have hnc59 := NB204_202.out
                have hcz60_0 : w52.cell? ⟨gb202, 0, none⟩ = some (.bool a0_0) := (blk_cell BK202.out 0).trans rfl
                have hcz60_1 : w52.cell? ⟨gb202, 1, none⟩ = some (.string a0_1) := (blk_cell BK202.out 1).trans rfl
                have hcz60_2 : w52.cell? ⟨gb202, 2, none⟩ = some (.int .i64 a0_2) := (blk_cell BK202.out 2).trans rfl
                have hfz60_0 := blk_frozen BK202.out 0
                have hfz60_1 := blk_frozen BK202.out 1
                have hfz60_2 := blk_frozen BK202.out 2
                go_wp2_with (first | ((with_reducible refine gate_callee (f := 18) rfl ?_); refine goesL_ (some 39) rfl rfl Tryd.func18 (by kernel_rfl) rfl #[.agg #[.bool a1_0, .string a1_1, .int .i64 a1_2], .agg #[.bool a0_0, .string a0_1, .int .i64 a0_2]] rfl (by (try simp only [List.map_toArray, List.map_cons, List.map_nil]); first | done | rfl | (simp only [List.length_drop, List.length_take]; rfl)) ?_; (with_reducible refine (num_Compare.calls kj5 a1_0 a1_1 a1_2 a0_0 a0_1 a0_2 t212 _ A53.out).mono ?_); rintro e w61 ⟨rfl, hb⟩; refine ⟨_, rfl, ?_⟩; have n0_ := Aside0.mk (blk_below (g := gb202) (o := .cells #[.bool a0_0, .string a0_1, .int .i64 a0_2] 24 (0, 0)) (by (with_reducible repeat (first | refine blk_drewN ?_ _ | refine blk_drew ?_ | refine blk_alloc ?_ _)); exact BK202.out) hb); have n1_ := Aside0.mk (blk_below (g := gb203) (o := .cells #[.bool a1_0, .string a1_1, .int .i64 a1_2] 24 (0, 0)) (by (with_reducible repeat (first | refine blk_drewN ?_ _ | refine blk_drew ?_ | refine blk_alloc ?_ _)); exact BK203.out) hb); have n2_ := Aside0.mk (blk_below (g := gb204) (o := .cells #[.bool a2_0, .string a2_1, .int .i64 a2_2] 24 (0, 0)) (by (with_reducible repeat (first | refine blk_drewN ?_ _ | refine blk_drew ?_ | refine blk_alloc ?_ _)); exact BK204.out) hb); have n3_ := Aside0.mk (below_step (by repeat (first | (with_reducible first | exact HB.out | apply below_alloc | apply pw_below_drewN | apply below_drew1 | refine below_set ?_ GE202.out | refine below_set ?_ GE203.out | refine below_set ?_ GE204.out) | exact HB.out)) hb); clear BK202; clear BK203; clear BK204; clear HB; have BK202 := n0_; have BK203 := n1_; have BK204 := n2_; have HB := n3_; clear n0_ n1_ n2_ n3_; (try clear hb); (try clear hb2); (try clear hk); (try clear hi); have hcz62_0 : w61.cell? ⟨gb202, 0, none⟩ = some (.bool a0_0) := (blk_cell BK202.out 0).trans rfl; have hcz62_1 : w61.cell? ⟨gb202, 1, none⟩ = some (.string a0_1) := (blk_cell BK202.out 1).trans rfl; have hcz62_2 : w61.cell? ⟨gb202, 2, none⟩ = some (.int .i64 a0_2) := (blk_cell BK202.out 2).trans rfl; have hfz62_0 := blk_frozen BK202.out 0; have hfz62_1 := blk_frozen BK202.out 1; have hfz62_2 := blk_frozen BK202.out 2; have hcz63_0 : w61.cell? ⟨gb203, 0, none⟩ = some (.bool a1_0) := (blk_cell BK203.out 0).trans rfl; have hcz63_1 : w61.cell? ⟨gb203, 1, none⟩ = some (.string a1_1) := (blk_cell BK203.out 1).trans rfl; have hcz63_2 : w61.cell? ⟨gb203, 2, none⟩ = some (.int .i64 a1_2) := (blk_cell BK203.out 2).trans rfl; have hfz63_0 := blk_frozen BK203.out 0; have hfz63_1 := blk_frozen BK203.out 1; have hfz63_2 := blk_frozen BK203.out 2))
                go_meet
                case rel => exact ⟨_, (true), (by first | rfl | (simp; done) | (simp [*]; done) | (simp [wrap64]; done)), H', ⟨by have := HJ5.out; first | omega | exact Nat.le_refl _⟩, ⟨by (with_reducible repeat (first | refine blk_drewN ?_ _ | refine blk_drew ?_ | refine blk_alloc ?_ _)); exact BK202.out⟩, ⟨by (with_reducible repeat (first | refine blk_drewN ?_ _ | refine blk_drew ?_ | refine blk_alloc ?_ _)); exact BK203.out⟩, ⟨by (with_reducible repeat (first | refine blk_drewN ?_ _ | refine blk_drew ?_ | refine blk_alloc ?_ _)); exact BK204.out⟩, ⟨by repeat (first | (with_reducible first | exact HB.out | apply below_alloc | apply pw_below_drewN | apply below_drew1 | refine below_set ?_ GE202.out | refine below_set ?_ GE203.out | refine below_set ?_ GE204.out) | exact HB.out)⟩⟩
              · rw [if_neg c55] at H
                have c55b0 : ((t209 == 0) != (a0_0 == a1_0 && (a0_1.toList == a1_1.toList && (a0_2 == a1_2)))) = false := by simpa using c55
                (try (have c55b1 : decide ((t209 == 0) = (a0_0 == a1_0 && (a0_1.toList == a1_1.toList && (a0_2 == a1_2)))) = true := by simpa using c55))
                (try (have c55b2 : ((t209 == 0) == (a0_0 == a1_0 && (a0_1.toList == a1_1.toList && (a0_2 == a1_2)))) = true := by simpa using c55))
                clear c55
                by_cases c64 : t209 ≤ 0
                · rw [if_pos c64] at H
                  have c64b0 : decide (t209 ≤ 0) = true := decide_eq_true c64
                  clear c64
                  by_cases c65 : t210 ≤ 0
                  · rw [if_pos c65] at H
                    have c65b0 : decide (t210 ≤ 0) = true := decide_eq_true c65
                    clear c65
                    by_cases c66 : t211 > 0
                    · rw [if_pos c66] at H
                      have c66b0 : decide (0 < t211) = true := decide_eq_true c66
                      clear c66
                      have H' := Aside0.mk H
                      clear H
                      have hnb67 := NB203_202.out
                      have hnc67 := NB202_203.out
                      have hnb68 := NB203_204.out
                      have hnc68 := NB204_203.out
                      have hcz69_0 : w52.cell? ⟨gb203, 0, none⟩ = some (.bool a1_0) := (blk_cell BK203.out 0).trans rfl
                      have hcz69_1 : w52.cell? ⟨gb203, 1, none⟩ = some (.string a1_1) := (blk_cell BK203.out 1).trans rfl
                      have hcz69_2 : w52.cell? ⟨gb203, 2, none⟩ = some (.int .i64 a1_2) := (blk_cell BK203.out 2).trans rfl
                      have hfz69_0 := blk_frozen BK203.out 0
                      have hfz69_1 := blk_frozen BK203.out 1
                      have hfz69_2 := blk_frozen BK203.out 2
                      have hnb70 := NB202_204.out
                      have hnc70 := NB204_202.out
                      have hcz71_0 : w52.cell? ⟨gb202, 0, none⟩ = some (.bool a0_0) := (blk_cell BK202.out 0).trans rfl
                      have hcz71_1 : w52.cell? ⟨gb202, 1, none⟩ = some (.string a0_1) := (blk_cell BK202.out 1).trans rfl
                      have hcz71_2 : w52.cell? ⟨gb202, 2, none⟩ = some (.int .i64 a0_2) := (blk_cell BK202.out 2).trans rfl
                      have hfz71_0 := blk_frozen BK202.out 0
                      have hfz71_1 := blk_frozen BK202.out 1
                      have hfz71_2 := blk_frozen BK202.out 2
                      go_wp2_with (first | ((with_reducible refine gate_callee (f := 18) rfl ?_); refine goesL_ (some 39) rfl rfl Tryd.func18 (by kernel_rfl) rfl #[.agg #[.bool a1_0, .string a1_1, .int .i64 a1_2], .agg #[.bool a0_0, .string a0_1, .int .i64 a0_2]] rfl (by (try simp only [List.map_toArray, List.map_cons, List.map_nil]); first | done | rfl | (simp only [List.length_drop, List.length_take]; rfl)) ?_; (with_reducible refine (num_Compare.calls kj5 a1_0 a1_1 a1_2 a0_0 a0_1 a0_2 t212 _ A53.out).mono ?_); rintro e w72 ⟨rfl, hb⟩; refine ⟨_, rfl, ?_⟩; have n0_ := Aside0.mk (blk_below (g := gb202) (o := .cells #[.bool a0_0, .string a0_1, .int .i64 a0_2] 24 (0, 0)) (by (with_reducible repeat (first | refine blk_drewN ?_ _ | refine blk_drew ?_ | refine blk_alloc ?_ _)); exact BK202.out) hb); have n1_ := Aside0.mk (blk_below (g := gb203) (o := .cells #[.bool a1_0, .string a1_1, .int .i64 a1_2] 24 (0, 0)) (by (with_reducible repeat (first | refine blk_drewN ?_ _ | refine blk_drew ?_ | refine blk_alloc ?_ _)); exact BK203.out) hb); have n2_ := Aside0.mk (blk_below (g := gb204) (o := .cells #[.bool a2_0, .string a2_1, .int .i64 a2_2] 24 (0, 0)) (by (with_reducible repeat (first | refine blk_drewN ?_ _ | refine blk_drew ?_ | refine blk_alloc ?_ _)); exact BK204.out) hb); have n3_ := Aside0.mk (below_step (by repeat (first | (with_reducible first | exact HB.out | apply below_alloc | apply pw_below_drewN | apply below_drew1 | refine below_set ?_ GE202.out | refine below_set ?_ GE203.out | refine below_set ?_ GE204.out) | exact HB.out)) hb); clear BK202; clear BK203; clear BK204; clear HB; have BK202 := n0_; have BK203 := n1_; have BK204 := n2_; have HB := n3_; clear n0_ n1_ n2_ n3_; (try clear hb); (try clear hb2); (try clear hk); (try clear hi); have hcz73_0 : w72.cell? ⟨gb202, 0, none⟩ = some (.bool a0_0) := (blk_cell BK202.out 0).trans rfl; have hcz73_1 : w72.cell? ⟨gb202, 1, none⟩ = some (.string a0_1) := (blk_cell BK202.out 1).trans rfl; have hcz73_2 : w72.cell? ⟨gb202, 2, none⟩ = some (.int .i64 a0_2) := (blk_cell BK202.out 2).trans rfl; have hfz73_0 := blk_frozen BK202.out 0; have hfz73_1 := blk_frozen BK202.out 1; have hfz73_2 := blk_frozen BK202.out 2; have hcz74_0 : w72.cell? ⟨gb203, 0, none⟩ = some (.bool a1_0) := (blk_cell BK203.out 0).trans rfl; have hcz74_1 : w72.cell? ⟨gb203, 1, none⟩ = some (.string a1_1) := (blk_cell BK203.out 1).trans rfl; have hcz74_2 : w72.cell? ⟨gb203, 2, none⟩ = some (.int .i64 a1_2) := (blk_cell BK203.out 2).trans rfl; have hfz74_0 := blk_frozen BK203.out 0; have hfz74_1 := blk_frozen BK203.out 1; have hfz74_2 := blk_frozen BK203.out 2))
                      go_meet
                      case rel => exact ⟨_, (true), (by first | rfl | (simp; done) | (simp [*]; done) | (simp [wrap64]; done)), H', ⟨by have := HJ5.out; first | omega | exact Nat.le_refl _⟩, ⟨by (with_reducible repeat (first | refine blk_drewN ?_ _ | refine blk_drew ?_ | refine blk_alloc ?_ _)); exact BK202.out⟩, ⟨by (with_reducible repeat (first | refine blk_drewN ?_ _ | refine blk_drew ?_ | refine blk_alloc ?_ _)); exact BK203.out⟩, ⟨by (with_reducible repeat (first | refine blk_drewN ?_ _ | refine blk_drew ?_ | refine blk_alloc ?_ _)); exact BK204.out⟩, ⟨by repeat (first | (with_reducible first | exact HB.out | apply below_alloc | apply pw_below_drewN | apply below_drew1 | refine below_set ?_ GE202.out | refine below_set ?_ GE203.out | refine below_set ?_ GE204.out) | exact HB.out)⟩⟩
                    · rw [if_neg c66] at H
                      have c66b0 : decide (0 < t211) = false := decide_eq_false c66
                      clear c66
                      by_cases c75 : t209 ≥ 0
                      · rw [if_pos c75] at H
                        have c75b0 : decide (0 ≤ t209) = true := decide_eq_true c75
                        clear c75
                        by_cases c76 : t210 ≥ 0
                        · rw [if_pos c76] at H
                          have c76b0 : decide (0 ≤ t210) = true := decide_eq_true c76
                          clear c76
                          have H' := Aside0.mk H
                          clear H
                          have hnb77 := NB203_202.out
                          have hnc77 := NB202_203.out
                          have hnb78 := NB203_204.out
                          have hnc78 := NB204_203.out
                          have hcz79_0 : w52.cell? ⟨gb203, 0, none⟩ = some (.bool a1_0) := (blk_cell BK203.out 0).trans rfl
                          have hcz79_1 : w52.cell? ⟨gb203, 1, none⟩ = some (.string a1_1) := (blk_cell BK203.out 1).trans rfl
                          have hcz79_2 : w52.cell? ⟨gb203, 2, none⟩ = some (.int .i64 a1_2) := (blk_cell BK203.out 2).trans rfl
                          have hfz79_0 := blk_frozen BK203.out 0
                          have hfz79_1 := blk_frozen BK203.out 1
                          have hfz79_2 := blk_frozen BK203.out 2
                          have hnb80 := NB202_204.out
                          have hnc80 := NB204_202.out
                          have hcz81_0 : w52.cell? ⟨gb202, 0, none⟩ = some (.bool a0_0) := (blk_cell BK202.out 0).trans rfl
                          have hcz81_1 : w52.cell? ⟨gb202, 1, none⟩ = some (.string a0_1) := (blk_cell BK202.out 1).trans rfl
                          have hcz81_2 : w52.cell? ⟨gb202, 2, none⟩ = some (.int .i64 a0_2) := (blk_cell BK202.out 2).trans rfl
                          have hfz81_0 := blk_frozen BK202.out 0
                          have hfz81_1 := blk_frozen BK202.out 1
                          have hfz81_2 := blk_frozen BK202.out 2
                          go_wp2_with (first | ((with_reducible refine gate_callee (f := 18) rfl ?_); refine goesL_ (some 39) rfl rfl Tryd.func18 (by kernel_rfl) rfl #[.agg #[.bool a1_0, .string a1_1, .int .i64 a1_2], .agg #[.bool a0_0, .string a0_1, .int .i64 a0_2]] rfl (by (try simp only [List.map_toArray, List.map_cons, List.map_nil]); first | done | rfl | (simp only [List.length_drop, List.length_take]; rfl)) ?_; (with_reducible refine (num_Compare.calls kj5 a1_0 a1_1 a1_2 a0_0 a0_1 a0_2 t212 _ A53.out).mono ?_); rintro e w82 ⟨rfl, hb⟩; refine ⟨_, rfl, ?_⟩; have n0_ := Aside0.mk (blk_below (g := gb202) (o := .cells #[.bool a0_0, .string a0_1, .int .i64 a0_2] 24 (0, 0)) (by (with_reducible repeat (first | refine blk_drewN ?_ _ | refine blk_drew ?_ | refine blk_alloc ?_ _)); exact BK202.out) hb); have n1_ := Aside0.mk (blk_below (g := gb203) (o := .cells #[.bool a1_0, .string a1_1, .int .i64 a1_2] 24 (0, 0)) (by (with_reducible repeat (first | refine blk_drewN ?_ _ | refine blk_drew ?_ | refine blk_alloc ?_ _)); exact BK203.out) hb); have n2_ := Aside0.mk (blk_below (g := gb204) (o := .cells #[.bool a2_0, .string a2_1, .int .i64 a2_2] 24 (0, 0)) (by (with_reducible repeat (first | refine blk_drewN ?_ _ | refine blk_drew ?_ | refine blk_alloc ?_ _)); exact BK204.out) hb); have n3_ := Aside0.mk (below_step (by repeat (first | (with_reducible first | exact HB.out | apply below_alloc | apply pw_below_drewN | apply below_drew1 | refine below_set ?_ GE202.out | refine below_set ?_ GE203.out | refine below_set ?_ GE204.out) | exact HB.out)) hb); clear BK202; clear BK203; clear BK204; clear HB; have BK202 := n0_; have BK203 := n1_; have BK204 := n2_; have HB := n3_; clear n0_ n1_ n2_ n3_; (try clear hb); (try clear hb2); (try clear hk); (try clear hi); have hcz83_0 : w82.cell? ⟨gb202, 0, none⟩ = some (.bool a0_0) := (blk_cell BK202.out 0).trans rfl; have hcz83_1 : w82.cell? ⟨gb202, 1, none⟩ = some (.string a0_1) := (blk_cell BK202.out 1).trans rfl; have hcz83_2 : w82.cell? ⟨gb202, 2, none⟩ = some (.int .i64 a0_2) := (blk_cell BK202.out 2).trans rfl; have hfz83_0 := blk_frozen BK202.out 0; have hfz83_1 := blk_frozen BK202.out 1; have hfz83_2 := blk_frozen BK202.out 2; have hcz84_0 : w82.cell? ⟨gb203, 0, none⟩ = some (.bool a1_0) := (blk_cell BK203.out 0).trans rfl; have hcz84_1 : w82.cell? ⟨gb203, 1, none⟩ = some (.string a1_1) := (blk_cell BK203.out 1).trans rfl; have hcz84_2 : w82.cell? ⟨gb203, 2, none⟩ = some (.int .i64 a1_2) := (blk_cell BK203.out 2).trans rfl; have hfz84_0 := blk_frozen BK203.out 0; have hfz84_1 := blk_frozen BK203.out 1; have hfz84_2 := blk_frozen BK203.out 2))
                          go_meet
                          case rel => exact ⟨_, (decide (t211 < 0)), (by first | rfl | (simp; done) | (simp [*]; done) | (simp [wrap64]; done)), H', ⟨by have := HJ5.out; first | omega | exact Nat.le_refl _⟩, ⟨by (with_reducible repeat (first | refine blk_drewN ?_ _ | refine blk_drew ?_ | refine blk_alloc ?_ _)); exact BK202.out⟩, ⟨by (with_reducible repeat (first | refine blk_drewN ?_ _ | refine blk_drew ?_ | refine blk_alloc ?_ _)); exact BK203.out⟩, ⟨by (with_reducible repeat (first | refine blk_drewN ?_ _ | refine blk_drew ?_ | refine blk_alloc ?_ _)); exact BK204.out⟩, ⟨by repeat (first | (with_reducible first | exact HB.out | apply below_alloc | apply pw_below_drewN | apply below_drew1 | refine below_set ?_ GE202.out | refine below_set ?_ GE203.out | refine below_set ?_ GE204.out) | exact HB.out)⟩⟩
                        · rw [if_neg c76] at H
                          have c76b0 : decide (0 ≤ t210) = false := decide_eq_false c76
                          clear c76
                          have H' := Aside0.mk H
                          clear H
                          have hnb85 := NB203_202.out
                          have hnc85 := NB202_203.out
                          have hnb86 := NB203_204.out
                          have hnc86 := NB204_203.out
                          have hcz87_0 : w52.cell? ⟨gb203, 0, none⟩ = some (.bool a1_0) := (blk_cell BK203.out 0).trans rfl
                          have hcz87_1 : w52.cell? ⟨gb203, 1, none⟩ = some (.string a1_1) := (blk_cell BK203.out 1).trans rfl
                          have hcz87_2 : w52.cell? ⟨gb203, 2, none⟩ = some (.int .i64 a1_2) := (blk_cell BK203.out 2).trans rfl
                          have hfz87_0 := blk_frozen BK203.out 0
                          have hfz87_1 := blk_frozen BK203.out 1
                          have hfz87_2 := blk_frozen BK203.out 2
                          have hnb88 := NB202_204.out
                          have hnc88 := NB204_202.out
                          have hcz89_0 : w52.cell? ⟨gb202, 0, none⟩ = some (.bool a0_0) := (blk_cell BK202.out 0).trans rfl
                          have hcz89_1 : w52.cell? ⟨gb202, 1, none⟩ = some (.string a0_1) := (blk_cell BK202.out 1).trans rfl
                          have hcz89_2 : w52.cell? ⟨gb202, 2, none⟩ = some (.int .i64 a0_2) := (blk_cell BK202.out 2).trans rfl
                          have hfz89_0 := blk_frozen BK202.out 0
                          have hfz89_1 := blk_frozen BK202.out 1
                          have hfz89_2 := blk_frozen BK202.out 2
                          go_wp2_with (first | ((with_reducible refine gate_callee (f := 18) rfl ?_); refine goesL_ (some 39) rfl rfl Tryd.func18 (by kernel_rfl) rfl #[.agg #[.bool a1_0, .string a1_1, .int .i64 a1_2], .agg #[.bool a0_0, .string a0_1, .int .i64 a0_2]] rfl (by (try simp only [List.map_toArray, List.map_cons, List.map_nil]); first | done | rfl | (simp only [List.length_drop, List.length_take]; rfl)) ?_; (with_reducible refine (num_Compare.calls kj5 a1_0 a1_1 a1_2 a0_0 a0_1 a0_2 t212 _ A53.out).mono ?_); rintro e w90 ⟨rfl, hb⟩; refine ⟨_, rfl, ?_⟩; have n0_ := Aside0.mk (blk_below (g := gb202) (o := .cells #[.bool a0_0, .string a0_1, .int .i64 a0_2] 24 (0, 0)) (by (with_reducible repeat (first | refine blk_drewN ?_ _ | refine blk_drew ?_ | refine blk_alloc ?_ _)); exact BK202.out) hb); have n1_ := Aside0.mk (blk_below (g := gb203) (o := .cells #[.bool a1_0, .string a1_1, .int .i64 a1_2] 24 (0, 0)) (by (with_reducible repeat (first | refine blk_drewN ?_ _ | refine blk_drew ?_ | refine blk_alloc ?_ _)); exact BK203.out) hb); have n2_ := Aside0.mk (blk_below (g := gb204) (o := .cells #[.bool a2_0, .string a2_1, .int .i64 a2_2] 24 (0, 0)) (by (with_reducible repeat (first | refine blk_drewN ?_ _ | refine blk_drew ?_ | refine blk_alloc ?_ _)); exact BK204.out) hb); have n3_ := Aside0.mk (below_step (by repeat (first | (with_reducible first | exact HB.out | apply below_alloc | apply pw_below_drewN | apply below_drew1 | refine below_set ?_ GE202.out | refine below_set ?_ GE203.out | refine below_set ?_ GE204.out) | exact HB.out)) hb); clear BK202; clear BK203; clear BK204; clear HB; have BK202 := n0_; have BK203 := n1_; have BK204 := n2_; have HB := n3_; clear n0_ n1_ n2_ n3_; (try clear hb); (try clear hb2); (try clear hk); (try clear hi); have hcz91_0 : w90.cell? ⟨gb202, 0, none⟩ = some (.bool a0_0) := (blk_cell BK202.out 0).trans rfl; have hcz91_1 : w90.cell? ⟨gb202, 1, none⟩ = some (.string a0_1) := (blk_cell BK202.out 1).trans rfl; have hcz91_2 : w90.cell? ⟨gb202, 2, none⟩ = some (.int .i64 a0_2) := (blk_cell BK202.out 2).trans rfl; have hfz91_0 := blk_frozen BK202.out 0; have hfz91_1 := blk_frozen BK202.out 1; have hfz91_2 := blk_frozen BK202.out 2; have hcz92_0 : w90.cell? ⟨gb203, 0, none⟩ = some (.bool a1_0) := (blk_cell BK203.out 0).trans rfl; have hcz92_1 : w90.cell? ⟨gb203, 1, none⟩ = some (.string a1_1) := (blk_cell BK203.out 1).trans rfl; have hcz92_2 : w90.cell? ⟨gb203, 2, none⟩ = some (.int .i64 a1_2) := (blk_cell BK203.out 2).trans rfl; have hfz92_0 := blk_frozen BK203.out 0; have hfz92_1 := blk_frozen BK203.out 1; have hfz92_2 := blk_frozen BK203.out 2))
                          go_meet
                          case rel => exact ⟨_, (false), (by first | rfl | (simp; done) | (simp [*]; done) | (simp [wrap64]; done)), H', ⟨by have := HJ5.out; first | omega | exact Nat.le_refl _⟩, ⟨by (with_reducible repeat (first | refine blk_drewN ?_ _ | refine blk_drew ?_ | refine blk_alloc ?_ _)); exact BK202.out⟩, ⟨by (with_reducible repeat (first | refine blk_drewN ?_ _ | refine blk_drew ?_ | refine blk_alloc ?_ _)); exact BK203.out⟩, ⟨by (with_reducible repeat (first | refine blk_drewN ?_ _ | refine blk_drew ?_ | refine blk_alloc ?_ _)); exact BK204.out⟩, ⟨by repeat (first | (with_reducible first | exact HB.out | apply below_alloc | apply pw_below_drewN | apply below_drew1 | refine below_set ?_ GE202.out | refine below_set ?_ GE203.out | refine below_set ?_ GE204.out) | exact HB.out)⟩⟩
                      · rw [if_neg c75] at H
                        have c75b0 : decide (0 ≤ t209) = false := decide_eq_false c75
                        clear c75
                        have H' := Aside0.mk H
                        clear H
                        have hnb93 := NB203_202.out
                        have hnc93 := NB202_203.out
                        have hnb94 := NB203_204.out
                        have hnc94 := NB204_203.out
                        have hcz95_0 : w52.cell? ⟨gb203, 0, none⟩ = some (.bool a1_0) := (blk_cell BK203.out 0).trans rfl
                        have hcz95_1 : w52.cell? ⟨gb203, 1, none⟩ = some (.string a1_1) := (blk_cell BK203.out 1).trans rfl
                        have hcz95_2 : w52.cell? ⟨gb203, 2, none⟩ = some (.int .i64 a1_2) := (blk_cell BK203.out 2).trans rfl
                        have hfz95_0 := blk_frozen BK203.out 0
                        have hfz95_1 := blk_frozen BK203.out 1
                        have hfz95_2 := blk_frozen BK203.out 2
                        have hnb96 := NB202_204.out
                        have hnc96 := NB204_202.out
                        have hcz97_0 : w52.cell? ⟨gb202, 0, none⟩ = some (.bool a0_0) := (blk_cell BK202.out 0).trans rfl
                        have hcz97_1 : w52.cell? ⟨gb202, 1, none⟩ = some (.string a0_1) := (blk_cell BK202.out 1).trans rfl
                        have hcz97_2 : w52.cell? ⟨gb202, 2, none⟩ = some (.int .i64 a0_2) := (blk_cell BK202.out 2).trans rfl
                        have hfz97_0 := blk_frozen BK202.out 0
                        have hfz97_1 := blk_frozen BK202.out 1
                        have hfz97_2 := blk_frozen BK202.out 2
                        go_wp2_with (first | ((with_reducible refine gate_callee (f := 18) rfl ?_); refine goesL_ (some 39) rfl rfl Tryd.func18 (by kernel_rfl) rfl #[.agg #[.bool a1_0, .string a1_1, .int .i64 a1_2], .agg #[.bool a0_0, .string a0_1, .int .i64 a0_2]] rfl (by (try simp only [List.map_toArray, List.map_cons, List.map_nil]); first | done | rfl | (simp only [List.length_drop, List.length_take]; rfl)) ?_; (with_reducible refine (num_Compare.calls kj5 a1_0 a1_1 a1_2 a0_0 a0_1 a0_2 t212 _ A53.out).mono ?_); rintro e w98 ⟨rfl, hb⟩; refine ⟨_, rfl, ?_⟩; have n0_ := Aside0.mk (blk_below (g := gb202) (o := .cells #[.bool a0_0, .string a0_1, .int .i64 a0_2] 24 (0, 0)) (by (with_reducible repeat (first | refine blk_drewN ?_ _ | refine blk_drew ?_ | refine blk_alloc ?_ _)); exact BK202.out) hb); have n1_ := Aside0.mk (blk_below (g := gb203) (o := .cells #[.bool a1_0, .string a1_1, .int .i64 a1_2] 24 (0, 0)) (by (with_reducible repeat (first | refine blk_drewN ?_ _ | refine blk_drew ?_ | refine blk_alloc ?_ _)); exact BK203.out) hb); have n2_ := Aside0.mk (blk_below (g := gb204) (o := .cells #[.bool a2_0, .string a2_1, .int .i64 a2_2] 24 (0, 0)) (by (with_reducible repeat (first | refine blk_drewN ?_ _ | refine blk_drew ?_ | refine blk_alloc ?_ _)); exact BK204.out) hb); have n3_ := Aside0.mk (below_step (by repeat (first | (with_reducible first | exact HB.out | apply below_alloc | apply pw_below_drewN | apply below_drew1 | refine below_set ?_ GE202.out | refine below_set ?_ GE203.out | refine below_set ?_ GE204.out) | exact HB.out)) hb); clear BK202; clear BK203; clear BK204; clear HB; have BK202 := n0_; have BK203 := n1_; have BK204 := n2_; have HB := n3_; clear n0_ n1_ n2_ n3_; (try clear hb); (try clear hb2); (try clear hk); (try clear hi); have hcz99_0 : w98.cell? ⟨gb202, 0, none⟩ = some (.bool a0_0) := (blk_cell BK202.out 0).trans rfl; have hcz99_1 : w98.cell? ⟨gb202, 1, none⟩ = some (.string a0_1) := (blk_cell BK202.out 1).trans rfl; have hcz99_2 : w98.cell? ⟨gb202, 2, none⟩ = some (.int .i64 a0_2) := (blk_cell BK202.out 2).trans rfl; have hfz99_0 := blk_frozen BK202.out 0; have hfz99_1 := blk_frozen BK202.out 1; have hfz99_2 := blk_frozen BK202.out 2; have hcz100_0 : w98.cell? ⟨gb203, 0, none⟩ = some (.bool a1_0) := (blk_cell BK203.out 0).trans rfl; have hcz100_1 : w98.cell? ⟨gb203, 1, none⟩ = some (.string a1_1) := (blk_cell BK203.out 1).trans rfl; have hcz100_2 : w98.cell? ⟨gb203, 2, none⟩ = some (.int .i64 a1_2) := (blk_cell BK203.out 2).trans rfl; have hfz100_0 := blk_frozen BK203.out 0; have hfz100_1 := blk_frozen BK203.out 1; have hfz100_2 := blk_frozen BK203.out 2))
                        go_meet
                        case rel => exact ⟨_, (false), (by first | rfl | (simp; done) | (simp [*]; done) | (simp [wrap64]; done)), H', ⟨by have := HJ5.out; first | omega | exact Nat.le_refl _⟩, ⟨by (with_reducible repeat (first | refine blk_drewN ?_ _ | refine blk_drew ?_ | refine blk_alloc ?_ _)); exact BK202.out⟩, ⟨by (with_reducible repeat (first | refine blk_drewN ?_ _ | refine blk_drew ?_ | refine blk_alloc ?_ _)); exact BK203.out⟩, ⟨by (with_reducible repeat (first | refine blk_drewN ?_ _ | refine blk_drew ?_ | refine blk_alloc ?_ _)); exact BK204.out⟩, ⟨by repeat (first | (with_reducible first | exact HB.out | apply below_alloc | apply pw_below_drewN | apply below_drew1 | refine below_set ?_ GE202.out | refine below_set ?_ GE203.out | refine below_set ?_ GE204.out) | exact HB.out)⟩⟩
                  · rw [if_neg c65] at H
                    have c65b0 : decide (t210 ≤ 0) = false := decide_eq_false c65
                    clear c65
                    by_cases c101 : t209 ≥ 0
                    · rw [if_pos c101] at H
                      have c101b0 : decide (0 ≤ t209) = true := decide_eq_true c101
                      clear c101
                      by_cases c102 : t210 ≥ 0
                      · rw [if_pos c102] at H
                        have c102b0 : decide (0 ≤ t210) = true := decide_eq_true c102
                        clear c102
                        have H' := Aside0.mk H
                        clear H
                        have hnb103 := NB203_202.out
                        have hnc103 := NB202_203.out
                        have hnb104 := NB203_204.out
                        have hnc104 := NB204_203.out
                        have hcz105_0 : w52.cell? ⟨gb203, 0, none⟩ = some (.bool a1_0) := (blk_cell BK203.out 0).trans rfl
                        have hcz105_1 : w52.cell? ⟨gb203, 1, none⟩ = some (.string a1_1) := (blk_cell BK203.out 1).trans rfl
                        have hcz105_2 : w52.cell? ⟨gb203, 2, none⟩ = some (.int .i64 a1_2) := (blk_cell BK203.out 2).trans rfl
                        have hfz105_0 := blk_frozen BK203.out 0
                        have hfz105_1 := blk_frozen BK203.out 1
                        have hfz105_2 := blk_frozen BK203.out 2
                        have hnb106 := NB202_204.out
                        have hnc106 := NB204_202.out
                        have hcz107_0 : w52.cell? ⟨gb202, 0, none⟩ = some (.bool a0_0) := (blk_cell BK202.out 0).trans rfl
                        have hcz107_1 : w52.cell? ⟨gb202, 1, none⟩ = some (.string a0_1) := (blk_cell BK202.out 1).trans rfl
                        have hcz107_2 : w52.cell? ⟨gb202, 2, none⟩ = some (.int .i64 a0_2) := (blk_cell BK202.out 2).trans rfl
                        have hfz107_0 := blk_frozen BK202.out 0
                        have hfz107_1 := blk_frozen BK202.out 1
                        have hfz107_2 := blk_frozen BK202.out 2
                        go_wp2_with (first | ((with_reducible refine gate_callee (f := 18) rfl ?_); refine goesL_ (some 39) rfl rfl Tryd.func18 (by kernel_rfl) rfl #[.agg #[.bool a1_0, .string a1_1, .int .i64 a1_2], .agg #[.bool a0_0, .string a0_1, .int .i64 a0_2]] rfl (by (try simp only [List.map_toArray, List.map_cons, List.map_nil]); first | done | rfl | (simp only [List.length_drop, List.length_take]; rfl)) ?_; (with_reducible refine (num_Compare.calls kj5 a1_0 a1_1 a1_2 a0_0 a0_1 a0_2 t212 _ A53.out).mono ?_); rintro e w108 ⟨rfl, hb⟩; refine ⟨_, rfl, ?_⟩; have n0_ := Aside0.mk (blk_below (g := gb202) (o := .cells #[.bool a0_0, .string a0_1, .int .i64 a0_2] 24 (0, 0)) (by (with_reducible repeat (first | refine blk_drewN ?_ _ | refine blk_drew ?_ | refine blk_alloc ?_ _)); exact BK202.out) hb); have n1_ := Aside0.mk (blk_below (g := gb203) (o := .cells #[.bool a1_0, .string a1_1, .int .i64 a1_2] 24 (0, 0)) (by (with_reducible repeat (first | refine blk_drewN ?_ _ | refine blk_drew ?_ | refine blk_alloc ?_ _)); exact BK203.out) hb); have n2_ := Aside0.mk (blk_below (g := gb204) (o := .cells #[.bool a2_0, .string a2_1, .int .i64 a2_2] 24 (0, 0)) (by (with_reducible repeat (first | refine blk_drewN ?_ _ | refine blk_drew ?_ | refine blk_alloc ?_ _)); exact BK204.out) hb); have n3_ := Aside0.mk (below_step (by repeat (first | (with_reducible first | exact HB.out | apply below_alloc | apply pw_below_drewN | apply below_drew1 | refine below_set ?_ GE202.out | refine below_set ?_ GE203.out | refine below_set ?_ GE204.out) | exact HB.out)) hb); clear BK202; clear BK203; clear BK204; clear HB; have BK202 := n0_; have BK203 := n1_; have BK204 := n2_; have HB := n3_; clear n0_ n1_ n2_ n3_; (try clear hb); (try clear hb2); (try clear hk); (try clear hi); have hcz109_0 : w108.cell? ⟨gb202, 0, none⟩ = some (.bool a0_0) := (blk_cell BK202.out 0).trans rfl; have hcz109_1 : w108.cell? ⟨gb202, 1, none⟩ = some (.string a0_1) := (blk_cell BK202.out 1).trans rfl; have hcz109_2 : w108.cell? ⟨gb202, 2, none⟩ = some (.int .i64 a0_2) := (blk_cell BK202.out 2).trans rfl; have hfz109_0 := blk_frozen BK202.out 0; have hfz109_1 := blk_frozen BK202.out 1; have hfz109_2 := blk_frozen BK202.out 2; have hcz110_0 : w108.cell? ⟨gb203, 0, none⟩ = some (.bool a1_0) := (blk_cell BK203.out 0).trans rfl; have hcz110_1 : w108.cell? ⟨gb203, 1, none⟩ = some (.string a1_1) := (blk_cell BK203.out 1).trans rfl; have hcz110_2 : w108.cell? ⟨gb203, 2, none⟩ = some (.int .i64 a1_2) := (blk_cell BK203.out 2).trans rfl; have hfz110_0 := blk_frozen BK203.out 0; have hfz110_1 := blk_frozen BK203.out 1; have hfz110_2 := blk_frozen BK203.out 2))
                        go_meet
                        case rel => exact ⟨_, (decide (t211 < 0)), (by first | rfl | (simp; done) | (simp [*]; done) | (simp [wrap64]; done)), H', ⟨by have := HJ5.out; first | omega | exact Nat.le_refl _⟩, ⟨by (with_reducible repeat (first | refine blk_drewN ?_ _ | refine blk_drew ?_ | refine blk_alloc ?_ _)); exact BK202.out⟩, ⟨by (with_reducible repeat (first | refine blk_drewN ?_ _ | refine blk_drew ?_ | refine blk_alloc ?_ _)); exact BK203.out⟩, ⟨by (with_reducible repeat (first | refine blk_drewN ?_ _ | refine blk_drew ?_ | refine blk_alloc ?_ _)); exact BK204.out⟩, ⟨by repeat (first | (with_reducible first | exact HB.out | apply below_alloc | apply pw_below_drewN | apply below_drew1 | refine below_set ?_ GE202.out | refine below_set ?_ GE203.out | refine below_set ?_ GE204.out) | exact HB.out)⟩⟩
                      · rw [if_neg c102] at H
                        have c102b0 : decide (0 ≤ t210) = false := decide_eq_false c102
                        clear c102
                        have H' := Aside0.mk H
                        clear H
                        have hnb111 := NB203_202.out
                        have hnc111 := NB202_203.out
                        have hnb112 := NB203_204.out
                        have hnc112 := NB204_203.out
                        have hcz113_0 : w52.cell? ⟨gb203, 0, none⟩ = some (.bool a1_0) := (blk_cell BK203.out 0).trans rfl
                        have hcz113_1 : w52.cell? ⟨gb203, 1, none⟩ = some (.string a1_1) := (blk_cell BK203.out 1).trans rfl
                        have hcz113_2 : w52.cell? ⟨gb203, 2, none⟩ = some (.int .i64 a1_2) := (blk_cell BK203.out 2).trans rfl
                        have hfz113_0 := blk_frozen BK203.out 0
                        have hfz113_1 := blk_frozen BK203.out 1
                        have hfz113_2 := blk_frozen BK203.out 2
                        have hnb114 := NB202_204.out
                        have hnc114 := NB204_202.out
                        have hcz115_0 : w52.cell? ⟨gb202, 0, none⟩ = some (.bool a0_0) := (blk_cell BK202.out 0).trans rfl
                        have hcz115_1 : w52.cell? ⟨gb202, 1, none⟩ = some (.string a0_1) := (blk_cell BK202.out 1).trans rfl
                        have hcz115_2 : w52.cell? ⟨gb202, 2, none⟩ = some (.int .i64 a0_2) := (blk_cell BK202.out 2).trans rfl
                        have hfz115_0 := blk_frozen BK202.out 0
                        have hfz115_1 := blk_frozen BK202.out 1
                        have hfz115_2 := blk_frozen BK202.out 2
                        go_wp2_with (first | ((with_reducible refine gate_callee (f := 18) rfl ?_); refine goesL_ (some 39) rfl rfl Tryd.func18 (by kernel_rfl) rfl #[.agg #[.bool a1_0, .string a1_1, .int .i64 a1_2], .agg #[.bool a0_0, .string a0_1, .int .i64 a0_2]] rfl (by (try simp only [List.map_toArray, List.map_cons, List.map_nil]); first | done | rfl | (simp only [List.length_drop, List.length_take]; rfl)) ?_; (with_reducible refine (num_Compare.calls kj5 a1_0 a1_1 a1_2 a0_0 a0_1 a0_2 t212 _ A53.out).mono ?_); rintro e w116 ⟨rfl, hb⟩; refine ⟨_, rfl, ?_⟩; have n0_ := Aside0.mk (blk_below (g := gb202) (o := .cells #[.bool a0_0, .string a0_1, .int .i64 a0_2] 24 (0, 0)) (by (with_reducible repeat (first | refine blk_drewN ?_ _ | refine blk_drew ?_ | refine blk_alloc ?_ _)); exact BK202.out) hb); have n1_ := Aside0.mk (blk_below (g := gb203) (o := .cells #[.bool a1_0, .string a1_1, .int .i64 a1_2] 24 (0, 0)) (by (with_reducible repeat (first | refine blk_drewN ?_ _ | refine blk_drew ?_ | refine blk_alloc ?_ _)); exact BK203.out) hb); have n2_ := Aside0.mk (blk_below (g := gb204) (o := .cells #[.bool a2_0, .string a2_1, .int .i64 a2_2] 24 (0, 0)) (by (with_reducible repeat (first | refine blk_drewN ?_ _ | refine blk_drew ?_ | refine blk_alloc ?_ _)); exact BK204.out) hb); have n3_ := Aside0.mk (below_step (by repeat (first | (with_reducible first | exact HB.out | apply below_alloc | apply pw_below_drewN | apply below_drew1 | refine below_set ?_ GE202.out | refine below_set ?_ GE203.out | refine below_set ?_ GE204.out) | exact HB.out)) hb); clear BK202; clear BK203; clear BK204; clear HB; have BK202 := n0_; have BK203 := n1_; have BK204 := n2_; have HB := n3_; clear n0_ n1_ n2_ n3_; (try clear hb); (try clear hb2); (try clear hk); (try clear hi); have hcz117_0 : w116.cell? ⟨gb202, 0, none⟩ = some (.bool a0_0) := (blk_cell BK202.out 0).trans rfl; have hcz117_1 : w116.cell? ⟨gb202, 1, none⟩ = some (.string a0_1) := (blk_cell BK202.out 1).trans rfl; have hcz117_2 : w116.cell? ⟨gb202, 2, none⟩ = some (.int .i64 a0_2) := (blk_cell BK202.out 2).trans rfl; have hfz117_0 := blk_frozen BK202.out 0; have hfz117_1 := blk_frozen BK202.out 1; have hfz117_2 := blk_frozen BK202.out 2; have hcz118_0 : w116.cell? ⟨gb203, 0, none⟩ = some (.bool a1_0) := (blk_cell BK203.out 0).trans rfl; have hcz118_1 : w116.cell? ⟨gb203, 1, none⟩ = some (.string a1_1) := (blk_cell BK203.out 1).trans rfl; have hcz118_2 : w116.cell? ⟨gb203, 2, none⟩ = some (.int .i64 a1_2) := (blk_cell BK203.out 2).trans rfl; have hfz118_0 := blk_frozen BK203.out 0; have hfz118_1 := blk_frozen BK203.out 1; have hfz118_2 := blk_frozen BK203.out 2))
                        go_meet
                        case rel => exact ⟨_, (false), (by first | rfl | (simp; done) | (simp [*]; done) | (simp [wrap64]; done)), H', ⟨by have := HJ5.out; first | omega | exact Nat.le_refl _⟩, ⟨by (with_reducible repeat (first | refine blk_drewN ?_ _ | refine blk_drew ?_ | refine blk_alloc ?_ _)); exact BK202.out⟩, ⟨by (with_reducible repeat (first | refine blk_drewN ?_ _ | refine blk_drew ?_ | refine blk_alloc ?_ _)); exact BK203.out⟩, ⟨by (with_reducible repeat (first | refine blk_drewN ?_ _ | refine blk_drew ?_ | refine blk_alloc ?_ _)); exact BK204.out⟩, ⟨by repeat (first | (with_reducible first | exact HB.out | apply below_alloc | apply pw_below_drewN | apply below_drew1 | refine below_set ?_ GE202.out | refine below_set ?_ GE203.out | refine below_set ?_ GE204.out) | exact HB.out)⟩⟩
                    · rw [if_neg c101] at H
                      have c101b0 : decide (0 ≤ t209) = false := decide_eq_false c101
                      clear c101
                      have H' := Aside0.mk H
                      clear H
                      have hnb119 := NB203_202.out
                      have hnc119 := NB202_203.out
                      have hnb120 := NB203_204.out
                      have hnc120 := NB204_203.out
                      have hcz121_0 : w52.cell? ⟨gb203, 0, none⟩ = some (.bool a1_0) := (blk_cell BK203.out 0).trans rfl
                      have hcz121_1 : w52.cell? ⟨gb203, 1, none⟩ = some (.string a1_1) := (blk_cell BK203.out 1).trans rfl
                      have hcz121_2 : w52.cell? ⟨gb203, 2, none⟩ = some (.int .i64 a1_2) := (blk_cell BK203.out 2).trans rfl
                      have hfz121_0 := blk_frozen BK203.out 0
                      have hfz121_1 := blk_frozen BK203.out 1
                      have hfz121_2 := blk_frozen BK203.out 2
                      have hnb122 := NB202_204.out
                      have hnc122 := NB204_202.out
                      have hcz123_0 : w52.cell? ⟨gb202, 0, none⟩ = some (.bool a0_0) := (blk_cell BK202.out 0).trans rfl
                      have hcz123_1 : w52.cell? ⟨gb202, 1, none⟩ = some (.string a0_1) := (blk_cell BK202.out 1).trans rfl
                      have hcz123_2 : w52.cell? ⟨gb202, 2, none⟩ = some (.int .i64 a0_2) := (blk_cell BK202.out 2).trans rfl
                      have hfz123_0 := blk_frozen BK202.out 0
                      have hfz123_1 := blk_frozen BK202.out 1
                      have hfz123_2 := blk_frozen BK202.out 2
                      go_wp2_with (first | ((with_reducible refine gate_callee (f := 18) rfl ?_); refine goesL_ (some 39) rfl rfl Tryd.func18 (by kernel_rfl) rfl #[.agg #[.bool a1_0, .string a1_1, .int .i64 a1_2], .agg #[.bool a0_0, .string a0_1, .int .i64 a0_2]] rfl (by (try simp only [List.map_toArray, List.map_cons, List.map_nil]); first | done | rfl | (simp only [List.length_drop, List.length_take]; rfl)) ?_; (with_reducible refine (num_Compare.calls kj5 a1_0 a1_1 a1_2 a0_0 a0_1 a0_2 t212 _ A53.out).mono ?_); rintro e w124 ⟨rfl, hb⟩; refine ⟨_, rfl, ?_⟩; have n0_ := Aside0.mk (blk_below (g := gb202) (o := .cells #[.bool a0_0, .string a0_1, .int .i64 a0_2] 24 (0, 0)) (by (with_reducible repeat (first | refine blk_drewN ?_ _ | refine blk_drew ?_ | refine blk_alloc ?_ _)); exact BK202.out) hb); have n1_ := Aside0.mk (blk_below (g := gb203) (o := .cells #[.bool a1_0, .string a1_1, .int .i64 a1_2] 24 (0, 0)) (by (with_reducible repeat (first | refine blk_drewN ?_ _ | refine blk_drew ?_ | refine blk_alloc ?_ _)); exact BK203.out) hb); have n2_ := Aside0.mk (blk_below (g := gb204) (o := .cells #[.bool a2_0, .string a2_1, .int .i64 a2_2] 24 (0, 0)) (by (with_reducible repeat (first | refine blk_drewN ?_ _ | refine blk_drew ?_ | refine blk_alloc ?_ _)); exact BK204.out) hb); have n3_ := Aside0.mk (below_step (by repeat (first | (with_reducible first | exact HB.out | apply below_alloc | apply pw_below_drewN | apply below_drew1 | refine below_set ?_ GE202.out | refine below_set ?_ GE203.out | refine below_set ?_ GE204.out) | exact HB.out)) hb); clear BK202; clear BK203; clear BK204; clear HB; have BK202 := n0_; have BK203 := n1_; have BK204 := n2_; have HB := n3_; clear n0_ n1_ n2_ n3_; (try clear hb); (try clear hb2); (try clear hk); (try clear hi); have hcz125_0 : w124.cell? ⟨gb202, 0, none⟩ = some (.bool a0_0) := (blk_cell BK202.out 0).trans rfl; have hcz125_1 : w124.cell? ⟨gb202, 1, none⟩ = some (.string a0_1) := (blk_cell BK202.out 1).trans rfl; have hcz125_2 : w124.cell? ⟨gb202, 2, none⟩ = some (.int .i64 a0_2) := (blk_cell BK202.out 2).trans rfl; have hfz125_0 := blk_frozen BK202.out 0; have hfz125_1 := blk_frozen BK202.out 1; have hfz125_2 := blk_frozen BK202.out 2; have hcz126_0 : w124.cell? ⟨gb203, 0, none⟩ = some (.bool a1_0) := (blk_cell BK203.out 0).trans rfl; have hcz126_1 : w124.cell? ⟨gb203, 1, none⟩ = some (.string a1_1) := (blk_cell BK203.out 1).trans rfl; have hcz126_2 : w124.cell? ⟨gb203, 2, none⟩ = some (.int .i64 a1_2) := (blk_cell BK203.out 2).trans rfl; have hfz126_0 := blk_frozen BK203.out 0; have hfz126_1 := blk_frozen BK203.out 1; have hfz126_2 := blk_frozen BK203.out 2))
                      go_meet
                      case rel => exact ⟨_, (false), (by first | rfl | (simp; done) | (simp [*]; done) | (simp [wrap64]; done)), H', ⟨by have := HJ5.out; first | omega | exact Nat.le_refl _⟩, ⟨by (with_reducible repeat (first | refine blk_drewN ?_ _ | refine blk_drew ?_ | refine blk_alloc ?_ _)); exact BK202.out⟩, ⟨by (with_reducible repeat (first | refine blk_drewN ?_ _ | refine blk_drew ?_ | refine blk_alloc ?_ _)); exact BK203.out⟩, ⟨by (with_reducible repeat (first | refine blk_drewN ?_ _ | refine blk_drew ?_ | refine blk_alloc ?_ _)); exact BK204.out⟩, ⟨by repeat (first | (with_reducible first | exact HB.out | apply below_alloc | apply pw_below_drewN | apply below_drew1 | refine below_set ?_ GE202.out | refine below_set ?_ GE203.out | refine below_set ?_ GE204.out) | exact HB.out)⟩⟩
                · rw [if_neg c64] at H
                  have c64b0 : decide (t209 ≤ 0) = false := decide_eq_false c64
                  clear c64
                  by_cases c127 : t209 ≥ 0
                  · rw [if_pos c127] at H
                    have c127b0 : decide (0 ≤ t209) = true := decide_eq_true c127
                    clear c127
                    by_cases c128 : t210 ≥ 0
                    · rw [if_pos c128] at H
                      have c128b0 : decide (0 ≤ t210) = true := decide_eq_true c128
                      clear c128
                      have H' := Aside0.mk H
                      clear H
                      have hnb129 := NB203_202.out
                      have hnc129 := NB202_203.out
                      have hnb130 := NB203_204.out
                      have hnc130 := NB204_203.out
                      have hcz131_0 : w52.cell? ⟨gb203, 0, none⟩ = some (.bool a1_0) := (blk_cell BK203.out 0).trans rfl
                      have hcz131_1 : w52.cell? ⟨gb203, 1, none⟩ = some (.string a1_1) := (blk_cell BK203.out 1).trans rfl
                      have hcz131_2 : w52.cell? ⟨gb203, 2, none⟩ = some (.int .i64 a1_2) := (blk_cell BK203.out 2).trans rfl
                      have hfz131_0 := blk_frozen BK203.out 0
                      have hfz131_1 := blk_frozen BK203.out 1
                      have hfz131_2 := blk_frozen BK203.out 2
                      have hnb132 := NB202_204.out
                      have hnc132 := NB204_202.out
                      have hcz133_0 : w52.cell? ⟨gb202, 0, none⟩ = some (.bool a0_0) := (blk_cell BK202.out 0).trans rfl
                      have hcz133_1 : w52.cell? ⟨gb202, 1, none⟩ = some (.string a0_1) := (blk_cell BK202.out 1).trans rfl
                      have hcz133_2 : w52.cell? ⟨gb202, 2, none⟩ = some (.int .i64 a0_2) := (blk_cell BK202.out 2).trans rfl
                      have hfz133_0 := blk_frozen BK202.out 0
                      have hfz133_1 := blk_frozen BK202.out 1
                      have hfz133_2 := blk_frozen BK202.out 2
                      go_wp2_with (first | ((with_reducible refine gate_callee (f := 18) rfl ?_); refine goesL_ (some 39) rfl rfl Tryd.func18 (by kernel_rfl) rfl #[.agg #[.bool a1_0, .string a1_1, .int .i64 a1_2], .agg #[.bool a0_0, .string a0_1, .int .i64 a0_2]] rfl (by (try simp only [List.map_toArray, List.map_cons, List.map_nil]); first | done | rfl | (simp only [List.length_drop, List.length_take]; rfl)) ?_; (with_reducible refine (num_Compare.calls kj5 a1_0 a1_1 a1_2 a0_0 a0_1 a0_2 t212 _ A53.out).mono ?_); rintro e w134 ⟨rfl, hb⟩; refine ⟨_, rfl, ?_⟩; have n0_ := Aside0.mk (blk_below (g := gb202) (o := .cells #[.bool a0_0, .string a0_1, .int .i64 a0_2] 24 (0, 0)) (by (with_reducible repeat (first | refine blk_drewN ?_ _ | refine blk_drew ?_ | refine blk_alloc ?_ _)); exact BK202.out) hb); have n1_ := Aside0.mk (blk_below (g := gb203) (o := .cells #[.bool a1_0, .string a1_1, .int .i64 a1_2] 24 (0, 0)) (by (with_reducible repeat (first | refine blk_drewN ?_ _ | refine blk_drew ?_ | refine blk_alloc ?_ _)); exact BK203.out) hb); have n2_ := Aside0.mk (blk_below (g := gb204) (o := .cells #[.bool a2_0, .string a2_1, .int .i64 a2_2] 24 (0, 0)) (by (with_reducible repeat (first | refine blk_drewN ?_ _ | refine blk_drew ?_ | refine blk_alloc ?_ _)); exact BK204.out) hb); have n3_ := Aside0.mk (below_step (by repeat (first | (with_reducible first | exact HB.out | apply below_alloc | apply pw_below_drewN | apply below_drew1 | refine below_set ?_ GE202.out | refine below_set ?_ GE203.out | refine below_set ?_ GE204.out) | exact HB.out)) hb); clear BK202; clear BK203; clear BK204; clear HB; have BK202 := n0_; have BK203 := n1_; have BK204 := n2_; have HB := n3_; clear n0_ n1_ n2_ n3_; (try clear hb); (try clear hb2); (try clear hk); (try clear hi); have hcz135_0 : w134.cell? ⟨gb202, 0, none⟩ = some (.bool a0_0) := (blk_cell BK202.out 0).trans rfl; have hcz135_1 : w134.cell? ⟨gb202, 1, none⟩ = some (.string a0_1) := (blk_cell BK202.out 1).trans rfl; have hcz135_2 : w134.cell? ⟨gb202, 2, none⟩ = some (.int .i64 a0_2) := (blk_cell BK202.out 2).trans rfl; have hfz135_0 := blk_frozen BK202.out 0; have hfz135_1 := blk_frozen BK202.out 1; have hfz135_2 := blk_frozen BK202.out 2; have hcz136_0 : w134.cell? ⟨gb203, 0, none⟩ = some (.bool a1_0) := (blk_cell BK203.out 0).trans rfl; have hcz136_1 : w134.cell? ⟨gb203, 1, none⟩ = some (.string a1_1) := (blk_cell BK203.out 1).trans rfl; have hcz136_2 : w134.cell? ⟨gb203, 2, none⟩ = some (.int .i64 a1_2) := (blk_cell BK203.out 2).trans rfl; have hfz136_0 := blk_frozen BK203.out 0; have hfz136_1 := blk_frozen BK203.out 1; have hfz136_2 := blk_frozen BK203.out 2))
                      go_meet
                      case rel => exact ⟨_, (decide (t211 < 0)), (by first | rfl | (simp; done) | (simp [*]; done) | (simp [wrap64]; done)), H', ⟨by have := HJ5.out; first | omega | exact Nat.le_refl _⟩, ⟨by (with_reducible repeat (first | refine blk_drewN ?_ _ | refine blk_drew ?_ | refine blk_alloc ?_ _)); exact BK202.out⟩, ⟨by (with_reducible repeat (first | refine blk_drewN ?_ _ | refine blk_drew ?_ | refine blk_alloc ?_ _)); exact BK203.out⟩, ⟨by (with_reducible repeat (first | refine blk_drewN ?_ _ | refine blk_drew ?_ | refine blk_alloc ?_ _)); exact BK204.out⟩, ⟨by repeat (first | (with_reducible first | exact HB.out | apply below_alloc | apply pw_below_drewN | apply below_drew1 | refine below_set ?_ GE202.out | refine below_set ?_ GE203.out | refine below_set ?_ GE204.out) | exact HB.out)⟩⟩
                    · rw [if_neg c128] at H
                      have c128b0 : decide (0 ≤ t210) = false := decide_eq_false c128
                      clear c128
                      have H' := Aside0.mk H
                      clear H
                      have hnb137 := NB203_202.out
                      have hnc137 := NB202_203.out
                      have hnb138 := NB203_204.out
                      have hnc138 := NB204_203.out
                      have hcz139_0 : w52.cell? ⟨gb203, 0, none⟩ = some (.bool a1_0) := (blk_cell BK203.out 0).trans rfl
                      have hcz139_1 : w52.cell? ⟨gb203, 1, none⟩ = some (.string a1_1) := (blk_cell BK203.out 1).trans rfl
                      have hcz139_2 : w52.cell? ⟨gb203, 2, none⟩ = some (.int .i64 a1_2) := (blk_cell BK203.out 2).trans rfl
                      have hfz139_0 := blk_frozen BK203.out 0
                      have hfz139_1 := blk_frozen BK203.out 1
                      have hfz139_2 := blk_frozen BK203.out 2
                      have hnb140 := NB202_204.out
                      have hnc140 := NB204_202.out
                      have hcz141_0 : w52.cell? ⟨gb202, 0, none⟩ = some (.bool a0_0) := (blk_cell BK202.out 0).trans rfl
                      have hcz141_1 : w52.cell? ⟨gb202, 1, none⟩ = some (.string a0_1) := (blk_cell BK202.out 1).trans rfl
                      have hcz141_2 : w52.cell? ⟨gb202, 2, none⟩ = some (.int .i64 a0_2) := (blk_cell BK202.out 2).trans rfl
                      have hfz141_0 := blk_frozen BK202.out 0
                      have hfz141_1 := blk_frozen BK202.out 1
                      have hfz141_2 := blk_frozen BK202.out 2
                      go_wp2_with (first | ((with_reducible refine gate_callee (f := 18) rfl ?_); refine goesL_ (some 39) rfl rfl Tryd.func18 (by kernel_rfl) rfl #[.agg #[.bool a1_0, .string a1_1, .int .i64 a1_2], .agg #[.bool a0_0, .string a0_1, .int .i64 a0_2]] rfl (by (try simp only [List.map_toArray, List.map_cons, List.map_nil]); first | done | rfl | (simp only [List.length_drop, List.length_take]; rfl)) ?_; (with_reducible refine (num_Compare.calls kj5 a1_0 a1_1 a1_2 a0_0 a0_1 a0_2 t212 _ A53.out).mono ?_); rintro e w142 ⟨rfl, hb⟩; refine ⟨_, rfl, ?_⟩; have n0_ := Aside0.mk (blk_below (g := gb202) (o := .cells #[.bool a0_0, .string a0_1, .int .i64 a0_2] 24 (0, 0)) (by (with_reducible repeat (first | refine blk_drewN ?_ _ | refine blk_drew ?_ | refine blk_alloc ?_ _)); exact BK202.out) hb); have n1_ := Aside0.mk (blk_below (g := gb203) (o := .cells #[.bool a1_0, .string a1_1, .int .i64 a1_2] 24 (0, 0)) (by (with_reducible repeat (first | refine blk_drewN ?_ _ | refine blk_drew ?_ | refine blk_alloc ?_ _)); exact BK203.out) hb); have n2_ := Aside0.mk (blk_below (g := gb204) (o := .cells #[.bool a2_0, .string a2_1, .int .i64 a2_2] 24 (0, 0)) (by (with_reducible repeat (first | refine blk_drewN ?_ _ | refine blk_drew ?_ | refine blk_alloc ?_ _)); exact BK204.out) hb); have n3_ := Aside0.mk (below_step (by repeat (first | (with_reducible first | exact HB.out | apply below_alloc | apply pw_below_drewN | apply below_drew1 | refine below_set ?_ GE202.out | refine below_set ?_ GE203.out | refine below_set ?_ GE204.out) | exact HB.out)) hb); clear BK202; clear BK203; clear BK204; clear HB; have BK202 := n0_; have BK203 := n1_; have BK204 := n2_; have HB := n3_; clear n0_ n1_ n2_ n3_; (try clear hb); (try clear hb2); (try clear hk); (try clear hi); have hcz143_0 : w142.cell? ⟨gb202, 0, none⟩ = some (.bool a0_0) := (blk_cell BK202.out 0).trans rfl; have hcz143_1 : w142.cell? ⟨gb202, 1, none⟩ = some (.string a0_1) := (blk_cell BK202.out 1).trans rfl; have hcz143_2 : w142.cell? ⟨gb202, 2, none⟩ = some (.int .i64 a0_2) := (blk_cell BK202.out 2).trans rfl; have hfz143_0 := blk_frozen BK202.out 0; have hfz143_1 := blk_frozen BK202.out 1; have hfz143_2 := blk_frozen BK202.out 2; have hcz144_0 : w142.cell? ⟨gb203, 0, none⟩ = some (.bool a1_0) := (blk_cell BK203.out 0).trans rfl; have hcz144_1 : w142.cell? ⟨gb203, 1, none⟩ = some (.string a1_1) := (blk_cell BK203.out 1).trans rfl; have hcz144_2 : w142.cell? ⟨gb203, 2, none⟩ = some (.int .i64 a1_2) := (blk_cell BK203.out 2).trans rfl; have hfz144_0 := blk_frozen BK203.out 0; have hfz144_1 := blk_frozen BK203.out 1; have hfz144_2 := blk_frozen BK203.out 2))
                      go_meet
                      case rel => exact ⟨_, (false), (by first | rfl | (simp; done) | (simp [*]; done) | (simp [wrap64]; done)), H', ⟨by have := HJ5.out; first | omega | exact Nat.le_refl _⟩, ⟨by (with_reducible repeat (first | refine blk_drewN ?_ _ | refine blk_drew ?_ | refine blk_alloc ?_ _)); exact BK202.out⟩, ⟨by (with_reducible repeat (first | refine blk_drewN ?_ _ | refine blk_drew ?_ | refine blk_alloc ?_ _)); exact BK203.out⟩, ⟨by (with_reducible repeat (first | refine blk_drewN ?_ _ | refine blk_drew ?_ | refine blk_alloc ?_ _)); exact BK204.out⟩, ⟨by repeat (first | (with_reducible first | exact HB.out | apply below_alloc | apply pw_below_drewN | apply below_drew1 | refine below_set ?_ GE202.out | refine below_set ?_ GE203.out | refine below_set ?_ GE204.out) | exact HB.out)⟩⟩
                  · rw [if_neg c127] at H
                    have c127b0 : decide (0 ≤ t209) = false := decide_eq_false c127
                    clear c127
                    have H' := Aside0.mk H
                    clear H
                    have hnb145 := NB203_202.out
                    have hnc145 := NB202_203.out
                    have hnb146 := NB203_204.out
                    have hnc146 := NB204_203.out
                    have hcz147_0 : w52.cell? ⟨gb203, 0, none⟩ = some (.bool a1_0) := (blk_cell BK203.out 0).trans rfl
                    have hcz147_1 : w52.cell? ⟨gb203, 1, none⟩ = some (.string a1_1) := (blk_cell BK203.out 1).trans rfl
                    have hcz147_2 : w52.cell? ⟨gb203, 2, none⟩ = some (.int .i64 a1_2) := (blk_cell BK203.out 2).trans rfl
                    have hfz147_0 := blk_frozen BK203.out 0
                    have hfz147_1 := blk_frozen BK203.out 1
                    have hfz147_2 := blk_frozen BK203.out 2
                    have hnb148 := NB202_204.out
                    have hnc148 := NB204_202.out
                    have hcz149_0 : w52.cell? ⟨gb202, 0, none⟩ = some (.bool a0_0) := (blk_cell BK202.out 0).trans rfl
                    have hcz149_1 : w52.cell? ⟨gb202, 1, none⟩ = some (.string a0_1) := (blk_cell BK202.out 1).trans rfl
                    have hcz149_2 : w52.cell? ⟨gb202, 2, none⟩ = some (.int .i64 a0_2) := (blk_cell BK202.out 2).trans rfl
                    have hfz149_0 := blk_frozen BK202.out 0
                    have hfz149_1 := blk_frozen BK202.out 1
                    have hfz149_2 := blk_frozen BK202.out 2
                    go_wp2_with (first | ((with_reducible refine gate_callee (f := 18) rfl ?_); refine goesL_ (some 39) rfl rfl Tryd.func18 (by kernel_rfl) rfl #[.agg #[.bool a1_0, .string a1_1, .int .i64 a1_2], .agg #[.bool a0_0, .string a0_1, .int .i64 a0_2]] rfl (by (try simp only [List.map_toArray, List.map_cons, List.map_nil]); first | done | rfl | (simp only [List.length_drop, List.length_take]; rfl)) ?_; (with_reducible refine (num_Compare.calls kj5 a1_0 a1_1 a1_2 a0_0 a0_1 a0_2 t212 _ A53.out).mono ?_); rintro e w150 ⟨rfl, hb⟩; refine ⟨_, rfl, ?_⟩; have n0_ := Aside0.mk (blk_below (g := gb202) (o := .cells #[.bool a0_0, .string a0_1, .int .i64 a0_2] 24 (0, 0)) (by (with_reducible repeat (first | refine blk_drewN ?_ _ | refine blk_drew ?_ | refine blk_alloc ?_ _)); exact BK202.out) hb); have n1_ := Aside0.mk (blk_below (g := gb203) (o := .cells #[.bool a1_0, .string a1_1, .int .i64 a1_2] 24 (0, 0)) (by (with_reducible repeat (first | refine blk_drewN ?_ _ | refine blk_drew ?_ | refine blk_alloc ?_ _)); exact BK203.out) hb); have n2_ := Aside0.mk (blk_below (g := gb204) (o := .cells #[.bool a2_0, .string a2_1, .int .i64 a2_2] 24 (0, 0)) (by (with_reducible repeat (first | refine blk_drewN ?_ _ | refine blk_drew ?_ | refine blk_alloc ?_ _)); exact BK204.out) hb); have n3_ := Aside0.mk (below_step (by repeat (first | (with_reducible first | exact HB.out | apply below_alloc | apply pw_below_drewN | apply below_drew1 | refine below_set ?_ GE202.out | refine below_set ?_ GE203.out | refine below_set ?_ GE204.out) | exact HB.out)) hb); clear BK202; clear BK203; clear BK204; clear HB; have BK202 := n0_; have BK203 := n1_; have BK204 := n2_; have HB := n3_; clear n0_ n1_ n2_ n3_; (try clear hb); (try clear hb2); (try clear hk); (try clear hi); have hcz151_0 : w150.cell? ⟨gb202, 0, none⟩ = some (.bool a0_0) := (blk_cell BK202.out 0).trans rfl; have hcz151_1 : w150.cell? ⟨gb202, 1, none⟩ = some (.string a0_1) := (blk_cell BK202.out 1).trans rfl; have hcz151_2 : w150.cell? ⟨gb202, 2, none⟩ = some (.int .i64 a0_2) := (blk_cell BK202.out 2).trans rfl; have hfz151_0 := blk_frozen BK202.out 0; have hfz151_1 := blk_frozen BK202.out 1; have hfz151_2 := blk_frozen BK202.out 2; have hcz152_0 : w150.cell? ⟨gb203, 0, none⟩ = some (.bool a1_0) := (blk_cell BK203.out 0).trans rfl; have hcz152_1 : w150.cell? ⟨gb203, 1, none⟩ = some (.string a1_1) := (blk_cell BK203.out 1).trans rfl; have hcz152_2 : w150.cell? ⟨gb203, 2, none⟩ = some (.int .i64 a1_2) := (blk_cell BK203.out 2).trans rfl; have hfz152_0 := blk_frozen BK203.out 0; have hfz152_1 := blk_frozen BK203.out 1; have hfz152_2 := blk_frozen BK203.out 2))
                    go_meet
                    case rel => exact ⟨_, (false), (by first | rfl | (simp; done) | (simp [*]; done) | (simp [wrap64]; done)), H', ⟨by have := HJ5.out; first | omega | exact Nat.le_refl _⟩, ⟨by (with_reducible repeat (first | refine blk_drewN ?_ _ | refine blk_drew ?_ | refine blk_alloc ?_ _)); exact BK202.out⟩, ⟨by (with_reducible repeat (first | refine blk_drewN ?_ _ | refine blk_drew ?_ | refine blk_alloc ?_ _)); exact BK203.out⟩, ⟨by (with_reducible repeat (first | refine blk_drewN ?_ _ | refine blk_drew ?_ | refine blk_alloc ?_ _)); exact BK204.out⟩, ⟨by repeat (first | (with_reducible first | exact HB.out | apply below_alloc | apply pw_below_drewN | apply below_drew1 | refine below_set ?_ GE202.out | refine below_set ?_ GE203.out | refine below_set ?_ GE204.out) | exact HB.out)⟩⟩
            · rw [if_neg c54] at H
              have c54b0 : (t209 == (wrap64 (-t212))) = false := beq_eq_false_iff_ne.mpr c54
              have c54b1 : (t209 != (wrap64 (-t212))) = true := bne_iff_ne.mpr c54
              (first | rw [c54b0] | (simp only [i64_w, i32_w]; rw [c54b0]) | skip)
              have H' := Aside0.mk H
              clear H
              have hnb153 := NB203_202.out
              have hnc153 := NB202_203.out
              have hnb154 := NB203_204.out
              have hnc154 := NB204_203.out
              have hcz155_0 : w52.cell? ⟨gb203, 0, none⟩ = some (.bool a1_0) := (blk_cell BK203.out 0).trans rfl
              have hcz155_1 : w52.cell? ⟨gb203, 1, none⟩ = some (.string a1_1) := (blk_cell BK203.out 1).trans rfl
              have hcz155_2 : w52.cell? ⟨gb203, 2, none⟩ = some (.int .i64 a1_2) := (blk_cell BK203.out 2).trans rfl
              have hfz155_0 := blk_frozen BK203.out 0
              have hfz155_1 := blk_frozen BK203.out 1
              have hfz155_2 := blk_frozen BK203.out 2
              have hnb156 := NB202_204.out
              have hnc156 := NB204_202.out
              have hcz157_0 : w52.cell? ⟨gb202, 0, none⟩ = some (.bool a0_0) := (blk_cell BK202.out 0).trans rfl
              have hcz157_1 : w52.cell? ⟨gb202, 1, none⟩ = some (.string a0_1) := (blk_cell BK202.out 1).trans rfl
              have hcz157_2 : w52.cell? ⟨gb202, 2, none⟩ = some (.int .i64 a0_2) := (blk_cell BK202.out 2).trans rfl
              have hfz157_0 := blk_frozen BK202.out 0
              have hfz157_1 := blk_frozen BK202.out 1
              have hfz157_2 := blk_frozen BK202.out 2
              go_wp2_with (first | ((with_reducible refine gate_callee (f := 18) rfl ?_); refine goesL_ (some 39) rfl rfl Tryd.func18 (by kernel_rfl) rfl #[.agg #[.bool a1_0, .string a1_1, .int .i64 a1_2], .agg #[.bool a0_0, .string a0_1, .int .i64 a0_2]] rfl (by (try simp only [List.map_toArray, List.map_cons, List.map_nil]); first | done | rfl | (simp only [List.length_drop, List.length_take]; rfl)) ?_; (with_reducible refine (num_Compare.calls kj5 a1_0 a1_1 a1_2 a0_0 a0_1 a0_2 t212 _ A53.out).mono ?_); rintro e w158 ⟨rfl, hb⟩; refine ⟨_, rfl, ?_⟩; have n0_ := Aside0.mk (blk_below (g := gb202) (o := .cells #[.bool a0_0, .string a0_1, .int .i64 a0_2] 24 (0, 0)) (by (with_reducible repeat (first | refine blk_drewN ?_ _ | refine blk_drew ?_ | refine blk_alloc ?_ _)); exact BK202.out) hb); have n1_ := Aside0.mk (blk_below (g := gb203) (o := .cells #[.bool a1_0, .string a1_1, .int .i64 a1_2] 24 (0, 0)) (by (with_reducible repeat (first | refine blk_drewN ?_ _ | refine blk_drew ?_ | refine blk_alloc ?_ _)); exact BK203.out) hb); have n2_ := Aside0.mk (blk_below (g := gb204) (o := .cells #[.bool a2_0, .string a2_1, .int .i64 a2_2] 24 (0, 0)) (by (with_reducible repeat (first | refine blk_drewN ?_ _ | refine blk_drew ?_ | refine blk_alloc ?_ _)); exact BK204.out) hb); have n3_ := Aside0.mk (below_step (by repeat (first | (with_reducible first | exact HB.out | apply below_alloc | apply pw_below_drewN | apply below_drew1 | refine below_set ?_ GE202.out | refine below_set ?_ GE203.out | refine below_set ?_ GE204.out) | exact HB.out)) hb); clear BK202; clear BK203; clear BK204; clear HB; have BK202 := n0_; have BK203 := n1_; have BK204 := n2_; have HB := n3_; clear n0_ n1_ n2_ n3_; (try clear hb); (try clear hb2); (try clear hk); (try clear hi)))
              go_meet
              case rel => exact ⟨_, (true), (by first | rfl | (simp; done) | (simp [*]; done) | (simp [wrap64]; done)), H', ⟨by have := HJ5.out; first | omega | exact Nat.le_refl _⟩, ⟨by (with_reducible repeat (first | refine blk_drewN ?_ _ | refine blk_drew ?_ | refine blk_alloc ?_ _)); exact BK202.out⟩, ⟨by (with_reducible repeat (first | refine blk_drewN ?_ _ | refine blk_drew ?_ | refine blk_alloc ?_ _)); exact BK203.out⟩, ⟨by (with_reducible repeat (first | refine blk_drewN ?_ _ | refine blk_drew ?_ | refine blk_alloc ?_ _)); exact BK204.out⟩, ⟨by repeat (first | (with_reducible first | exact HB.out | apply below_alloc | apply pw_below_drewN | apply below_drew1 | refine below_set ?_ GE202.out | refine below_set ?_ GE203.out | refine below_set ?_ GE204.out) | exact HB.out)⟩⟩
          case rest =>
            clear HC40
            try clear c1
            try clear c2
            try clear p2
            try clear c3
            try clear c4
            try clear c5
            try clear c6
            try clear p6
            try clear c7
            try clear c8
            try clear c9
            try clear c10
            try clear c11
            try clear c12
            try clear c13
            try clear c14
            try clear c15
            try clear c16
            try clear c17
            try clear c18
            try clear c20
            try clear c25
            try clear c26
            try clear c29
            try clear c32
            try clear c33
            try clear c36
            try clear c41
            try clear c42
            try clear c44
            try clear c54
            try clear c54b0
            try clear c54b1
            try clear c55
            try clear c55b0
            try clear c55b1
            try clear c55b2
            try clear c56
            try clear c57
            try clear c59
            try clear c64
            try clear c64b0
            try clear p64
            try clear c65
            try clear c65b0
            try clear c66
            try clear c66b0
            try clear c67
            try clear c68
            try clear c70
            try clear c75
            try clear c75b0
            try clear c76
            try clear c76b0
            try clear c77
            try clear c78
            try clear c80
            try clear c85
            try clear c86
            try clear c88
            try clear c93
            try clear c94
            try clear c96
            try clear c101
            try clear c101b0
            try clear c102
            try clear c102b0
            try clear c103
            try clear c104
            try clear c106
            try clear c111
            try clear c112
            try clear c114
            try clear c119
            try clear c120
            try clear c122
            try clear c127
            try clear c127b0
            try clear c128
            try clear c128b0
            try clear c129
            try clear c130
            try clear c132
            try clear c137
            try clear c138
            try clear c140
            try clear c145
            try clear c146
            try clear c148
            try clear c153
            try clear c154
            try clear c156
            try clear hcz100_0
            try clear hcz100_1
            try clear hcz100_2
            try clear hcz105_0
            try clear hcz105_1
            try clear hcz105_2
            try clear hcz107_0
            try clear hcz107_1
            try clear hcz107_2
            try clear hcz109_0
            try clear hcz109_1
            try clear hcz109_2
            try clear hcz110_0
            try clear hcz110_1
            try clear hcz110_2
            try clear hcz113_0
            try clear hcz113_1
            try clear hcz113_2
            try clear hcz115_0
            try clear hcz115_1
            try clear hcz115_2
            try clear hcz117_0
            try clear hcz117_1
            try clear hcz117_2
            try clear hcz118_0
            try clear hcz118_1
            try clear hcz118_2
            try clear hcz121_0
            try clear hcz121_1
            try clear hcz121_2
            try clear hcz123_0
            try clear hcz123_1
            try clear hcz123_2
            try clear hcz125_0
            try clear hcz125_1
            try clear hcz125_2
            try clear hcz126_0
            try clear hcz126_1
            try clear hcz126_2
            try clear hcz131_0
            try clear hcz131_1
            try clear hcz131_2
            try clear hcz133_0
            try clear hcz133_1
            try clear hcz133_2
            try clear hcz135_0
            try clear hcz135_1
            try clear hcz135_2
            try clear hcz136_0
            try clear hcz136_1
            try clear hcz136_2
            try clear hcz139_0
            try clear hcz139_1
            try clear hcz139_2
            try clear hcz141_0
            try clear hcz141_1
            try clear hcz141_2
            try clear hcz143_0
            try clear hcz143_1
            try clear hcz143_2
            try clear hcz144_0
            try clear hcz144_1
            try clear hcz144_2
            try clear hcz147_0
            try clear hcz147_1
            try clear hcz147_2
            try clear hcz149_0
            try clear hcz149_1
            try clear hcz149_2
            try clear hcz151_0
            try clear hcz151_1
            try clear hcz151_2
            try clear hcz152_0
            try clear hcz152_1
            try clear hcz152_2
            try clear hcz155_0
            try clear hcz155_1
            try clear hcz155_2
            try clear hcz157_0
            try clear hcz157_1
            try clear hcz157_2
            try clear hcz18_0
            try clear hcz18_1
            try clear hcz18_2
            try clear hcz21_0
            try clear hcz21_1
            try clear hcz21_2
            try clear hcz23_0
            try clear hcz23_1
            try clear hcz23_2
            try clear hcz27_0
            try clear hcz27_1
            try clear hcz27_2
            try clear hcz30_0
            try clear hcz30_1
            try clear hcz30_2
            try clear hcz34_0
            try clear hcz34_1
            try clear hcz34_2
            try clear hcz43_0
            try clear hcz43_1
            try clear hcz43_2
            try clear hcz45_0
            try clear hcz45_1
            try clear hcz45_2
            try clear hcz47_0
            try clear hcz47_1
            try clear hcz47_2
            try clear hcz48_0
            try clear hcz48_1
            try clear hcz48_2
            try clear hcz50_0
            try clear hcz50_1
            try clear hcz50_2
            try clear hcz51_0
            try clear hcz51_1
            try clear hcz51_2
            try clear hcz58_0
            try clear hcz58_1
            try clear hcz58_2
            try clear hcz60_0
            try clear hcz60_1
            try clear hcz60_2
            try clear hcz62_0
            try clear hcz62_1
            try clear hcz62_2
            try clear hcz63_0
            try clear hcz63_1
            try clear hcz63_2
            try clear hcz69_0
            try clear hcz69_1
            try clear hcz69_2
            try clear hcz71_0
            try clear hcz71_1
            try clear hcz71_2
            try clear hcz73_0
            try clear hcz73_1
            try clear hcz73_2
            try clear hcz74_0
            try clear hcz74_1
            try clear hcz74_2
            try clear hcz79_0
            try clear hcz79_1
            try clear hcz79_2
            try clear hcz81_0
            try clear hcz81_1
            try clear hcz81_2
            try clear hcz83_0
            try clear hcz83_1
            try clear hcz83_2
            try clear hcz84_0
            try clear hcz84_1
            try clear hcz84_2
            try clear hcz87_0
            try clear hcz87_1
            try clear hcz87_2
            try clear hcz89_0
            try clear hcz89_1
            try clear hcz89_2
            try clear hcz91_0
            try clear hcz91_1
            try clear hcz91_2
            try clear hcz92_0
            try clear hcz92_1
            try clear hcz92_2
            try clear hcz95_0
            try clear hcz95_1
            try clear hcz95_2
            try clear hcz97_0
            try clear hcz97_1
            try clear hcz97_2
            try clear hcz99_0
            try clear hcz99_1
            try clear hcz99_2
            try clear hfz100_0
            try clear hfz100_1
            try clear hfz100_2
            try clear hfz105_0
            try clear hfz105_1
            try clear hfz105_2
            try clear hfz107_0
            try clear hfz107_1
            try clear hfz107_2
            try clear hfz109_0
            try clear hfz109_1
            try clear hfz109_2
            try clear hfz110_0
            try clear hfz110_1
            try clear hfz110_2
            try clear hfz113_0
            try clear hfz113_1
            try clear hfz113_2
            try clear hfz115_0
            try clear hfz115_1
            try clear hfz115_2
            try clear hfz117_0
            try clear hfz117_1
            try clear hfz117_2
            try clear hfz118_0
            try clear hfz118_1
            try clear hfz118_2
            try clear hfz121_0
            try clear hfz121_1
            try clear hfz121_2
            try clear hfz123_0
            try clear hfz123_1
            try clear hfz123_2
            try clear hfz125_0
            try clear hfz125_1
            try clear hfz125_2
            try clear hfz126_0
            try clear hfz126_1
            try clear hfz126_2
            try clear hfz131_0
            try clear hfz131_1
            try clear hfz131_2
            try clear hfz133_0
            try clear hfz133_1
            try clear hfz133_2
            try clear hfz135_0
            try clear hfz135_1
            try clear hfz135_2
            try clear hfz136_0
            try clear hfz136_1
            try clear hfz136_2
            try clear hfz139_0
            try clear hfz139_1
            try clear hfz139_2
            try clear hfz141_0
            try clear hfz141_1
            try clear hfz141_2
            try clear hfz143_0
            try clear hfz143_1
            try clear hfz143_2
            try clear hfz144_0
            try clear hfz144_1
            try clear hfz144_2
            try clear hfz147_0
            try clear hfz147_1
            try clear hfz147_2
            try clear hfz149_0
            try clear hfz149_1
            try clear hfz149_2
            try clear hfz151_0
            try clear hfz151_1
            try clear hfz151_2
            try clear hfz152_0
            try clear hfz152_1
            try clear hfz152_2
            try clear hfz155_0
            try clear hfz155_1
            try clear hfz155_2
            try clear hfz157_0
            try clear hfz157_1
            try clear hfz157_2
            try clear hfz18_0
            try clear hfz18_1
            try clear hfz18_2
            try clear hfz21_0
            try clear hfz21_1
            try clear hfz21_2
            try clear hfz23_0
            try clear hfz23_1
            try clear hfz23_2
            try clear hfz27_0
            try clear hfz27_1
            try clear hfz27_2
            try clear hfz30_0
            try clear hfz30_1
            try clear hfz30_2
            try clear hfz34_0
            try clear hfz34_1
            try clear hfz34_2
            try clear hfz43_0
            try clear hfz43_1
            try clear hfz43_2
            try clear hfz45_0
            try clear hfz45_1
            try clear hfz45_2
            try clear hfz47_0
            try clear hfz47_1
            try clear hfz47_2
            try clear hfz48_0
            try clear hfz48_1
            try clear hfz48_2
            try clear hfz50_0
            try clear hfz50_1
            try clear hfz50_2
            try clear hfz51_0
            try clear hfz51_1
            try clear hfz51_2
            try clear hfz58_0
            try clear hfz58_1
            try clear hfz58_2
            try clear hfz60_0
            try clear hfz60_1
            try clear hfz60_2
            try clear hfz62_0
            try clear hfz62_1
            try clear hfz62_2
            try clear hfz63_0
            try clear hfz63_1
            try clear hfz63_2
            try clear hfz69_0
            try clear hfz69_1
            try clear hfz69_2
            try clear hfz71_0
            try clear hfz71_1
            try clear hfz71_2
            try clear hfz73_0
            try clear hfz73_1
            try clear hfz73_2
            try clear hfz74_0
            try clear hfz74_1
            try clear hfz74_2
            try clear hfz79_0
            try clear hfz79_1
            try clear hfz79_2
            try clear hfz81_0
            try clear hfz81_1
            try clear hfz81_2
            try clear hfz83_0
            try clear hfz83_1
            try clear hfz83_2
            try clear hfz84_0
            try clear hfz84_1
            try clear hfz84_2
            try clear hfz87_0
            try clear hfz87_1
            try clear hfz87_2
            try clear hfz89_0
            try clear hfz89_1
            try clear hfz89_2
            try clear hfz91_0
            try clear hfz91_1
            try clear hfz91_2
            try clear hfz92_0
            try clear hfz92_1
            try clear hfz92_2
            try clear hfz95_0
            try clear hfz95_1
            try clear hfz95_2
            try clear hfz97_0
            try clear hfz97_1
            try clear hfz97_2
            try clear hfz99_0
            try clear hfz99_1
            try clear hfz99_2
            try clear p2
            obtain ⟨kq, x73_39, rfl, HA, HJ39, BK202, BK203, BK204, HB⟩ := hcut
            cases kq with
            | zero => exact absurd HA.out (by simp [rubricatorlaw14_NumOrders.j1])
            | succ kj39 =>
              have H := HA.out
              clear HA
              simp only [rubricatorlaw14_NumOrders.j1] at H
              by_cases c159 : x73_39 = true
              · subst c159
                have H1 : (some false) = some r := by rw [if_pos rfl] at H; exact H
                clear H
                have H := H1
                clear H1
                obtain rfl := Option.some.inj H
                go_wp2
                go_ret
                try simp only [beq_nil_isEmpty, bytesLess_gtr]
                exact ⟨by first | rfl | (simp [errW_none, errW_some] <;> rfl) | (simp [*, errW_none, errW_some] <;> rfl), by repeat (first | (with_reducible first | exact HB.out | apply below_alloc | apply pw_below_drewN | apply below_drew1 | refine below_set ?_ GE202.out | refine below_set ?_ GE203.out | refine below_set ?_ GE204.out) | exact HB.out)⟩
              · replace c159 := Bool.eq_false_iff.mpr c159
                subst c159
                have H1 : (if a0_1.toList = ([] : List UInt8) then (some true) else (if a1_1.toList = ([] : List UInt8) then (some true) else ((num_Compare.f kj39 (!a0_0) a0_1 a0_2 (!a1_0) a1_1 a1_2).bind fun t213 => (some (t213 == (wrap64 (-t209))))))) = some r := by rw [if_neg (show ¬ (false = true) by decide)] at H; exact H
                clear H
                have H := H1
                clear H1
                by_cases c160 : a0_1.toList = ([] : List UInt8)
                · rw [if_pos c160] at H
                  have c160b0 : (a0_1.toList == ([] : List UInt8)) = true := beq_iff_eq.mpr c160
                  have c160b7 : a0_1.toList.isEmpty = true := by rw [← beq_nil_isEmpty]; exact c160b0
                  have c160b1 : (a0_1.toList != ([] : List UInt8)) = false := bne_eq_false_iff_eq.mpr c160
                  clear c160
                  obtain rfl := Option.some.inj H
                  have hnb161 := NB202_203.out
                  have hnc161 := NB203_202.out
                  have hnb162 := NB202_204.out
                  have hnc162 := NB204_202.out
                  have hcz163_0 : wc.cell? ⟨gb202, 0, none⟩ = some (.bool a0_0) := (blk_cell BK202.out 0).trans rfl
                  have hcz163_1 : wc.cell? ⟨gb202, 1, none⟩ = some (.string a0_1) := (blk_cell BK202.out 1).trans rfl
                  have hcz163_2 : wc.cell? ⟨gb202, 2, none⟩ = some (.int .i64 a0_2) := (blk_cell BK202.out 2).trans rfl
                  have hfz163_0 := blk_frozen BK202.out 0
                  have hfz163_1 := blk_frozen BK202.out 1
                  have hfz163_2 := blk_frozen BK202.out 2
                  go_wp2
                  go_ret
                  try simp only [beq_nil_isEmpty, bytesLess_gtr]
                  exact ⟨by first | rfl | (simp [errW_none, errW_some] <;> rfl) | (simp [*, errW_none, errW_some] <;> rfl), by repeat (first | (with_reducible first | exact HB.out | apply below_alloc | apply pw_below_drewN | apply below_drew1 | refine below_set ?_ GE202.out | refine below_set ?_ GE203.out | refine below_set ?_ GE204.out) | exact HB.out)⟩
                · rw [if_neg c160] at H
                  have c160b0 : (a0_1.toList == ([] : List UInt8)) = false := beq_eq_false_iff_ne.mpr c160
                  have c160b7 : a0_1.toList.isEmpty = false := by rw [← beq_nil_isEmpty]; exact c160b0
                  have c160b1 : (a0_1.toList != ([] : List UInt8)) = true := bne_iff_ne.mpr c160
                  by_cases c164 : a1_1.toList = ([] : List UInt8)
                  · rw [if_pos c164] at H
                    have c164b0 : (a1_1.toList == ([] : List UInt8)) = true := beq_iff_eq.mpr c164
                    have c164b7 : a1_1.toList.isEmpty = true := by rw [← beq_nil_isEmpty]; exact c164b0
                    have c164b1 : (a1_1.toList != ([] : List UInt8)) = false := bne_eq_false_iff_eq.mpr c164
                    clear c164
                    obtain rfl := Option.some.inj H
                    have hnb165 := NB202_203.out
                    have hnc165 := NB203_202.out
                    have hnb166 := NB202_204.out
                    have hnc166 := NB204_202.out
                    have hcz167_0 : wc.cell? ⟨gb202, 0, none⟩ = some (.bool a0_0) := (blk_cell BK202.out 0).trans rfl
                    have hcz167_1 : wc.cell? ⟨gb202, 1, none⟩ = some (.string a0_1) := (blk_cell BK202.out 1).trans rfl
                    have hcz167_2 : wc.cell? ⟨gb202, 2, none⟩ = some (.int .i64 a0_2) := (blk_cell BK202.out 2).trans rfl
                    have hfz167_0 := blk_frozen BK202.out 0
                    have hfz167_1 := blk_frozen BK202.out 1
                    have hfz167_2 := blk_frozen BK202.out 2
                    have hnb168 := NB203_204.out
                    have hnc168 := NB204_203.out
                    have hcz169_0 : wc.cell? ⟨gb203, 0, none⟩ = some (.bool a1_0) := (blk_cell BK203.out 0).trans rfl
                    have hcz169_1 : wc.cell? ⟨gb203, 1, none⟩ = some (.string a1_1) := (blk_cell BK203.out 1).trans rfl
                    have hcz169_2 : wc.cell? ⟨gb203, 2, none⟩ = some (.int .i64 a1_2) := (blk_cell BK203.out 2).trans rfl
                    have hfz169_0 := blk_frozen BK203.out 0
                    have hfz169_1 := blk_frozen BK203.out 1
                    have hfz169_2 := blk_frozen BK203.out 2
                    go_wp2
                    go_ret
                    try simp only [beq_nil_isEmpty, bytesLess_gtr]
                    exact ⟨by first | rfl | (simp [errW_none, errW_some] <;> rfl) | (simp [*, errW_none, errW_some] <;> rfl), by repeat (first | (with_reducible first | exact HB.out | apply below_alloc | apply pw_below_drewN | apply below_drew1 | refine below_set ?_ GE202.out | refine below_set ?_ GE203.out | refine below_set ?_ GE204.out) | exact HB.out)⟩
                  · rw [if_neg c164] at H
                    have c164b0 : (a1_1.toList == ([] : List UInt8)) = false := beq_eq_false_iff_ne.mpr c164
                    have c164b7 : a1_1.toList.isEmpty = false := by rw [← beq_nil_isEmpty]; exact c164b0
                    have c164b1 : (a1_1.toList != ([] : List UInt8)) = true := bne_iff_ne.mpr c164
                    replace H := Option.bind_eq_some_iff.mp H
                    obtain ⟨t213, A1700, H⟩ := H
                    replace H : (some (t213 == (wrap64 (-t209)))) = some r := H
                    have A170 := Aside0.mk A1700
                    clear A1700
                    obtain rfl := Option.some.inj H
                    have hnb171 := NB202_203.out
                    have hnc171 := NB203_202.out
                    have hnb172 := NB202_204.out
                    have hnc172 := NB204_202.out
                    have hcz173_0 : wc.cell? ⟨gb202, 0, none⟩ = some (.bool a0_0) := (blk_cell BK202.out 0).trans rfl
                    have hcz173_1 : wc.cell? ⟨gb202, 1, none⟩ = some (.string a0_1) := (blk_cell BK202.out 1).trans rfl
                    have hcz173_2 : wc.cell? ⟨gb202, 2, none⟩ = some (.int .i64 a0_2) := (blk_cell BK202.out 2).trans rfl
                    have hfz173_0 := blk_frozen BK202.out 0
                    have hfz173_1 := blk_frozen BK202.out 1
                    have hfz173_2 := blk_frozen BK202.out 2
                    have hnb174 := NB203_204.out
                    have hnc174 := NB204_203.out
                    have hcz175_0 : wc.cell? ⟨gb203, 0, none⟩ = some (.bool a1_0) := (blk_cell BK203.out 0).trans rfl
                    have hcz175_1 : wc.cell? ⟨gb203, 1, none⟩ = some (.string a1_1) := (blk_cell BK203.out 1).trans rfl
                    have hcz175_2 : wc.cell? ⟨gb203, 2, none⟩ = some (.int .i64 a1_2) := (blk_cell BK203.out 2).trans rfl
                    have hfz175_0 := blk_frozen BK203.out 0
                    have hfz175_1 := blk_frozen BK203.out 1
                    have hfz175_2 := blk_frozen BK203.out 2
                    go_wp2_with (first | ((with_reducible refine gate_callee (f := 18) rfl ?_); refine goesL_ (some 92) rfl rfl Tryd.func18 (by kernel_rfl) rfl #[.agg #[.bool (!a0_0), .string a0_1, .int .i64 a0_2], .agg #[.bool (!a1_0), .string a1_1, .int .i64 a1_2]] rfl (by (try simp only [List.map_toArray, List.map_cons, List.map_nil]); first | done | rfl | (simp only [List.length_drop, List.length_take]; rfl)) ?_; (with_reducible refine (num_Compare.calls kj39 (!a0_0) a0_1 a0_2 (!a1_0) a1_1 a1_2 t213 _ A170.out).mono ?_); rintro e w176 ⟨rfl, hb⟩; refine ⟨_, rfl, ?_⟩; have n0_ := Aside0.mk (blk_below (g := gb202) (o := .cells #[.bool (!a0_0), .string a0_1, .int .i64 a0_2] 24 (0, 0)) (by (with_reducible repeat (first | refine blk_drewN ?_ _ | refine blk_drew ?_ | refine blk_alloc ?_ _)); refine blk_far ?_ NB202_203.out _; (with_reducible repeat (first | refine blk_drewN ?_ _ | refine blk_drew ?_ | refine blk_alloc ?_ _)); refine blk_put (cs := #[.bool a0_0, .string a0_1, .int .i64 a0_2]) ?_ 0 _ rfl; (with_reducible repeat (first | refine blk_drewN ?_ _ | refine blk_drew ?_ | refine blk_alloc ?_ _)); exact BK202.out) hb); have n1_ := Aside0.mk (blk_below (g := gb203) (o := .cells #[.bool (!a1_0), .string a1_1, .int .i64 a1_2] 24 (0, 0)) (by (with_reducible repeat (first | refine blk_drewN ?_ _ | refine blk_drew ?_ | refine blk_alloc ?_ _)); refine blk_put (cs := #[.bool a1_0, .string a1_1, .int .i64 a1_2]) ?_ 0 _ rfl; (with_reducible repeat (first | refine blk_drewN ?_ _ | refine blk_drew ?_ | refine blk_alloc ?_ _)); refine blk_far ?_ NB203_202.out _; (with_reducible repeat (first | refine blk_drewN ?_ _ | refine blk_drew ?_ | refine blk_alloc ?_ _)); exact BK203.out) hb); have n2_ := Aside0.mk (blk_below (g := gb204) (o := .cells #[.bool a2_0, .string a2_1, .int .i64 a2_2] 24 (0, 0)) (by (with_reducible repeat (first | refine blk_drewN ?_ _ | refine blk_drew ?_ | refine blk_alloc ?_ _)); refine blk_far ?_ NB204_203.out _; (with_reducible repeat (first | refine blk_drewN ?_ _ | refine blk_drew ?_ | refine blk_alloc ?_ _)); refine blk_far ?_ NB204_202.out _; (with_reducible repeat (first | refine blk_drewN ?_ _ | refine blk_drew ?_ | refine blk_alloc ?_ _)); exact BK204.out) hb); have n3_ := Aside0.mk (below_step (by repeat (first | (with_reducible first | exact HB.out | apply below_alloc | apply pw_below_drewN | apply below_drew1 | refine below_set ?_ GE202.out | refine below_set ?_ GE203.out | refine below_set ?_ GE204.out) | exact HB.out)) hb); clear BK202; clear BK203; clear BK204; clear HB; have BK202 := n0_; have BK203 := n1_; have BK204 := n2_; have HB := n3_; clear n0_ n1_ n2_ n3_; (try clear hb); (try clear hb2); (try clear hk); (try clear hi)))
                    go_ret
                    try simp only [beq_nil_isEmpty, bytesLess_gtr]
                    exact ⟨by first | rfl | (simp [errW_none, errW_some] <;> rfl) | (simp [*, errW_none, errW_some] <;> rfl), by repeat (first | (with_reducible first | exact HB.out | apply below_alloc | apply pw_below_drewN | apply below_drew1 | refine below_set ?_ GE202.out | refine below_set ?_ GE203.out | refine below_set ?_ GE204.out) | exact HB.out)⟩
  · replace c5 := Bool.eq_false_iff.mpr c5
    subst c5
    have H1 : (some false) = some r := by rw [if_neg (show ¬ (false = true) by decide)] at H; exact H
    clear H
    have H := H1
    clear H1
    obtain rfl := Option.some.inj H
    go_enter Tryd.func6, Tryd.ntmps6
    go_wp2_with (first | ((with_reducible refine gate_dst (N := 3) rfl ?_); refine box_event ?hg (N := 3) ?hd (cs := #[.bool a0_0, .string a0_1, .int .i64 a0_2]) (t := 24) ?hr ?_; (case hd => rfl); (case hg => rfl); (case hr => first | (go_simp; done) | (go_simp; rfl)); intro gb202 hg w177 hbox hb; have n0_ := Aside0.mk (below_step (by repeat (first | (with_reducible first | exact HB.out | apply below_alloc | apply pw_below_drewN | apply below_drew1) | exact HB.out)) hb); have n1_ := Aside0.mk (hbox); have n2_ := Aside0.mk ((by rw [hg]; exact (below_size (by repeat (first | (with_reducible first | exact HB.out | apply below_alloc | apply pw_below_drewN | apply below_drew1) | exact HB.out))) : w.heap.size ≤ gb202)); have n3_ := Aside0.mk ((by rw [hg]; exact (below_size (by repeat (first | (with_reducible first | exact HB.out | apply below_alloc | apply pw_below_drewN | apply below_drew1) | exact HB.out))) : w.heap.size ≤ gb202)); clear HB; have HB := n0_; have BK202 := n1_; have GW202 := n2_; have GE202 := n3_; clear n0_ n1_ n2_ n3_; clear hb hbox hg) | ((with_reducible refine gate_dst (N := 4) rfl ?_); refine box_event ?hg (N := 4) ?hd (cs := #[.bool a1_0, .string a1_1, .int .i64 a1_2]) (t := 24) ?hr ?_; (case hd => rfl); (case hg => rfl); (case hr => first | (go_simp; done) | (go_simp; rfl)); intro gb203 hg w178 hbox hb; have n0_ := Aside0.mk (blk_below (g := gb202) (o := .cells #[.bool a0_0, .string a0_1, .int .i64 a0_2] 24 (0, 0)) (by (with_reducible repeat (first | refine blk_drewN ?_ _ | refine blk_drew ?_ | refine blk_alloc ?_ _)); exact BK202.out) hb); have n1_ := Aside0.mk (below_step (by repeat (first | (with_reducible first | exact HB.out | apply below_alloc | apply pw_below_drewN | apply below_drew1 | refine below_set ?_ GE202.out) | exact HB.out)) hb); have n2_ := Aside0.mk (hbox); have n3_ := Aside0.mk ((by rw [hg]; exact (below_size (by repeat (first | (with_reducible first | exact HB.out | apply below_alloc | apply pw_below_drewN | apply below_drew1 | refine below_set ?_ GE202.out) | exact HB.out))) : w.heap.size ≤ gb203)); have n4_ := Aside0.mk ((by rw [hg]; exact (below_size (by repeat (first | (with_reducible first | exact HB.out | apply below_alloc | apply pw_below_drewN | apply below_drew1 | refine below_set ?_ GE202.out) | exact HB.out))) : w.heap.size ≤ gb203)); have n5_ := Aside0.mk ((by rw [hg]; exact Nat.ne_of_lt (blk_lt (g := gb202) (o := .cells #[.bool a0_0, .string a0_1, .int .i64 a0_2] 24 (0, 0)) (by (with_reducible repeat (first | refine blk_drewN ?_ _ | refine blk_drew ?_ | refine blk_alloc ?_ _)); exact BK202.out)) : gb202 ≠ gb203)); have n6_ := Aside0.mk ((by rw [hg]; exact Nat.ne_of_gt (blk_lt (g := gb202) (o := .cells #[.bool a0_0, .string a0_1, .int .i64 a0_2] 24 (0, 0)) (by (with_reducible repeat (first | refine blk_drewN ?_ _ | refine blk_drew ?_ | refine blk_alloc ?_ _)); exact BK202.out)) : gb203 ≠ gb202)); clear BK202; clear HB; have BK202 := n0_; have HB := n1_; have BK203 := n2_; have GW203 := n3_; have GE203 := n4_; have NB202_203 := n5_; have NB203_202 := n6_; clear n0_ n1_ n2_ n3_ n4_ n5_ n6_; clear hb hbox hg) | ((with_reducible refine gate_dst (N := 5) rfl ?_); refine box_event ?hg (N := 5) ?hd (cs := #[.bool a2_0, .string a2_1, .int .i64 a2_2]) (t := 24) ?hr ?_; (case hd => rfl); (case hg => rfl); (case hr => first | (go_simp; done) | (go_simp; rfl)); intro gb204 hg w179 hbox hb; have n0_ := Aside0.mk (blk_below (g := gb202) (o := .cells #[.bool a0_0, .string a0_1, .int .i64 a0_2] 24 (0, 0)) (by (with_reducible repeat (first | refine blk_drewN ?_ _ | refine blk_drew ?_ | refine blk_alloc ?_ _)); exact BK202.out) hb); have n1_ := Aside0.mk (blk_below (g := gb203) (o := .cells #[.bool a1_0, .string a1_1, .int .i64 a1_2] 24 (0, 0)) (by (with_reducible repeat (first | refine blk_drewN ?_ _ | refine blk_drew ?_ | refine blk_alloc ?_ _)); exact BK203.out) hb); have n2_ := Aside0.mk (below_step (by repeat (first | (with_reducible first | exact HB.out | apply below_alloc | apply pw_below_drewN | apply below_drew1 | refine below_set ?_ GE202.out | refine below_set ?_ GE203.out) | exact HB.out)) hb); have n3_ := Aside0.mk (hbox); have n4_ := Aside0.mk ((by rw [hg]; exact (below_size (by repeat (first | (with_reducible first | exact HB.out | apply below_alloc | apply pw_below_drewN | apply below_drew1 | refine below_set ?_ GE202.out | refine below_set ?_ GE203.out) | exact HB.out))) : w.heap.size ≤ gb204)); have n5_ := Aside0.mk ((by rw [hg]; exact (below_size (by repeat (first | (with_reducible first | exact HB.out | apply below_alloc | apply pw_below_drewN | apply below_drew1 | refine below_set ?_ GE202.out | refine below_set ?_ GE203.out) | exact HB.out))) : w.heap.size ≤ gb204)); have n6_ := Aside0.mk ((by rw [hg]; exact Nat.ne_of_lt (blk_lt (g := gb202) (o := .cells #[.bool a0_0, .string a0_1, .int .i64 a0_2] 24 (0, 0)) (by (with_reducible repeat (first | refine blk_drewN ?_ _ | refine blk_drew ?_ | refine blk_alloc ?_ _)); exact BK202.out)) : gb202 ≠ gb204)); have n7_ := Aside0.mk ((by rw [hg]; exact Nat.ne_of_gt (blk_lt (g := gb202) (o := .cells #[.bool a0_0, .string a0_1, .int .i64 a0_2] 24 (0, 0)) (by (with_reducible repeat (first | refine blk_drewN ?_ _ | refine blk_drew ?_ | refine blk_alloc ?_ _)); exact BK202.out)) : gb204 ≠ gb202)); have n8_ := Aside0.mk ((by rw [hg]; exact Nat.ne_of_lt (blk_lt (g := gb203) (o := .cells #[.bool a1_0, .string a1_1, .int .i64 a1_2] 24 (0, 0)) (by (with_reducible repeat (first | refine blk_drewN ?_ _ | refine blk_drew ?_ | refine blk_alloc ?_ _)); exact BK203.out)) : gb203 ≠ gb204)); have n9_ := Aside0.mk ((by rw [hg]; exact Nat.ne_of_gt (blk_lt (g := gb203) (o := .cells #[.bool a1_0, .string a1_1, .int .i64 a1_2] 24 (0, 0)) (by (with_reducible repeat (first | refine blk_drewN ?_ _ | refine blk_drew ?_ | refine blk_alloc ?_ _)); exact BK203.out)) : gb204 ≠ gb203)); clear BK202; clear BK203; clear HB; have BK202 := n0_; have BK203 := n1_; have HB := n2_; have BK204 := n3_; have GW204 := n4_; have GE204 := n5_; have NB202_204 := n6_; have NB204_202 := n7_; have NB203_204 := n8_; have NB204_203 := n9_; clear n0_ n1_ n2_ n3_ n4_ n5_ n6_ n7_ n8_ n9_; clear hb hbox hg) | ((with_reducible refine gate_callee (f := 10) rfl ?_); refine goesL_ (some 11) rfl rfl Tryd.func10 (by kernel_rfl) rfl #[] rfl (by (try simp only [List.map_toArray, List.map_cons, List.map_nil]); first | done | rfl | (simp only [List.length_drop, List.length_take]; rfl)) ?_; (with_reducible refine (rubricatorlaw14_awake.calls  false _ (Tabs.below HT.out (by repeat (first | (with_reducible first | exact HB.out | apply below_alloc | apply pw_below_drewN | apply below_drew1 | refine below_set ?_ GE202.out | refine below_set ?_ GE203.out | refine below_set ?_ GE204.out) | exact HB.out))) A4.out).mono ?_); rintro e w180 ⟨rfl, hb⟩; refine ⟨_, rfl, ?_⟩; have n0_ := Aside0.mk (blk_below (g := gb202) (o := .cells #[.bool a0_0, .string a0_1, .int .i64 a0_2] 24 (0, 0)) (by (with_reducible repeat (first | refine blk_drewN ?_ _ | refine blk_drew ?_ | refine blk_alloc ?_ _)); exact BK202.out) hb); have n1_ := Aside0.mk (blk_below (g := gb203) (o := .cells #[.bool a1_0, .string a1_1, .int .i64 a1_2] 24 (0, 0)) (by (with_reducible repeat (first | refine blk_drewN ?_ _ | refine blk_drew ?_ | refine blk_alloc ?_ _)); exact BK203.out) hb); have n2_ := Aside0.mk (blk_below (g := gb204) (o := .cells #[.bool a2_0, .string a2_1, .int .i64 a2_2] 24 (0, 0)) (by (with_reducible repeat (first | refine blk_drewN ?_ _ | refine blk_drew ?_ | refine blk_alloc ?_ _)); exact BK204.out) hb); have n3_ := Aside0.mk (below_step (by repeat (first | (with_reducible first | exact HB.out | apply below_alloc | apply pw_below_drewN | apply below_drew1 | refine below_set ?_ GE202.out | refine below_set ?_ GE203.out | refine below_set ?_ GE204.out) | exact HB.out)) hb); clear BK202; clear BK203; clear BK204; clear HB; have BK202 := n0_; have BK203 := n1_; have BK204 := n2_; have HB := n3_; clear n0_ n1_ n2_ n3_; (try clear hb); (try clear hb2); (try clear hk); (try clear hi)))
    go_ret
    try simp only [beq_nil_isEmpty, bytesLess_gtr]
    exact ⟨by first | rfl | (simp [errW_none, errW_some] <;> rfl) | (simp [*, errW_none, errW_some] <;> rfl), by repeat (first | (with_reducible first | exact HB.out | apply below_alloc | apply pw_below_drewN | apply below_drew1 | refine below_set ?_ GE202.out | refine below_set ?_ GE203.out | refine below_set ?_ GE204.out) | exact HB.out)⟩

end Go.Proofs.YtbgigckmehgcpaaDoor.Pr
