-- written by a program of this session (xprint.py)
import Derived.Test.YtbgigckmehgcpaaDoorPrx0
import Derived.Test.YtbgigckmehgcpaaDoorPrx4
import Derived.Test.YtbgigckmehgcpaaDoorPrx5
namespace Go.Proofs.YtbgigckmehgcpaaDoor.Pr
open Go.RowKit Go.Proofs.YtbgigckmehgcpaaDoorW.PrintWords Go.Proofs.YtbgigckmehgcpaaDoorW.PrintLast Go.Proofs.YtbgigckmehgcpaaDoorW.PrintMore
attribute [local go_sem] max2_int min2_int max_two min_two max_three min_three max_four min_four   -- for this text's walks alone
set_option linter.unusedVariables false
set_option linter.unusedSimpArgs false

/-! ### rubricatorref14_Parse: function 12 -/
mutual
def rubricatorref14_Parse.l0 : Nat → ByteArray → Int → Int → Int → Bool → ByteArray → Int → Option (Bool × ByteArray × Int × Int)
  | 0, _, _, _, _, _, _, _ => none
  | k + 1, x0, x5, x6, x8, x139000, x139001, x139002 => if x8 < x6 then (if 0 ≤ x8 then (if x8 < (x0.size : Int) then (if (bt x0 x8) = 45 then (rubricatorref14_Parse.l0 k x0 x5 x6 (wrap64 (x8 + 1)) true x139001 x139002) else (if (bt x0 x8) = 46 then (rubricatorref14_Parse.l0 k x0 x5 x6 (wrap64 (x8 + 1)) x139000 x139001 x139002) else (if x139001.toList = ([] : List UInt8) then (if (bt x0 x8) = 48 then (rubricatorref14_Parse.l0 k x0 x5 x6 (wrap64 (x8 + 1)) x139000 x139001 x139002) else (if x8 ≤ (wrap64 (x8 + 1)) then (if (wrap64 (x8 + 1)) ≤ (x0.size : Int) then (if x139001.size + (x0.extract (x8 : Int).toNat ((wrap64 (x8 + 1)) : Int).toNat).size ≤ 9223372036854775807 then (rubricatorref14_Parse.l0 k x0 x5 x6 (wrap64 (x8 + 1)) x139000 (x139001 ++ (x0.extract (x8 : Int).toNat ((wrap64 (x8 + 1)) : Int).toNat)) x139002) else (none)) else (none)) else (none))) else (if x8 ≤ (wrap64 (x8 + 1)) then (if (wrap64 (x8 + 1)) ≤ (x0.size : Int) then (if x139001.size + (x0.extract (x8 : Int).toNat ((wrap64 (x8 + 1)) : Int).toNat).size ≤ 9223372036854775807 then (rubricatorref14_Parse.l0 k x0 x5 x6 (wrap64 (x8 + 1)) x139000 (x139001 ++ (x0.extract (x8 : Int).toNat ((wrap64 (x8 + 1)) : Int).toNat)) x139002) else (none)) else (none)) else (none))))) else (none)) else (none)) else (if x6 > x5 then (rubricatorref14_Parse.j1 k x0 x6 x139000 x139001 (wrap64 ((wrap64 (x5 + 1)) - x6))) else (rubricatorref14_Parse.j1 k x0 x6 x139000 x139001 x139002))
def rubricatorref14_Parse.j1 : Nat → ByteArray → Int → Bool → ByteArray → Int → Option (Bool × ByteArray × Int × Int)
  | 0, _, _, _, _, _ => none
  | k + 1, x0, x6, x139000, x139001, x139002 => rubricatorref14_Parse.l1 k x0 0 false (wrap64 (x6 + 1)) x139000 x139001 x139002
def rubricatorref14_Parse.l1 : Nat → ByteArray → Int → Bool → Int → Bool → ByteArray → Int → Option (Bool × ByteArray × Int × Int)
  | 0, _, _, _, _, _, _, _ => none
  | k + 1, x0, x9, x10, x11, x139000, x139001, x139002 => if x11 < (x0.size : Int) then (if 0 ≤ x11 then (if (bt x0 x11) = 45 then (rubricatorref14_Parse.l1 k x0 x9 true (wrap64 (x11 + 1)) x139000 x139001 x139002) else (if (bt x0 x11) = 43 then (rubricatorref14_Parse.l1 k x0 x9 x10 (wrap64 (x11 + 1)) x139000 x139001 x139002) else (rubricatorref14_Parse.l1 k x0 (mn (wrap64 ((wrap64 ((wrap64 (10 * x9)) + (wrap64 (bt x0 x11)))) - 48)) 1000000) x10 (wrap64 (x11 + 1)) x139000 x139001 x139002))) else (none)) else (if x10 = true then (rubricatorref14_Parse.j3 k (wrap64 (-x9)) x139000 x139001 x139002) else (rubricatorref14_Parse.j3 k x9 x139000 x139001 x139002))
def rubricatorref14_Parse.j3 : Nat → Int → Bool → ByteArray → Int → Option (Bool × ByteArray × Int × Int)
  | 0, _, _, _, _ => none
  | k + 1, x9, x139000, x139001, x139002 => rubricatorref14_Parse.l2 k x139000 x139001 (wrap64 (x139002 + x9))
def rubricatorref14_Parse.j5 : Nat → Bool → ByteArray → Int → Option (Bool × ByteArray × Int × Int)
  | 0, _, _, _ => none
  | k + 1, x139000, x139001, x139002 => if x139001.toList = ([] : List UInt8) then (some (false, (⟨#[]⟩ : ByteArray), 0, 0)) else ((rubricatorref14_Right.f k x139000 x139001 x139002).bind fun t139 => (if t139 = true then (some (x139000, x139001, x139002, 0)) else (some (false, (⟨#[]⟩ : ByteArray), 0, 13))))
def rubricatorref14_Parse.l2 : Nat → Bool → ByteArray → Int → Option (Bool × ByteArray × Int × Int)
  | 0, _, _, _ => none
  | k + 1, x139000, x139001, x139002 => if (x139001.size : Int) > 0 then (if 0 ≤ (wrap64 ((x139001.size : Int) - 1)) then (if (wrap64 ((x139001.size : Int) - 1)) < (x139001.size : Int) then (if (bt x139001 (wrap64 ((x139001.size : Int) - 1))) = 48 then (if (wrap64 ((x139001.size : Int) - 1)) ≤ (x139001.size : Int) then (rubricatorref14_Parse.l2 k x139000 (x139001.extract 0 ((wrap64 ((x139001.size : Int) - 1)) : Int).toNat) (wrap64 (x139002 + 1))) else (none)) else (rubricatorref14_Parse.j5 k x139000 x139001 x139002)) else (none)) else (none)) else (rubricatorref14_Parse.j5 k x139000 x139001 x139002)
end
def rubricatorref14_Parse.f (k : Nat) (a0 : ByteArray) : Option (Bool × ByteArray × Int × Int) := (rubricatorref14_Grammar.f k a0).bind fun bt135 => (if bt135.1 = true then (rubricatorref14_Parse.l0 k a0 bt135.2.1 bt135.2.2 0 false (⟨#[]⟩ : ByteArray) 0) else (some (false, (⟨#[]⟩ : ByteArray), 0, 11)))
theorem rubricatorref14_Parse.mono_l : ∀ k, (∀ y0 y1 y2 y3 y4 y5 y6, LeO (rubricatorref14_Parse.l0 k y0 y1 y2 y3 y4 y5 y6) (rubricatorref14_Parse.l0 (k + 1) y0 y1 y2 y3 y4 y5 y6)) ∧ (∀ y0 y1 y2 y3 y4, LeO (rubricatorref14_Parse.j1 k y0 y1 y2 y3 y4) (rubricatorref14_Parse.j1 (k + 1) y0 y1 y2 y3 y4)) ∧ (∀ y0 y1 y2 y3 y4 y5 y6, LeO (rubricatorref14_Parse.l1 k y0 y1 y2 y3 y4 y5 y6) (rubricatorref14_Parse.l1 (k + 1) y0 y1 y2 y3 y4 y5 y6)) ∧ (∀ y0 y1 y2 y3, LeO (rubricatorref14_Parse.j3 k y0 y1 y2 y3) (rubricatorref14_Parse.j3 (k + 1) y0 y1 y2 y3)) ∧ (∀ y0 y1 y2, LeO (rubricatorref14_Parse.j5 k y0 y1 y2) (rubricatorref14_Parse.j5 (k + 1) y0 y1 y2)) ∧ (∀ y0 y1 y2, LeO (rubricatorref14_Parse.l2 k y0 y1 y2) (rubricatorref14_Parse.l2 (k + 1) y0 y1 y2))
  | 0 => ⟨fun _ _ _ _ _ _ _ r h => by simp [rubricatorref14_Parse.l0] at h, fun _ _ _ _ _ r h => by simp [rubricatorref14_Parse.j1] at h, fun _ _ _ _ _ _ _ r h => by simp [rubricatorref14_Parse.l1] at h, fun _ _ _ _ r h => by simp [rubricatorref14_Parse.j3] at h, fun _ _ _ r h => by simp [rubricatorref14_Parse.j5] at h, fun _ _ _ r h => by simp [rubricatorref14_Parse.l2] at h⟩
  | k + 1 => by
    obtain ⟨ih0, ih1, ih2, ih3, ih4, ih5⟩ := rubricatorref14_Parse.mono_l k
    refine ⟨?_, ?_, ?_, ?_, ?_, ?_⟩
    · intro y0 y1 y2 y3 y4 y5 y6
      unfold rubricatorref14_Parse.l0
      repeat' first
      | (with_reducible exact ih0 _ _ _ _ _ _ _)
      | (with_reducible exact ih1 _ _ _ _ _)
      | (with_reducible exact ih2 _ _ _ _ _ _ _)
      | (with_reducible exact ih3 _ _ _ _)
      | (with_reducible exact ih4 _ _ _)
      | (with_reducible exact ih5 _ _ _)
      | (with_reducible exact rubricatorref14_Grammar.mono _ _)
      | (with_reducible exact rubricatorref14_Right.mono _ _ _ _)
      | (with_reducible exact LeO.refl _)
      | (with_reducible exact LeO.none _)
      | (with_reducible refine LeO.ite ?_ ?_)
      | (with_reducible refine LeO.bind ?_ (fun _ => ?_))
      | exact ih0 _ _ _ _ _ _ _
      | exact ih1 _ _ _ _ _
      | exact ih2 _ _ _ _ _ _ _
      | exact ih3 _ _ _ _
      | exact ih4 _ _ _
      | exact ih5 _ _ _
      | exact rubricatorref14_Grammar.mono _ _
      | exact rubricatorref14_Right.mono _ _ _ _
      | exact LeO.none _
      | refine LeO.ite ?_ ?_
      | refine LeO.bind ?_ (fun _ => ?_)
    · intro y0 y1 y2 y3 y4
      unfold rubricatorref14_Parse.j1
      repeat' first
      | (with_reducible exact ih0 _ _ _ _ _ _ _)
      | (with_reducible exact ih1 _ _ _ _ _)
      | (with_reducible exact ih2 _ _ _ _ _ _ _)
      | (with_reducible exact ih3 _ _ _ _)
      | (with_reducible exact ih4 _ _ _)
      | (with_reducible exact ih5 _ _ _)
      | (with_reducible exact rubricatorref14_Grammar.mono _ _)
      | (with_reducible exact rubricatorref14_Right.mono _ _ _ _)
      | (with_reducible exact LeO.refl _)
      | (with_reducible exact LeO.none _)
      | (with_reducible refine LeO.ite ?_ ?_)
      | (with_reducible refine LeO.bind ?_ (fun _ => ?_))
      | exact ih0 _ _ _ _ _ _ _
      | exact ih1 _ _ _ _ _
      | exact ih2 _ _ _ _ _ _ _
      | exact ih3 _ _ _ _
      | exact ih4 _ _ _
      | exact ih5 _ _ _
      | exact rubricatorref14_Grammar.mono _ _
      | exact rubricatorref14_Right.mono _ _ _ _
      | exact LeO.none _
      | refine LeO.ite ?_ ?_
      | refine LeO.bind ?_ (fun _ => ?_)
    · intro y0 y1 y2 y3 y4 y5 y6
      unfold rubricatorref14_Parse.l1
      repeat' first
      | (with_reducible exact ih0 _ _ _ _ _ _ _)
      | (with_reducible exact ih1 _ _ _ _ _)
      | (with_reducible exact ih2 _ _ _ _ _ _ _)
      | (with_reducible exact ih3 _ _ _ _)
      | (with_reducible exact ih4 _ _ _)
      | (with_reducible exact ih5 _ _ _)
      | (with_reducible exact rubricatorref14_Grammar.mono _ _)
      | (with_reducible exact rubricatorref14_Right.mono _ _ _ _)
      | (with_reducible exact LeO.refl _)
      | (with_reducible exact LeO.none _)
      | (with_reducible refine LeO.ite ?_ ?_)
      | (with_reducible refine LeO.bind ?_ (fun _ => ?_))
      | exact ih0 _ _ _ _ _ _ _
      | exact ih1 _ _ _ _ _
      | exact ih2 _ _ _ _ _ _ _
      | exact ih3 _ _ _ _
      | exact ih4 _ _ _
      | exact ih5 _ _ _
      | exact rubricatorref14_Grammar.mono _ _
      | exact rubricatorref14_Right.mono _ _ _ _
      | exact LeO.none _
      | refine LeO.ite ?_ ?_
      | refine LeO.bind ?_ (fun _ => ?_)
    · intro y0 y1 y2 y3
      unfold rubricatorref14_Parse.j3
      repeat' first
      | (with_reducible exact ih0 _ _ _ _ _ _ _)
      | (with_reducible exact ih1 _ _ _ _ _)
      | (with_reducible exact ih2 _ _ _ _ _ _ _)
      | (with_reducible exact ih3 _ _ _ _)
      | (with_reducible exact ih4 _ _ _)
      | (with_reducible exact ih5 _ _ _)
      | (with_reducible exact rubricatorref14_Grammar.mono _ _)
      | (with_reducible exact rubricatorref14_Right.mono _ _ _ _)
      | (with_reducible exact LeO.refl _)
      | (with_reducible exact LeO.none _)
      | (with_reducible refine LeO.ite ?_ ?_)
      | (with_reducible refine LeO.bind ?_ (fun _ => ?_))
      | exact ih0 _ _ _ _ _ _ _
      | exact ih1 _ _ _ _ _
      | exact ih2 _ _ _ _ _ _ _
      | exact ih3 _ _ _ _
      | exact ih4 _ _ _
      | exact ih5 _ _ _
      | exact rubricatorref14_Grammar.mono _ _
      | exact rubricatorref14_Right.mono _ _ _ _
      | exact LeO.none _
      | refine LeO.ite ?_ ?_
      | refine LeO.bind ?_ (fun _ => ?_)
    · intro y0 y1 y2
      unfold rubricatorref14_Parse.j5
      repeat' first
      | (with_reducible exact ih0 _ _ _ _ _ _ _)
      | (with_reducible exact ih1 _ _ _ _ _)
      | (with_reducible exact ih2 _ _ _ _ _ _ _)
      | (with_reducible exact ih3 _ _ _ _)
      | (with_reducible exact ih4 _ _ _)
      | (with_reducible exact ih5 _ _ _)
      | (with_reducible exact rubricatorref14_Grammar.mono _ _)
      | (with_reducible exact rubricatorref14_Right.mono _ _ _ _)
      | (with_reducible exact LeO.refl _)
      | (with_reducible exact LeO.none _)
      | (with_reducible refine LeO.ite ?_ ?_)
      | (with_reducible refine LeO.bind ?_ (fun _ => ?_))
      | exact ih0 _ _ _ _ _ _ _
      | exact ih1 _ _ _ _ _
      | exact ih2 _ _ _ _ _ _ _
      | exact ih3 _ _ _ _
      | exact ih4 _ _ _
      | exact ih5 _ _ _
      | exact rubricatorref14_Grammar.mono _ _
      | exact rubricatorref14_Right.mono _ _ _ _
      | exact LeO.none _
      | refine LeO.ite ?_ ?_
      | refine LeO.bind ?_ (fun _ => ?_)
    · intro y0 y1 y2
      unfold rubricatorref14_Parse.l2
      repeat' first
      | (with_reducible exact ih0 _ _ _ _ _ _ _)
      | (with_reducible exact ih1 _ _ _ _ _)
      | (with_reducible exact ih2 _ _ _ _ _ _ _)
      | (with_reducible exact ih3 _ _ _ _)
      | (with_reducible exact ih4 _ _ _)
      | (with_reducible exact ih5 _ _ _)
      | (with_reducible exact rubricatorref14_Grammar.mono _ _)
      | (with_reducible exact rubricatorref14_Right.mono _ _ _ _)
      | (with_reducible exact LeO.refl _)
      | (with_reducible exact LeO.none _)
      | (with_reducible refine LeO.ite ?_ ?_)
      | (with_reducible refine LeO.bind ?_ (fun _ => ?_))
      | exact ih0 _ _ _ _ _ _ _
      | exact ih1 _ _ _ _ _
      | exact ih2 _ _ _ _ _ _ _
      | exact ih3 _ _ _ _
      | exact ih4 _ _ _
      | exact ih5 _ _ _
      | exact rubricatorref14_Grammar.mono _ _
      | exact rubricatorref14_Right.mono _ _ _ _
      | exact LeO.none _
      | refine LeO.ite ?_ ?_
      | refine LeO.bind ?_ (fun _ => ?_)
theorem rubricatorref14_Parse.mono : ∀ a0 k, LeO (rubricatorref14_Parse.f k a0) (rubricatorref14_Parse.f (k + 1) a0) := by
  intro a0 k
  obtain ⟨ih0, ih1, ih2, ih3, ih4, ih5⟩ := rubricatorref14_Parse.mono_l k
  unfold rubricatorref14_Parse.f
  repeat' first
      | (with_reducible exact ih0 _ _ _ _ _ _ _)
      | (with_reducible exact ih1 _ _ _ _ _)
      | (with_reducible exact ih2 _ _ _ _ _ _ _)
      | (with_reducible exact ih3 _ _ _ _)
      | (with_reducible exact ih4 _ _ _)
      | (with_reducible exact ih5 _ _ _)
      | (with_reducible exact rubricatorref14_Grammar.mono _ _)
      | (with_reducible exact rubricatorref14_Right.mono _ _ _ _)
      | (with_reducible exact LeO.refl _)
      | (with_reducible exact LeO.none _)
      | (with_reducible refine LeO.ite ?_ ?_)
      | (with_reducible refine LeO.bind ?_ (fun _ => ?_))
      | exact ih0 _ _ _ _ _ _ _
      | exact ih1 _ _ _ _ _
      | exact ih2 _ _ _ _ _ _ _
      | exact ih3 _ _ _ _
      | exact ih4 _ _ _
      | exact ih5 _ _ _
      | exact rubricatorref14_Grammar.mono _ _
      | exact rubricatorref14_Right.mono _ _ _ _
      | exact LeO.none _
      | refine LeO.ite ?_ ?_
      | refine LeO.bind ?_ (fun _ => ?_)
def rubricatorref14_Parse.T11 : Bool × List (List Nat × List Nat) := (true, [([], []), ([0], [0]), ([], []), ([], []), ([], []), ([4], [4]), ([2, 3, 5], [2, 3, 5]), ([1, 6], [1, 6]), ([0, 1, 2, 3, 4, 5, 6, 7], []), ([8, 7, 0, 1, 2, 3, 4, 5, 6, 7], [7, 8])])
def rubricatorref14_Parse.B11 : List Nat := [0, 1, 0, 0, 0, 16, 60, 127, 255, 511]
theorem rubricatorref14_Parse.tab11 : rtab .any (opsOf Tryd.f12 11) = rubricatorref14_Parse.T11 := by kernel_rfl
theorem rubricatorref14_Parse.bits11 : waitsOk rubricatorref14_Parse.T11.2 rubricatorref14_Parse.B11 = true := by kernel_rfl
set_option maxHeartbeats 8000000 in
set_option maxRecDepth 100000 in
theorem rubricatorref14_Parse.calls (k : Nat) (a0 : ByteArray) (r1 : Bool) (r2 : ByteArray) (r3 : Int) (r4 : Int) (w : World) (h : rubricatorref14_Parse.f k a0 = some (r1, r2, r3, r4)) :
    Calls Tryd.prog 12 #[.string a0] w fun e w' => e = .returned (.tuple #[.agg #[.bool r1, .string r2, .int .i64 r3], .int .i64 r4]) ∧ Below w.heap.size w w' := by
  have hu28 := Tryd.underlying28
  have HB := Aside0.mk (Below.refl w.heap.size w)
  have H : ((rubricatorref14_Grammar.f k a0).bind fun bt135 => (if bt135.1 = true then (rubricatorref14_Parse.l0 k a0 bt135.2.1 bt135.2.2 0 false (⟨#[]⟩ : ByteArray) 0) else (some (false, (⟨#[]⟩ : ByteArray), 0, 11)))) = some (r1, r2, r3, r4) := h
  clear h
  replace H := Option.bind_eq_some_iff.mp H
  obtain ⟨⟨t135, t136, t137⟩, A20, H⟩ := H
  replace H : (if t135 = true then (rubricatorref14_Parse.l0 k a0 t136 t137 0 false (⟨#[]⟩ : ByteArray) 0) else (some (false, (⟨#[]⟩ : ByteArray), 0, 11))) = some (r1, r2, r3, r4) := H
  have A2 := Aside0.mk A20
  clear A20
  by_cases c3 : t135 = true
  · subst c3
    have H1 : (rubricatorref14_Parse.l0 k a0 t136 t137 0 false (⟨#[]⟩ : ByteArray) 0) = some (r1, r2, r3, r4) := by rw [if_pos rfl] at H; exact H
    clear H
    have H := H1
    clear H1
    have H' := Aside0.mk H
    clear H
    go_enter Tryd.func12, Tryd.ntmps12
    go_wp2_with (first | ((with_reducible refine gate_dst (N := 2) rfl ?_); (try (refine gate_guard (by rfl) ?_; dsimp only)); refine box_event ?hg (N := 2) ?hd (cs := #[.bool false, .string (⟨#[]⟩ : ByteArray), .int .i64 0]) (t := 28) ?hr ?_; (case hd => rfl); (case hg => rfl); (case hr => first | (go_simp; done) | (go_simp; rfl)); intro gb134 hg w4 hbox hb; have n0_ := Aside0.mk (below_step (by repeat (first | (with_reducible first | exact HB.out | apply below_alloc | apply pw_below_drewN | apply below_drew1) | exact HB.out)) hb); have n1_ := Aside0.mk (hbox); have n2_ := Aside0.mk ((by rw [hg]; exact (below_size (by repeat (first | (with_reducible first | exact HB.out | apply below_alloc | apply pw_below_drewN | apply below_drew1) | exact HB.out))) : w.heap.size ≤ gb134)); have n3_ := Aside0.mk ((by rw [hg]; exact (below_size (by repeat (first | (with_reducible first | exact HB.out | apply below_alloc | apply pw_below_drewN | apply below_drew1) | exact HB.out))) : w.heap.size ≤ gb134)); clear HB; have HB := n0_; have BK134 := n1_; have GW134 := n2_; have GE134 := n3_; clear n0_ n1_ n2_ n3_; clear hb hbox hg) | ((with_reducible refine gate_callee (f := 20) rfl ?_); refine goesL_ (some 15) rfl rfl Tryd.func20 (by kernel_rfl) rfl #[.string a0] rfl (by (try simp only [List.map_toArray, List.map_cons, List.map_nil]); first | done | rfl | (simp only [List.length_drop, List.length_take]; rfl)) ?_; (with_reducible refine (rubricatorref14_Grammar.calls k a0 true t136 t137 _ A2.out).mono ?_); rintro e w' ⟨rfl, ⟨nd, rfl⟩⟩; refine ⟨_, rfl, ?_⟩; (try (rw [drewN_self w4]; generalize hq_ : World.drewN w4 _ = w4; have n0_ : Aside0 (w4.heap[gb134]? = some (.cells #[.bool false, .string (⟨#[]⟩ : ByteArray), .int .i64 0] 28 (0, 0))) := ⟨by rw [← hq_]; exact (by (with_reducible repeat (first | refine blk_drewN ?_ _ | refine blk_drew ?_ | refine blk_alloc ?_ _)); exact BK134.out)⟩; have n1_ : Aside0 (Below w.heap.size w w4) := ⟨by rw [← hq_]; exact (by repeat (first | (with_reducible first | exact HB.out | apply below_alloc | apply pw_below_drewN | apply below_drew1 | refine below_set ?_ GE134.out) | exact HB.out))⟩; clear BK134 HB hq_; have BK134 := n0_; have HB := n1_; clear n0_ n1_))) | ((with_reducible refine gate_dst (N := 7) rfl ?_); (try (refine gate_guard (by rfl) ?_; dsimp only)); refine box_event ?hg (N := 7) ?hd (cs := #[.bool false, .string (⟨#[]⟩ : ByteArray), .int .i64 0]) (t := 28) ?hr ?_; (case hd => rfl); (case hg => rfl); (case hr => first | (go_simp; done) | (go_simp; rfl)); intro gb138 hg w5 hbox hb; have n0_ := Aside0.mk (blk_below (g := gb134) (o := .cells #[.bool false, .string (⟨#[]⟩ : ByteArray), .int .i64 0] 28 (0, 0)) (by (with_reducible repeat (first | refine blk_drewN ?_ _ | refine blk_drew ?_ | refine blk_alloc ?_ _)); exact BK134.out) hb); have n1_ := Aside0.mk (below_step (by repeat (first | (with_reducible first | exact HB.out | apply below_alloc | apply pw_below_drewN | apply below_drew1 | refine below_set ?_ GE134.out) | exact HB.out)) hb); have n2_ := Aside0.mk (hbox); have n3_ := Aside0.mk ((by rw [hg]; exact (below_size (by repeat (first | (with_reducible first | exact HB.out | apply below_alloc | apply pw_below_drewN | apply below_drew1 | refine below_set ?_ GE134.out) | exact HB.out))) : w.heap.size ≤ gb138)); have n4_ := Aside0.mk ((by rw [hg]; exact (below_size (by repeat (first | (with_reducible first | exact HB.out | apply below_alloc | apply pw_below_drewN | apply below_drew1 | refine below_set ?_ GE134.out) | exact HB.out))) : w.heap.size ≤ gb138)); have n5_ := Aside0.mk ((by rw [hg]; exact Nat.ne_of_lt (blk_lt (g := gb134) (o := .cells #[.bool false, .string (⟨#[]⟩ : ByteArray), .int .i64 0] 28 (0, 0)) (by (with_reducible repeat (first | refine blk_drewN ?_ _ | refine blk_drew ?_ | refine blk_alloc ?_ _)); exact BK134.out)) : gb134 ≠ gb138)); have n6_ := Aside0.mk ((by rw [hg]; exact Nat.ne_of_gt (blk_lt (g := gb134) (o := .cells #[.bool false, .string (⟨#[]⟩ : ByteArray), .int .i64 0] 28 (0, 0)) (by (with_reducible repeat (first | refine blk_drewN ?_ _ | refine blk_drew ?_ | refine blk_alloc ?_ _)); exact BK134.out)) : gb138 ≠ gb134)); clear BK134; clear HB; have BK134 := n0_; have HB := n1_; have BK138 := n2_; have GW138 := n3_; have GE138 := n4_; have NB134_138 := n5_; have NB138_134 := n6_; clear n0_ n1_ n2_ n3_ n4_ n5_ n6_; clear hb hbox hg; have hnb6 := NB138_134.out; have hnc6 := NB134_138.out; have hcz7_0 : w5.cell? ⟨gb138, 0, none⟩ = some (.bool false) := (blk_cell BK138.out 0).trans rfl; have hcz7_1 : w5.cell? ⟨gb138, 1, none⟩ = some (.string (⟨#[]⟩ : ByteArray)) := (blk_cell BK138.out 1).trans rfl; have hcz7_2 : w5.cell? ⟨gb138, 2, none⟩ = some (.int .i64 0) := (blk_cell BK138.out 2).trans rfl; have hfz7_0 := blk_frozen BK138.out 0; have hfz7_1 := blk_frozen BK138.out 1; have hfz7_2 := blk_frozen BK138.out 2))
    go_loopg [8] k (fun kq v8 w' => ∃ (x8_1 : Int) (x139000_1 : Bool) (x139001_1 : ByteArray), v8 = .int .i64 x8_1 ∧ Aside0 (rubricatorref14_Parse.l0 kq a0 t136 t137 x8_1 x139000_1 x139001_1 0 = some (r1, r2, r3, r4)) ∧ Aside0 (kq ≤ k) ∧ Aside0 (w'.heap[gb134]? = some (.cells #[.bool false, .string (⟨#[]⟩ : ByteArray), .int .i64 0] 28 (0, 0))) ∧ Aside0 (w'.heap[gb138]? = some (.cells #[.bool x139000_1, .string x139001_1, .int .i64 0] 28 (0, 0))) ∧ Aside0 (Below w.heap.size w w'))
    case atStart => exact ⟨(0), (false), ((⟨#[]⟩ : ByteArray)), (by first | rfl | (simp; done) | (simp [*]; done) | (simp [wrap64]; done)), H', ⟨Nat.le_refl _⟩, ⟨by (with_reducible repeat (first | refine blk_drewN ?_ _ | refine blk_drew ?_ | refine blk_alloc ?_ _)); refine blk_far ?_ NB134_138.out _; (with_reducible repeat (first | refine blk_drewN ?_ _ | refine blk_drew ?_ | refine blk_alloc ?_ _)); refine blk_far ?_ NB134_138.out _; (with_reducible repeat (first | refine blk_drewN ?_ _ | refine blk_drew ?_ | refine blk_alloc ?_ _)); refine blk_far ?_ NB134_138.out _; (with_reducible repeat (first | refine blk_drewN ?_ _ | refine blk_drew ?_ | refine blk_alloc ?_ _)); exact BK134.out⟩, ⟨by (with_reducible repeat (first | refine blk_drewN ?_ _ | refine blk_drew ?_ | refine blk_alloc ?_ _)); refine blk_put (cs := #[.bool false, .string (⟨#[]⟩ : ByteArray), .int .i64 0]) ?_ 2 _ rfl; (with_reducible repeat (first | refine blk_drewN ?_ _ | refine blk_drew ?_ | refine blk_alloc ?_ _)); refine blk_put (cs := #[.bool false, .string (⟨#[]⟩ : ByteArray), .int .i64 0]) ?_ 1 _ rfl; (with_reducible repeat (first | refine blk_drewN ?_ _ | refine blk_drew ?_ | refine blk_alloc ?_ _)); refine blk_put (cs := #[.bool false, .string (⟨#[]⟩ : ByteArray), .int .i64 0]) ?_ 0 _ rfl; (with_reducible repeat (first | refine blk_drewN ?_ _ | refine blk_drew ?_ | refine blk_alloc ?_ _)); exact BK138.out⟩, ⟨by repeat (first | (with_reducible first | exact HB.out | apply below_alloc | apply pw_below_drewN | apply below_drew1 | refine below_set ?_ GE134.out | refine below_set ?_ GE138.out) | exact HB.out)⟩⟩
    case round =>
      clear H'
      try clear c1
      try clear c2
      try clear p2
      try clear c3
      try clear c6
      try clear hcz7_0
      try clear hcz7_1
      try clear hcz7_2
      try clear hfz7_0
      try clear hfz7_1
      try clear hfz7_2
      obtain ⟨x8_1, x139000_1, x139001_1, rfl, HA, HK1, BK134, BK138, HB⟩ := hrel
      cases gk with
      | zero => exact absurd HA.out (by simp [rubricatorref14_Parse.l0])
      | succ k1 =>
        have H := HA.out
        clear HA
        simp only [rubricatorref14_Parse.l0] at H
        by_cases c8 : x8_1 < t137
        · rw [if_pos c8] at H
          have c8b0 : decide (x8_1 < t137) = true := decide_eq_true c8
          clear c8
          by_cases c9 : 0 ≤ x8_1
          · rw [if_pos c9] at H
            have c9b0 : decide (0 ≤ x8_1) = true := decide_eq_true c9
            clear c9
            by_cases c10 : x8_1 < (a0.size : Int)
            · rw [if_pos c10] at H
              have c10b0 : decide (x8_1 < (a0.size : Int)) = true := decide_eq_true c10
              clear c10
              by_cases c12 : (bt a0 x8_1) = 45
              · rw [if_pos c12] at H
                have c12b0 : ((bt a0 x8_1) == 45) = true := beq_iff_eq.mpr c12
                have c12b1 : ((bt a0 x8_1) != 45) = false := bne_eq_false_iff_eq.mpr c12
                clear c12
                have H' := Aside0.mk H
                clear H
                have p11 : 0 ≤ (x8_1 : Int) := of_decide_eq_true (by first | (with_reducible assumption) | assumption)
                have q11 : x8_1 < (a0.size : Int) := of_decide_eq_true (by first | (with_reducible assumption) | assumption)
                have hx11 := bt_at a0 x8_1
                replace p11 := eq_true p11
                replace q11 := eq_true q11
                have hnb13 := NB138_134.out
                have hnc13 := NB134_138.out
                have hcz14_0 : wr.cell? ⟨gb138, 0, none⟩ = some (.bool x139000_1) := (blk_cell BK138.out 0).trans rfl
                have hcz14_1 : wr.cell? ⟨gb138, 1, none⟩ = some (.string x139001_1) := (blk_cell BK138.out 1).trans rfl
                have hcz14_2 : wr.cell? ⟨gb138, 2, none⟩ = some (.int .i64 0) := (blk_cell BK138.out 2).trans rfl
                have hfz14_0 := blk_frozen BK138.out 0
                have hfz14_1 := blk_frozen BK138.out 1
                have hfz14_2 := blk_frozen BK138.out 2
                go_wp2
                go_roundg k1
                case measure => have := HK1.out; omega
                case rel => exact ⟨(wrap64 (x8_1 + 1)), (true), (x139001_1), (by first | rfl | (simp; done) | (simp [*]; done) | (simp [wrap64]; done)), (by first | exact H' | (rw [hji49]; exact H') | (rw [hji56]; exact H')), ⟨by have := HK1.out; omega⟩, ⟨by (with_reducible repeat (first | refine blk_drewN ?_ _ | refine blk_drew ?_ | refine blk_alloc ?_ _)); refine blk_far ?_ NB134_138.out _; (with_reducible repeat (first | refine blk_drewN ?_ _ | refine blk_drew ?_ | refine blk_alloc ?_ _)); exact BK134.out⟩, ⟨by (with_reducible repeat (first | refine blk_drewN ?_ _ | refine blk_drew ?_ | refine blk_alloc ?_ _)); refine blk_put (cs := #[.bool x139000_1, .string x139001_1, .int .i64 0]) ?_ 0 _ rfl; (with_reducible repeat (first | refine blk_drewN ?_ _ | refine blk_drew ?_ | refine blk_alloc ?_ _)); exact BK138.out⟩, ⟨by repeat (first | (with_reducible first | exact HB.out | apply below_alloc | apply pw_below_drewN | apply below_drew1 | refine below_set ?_ GE134.out | refine below_set ?_ GE138.out) | exact HB.out)⟩⟩
              · rw [if_neg c12] at H
                have c12b0 : ((bt a0 x8_1) == 45) = false := beq_eq_false_iff_ne.mpr c12
                have c12b1 : ((bt a0 x8_1) != 45) = true := bne_iff_ne.mpr c12
                by_cases c16 : (bt a0 x8_1) = 46
                · rw [if_pos c16] at H
                  have c16b0 : ((bt a0 x8_1) == 46) = true := beq_iff_eq.mpr c16
                  have c16b1 : ((bt a0 x8_1) != 46) = false := bne_eq_false_iff_eq.mpr c16
                  clear c16
                  have H' := Aside0.mk H
                  clear H
                  have p11 : 0 ≤ (x8_1 : Int) := of_decide_eq_true (by first | (with_reducible assumption) | assumption)
                  have q11 : x8_1 < (a0.size : Int) := of_decide_eq_true (by first | (with_reducible assumption) | assumption)
                  have hx11 := bt_at a0 x8_1
                  replace p11 := eq_true p11
                  replace q11 := eq_true q11
                  have p15 : 0 ≤ (x8_1 : Int) := of_decide_eq_true (by first | (with_reducible assumption) | assumption)
                  have q15 : x8_1 < (a0.size : Int) := of_decide_eq_true (by first | (with_reducible assumption) | assumption)
                  have hx15 := bt_at a0 x8_1
                  replace p15 := eq_true p15
                  replace q15 := eq_true q15
                  go_wp2
                  go_roundg k1
                  case measure => have := HK1.out; omega
                  case rel => exact ⟨(wrap64 (x8_1 + 1)), (x139000_1), (x139001_1), (by first | rfl | (simp; done) | (simp [*]; done) | (simp [wrap64]; done)), (by first | exact H' | (rw [hji49]; exact H') | (rw [hji56]; exact H')), ⟨by have := HK1.out; omega⟩, ⟨by (with_reducible repeat (first | refine blk_drewN ?_ _ | refine blk_drew ?_ | refine blk_alloc ?_ _)); exact BK134.out⟩, ⟨by (with_reducible repeat (first | refine blk_drewN ?_ _ | refine blk_drew ?_ | refine blk_alloc ?_ _)); exact BK138.out⟩, ⟨by repeat (first | (with_reducible first | exact HB.out | apply below_alloc | apply pw_below_drewN | apply below_drew1 | refine below_set ?_ GE134.out | refine below_set ?_ GE138.out) | exact HB.out)⟩⟩
                · rw [if_neg c16] at H
                  have c16b0 : ((bt a0 x8_1) == 46) = false := beq_eq_false_iff_ne.mpr c16
                  have c16b1 : ((bt a0 x8_1) != 46) = true := bne_iff_ne.mpr c16
                  by_cases c17 : x139001_1.toList = ([] : List UInt8)
                  · rw [if_pos c17] at H
                    have c17b0 : (x139001_1.toList == ([] : List UInt8)) = true := beq_iff_eq.mpr c17
                    have c17b7 : x139001_1.toList.isEmpty = true := by rw [← beq_nil_isEmpty]; exact c17b0
                    have c17b1 : (x139001_1.toList != ([] : List UInt8)) = false := bne_eq_false_iff_eq.mpr c17
                    clear c17
                    by_cases c19 : (bt a0 x8_1) = 48
                    · rw [if_pos c19] at H
                      have c19b0 : ((bt a0 x8_1) == 48) = true := beq_iff_eq.mpr c19
                      have c19b1 : ((bt a0 x8_1) != 48) = false := bne_eq_false_iff_eq.mpr c19
                      clear c19
                      have H' := Aside0.mk H
                      clear H
                      have p11 : 0 ≤ (x8_1 : Int) := of_decide_eq_true (by first | (with_reducible assumption) | assumption)
                      have q11 : x8_1 < (a0.size : Int) := of_decide_eq_true (by first | (with_reducible assumption) | assumption)
                      have hx11 := bt_at a0 x8_1
                      replace p11 := eq_true p11
                      replace q11 := eq_true q11
                      have p15 : 0 ≤ (x8_1 : Int) := of_decide_eq_true (by first | (with_reducible assumption) | assumption)
                      have q15 : x8_1 < (a0.size : Int) := of_decide_eq_true (by first | (with_reducible assumption) | assumption)
                      have hx15 := bt_at a0 x8_1
                      replace p15 := eq_true p15
                      replace q15 := eq_true q15
                      have hnb20 := NB138_134.out
                      have hnc20 := NB134_138.out
                      have hcz21_0 : wr.cell? ⟨gb138, 0, none⟩ = some (.bool x139000_1) := (blk_cell BK138.out 0).trans rfl
                      have hcz21_1 : wr.cell? ⟨gb138, 1, none⟩ = some (.string x139001_1) := (blk_cell BK138.out 1).trans rfl
                      have hcz21_2 : wr.cell? ⟨gb138, 2, none⟩ = some (.int .i64 0) := (blk_cell BK138.out 2).trans rfl
                      have hfz21_0 := blk_frozen BK138.out 0
                      have hfz21_1 := blk_frozen BK138.out 1
                      have hfz21_2 := blk_frozen BK138.out 2
                      have p18 : 0 ≤ (x8_1 : Int) := of_decide_eq_true (by first | (with_reducible assumption) | assumption)
                      have q18 : x8_1 < (a0.size : Int) := of_decide_eq_true (by first | (with_reducible assumption) | assumption)
                      have hx18 := bt_at a0 x8_1
                      replace p18 := eq_true p18
                      replace q18 := eq_true q18
                      go_wp2
                      go_roundg k1
                      case measure => have := HK1.out; omega
                      case rel => exact ⟨(wrap64 (x8_1 + 1)), (x139000_1), (x139001_1), (by first | rfl | (simp; done) | (simp [*]; done) | (simp [wrap64]; done)), (by first | exact H' | (rw [hji49]; exact H') | (rw [hji56]; exact H')), ⟨by have := HK1.out; omega⟩, ⟨by (with_reducible repeat (first | refine blk_drewN ?_ _ | refine blk_drew ?_ | refine blk_alloc ?_ _)); exact BK134.out⟩, ⟨by (with_reducible repeat (first | refine blk_drewN ?_ _ | refine blk_drew ?_ | refine blk_alloc ?_ _)); exact BK138.out⟩, ⟨by repeat (first | (with_reducible first | exact HB.out | apply below_alloc | apply pw_below_drewN | apply below_drew1 | refine below_set ?_ GE134.out | refine below_set ?_ GE138.out) | exact HB.out)⟩⟩
                    · rw [if_neg c19] at H
                      have c19b0 : ((bt a0 x8_1) == 48) = false := beq_eq_false_iff_ne.mpr c19
                      have c19b1 : ((bt a0 x8_1) != 48) = true := bne_iff_ne.mpr c19
                      have c22b0 := eq_true (of_decide_eq_true (by first | (with_reducible assumption) | assumption) : 0 ≤ x8_1)
                      by_cases c23 : x8_1 ≤ (wrap64 (x8_1 + 1))
                      · rw [if_pos c23] at H
                        have c23b0 := eq_true c23
                        have c23b1 : decide (x8_1 ≤ (wrap64 (x8_1 + 1))) = true := decide_eq_true c23
                        by_cases c24 : (wrap64 (x8_1 + 1)) ≤ (a0.size : Int)
                        · rw [if_pos c24] at H
                          have c24b0 := eq_true c24
                          have c24b1 : decide ((wrap64 (x8_1 + 1)) ≤ (a0.size : Int)) = true := decide_eq_true c24
                          by_cases c25 : x139001_1.size + (a0.extract (x8_1 : Int).toNat ((wrap64 (x8_1 + 1)) : Int).toNat).size ≤ 9223372036854775807
                          · rw [if_pos c25] at H
                            have c25b0 := eq_true c25
                            try have c25b8 : (9223372036854775807 < x139001_1.size + ((wrap64 (x8_1 + 1)).toNat - x8_1.toNat)) = False := eq_false (Nat.not_lt.2 (by have h_ := c25; have g0_ : (wrap64 (x8_1 + 1) : Int) ≤ (a0.size : Int) := of_decide_eq_true (by first | (with_reducible assumption) | assumption); simp only [ByteArray.size_extract, ByteArray.size_append] at h_; omega))
                            have c25b1 : decide (x139001_1.size + (a0.extract (x8_1 : Int).toNat ((wrap64 (x8_1 + 1)) : Int).toNat).size ≤ 9223372036854775807) = true := decide_eq_true c25
                            try have c25b2 : (9223372036854775807 < x139001_1.size + (a0.extract (x8_1 : Int).toNat ((wrap64 (x8_1 + 1)) : Int).toNat).size) = False := eq_false (Nat.not_lt.2 c25)
                            have H' := Aside0.mk H
                            clear H
                            have p11 : 0 ≤ (x8_1 : Int) := of_decide_eq_true (by first | (with_reducible assumption) | assumption)
                            have q11 : x8_1 < (a0.size : Int) := of_decide_eq_true (by first | (with_reducible assumption) | assumption)
                            have hx11 := bt_at a0 x8_1
                            replace p11 := eq_true p11
                            replace q11 := eq_true q11
                            have p15 : 0 ≤ (x8_1 : Int) := of_decide_eq_true (by first | (with_reducible assumption) | assumption)
                            have q15 : x8_1 < (a0.size : Int) := of_decide_eq_true (by first | (with_reducible assumption) | assumption)
                            have hx15 := bt_at a0 x8_1
                            replace p15 := eq_true p15
                            replace q15 := eq_true q15
                            have hnb26 := NB138_134.out
                            have hnc26 := NB134_138.out
                            have hcz27_0 : wr.cell? ⟨gb138, 0, none⟩ = some (.bool x139000_1) := (blk_cell BK138.out 0).trans rfl
                            have hcz27_1 : wr.cell? ⟨gb138, 1, none⟩ = some (.string x139001_1) := (blk_cell BK138.out 1).trans rfl
                            have hcz27_2 : wr.cell? ⟨gb138, 2, none⟩ = some (.int .i64 0) := (blk_cell BK138.out 2).trans rfl
                            have hfz27_0 := blk_frozen BK138.out 0
                            have hfz27_1 := blk_frozen BK138.out 1
                            have hfz27_2 := blk_frozen BK138.out 2
                            have p18 : 0 ≤ (x8_1 : Int) := of_decide_eq_true (by first | (with_reducible assumption) | assumption)
                            have q18 : x8_1 < (a0.size : Int) := of_decide_eq_true (by first | (with_reducible assumption) | assumption)
                            have hx18 := bt_at a0 x8_1
                            replace p18 := eq_true p18
                            replace q18 := eq_true q18
                            try go_wp2
                            have n0_ := Aside0.mk (blk_drew BK134.out)
                            have n1_ := Aside0.mk (blk_drew BK138.out)
                            have n2_ := Aside0.mk (below_drew1 HB.out)
                            clear BK134
                            clear BK138
                            clear HB
                            have BK134 := n0_
                            have BK138 := n1_
                            have HB := n2_
                            clear n0_ n1_ n2_
                            refine start_ (n := 10) (S := fun w' => w'.cell? ⟨gb138, 0, none⟩ = some (.bool x139000_1) ∧ w'.cell? ⟨gb138, 1, none⟩ = some (.string x139001_1) ∧ w'.cell? ⟨gb138, 2, none⟩ = some (.int .i64 0)) (ds := [9]) #[false, false, false, false, false, false, false, false, false, false] (by kernel_rfl) rfl rfl ⟨(blk_cell BK138.out 0).trans rfl, (blk_cell BK138.out 1).trans rfl, (blk_cell BK138.out 2).trans rfl⟩ (fun hHeld => ?_); refine with_tabW rubricatorref14_Parse.tab11 rubricatorref14_Parse.bits11 (fun HT_ HW_ => ?_)
                            generalize wr.drew = w28 at BK134 BK138 HB hHeld ⊢
                            refine pure_ (i := 0) (N := some 48) (v := ?_) (a' := ?_) #[true, false, false, false, false, false, false, false, false, false] rfl rfl (any_of HT_.out (by kernel_rfl)) (fun _ _ _ h => h) (Or.inl ⟨by rfl, ?_⟩) ?_ ?_
                            rotate_left
                            · intro w'
                              go_simp
                              with_reducible rfl
                            rotate_left
                            · simp only [Act.put, List.setIfInBounds_toArray, List.set_cons_zero, List.set_cons_succ, i64_w, i32_w]
                              rfl
                            refine pure_ (i := 2) (N := some 50) (v := ?_) (a' := ?_) #[true, false, true, false, false, false, false, false, false, false] rfl rfl (any_of HT_.out (by kernel_rfl)) (fun _ _ _ h => h) (Or.inl ⟨by rfl, ?_⟩) ?_ ?_
                            rotate_left
                            · intro w'
                              go_simp
                              with_reducible rfl
                            rotate_left
                            · simp only [Act.put, List.setIfInBounds_toArray, List.set_cons_zero, List.set_cons_succ, i64_w, i32_w]
                              rfl
                            refine pure_ (i := 3) (N := some 51) (v := ?_) (a' := ?_) #[true, false, true, true, false, false, false, false, false, false] rfl rfl (any_of HT_.out (by kernel_rfl)) (fun _ _ _ h => h) (Or.inl ⟨by rfl, ?_⟩) ?_ ?_
                            rotate_left
                            · intro w'
                              go_simp
                              with_reducible rfl
                            rotate_left
                            · simp only [Act.put, List.setIfInBounds_toArray, List.set_cons_zero, List.set_cons_succ, i64_w, i32_w]
                              rfl
                            refine pure_ (i := 4) (N := some 52) (v := ?_) (a' := ?_) #[true, false, true, true, true, false, false, false, false, false] rfl rfl (any_of HT_.out (by kernel_rfl)) (fun _ _ _ h => h) (Or.inl ⟨by rfl, ?_⟩) ?_ ?_
                            rotate_left
                            · intro w'
                              go_simp
                              with_reducible rfl
                            rotate_left
                            · simp only [Act.put, List.setIfInBounds_toArray, List.set_cons_zero, List.set_cons_succ, i64_w, i32_w]
                              rfl
                            refine pure_ (i := 5) (N := some 53) (v := ?_) (a' := ?_) #[true, false, true, true, true, true, false, false, false, false] rfl rfl (any_of HT_.out (by kernel_rfl)) (fun _ _ _ h => h) (Or.inl ⟨by rfl, ?_⟩) ?_ ?_
                            rotate_left
                            · intro w'
                              go_simp
                              with_reducible rfl
                            rotate_left
                            · simp only [Act.put, List.setIfInBounds_toArray, List.set_cons_zero, List.set_cons_succ, i64_w, i32_w]
                              rfl
                            refine pure_ (i := 6) (N := some 54) (v := ?_) (a' := ?_) #[true, false, true, true, true, true, true, false, false, false] rfl rfl (any_of HT_.out (by kernel_rfl)) (fun _ _ _ h => h) (Or.inl ⟨by rfl, ?_⟩) ?_ ?_
                            rotate_left
                            · intro w'
                              go_simp
                              with_reducible rfl
                            rotate_left
                            · simp only [Act.put, List.setIfInBounds_toArray, List.set_cons_zero, List.set_cons_succ, i64_w, i32_w]
                              rfl
                            refine take_ (i := 1) (N := some 49) (v := ?_) (a' := ?_) #[true, true, true, true, true, true, true, false, false, false] rfl rfl (take_ofW HT_.out HW_.out (by kernel_rfl)) (fun _ _ _ h => h) (Or.inl ⟨by rfl, ?_⟩) hHeld ?_ ?_
                            rotate_left
                            · rintro w' ⟨s0, s1, s2⟩
                              go_simp
                              with_reducible rfl
                            rotate_left
                            · simp only [Act.put, List.setIfInBounds_toArray, List.set_cons_zero, List.set_cons_succ, i64_w, i32_w]
                              rfl
                            refine pure_ (i := 7) (N := some 55) (v := ?_) (a' := ?_) #[true, true, true, true, true, true, true, true, false, false] rfl rfl (any_of HT_.out (by kernel_rfl)) (fun _ _ _ h => h) (Or.inl ⟨by rfl, ?_⟩) ?_ ?_
                            rotate_left
                            · intro w'
                              go_simp
                              with_reducible rfl
                            rotate_left
                            · simp only [Act.put, List.setIfInBounds_toArray, List.set_cons_zero, List.set_cons_succ, i64_w, i32_w]
                              rfl
                            refine pure_ (i := 8) (N := some 56) (v := ?_) (a' := ?_) #[true, true, true, true, true, true, true, true, true, false] rfl rfl (any_of HT_.out (by kernel_rfl)) (fun _ _ _ h => h) (Or.inl ⟨by rfl, ?_⟩) ?_ ?_
                            rotate_left
                            · intro w'
                              go_simp
                              with_reducible rfl
                            rotate_left
                            · simp only [Act.put, List.setIfInBounds_toArray, List.set_cons_zero, List.set_cons_succ, i64_w, i32_w]
                              rfl
                            refine last_ (i := 9) (N := none) #[true, true, true, true, true, true, true, true, true, true] rfl rfl (one_of HT_.out (by kernel_rfl)) (by decide) (fun K hK => ?_)
                            have hs29 : w28.cell? ⟨gb138, 1, none⟩ = some (.string x139001_1) := (blk_cell BK138.out 1).trans rfl
                            have hfs29 := blk_frozen BK138.out 1
                            have hns29_0 := NB134_138.out
                            have hms29_0 := NB138_134.out
                            refine skip_ (w1 := ?_) (by rfl) rfl ?_ ?_
                            rotate_left
                            · go_simp
                              rfl
                            refine hK.out _ _ ?_
                            clear hK K
                            refine done_ (done_of HT_.out (by kernel_rfl)) ?_
                            try go_wp2
                            go_roundg k1
                            case measure => have := HK1.out; omega
                            case rel => exact ⟨(wrap64 (x8_1 + 1)), (x139000_1), (x139001_1 ++ (a0.extract (x8_1 : Int).toNat ((wrap64 (x8_1 + 1)) : Int).toNat)), (by first | rfl | (simp; done) | (simp [*]; done) | (simp [wrap64]; done)), (by first | exact H' | (rw [hji49]; exact H') | (rw [hji56]; exact H')), ⟨by have := HK1.out; omega⟩, ⟨by (with_reducible repeat (first | refine blk_drewN ?_ _ | refine blk_drew ?_ | refine blk_alloc ?_ _)); refine blk_far ?_ NB134_138.out _; (with_reducible repeat (first | refine blk_drewN ?_ _ | refine blk_drew ?_ | refine blk_alloc ?_ _)); exact BK134.out⟩, ⟨by (with_reducible repeat (first | refine blk_drewN ?_ _ | refine blk_drew ?_ | refine blk_alloc ?_ _)); refine blk_put (cs := #[.bool x139000_1, .string x139001_1, .int .i64 0]) ?_ 1 _ rfl; (with_reducible repeat (first | refine blk_drewN ?_ _ | refine blk_drew ?_ | refine blk_alloc ?_ _)); exact BK138.out⟩, ⟨by repeat (first | (with_reducible first | exact HB.out | apply below_alloc | apply pw_below_drewN | apply below_drew1 | refine below_set ?_ GE134.out | refine below_set ?_ GE138.out) | exact HB.out)⟩⟩
                          · rw [if_neg c25] at H
                            exact absurd H (by simp)
                        · rw [if_neg c24] at H
                          exact absurd H (by simp)
                      · rw [if_neg c23] at H
                        exact absurd H (by simp)
                  · rw [if_neg c17] at H
                    have c17b0 : (x139001_1.toList == ([] : List UInt8)) = false := beq_eq_false_iff_ne.mpr c17
                    have c17b7 : x139001_1.toList.isEmpty = false := by rw [← beq_nil_isEmpty]; exact c17b0
                    have c17b1 : (x139001_1.toList != ([] : List UInt8)) = true := bne_iff_ne.mpr c17
                    have c30b0 := eq_true (of_decide_eq_true (by first | (with_reducible assumption) | assumption) : 0 ≤ x8_1)
                    by_cases c31 : x8_1 ≤ (wrap64 (x8_1 + 1))
                    · rw [if_pos c31] at H
                      have c31b0 := eq_true c31
                      have c31b1 : decide (x8_1 ≤ (wrap64 (x8_1 + 1))) = true := decide_eq_true c31
                      by_cases c32 : (wrap64 (x8_1 + 1)) ≤ (a0.size : Int)
                      · rw [if_pos c32] at H
                        have c32b0 := eq_true c32
                        have c32b1 : decide ((wrap64 (x8_1 + 1)) ≤ (a0.size : Int)) = true := decide_eq_true c32
                        by_cases c33 : x139001_1.size + (a0.extract (x8_1 : Int).toNat ((wrap64 (x8_1 + 1)) : Int).toNat).size ≤ 9223372036854775807
                        · rw [if_pos c33] at H
                          have c33b0 := eq_true c33
                          try have c33b8 : (9223372036854775807 < x139001_1.size + ((wrap64 (x8_1 + 1)).toNat - x8_1.toNat)) = False := eq_false (Nat.not_lt.2 (by have h_ := c33; have g0_ : (wrap64 (x8_1 + 1) : Int) ≤ (a0.size : Int) := of_decide_eq_true (by first | (with_reducible assumption) | assumption); simp only [ByteArray.size_extract, ByteArray.size_append] at h_; omega))
                          have c33b1 : decide (x139001_1.size + (a0.extract (x8_1 : Int).toNat ((wrap64 (x8_1 + 1)) : Int).toNat).size ≤ 9223372036854775807) = true := decide_eq_true c33
                          try have c33b2 : (9223372036854775807 < x139001_1.size + (a0.extract (x8_1 : Int).toNat ((wrap64 (x8_1 + 1)) : Int).toNat).size) = False := eq_false (Nat.not_lt.2 c33)
                          have H' := Aside0.mk H
                          clear H
                          have p11 : 0 ≤ (x8_1 : Int) := of_decide_eq_true (by first | (with_reducible assumption) | assumption)
                          have q11 : x8_1 < (a0.size : Int) := of_decide_eq_true (by first | (with_reducible assumption) | assumption)
                          have hx11 := bt_at a0 x8_1
                          replace p11 := eq_true p11
                          replace q11 := eq_true q11
                          have p15 : 0 ≤ (x8_1 : Int) := of_decide_eq_true (by first | (with_reducible assumption) | assumption)
                          have q15 : x8_1 < (a0.size : Int) := of_decide_eq_true (by first | (with_reducible assumption) | assumption)
                          have hx15 := bt_at a0 x8_1
                          replace p15 := eq_true p15
                          replace q15 := eq_true q15
                          have hnb34 := NB138_134.out
                          have hnc34 := NB134_138.out
                          have hcz35_0 : wr.cell? ⟨gb138, 0, none⟩ = some (.bool x139000_1) := (blk_cell BK138.out 0).trans rfl
                          have hcz35_1 : wr.cell? ⟨gb138, 1, none⟩ = some (.string x139001_1) := (blk_cell BK138.out 1).trans rfl
                          have hcz35_2 : wr.cell? ⟨gb138, 2, none⟩ = some (.int .i64 0) := (blk_cell BK138.out 2).trans rfl
                          have hfz35_0 := blk_frozen BK138.out 0
                          have hfz35_1 := blk_frozen BK138.out 1
                          have hfz35_2 := blk_frozen BK138.out 2
                          try go_wp2
                          have n0_ := Aside0.mk (blk_drew BK134.out)
                          have n1_ := Aside0.mk (blk_drew BK138.out)
                          have n2_ := Aside0.mk (below_drew1 HB.out)
                          clear BK134
                          clear BK138
                          clear HB
                          have BK134 := n0_
                          have BK138 := n1_
                          have HB := n2_
                          clear n0_ n1_ n2_
                          refine start_ (n := 10) (S := fun w' => w'.cell? ⟨gb138, 0, none⟩ = some (.bool x139000_1) ∧ w'.cell? ⟨gb138, 1, none⟩ = some (.string x139001_1) ∧ w'.cell? ⟨gb138, 2, none⟩ = some (.int .i64 0)) (ds := [9]) #[false, false, false, false, false, false, false, false, false, false] (by kernel_rfl) rfl rfl ⟨(blk_cell BK138.out 0).trans rfl, (blk_cell BK138.out 1).trans rfl, (blk_cell BK138.out 2).trans rfl⟩ (fun hHeld => ?_); refine with_tabW rubricatorref14_Parse.tab11 rubricatorref14_Parse.bits11 (fun HT_ HW_ => ?_)
                          generalize wr.drew = w36 at BK134 BK138 HB hHeld ⊢
                          refine pure_ (i := 0) (N := some 48) (v := ?_) (a' := ?_) #[true, false, false, false, false, false, false, false, false, false] rfl rfl (any_of HT_.out (by kernel_rfl)) (fun _ _ _ h => h) (Or.inl ⟨by rfl, ?_⟩) ?_ ?_
                          rotate_left
                          · intro w'
                            go_simp
                            with_reducible rfl
                          rotate_left
                          · simp only [Act.put, List.setIfInBounds_toArray, List.set_cons_zero, List.set_cons_succ, i64_w, i32_w]
                            rfl
                          refine pure_ (i := 2) (N := some 50) (v := ?_) (a' := ?_) #[true, false, true, false, false, false, false, false, false, false] rfl rfl (any_of HT_.out (by kernel_rfl)) (fun _ _ _ h => h) (Or.inl ⟨by rfl, ?_⟩) ?_ ?_
                          rotate_left
                          · intro w'
                            go_simp
                            with_reducible rfl
                          rotate_left
                          · simp only [Act.put, List.setIfInBounds_toArray, List.set_cons_zero, List.set_cons_succ, i64_w, i32_w]
                            rfl
                          refine pure_ (i := 3) (N := some 51) (v := ?_) (a' := ?_) #[true, false, true, true, false, false, false, false, false, false] rfl rfl (any_of HT_.out (by kernel_rfl)) (fun _ _ _ h => h) (Or.inl ⟨by rfl, ?_⟩) ?_ ?_
                          rotate_left
                          · intro w'
                            go_simp
                            with_reducible rfl
                          rotate_left
                          · simp only [Act.put, List.setIfInBounds_toArray, List.set_cons_zero, List.set_cons_succ, i64_w, i32_w]
                            rfl
                          refine pure_ (i := 4) (N := some 52) (v := ?_) (a' := ?_) #[true, false, true, true, true, false, false, false, false, false] rfl rfl (any_of HT_.out (by kernel_rfl)) (fun _ _ _ h => h) (Or.inl ⟨by rfl, ?_⟩) ?_ ?_
                          rotate_left
                          · intro w'
                            go_simp
                            with_reducible rfl
                          rotate_left
                          · simp only [Act.put, List.setIfInBounds_toArray, List.set_cons_zero, List.set_cons_succ, i64_w, i32_w]
                            rfl
                          refine pure_ (i := 5) (N := some 53) (v := ?_) (a' := ?_) #[true, false, true, true, true, true, false, false, false, false] rfl rfl (any_of HT_.out (by kernel_rfl)) (fun _ _ _ h => h) (Or.inl ⟨by rfl, ?_⟩) ?_ ?_
                          rotate_left
                          · intro w'
                            go_simp
                            with_reducible rfl
                          rotate_left
                          · simp only [Act.put, List.setIfInBounds_toArray, List.set_cons_zero, List.set_cons_succ, i64_w, i32_w]
                            rfl
                          refine pure_ (i := 6) (N := some 54) (v := ?_) (a' := ?_) #[true, false, true, true, true, true, true, false, false, false] rfl rfl (any_of HT_.out (by kernel_rfl)) (fun _ _ _ h => h) (Or.inl ⟨by rfl, ?_⟩) ?_ ?_
                          rotate_left
                          · intro w'
                            go_simp
                            with_reducible rfl
                          rotate_left
                          · simp only [Act.put, List.setIfInBounds_toArray, List.set_cons_zero, List.set_cons_succ, i64_w, i32_w]
                            rfl
                          refine take_ (i := 1) (N := some 49) (v := ?_) (a' := ?_) #[true, true, true, true, true, true, true, false, false, false] rfl rfl (take_ofW HT_.out HW_.out (by kernel_rfl)) (fun _ _ _ h => h) (Or.inl ⟨by rfl, ?_⟩) hHeld ?_ ?_
                          rotate_left
                          · rintro w' ⟨s0, s1, s2⟩
                            go_simp
                            with_reducible rfl
                          rotate_left
                          · simp only [Act.put, List.setIfInBounds_toArray, List.set_cons_zero, List.set_cons_succ, i64_w, i32_w]
                            rfl
                          refine pure_ (i := 7) (N := some 55) (v := ?_) (a' := ?_) #[true, true, true, true, true, true, true, true, false, false] rfl rfl (any_of HT_.out (by kernel_rfl)) (fun _ _ _ h => h) (Or.inl ⟨by rfl, ?_⟩) ?_ ?_
                          rotate_left
                          · intro w'
                            go_simp
                            with_reducible rfl
                          rotate_left
                          · simp only [Act.put, List.setIfInBounds_toArray, List.set_cons_zero, List.set_cons_succ, i64_w, i32_w]
                            rfl
                          refine pure_ (i := 8) (N := some 56) (v := ?_) (a' := ?_) #[true, true, true, true, true, true, true, true, true, false] rfl rfl (any_of HT_.out (by kernel_rfl)) (fun _ _ _ h => h) (Or.inl ⟨by rfl, ?_⟩) ?_ ?_
                          rotate_left
                          · intro w'
                            go_simp
                            with_reducible rfl
                          rotate_left
                          · simp only [Act.put, List.setIfInBounds_toArray, List.set_cons_zero, List.set_cons_succ, i64_w, i32_w]
                            rfl
                          refine last_ (i := 9) (N := none) #[true, true, true, true, true, true, true, true, true, true] rfl rfl (one_of HT_.out (by kernel_rfl)) (by decide) (fun K hK => ?_)
                          have hs37 : w36.cell? ⟨gb138, 1, none⟩ = some (.string x139001_1) := (blk_cell BK138.out 1).trans rfl
                          have hfs37 := blk_frozen BK138.out 1
                          have hns37_0 := NB134_138.out
                          have hms37_0 := NB138_134.out
                          refine skip_ (w1 := ?_) (by rfl) rfl ?_ ?_
                          rotate_left
                          · go_simp
                            rfl
                          refine hK.out _ _ ?_
                          clear hK K
                          refine done_ (done_of HT_.out (by kernel_rfl)) ?_
                          try go_wp2
                          go_roundg k1
                          case measure => have := HK1.out; omega
                          case rel => exact ⟨(wrap64 (x8_1 + 1)), (x139000_1), (x139001_1 ++ (a0.extract (x8_1 : Int).toNat ((wrap64 (x8_1 + 1)) : Int).toNat)), (by first | rfl | (simp; done) | (simp [*]; done) | (simp [wrap64]; done)), (by first | exact H' | (rw [hji49]; exact H') | (rw [hji56]; exact H')), ⟨by have := HK1.out; omega⟩, ⟨by (with_reducible repeat (first | refine blk_drewN ?_ _ | refine blk_drew ?_ | refine blk_alloc ?_ _)); refine blk_far ?_ NB134_138.out _; (with_reducible repeat (first | refine blk_drewN ?_ _ | refine blk_drew ?_ | refine blk_alloc ?_ _)); exact BK134.out⟩, ⟨by (with_reducible repeat (first | refine blk_drewN ?_ _ | refine blk_drew ?_ | refine blk_alloc ?_ _)); refine blk_put (cs := #[.bool x139000_1, .string x139001_1, .int .i64 0]) ?_ 1 _ rfl; (with_reducible repeat (first | refine blk_drewN ?_ _ | refine blk_drew ?_ | refine blk_alloc ?_ _)); exact BK138.out⟩, ⟨by repeat (first | (with_reducible first | exact HB.out | apply below_alloc | apply pw_below_drewN | apply below_drew1 | refine below_set ?_ GE134.out | refine below_set ?_ GE138.out) | exact HB.out)⟩⟩
                        · rw [if_neg c33] at H
                          exact absurd H (by simp)
                      · rw [if_neg c32] at H
                        exact absurd H (by simp)
                    · rw [if_neg c31] at H
                      exact absurd H (by simp)
            · rw [if_neg c10] at H
              exact absurd H (by simp)
          · rw [if_neg c9] at H
            exact absurd H (by simp)
        · rw [if_neg c8] at H
          have c8b0 : decide (x8_1 < t137) = false := decide_eq_false c8
          clear c8
          have HC38 := Aside0.mk H
          clear H
          go_upto_if 59 with (fail)
          go_cut [] (fun wc => ∃ (kq : Nat) (x139002_37 : Int), Aside0 (rubricatorref14_Parse.j1 kq a0 t137 x139000_1 x139001_1 x139002_37 = some (r1, r2, r3, r4)) ∧ Aside0 (kq ≤ k1) ∧ Aside0 (wc.heap[gb134]? = some (.cells #[.bool false, .string (⟨#[]⟩ : ByteArray), .int .i64 0] 28 (0, 0))) ∧ Aside0 (wc.heap[gb138]? = some (.cells #[.bool x139000_1, .string x139001_1, .int .i64 x139002_37] 28 (0, 0))) ∧ Aside0 (Below w.heap.size w wc))
          case first =>
            have H := HC38.out
            clear HC38
            by_cases c39 : t137 > t136
            · rw [if_pos c39] at H
              have c39b0 : decide (t136 < t137) = true := decide_eq_true c39
              clear c39
              (first | rw [c39b0] | (simp only [i64_w, i32_w]; rw [c39b0]) | skip)
              have H' := Aside0.mk H
              clear H
              have hnb40 := NB138_134.out
              have hnc40 := NB134_138.out
              have hcz41_0 : wr.cell? ⟨gb138, 0, none⟩ = some (.bool x139000_1) := (blk_cell BK138.out 0).trans rfl
              have hcz41_1 : wr.cell? ⟨gb138, 1, none⟩ = some (.string x139001_1) := (blk_cell BK138.out 1).trans rfl
              have hcz41_2 : wr.cell? ⟨gb138, 2, none⟩ = some (.int .i64 0) := (blk_cell BK138.out 2).trans rfl
              have hfz41_0 := blk_frozen BK138.out 0
              have hfz41_1 := blk_frozen BK138.out 1
              have hfz41_2 := blk_frozen BK138.out 2
              go_wp2
              go_meet
              case rel => exact ⟨_, (wrap64 ((wrap64 (t136 + 1)) - t137)), (by first | exact H' | (rw [hji49]; exact H') | (rw [hji56]; exact H')), ⟨by have := HK1.out; first | omega | exact Nat.le_refl _⟩, ⟨by (with_reducible repeat (first | refine blk_drewN ?_ _ | refine blk_drew ?_ | refine blk_alloc ?_ _)); refine blk_far ?_ NB134_138.out _; (with_reducible repeat (first | refine blk_drewN ?_ _ | refine blk_drew ?_ | refine blk_alloc ?_ _)); exact BK134.out⟩, ⟨by (with_reducible repeat (first | refine blk_drewN ?_ _ | refine blk_drew ?_ | refine blk_alloc ?_ _)); refine blk_put (cs := #[.bool x139000_1, .string x139001_1, .int .i64 0]) ?_ 2 _ rfl; (with_reducible repeat (first | refine blk_drewN ?_ _ | refine blk_drew ?_ | refine blk_alloc ?_ _)); exact BK138.out⟩, ⟨by repeat (first | (with_reducible first | exact HB.out | apply below_alloc | apply pw_below_drewN | apply below_drew1 | refine below_set ?_ GE134.out | refine below_set ?_ GE138.out) | exact HB.out)⟩⟩
            · rw [if_neg c39] at H
              have c39b0 : decide (t136 < t137) = false := decide_eq_false c39
              clear c39
              (first | rw [c39b0] | (simp only [i64_w, i32_w]; rw [c39b0]) | skip)
              have H' := Aside0.mk H
              clear H
              go_wp2
              go_meet
              case rel => exact ⟨_, (0), (by first | exact H' | (rw [hji49]; exact H') | (rw [hji56]; exact H')), ⟨by have := HK1.out; first | omega | exact Nat.le_refl _⟩, ⟨by (with_reducible repeat (first | refine blk_drewN ?_ _ | refine blk_drew ?_ | refine blk_alloc ?_ _)); exact BK134.out⟩, ⟨by (with_reducible repeat (first | refine blk_drewN ?_ _ | refine blk_drew ?_ | refine blk_alloc ?_ _)); exact BK138.out⟩, ⟨by repeat (first | (with_reducible first | exact HB.out | apply below_alloc | apply pw_below_drewN | apply below_drew1 | refine below_set ?_ GE134.out | refine below_set ?_ GE138.out) | exact HB.out)⟩⟩
          case rest =>
            clear HC38
            try clear c1
            try clear p1
            try clear q1
            try clear hx1
            try clear c2
            try clear p2
            try clear c3
            try clear c4
            try clear c6
            try clear p6
            try clear c8
            try clear c8b0
            try clear c9
            try clear c9b0
            try clear c10
            try clear c10b0
            try clear p11
            try clear q11
            try clear hx11
            try clear c12
            try clear c12b0
            try clear c12b1
            try clear c13
            try clear p15
            try clear q15
            try clear hx15
            try clear c16
            try clear c16b0
            try clear c16b1
            try clear c17
            try clear c17b0
            try clear c17b1
            try clear p18
            try clear q18
            try clear hx18
            try clear c19
            try clear c19b0
            try clear c19b1
            try clear c20
            try clear c22
            try clear c22b0
            try clear c23
            try clear c23b0
            try clear c23b1
            try clear c24
            try clear c24b0
            try clear c24b1
            try clear c25
            try clear c25b0
            try clear c25b1
            try clear c25b2
            try clear c26
            try clear c30
            try clear c30b0
            try clear c31
            try clear c31b0
            try clear c31b1
            try clear c32
            try clear c32b0
            try clear c32b1
            try clear c33
            try clear c33b0
            try clear c33b1
            try clear c33b2
            try clear c34
            try clear c39
            try clear c39b0
            try clear c40
            try clear hcz14_0
            try clear hcz14_1
            try clear hcz14_2
            try clear hcz21_0
            try clear hcz21_1
            try clear hcz21_2
            try clear hcz27_0
            try clear hcz27_1
            try clear hcz27_2
            try clear hcz35_0
            try clear hcz35_1
            try clear hcz35_2
            try clear hcz41_0
            try clear hcz41_1
            try clear hcz41_2
            try clear hcz7_0
            try clear hcz7_1
            try clear hcz7_2
            try clear hfz14_0
            try clear hfz14_1
            try clear hfz14_2
            try clear hfz21_0
            try clear hfz21_1
            try clear hfz21_2
            try clear hfz27_0
            try clear hfz27_1
            try clear hfz27_2
            try clear hfz35_0
            try clear hfz35_1
            try clear hfz35_2
            try clear hfz41_0
            try clear hfz41_1
            try clear hfz41_2
            try clear hfz7_0
            try clear hfz7_1
            try clear hfz7_2
            try clear p11
            try clear p15
            try clear p18
            try clear p2
            try clear q11
            try clear q15
            try clear q18
            obtain ⟨kq, x139002_37, HA, HJ37, BK134, BK138, HB⟩ := hcut
            cases kq with
            | zero => exact absurd HA.out (by simp [rubricatorref14_Parse.j1])
            | succ kj37 =>
              have H := HA.out
              clear HA
              simp only [rubricatorref14_Parse.j1] at H
              have H' := Aside0.mk H
              clear H
              go_wp2
              go_loopg [9, 10, 11] kj37 (fun kq v9 v10 v11 w' => ∃ (x9_3 : Int) (x10_3 : Bool) (x11_3 : Int), v9 = .int .i64 x9_3 ∧ v10 = .bool x10_3 ∧ v11 = .int .i64 x11_3 ∧ Aside0 (rubricatorref14_Parse.l1 kq a0 x9_3 x10_3 x11_3 x139000_1 x139001_1 x139002_37 = some (r1, r2, r3, r4)) ∧ Aside0 (kq ≤ kj37) ∧ Aside0 (w'.heap[gb134]? = some (.cells #[.bool false, .string (⟨#[]⟩ : ByteArray), .int .i64 0] 28 (0, 0))) ∧ Aside0 (w'.heap[gb138]? = some (.cells #[.bool x139000_1, .string x139001_1, .int .i64 x139002_37] 28 (0, 0))) ∧ Aside0 (Below w.heap.size w w'))
              case atStart => exact ⟨(0), (false), (wrap64 (t137 + 1)), (by first | rfl | (simp; done) | (simp [*]; done) | (simp [wrap64]; done)), (by first | rfl | (simp; done) | (simp [*]; done) | (simp [wrap64]; done)), (by first | rfl | (simp; done) | (simp [*]; done) | (simp [wrap64]; done)), H', ⟨Nat.le_refl _⟩, ⟨by (with_reducible repeat (first | refine blk_drewN ?_ _ | refine blk_drew ?_ | refine blk_alloc ?_ _)); exact BK134.out⟩, ⟨by (with_reducible repeat (first | refine blk_drewN ?_ _ | refine blk_drew ?_ | refine blk_alloc ?_ _)); exact BK138.out⟩, ⟨by repeat (first | (with_reducible first | exact HB.out | apply below_alloc | apply pw_below_drewN | apply below_drew1 | refine below_set ?_ GE134.out | refine below_set ?_ GE138.out) | exact HB.out)⟩⟩
              case round =>
                clear H'
                try clear c1
                try clear p1
                try clear q1
                try clear hx1
                try clear c2
                try clear p2
                try clear c3
                try clear c4
                try clear c6
                try clear p6
                try clear c8
                try clear c8b0
                try clear c9
                try clear c9b0
                try clear c10
                try clear c10b0
                try clear p11
                try clear q11
                try clear hx11
                try clear c12
                try clear c12b0
                try clear c12b1
                try clear c13
                try clear p15
                try clear q15
                try clear hx15
                try clear c16
                try clear c16b0
                try clear c16b1
                try clear c17
                try clear c17b0
                try clear c17b1
                try clear p18
                try clear q18
                try clear hx18
                try clear c19
                try clear c19b0
                try clear c19b1
                try clear c20
                try clear c22
                try clear c22b0
                try clear c23
                try clear c23b0
                try clear c23b1
                try clear c24
                try clear c24b0
                try clear c24b1
                try clear c25
                try clear c25b0
                try clear c25b1
                try clear c25b2
                try clear c26
                try clear c30
                try clear c30b0
                try clear c31
                try clear c31b0
                try clear c31b1
                try clear c32
                try clear c32b0
                try clear c32b1
                try clear c33
                try clear c33b0
                try clear c33b1
                try clear c33b2
                try clear c34
                try clear c39
                try clear c39b0
                try clear c40
                try clear hcz14_0
                try clear hcz14_1
                try clear hcz14_2
                try clear hcz21_0
                try clear hcz21_1
                try clear hcz21_2
                try clear hcz27_0
                try clear hcz27_1
                try clear hcz27_2
                try clear hcz35_0
                try clear hcz35_1
                try clear hcz35_2
                try clear hcz41_0
                try clear hcz41_1
                try clear hcz41_2
                try clear hcz7_0
                try clear hcz7_1
                try clear hcz7_2
                try clear hfz14_0
                try clear hfz14_1
                try clear hfz14_2
                try clear hfz21_0
                try clear hfz21_1
                try clear hfz21_2
                try clear hfz27_0
                try clear hfz27_1
                try clear hfz27_2
                try clear hfz35_0
                try clear hfz35_1
                try clear hfz35_2
                try clear hfz41_0
                try clear hfz41_1
                try clear hfz41_2
                try clear hfz7_0
                try clear hfz7_1
                try clear hfz7_2
                try clear p1
                try clear p11
                try clear p15
                try clear p18
                try clear p2
                try clear p6
                try clear q1
                try clear q11
                try clear q15
                try clear q18
                obtain ⟨x9_3, x10_3, x11_3, rfl, rfl, rfl, HA, HK3, BK134, BK138, HB⟩ := hrel
                cases gk with
                | zero => exact absurd HA.out (by simp [rubricatorref14_Parse.l1])
                | succ k3 =>
                  have H := HA.out
                  clear HA
                  simp only [rubricatorref14_Parse.l1] at H
                  by_cases c42 : x11_3 < (a0.size : Int)
                  · rw [if_pos c42] at H
                    have c42b0 : decide (x11_3 < (a0.size : Int)) = true := decide_eq_true c42
                    clear c42
                    by_cases c43 : 0 ≤ x11_3
                    · rw [if_pos c43] at H
                      have c43b0 : decide (0 ≤ x11_3) = true := decide_eq_true c43
                      clear c43
                      by_cases c45 : (bt a0 x11_3) = 45
                      · rw [if_pos c45] at H
                        have c45b0 : ((bt a0 x11_3) == 45) = true := beq_iff_eq.mpr c45
                        have c45b1 : ((bt a0 x11_3) != 45) = false := bne_eq_false_iff_eq.mpr c45
                        clear c45
                        have H' := Aside0.mk H
                        clear H
                        have p44 : 0 ≤ (x11_3 : Int) := of_decide_eq_true (by first | (with_reducible assumption) | assumption)
                        have q44 : x11_3 < (a0.size : Int) := of_decide_eq_true (by first | (with_reducible assumption) | assumption)
                        have hx44 := bt_at a0 x11_3
                        replace p44 := eq_true p44
                        replace q44 := eq_true q44
                        go_wp2
                        go_roundg k3
                        case measure => have := HK1.out; have := HJ37.out; have := HK3.out; omega
                        case rel => exact ⟨(x9_3), (true), (wrap64 (x11_3 + 1)), (by first | rfl | (simp; done) | (simp [*]; done) | (simp [wrap64]; done)), (by first | rfl | (simp; done) | (simp [*]; done) | (simp [wrap64]; done)), (by first | rfl | (simp; done) | (simp [*]; done) | (simp [wrap64]; done)), (by first | exact H' | (rw [hji49]; exact H') | (rw [hji56]; exact H')), ⟨by have := HK1.out; have := HJ37.out; have := HK3.out; omega⟩, ⟨by (with_reducible repeat (first | refine blk_drewN ?_ _ | refine blk_drew ?_ | refine blk_alloc ?_ _)); exact BK134.out⟩, ⟨by (with_reducible repeat (first | refine blk_drewN ?_ _ | refine blk_drew ?_ | refine blk_alloc ?_ _)); exact BK138.out⟩, ⟨by repeat (first | (with_reducible first | exact HB.out | apply below_alloc | apply pw_below_drewN | apply below_drew1 | refine below_set ?_ GE134.out | refine below_set ?_ GE138.out) | exact HB.out)⟩⟩
                      · rw [if_neg c45] at H
                        have c45b0 : ((bt a0 x11_3) == 45) = false := beq_eq_false_iff_ne.mpr c45
                        have c45b1 : ((bt a0 x11_3) != 45) = true := bne_iff_ne.mpr c45
                        by_cases c47 : (bt a0 x11_3) = 43
                        · rw [if_pos c47] at H
                          have c47b0 : ((bt a0 x11_3) == 43) = true := beq_iff_eq.mpr c47
                          have c47b1 : ((bt a0 x11_3) != 43) = false := bne_eq_false_iff_eq.mpr c47
                          clear c47
                          have H' := Aside0.mk H
                          clear H
                          have p44 : 0 ≤ (x11_3 : Int) := of_decide_eq_true (by first | (with_reducible assumption) | assumption)
                          have q44 : x11_3 < (a0.size : Int) := of_decide_eq_true (by first | (with_reducible assumption) | assumption)
                          have hx44 := bt_at a0 x11_3
                          replace p44 := eq_true p44
                          replace q44 := eq_true q44
                          have p46 : 0 ≤ (x11_3 : Int) := of_decide_eq_true (by first | (with_reducible assumption) | assumption)
                          have q46 : x11_3 < (a0.size : Int) := of_decide_eq_true (by first | (with_reducible assumption) | assumption)
                          have hx46 := bt_at a0 x11_3
                          replace p46 := eq_true p46
                          replace q46 := eq_true q46
                          go_wp2
                          go_roundg k3
                          case measure => have := HK1.out; have := HJ37.out; have := HK3.out; omega
                          case rel => exact ⟨(x9_3), (x10_3), (wrap64 (x11_3 + 1)), (by first | rfl | (simp; done) | (simp [*]; done) | (simp [wrap64]; done)), (by first | rfl | (simp; done) | (simp [*]; done) | (simp [wrap64]; done)), (by first | rfl | (simp; done) | (simp [*]; done) | (simp [wrap64]; done)), (by first | exact H' | (rw [hji49]; exact H') | (rw [hji56]; exact H')), ⟨by have := HK1.out; have := HJ37.out; have := HK3.out; omega⟩, ⟨by (with_reducible repeat (first | refine blk_drewN ?_ _ | refine blk_drew ?_ | refine blk_alloc ?_ _)); exact BK134.out⟩, ⟨by (with_reducible repeat (first | refine blk_drewN ?_ _ | refine blk_drew ?_ | refine blk_alloc ?_ _)); exact BK138.out⟩, ⟨by repeat (first | (with_reducible first | exact HB.out | apply below_alloc | apply pw_below_drewN | apply below_drew1 | refine below_set ?_ GE134.out | refine below_set ?_ GE138.out) | exact HB.out)⟩⟩
                        · rw [if_neg c47] at H
                          have c47b0 : ((bt a0 x11_3) == 43) = false := beq_eq_false_iff_ne.mpr c47
                          have c47b1 : ((bt a0 x11_3) != 43) = true := bne_iff_ne.mpr c47
                          obtain ⟨ji49, hji49⟩ : ∃ j_ : Int, (mn (wrap64 ((wrap64 ((wrap64 (10 * x9_3)) + (wrap64 (bt a0 x11_3)))) - 48)) 1000000) = j_ := ⟨_, rfl⟩
                          replace H : (rubricatorref14_Parse.l1 k3 a0 ji49 x10_3 (wrap64 (x11_3 + 1)) x139000_1 x139001_1 x139002_37) = some (r1, r2, r3, r4) := by first | (rw [hji49] at H; exact H) | (simp only [hji49] at H ⊢; exact H)
                          have hji49_ : (if 1000000 < (wrap64 ((wrap64 ((wrap64 (10 * x9_3)) + (wrap64 (bt a0 x11_3)))) - 48)) then 1000000 else (wrap64 ((wrap64 ((wrap64 (10 * x9_3)) + (wrap64 (bt a0 x11_3)))) - 48))) = ji49 := hji49
                          have H' := Aside0.mk H
                          clear H
                          have p44 : 0 ≤ (x11_3 : Int) := of_decide_eq_true (by first | (with_reducible assumption) | assumption)
                          have q44 : x11_3 < (a0.size : Int) := of_decide_eq_true (by first | (with_reducible assumption) | assumption)
                          have hx44 := bt_at a0 x11_3
                          replace p44 := eq_true p44
                          replace q44 := eq_true q44
                          have p46 : 0 ≤ (x11_3 : Int) := of_decide_eq_true (by first | (with_reducible assumption) | assumption)
                          have q46 : x11_3 < (a0.size : Int) := of_decide_eq_true (by first | (with_reducible assumption) | assumption)
                          have hx46 := bt_at a0 x11_3
                          replace p46 := eq_true p46
                          replace q46 := eq_true q46
                          have p48 : 0 ≤ (x11_3 : Int) := of_decide_eq_true (by first | (with_reducible assumption) | assumption)
                          have q48 : x11_3 < (a0.size : Int) := of_decide_eq_true (by first | (with_reducible assumption) | assumption)
                          have hx48 := bt_at a0 x11_3
                          replace p48 := eq_true p48
                          replace q48 := eq_true q48
                          go_wp2
                          go_roundg k3
                          case measure => have := HK1.out; have := HJ37.out; have := HK3.out; omega
                          case rel => exact ⟨(ji49), (x10_3), (wrap64 (x11_3 + 1)), (by first | rfl | (simp; done) | (simp only [← hji49] <;> (first | rfl | simp)) | (simp [*]; done)), (by first | rfl | (simp; done) | (simp [*]; done) | (simp [wrap64]; done)), (by first | rfl | (simp; done) | (simp [*]; done) | (simp [wrap64]; done)), (by first | exact H' | (rw [hji49]; exact H') | (rw [hji56]; exact H')), ⟨by have := HK1.out; have := HJ37.out; have := HK3.out; omega⟩, ⟨by (with_reducible repeat (first | refine blk_drewN ?_ _ | refine blk_drew ?_ | refine blk_alloc ?_ _)); exact BK134.out⟩, ⟨by (with_reducible repeat (first | refine blk_drewN ?_ _ | refine blk_drew ?_ | refine blk_alloc ?_ _)); exact BK138.out⟩, ⟨by repeat (first | (with_reducible first | exact HB.out | apply below_alloc | apply pw_below_drewN | apply below_drew1 | refine below_set ?_ GE134.out | refine below_set ?_ GE138.out) | exact HB.out)⟩⟩
                    · rw [if_neg c43] at H
                      exact absurd H (by simp)
                  · rw [if_neg c42] at H
                    have c42b0 : decide (x11_3 < (a0.size : Int)) = false := decide_eq_false c42
                    clear c42
                    have HC50 := Aside0.mk H
                    clear H
                    go_upto_if 90 with (fail)
                    go_cut [9] (fun v9 wc => ∃ (kq : Nat) (x9_49 : Int), v9 = .int .i64 x9_49 ∧ Aside0 (rubricatorref14_Parse.j3 kq x9_49 x139000_1 x139001_1 x139002_37 = some (r1, r2, r3, r4)) ∧ Aside0 (kq ≤ k3) ∧ Aside0 (wc.heap[gb134]? = some (.cells #[.bool false, .string (⟨#[]⟩ : ByteArray), .int .i64 0] 28 (0, 0))) ∧ Aside0 (wc.heap[gb138]? = some (.cells #[.bool x139000_1, .string x139001_1, .int .i64 x139002_37] 28 (0, 0))) ∧ Aside0 (Below w.heap.size w wc))
                    case first =>
                      have H := HC50.out
                      clear HC50
                      by_cases c51 : x10_3 = true
                      · subst c51
                        have H1 : (rubricatorref14_Parse.j3 k3 (wrap64 (-x9_3)) x139000_1 x139001_1 x139002_37) = some (r1, r2, r3, r4) := by rw [if_pos rfl] at H; exact H
                        clear H
                        have H := H1
                        clear H1
                        have H' := Aside0.mk H
                        clear H
                        go_wp2
                        go_meet
                        case rel => exact ⟨_, (wrap64 (-x9_3)), (by first | rfl | (simp; done) | (simp [*]; done) | (simp [wrap64]; done)), (by first | exact H' | (rw [hji49]; exact H') | (rw [hji56]; exact H')), ⟨by have := HK1.out; have := HJ37.out; have := HK3.out; first | omega | exact Nat.le_refl _⟩, ⟨by (with_reducible repeat (first | refine blk_drewN ?_ _ | refine blk_drew ?_ | refine blk_alloc ?_ _)); exact BK134.out⟩, ⟨by (with_reducible repeat (first | refine blk_drewN ?_ _ | refine blk_drew ?_ | refine blk_alloc ?_ _)); exact BK138.out⟩, ⟨by repeat (first | (with_reducible first | exact HB.out | apply below_alloc | apply pw_below_drewN | apply below_drew1 | refine below_set ?_ GE134.out | refine below_set ?_ GE138.out) | exact HB.out)⟩⟩
                      · replace c51 := Bool.eq_false_iff.mpr c51
                        subst c51
                        have H1 : (rubricatorref14_Parse.j3 k3 x9_3 x139000_1 x139001_1 x139002_37) = some (r1, r2, r3, r4) := by rw [if_neg (show ¬ (false = true) by decide)] at H; exact H
                        clear H
                        have H := H1
                        clear H1
                        have H' := Aside0.mk H
                        clear H
                        go_wp2
                        go_meet
                        case rel => exact ⟨_, (x9_3), (by first | rfl | (simp; done) | (simp [*]; done) | (simp [wrap64]; done)), (by first | exact H' | (rw [hji49]; exact H') | (rw [hji56]; exact H')), ⟨by have := HK1.out; have := HJ37.out; have := HK3.out; first | omega | exact Nat.le_refl _⟩, ⟨by (with_reducible repeat (first | refine blk_drewN ?_ _ | refine blk_drew ?_ | refine blk_alloc ?_ _)); exact BK134.out⟩, ⟨by (with_reducible repeat (first | refine blk_drewN ?_ _ | refine blk_drew ?_ | refine blk_alloc ?_ _)); exact BK138.out⟩, ⟨by repeat (first | (with_reducible first | exact HB.out | apply below_alloc | apply pw_below_drewN | apply below_drew1 | refine below_set ?_ GE134.out | refine below_set ?_ GE138.out) | exact HB.out)⟩⟩
                    case rest =>
                      clear HC50
                      try clear c1
                      try clear p1
                      try clear q1
                      try clear hx1
                      try clear c2
                      try clear p2
                      try clear c3
                      try clear c4
                      try clear p4
                      try clear q4
                      try clear hx4
                      try clear c5
                      try clear c6
                      try clear p6
                      try clear c8
                      try clear c8b0
                      try clear c9
                      try clear c9b0
                      try clear c10
                      try clear c10b0
                      try clear p11
                      try clear q11
                      try clear hx11
                      try clear c12
                      try clear c12b0
                      try clear c12b1
                      try clear c13
                      try clear p15
                      try clear q15
                      try clear hx15
                      try clear c16
                      try clear c16b0
                      try clear c16b1
                      try clear c17
                      try clear c17b0
                      try clear c17b1
                      try clear p18
                      try clear q18
                      try clear hx18
                      try clear c19
                      try clear c19b0
                      try clear c19b1
                      try clear c20
                      try clear c22
                      try clear c22b0
                      try clear c23
                      try clear c23b0
                      try clear c23b1
                      try clear c24
                      try clear c24b0
                      try clear c24b1
                      try clear c25
                      try clear c25b0
                      try clear c25b1
                      try clear c25b2
                      try clear c26
                      try clear c30
                      try clear c30b0
                      try clear c31
                      try clear c31b0
                      try clear c31b1
                      try clear c32
                      try clear c32b0
                      try clear c32b1
                      try clear c33
                      try clear c33b0
                      try clear c33b1
                      try clear c33b2
                      try clear c34
                      try clear c39
                      try clear c39b0
                      try clear c40
                      try clear c42
                      try clear c42b0
                      try clear c43
                      try clear c43b0
                      try clear p44
                      try clear q44
                      try clear hx44
                      try clear c45
                      try clear c45b0
                      try clear c45b1
                      try clear p46
                      try clear q46
                      try clear hx46
                      try clear c47
                      try clear c47b0
                      try clear c47b1
                      try clear p48
                      try clear q48
                      try clear hx48
                      try clear c51
                      try clear hcz14_0
                      try clear hcz14_1
                      try clear hcz14_2
                      try clear hcz21_0
                      try clear hcz21_1
                      try clear hcz21_2
                      try clear hcz27_0
                      try clear hcz27_1
                      try clear hcz27_2
                      try clear hcz35_0
                      try clear hcz35_1
                      try clear hcz35_2
                      try clear hcz41_0
                      try clear hcz41_1
                      try clear hcz41_2
                      try clear hcz7_0
                      try clear hcz7_1
                      try clear hcz7_2
                      try clear hfz14_0
                      try clear hfz14_1
                      try clear hfz14_2
                      try clear hfz21_0
                      try clear hfz21_1
                      try clear hfz21_2
                      try clear hfz27_0
                      try clear hfz27_1
                      try clear hfz27_2
                      try clear hfz35_0
                      try clear hfz35_1
                      try clear hfz35_2
                      try clear hfz41_0
                      try clear hfz41_1
                      try clear hfz41_2
                      try clear hfz7_0
                      try clear hfz7_1
                      try clear hfz7_2
                      try clear p1
                      try clear p11
                      try clear p15
                      try clear p18
                      try clear p2
                      try clear p44
                      try clear p46
                      try clear p48
                      try clear p6
                      try clear q1
                      try clear q11
                      try clear q15
                      try clear q18
                      try clear q44
                      try clear q46
                      try clear q48
                      obtain ⟨kq, x9_49, rfl, HA, HJ49, BK134, BK138, HB⟩ := hcut
                      cases kq with
                      | zero => exact absurd HA.out (by simp [rubricatorref14_Parse.j3])
                      | succ kj49 =>
                        have H := HA.out
                        clear HA
                        simp only [rubricatorref14_Parse.j3] at H
                        have HC52 := Aside0.mk H
                        clear H
                        have hnb53 := NB138_134.out
                        have hnc53 := NB134_138.out
                        have hcz54_0 : wc.cell? ⟨gb138, 0, none⟩ = some (.bool x139000_1) := (blk_cell BK138.out 0).trans rfl
                        have hcz54_1 : wc.cell? ⟨gb138, 1, none⟩ = some (.string x139001_1) := (blk_cell BK138.out 1).trans rfl
                        have hcz54_2 : wc.cell? ⟨gb138, 2, none⟩ = some (.int .i64 x139002_37) := (blk_cell BK138.out 2).trans rfl
                        have hfz54_0 := blk_frozen BK138.out 0
                        have hfz54_1 := blk_frozen BK138.out 1
                        have hfz54_2 := blk_frozen BK138.out 2
                        go_upto_block 4 with (fail)
                        go_cut [] (fun wc => ∃ (kq : Nat) (x139001_51 : ByteArray) (x139002_51 : Int), Aside0 (rubricatorref14_Parse.j5 kq x139000_1 x139001_51 x139002_51 = some (r1, r2, r3, r4)) ∧ Aside0 (kq ≤ kj49) ∧ Aside0 (wc.heap[gb134]? = some (.cells #[.bool false, .string (⟨#[]⟩ : ByteArray), .int .i64 0] 28 (0, 0))) ∧ Aside0 (wc.heap[gb138]? = some (.cells #[.bool x139000_1, .string x139001_51, .int .i64 x139002_51] 28 (0, 0))) ∧ Aside0 (Below w.heap.size w wc))
                        case first =>
                          have H := HC52.out
                          clear HC52
                          have H' := Aside0.mk H
                          clear H
                          go_wp2
                          go_loopg [] kj49 (fun kq w' => ∃ (x139001_5 : ByteArray) (x139002_5 : Int), Aside0 (rubricatorref14_Parse.l2 kq x139000_1 x139001_5 x139002_5 = some (r1, r2, r3, r4)) ∧ Aside0 (kq ≤ kj49) ∧ Aside0 (w'.heap[gb134]? = some (.cells #[.bool false, .string (⟨#[]⟩ : ByteArray), .int .i64 0] 28 (0, 0))) ∧ Aside0 (w'.heap[gb138]? = some (.cells #[.bool x139000_1, .string x139001_5, .int .i64 x139002_5] 28 (0, 0))) ∧ Aside0 (Below w.heap.size w w'))
                          case atStart => exact ⟨(x139001_1), (wrap64 (x139002_37 + x9_49)), H', ⟨Nat.le_refl _⟩, ⟨by (with_reducible repeat (first | refine blk_drewN ?_ _ | refine blk_drew ?_ | refine blk_alloc ?_ _)); refine blk_far ?_ NB134_138.out _; (with_reducible repeat (first | refine blk_drewN ?_ _ | refine blk_drew ?_ | refine blk_alloc ?_ _)); exact BK134.out⟩, ⟨by (with_reducible repeat (first | refine blk_drewN ?_ _ | refine blk_drew ?_ | refine blk_alloc ?_ _)); refine blk_put (cs := #[.bool x139000_1, .string x139001_1, .int .i64 x139002_37]) ?_ 2 _ rfl; (with_reducible repeat (first | refine blk_drewN ?_ _ | refine blk_drew ?_ | refine blk_alloc ?_ _)); exact BK138.out⟩, ⟨by repeat (first | (with_reducible first | exact HB.out | apply below_alloc | apply pw_below_drewN | apply below_drew1 | refine below_set ?_ GE134.out | refine below_set ?_ GE138.out) | exact HB.out)⟩⟩
                          case round =>
                            clear H'
                            try clear c1
                            try clear p1
                            try clear q1
                            try clear hx1
                            try clear c2
                            try clear p2
                            try clear c3
                            try clear c4
                            try clear p4
                            try clear q4
                            try clear hx4
                            try clear c5
                            try clear c6
                            try clear p6
                            try clear c8
                            try clear c8b0
                            try clear c9
                            try clear c9b0
                            try clear c10
                            try clear c10b0
                            try clear p11
                            try clear q11
                            try clear hx11
                            try clear c12
                            try clear c12b0
                            try clear c12b1
                            try clear c13
                            try clear p15
                            try clear q15
                            try clear hx15
                            try clear c16
                            try clear c16b0
                            try clear c16b1
                            try clear c17
                            try clear c17b0
                            try clear c17b1
                            try clear p18
                            try clear q18
                            try clear hx18
                            try clear c19
                            try clear c19b0
                            try clear c19b1
                            try clear c20
                            try clear c22
                            try clear c22b0
                            try clear c23
                            try clear c23b0
                            try clear c23b1
                            try clear c24
                            try clear c24b0
                            try clear c24b1
                            try clear c25
                            try clear c25b0
                            try clear c25b1
                            try clear c25b2
                            try clear c26
                            try clear c30
                            try clear c30b0
                            try clear c31
                            try clear c31b0
                            try clear c31b1
                            try clear c32
                            try clear c32b0
                            try clear c32b1
                            try clear c33
                            try clear c33b0
                            try clear c33b1
                            try clear c33b2
                            try clear c34
                            try clear c39
                            try clear c39b0
                            try clear c40
                            try clear c42
                            try clear c42b0
                            try clear c43
                            try clear c43b0
                            try clear p44
                            try clear q44
                            try clear hx44
                            try clear c45
                            try clear c45b0
                            try clear c45b1
                            try clear p46
                            try clear q46
                            try clear hx46
                            try clear c47
                            try clear c47b0
                            try clear c47b1
                            try clear p48
                            try clear q48
                            try clear hx48
                            try clear c51
                            try clear c53
                            try clear hcz14_0
                            try clear hcz14_1
                            try clear hcz14_2
                            try clear hcz21_0
                            try clear hcz21_1
                            try clear hcz21_2
                            try clear hcz27_0
                            try clear hcz27_1
                            try clear hcz27_2
                            try clear hcz35_0
                            try clear hcz35_1
                            try clear hcz35_2
                            try clear hcz41_0
                            try clear hcz41_1
                            try clear hcz41_2
                            try clear hcz54_0
                            try clear hcz54_1
                            try clear hcz54_2
                            try clear hcz7_0
                            try clear hcz7_1
                            try clear hcz7_2
                            try clear hfz14_0
                            try clear hfz14_1
                            try clear hfz14_2
                            try clear hfz21_0
                            try clear hfz21_1
                            try clear hfz21_2
                            try clear hfz27_0
                            try clear hfz27_1
                            try clear hfz27_2
                            try clear hfz35_0
                            try clear hfz35_1
                            try clear hfz35_2
                            try clear hfz41_0
                            try clear hfz41_1
                            try clear hfz41_2
                            try clear hfz54_0
                            try clear hfz54_1
                            try clear hfz54_2
                            try clear hfz7_0
                            try clear hfz7_1
                            try clear hfz7_2
                            try clear p1
                            try clear p11
                            try clear p15
                            try clear p18
                            try clear p2
                            try clear p4
                            try clear p44
                            try clear p46
                            try clear p48
                            try clear p6
                            try clear q1
                            try clear q11
                            try clear q15
                            try clear q18
                            try clear q4
                            try clear q44
                            try clear q46
                            try clear q48
                            obtain ⟨x139001_5, x139002_5, HA, HK5, BK134, BK138, HB⟩ := hrel
                            cases gk with
                            | zero => exact absurd HA.out (by simp [rubricatorref14_Parse.l2])
                            | succ k5 =>
                              have H := HA.out
                              clear HA
                              simp only [rubricatorref14_Parse.l2] at H
                              by_cases c55 : (x139001_5.size : Int) > 0
                              · rw [if_pos c55] at H
                                have c55b0 : decide (0 < (x139001_5.size : Int)) = true := decide_eq_true c55
                                have c55b1 : decide (0 < x139001_5.size) = true := decide_eq_true (by omega)
                                clear c55
                                (first | rw [c55b0] | (simp only [i64_w, i32_w]; rw [c55b0]) | skip)
                                obtain ⟨ji56, hji56⟩ : ∃ j_ : Int, (wrap64 ((x139001_5.size : Int) - 1)) = j_ := ⟨_, rfl⟩
                                replace H : (if 0 ≤ (ji56) then (if (ji56) < (x139001_5.size : Int) then (if (bt x139001_5 (ji56)) = 48 then (if (ji56) ≤ (x139001_5.size : Int) then (rubricatorref14_Parse.l2 k5 x139000_1 (x139001_5.extract 0 ((ji56) : Int).toNat) (wrap64 (x139002_5 + 1))) else (none)) else (rubricatorref14_Parse.j5 k5 x139000_1 x139001_5 x139002_5)) else (none)) else (none)) = some (r1, r2, r3, r4) := by first | (rw [hji56] at H; exact H) | (simp only [hji56] at H ⊢; exact H)
                                have hji56w : (IntKind.i64.wrap ((x139001_5.size : Int) - 1)) = ji56 := (i64_w _).trans hji56
                                by_cases c57 : 0 ≤ (ji56)
                                · rw [if_pos c57] at H
                                  have c57b0 : decide (0 ≤ (ji56)) = true := decide_eq_true c57
                                  clear c57
                                  by_cases c58 : (ji56) < (x139001_5.size : Int)
                                  · rw [if_pos c58] at H
                                    have c58b0 : decide ((ji56) < (x139001_5.size : Int)) = true := decide_eq_true c58
                                    clear c58
                                    by_cases c60 : (bt x139001_5 (ji56)) = 48
                                    · rw [if_pos c60] at H
                                      have c60b0 : ((bt x139001_5 (ji56)) == 48) = true := beq_iff_eq.mpr c60
                                      have c60b1 : ((bt x139001_5 (ji56)) != 48) = false := bne_eq_false_iff_eq.mpr c60
                                      clear c60
                                      have c61b0 := eq_true (of_decide_eq_true (by first | (with_reducible assumption) | assumption) : 0 ≤ (ji56))
                                      by_cases c62 : (ji56) ≤ (x139001_5.size : Int)
                                      · rw [if_pos c62] at H
                                        have c62b0 := eq_true c62
                                        have c62b1 : decide ((ji56) ≤ (x139001_5.size : Int)) = true := decide_eq_true c62
                                        clear c62
                                        have H' := Aside0.mk H
                                        clear H
                                        have hnb63 := NB138_134.out
                                        have hnc63 := NB134_138.out
                                        have hcz64_0 : wr.cell? ⟨gb138, 0, none⟩ = some (.bool x139000_1) := (blk_cell BK138.out 0).trans rfl
                                        have hcz64_1 : wr.cell? ⟨gb138, 1, none⟩ = some (.string x139001_5) := (blk_cell BK138.out 1).trans rfl
                                        have hcz64_2 : wr.cell? ⟨gb138, 2, none⟩ = some (.int .i64 x139002_5) := (blk_cell BK138.out 2).trans rfl
                                        have hfz64_0 := blk_frozen BK138.out 0
                                        have hfz64_1 := blk_frozen BK138.out 1
                                        have hfz64_2 := blk_frozen BK138.out 2
                                        have p59 : 0 ≤ ((ji56) : Int) := of_decide_eq_true (by first | (with_reducible assumption) | assumption)
                                        have q59 : (ji56) < (x139001_5.size : Int) := of_decide_eq_true (by first | (with_reducible assumption) | assumption)
                                        have hx59 := bt_at x139001_5 (ji56)
                                        replace p59 := eq_true p59
                                        replace q59 := eq_true q59
                                        go_wp2
                                        go_roundg k5
                                        case measure => have := HK1.out; have := HJ37.out; have := HK3.out; have := HJ49.out; have := HK5.out; omega
                                        case rel => exact ⟨(x139001_5.extract 0 ((ji56) : Int).toNat), (wrap64 (x139002_5 + 1)), (by first | exact H' | (rw [hji49]; exact H') | (rw [hji56]; exact H')), ⟨by have := HK1.out; have := HJ37.out; have := HK3.out; have := HJ49.out; have := HK5.out; omega⟩, ⟨by (with_reducible repeat (first | refine blk_drewN ?_ _ | refine blk_drew ?_ | refine blk_alloc ?_ _)); refine blk_far ?_ NB134_138.out _; (with_reducible repeat (first | refine blk_drewN ?_ _ | refine blk_drew ?_ | refine blk_alloc ?_ _)); refine blk_far ?_ NB134_138.out _; (with_reducible repeat (first | refine blk_drewN ?_ _ | refine blk_drew ?_ | refine blk_alloc ?_ _)); exact BK134.out⟩, ⟨by (with_reducible repeat (first | refine blk_drewN ?_ _ | refine blk_drew ?_ | refine blk_alloc ?_ _)); refine blk_put (cs := #[.bool x139000_1, .string (x139001_5.extract 0 ((ji56) : Int).toNat), .int .i64 x139002_5]) ?_ 2 _ rfl; (with_reducible repeat (first | refine blk_drewN ?_ _ | refine blk_drew ?_ | refine blk_alloc ?_ _)); refine blk_put (cs := #[.bool x139000_1, .string x139001_5, .int .i64 x139002_5]) ?_ 1 _ rfl; (with_reducible repeat (first | refine blk_drewN ?_ _ | refine blk_drew ?_ | refine blk_alloc ?_ _)); exact BK138.out⟩, ⟨by repeat (first | (with_reducible first | exact HB.out | apply below_alloc | apply pw_below_drewN | apply below_drew1 | refine below_set ?_ GE134.out | refine below_set ?_ GE138.out) | exact HB.out)⟩⟩
                                      · rw [if_neg c62] at H
                                        exact absurd H (by simp)
                                    · rw [if_neg c60] at H
                                      have c60b0 : ((bt x139001_5 (ji56)) == 48) = false := beq_eq_false_iff_ne.mpr c60
                                      have c60b1 : ((bt x139001_5 (ji56)) != 48) = true := bne_iff_ne.mpr c60
                                      have H' := Aside0.mk H
                                      clear H
                                      have hnb65 := NB138_134.out
                                      have hnc65 := NB134_138.out
                                      have hcz66_0 : wr.cell? ⟨gb138, 0, none⟩ = some (.bool x139000_1) := (blk_cell BK138.out 0).trans rfl
                                      have hcz66_1 : wr.cell? ⟨gb138, 1, none⟩ = some (.string x139001_5) := (blk_cell BK138.out 1).trans rfl
                                      have hcz66_2 : wr.cell? ⟨gb138, 2, none⟩ = some (.int .i64 x139002_5) := (blk_cell BK138.out 2).trans rfl
                                      have hfz66_0 := blk_frozen BK138.out 0
                                      have hfz66_1 := blk_frozen BK138.out 1
                                      have hfz66_2 := blk_frozen BK138.out 2
                                      have p59 : 0 ≤ ((ji56) : Int) := of_decide_eq_true (by first | (with_reducible assumption) | assumption)
                                      have q59 : (ji56) < (x139001_5.size : Int) := of_decide_eq_true (by first | (with_reducible assumption) | assumption)
                                      have hx59 := bt_at x139001_5 (ji56)
                                      replace p59 := eq_true p59
                                      replace q59 := eq_true q59
                                      go_wp2
                                      go_meet
                                      case rel => exact ⟨_, (x139001_5), (x139002_5), (by first | exact H' | (rw [hji49]; exact H') | (rw [hji56]; exact H')), ⟨by have := HK1.out; have := HJ37.out; have := HK3.out; have := HJ49.out; have := HK5.out; first | omega | exact Nat.le_refl _⟩, ⟨by (with_reducible repeat (first | refine blk_drewN ?_ _ | refine blk_drew ?_ | refine blk_alloc ?_ _)); exact BK134.out⟩, ⟨by (with_reducible repeat (first | refine blk_drewN ?_ _ | refine blk_drew ?_ | refine blk_alloc ?_ _)); exact BK138.out⟩, ⟨by repeat (first | (with_reducible first | exact HB.out | apply below_alloc | apply pw_below_drewN | apply below_drew1 | refine below_set ?_ GE134.out | refine below_set ?_ GE138.out) | exact HB.out)⟩⟩
                                  · rw [if_neg c58] at H
                                    exact absurd H (by simp)
                                · rw [if_neg c57] at H
                                  exact absurd H (by simp)
                              · rw [if_neg c55] at H
                                have c55b0 : decide (0 < (x139001_5.size : Int)) = false := decide_eq_false c55
                                have c55b1 : decide (0 < x139001_5.size) = false := decide_eq_false (by omega)
                                clear c55
                                (first | rw [c55b0] | (simp only [i64_w, i32_w]; rw [c55b0]) | skip)
                                have H' := Aside0.mk H
                                clear H
                                have hnb67 := NB138_134.out
                                have hnc67 := NB134_138.out
                                have hcz68_0 : wr.cell? ⟨gb138, 0, none⟩ = some (.bool x139000_1) := (blk_cell BK138.out 0).trans rfl
                                have hcz68_1 : wr.cell? ⟨gb138, 1, none⟩ = some (.string x139001_5) := (blk_cell BK138.out 1).trans rfl
                                have hcz68_2 : wr.cell? ⟨gb138, 2, none⟩ = some (.int .i64 x139002_5) := (blk_cell BK138.out 2).trans rfl
                                have hfz68_0 := blk_frozen BK138.out 0
                                have hfz68_1 := blk_frozen BK138.out 1
                                have hfz68_2 := blk_frozen BK138.out 2
                                go_wp2
                                go_meet
                                case rel => exact ⟨_, (x139001_5), (x139002_5), (by first | exact H' | (rw [hji49]; exact H') | (rw [hji56]; exact H')), ⟨by have := HK1.out; have := HJ37.out; have := HK3.out; have := HJ49.out; have := HK5.out; first | omega | exact Nat.le_refl _⟩, ⟨by (with_reducible repeat (first | refine blk_drewN ?_ _ | refine blk_drew ?_ | refine blk_alloc ?_ _)); exact BK134.out⟩, ⟨by (with_reducible repeat (first | refine blk_drewN ?_ _ | refine blk_drew ?_ | refine blk_alloc ?_ _)); exact BK138.out⟩, ⟨by repeat (first | (with_reducible first | exact HB.out | apply below_alloc | apply pw_below_drewN | apply below_drew1 | refine below_set ?_ GE134.out | refine below_set ?_ GE138.out) | exact HB.out)⟩⟩
                        case rest =>
                          clear HC52
                          try clear c1
                          try clear p1
                          try clear q1
                          try clear hx1
                          try clear c2
                          try clear p2
                          try clear c3
                          try clear c4
                          try clear p4
                          try clear q4
                          try clear hx4
                          try clear c5
                          try clear p5
                          try clear q5
                          try clear hx5
                          try clear c6
                          try clear p6
                          try clear c8
                          try clear c8b0
                          try clear c9
                          try clear c9b0
                          try clear c10
                          try clear c10b0
                          try clear p11
                          try clear q11
                          try clear hx11
                          try clear c12
                          try clear c12b0
                          try clear c12b1
                          try clear c13
                          try clear p15
                          try clear q15
                          try clear hx15
                          try clear c16
                          try clear c16b0
                          try clear c16b1
                          try clear c17
                          try clear c17b0
                          try clear c17b1
                          try clear p18
                          try clear q18
                          try clear hx18
                          try clear c19
                          try clear c19b0
                          try clear c19b1
                          try clear c20
                          try clear c22
                          try clear c22b0
                          try clear c23
                          try clear c23b0
                          try clear c23b1
                          try clear c24
                          try clear c24b0
                          try clear c24b1
                          try clear c25
                          try clear c25b0
                          try clear c25b1
                          try clear c25b2
                          try clear c26
                          try clear c30
                          try clear c30b0
                          try clear c31
                          try clear c31b0
                          try clear c31b1
                          try clear c32
                          try clear c32b0
                          try clear c32b1
                          try clear c33
                          try clear c33b0
                          try clear c33b1
                          try clear c33b2
                          try clear c34
                          try clear c39
                          try clear c39b0
                          try clear c40
                          try clear c42
                          try clear c42b0
                          try clear c43
                          try clear c43b0
                          try clear p44
                          try clear q44
                          try clear hx44
                          try clear c45
                          try clear c45b0
                          try clear c45b1
                          try clear p46
                          try clear q46
                          try clear hx46
                          try clear c47
                          try clear c47b0
                          try clear c47b1
                          try clear p48
                          try clear q48
                          try clear hx48
                          try clear c51
                          try clear c53
                          try clear c55
                          try clear c55b0
                          try clear c55b1
                          try clear c57
                          try clear c57b0
                          try clear c58
                          try clear c58b0
                          try clear p59
                          try clear q59
                          try clear hx59
                          try clear c60
                          try clear c60b0
                          try clear c60b1
                          try clear c61
                          try clear c61b0
                          try clear c62
                          try clear c62b0
                          try clear c62b1
                          try clear c63
                          try clear p64
                          try clear c65
                          try clear c67
                          try clear hcz14_0
                          try clear hcz14_1
                          try clear hcz14_2
                          try clear hcz21_0
                          try clear hcz21_1
                          try clear hcz21_2
                          try clear hcz27_0
                          try clear hcz27_1
                          try clear hcz27_2
                          try clear hcz35_0
                          try clear hcz35_1
                          try clear hcz35_2
                          try clear hcz41_0
                          try clear hcz41_1
                          try clear hcz41_2
                          try clear hcz54_0
                          try clear hcz54_1
                          try clear hcz54_2
                          try clear hcz64_0
                          try clear hcz64_1
                          try clear hcz64_2
                          try clear hcz66_0
                          try clear hcz66_1
                          try clear hcz66_2
                          try clear hcz68_0
                          try clear hcz68_1
                          try clear hcz68_2
                          try clear hcz7_0
                          try clear hcz7_1
                          try clear hcz7_2
                          try clear hfz14_0
                          try clear hfz14_1
                          try clear hfz14_2
                          try clear hfz21_0
                          try clear hfz21_1
                          try clear hfz21_2
                          try clear hfz27_0
                          try clear hfz27_1
                          try clear hfz27_2
                          try clear hfz35_0
                          try clear hfz35_1
                          try clear hfz35_2
                          try clear hfz41_0
                          try clear hfz41_1
                          try clear hfz41_2
                          try clear hfz54_0
                          try clear hfz54_1
                          try clear hfz54_2
                          try clear hfz64_0
                          try clear hfz64_1
                          try clear hfz64_2
                          try clear hfz66_0
                          try clear hfz66_1
                          try clear hfz66_2
                          try clear hfz68_0
                          try clear hfz68_1
                          try clear hfz68_2
                          try clear hfz7_0
                          try clear hfz7_1
                          try clear hfz7_2
                          try clear p1
                          try clear p11
                          try clear p15
                          try clear p18
                          try clear p2
                          try clear p4
                          try clear p44
                          try clear p46
                          try clear p48
                          try clear p59
                          try clear p6
                          try clear q1
                          try clear q11
                          try clear q15
                          try clear q18
                          try clear q4
                          try clear q44
                          try clear q46
                          try clear q48
                          try clear q59
                          obtain ⟨kq, x139001_51, x139002_51, HA, HJ51, BK134, BK138, HB⟩ := hcut
                          cases kq with
                          | zero => exact absurd HA.out (by simp [rubricatorref14_Parse.j5])
                          | succ kj51 =>
                            have H := HA.out
                            clear HA
                            simp only [rubricatorref14_Parse.j5] at H
                            by_cases c69 : x139001_51.toList = ([] : List UInt8)
                            · rw [if_pos c69] at H
                              have c69b0 : (x139001_51.toList == ([] : List UInt8)) = true := beq_iff_eq.mpr c69
                              have c69b7 : x139001_51.toList.isEmpty = true := by rw [← beq_nil_isEmpty]; exact c69b0
                              have c69b1 : (x139001_51.toList != ([] : List UInt8)) = false := bne_eq_false_iff_eq.mpr c69
                              clear c69
                              simp only [Option.some.injEq, Prod.mk.injEq] at H
                              obtain ⟨rfl, rfl, rfl, rfl⟩ := H
                              have hnb70 := NB138_134.out
                              have hnc70 := NB134_138.out
                              have hcz71_0 : wc.cell? ⟨gb138, 0, none⟩ = some (.bool x139000_1) := (blk_cell BK138.out 0).trans rfl
                              have hcz71_1 : wc.cell? ⟨gb138, 1, none⟩ = some (.string x139001_51) := (blk_cell BK138.out 1).trans rfl
                              have hcz71_2 : wc.cell? ⟨gb138, 2, none⟩ = some (.int .i64 x139002_51) := (blk_cell BK138.out 2).trans rfl
                              have hfz71_0 := blk_frozen BK138.out 0
                              have hfz71_1 := blk_frozen BK138.out 1
                              have hfz71_2 := blk_frozen BK138.out 2
                              have hcz72_0 : wc.cell? ⟨gb134, 0, none⟩ = some (.bool false) := (blk_cell BK134.out 0).trans rfl
                              have hcz72_1 : wc.cell? ⟨gb134, 1, none⟩ = some (.string (⟨#[]⟩ : ByteArray)) := (blk_cell BK134.out 1).trans rfl
                              have hcz72_2 : wc.cell? ⟨gb134, 2, none⟩ = some (.int .i64 0) := (blk_cell BK134.out 2).trans rfl
                              have hfz72_0 := blk_frozen BK134.out 0
                              have hfz72_1 := blk_frozen BK134.out 1
                              have hfz72_2 := blk_frozen BK134.out 2
                              go_wp2
                              refine bodyPost_ret (results_ct rfl _ _ gb134 28 #[.bool false, .string (⟨#[]⟩ : ByteArray), .int .i64 0] (0, 0) _ rfl (by (with_reducible repeat (first | refine blk_drewN ?_ _ | refine blk_drew ?_ | refine blk_alloc ?_ _)); refine blk_put (cs := #[.bool false, .string (⟨#[]⟩ : ByteArray), .int .i64 0]) ?_ 2 _ rfl; (with_reducible repeat (first | refine blk_drewN ?_ _ | refine blk_drew ?_ | refine blk_alloc ?_ _)); refine blk_put (cs := #[.bool false, .string (⟨#[]⟩ : ByteArray), .int .i64 0]) ?_ 1 _ rfl; (with_reducible repeat (first | refine blk_drewN ?_ _ | refine blk_drew ?_ | refine blk_alloc ?_ _)); refine blk_put (cs := #[.bool false, .string (⟨#[]⟩ : ByteArray), .int .i64 0]) ?_ 0 _ rfl; (with_reducible repeat (first | refine blk_drewN ?_ _ | refine blk_drew ?_ | refine blk_alloc ?_ _)); exact BK134.out) Tryd.underlying28 rfl (by kernel_rfl)) rfl ?_
                              try simp only [beq_nil_isEmpty, bytesLess_gtr]
                              exact ⟨by first | rfl | (simp [errW_none, errW_some] <;> rfl) | (simp [*, errW_none, errW_some] <;> rfl), by repeat (first | (with_reducible first | exact HB.out | apply below_alloc | apply pw_below_drewN | apply below_drew1 | refine below_set ?_ GE134.out | refine below_set ?_ GE138.out) | exact HB.out)⟩
                            · rw [if_neg c69] at H
                              have c69b0 : (x139001_51.toList == ([] : List UInt8)) = false := beq_eq_false_iff_ne.mpr c69
                              have c69b7 : x139001_51.toList.isEmpty = false := by rw [← beq_nil_isEmpty]; exact c69b0
                              have c69b1 : (x139001_51.toList != ([] : List UInt8)) = true := bne_iff_ne.mpr c69
                              replace H := Option.bind_eq_some_iff.mp H
                              obtain ⟨t139, A730, H⟩ := H
                              replace H : (if t139 = true then (some (x139000_1, x139001_51, x139002_51, 0)) else (some (false, (⟨#[]⟩ : ByteArray), 0, 13))) = some (r1, r2, r3, r4) := H
                              have A73 := Aside0.mk A730
                              clear A730
                              by_cases c74 : t139 = true
                              · subst c74
                                have H1 : (some (x139000_1, x139001_51, x139002_51, 0)) = some (r1, r2, r3, r4) := by rw [if_pos rfl] at H; exact H
                                clear H
                                have H := H1
                                clear H1
                                simp only [Option.some.injEq, Prod.mk.injEq] at H
                                obtain ⟨rfl, rfl, rfl, rfl⟩ := H
                                have hnb75 := NB138_134.out
                                have hnc75 := NB134_138.out
                                have hcz76_0 : wc.cell? ⟨gb138, 0, none⟩ = some (.bool x139000_1) := (blk_cell BK138.out 0).trans rfl
                                have hcz76_1 : wc.cell? ⟨gb138, 1, none⟩ = some (.string x139001_51) := (blk_cell BK138.out 1).trans rfl
                                have hcz76_2 : wc.cell? ⟨gb138, 2, none⟩ = some (.int .i64 x139002_51) := (blk_cell BK138.out 2).trans rfl
                                have hfz76_0 := blk_frozen BK138.out 0
                                have hfz76_1 := blk_frozen BK138.out 1
                                have hfz76_2 := blk_frozen BK138.out 2
                                go_wp2_with (first | ((with_reducible refine gate_callee (f := 17) rfl ?_); refine goesL_ (some 129) rfl rfl Tryd.func17 (by kernel_rfl) rfl #[.agg #[.bool x139000_1, .string x139001_51, .int .i64 x139002_51]] rfl (by (try simp only [List.map_toArray, List.map_cons, List.map_nil]); first | done | rfl | (simp only [List.length_drop, List.length_take]; rfl)) ?_; (with_reducible refine (rubricatorref14_Right.calls kj51 x139000_1 x139001_51 x139002_51 true _ A73.out).mono ?_); rintro e w77 ⟨rfl, hb⟩; refine ⟨_, rfl, ?_⟩; have n0_ := Aside0.mk (blk_below (g := gb134) (o := .cells #[.bool false, .string (⟨#[]⟩ : ByteArray), .int .i64 0] 28 (0, 0)) (by (with_reducible repeat (first | refine blk_drewN ?_ _ | refine blk_drew ?_ | refine blk_alloc ?_ _)); exact BK134.out) hb); have n1_ := Aside0.mk (blk_below (g := gb138) (o := .cells #[.bool x139000_1, .string x139001_51, .int .i64 x139002_51] 28 (0, 0)) (by (with_reducible repeat (first | refine blk_drewN ?_ _ | refine blk_drew ?_ | refine blk_alloc ?_ _)); exact BK138.out) hb); have n2_ := Aside0.mk (below_step (by repeat (first | (with_reducible first | exact HB.out | apply below_alloc | apply pw_below_drewN | apply below_drew1 | refine below_set ?_ GE134.out | refine below_set ?_ GE138.out) | exact HB.out)) hb); clear BK134; clear BK138; clear HB; have BK134 := n0_; have BK138 := n1_; have HB := n2_; clear n0_ n1_ n2_; (try clear hb); (try clear hb2); (try clear hk); (try clear hi); have hcz78_0 : w77.cell? ⟨gb138, 0, none⟩ = some (.bool x139000_1) := (blk_cell BK138.out 0).trans rfl; have hcz78_1 : w77.cell? ⟨gb138, 1, none⟩ = some (.string x139001_51) := (blk_cell BK138.out 1).trans rfl; have hcz78_2 : w77.cell? ⟨gb138, 2, none⟩ = some (.int .i64 x139002_51) := (blk_cell BK138.out 2).trans rfl; have hfz78_0 := blk_frozen BK138.out 0; have hfz78_1 := blk_frozen BK138.out 1; have hfz78_2 := blk_frozen BK138.out 2; have hcz79_0 : w77.cell? ⟨gb134, 0, none⟩ = some (.bool false) := (blk_cell BK134.out 0).trans rfl; have hcz79_1 : w77.cell? ⟨gb134, 1, none⟩ = some (.string (⟨#[]⟩ : ByteArray)) := (blk_cell BK134.out 1).trans rfl; have hcz79_2 : w77.cell? ⟨gb134, 2, none⟩ = some (.int .i64 0) := (blk_cell BK134.out 2).trans rfl; have hfz79_0 := blk_frozen BK134.out 0; have hfz79_1 := blk_frozen BK134.out 1; have hfz79_2 := blk_frozen BK134.out 2))
                                refine bodyPost_ret (results_ct rfl _ _ gb134 28 #[.bool x139000_1, .string x139001_51, .int .i64 x139002_51] (0, 0) _ rfl (by (with_reducible repeat (first | refine blk_drewN ?_ _ | refine blk_drew ?_ | refine blk_alloc ?_ _)); refine blk_put (cs := #[.bool x139000_1, .string x139001_51, .int .i64 0]) ?_ 2 _ rfl; (with_reducible repeat (first | refine blk_drewN ?_ _ | refine blk_drew ?_ | refine blk_alloc ?_ _)); refine blk_put (cs := #[.bool x139000_1, .string (⟨#[]⟩ : ByteArray), .int .i64 0]) ?_ 1 _ rfl; (with_reducible repeat (first | refine blk_drewN ?_ _ | refine blk_drew ?_ | refine blk_alloc ?_ _)); refine blk_put (cs := #[.bool false, .string (⟨#[]⟩ : ByteArray), .int .i64 0]) ?_ 0 _ rfl; (with_reducible repeat (first | refine blk_drewN ?_ _ | refine blk_drew ?_ | refine blk_alloc ?_ _)); exact BK134.out) Tryd.underlying28 rfl (by kernel_rfl)) rfl ?_
                                try simp only [beq_nil_isEmpty, bytesLess_gtr]
                                exact ⟨by first | rfl | (simp [errW_none, errW_some] <;> rfl) | (simp [*, errW_none, errW_some] <;> rfl), by repeat (first | (with_reducible first | exact HB.out | apply below_alloc | apply pw_below_drewN | apply below_drew1 | refine below_set ?_ GE134.out | refine below_set ?_ GE138.out) | exact HB.out)⟩
                              · replace c74 := Bool.eq_false_iff.mpr c74
                                subst c74
                                have H1 : (some (false, (⟨#[]⟩ : ByteArray), 0, 13)) = some (r1, r2, r3, r4) := by rw [if_neg (show ¬ (false = true) by decide)] at H; exact H
                                clear H
                                have H := H1
                                clear H1
                                simp only [Option.some.injEq, Prod.mk.injEq] at H
                                obtain ⟨rfl, rfl, rfl, rfl⟩ := H
                                have hnb80 := NB138_134.out
                                have hnc80 := NB134_138.out
                                have hcz81_0 : wc.cell? ⟨gb138, 0, none⟩ = some (.bool x139000_1) := (blk_cell BK138.out 0).trans rfl
                                have hcz81_1 : wc.cell? ⟨gb138, 1, none⟩ = some (.string x139001_51) := (blk_cell BK138.out 1).trans rfl
                                have hcz81_2 : wc.cell? ⟨gb138, 2, none⟩ = some (.int .i64 x139002_51) := (blk_cell BK138.out 2).trans rfl
                                have hfz81_0 := blk_frozen BK138.out 0
                                have hfz81_1 := blk_frozen BK138.out 1
                                have hfz81_2 := blk_frozen BK138.out 2
                                go_wp2_with (first | ((with_reducible refine gate_callee (f := 17) rfl ?_); refine goesL_ (some 129) rfl rfl Tryd.func17 (by kernel_rfl) rfl #[.agg #[.bool x139000_1, .string x139001_51, .int .i64 x139002_51]] rfl (by (try simp only [List.map_toArray, List.map_cons, List.map_nil]); first | done | rfl | (simp only [List.length_drop, List.length_take]; rfl)) ?_; (with_reducible refine (rubricatorref14_Right.calls kj51 x139000_1 x139001_51 x139002_51 false _ A73.out).mono ?_); rintro e w82 ⟨rfl, hb⟩; refine ⟨_, rfl, ?_⟩; have n0_ := Aside0.mk (blk_below (g := gb134) (o := .cells #[.bool false, .string (⟨#[]⟩ : ByteArray), .int .i64 0] 28 (0, 0)) (by (with_reducible repeat (first | refine blk_drewN ?_ _ | refine blk_drew ?_ | refine blk_alloc ?_ _)); exact BK134.out) hb); have n1_ := Aside0.mk (blk_below (g := gb138) (o := .cells #[.bool x139000_1, .string x139001_51, .int .i64 x139002_51] 28 (0, 0)) (by (with_reducible repeat (first | refine blk_drewN ?_ _ | refine blk_drew ?_ | refine blk_alloc ?_ _)); exact BK138.out) hb); have n2_ := Aside0.mk (below_step (by repeat (first | (with_reducible first | exact HB.out | apply below_alloc | apply pw_below_drewN | apply below_drew1 | refine below_set ?_ GE134.out | refine below_set ?_ GE138.out) | exact HB.out)) hb); clear BK134; clear BK138; clear HB; have BK134 := n0_; have BK138 := n1_; have HB := n2_; clear n0_ n1_ n2_; (try clear hb); (try clear hb2); (try clear hk); (try clear hi); have hcz83_0 : w82.cell? ⟨gb134, 0, none⟩ = some (.bool false) := (blk_cell BK134.out 0).trans rfl; have hcz83_1 : w82.cell? ⟨gb134, 1, none⟩ = some (.string (⟨#[]⟩ : ByteArray)) := (blk_cell BK134.out 1).trans rfl; have hcz83_2 : w82.cell? ⟨gb134, 2, none⟩ = some (.int .i64 0) := (blk_cell BK134.out 2).trans rfl; have hfz83_0 := blk_frozen BK134.out 0; have hfz83_1 := blk_frozen BK134.out 1; have hfz83_2 := blk_frozen BK134.out 2))
                                refine bodyPost_ret (results_ct rfl _ _ gb134 28 #[.bool false, .string (⟨#[]⟩ : ByteArray), .int .i64 0] (0, 0) _ rfl (by (with_reducible repeat (first | refine blk_drewN ?_ _ | refine blk_drew ?_ | refine blk_alloc ?_ _)); refine blk_put (cs := #[.bool false, .string (⟨#[]⟩ : ByteArray), .int .i64 0]) ?_ 2 _ rfl; (with_reducible repeat (first | refine blk_drewN ?_ _ | refine blk_drew ?_ | refine blk_alloc ?_ _)); refine blk_put (cs := #[.bool false, .string (⟨#[]⟩ : ByteArray), .int .i64 0]) ?_ 1 _ rfl; (with_reducible repeat (first | refine blk_drewN ?_ _ | refine blk_drew ?_ | refine blk_alloc ?_ _)); refine blk_put (cs := #[.bool false, .string (⟨#[]⟩ : ByteArray), .int .i64 0]) ?_ 0 _ rfl; (with_reducible repeat (first | refine blk_drewN ?_ _ | refine blk_drew ?_ | refine blk_alloc ?_ _)); exact BK134.out) Tryd.underlying28 rfl (by kernel_rfl)) rfl ?_
                                try simp only [beq_nil_isEmpty, bytesLess_gtr]
                                exact ⟨by first | rfl | (simp [errW_none, errW_some] <;> rfl) | (simp [*, errW_none, errW_some] <;> rfl), by repeat (first | (with_reducible first | exact HB.out | apply below_alloc | apply pw_below_drewN | apply below_drew1 | refine below_set ?_ GE134.out | refine below_set ?_ GE138.out) | exact HB.out)⟩
  · replace c3 := Bool.eq_false_iff.mpr c3
    subst c3
    have H1 : (some (false, (⟨#[]⟩ : ByteArray), 0, 11)) = some (r1, r2, r3, r4) := by rw [if_neg (show ¬ (false = true) by decide)] at H; exact H
    clear H
    have H := H1
    clear H1
    simp only [Option.some.injEq, Prod.mk.injEq] at H
    obtain ⟨rfl, rfl, rfl, rfl⟩ := H
    go_enter Tryd.func12, Tryd.ntmps12
    go_wp2_with (first | ((with_reducible refine gate_dst (N := 2) rfl ?_); (try (refine gate_guard (by rfl) ?_; dsimp only)); refine box_event ?hg (N := 2) ?hd (cs := #[.bool false, .string (⟨#[]⟩ : ByteArray), .int .i64 0]) (t := 28) ?hr ?_; (case hd => rfl); (case hg => rfl); (case hr => first | (go_simp; done) | (go_simp; rfl)); intro gb134 hg w84 hbox hb; have n0_ := Aside0.mk (below_step (by repeat (first | (with_reducible first | exact HB.out | apply below_alloc | apply pw_below_drewN | apply below_drew1) | exact HB.out)) hb); have n1_ := Aside0.mk (hbox); have n2_ := Aside0.mk ((by rw [hg]; exact (below_size (by repeat (first | (with_reducible first | exact HB.out | apply below_alloc | apply pw_below_drewN | apply below_drew1) | exact HB.out))) : w.heap.size ≤ gb134)); have n3_ := Aside0.mk ((by rw [hg]; exact (below_size (by repeat (first | (with_reducible first | exact HB.out | apply below_alloc | apply pw_below_drewN | apply below_drew1) | exact HB.out))) : w.heap.size ≤ gb134)); clear HB; have HB := n0_; have BK134 := n1_; have GW134 := n2_; have GE134 := n3_; clear n0_ n1_ n2_ n3_; clear hb hbox hg) | ((with_reducible refine gate_callee (f := 20) rfl ?_); refine goesL_ (some 15) rfl rfl Tryd.func20 (by kernel_rfl) rfl #[.string a0] rfl (by (try simp only [List.map_toArray, List.map_cons, List.map_nil]); first | done | rfl | (simp only [List.length_drop, List.length_take]; rfl)) ?_; (with_reducible refine (rubricatorref14_Grammar.calls k a0 false t136 t137 _ A2.out).mono ?_); rintro e w' ⟨rfl, ⟨nd, rfl⟩⟩; refine ⟨_, rfl, ?_⟩; (try (rw [drewN_self w84]; generalize hq_ : World.drewN w84 _ = w84; have n0_ : Aside0 (w84.heap[gb134]? = some (.cells #[.bool false, .string (⟨#[]⟩ : ByteArray), .int .i64 0] 28 (0, 0))) := ⟨by rw [← hq_]; exact (by (with_reducible repeat (first | refine blk_drewN ?_ _ | refine blk_drew ?_ | refine blk_alloc ?_ _)); exact BK134.out)⟩; have n1_ : Aside0 (Below w.heap.size w w84) := ⟨by rw [← hq_]; exact (by repeat (first | (with_reducible first | exact HB.out | apply below_alloc | apply pw_below_drewN | apply below_drew1 | refine below_set ?_ GE134.out) | exact HB.out))⟩; clear BK134 HB hq_; have BK134 := n0_; have HB := n1_; clear n0_ n1_)); have hcz85_0 : w84.cell? ⟨gb134, 0, none⟩ = some (.bool false) := (blk_cell BK134.out 0).trans rfl; have hcz85_1 : w84.cell? ⟨gb134, 1, none⟩ = some (.string (⟨#[]⟩ : ByteArray)) := (blk_cell BK134.out 1).trans rfl; have hcz85_2 : w84.cell? ⟨gb134, 2, none⟩ = some (.int .i64 0) := (blk_cell BK134.out 2).trans rfl; have hfz85_0 := blk_frozen BK134.out 0; have hfz85_1 := blk_frozen BK134.out 1; have hfz85_2 := blk_frozen BK134.out 2))
    refine bodyPost_ret (results_ct rfl _ _ gb134 28 #[.bool false, .string (⟨#[]⟩ : ByteArray), .int .i64 0] (0, 0) _ rfl (by (with_reducible repeat (first | refine blk_drewN ?_ _ | refine blk_drew ?_ | refine blk_alloc ?_ _)); refine blk_put (cs := #[.bool false, .string (⟨#[]⟩ : ByteArray), .int .i64 0]) ?_ 2 _ rfl; (with_reducible repeat (first | refine blk_drewN ?_ _ | refine blk_drew ?_ | refine blk_alloc ?_ _)); refine blk_put (cs := #[.bool false, .string (⟨#[]⟩ : ByteArray), .int .i64 0]) ?_ 1 _ rfl; (with_reducible repeat (first | refine blk_drewN ?_ _ | refine blk_drew ?_ | refine blk_alloc ?_ _)); refine blk_put (cs := #[.bool false, .string (⟨#[]⟩ : ByteArray), .int .i64 0]) ?_ 0 _ rfl; (with_reducible repeat (first | refine blk_drewN ?_ _ | refine blk_drew ?_ | refine blk_alloc ?_ _)); exact BK134.out) Tryd.underlying28 rfl (by kernel_rfl)) rfl ?_
    try simp only [beq_nil_isEmpty, bytesLess_gtr]
    exact ⟨by first | rfl | (simp [errW_none, errW_some] <;> rfl) | (simp [*, errW_none, errW_some] <;> rfl), by repeat (first | (with_reducible first | exact HB.out | apply below_alloc | apply pw_below_drewN | apply below_drew1 | refine below_set ?_ GE134.out) | exact HB.out)⟩

end Go.Proofs.YtbgigckmehgcpaaDoor.Pr
