/- rubricator/rubricatorlaw14.NumCompares: how any two numbers stand is the reference's; for every two numbers. -/
import Derived.Test.YtbgigckmehgcpaaDoorFrame
import Derived.Test.YtbgigckmehgcpaaDoorNumCompares
import Derived.WalkKit
import Derived.ProofKit
import Derived.OpenShut
import Derived.ShutString
import Derived.ChangeOld
import Derived.Below
import Derived.SizedLaws
import Derived.Deep.DeepHandedRow
import Derived.Lib.LaidTab
import Derived.Lib.SmallJoins
namespace Go.Proofs.YtbgigckmehgcpaaDoor.numCompares
open Go.ChangeShapes Go.WideShapes Go.ChangeAt Go.RowKit Go.Joins
open Go.ChangeMaps (open_string shut_string)
set_option linter.unusedVariables false
theorem laid_met (os : Os) : laidMet Tryd.prog Rows.numComparesRow.laid ((Frame.laidWorld os).forCall (fun _ _ => 0) ⟨#[], #[.agg #[.bool false, .string ⟨#[]⟩, .int .i64 0], .agg #[.bool false, .string ⟨#[]⟩, .int .i64 0]], []⟩).memory :=
  laidMet_of_run' 8 (by kernel_rfl) (by kernel_rfl)
theorem reads (os : Os) {H : Type} (enc : TypeId × Value → H) : ∃ places, DataW.whole enc Tryd.prog ((Frame.laidWorld os).forCall (fun _ _ => 0) ⟨#[], #[.agg #[.bool false, .string ⟨#[]⟩, .int .i64 0], .agg #[.bool false, .string ⟨#[]⟩, .int .i64 0]], []⟩).memory Tryd.f4.params.toList Rows.numComparesSpec.vars false #[Value.agg #[.bool false, .string ⟨#[]⟩, .int .i64 0], .agg #[.bool false, .string ⟨#[]⟩, .int .i64 0]].toList 8 = some ([.agg [.lit (.bool false), .lit (.string []), .lit (.int .i64 0)], .agg [.lit (.bool false), .lit (.string []), .lit (.int .i64 0)]], [], places) :=
  ⟨[], by kernel_rfl⟩
set_option maxRecDepth 100000 in
theorem lifted (os : Os) (started : os.Started) (H : Type) (enc : TypeId × Value → H) (F : Stop.Interp) :
    ReturnsInHanded {} Tryd.checked os 4 .any ((OpenSpec.ofChange Rows.numComparesSpec).preRow enc Tryd.prog Tryd.f4 Rows.numComparesRow.domain false Rows.numComparesRow.laid) (((OpenSpec.ofChange Rows.numComparesSpec).at F).post enc Tryd.prog Tryd.f4 false true false false) := by
  obtain ⟨places, hx⟩ := reads os enc
  refine returnsInHanded_of_row (C := Tryd.checked) (s := OpenSpec.ofChange Rows.numComparesSpec) Frame.own started (by kernel_rfl) Tryd.func4
    (witness_row_at (enc := enc) (C := Tryd.checked) false (Frame.laidWorld os) #[.agg #[.bool false, .string ⟨#[]⟩, .int .i64 0], .agg #[.bool false, .string ⟨#[]⟩, .int .i64 0]] rfl (by kernel_rfl) (by kernel_rfl) (by kernel_rfl)
      (OpenSpec.preRow_of_cond 8 hx (by kernel_rfl) (fun k hk => by cases hk) (by kernel_rfl) (laid_met os))) ?_
  intro W base args ds gs before hval0 hW _ _ hsz0 hL _ _
  have hsz : (DataW.weightsEach Tryd.prog (Tryd.f4.params.toList ++ Rows.numComparesSpec.plain.varTypes Tryd.prog) (ds ++ gs)).all (· ≤ reachBytes) = true := hsz0
  have hval : ∀ (j : Nat) t v, Tryd.f4.params[j]? = some t → args[j]? = some v → Value.okWide Tryd.prog W .any base t v := hval0
  have hW' := hW
  obtain ⟨p, q, hA0, hV, rfl, hfz, hnd⟩ := hW
  have hA : DataW.TrodAll enc Tryd.prog W 0 (fun _ => true) true Tryd.f4.params.toList args.toList ds p := hA0
  rw [Tryd.params4] at hA hval hsz
  obtain ⟨v0, vs0, d0, ds0, p0, q0, hargs, rfl, rfl, h0, r0⟩ := trodAll_cons hA
  obtain ⟨v1, vs1, d1, ds1, p1, q1, rfl, rfl, rfl, h1, r1⟩ := trodAll_cons r0
  obtain ⟨rfl, rfl, rfl⟩ := trodAll_nil r1
  obtain rfl : args = #[v0, v1] := by cases args; simp_all
  obtain ⟨rfl, rfl⟩ := trodVars_none hV
  obtain ⟨x00, x01, x02, e00, e01, e02, m0, rfl, rfl, rfl, g00, g01, g02⟩ := open_agg3 Tryd.underlying24 (by kernel_rfl) (by kernel_rfl) (hval 0 24 v0 rfl rfl) h0
  obtain ⟨a00, f00, rfl⟩ := DataW.trod_bool Tryd.underlying4 g00
  obtain ⟨a01, f01, rfl, y0⟩ := DataW.trod_string Tryd.underlying9 g01
  obtain ⟨a02, f02, rfl, u0⟩ := DataW.trod_int Tryd.underlying3 g02
  simp at f00 f01 f02
  subst f00 f01 f02
  obtain ⟨x10, x11, x12, e10, e11, e12, m1, rfl, rfl, rfl, g10, g11, g12⟩ := open_agg3 Tryd.underlying24 (by kernel_rfl) (by kernel_rfl) (hval 1 24 v1 rfl rfl) h1
  obtain ⟨a10, f10, rfl⟩ := DataW.trod_bool Tryd.underlying4 g10
  obtain ⟨a11, f11, rfl, y1⟩ := DataW.trod_string Tryd.underlying9 g11
  obtain ⟨a12, f12, rfl, u1⟩ := DataW.trod_int Tryd.underlying3 g12
  simp at f10 f11 f12
  subst f10 f11 f12
  clear hA0 hval0 hsz0 hsz
  obtain ⟨kk, hh⟩ := NumCompares a00 a01 a02 a10 a11 a12
  refine (Pr.rubricatorlaw14_NumCompares.calls kk a00 a01 a02 a10 a11 a12 true W (Frame.tabs hL) hh).mono fun e W' ⟨he, bel⟩ => ?_
  subst he
  exact ⟨_, rfl, _, _, _, [], _, [], hW', trodAll_mk1 (shut_bool Tryd.underlying4 _), (trodAll_cons_mk (Frame.agg24 a00 a01 a02 y0 u0) (trodAll_cons_mk (Frame.agg24 a10 a11 a12 y1 u1) trodAll_mk0)), rfl, bel.frame _, fun h => by cases h⟩
theorem said : Rows.NumComparesSaid :=
  OpenClaim.holds_of_cond 4 Tryd.f4 rfl rfl rfl rfl rfl rfl rfl ⟨rfl, rfl, rfl, rfl, rfl⟩ rfl rfl rfl rfl rfl (by kernel_rfl) Tryd.func4 (by kernel_rfl)
    (of_decide_eq_true (by kernel_rfl)) (by unfold Func.isWrapper; first | (rw [if_pos (by decide +kernel)]; kernel_rfl) | (rw [if_neg (by decide +kernel)]; exact ⟨rfl, rfl⟩))
    (fun os started H enc _ F => by rw [OpenClaim.pre_eq_preRow]; exact lifted os started H enc F)
theorem plain (f : FuncId) (fn : Func) (hf : Tryd.pinned.checked.prog.funcNamed "rubricator/rubricatorlaw14.NumCompares" = some f) (hfn : Tryd.pinned.checked.prog.funcs[f]? = some fn) :
    false = Tryd.pinned.checked.prog.looks [] ∧ ∀ (j : Nat) t, fn.params[j]? = some t → Tryd.pinned.checked.prog.wantsStandIn t = false := by
  obtain rfl : f = 4 := Option.some.inj ((show Tryd.prog.funcNamed "rubricator/rubricatorlaw14.NumCompares" = some 4 by kernel_rfl).symm.trans hf) |>.symm
  obtain rfl : fn = Tryd.f4 := (Option.some.inj (Tryd.func4.symm.trans hfn)).symm
  refine ⟨by kernel_rfl, fun j t ht => ?_⟩
  rw [Tryd.params4] at ht
  have hm := Array.mem_of_getElem? ht
  have hall : ∀ t ∈ #[24, 24], Tryd.prog.wantsStandIn t = false := by
    intro t h
    simp only [List.mem_toArray, List.mem_cons, List.not_mem_nil, or_false] at h
    rcases h with rfl | rfl
    all_goals kernel_rfl
  exact hall t hm
theorem proved : Rows.NumComparesCardSaid :=
  Claim7.holds_tied_plain_at .later [] _ _ _ _ said (fun _ h => by cases h) (by kernel_rfl) (fun _ h => by cases h) numCompares_row_tie rfl ⟨rfl, rfl⟩ (by kernel_rfl) rfl plain (by kernel_rfl)
#print axioms proved
end Go.Proofs.YtbgigckmehgcpaaDoor.numCompares
