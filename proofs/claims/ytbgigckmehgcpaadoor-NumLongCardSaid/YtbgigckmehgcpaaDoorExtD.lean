/- num.Parse at a text that is a number's. -/
import Derived.Test.YtbgigckmehgcpaaDoorExtC
namespace Go.Proofs.YtbgigckmehgcpaaDoor
open Go.RowKit Go.Proofs.YtbgigckmehgcpaaDoorW.PrintWords Pa
theorem form_len (d : Bool) (D : List UInt8) (x : Int) : (NumP.form d D x).2.1.length ≤ D.length := by
  have h1 : (NumP.lstrip D).length ≤ D.length := (List.dropWhile_suffix NumP.isZ).length_le
  have h2 : (NumP.rstrip (NumP.lstrip D)).length ≤ (NumP.lstrip D).length := by
    unfold NumP.rstrip
    rw [List.length_reverse]
    exact Nat.le_trans (List.dropWhile_suffix NumP.isZ).length_le (by simp)
  unfold NumP.form; split
  · simp [NumP.zero]
  · exact Nat.le_trans h2 h1
set_option maxRecDepth 100000 in
set_option maxHeartbeats 2000000 in
theorem num_Parse.ok_ (s : List UInt8) (w : World) (hs : s.length ≤ 1000000000000000000) (hok : NumP.ok s = true) :
    Calls Tryd.prog 11 #[.string (ofL s)] w fun e w' => e = .returned (.tuple #[.agg #[.bool (NumP.parse s).1.1, .string (ofL (NumP.parse s).1.2.1), .int .i64 (NumP.parse s).1.2.2], .int .i64 (NumP.parse s).2]) ∧ Below w.heap.size w w' := by
  have hmf : ∀ (fn : Fn) (first cap : Array Value) (w : World), (Instr.makeFunc fn first cap).run Tryd.prog w = .ok (.func fn first cap) w := fun _ _ _ _ => rfl
  obtain ⟨m1, m2⟩ := sg_minus s
  have hE := expP_dig (NumP.rest2 s)
  have hpb := pow_bd _ hE
  have hpf : num_power.f (ofL (NumP.expP (NumP.rest2 s))) = some (NumP.pow (NumP.expP (NumP.rest2 s))) := by
    unfold num_power.f; rw [ofL_data, if_pos hE]
  clear hE
  have HPF := Lib.hid hpf
  clear hpf
  have hW : (NumP.whole s).length ≤ s.length := by
    have h1 := (List.takeWhile_prefix (l := NumP.dropSign s) NumP.isD).length_le
    have h2 : (NumP.dropSign s).length ≤ s.length := by unfold NumP.dropSign; split <;> simp
    exact Nat.le_trans h1 h2
  have hP : (NumP.dotP (NumP.rest1 s)).length ≤ s.length := by
    have h1 : (NumP.rest1 s).length ≤ s.length := by
      have h1 := (List.dropWhile_suffix (l := NumP.dropSign s) NumP.isD).length_le
      have h2 : (NumP.dropSign s).length ≤ s.length := by unfold NumP.dropSign; split <;> simp
      exact Nat.le_trans h1 h2
    refine Nat.le_trans ?_ h1
    unfold NumP.dotP; split
    · have := (List.takeWhile_prefix (l := (NumP.rest1 s).tail) NumP.isD).length_le
      have := List.length_tail (l := NumP.rest1 s)
      omega
    · simp
  have hfm : ∀ x : Int, -2000000000000000000 ≤ x → x ≤ 2000000000000000000 → num_form.f (NumP.down s) (ofL (NumP.whole s) ++ ofL (NumP.dotP (NumP.rest1 s))) x = some ((NumP.form (NumP.down s) (NumP.whole s ++ NumP.dotP (NumP.rest1 s)) x).1, ofL (NumP.form (NumP.down s) (NumP.whole s ++ NumP.dotP (NumP.rest1 s)) x).2.1, (NumP.form (NumP.down s) (NumP.whole s ++ NumP.dotP (NumP.rest1 s)) x).2.2) := fun x h1 h2 => by
    rw [ofL_app]; exact form_f _ _ _ (by rw [List.length_append]; omega) ⟨by omega, by omega⟩
  have hrt : ∀ x : Int, num_Right.f (NumP.form (NumP.down s) (NumP.whole s ++ NumP.dotP (NumP.rest1 s)) x).1 (ofL (NumP.form (NumP.down s) (NumP.whole s ++ NumP.dotP (NumP.rest1 s)) x).2.1) (NumP.form (NumP.down s) (NumP.whole s ++ NumP.dotP (NumP.rest1 s)) x).2.2 = some (NumP.right (NumP.form (NumP.down s) (NumP.whole s ++ NumP.dotP (NumP.rest1 s)) x)) := fun x => by
    refine right_f _ _ _ ?_
    have := form_len (NumP.down s) (NumP.whole s ++ NumP.dotP (NumP.rest1 s)) x
    rw [List.length_append] at this; omega
  have htg : NumP.parse s = if NumP.right (NumP.num s) = true then (NumP.num s, 0) else (NumP.zero, 13) := by unfold NumP.parse; rw [if_pos hok]
  have hnm : NumP.num s = NumP.form (NumP.down s) (NumP.whole s ++ NumP.dotP (NumP.rest1 s)) ((if NumP.expL (NumP.rest2 s) = true then - NumP.pow (NumP.expP (NumP.rest2 s)) else NumP.pow (NumP.expP (NumP.rest2 s))) - ((NumP.dotP (NumP.rest1 s)).length : Int)) := rfl
  have HTG := Lib.hid htg
  have HNM := Lib.hid hnm
  have HFM := Lib.hid hfm
  have HRT := Lib.hid hrt
  clear htg hnm hfm hrt
  have hsz : ((ofL (NumP.dotP (NumP.rest1 s))).size : Int) = ((NumP.dotP (NumP.rest1 s)).length : Int) := by rw [ofL_size]
  have hcat : (ofL (NumP.whole s)).size + (ofL (NumP.dotP (NumP.rest1 s))).size ≤ 9223372036854775807 := by rw [ofL_size, ofL_size]; omega
  have HSZ := Lib.hid hsz
  clear hsz
  generalize NumP.parse s = target at *
  go_enter Tryd.func11, Tryd.ntmps11
  go_wp2_with fail
  have HS := Lib.hid (PS.start w (ofL s))
  refine wp_loop_rounds 5 ?_
  rw [rounds_succ]
  generalize World.alloc _ _ = W0 at HS ⊢
  have k0 := blk_cell HS.out.h8 0
  simp at k0
  go_wp2_with fail
  refine (step1 w W0 s false _ _ _ _ _ HS.out).mono ?_
  rintro e W1 ⟨rfl, h1⟩
  have H1 := Lib.hid h1
  clear h1 k0
  have k1 := blk_cell H1.out.h8 1
  simp at k1
  go_wp2_with fail
  rw [rounds_succ]
  go_wp2_with fail
  have hl1 : (sgR s [45]).length ≤ s.length := sgR_len s _
  refine (step2 w W1 (sgR s [45]) false _ _ _ _ _ (by omega) H1.out).mono ?_
  rintro e W2 ⟨rfl, h2⟩
  have H2 := Lib.hid h2
  clear h2 k1
  have k2 := blk_cell H2.out.h8 2
  simp at k2
  go_wp2_with fail
  rw [rounds_succ]
  go_wp2_with fail
  have hl2 : ((sgR s [45]).dropWhile NumP.isD).length ≤ s.length := Nat.le_trans (List.dropWhile_suffix NumP.isD).length_le hl1
  refine (step3 w W2 _ _ _ _ _ _ (by omega) H2.out).mono ?_
  rintro e W3 ⟨rfl, h3⟩
  have H3 := Lib.hid h3
  clear h3 k2
  have k3 := blk_cell H3.out.h8 3
  simp at k3
  go_wp2_with fail
  rw [rounds_succ]
  go_wp2_with fail
  have hl3 : (NumP.dotR ((sgR s [45]).dropWhile NumP.isD)).length ≤ s.length := by
    refine Nat.le_trans ?_ hl2
    unfold NumP.dotR; split
    · have := (List.dropWhile_suffix (l := ((sgR s [45]).dropWhile NumP.isD).tail) NumP.isD).length_le
      have := List.length_tail (l := (sgR s [45]).dropWhile NumP.isD)
      omega
    · exact Nat.le_refl _
  refine (step4 w W3 _ _ _ _ _ (by omega) H3.out).mono ?_
  rintro e W4 ⟨rfl, h4⟩
  have H4 := Lib.hid h4
  clear h4 k3 HS H1 H2 H3 hl1 hl2 hl3
  go_wp2_with fail
  rw [rounds_succ]
  rw [m1, m2] at H4
  have hbad : (((false || NumP.wholeB ((NumP.dropSign s).takeWhile NumP.isD)) || NumP.dotB ((NumP.dropSign s).dropWhile NumP.isD)) || NumP.expB (NumP.dotR ((NumP.dropSign s).dropWhile NumP.isD))) = NumP.bad s := by
    rw [Bool.false_or]; rfl
  rw [hbad] at H4
  change Hid (PS w W4 (ofL (NumP.rest3 s)) _ (ofL (NumP.whole s)) (ofL (NumP.dotP (NumP.rest1 s))) (ofL (NumP.expP (NumP.rest2 s))) (NumP.down s) (NumP.expL (NumP.rest2 s))) at H4
  clear m1 m2 hbad
  have hE := Lib.hid (ofL_toList (NumP.rest3 s))
  unfold NumP.ok at hok
  obtain ⟨hb0, hz0⟩ : NumP.bad s = false ∧ (NumP.rest3 s).isEmpty = true := by
    revert hok; cases NumP.bad s <;> cases (NumP.rest3 s).isEmpty <;> simp
  rw [hb0] at H4
  have hz : (ofL (NumP.rest3 s)).toList.isEmpty = true := by rw [hE.out]; exact hz0
  clear hb0 hz0 hE hok
  have c2 : W4.cell? ⟨w.heap.size + 1 + 1, 0, none⟩ = some (.pointer (some ⟨w.heap.size + 1, 0, none⟩)) := cell_of_one H4.out.h2
  have c10 := blk_cell H4.out.h1 0
  have c11 := blk_cell H4.out.h1 1
  simp at c10 c11
  have c00 := blk_cell H4.out.h0 0
  have c01 := blk_cell H4.out.h0 1
  have c02 := blk_cell H4.out.h0 2
  have f00 := blk_frozen H4.out.h0 0
  have f01 := blk_frozen H4.out.h0 1
  have f02 := blk_frozen H4.out.h0 2
  simp at c00 c01 c02
  have c4 : W4.cell? ⟨w.heap.size + 1 + 1 + 1 + 1 + 1, 0, none⟩ = _ := cell_of_one H4.out.h5
  go_wp2_with fail
  refine (num_power.calls _ _ _ HPF.out).mono ?_
  rintro e W5 ⟨rfl, hb⟩
  have H5 := Lib.hid (H4.out.below_ hb)
  clear hb c2 c10 c11 c00 c01 c02 f00 f01 f02 c4 hz
  have c7 : W5.cell? ⟨w.heap.size + 1 + 1 + 1 + 1 + 1 + 1 + 1, 0, none⟩ = _ := cell_of_one H5.out.h7
  have c6 : W5.cell? ⟨w.heap.size + 1 + 1 + 1 + 1 + 1 + 1, 0, none⟩ = _ := cell_of_one H5.out.h6
  have c4 : W5.cell? ⟨w.heap.size + 1 + 1 + 1 + 1, 0, none⟩ = _ := cell_of_one H5.out.h4
  have c3 : W5.cell? ⟨w.heap.size + 1 + 1 + 1, 0, none⟩ = _ := cell_of_one H5.out.h3
  obtain ⟨hp0, hp1⟩ := hpb
  generalize NumP.pow (NumP.expP (NumP.rest2 s)) = p at *
  have hps : ((ofL (NumP.dotP (NumP.rest1 s))).size : Int) ≤ 1000000000000000000 := by have := HSZ.out; omega
  have hps0 : 0 ≤ ((ofL (NumP.dotP (NumP.rest1 s))).size : Int) := Int.natCast_nonneg _
  cases hless : NumP.expL (NumP.rest2 s) with
  | true =>
    have hn : NumP.num s = NumP.form (NumP.down s) (NumP.whole s ++ NumP.dotP (NumP.rest1 s)) (-p - ((ofL (NumP.dotP (NumP.rest1 s))).size : Int)) := by
      rw [HNM.out, hless, HSZ.out]; rfl
    have hf := HFM.out (-p - ((ofL (NumP.dotP (NumP.rest1 s))).size : Int)) (by omega) (by omega)
    have hr := HRT.out (-p - ((ofL (NumP.dotP (NumP.rest1 s))).size : Int))
    rw [← hn] at hf hr
    have HF := Lib.hid hf
    have HR := Lib.hid hr
    rw [hless] at c7
    clear hf hr hn HFM HRT HNM HSZ hless HPF
    generalize NumP.num s = n at *
    obtain ⟨nd, nD, ne⟩ := n
    simp only at HF HR HTG
    cases hR : NumP.right (nd, nD, ne) with
    | true =>
      rw [hR] at HR HTG
      have HT : Hid (target = ((nd, nD, ne), 0)) := HTG.out
      clear HTG hR
      go_wp2_with fail
      refine (num_form.calls _ _ _ _ _ _ _ HF.out).mono ?_
      rintro e W6 ⟨rfl, hb⟩
      have H6 := Lib.hid (H5.out.below_ hb)
      clear hb c7 c6 c4 c3
      have f00 := blk_frozen H6.out.h0 0
      have f01 := blk_frozen H6.out.h0 1
      have f02 := blk_frozen H6.out.h0 2
      have c00 := blk_cell H6.out.h0 0
      have c01 := blk_cell H6.out.h0 1
      have c02 := blk_cell H6.out.h0 2
      simp at c00 c01 c02
      go_wp2_with fail
      have HN := Lib.hid (blk_new W6 (Obj.cells #[Value.bool nd, Value.string (ofL nD), Value.int IntKind.i64 ne] 24))
      have H7 := Lib.hid (H6.out.below_ (below_alloc (Below.refl W6.heap.size W6) (Obj.cells #[Value.bool nd, Value.string (ofL nD), Value.int IntKind.i64 ne] 24)))
      have hlt := Lib.hid (blk_lt H6.out.h0)
      generalize W6.alloc (Obj.cells #[Value.bool nd, Value.string (ofL nD), Value.int IntKind.i64 ne] 24) = W7 at HN H7 ⊢
      clear f00 f01 f02 c00 c01 c02
      refine (num_Right.calls _ _ _ _ _ HR.out).mono ?_
      rintro e W8 ⟨rfl, hb⟩
      have H8 := Lib.hid (H7.out.below_ hb)
      have HM := Lib.hid (blk_below HN.out hb)
      clear hb H7 HN
      have f00 := blk_frozen H8.out.h0 0
      have f01 := blk_frozen H8.out.h0 1
      have f02 := blk_frozen H8.out.h0 2
      have c00 := blk_cell H8.out.h0 0
      have c01 := blk_cell H8.out.h0 1
      have c02 := blk_cell H8.out.h0 2
      have d0 := blk_cell HM.out 0
      have d1 := blk_cell HM.out 1
      have d2 := blk_cell HM.out 2
      simp at c00 c01 c02 d0 d1 d2
      go_wp2
      refine bodyPost_ret (v := .tuple #[.agg #[.bool nd, .string (ofL nD), .int .i64 ne], .int .i64 0]) (by simp [results, Tryd.results11, go_sem, c00, c01, c02]) rfl ⟨?_, ?_⟩
      · rw [HT.out]
      · exact ((H8.out.below.setCell (by simp) _).setCell (by simp) _).setCell (by simp) _
    | false =>
      rw [hR] at HR HTG
      have HT : Hid (target = (NumP.zero, 13)) := HTG.out
      clear HTG hR
      go_wp2_with fail
      refine (num_form.calls _ _ _ _ _ _ _ HF.out).mono ?_
      rintro e W6 ⟨rfl, hb⟩
      have H6 := Lib.hid (H5.out.below_ hb)
      clear hb c7 c6 c4 c3
      have f00 := blk_frozen H6.out.h0 0
      have f01 := blk_frozen H6.out.h0 1
      have f02 := blk_frozen H6.out.h0 2
      have c00 := blk_cell H6.out.h0 0
      have c01 := blk_cell H6.out.h0 1
      have c02 := blk_cell H6.out.h0 2
      simp at c00 c01 c02
      go_wp2_with fail
      have HN := Lib.hid (blk_new W6 (Obj.cells #[Value.bool nd, Value.string (ofL nD), Value.int IntKind.i64 ne] 24))
      have H7 := Lib.hid (H6.out.below_ (below_alloc (Below.refl W6.heap.size W6) (Obj.cells #[Value.bool nd, Value.string (ofL nD), Value.int IntKind.i64 ne] 24)))
      have hlt := Lib.hid (blk_lt H6.out.h0)
      generalize W6.alloc (Obj.cells #[Value.bool nd, Value.string (ofL nD), Value.int IntKind.i64 ne] 24) = W7 at HN H7 ⊢
      clear f00 f01 f02 c00 c01 c02
      refine (num_Right.calls _ _ _ _ _ HR.out).mono ?_
      rintro e W8 ⟨rfl, hb⟩
      have H8 := Lib.hid (H7.out.below_ hb)
      have HM := Lib.hid (blk_below HN.out hb)
      clear hb H7 HN
      have f00 := blk_frozen H8.out.h0 0
      have f01 := blk_frozen H8.out.h0 1
      have f02 := blk_frozen H8.out.h0 2
      have c00 := blk_cell H8.out.h0 0
      have c01 := blk_cell H8.out.h0 1
      have c02 := blk_cell H8.out.h0 2
      have d0 := blk_cell HM.out 0
      have d1 := blk_cell HM.out 1
      have d2 := blk_cell HM.out 2
      simp at c00 c01 c02 d0 d1 d2
      go_wp2
      refine bodyPost_ret (v := .tuple #[.agg #[.bool false, .string ⟨#[]⟩, .int .i64 0], .int .i64 13]) (by simp [results, Tryd.results11, go_sem, c00, c01, c02]) rfl ⟨?_, ?_⟩
      · rw [HT.out]; rfl
      · exact ((H8.out.below.setCell (by simp) _).setCell (by simp) _).setCell (by simp) _
  | false =>
    have hn : NumP.num s = NumP.form (NumP.down s) (NumP.whole s ++ NumP.dotP (NumP.rest1 s)) (p - ((ofL (NumP.dotP (NumP.rest1 s))).size : Int)) := by
      rw [HNM.out, hless, HSZ.out]; rfl
    have hf := HFM.out (p - ((ofL (NumP.dotP (NumP.rest1 s))).size : Int)) (by omega) (by omega)
    have hr := HRT.out (p - ((ofL (NumP.dotP (NumP.rest1 s))).size : Int))
    rw [← hn] at hf hr
    have HF := Lib.hid hf
    have HR := Lib.hid hr
    rw [hless] at c7
    clear hf hr hn HFM HRT HNM HSZ hless HPF
    generalize NumP.num s = n at *
    obtain ⟨nd, nD, ne⟩ := n
    simp only at HF HR HTG
    cases hR : NumP.right (nd, nD, ne) with
    | true =>
      rw [hR] at HR HTG
      have HT : Hid (target = ((nd, nD, ne), 0)) := HTG.out
      clear HTG hR
      go_wp2_with fail
      refine (num_form.calls _ _ _ _ _ _ _ HF.out).mono ?_
      rintro e W6 ⟨rfl, hb⟩
      have H6 := Lib.hid (H5.out.below_ hb)
      clear hb c7 c6 c4 c3
      have f00 := blk_frozen H6.out.h0 0
      have f01 := blk_frozen H6.out.h0 1
      have f02 := blk_frozen H6.out.h0 2
      have c00 := blk_cell H6.out.h0 0
      have c01 := blk_cell H6.out.h0 1
      have c02 := blk_cell H6.out.h0 2
      simp at c00 c01 c02
      go_wp2_with fail
      have HN := Lib.hid (blk_new W6 (Obj.cells #[Value.bool nd, Value.string (ofL nD), Value.int IntKind.i64 ne] 24))
      have H7 := Lib.hid (H6.out.below_ (below_alloc (Below.refl W6.heap.size W6) (Obj.cells #[Value.bool nd, Value.string (ofL nD), Value.int IntKind.i64 ne] 24)))
      have hlt := Lib.hid (blk_lt H6.out.h0)
      generalize W6.alloc (Obj.cells #[Value.bool nd, Value.string (ofL nD), Value.int IntKind.i64 ne] 24) = W7 at HN H7 ⊢
      clear f00 f01 f02 c00 c01 c02
      refine (num_Right.calls _ _ _ _ _ HR.out).mono ?_
      rintro e W8 ⟨rfl, hb⟩
      have H8 := Lib.hid (H7.out.below_ hb)
      have HM := Lib.hid (blk_below HN.out hb)
      clear hb H7 HN
      have f00 := blk_frozen H8.out.h0 0
      have f01 := blk_frozen H8.out.h0 1
      have f02 := blk_frozen H8.out.h0 2
      have c00 := blk_cell H8.out.h0 0
      have c01 := blk_cell H8.out.h0 1
      have c02 := blk_cell H8.out.h0 2
      have d0 := blk_cell HM.out 0
      have d1 := blk_cell HM.out 1
      have d2 := blk_cell HM.out 2
      simp at c00 c01 c02 d0 d1 d2
      go_wp2
      refine bodyPost_ret (v := .tuple #[.agg #[.bool nd, .string (ofL nD), .int .i64 ne], .int .i64 0]) (by simp [results, Tryd.results11, go_sem, c00, c01, c02]) rfl ⟨?_, ?_⟩
      · rw [HT.out]
      · exact ((H8.out.below.setCell (by simp) _).setCell (by simp) _).setCell (by simp) _
    | false =>
      rw [hR] at HR HTG
      have HT : Hid (target = (NumP.zero, 13)) := HTG.out
      clear HTG hR
      go_wp2_with fail
      refine (num_form.calls _ _ _ _ _ _ _ HF.out).mono ?_
      rintro e W6 ⟨rfl, hb⟩
      have H6 := Lib.hid (H5.out.below_ hb)
      clear hb c7 c6 c4 c3
      have f00 := blk_frozen H6.out.h0 0
      have f01 := blk_frozen H6.out.h0 1
      have f02 := blk_frozen H6.out.h0 2
      have c00 := blk_cell H6.out.h0 0
      have c01 := blk_cell H6.out.h0 1
      have c02 := blk_cell H6.out.h0 2
      simp at c00 c01 c02
      go_wp2_with fail
      have HN := Lib.hid (blk_new W6 (Obj.cells #[Value.bool nd, Value.string (ofL nD), Value.int IntKind.i64 ne] 24))
      have H7 := Lib.hid (H6.out.below_ (below_alloc (Below.refl W6.heap.size W6) (Obj.cells #[Value.bool nd, Value.string (ofL nD), Value.int IntKind.i64 ne] 24)))
      have hlt := Lib.hid (blk_lt H6.out.h0)
      generalize W6.alloc (Obj.cells #[Value.bool nd, Value.string (ofL nD), Value.int IntKind.i64 ne] 24) = W7 at HN H7 ⊢
      clear f00 f01 f02 c00 c01 c02
      refine (num_Right.calls _ _ _ _ _ HR.out).mono ?_
      rintro e W8 ⟨rfl, hb⟩
      have H8 := Lib.hid (H7.out.below_ hb)
      have HM := Lib.hid (blk_below HN.out hb)
      clear hb H7 HN
      have f00 := blk_frozen H8.out.h0 0
      have f01 := blk_frozen H8.out.h0 1
      have f02 := blk_frozen H8.out.h0 2
      have c00 := blk_cell H8.out.h0 0
      have c01 := blk_cell H8.out.h0 1
      have c02 := blk_cell H8.out.h0 2
      have d0 := blk_cell HM.out 0
      have d1 := blk_cell HM.out 1
      have d2 := blk_cell HM.out 2
      simp at c00 c01 c02 d0 d1 d2
      go_wp2
      refine bodyPost_ret (v := .tuple #[.agg #[.bool false, .string ⟨#[]⟩, .int .i64 0], .int .i64 13]) (by simp [results, Tryd.results11, go_sem, c00, c01, c02]) rfl ⟨?_, ?_⟩
      · rw [HT.out]; rfl
      · exact ((H8.out.below.setCell (by simp) _).setCell (by simp) _).setCell (by simp) _
theorem ofL_of (a : ByteArray) : ofL a.data.toList = a := by cases a; simp [ofL]
theorem num_Parse.calls (a0 : ByteArray) (r1 : Bool) (r2 : ByteArray) (r3 : Int) (r4 : Int) (w : World) (h : num_Parse.f a0 = some (r1, r2, r3, r4)) :
    Calls Tryd.prog 11 #[.string a0] w fun e w' => e = .returned (.tuple #[.agg #[.bool r1, .string r2, .int .i64 r3], .int .i64 r4]) ∧ Below w.heap.size w w' := by
  unfold num_Parse.f at h
  split at h
  · rename_i hs
    simp only [Option.some.injEq, Prod.mk.injEq] at h
    obtain ⟨rfl, rfl, rfl, rfl⟩ := h
    have e := ofL_of a0
    have hl : a0.data.toList.length ≤ 1000000000000000000 := by simpa using hs
    generalize a0.data.toList = s at *
    subst e
    cases hok : NumP.ok s with
    | true => exact num_Parse.ok_ s w hl hok
    | false =>
      have : NumP.parse s = (NumP.zero, 11) := by unfold NumP.parse; rw [if_neg (by rw [hok]; simp)]
      rw [this]
      exact num_Parse.bad_ s w hl hok
  · exact absurd h (by simp)
end Go.Proofs.YtbgigckmehgcpaaDoor
