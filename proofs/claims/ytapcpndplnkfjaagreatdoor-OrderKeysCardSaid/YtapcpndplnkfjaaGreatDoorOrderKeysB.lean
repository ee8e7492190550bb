/- What the law rests on, part 2: joined by a program of this session (claimx.py). -/
import Derived.Test.YtapcpndplnkfjaaGreatDoorOrderKeysA
set_option linter.unusedVariables false
set_option linter.unusedSimpArgs false
namespace Go.Proofs.YtapcpndplnkfjaaGreatDoor
open Go.RowKit Go.Proofs.YtapcpndplnkfjaaGreatDoorW.PrintWords Pa
theorem form_len (d : Bool) (D : List UInt8) (x : Int) : (NumP.form d D x).2.1.length ≤ D.length := by
 have h1 : (NumP.lstrip D).length ≤ D.length := (List.dropWhile_suffix NumP.isZ).length_le
 have h2 : (NumP.rstrip (NumP.lstrip D)).length ≤ (NumP.lstrip D).length := by
  unfold NumP.rstrip
  rw [List.length_reverse]
  exact Nat.le_trans (List.dropWhile_suffix NumP.isZ).length_le (by simp)
 unfold NumP.form; split
 · simp [NumP.zero]
 exact Nat.le_trans h2 h1
set_option maxRecDepth 100000 in
set_option maxHeartbeats 2000000 in
theorem num_Parse.ok_ (s : List UInt8) (w : World) (hs : s.length ≤ 1000000000000000000) (hok : NumP.ok s = true) :
    Calls Tryz.prog 101 #[.string (ofL s)] w fun e w' => e = .returned (.tuple #[.agg #[.bool (NumP.parse s).1.1, .string (ofL (NumP.parse s).1.2.1), .int .i64 (NumP.parse s).1.2.2], .int .i64 (NumP.parse s).2]) ∧ Below w.heap.size w w' := by
 have hmf : ∀ (fn : Fn) (first cap : Array Value) (w : World), (Instr.makeFunc fn first cap).run Tryz.prog w = .ok (.func fn first cap) w := fun _ _ _ _ => rfl
 obtain ⟨m1, m2⟩ := sg_minus s
 have hE := expP_dig (NumP.rest2 s)
 have hpb := pow_bd _ hE
 have hpf : num_power.f (ofL (NumP.expP (NumP.rest2 s))) = some (NumP.pow (NumP.expP (NumP.rest2 s))) := by
  unfold num_power.f; rw [ofL_data, if_pos hE]
 clear hE
 have HPF := hi_ hpf
 clear hpf
 have hW : (NumP.whole s).length ≤ s.length := by
  have h1 := (List.takeWhile_prefix (l := NumP.dropSign s) NumP.isD).length_le
  have h2 : (NumP.dropSign s).length ≤ s.length := by unfold NumP.dropSign; split <;> simp
  exact Nat.le_trans h1 h2
 have hP : (NumP.dotP (NumP.rest1 s)).length ≤ s.length := by
  have h1 : (NumP.rest1 s).length ≤ s.length := by
   have h1 := (List.dropWhile_suffix (l := NumP.dropSign s) NumP.isD).length_le
   have h2 : (NumP.dropSign s).length ≤ s.length := by unfold NumP.dropSign; split <;> simp
   exact Nat.le_trans h1 h2
  refine Nat.le_trans ?_ h1
  unfold NumP.dotP; split
  · have := (List.takeWhile_prefix (l := (NumP.rest1 s).tail) NumP.isD).length_le
    have := List.length_tail (l := NumP.rest1 s)
    omega
  simp
 have hfm : ∀ x : Int, -2000000000000000000 ≤ x → x ≤ 2000000000000000000 → num_form.f (NumP.down s) (ofL (NumP.whole s) ++ ofL (NumP.dotP (NumP.rest1 s))) x = some ((NumP.form (NumP.down s) (NumP.whole s ++ NumP.dotP (NumP.rest1 s)) x).1, ofL (NumP.form (NumP.down s) (NumP.whole s ++ NumP.dotP (NumP.rest1 s)) x).2.1, (NumP.form (NumP.down s) (NumP.whole s ++ NumP.dotP (NumP.rest1 s)) x).2.2) := fun x h1 h2 => by
  rw [ofL_app]; exact form_f _ _ _ (by rw [List.length_append]; omega) ⟨by omega, by omega⟩
 have hrt : ∀ x : Int, num_Right.f (NumP.form (NumP.down s) (NumP.whole s ++ NumP.dotP (NumP.rest1 s)) x).1 (ofL (NumP.form (NumP.down s) (NumP.whole s ++ NumP.dotP (NumP.rest1 s)) x).2.1) (NumP.form (NumP.down s) (NumP.whole s ++ NumP.dotP (NumP.rest1 s)) x).2.2 = some (NumP.right (NumP.form (NumP.down s) (NumP.whole s ++ NumP.dotP (NumP.rest1 s)) x)) := fun x => by
  refine right_f _ _ _ ?_
  have := form_len (NumP.down s) (NumP.whole s ++ NumP.dotP (NumP.rest1 s)) x
  rw [List.length_append] at this; omega
 have htg : NumP.parse s = if NumP.right (NumP.num s) = true then (NumP.num s, 0) else (NumP.zero, 13) := by unfold NumP.parse; rw [if_pos hok]
 have hnm : NumP.num s = NumP.form (NumP.down s) (NumP.whole s ++ NumP.dotP (NumP.rest1 s)) ((if NumP.expL (NumP.rest2 s) = true then - NumP.pow (NumP.expP (NumP.rest2 s)) else NumP.pow (NumP.expP (NumP.rest2 s))) - ((NumP.dotP (NumP.rest1 s)).length : Int)) := rfl
 have HTG := hi_ htg
 have HNM := hi_ hnm
 have HFM := hi_ hfm
 have HRT := hi_ hrt
 clear htg hnm hfm hrt
 have hsz : ((ofL (NumP.dotP (NumP.rest1 s))).size : Int) = ((NumP.dotP (NumP.rest1 s)).length : Int) := by rw [ofL_size]
 have hcat : (ofL (NumP.whole s)).size + (ofL (NumP.dotP (NumP.rest1 s))).size ≤ 9223372036854775807 := by rw [ofL_size, ofL_size]; omega
 have HSZ := hi_ hsz
 clear hsz
 generalize NumP.parse s = target at *
 go_enter Tryz.func101, Tryz.ntmps101
 go_wp2_with fail
 have HS := hi_ (PS.start w (ofL s))
 refine wp_loop_rounds 5 ?_
 rw [rounds_succ]
 generalize World.alloc _ _ = W0 at HS ⊢
 have k0 := blk_cell HS.out.h8 0
 simp at k0
 go_wp2_with fail
 refine (step1 w W0 s false _ _ _ _ _ HS.out).mono ?_
 rintro e W1 ⟨rfl, h1⟩
 have H1 := hi_ h1
 clear h1 k0
 have k1 := blk_cell H1.out.h8 1
 simp at k1
 go_wp2_with fail
 rw [rounds_succ]
 go_wp2_with fail
 have hl1 : (sgR s [45]).length ≤ s.length := sgR_len s _
 refine (step2 w W1 (sgR s [45]) false _ _ _ _ _ (by omega) H1.out).mono ?_
 rintro e W2 ⟨rfl, h2⟩
 have H2 := hi_ h2
 clear h2 k1
 have k2 := blk_cell H2.out.h8 2
 simp at k2
 go_wp2_with fail
 rw [rounds_succ]
 go_wp2_with fail
 have hl2 : ((sgR s [45]).dropWhile NumP.isD).length ≤ s.length := Nat.le_trans (List.dropWhile_suffix NumP.isD).length_le hl1
 refine (step3 w W2 _ _ _ _ _ _ (by omega) H2.out).mono ?_
 rintro e W3 ⟨rfl, h3⟩
 have H3 := hi_ h3
 clear h3 k2
 have k3 := blk_cell H3.out.h8 3
 simp at k3
 go_wp2_with fail
 rw [rounds_succ]
 go_wp2_with fail
 have hl3 : (NumP.dotR ((sgR s [45]).dropWhile NumP.isD)).length ≤ s.length := by
  refine Nat.le_trans ?_ hl2
  unfold NumP.dotR; split
  · have := (List.dropWhile_suffix (l := ((sgR s [45]).dropWhile NumP.isD).tail) NumP.isD).length_le
    have := List.length_tail (l := (sgR s [45]).dropWhile NumP.isD)
    omega
  exact Nat.le_refl _
 refine (step4 w W3 _ _ _ _ _ (by omega) H3.out).mono ?_
 rintro e W4 ⟨rfl, h4⟩
 have H4 := hi_ h4
 clear h4 k3 HS H1 H2 H3 hl1 hl2 hl3
 go_wp2_with fail
 rw [rounds_succ]
 rw [m1, m2] at H4
 have hbad : (((false || NumP.wholeB ((NumP.dropSign s).takeWhile NumP.isD)) || NumP.dotB ((NumP.dropSign s).dropWhile NumP.isD)) || NumP.expB (NumP.dotR ((NumP.dropSign s).dropWhile NumP.isD))) = NumP.bad s := by
  rw [Bool.false_or]; rfl
 rw [hbad] at H4
 change Hid (PS w W4 (ofL (NumP.rest3 s)) _ (ofL (NumP.whole s)) (ofL (NumP.dotP (NumP.rest1 s))) (ofL (NumP.expP (NumP.rest2 s))) (NumP.down s) (NumP.expL (NumP.rest2 s))) at H4
 clear m1 m2 hbad
 have hE := hi_ (ofL_toList (NumP.rest3 s))
 unfold NumP.ok at hok
 obtain ⟨hb0, hz0⟩ : NumP.bad s = false ∧ (NumP.rest3 s).isEmpty = true := by
  revert hok; cases NumP.bad s <;> cases (NumP.rest3 s).isEmpty <;> simp
 rw [hb0] at H4
 have hz : (ofL (NumP.rest3 s)).toList.isEmpty = true := by rw [hE.out]; exact hz0
 clear hb0 hz0 hE hok
 have c2 : W4.cell? ⟨w.heap.size + 1 + 1, 0, none⟩ = some (.pointer (some ⟨w.heap.size + 1, 0, none⟩)) := cell_of_one H4.out.h2
 have c10 := blk_cell H4.out.h1 0
 have c11 := blk_cell H4.out.h1 1
 simp at c10 c11
 have c00 := blk_cell H4.out.h0 0
 have c01 := blk_cell H4.out.h0 1
 have c02 := blk_cell H4.out.h0 2
 have f00 := blk_frozen H4.out.h0 0
 have f01 := blk_frozen H4.out.h0 1
 have f02 := blk_frozen H4.out.h0 2
 simp at c00 c01 c02
 have c4 : W4.cell? ⟨w.heap.size + 1 + 1 + 1 + 1 + 1, 0, none⟩ = _ := cell_of_one H4.out.h5
 go_wp2_with fail
 refine (num_power.calls _ _ _ HPF.out).mono ?_
 rintro e W5 ⟨rfl, hb⟩
 have H5 := hi_ (H4.out.below_ hb)
 clear hb c2 c10 c11 c00 c01 c02 f00 f01 f02 c4 hz
 have c7 : W5.cell? ⟨w.heap.size + 1 + 1 + 1 + 1 + 1 + 1 + 1, 0, none⟩ = _ := cell_of_one H5.out.h7
 have c6 : W5.cell? ⟨w.heap.size + 1 + 1 + 1 + 1 + 1 + 1, 0, none⟩ = _ := cell_of_one H5.out.h6
 have c4 : W5.cell? ⟨w.heap.size + 1 + 1 + 1 + 1, 0, none⟩ = _ := cell_of_one H5.out.h4
 have c3 : W5.cell? ⟨w.heap.size + 1 + 1 + 1, 0, none⟩ = _ := cell_of_one H5.out.h3
 obtain ⟨hp0, hp1⟩ := hpb
 generalize NumP.pow (NumP.expP (NumP.rest2 s)) = p at *
 have hps : ((ofL (NumP.dotP (NumP.rest1 s))).size : Int) ≤ 1000000000000000000 := by have := HSZ.out; omega
 have hps0 : 0 ≤ ((ofL (NumP.dotP (NumP.rest1 s))).size : Int) := Int.natCast_nonneg _
 cases hless : NumP.expL (NumP.rest2 s) with
 | true =>
  have hn : NumP.num s = NumP.form (NumP.down s) (NumP.whole s ++ NumP.dotP (NumP.rest1 s)) (-p - ((ofL (NumP.dotP (NumP.rest1 s))).size : Int)) := by
   rw [HNM.out, hless, HSZ.out]; rfl
  have hf := HFM.out (-p - ((ofL (NumP.dotP (NumP.rest1 s))).size : Int)) (by omega) (by omega)
  have hr := HRT.out (-p - ((ofL (NumP.dotP (NumP.rest1 s))).size : Int))
  rw [← hn] at hf hr
  have HF := hi_ hf
  have HR := hi_ hr
  rw [hless] at c7
  clear hf hr hn HFM HRT HNM HSZ hless HPF
  generalize NumP.num s = n at *
  obtain ⟨nd, nD, ne⟩ := n
  simp only at HF HR HTG
  cases hR : NumP.right (nd, nD, ne) with
  | true =>
   rw [hR] at HR HTG
   have HT : Hid (target = ((nd, nD, ne), 0)) := HTG.out
   clear HTG hR
   go_wp2_with fail
   refine (num_form.calls _ _ _ _ _ _ _ HF.out).mono ?_
   rintro e W6 ⟨rfl, hb⟩
   have H6 := hi_ (H5.out.below_ hb)
   clear hb c7 c6 c4 c3
   have f00 := blk_frozen H6.out.h0 0
   have f01 := blk_frozen H6.out.h0 1
   have f02 := blk_frozen H6.out.h0 2
   have c00 := blk_cell H6.out.h0 0
   have c01 := blk_cell H6.out.h0 1
   have c02 := blk_cell H6.out.h0 2
   simp at c00 c01 c02
   go_wp2_with fail
   have HN := hi_ (blk_new W6 (Obj.cells #[Value.bool nd, Value.string (ofL nD), Value.int IntKind.i64 ne] 24))
   have H7 := hi_ (H6.out.below_ (below_alloc (Below.refl W6.heap.size W6) (Obj.cells #[Value.bool nd, Value.string (ofL nD), Value.int IntKind.i64 ne] 24)))
   have hlt := hi_ (blk_lt H6.out.h0)
   generalize W6.alloc (Obj.cells #[Value.bool nd, Value.string (ofL nD), Value.int IntKind.i64 ne] 24) = W7 at HN H7 ⊢
   clear f00 f01 f02 c00 c01 c02
   refine (num_Right.calls _ _ _ _ _ HR.out).mono ?_
   rintro e W8 ⟨rfl, hb⟩
   have H8 := hi_ (H7.out.below_ hb)
   have HM := hi_ (blk_below HN.out hb)
   clear hb H7 HN
   have f00 := blk_frozen H8.out.h0 0
   have f01 := blk_frozen H8.out.h0 1
   have f02 := blk_frozen H8.out.h0 2
   have c00 := blk_cell H8.out.h0 0
   have c01 := blk_cell H8.out.h0 1
   have c02 := blk_cell H8.out.h0 2
   have d0 := blk_cell HM.out 0
   have d1 := blk_cell HM.out 1
   have d2 := blk_cell HM.out 2
   simp at c00 c01 c02 d0 d1 d2
   go_wp2
   refine bodyPost_ret (v := .tuple #[.agg #[.bool nd, .string (ofL nD), .int .i64 ne], .int .i64 0]) (by simp [results, Tryz.results101, go_sem, c00, c01, c02]) rfl ⟨?_, ?_⟩
   · rw [HT.out]
   exact ((H8.out.below.setCell (by simp) _).setCell (by simp) _).setCell (by simp) _
  | false =>
   rw [hR] at HR HTG
   have HT : Hid (target = (NumP.zero, 13)) := HTG.out
   clear HTG hR
   go_wp2_with fail
   refine (num_form.calls _ _ _ _ _ _ _ HF.out).mono ?_
   rintro e W6 ⟨rfl, hb⟩
   have H6 := hi_ (H5.out.below_ hb)
   clear hb c7 c6 c4 c3
   have f00 := blk_frozen H6.out.h0 0
   have f01 := blk_frozen H6.out.h0 1
   have f02 := blk_frozen H6.out.h0 2
   have c00 := blk_cell H6.out.h0 0
   have c01 := blk_cell H6.out.h0 1
   have c02 := blk_cell H6.out.h0 2
   simp at c00 c01 c02
   go_wp2_with fail
   have HN := hi_ (blk_new W6 (Obj.cells #[Value.bool nd, Value.string (ofL nD), Value.int IntKind.i64 ne] 24))
   have H7 := hi_ (H6.out.below_ (below_alloc (Below.refl W6.heap.size W6) (Obj.cells #[Value.bool nd, Value.string (ofL nD), Value.int IntKind.i64 ne] 24)))
   have hlt := hi_ (blk_lt H6.out.h0)
   generalize W6.alloc (Obj.cells #[Value.bool nd, Value.string (ofL nD), Value.int IntKind.i64 ne] 24) = W7 at HN H7 ⊢
   clear f00 f01 f02 c00 c01 c02
   refine (num_Right.calls _ _ _ _ _ HR.out).mono ?_
   rintro e W8 ⟨rfl, hb⟩
   have H8 := hi_ (H7.out.below_ hb)
   have HM := hi_ (blk_below HN.out hb)
   clear hb H7 HN
   have f00 := blk_frozen H8.out.h0 0
   have f01 := blk_frozen H8.out.h0 1
   have f02 := blk_frozen H8.out.h0 2
   have c00 := blk_cell H8.out.h0 0
   have c01 := blk_cell H8.out.h0 1
   have c02 := blk_cell H8.out.h0 2
   have d0 := blk_cell HM.out 0
   have d1 := blk_cell HM.out 1
   have d2 := blk_cell HM.out 2
   simp at c00 c01 c02 d0 d1 d2
   go_wp2
   refine bodyPost_ret (v := .tuple #[.agg #[.bool false, .string ⟨#[]⟩, .int .i64 0], .int .i64 13]) (by simp [results, Tryz.results101, go_sem, c00, c01, c02]) rfl ⟨?_, ?_⟩
   · rw [HT.out]; rfl
   exact ((H8.out.below.setCell (by simp) _).setCell (by simp) _).setCell (by simp) _
 | false =>
  have hn : NumP.num s = NumP.form (NumP.down s) (NumP.whole s ++ NumP.dotP (NumP.rest1 s)) (p - ((ofL (NumP.dotP (NumP.rest1 s))).size : Int)) := by
   rw [HNM.out, hless, HSZ.out]; rfl
  have hf := HFM.out (p - ((ofL (NumP.dotP (NumP.rest1 s))).size : Int)) (by omega) (by omega)
  have hr := HRT.out (p - ((ofL (NumP.dotP (NumP.rest1 s))).size : Int))
  rw [← hn] at hf hr
  have HF := hi_ hf
  have HR := hi_ hr
  rw [hless] at c7
  clear hf hr hn HFM HRT HNM HSZ hless HPF
  generalize NumP.num s = n at *
  obtain ⟨nd, nD, ne⟩ := n
  simp only at HF HR HTG
  cases hR : NumP.right (nd, nD, ne) with
  | true =>
   rw [hR] at HR HTG
   have HT : Hid (target = ((nd, nD, ne), 0)) := HTG.out
   clear HTG hR
   go_wp2_with fail
   refine (num_form.calls _ _ _ _ _ _ _ HF.out).mono ?_
   rintro e W6 ⟨rfl, hb⟩
   have H6 := hi_ (H5.out.below_ hb)
   clear hb c7 c6 c4 c3
   have f00 := blk_frozen H6.out.h0 0
   have f01 := blk_frozen H6.out.h0 1
   have f02 := blk_frozen H6.out.h0 2
   have c00 := blk_cell H6.out.h0 0
   have c01 := blk_cell H6.out.h0 1
   have c02 := blk_cell H6.out.h0 2
   simp at c00 c01 c02
   go_wp2_with fail
   have HN := hi_ (blk_new W6 (Obj.cells #[Value.bool nd, Value.string (ofL nD), Value.int IntKind.i64 ne] 24))
   have H7 := hi_ (H6.out.below_ (below_alloc (Below.refl W6.heap.size W6) (Obj.cells #[Value.bool nd, Value.string (ofL nD), Value.int IntKind.i64 ne] 24)))
   have hlt := hi_ (blk_lt H6.out.h0)
   generalize W6.alloc (Obj.cells #[Value.bool nd, Value.string (ofL nD), Value.int IntKind.i64 ne] 24) = W7 at HN H7 ⊢
   clear f00 f01 f02 c00 c01 c02
   refine (num_Right.calls _ _ _ _ _ HR.out).mono ?_
   rintro e W8 ⟨rfl, hb⟩
   have H8 := hi_ (H7.out.below_ hb)
   have HM := hi_ (blk_below HN.out hb)
   clear hb H7 HN
   have f00 := blk_frozen H8.out.h0 0
   have f01 := blk_frozen H8.out.h0 1
   have f02 := blk_frozen H8.out.h0 2
   have c00 := blk_cell H8.out.h0 0
   have c01 := blk_cell H8.out.h0 1
   have c02 := blk_cell H8.out.h0 2
   have d0 := blk_cell HM.out 0
   have d1 := blk_cell HM.out 1
   have d2 := blk_cell HM.out 2
   simp at c00 c01 c02 d0 d1 d2
   go_wp2
   refine bodyPost_ret (v := .tuple #[.agg #[.bool nd, .string (ofL nD), .int .i64 ne], .int .i64 0]) (by simp [results, Tryz.results101, go_sem, c00, c01, c02]) rfl ⟨?_, ?_⟩
   · rw [HT.out]
   exact ((H8.out.below.setCell (by simp) _).setCell (by simp) _).setCell (by simp) _
  | false =>
   rw [hR] at HR HTG
   have HT : Hid (target = (NumP.zero, 13)) := HTG.out
   clear HTG hR
   go_wp2_with fail
   refine (num_form.calls _ _ _ _ _ _ _ HF.out).mono ?_
   rintro e W6 ⟨rfl, hb⟩
   have H6 := hi_ (H5.out.below_ hb)
   clear hb c7 c6 c4 c3
   have f00 := blk_frozen H6.out.h0 0
   have f01 := blk_frozen H6.out.h0 1
   have f02 := blk_frozen H6.out.h0 2
   have c00 := blk_cell H6.out.h0 0
   have c01 := blk_cell H6.out.h0 1
   have c02 := blk_cell H6.out.h0 2
   simp at c00 c01 c02
   go_wp2_with fail
   have HN := hi_ (blk_new W6 (Obj.cells #[Value.bool nd, Value.string (ofL nD), Value.int IntKind.i64 ne] 24))
   have H7 := hi_ (H6.out.below_ (below_alloc (Below.refl W6.heap.size W6) (Obj.cells #[Value.bool nd, Value.string (ofL nD), Value.int IntKind.i64 ne] 24)))
   have hlt := hi_ (blk_lt H6.out.h0)
   generalize W6.alloc (Obj.cells #[Value.bool nd, Value.string (ofL nD), Value.int IntKind.i64 ne] 24) = W7 at HN H7 ⊢
   clear f00 f01 f02 c00 c01 c02
   refine (num_Right.calls _ _ _ _ _ HR.out).mono ?_
   rintro e W8 ⟨rfl, hb⟩
   have H8 := hi_ (H7.out.below_ hb)
   have HM := hi_ (blk_below HN.out hb)
   clear hb H7 HN
   have f00 := blk_frozen H8.out.h0 0
   have f01 := blk_frozen H8.out.h0 1
   have f02 := blk_frozen H8.out.h0 2
   have c00 := blk_cell H8.out.h0 0
   have c01 := blk_cell H8.out.h0 1
   have c02 := blk_cell H8.out.h0 2
   have d0 := blk_cell HM.out 0
   have d1 := blk_cell HM.out 1
   have d2 := blk_cell HM.out 2
   simp at c00 c01 c02 d0 d1 d2
   go_wp2
   refine bodyPost_ret (v := .tuple #[.agg #[.bool false, .string ⟨#[]⟩, .int .i64 0], .int .i64 13]) (by simp [results, Tryz.results101, go_sem, c00, c01, c02]) rfl ⟨?_, ?_⟩
   · rw [HT.out]; rfl
   exact ((H8.out.below.setCell (by simp) _).setCell (by simp) _).setCell (by simp) _
theorem ofL_of (a : ByteArray) : ofL a.data.toList = a := by cases a; simp [ofL]
theorem num_Parse.calls (a0 : ByteArray) (r1 : Bool) (r2 : ByteArray) (r3 : Int) (r4 : Int) (w : World) (h : num_Parse.f a0 = some (r1, r2, r3, r4)) :
    Calls Tryz.prog 101 #[.string a0] w fun e w' => e = .returned (.tuple #[.agg #[.bool r1, .string r2, .int .i64 r3], .int .i64 r4]) ∧ Below w.heap.size w w' := by
 unfold num_Parse.f at h
 split at h
 · rename_i hs
   simp only [Option.some.injEq, Prod.mk.injEq] at h
   obtain ⟨rfl, rfl, rfl, rfl⟩ := h
   have e := ofL_of a0
   have hl : a0.data.toList.length ≤ 1000000000000000000 := by simpa using hs
   generalize a0.data.toList = s at *
   subst e
   cases hok : NumP.ok s with
   | true => exact num_Parse.ok_ s w hl hok
   | false =>
    have : NumP.parse s = (NumP.zero, 11) := by unfold NumP.parse; rw [if_neg (by rw [hok]; simp)]
    rw [this]
    exact num_Parse.bad_ s w hl hok
 · exact absurd h (by simp)
end Go.Proofs.YtapcpndplnkfjaaGreatDoor
namespace Go.Proofs.YtapcpndplnkfjaaGreatDoor
open Go.RowKit Go.Proofs.YtapcpndplnkfjaaGreatDoorW.PrintWords Go.Proofs.YtapcpndplnkfjaaGreatDoorW.PrintLast Go.Proofs.YtapcpndplnkfjaaGreatDoorW.PrintMore
structure S24 where
  f0 : Bool
  f1 : ByteArray
  f2 : Int
def z24 : S24 := ⟨false, (⟨#[]⟩ : ByteArray), (0 : Int)⟩
def k24 : Kd S24 := Kd.iso (Kd.pair Kd.bool (Kd.pair Kd.string (Kd.int .i64))) (fun x : S24 => (x.f0, x.f1, x.f2))
theorem k24_openM {w : World} {base : Nat} {ok : Nat → Prop} {x : S24} {cs : List Value} (h : k24.M w base ok x cs) : cs = [.bool x.f0, .string x.f1, .int .i64 x.f2] := by
 obtain ⟨_, _, rfl, rfl, ⟨_, _, rfl, rfl, rfl⟩⟩ := h
 exact rfl
theorem k24_mkM (w : World) (base : Nat) (ok : Nat → Prop) (x : S24)  : k24.M w base ok x [.bool x.f0, .string x.f1, .int .i64 x.f2] := ⟨[.bool x.f0], [.string x.f1, .int .i64 x.f2], rfl, rfl, ⟨[.string x.f1], [.int .i64 x.f2], rfl, rfl, rfl⟩⟩
structure S28 where
  f0 : Int
  f1 : Bool
  f2 : S24
  f3 : ByteArray
  f4 : (List S28)
  f5 : (List ByteArray)
def z28 : S28 := ⟨(0 : Int), false, z24, (⟨#[]⟩ : ByteArray), ([] : List S28), ([] : List ByteArray)⟩
def F28 (d : Kd S28) : Kd S28 := Kd.iso (Kd.pair (Kd.int .i64) (Kd.pair Kd.bool (Kd.pair k24 (Kd.pair Kd.string (Kd.pair (Kd.slice 28 d) (Kd.slice 9 Kd.string)))))) (fun x : S28 => (x.f0, x.f1, x.f2, x.f3, x.f4, x.f5))
theorem mono28 : Kd.Mono F28 := Kd.mono_iso _ (Kd.mono_pair (Kd.mono_const _) (Kd.mono_pair (Kd.mono_const _) (Kd.mono_pair (Kd.mono_const _) (Kd.mono_pair (Kd.mono_const _) (Kd.mono_pair (Kd.mono_slice 28 Kd.mono_id) (Kd.mono_const _))))))
theorem sub28 : Kd.Sub F28 [9, 28] := Kd.sub_iso _ (Kd.sub_pair (Kd.sub_const _ (by decide)) (Kd.sub_pair (Kd.sub_const _ (by decide)) (Kd.sub_pair (Kd.sub_const _ (by decide)) (Kd.sub_pair (Kd.sub_const _ (by decide)) (Kd.sub_pair (Kd.sub_slice 28 (by decide) Kd.sub_id) (Kd.sub_const _ (by decide)))))))
theorem sz28 : ∀ n, (Kd.upto F28 8 [9, 28] n).sz = 8 := Kd.upto_sz (fun _ => rfl)
def k28 : Kd S28 := Kd.fix F28 8 [9, 28] sz28 (Kd.upto_E sub28)
theorem k28_openM {w : World} {base : Nat} {ok : Nat → Prop} {x : S28} {cs : List Value} (h : k28.M w base ok x cs) : ∃ v6 v7, cs = [.int .i64 x.f0, .bool x.f1, .bool x.f2.f0, .string x.f2.f1, .int .i64 x.f2.f2, .string x.f3, v6, v7] ∧ k28.R 28 w base ok v6 x.f4 ∧ Kd.string.R 9 w base ok v7 x.f5 := by
 obtain ⟨n, h⟩ := h
 cases n with
 | zero => exact h.elim
 | succ n =>
  obtain ⟨_, _, rfl, rfl, ⟨_, _, rfl, rfl, ⟨_, _, rfl, s2, ⟨_, _, rfl, rfl, ⟨_, _, rfl, ⟨v6, rfl, g6⟩, ⟨v7, rfl, g7⟩⟩⟩⟩⟩⟩ := h
  obtain rfl := k24_openM s2
  exact ⟨v6, v7, rfl, Kd.fix_R g6, g7⟩
theorem k28_mkM (w : World) (base : Nat) (ok : Nat → Prop) (x : S28) {v6 : Value} (g6 : k28.R 28 w base ok v6 x.f4) {v7 : Value} (g7 : Kd.string.R 9 w base ok v7 x.f5) : k28.M w base ok x [.int .i64 x.f0, .bool x.f1, .bool x.f2.f0, .string x.f2.f1, .int .i64 x.f2.f2, .string x.f3, v6, v7] := by
 obtain ⟨n6, q6⟩ := Kd.fix_R_back mono28 g6
 have r6 := Kd.upto_R_le mono28 sz28 (show n6 ≤ n6 by omega) q6
 exact ⟨n6 + 1, ⟨[.int .i64 x.f0], [.bool x.f1, .bool x.f2.f0, .string x.f2.f1, .int .i64 x.f2.f2, .string x.f3, v6, v7], rfl, rfl, ⟨[.bool x.f1], [.bool x.f2.f0, .string x.f2.f1, .int .i64 x.f2.f2, .string x.f3, v6, v7], rfl, rfl, ⟨[.bool x.f2.f0, .string x.f2.f1, .int .i64 x.f2.f2], [.string x.f3, v6, v7], rfl, (k24_mkM w base ok x.f2 ), ⟨[.string x.f3], [v6, v7], rfl, rfl, ⟨[v6], [v7], rfl, ⟨v6, rfl, r6⟩, ⟨v7, rfl, g7⟩⟩⟩⟩⟩⟩⟩
namespace Js
structure S where
  s : List UInt8
  o : Int
  e : Int
structure Tabs (w : World) : Prop where
  u8 : Lib.Utf8Tabs 2 3 w
  cv : Lib.CaseVar 7 Lib.caseA w
theorem Tabs.below {w w' : World} (h : Tabs w) (k : Below w.heap.size w w') : Tabs w' := by
 refine ⟨⟨fun c hc => pw_cell_below k (h.u8.1 c hc), fun i hi => ⟨pw_cell_below k (h.u8.2 i hi).1, pw_cell_below k (h.u8.2 i hi).2⟩⟩, ?_⟩
 obtain ⟨R, oR, cap, h1, h2⟩ := h.cv
 exact ⟨R, oR, cap, pw_cell_below k h1, fun i hi => by
  obtain ⟨a, b, c, d, e⟩ := h2 i hi
  exact ⟨pw_cell_below k a, pw_cell_below k b, pw_cell_below k c, pw_cell_below k d, pw_cell_below k e⟩⟩
def TB (g : Nat) (w : World) : Prop := ∃ w0, Tabs w0 ∧ Below w0.heap.size w0 w ∧ w0.heap.size ≤ g
theorem TB.tabs {g : Nat} {w : World} (h : TB g w) : Tabs w := by obtain ⟨w0, h1, h2, _⟩ := h; exact h1.below h2
theorem TB.below {g : Nat} {w w' : World} (h : TB g w) (k : Below w.heap.size w w') : TB g w' := by obtain ⟨w0, h1, h2, h3⟩ := h; exact ⟨w0, h1, h2.trans (k.mono h2.size), h3⟩
theorem TB.grow {g : Nat} {w w' : World} {row : Option Nat} (h : TB g w) (k : w.grownBy w' row) (hr : ∀ i, row = some i → g ≤ i) : TB g w' := by
 obtain ⟨w0, h1, h2, h3⟩ := h; exact ⟨w0, h1, h2.grown k h2.size (fun i e => Nat.le_trans h3 (hr i e)), h3⟩
structure Rd (w w' : World) (g : Nat) (st : S) : Prop where
  cell : w'.heap[g]? = some (.cells #[.string (ofL st.s), .int .i64 st.o, .int .i64 st.e] 79 (0, 0))
  kp : w.grownBy w' (some g)
  gl : g < w.heap.size
  tb : TB g w'
theorem grown_trans {a b c : World} {r : Option Nat} (h : a.grownBy b r) (k : b.grownBy c r) : a.grownBy c r :=
 ⟨k.os.trans h.os, k.tape.trans h.tape, k.output.trans h.output, Nat.le_trans h.size k.size, fun i hi hr => (k.block i (Nat.lt_of_lt_of_le hi h.size) hr).trans (h.block i hi hr)⟩
theorem grown_below {a b : World} (h : Below a.heap.size a b) (r : Option Nat) : a.grownBy b r := ⟨h.os, h.tape, h.output, h.size, fun i hi _ => h.block i hi⟩
theorem grown_refl (w : World) (r : Option Nat) : w.grownBy w r := grown_below (Below.refl _ _) r
theorem grown_set (w : World) (g j : Nat) (v : Value) : w.grownBy (w.setCell ⟨g, j, none⟩ v) (some g) :=
 ⟨rfl, rfl, rfl, by simp [World.setCell], fun k _ hn => Below.heap_setCell _ _ _ _ (fun e => hn (by rw [e]))⟩
theorem Rd.trans {w w1 w2 : World} {g : Nat} {a b : S} (h : Rd w w1 g a) (k : Rd w1 w2 g b) : Rd w w2 g b := ⟨k.cell, grown_trans h.kp k.kp, h.gl, k.tb⟩
theorem Rd.lt {w w1 : World} {g : Nat} {a : S} (h : Rd w w1 g a) : g < w1.heap.size := (Array.getElem?_eq_some_iff.1 h.cell).1
theorem Rd.below {w w1 w2 : World} {g : Nat} {a : S} (h : Rd w w1 g a) (k : Below w1.heap.size w1 w2) : Rd w w2 g a := ⟨(k.block g h.lt).trans h.cell, grown_trans h.kp (grown_below k _), h.gl, h.tb.below k⟩
theorem Rd.now {w w1 : World} {g : Nat} {a : S} (h : Rd w w1 g a) : Rd w1 w1 g a := ⟨h.cell, grown_refl _ _, h.lt, h.tb⟩
theorem Rd.c0 {w w1 : World} {g : Nat} {a : S} (h : Rd w w1 g a) : w1.cell? ⟨g, 0, none⟩ = some (.string (ofL a.s)) := (blk_cell h.cell 0).trans rfl
theorem Rd.c1 {w w1 : World} {g : Nat} {a : S} (h : Rd w w1 g a) : w1.cell? ⟨g, 1, none⟩ = some (.int .i64 a.o) := (blk_cell h.cell 1).trans rfl
theorem Rd.c2 {w w1 : World} {g : Nat} {a : S} (h : Rd w w1 g a) : w1.cell? ⟨g, 2, none⟩ = some (.int .i64 a.e) := (blk_cell h.cell 2).trans rfl
theorem Rd.fz {w w1 : World} {g : Nat} {a : S} (h : Rd w w1 g a) (j : Nat) : w1.frozen? ⟨g, j, none⟩ = false := blk_frozen h.cell j
theorem Rd.s0 {w w1 : World} {g : Nat} {a : S} (h : Rd w w1 g a) (l : List UInt8) : Rd w (w1.setCell ⟨g, 0, none⟩ (.string (ofL l))) g { a with s := l } := ⟨blk_put h.cell 0 _ rfl, grown_trans h.kp (grown_set _ _ _ _), h.gl, h.tb.grow (grown_set _ _ _ _) (fun i e => Nat.le_of_eq (Option.some.inj e))⟩
theorem Rd.s1 {w w1 : World} {g : Nat} {a : S} (h : Rd w w1 g a) (x : Int) : Rd w (w1.setCell ⟨g, 1, none⟩ (.int .i64 x)) g { a with o := x } := ⟨blk_put h.cell 1 _ rfl, grown_trans h.kp (grown_set _ _ _ _), h.gl, h.tb.grow (grown_set _ _ _ _) (fun i e => Nat.le_of_eq (Option.some.inj e))⟩
theorem Rd.s2 {w w1 : World} {g : Nat} {a : S} (h : Rd w w1 g a) (x : Int) : Rd w (w1.setCell ⟨g, 2, none⟩ (.int .i64 x)) g { a with e := x } := ⟨blk_put h.cell 2 _ rfl, grown_trans h.kp (grown_set _ _ _ _), h.gl, h.tb.grow (grown_set _ _ _ _) (fun i e => Nat.le_of_eq (Option.some.inj e))⟩
theorem Rd.d {w w1 : World} {g : Nat} {a : S} (h : Rd w w1 g a) : Rd w w1.drew g a := ⟨h.cell, ⟨h.kp.os, h.kp.tape, h.kp.output, h.kp.size, h.kp.block⟩, h.gl, h.tb.grow (w := w1) (row := none) ⟨rfl, rfl, rfl, Nat.le_refl _, fun _ _ _ => rfl⟩ (fun i e => by cases e)⟩
theorem Rd.dN {w w1 : World} {g : Nat} {a : S} (h : Rd w w1 g a) (n : Nat) : Rd w (w1.drewN n) g a := ⟨h.cell, ⟨h.kp.os, h.kp.tape, h.kp.output, h.kp.size, h.kp.block⟩, h.gl, h.tb.grow (w := w1) (row := none) ⟨rfl, rfl, rfl, Nat.le_refl _, fun _ _ _ => rfl⟩ (fun i e => by cases e)⟩
def S.fail (a : S) (x : Int) : S := { a with e := if a.e = 0 then x else a.e }
def S.skip (a : S) : S := { a with s := Lib.trimLeftS a.s [32, 9, 10, 13] }
def S.took (a : S) (p : List UInt8) : Bool := Lib.hasPrefix a.skip.s p && (a.e == 0)
def S.take (a : S) (p : List UInt8) : S := if a.took p = true then { a.skip with s := Lib.trimPrefix a.skip.s p } else a.skip
def S.need (a : S) (p : List UInt8) : S := if a.took p = true then a.take p else (a.take p).fail 11
theorem fail_calls {w w1 : World} {g : Nat} {a : S} (h : Rd w w1 g a) (x : Int) : Calls Tryz.prog 36 #[.pointer (some ⟨g, 0, none⟩), .int .i64 x] w1 fun E w' => E = .returned (.tuple #[]) ∧ Rd w w' g (a.fail x) := by
 have c2 := h.c2
 have f2 := h.fz 2
 by_cases he : a.e = 0
 · have e1 : (a.e == 0) = true := by simpa using he
   have HF : Hid (a.fail x = { a with e := x }) := hi_ (by simp [S.fail, he])
   have H := hi_ h
   clear he h
   go_enter Tryz.func36, Tryz.ntmps36
   go_wp2
   go_end0
   exact ⟨rfl, by rw [HF.out]; exact H.out.s2 x⟩
 have e1 : (a.e == 0) = false := by simpa using he
 have HF : Hid (a.fail x = a) := hi_ (by simp [S.fail, he])
 have H := hi_ h
 clear he h
 go_enter Tryz.func36, Tryz.ntmps36
 go_wp2
 go_end0
 exact ⟨rfl, by rw [HF.out]; exact H.out⟩
theorem skip_calls {w w1 : World} {g : Nat} {a : S} (h : Rd w w1 g a) : Calls Tryz.prog 35 #[.pointer (some ⟨g, 0, none⟩)] w1 fun E w' => E = .returned (.tuple #[]) ∧ Rd w w' g a.skip := by
 have c0 := h.c0
 have H := hi_ h
 have HT : Hid (strings_TrimLeft.f (ofL a.s) ⟨#[32, 9, 10, 13]⟩ = some (ofL a.skip.s)) := hi_ (by unfold strings_TrimLeft.f; rw [if_pos (by decide)]; rfl)
 clear h
 go_enter Tryz.func35, Tryz.ntmps35
 go_wp2_with fail
 refine (strings_TrimLeft.calls _ _ _ _ HT.out).mono ?_
 rintro E w2 ⟨rfl, hb⟩
 have H2 := hi_ (H.out.below hb)
 have c0 := H2.out.c0
 have f0 := H2.out.fz 0
 clear hb
 go_wp2
 go_end0
 exact ⟨rfl, H2.out.s0 _⟩
theorem took_calls {w w1 : World} {g : Nat} {a : S} (h : Rd w w1 g a) (p : List UInt8) : Calls Tryz.prog 117 #[.pointer (some ⟨g, 0, none⟩), .string (ofL p)] w1 fun E w' => E = .returned (.bool (a.took p)) ∧ Rd w w' g (a.take p) := by
 have H := hi_ h
 have HC : Hid (strings_CutPrefix.f (ofL a.skip.s) (ofL p) = some (ofL (Lib.trimPrefix a.skip.s p), Lib.hasPrefix a.skip.s p)) := hi_ rfl
 clear h
 go_enter Tryz.func117, Tryz.ntmps117
 go_wp2_with fail
 refine (skip_calls H.out).mono ?_
 rintro E w2 ⟨rfl, h2⟩
 have c0 := h2.c0
 have c2 := h2.c2
 have H2 := hi_ h2
 clear h2
 go_wp2_with fail
 refine (strings_CutPrefix.calls _ _ _ _ _ HC.out).mono ?_
 rintro E w3 ⟨rfl, ⟨n, rfl⟩⟩
 have H3 := hi_ (H2.out.dN n)
 clear c0 c2 HC
 have c0 := H3.out.c0
 have c2 := H3.out.c2
 have f0 := H3.out.fz 0
 have hes : a.skip.e = a.e := rfl
 generalize hp : Lib.hasPrefix a.skip.s p = hb at *
 have HP := hi_ hp
 clear hp
 rw [hes] at c2
 clear hes
 cases hb
 · have HT : Hid (a.took p = false ∧ a.take p = a.skip) := hi_ (by simp [S.took, S.take, HP.out])
   go_wp2
   go_ret
   exact ⟨by rw [HT.out.1]; rfl, by rw [HT.out.2]; exact H3.out⟩
 by_cases he : a.e = 0
 · have e1 : (a.e == 0) = true := by simpa using he
   have HT : Hid (a.took p = true ∧ a.take p = { a.skip with s := Lib.trimPrefix a.skip.s p }) := hi_ (by simp [S.took, S.take, HP.out, he])
   clear he
   go_wp2
   go_ret
   exact ⟨by rw [HT.out.1]; rfl, by rw [HT.out.2]; exact H3.out.s0 _⟩
 have e1 : (a.e == 0) = false := by simpa using he
 have HT : Hid (a.took p = false ∧ a.take p = a.skip) := hi_ (by simp [S.took, S.take, HP.out, he])
 clear he
 go_wp2
 go_ret
 exact ⟨by rw [HT.out.1]; rfl, by rw [HT.out.2]; exact H3.out⟩
theorem need_calls {w w1 : World} {g : Nat} {a : S} (h : Rd w w1 g a) (p : List UInt8) : Calls Tryz.prog 93 #[.pointer (some ⟨g, 0, none⟩), .string (ofL p)] w1 fun E w' => E = .returned (.tuple #[]) ∧ Rd w w' g (a.need p) := by
 have H := hi_ h
 clear h
 cases ht : a.took p
 · have HT : Hid (a.took p = false ∧ a.need p = (a.take p).fail 11) := hi_ ⟨ht, by simp [S.need, ht]⟩
   clear ht
   go_enter Tryz.func93, Tryz.ntmps93
   go_wp2_with fail
   refine (took_calls H.out p).mono ?_
   rintro E w2 ⟨rfl, h2⟩
   rw [HT.out.1]
   have H2 := hi_ h2
   clear h2
   go_wp2_with fail
   refine (fail_calls H2.out 11).mono ?_
   rintro E w3 ⟨rfl, h3⟩
   rw [← HT.out.2] at h3
   have H3 := hi_ h3
   clear h3
   go_wp2
   go_end0
   exact ⟨rfl, H3.out⟩
 have HT : Hid (a.took p = true ∧ a.need p = a.take p) := hi_ ⟨ht, by simp [S.need, ht]⟩
 clear ht
 go_enter Tryz.func93, Tryz.ntmps93
 go_wp2_with fail
 refine (took_calls H.out p).mono ?_
 rintro E w2 ⟨rfl, h2⟩
 rw [HT.out.1]
 have H2 := hi_ h2
 clear h2
 go_wp2
 go_end0
 exact ⟨rfl, by rw [HT.out.2]; exact H2.out⟩
def kindsT : List Int := [1, 2, 2, 4, 4, 5, 5, 6, 6, 7, 6, 7]
structure KTabs (w : World) : Prop where
  t : Tabs w
  kd : ∀ i, i < 12 → w.cell? ⟨0, i, none⟩ = some (.int .u8 (kindsT.getD i 0))
theorem KTabs.below {w w' : World} (h : KTabs w) (k : Below w.heap.size w w') : KTabs w' := ⟨h.t.below k, fun i hi => pw_cell_below k (h.kd i hi)⟩
def k1 (k : Int) : Int := kindsT.getD (2 * k.toNat) 0
def k2 (k : Int) : Int := kindsT.getD (2 * k.toNat + 1) 0
set_option maxRecDepth 100000 in
set_option maxHeartbeats 2000000 in
theorem kind_calls (k : Int) (hk : 0 ≤ k ∧ k ≤ 5) (b d : Bool) (D t : ByteArray) (x : Int) (A B : Option Addr) (n m c c' : Nat) (w : World) (hT : KTabs w) :
    Calls Tryz.prog 20 #[.agg #[.int .i64 k, .bool b, .bool d, .string D, .int .i64 x, .string t, .slice A n c, .slice B m c']] w fun e w' => e = .returned (.tuple #[.int .u8 (k1 k), .int .u8 (k2 k)]) ∧ Below w.heap.size w w' := by
 have hT' := fun o => hT.below ((Below.refl w.heap.size w).alloc (Nat.le_refl _) o)
 have hB := fun o => (Below.refl w.heap.size w).alloc (Nat.le_refl _) o
 have HB := hi_ hB
 obtain ⟨hk0, hk5⟩ := hk
 have hc : k = 0 ∨ k = 1 ∨ k = 2 ∨ k = 3 ∨ k = 4 ∨ k = 5 := by omega
 have HT := hi_ hT'
 clear hT hT' hB hk0 hk5
 rcases hc with rfl | rfl | rfl | rfl | rfl | rfl
 all_goals
  have f0 := fun o => (HT.out o).kd 0 (by decide)
  have f1 := fun o => (HT.out o).kd 1 (by decide)
  have f2 := fun o => (HT.out o).kd 2 (by decide)
  have f3 := fun o => (HT.out o).kd 3 (by decide)
  have f4 := fun o => (HT.out o).kd 4 (by decide)
  have f5 := fun o => (HT.out o).kd 5 (by decide)
  have f6 := fun o => (HT.out o).kd 6 (by decide)
  have f7 := fun o => (HT.out o).kd 7 (by decide)
  have f8 := fun o => (HT.out o).kd 8 (by decide)
  have f9 := fun o => (HT.out o).kd 9 (by decide)
  have f10 := fun o => (HT.out o).kd 10 (by decide)
  have f11 := fun o => (HT.out o).kd 11 (by decide)
  simp only [kindsT, List.getD_cons_zero, List.getD_cons_succ] at f0 f1 f2 f3 f4 f5 f6 f7 f8 f9 f10 f11
  go_enter Tryz.func20, Tryz.ntmps20
  go_wp2
  go_region
  go_wp2
  go_ret2
  exact ⟨rfl, below_drew1 (HB.out _)⟩
end Js
end Go.Proofs.YtapcpndplnkfjaaGreatDoor
namespace Go.Proofs.YtapcpndplnkfjaaGreatDoor
open Go.ChangeShapes Go.WideShapes Go.ChangeAt Go.RowKit Go.Lib
namespace Frame
theorem own : ownKnob Tryz.prog.godebug = none := by kernel_rfl
theorem plainLaid {W : World} {l : List (String × DataW Unit)} (h : laidMetH Tryz.prog l W) (hh : (l.all fun x => x.2.handleName?.isNone) = true) : laidMet Tryz.prog l W := by
 have h1 := (laidMetH_iff.1 h).1
 rwa [List.filter_eq_self.2 (fun x hx => List.all_eq_true.1 hh x hx)] at h1
theorem tabsOf {W : World} {l : List (String × DataW Unit)} (h : laidMet Tryz.prog l W) (h1 : ("unicode/utf8.first", Rows.laid_unicode_utf8_first) ∈ l) (h2 : ("unicode/utf8.acceptRanges", Rows.laid_unicode_utf8_acceptRanges) ∈ l) (h3 : ("unicode.CaseRanges", Rows.laid_unicode_CaseRanges) ∈ l) : Js.Tabs W := by
 have e1 : Rows.laid_unicode_utf8_first = firstData := Pinned.utf8First_eq
 have e3 : Rows.laid_unicode_CaseRanges = caseData := Pinned.caseRanges_eq
 have e2 : (Rows.laid_unicode_utf8_acceptRanges : DataW Unit) = acceptData := by kernel_rfl
 rw [e1] at h1
 rw [e2] at h2
 rw [e3] at h3
 exact ⟨utf8Tabs_of_reads Tryz.lays260 ⟨by kernel_rfl, by kernel_rfl, by kernel_rfl, by kernel_rfl, by kernel_rfl, by kernel_rfl, by kernel_rfl⟩ (laidMet.reads h h1) (laidMet.reads h h2),
  caseVar_of_reads (ρ := Tryz.lays159_ren) { Tryz.lays159 with } (by kernel_rfl) ⟨by kernel_rfl, by kernel_rfl, by kernel_rfl, by kernel_rfl, by kernel_rfl, by kernel_rfl⟩ (laidMet.reads h h3)⟩
theorem g0 : Tryz.prog.globalNamed "rubricator/order.kinds" = some 0 := by kernel_rfl
theorem g0t : (Tryz.prog.globals[0]?).map (·.type) = some 91 := by kernel_rfl
theorem c90 : Tryz.prog.cellsOf 90 = 2 := by kernel_rfl
theorem c5 : Tryz.prog.cellsOf 5 = 1 := by kernel_rfl
theorem kindsOf {W : World} {l : List (String × DataW Unit)} (h : laidMet Tryz.prog l W) (h1 : ("rubricator/order.kinds", Rows.laid_rubricator_order_kinds) ∈ l) (i : Nat) (hi : i < 12) : W.cell? ⟨0, i, none⟩ = some (.int .u8 (Js.kindsT.getD i 0)) := by
 obtain ⟨g, t, cs, fuel, p, hg, hty, hvar, hd⟩ := laidMet.reads h h1
 obtain rfl := Option.some.inj (g0.symm.trans hg)
 obtain rfl := Option.some.inj (g0t.symm.trans hty)
 rw [World.var?_cell hg hvar i, ← Array.getElem?_toList]
 have hrow : ∀ k, k < 6 → ∃ a b : Int, (([DataW.agg [.lit (.int .u8 1), .lit (.int .u8 2)], .agg [.lit (.int .u8 2), .lit (.int .u8 4)], .agg [.lit (.int .u8 4), .lit (.int .u8 5)], .agg [.lit (.int .u8 5), .lit (.int .u8 6)], .agg [.lit (.int .u8 6), .lit (.int .u8 7)], .agg [.lit (.int .u8 6), .lit (.int .u8 7)]] : List (DataW Unit))[k]?) = some (.agg ([a, b].map fun z => .lit (.int .u8 z))) ∧ (cs.toList.drop (k * 2)).take 2 = [a, b].map (Value.int .u8) := by
  intro k hk
  obtain ⟨fuel', d, q, hdi, he⟩ := array_elem Tryz.underlying91 hd k hk
  rw [c90] at he
  have hab : ∃ a b : Int, d = .agg ([a, b].map fun z => .lit (.int .u8 z)) := by
   match k, hk, hdi with
   | 0, _, hdi => exact ⟨1, 2, by simpa using hdi.symm⟩
   | 1, _, hdi => exact ⟨2, 4, by simpa using hdi.symm⟩
   | 2, _, hdi => exact ⟨4, 5, by simpa using hdi.symm⟩
   | 3, _, hdi => exact ⟨5, 6, by simpa using hdi.symm⟩
   | 4, _, hdi => exact ⟨6, 7, by simpa using hdi.symm⟩
   | 5, _, hdi => exact ⟨6, 7, by simpa using hdi.symm⟩
  obtain ⟨a, b, rfl⟩ := hab
  exact ⟨a, b, hdi, cells_of_tab Tryz.underlying90 Tryz.underlying5 c5 c90 he⟩
 obtain ⟨k, j, hk, hj, rfl⟩ : ∃ k j, k < 6 ∧ j < 2 ∧ i = k * 2 + j := ⟨i / 2, i % 2, by omega, by omega, by omega⟩
 obtain ⟨a, b, hd2, hc⟩ := hrow k hk
 have hget : cs.toList[k * 2 + j]? = ([a, b].map (Value.int .u8))[j]? := by
  have := congrArg (·[j]?) hc
  simp only [List.getElem?_take, List.getElem?_drop, if_pos hj] at this
  exact this
 rw [hget]
 match k, hk, hd2 with
 | 0, _, hd2 => simp at hd2; obtain ⟨rfl, rfl⟩ := hd2; match j, hj with | 0, _ => rfl | 1, _ => rfl
 | 1, _, hd2 => simp at hd2; obtain ⟨rfl, rfl⟩ := hd2; match j, hj with | 0, _ => rfl | 1, _ => rfl
 | 2, _, hd2 => simp at hd2; obtain ⟨rfl, rfl⟩ := hd2; match j, hj with | 0, _ => rfl | 1, _ => rfl
 | 3, _, hd2 => simp at hd2; obtain ⟨rfl, rfl⟩ := hd2; match j, hj with | 0, _ => rfl | 1, _ => rfl
 | 4, _, hd2 => simp at hd2; obtain ⟨rfl, rfl⟩ := hd2; match j, hj with | 0, _ => rfl | 1, _ => rfl
 | 5, _, hd2 => simp at hd2; obtain ⟨rfl, rfl⟩ := hd2; match j, hj with | 0, _ => rfl | 1, _ => rfl
theorem tabs {W : World} (h : laidMetH Tryz.prog Rows.orderKeysRow.laid W) : Js.KTabs W := by
 have h2 := plainLaid h (by kernel_rfl)
 exact ⟨tabsOf h2 (.tail _ (.tail _ (.tail _ (.head _)))) (.head _) (.tail _ (.tail _ (.head _))), kindsOf h2 (.tail _ (.head _))⟩
noncomputable def laidWorld (os : Os) : World := World.laidAll Tryz.prog os Rows.orderKeysRow.laid
theorem met (os : Os) (args : Array Value) : laidMet Tryz.prog Rows.orderKeysRow.laid ((laidWorld os).forCall (fun _ _ => 0) ⟨#[], args, []⟩).memory :=
 laidMet_laidAll _ (by kernel_rfl) (by kernel_rfl)
theorem shaped (os : Os) (args : Array Value) : ((laidWorld os).forCall (fun _ _ => 0) ⟨#[], args, []⟩).Shaped Tryz.checked.prog := World.shaped_of_ZipB (by kernel_rfl) (by kernel_rfl)
theorem witness {H : Type} {enc : TypeId × Value → H} {os : Os} {f : FuncId} {fn : Func} {s : OpenSpec} {conds : List PathCond} {apart : Bool} {laid : List (String × DataW Unit)} (modest : Bool) (args : Array Value)
    (hok : Input.okWideB Tryz.checked.prog ((laidWorld os).forCall (fun _ _ => 0) ⟨#[], args, []⟩) f ⟨#[], args, []⟩ = true)
    (hrow : s.preRow enc Tryz.checked.prog fn conds apart laid ((laidWorld os).forCall (fun _ _ => 0) ⟨#[], args, []⟩).memory args) :
    ∃ (w : World) (tape : Tape) (i : Input), w.os = os ∧ (w.forCall tape i).Shaped Tryz.checked.prog ∧ i.vars = [] ∧ Input.okWide Tryz.checked.prog (w.forCall tape i) .any w.heap.size f i ∧
     s.preRow enc Tryz.checked.prog fn conds apart laid (w.forCall tape i).memory i.args ∧ ({ modest := modest } : Assume).holds Tryz.checked.prog (lone (Go.Frame.enter Tryz.checked.prog f i.args .normal) [] (w.forCall tape i)) :=
 ⟨laidWorld os, fun _ _ => 0, ⟨#[], args, []⟩, World.laidAll_os _ _ _, shaped os args, (Input.okWide_of_okWideB (base := 0) hok).1, (Input.okWide_of_okWideB hok).2, hrow, by
  simp only [Assume.holds]
  exact ⟨by simp, by simp, fun _ => Modest.zero, by simp, by simp⟩⟩
end Frame
end Go.Proofs.YtapcpndplnkfjaaGreatDoor
namespace Go.Proofs.YtapcpndplnkfjaaGreatDoor
open Go.RowKit Go.Proofs.YtapcpndplnkfjaaGreatDoorW.PrintWords Go.Proofs.YtapcpndplnkfjaaGreatDoorW.PrintLast Go.Proofs.YtapcpndplnkfjaaGreatDoorW.PrintMore
attribute [local go_sem] max2_int min2_int max_two min_two max_three min_three max_four min_four
def errW : Option Int → Value
 | none => .nilIface
 | some c => .iface 0 (.int .i64 c)
theorem errW_none : errW none = .nilIface := rfl
theorem errW_some (c : Int) : errW (some c) = .iface 0 (.int .i64 c) := rfl
theorem info5 : (Tryz.prog.info? 5).map (fun i => (i.zero, i.size, i.bytes)) = some (some (.int .u8 0), 1, 1) := by kernel_rfl
def order_text.l0 : Nat → ByteArray → List Int → Int → Int → Option (List Int)
 | 0, _, _, _, _ => none
 | k + 1, x0, x3, x6, x7 => if x7 < x6 then (if 0 ≤ x7 then (if x7 < (x0.size : Int) then (if x3.length < 140737488355328 then ((some (x3 ++ [bt x0 x7] : List Int)).bind fun y101 => (if (bt x0 x7) = 0 then (if y101.length < 140737488355328 then (order_text.l0 k x0 (y101 ++ [255]) x6 (wrap64 (x7 + 1))) else (none)) else (order_text.l0 k x0 y101 x6 (wrap64 (x7 + 1))))) else (none)) else (none)) else (none)) else ((some (([0, 0] : List Int) : List Int)).bind fun y107 => (if x3.length + y107.length < 140737488355328 then (some (x3 ++ y107)) else (none)))
def order_text.f (k : Nat) (a0 : ByteArray) : Option (List Int) := order_text.l0 k a0 ([] : List Int) (a0.size : Int) 0
set_option maxHeartbeats 8000000 in
set_option maxRecDepth 100000 in
theorem order_text.calls (k : Nat) (a0 : ByteArray) (r : List Int) (w : World) (h : order_text.f k a0 = some r) :
    Calls Tryz.prog 41 #[.string a0] w fun e w' => ∃ v0_ : Value, e = .returned (v0_) ∧ Kd.R (Kd.int .u8) 5 w' w.heap.size (fun _ => True) v0_ r ∧ Below w.heap.size w w' := by
 have HB := Aside0.mk (Below.refl w.heap.size w)
 have H : (order_text.l0 k a0 ([] : List Int) (a0.size : Int) 0) = some r := h
 clear h
 have H' := Aside0.mk H
 clear H
 go_enter Tryz.func41, Tryz.ntmps41
 go_wp2
 go_loopg [3, 7] k (fun kq v3 v7 w' => ∃ (x3_1 : List Int) (x7_1 : Int), v7 = .int .i64 x7_1 ∧ Aside0 (order_text.l0 kq a0 x3_1 (a0.size : Int) x7_1 = some r) ∧ Aside0 (kq ≤ k) ∧ Aside0 (Kd.R (Kd.int .u8) 5 w' w.heap.size (fun _ => True) v3 x3_1) ∧ Aside0 (Below w.heap.size w w'))
 case atStart => exact ⟨(([] : List Int)), (0), (by (rfl)), H', ⟨Nat.le_refl _⟩, ⟨by (exact Kd.R_nil _ _ _ _ _)⟩, ⟨by repeat ((with_reducible (exact HB.out)))⟩⟩
 case round =>
  clear H'
  obtain ⟨x3_1, x7_1, rfl, HA, HK1, HO_3, HB⟩ := hrel
  cases gk with
  | zero => exact absurd HA.out (by simp [order_text.l0])
  | succ k1 =>
   have H := HA.out
   clear HA
   simp only [order_text.l0] at H
   by_cases c2 : x7_1 < (a0.size : Int)
   · rw [if_pos c2] at H
     have c2b0 : decide (x7_1 < (a0.size : Int)) = true := decide_eq_true c2
     clear c2
     by_cases c3 : 0 ≤ x7_1
     · rw [if_pos c3] at H
       have c3b0 : decide (0 ≤ x7_1) = true := decide_eq_true c3
       clear c3
       by_cases c4 : x7_1 < (a0.size : Int)
       · rw [if_pos c4] at H
         have c4b0 : decide (x7_1 < (a0.size : Int)) = true := decide_eq_true c4
         clear c4
         by_cases c6 : x3_1.length < 140737488355328
         · rw [if_pos c6] at H
           have LMc6 := Aside0.mk c6
           clear c6
           obtain ⟨y101, hy101⟩ : ∃ y_ : List Int, y_ = (x3_1 ++ [bt a0 x7_1]) := ⟨_, rfl⟩
           replace H : (if (bt a0 x7_1) = 0 then (if y101.length < 140737488355328 then (order_text.l0 k1 a0 (y101 ++ [255]) (a0.size : Int) (wrap64 (x7_1 + 1))) else (none)) else (order_text.l0 k1 a0 y101 (a0.size : Int) (wrap64 (x7_1 + 1)))) = some r := by (have H2_ := (Option.bind_some _ _).symm.trans H; rw [hy101]; with_reducible exact H2_)
           have Ny101 := Aside0.mk hy101
           clear hy101
           by_cases c8 : (bt a0 x7_1) = 0
           · rw [if_pos c8] at H
             have c8b0 : ((bt a0 x7_1) == 0) = true := beq_iff_eq.mpr c8
             have c8b1 : ((bt a0 x7_1) != 0) = false := bne_eq_false_iff_eq.mpr c8
             clear c8
             by_cases c9 : y101.length < 140737488355328
             · rw [if_pos c9] at H
               have LMc9 := Aside0.mk c9
               clear c9
               obtain ⟨y104, hy104⟩ : ∃ y_ : List Int, y_ = (y101 ++ [255]) := ⟨_, rfl⟩
               replace H : (order_text.l0 k1 a0 y104 (a0.size : Int) (wrap64 (x7_1 + 1))) = some r := by (rw [hy104]; with_reducible exact H)
               have Ny104 := Aside0.mk hy104
               clear hy104
               have H' := Aside0.mk H
               clear H
               have p5 : 0 ≤ (x7_1 : Int) := of_decide_eq_true (by (with_reducible assumption))
               have q5 : x7_1 < (a0.size : Int) := of_decide_eq_true (by (with_reducible assumption))
               have hx5 := bt_at a0 x7_1
               replace p5 := eq_true p5
               replace q5 := eq_true q5
               go_wp2_with (first | ((with_reducible refine gate_builtin (b := .append) (xs := #[.tmp 10, .tmp 14]) rfl ?_); at_builtin; refine Kd.R_append (Kd.int .u8) (w0 := w) w.heap.size rfl (.tmp 10) (.tmp 14) 38 5 (.int .u8 0) 1 rfl Tryz.underlying38 info5 rfl (by decide) (by omega) u3 x3_1 (bt a0 x7_1) [.int .u8 (bt a0 x7_1)] (fun _ => True) (fun _ => False) rfl rfl ?aP (fun _ hk => hk.elim) ?aF ?aO ?aB ?aS ?aL ?_; (case aP => exact rfl); (case aB => exact (by repeat ((with_reducible (exact HB.out))))); (case aF => exact (fun _ _ => trivial)); (case aO => exact (by (with_reducible repeat (first | apply Kd.R_alloc | apply Kd.R_drewN | apply Kd.R_drew)); exact HO_3.out)); (case aS => exact (below_size (by repeat ((with_reducible (exact HB.out)))))); (case aL => have := LMc6.out; omega); intro v102 w10 ho hb hg hat; rw [← Ny101.out] at ho; have n0_ := Aside0.mk (hb); have n1_ := Aside0.mk (ho); clear HB; clear HO_3; have HB := n0_; have HO103 := n1_; clear n0_ n1_; clear ho hb hg hat; have p7 : 0 ≤ (x7_1 : Int) := of_decide_eq_true (by (with_reducible assumption)); have q7 : x7_1 < (a0.size : Int) := of_decide_eq_true (by (with_reducible assumption)); have hx7 := bt_at a0 x7_1; replace p7 := eq_true p7; replace q7 := eq_true q7) | ((with_reducible refine gate_builtin (b := .append) (xs := #[.tmp 20, .tmp 21]) rfl ?_); at_builtin; refine Kd.R_append (Kd.int .u8) (w0 := w) w.heap.size rfl (.tmp 20) (.tmp 21) 38 5 (.int .u8 0) 1 rfl Tryz.underlying38 info5 rfl (by decide) (by omega) v102 y101 255 [.int .u8 255] (fun _ => True) (fun _ => False) rfl rfl ?aP (fun _ hk => hk.elim) ?aF ?aO ?aB ?aS ?aL ?_; (case aP => exact rfl); (case aB => exact (by repeat ((with_reducible (exact HB.out))))); (case aF => exact (fun _ _ => trivial)); (case aO => exact (by (with_reducible repeat (first | apply Kd.R_alloc | apply Kd.R_drewN | apply Kd.R_drew)); exact HO103.out)); (case aS => exact (below_size (by repeat ((with_reducible (exact HB.out)))))); (case aL => have := LMc9.out; omega); intro v105 w11 ho hb hg hat; rw [← Ny104.out] at ho; have n0_ := Aside0.mk (hb); have n1_ := Aside0.mk (ho); clear HB; clear HO103; have HB := n0_; have HO106 := n1_; clear n0_ n1_; clear ho hb hg hat))
               go_roundg k1
               case measure => have := HK1.out; omega
               case rel => exact ⟨(y104), (wrap64 (x7_1 + 1)), (by (rfl)), H', ⟨by have := HK1.out; omega⟩, ⟨by (with_reducible repeat (first | apply Kd.R_alloc | apply Kd.R_drewN | apply Kd.R_drew)); exact HO106.out⟩, ⟨by repeat ((with_reducible (exact HB.out)))⟩⟩
             rw [if_neg c9] at H
             exact absurd H (by simp)
           rw [if_neg c8] at H
           have c8b0 : ((bt a0 x7_1) == 0) = false := beq_eq_false_iff_ne.mpr c8
           have c8b1 : ((bt a0 x7_1) != 0) = true := bne_iff_ne.mpr c8
           have H' := Aside0.mk H
           clear H
           have p5 : 0 ≤ (x7_1 : Int) := of_decide_eq_true (by (with_reducible assumption))
           have q5 : x7_1 < (a0.size : Int) := of_decide_eq_true (by (with_reducible assumption))
           have hx5 := bt_at a0 x7_1
           replace p5 := eq_true p5
           replace q5 := eq_true q5
           go_wp2_with (((with_reducible refine gate_builtin (b := .append) (xs := #[.tmp 10, .tmp 14]) rfl ?_); at_builtin; refine Kd.R_append (Kd.int .u8) (w0 := w) w.heap.size rfl (.tmp 10) (.tmp 14) 38 5 (.int .u8 0) 1 rfl Tryz.underlying38 info5 rfl (by decide) (by omega) u3 x3_1 (bt a0 x7_1) [.int .u8 (bt a0 x7_1)] (fun _ => True) (fun _ => False) rfl rfl ?aP (fun _ hk => hk.elim) ?aF ?aO ?aB ?aS ?aL ?_; (case aP => exact rfl); (case aB => exact (by repeat ((with_reducible (exact HB.out))))); (case aF => exact (fun _ _ => trivial)); (case aO => exact (by (with_reducible repeat (first | apply Kd.R_alloc | apply Kd.R_drewN | apply Kd.R_drew)); exact HO_3.out)); (case aS => exact (below_size (by repeat ((with_reducible (exact HB.out)))))); (case aL => have := LMc6.out; omega); intro v102 w12 ho hb hg hat; rw [← Ny101.out] at ho; have n0_ := Aside0.mk (hb); have n1_ := Aside0.mk (ho); clear HB; clear HO_3; have HB := n0_; have HO103 := n1_; clear n0_ n1_; clear ho hb hg hat; have p7 : 0 ≤ (x7_1 : Int) := of_decide_eq_true (by (with_reducible assumption)); have q7 : x7_1 < (a0.size : Int) := of_decide_eq_true (by (with_reducible assumption)); have hx7 := bt_at a0 x7_1; replace p7 := eq_true p7; replace q7 := eq_true q7))
           go_roundg k1
           case measure => have := HK1.out; omega
           case rel => exact ⟨(y101), (wrap64 (x7_1 + 1)), (by (rfl)), H', ⟨by have := HK1.out; omega⟩, ⟨by (with_reducible repeat (first | apply Kd.R_alloc | apply Kd.R_drewN | apply Kd.R_drew)); exact HO103.out⟩, ⟨by repeat ((with_reducible (exact HB.out)))⟩⟩
         rw [if_neg c6] at H
         exact absurd H (by simp)
       rw [if_neg c4] at H
       exact absurd H (by simp)
     rw [if_neg c3] at H
     exact absurd H (by simp)
   rw [if_neg c2] at H
   have c2b0 : decide (x7_1 < (a0.size : Int)) = false := decide_eq_false c2
   clear c2
   obtain ⟨y107, hy107⟩ : ∃ y_ : List Int, y_ = (([0, 0] : List Int)) := ⟨_, rfl⟩
   replace H : (if x3_1.length + y107.length < 140737488355328 then (some (x3_1 ++ y107)) else (none)) = some r := by (have H2_ := (Option.bind_some _ _).symm.trans H; rw [hy107]; with_reducible exact H2_)
   have Ny107 := Aside0.mk hy107
   clear hy107
   by_cases c13 : x3_1.length + y107.length < 140737488355328
   · rw [if_pos c13] at H
     have LMc13 := Aside0.mk c13
     clear c13
     obtain ⟨y110, hy110⟩ : ∃ y_ : List Int, y_ = (x3_1 ++ y107) := ⟨_, rfl⟩
     replace H : (some y110) = some r := by (rw [hy110]; with_reducible exact H)
     have Ny110 := Aside0.mk hy110
     clear hy110
     obtain rfl := Option.some.inj H
     go_wp2_with (first | ((with_reducible refine gate_dst (N := 25) rfl ?_); refine Kd.R_lit (Kd.int .u8) _ 5 ?hg (N := 25) ?hd (xs := ([0, 0] : List Int)) (inner := [.int .u8 0, .int .u8 0]) (ok := fun _ => True) (okp := fun _ => True) ?hr ?hp (fun _ hk => hk) trivial (Below.refl _ _) (Nat.le_refl _) (by simp) ?_; (case hd => rfl); (case hg => rfl); (case hr => (go_simp; done)); (case hp => exact (Reps.one (show Kd.M (Kd.int .u8) _ _ _ 0 [.int .u8 0] from rfl) (Reps.one (show Kd.M (Kd.int .u8) _ _ _ 0 [.int .u8 0] from rfl) (Reps.none _ _)))); intro v108 w14 ho15 hb hg_ hnew_; clear hg_ hnew_; (rw [← Ny107.out] at ho15); have n0_ := Aside0.mk (Kd.R_elder' (by (with_reducible repeat (first | apply Kd.R_alloc | apply Kd.R_drewN | apply Kd.R_drew)); exact HO_3.out) (Kd.R_base ho15) hb); have n1_ := Aside0.mk (Kd.R_lower (Kd.R_new' ho15 (Kd.R_lt (by (with_reducible repeat (first | apply Kd.R_alloc | apply Kd.R_drewN | apply Kd.R_drew)); exact HO_3.out))) (below_size (by repeat ((with_reducible (exact HB.out)))))); have n2_ := Aside0.mk (below_step (by repeat ((with_reducible (exact HB.out)))) hb); clear HO_3; clear HB; have HO_3 := n0_; have HO109 := n1_; have HB := n2_; clear n0_ n1_ n2_; clear hb ho15; obtain ⟨Ao17, co17, eo17⟩ := Kd.R_slice HO109.out; subst eo17) | ((with_reducible refine gate_builtin (b := .append) (xs := #[.tmp 24, .tmp 25]) rfl ?_); at_builtin; refine Kd.R_append_rows (Kd.int .u8) (w0 := w) w.heap.size rfl (.tmp 24) (.tmp 25) 38 5 (.int .u8 0) 1 rfl Tryz.underlying38 info5 rfl (by decide) (by omega) u3 x3_1 y107 _ _ _ (fun k_ => some k_ ≠ (.slice Ao17 y107.length co17 : Value).ownBlock) (fun _ => False) rfl rfl ?aO ?aR (fun _ _ h => h) (fun _ h => h.elim) ?aF ?aB ?aS ?aL ?_; (case aR => repeat (exact (Kd.R_reads' HO109.out).2.2)); (case aB => exact (by repeat ((with_reducible (exact HB.out))))); (case aF => exact (fun k_ hk => Kd.fresh' (Kd.R_lt (by (with_reducible repeat (first | apply Kd.R_alloc | apply Kd.R_drewN | apply Kd.R_drew)); exact HO109.out)) k_ hk)); (case aO => exact (by (with_reducible repeat (first | apply Kd.R_alloc | apply Kd.R_drewN | apply Kd.R_drew)); exact Kd.R_mono HO_3.out (fun _ hk => hk.2))); (case aS => exact (below_size (by repeat ((with_reducible (exact HB.out)))))); (case aL => have := LMc13.out; omega); intro v111 w16 ho hb hg hat; rw [← Ny110.out] at ho; have n0_ := Aside0.mk (Kd.R_after (ok := (fun _ => True)) (by (with_reducible repeat (first | apply Kd.R_alloc | apply Kd.R_drewN | apply Kd.R_drew)); exact HO109.out) hg hat); have n1_ := Aside0.mk (hb); have n2_ := Aside0.mk (ho); clear HO109; clear HB; clear HO_3; have HO109 := n0_; have HB := n1_; have HO112 := n2_; clear n0_ n1_ n2_; clear ho hb hg hat))
     go_ret
     exact ⟨_, by (rfl), by (with_reducible repeat (first | apply Kd.R_alloc | apply Kd.R_drewN | apply Kd.R_drew)); exact Kd.R_mono HO112.out (fun _ hk => trivial), by repeat ((with_reducible (exact HB.out)))⟩
   rw [if_neg c13] at H
   exact absurd H (by simp)
namespace Js
theorem Rd.keep {w w' : World} {g : Nat} {a : S} (h : Rd w w' g a) {k : Nat} {o : Obj} (hk : w.heap[k]? = some o) (hne : k ≠ g) : w'.heap[k]? = some o :=
 (h.kp.block k (Array.getElem?_eq_some_iff.1 hk).1 (by simpa using hne)).trans hk
def Jv (w : World) (base : Nat) (v : Value) (x : S28) : Prop := ∃ cs, v = .agg cs.toArray ∧ k28.M w base (fun _ => True) x cs
theorem Jv.mk (w : World) (base : Nat) (x : S28) {v6 v7 : Value} (g6 : k28.R 28 w base (fun _ => True) v6 x.f4) (g7 : Kd.string.R 9 w base (fun _ => True) v7 x.f5) :
    Jv w base (.agg #[.int .i64 x.f0, .bool x.f1, .bool x.f2.f0, .string x.f2.f1, .int .i64 x.f2.f2, .string x.f3, v6, v7]) x := ⟨_, rfl, k28_mkM w base _ x g6 g7⟩
theorem Jv.flat (w : World) (base : Nat) (x : S28) (h4 : x.f4 = []) (h5 : x.f5 = []) :
    Jv w base (.agg #[.int .i64 x.f0, .bool x.f1, .bool x.f2.f0, .string x.f2.f1, .int .i64 x.f2.f2, .string x.f3, .slice none 0 0, .slice none 0 0]) x :=
 Jv.mk w base x (by rw [h4]; exact Kd.R_nil _ _ _ _ _) (by rw [h5]; exact Kd.R_nil _ _ _ _ _)
theorem setRow_at {w : World} {g : Nat} {old cells : Array Value} {t : TypeId} (hg : w.heap[g]? = some (.cells old t (0, 0))) : (w.setRow g cells).heap[g]? = some (.cells cells t (0, 0)) := by
 unfold World.setRow
 rw [Array.getElem?_modify, if_pos rfl, hg]
 rfl
theorem setRow_grown (w : World) (g : Nat) (cells : Array Value) : w.grownBy (w.setRow g cells) (some g) :=
 ⟨rfl, rfl, rfl, by simp [World.setRow], fun k _ hk => by
  unfold World.setRow
  rw [Array.getElem?_modify, if_neg (fun e => hk (by rw [e]))]⟩
theorem row_event {ops : Array Oper} {rest : List Oper} {o : Oper} {a : Act} {w : World} {Q : Exit → Act → World → Prop} (hgd : o.guard = none) (ty : TypeId) (x y : Operand) (ho : o.op = .store ty x y)
    (g : Nat) (cells : Array Value) (hx : a.eval x = .pointer (some ⟨g, 0, none⟩)) (hy : a.eval y = .agg cells) (t : TypeId) (old : Array Value) (hg : w.heap[g]? = some (.cells old t (0, 0)))
    (hi : (Tryz.prog.info? ty).map (·.size) = some cells.size) (hold : old.size = cells.size) (h1 : cells.toList.all (·.oneCell') = true)
    (h : ∀ w1, w1.heap[g]? = some (.cells cells t (0, 0)) → w.grownBy w1 (some g) → wpList Tryz.prog ops Q rest (a.put o.dst undef) w1) : wpList Tryz.prog ops Q (o :: rest) a w :=
 wpList_store_row hgd ty x y ho g cells hx hy t old hg hi hold (by rw [← Array.all_toList]; exact h1) (h _ (setRow_at hg) (setRow_grown _ _ _))
theorem Rd.far {w w1 w2 : World} {g b : Nat} {a : S} (h : Rd w w1 g a) (k : w1.grownBy w2 (some b)) (hb : b ≠ g) (hw : w.heap.size ≤ b) : Rd w w2 g a :=
 ⟨(k.block g h.lt (by simpa using Ne.symm hb)).trans h.cell, ⟨k.os.trans h.kp.os, k.tape.trans h.kp.tape, k.output.trans h.kp.output, Nat.le_trans h.kp.size k.size,
  fun i hi hr => (k.block i (Nat.lt_of_lt_of_le hi h.kp.size) (by simp; omega)).trans (h.kp.block i hi hr)⟩, h.gl, h.tb.grow k (fun i e => by injection e with e; have := h.gl; omega)⟩
def zA : Array Value := #[.int .i64 0, .bool false, .bool false, .string ⟨#[]⟩, .int .i64 0, .string ⟨#[]⟩, .slice none 0 0, .slice none 0 0]
theorem null_calls {w w1 : World} {g : Nat} {a : S} (h : Rd w w1 g a) : Calls Tryz.prog 64 #[.pointer (some ⟨g, 0, none⟩)] w1 fun E w' => ∃ v, E = .returned v ∧ Jv w' w1.heap.size v z28 ∧ Rd w w' g (a.need [110, 117, 108, 108]) := by
 have H := hi_ h
 clear h
 go_enter Tryz.func64, Tryz.ntmps64
 go_wp2_with fail
 refine (need_calls (H.out.below (Below.alloc (Below.refl _ _) (Nat.le_refl _) _)).now _).mono ?_
 rintro E w2 ⟨rfl, h2⟩
 have HR := hi_ (h2.keep (blk_new w1 _) (Nat.ne_of_gt H.out.lt))
 have H2 := hi_ ((H.out.below (Below.alloc (Below.refl _ _) (Nat.le_refl _) _)).trans h2)
 clear h2
 go_wp2_with (refine row_event rfl 28 (.tmp 2) (.tmp 5) rfl w1.heap.size _ rfl rfl 28 _ HR.out (by kernel_rfl) rfl rfl ?_; intro w3 hr3 hk3)
 have h3 := H2.out.far hk3 (Nat.ne_of_gt H.out.lt) H.out.kp.size
 exact bodyPost_ret (results_cell_row rfl _ _ w1.heap.size 28 _ (0, 0) _ rfl hr3 Tryz.underlying28 rfl (by kernel_rfl)) rfl ⟨_, rfl, Jv.flat w3 _ z28 rfl rfl, h3⟩
theorem yes_calls {w w1 : World} {g : Nat} {a : S} (h : Rd w w1 g a) : Calls Tryz.prog 65 #[.pointer (some ⟨g, 0, none⟩)] w1 fun E w' => ∃ v, E = .returned v ∧ Jv w' w1.heap.size v (S28.mk 1 true z24 ⟨#[]⟩ [] []) ∧ Rd w w' g (a.need [116, 114, 117, 101]) := by
 have H := hi_ h
 clear h
 go_enter Tryz.func65, Tryz.ntmps65
 go_wp2_with fail
 refine (need_calls (H.out.below (Below.alloc (Below.refl _ _) (Nat.le_refl _) _)).now _).mono ?_
 rintro E w2 ⟨rfl, h2⟩
 have HR := hi_ (h2.keep (blk_new w1 _) (Nat.ne_of_gt H.out.lt))
 have H2 := hi_ ((H.out.below (Below.alloc (Below.refl _ _) (Nat.le_refl _) _)).trans h2)
 clear h2
 go_wp2_with (refine row_event rfl 28 (.tmp 2) (.tmp 5) rfl w1.heap.size _ rfl rfl 28 _ HR.out (by kernel_rfl) rfl rfl ?_; intro w3 hr3 hk3)
 have h3 := H2.out.far hk3 (Nat.ne_of_gt H.out.lt) H.out.kp.size
 exact bodyPost_ret (results_cell_row rfl _ _ w1.heap.size 28 _ (0, 0) _ rfl hr3 Tryz.underlying28 rfl (by kernel_rfl)) rfl ⟨_, rfl, Jv.flat w3 _ (S28.mk 1 true z24 ⟨#[]⟩ [] []) rfl rfl, h3⟩
theorem no_calls {w w1 : World} {g : Nat} {a : S} (h : Rd w w1 g a) : Calls Tryz.prog 66 #[.pointer (some ⟨g, 0, none⟩)] w1 fun E w' => ∃ v, E = .returned v ∧ Jv w' w1.heap.size v (S28.mk 1 false z24 ⟨#[]⟩ [] []) ∧ Rd w w' g (a.need [102, 97, 108, 115, 101]) := by
 have H := hi_ h
 clear h
 go_enter Tryz.func66, Tryz.ntmps66
 go_wp2_with fail
 refine (need_calls (H.out.below (Below.alloc (Below.refl _ _) (Nat.le_refl _) _)).now _).mono ?_
 rintro E w2 ⟨rfl, h2⟩
 have HR := hi_ (h2.keep (blk_new w1 _) (Nat.ne_of_gt H.out.lt))
 have H2 := hi_ ((H.out.below (Below.alloc (Below.refl _ _) (Nat.le_refl _) _)).trans h2)
 clear h2
 go_wp2_with (refine row_event rfl 28 (.tmp 2) (.tmp 5) rfl w1.heap.size _ rfl rfl 28 _ HR.out (by kernel_rfl) rfl rfl ?_; intro w3 hr3 hk3)
 have h3 := H2.out.far hk3 (Nat.ne_of_gt H.out.lt) H.out.kp.size
 exact bodyPost_ret (results_cell_row rfl _ _ w1.heap.size 28 _ (0, 0) _ rfl hr3 Tryz.underlying28 rfl (by kernel_rfl)) rfl ⟨_, rfl, Jv.flat w3 _ (S28.mk 1 false z24 ⟨#[]⟩ [] []) rfl rfl, h3⟩
def S.numR (a : S) : List UInt8 := Lib.trimLeftS a.s [48, 49, 50, 51, 52, 53, 54, 55, 56, 57, 43, 45, 46, 101, 69]
def S.numL (a : S) : List UInt8 := a.s.take (a.s.length - a.numR.length)
def S.numV (a : S) : S28 := let n := (NumP.parse a.numL).1; ⟨2, false, ⟨n.1, ofL n.2.1, n.2.2⟩, ⟨#[]⟩, [], []⟩
def S.numS (a : S) : S := let e := (NumP.parse a.numL).2; { (if e = 0 then a else a.fail e) with s := a.numR }
theorem numR_le (a : S) : a.numR.length ≤ a.s.length := by
 unfold S.numR Lib.trimLeftS
 exact (List.dropWhile_sublist _).length_le
set_option maxRecDepth 100000 in
set_option maxHeartbeats 2000000 in
theorem number_calls {w w1 : World} {g : Nat} {a : S} (h : Rd w w1 g a) (hl : a.s.length ≤ 1000000) : Calls Tryz.prog 70 #[.pointer (some ⟨g, 0, none⟩)] w1 fun E w' => ∃ v, E = .returned v ∧ Jv w' w1.heap.size v a.numV ∧ Rd w w' g a.numS := by
 have H := hi_ h
 have c0 := h.c0
 have HT : Hid (strings_TrimLeft.f (ofL a.s) ⟨#[48, 49, 50, 51, 52, 53, 54, 55, 56, 57, 43, 45, 46, 101, 69]⟩ = some (ofL a.numR)) := hi_ (by unfold strings_TrimLeft.f; rw [if_pos (by decide)]; rfl)
 clear h
 have ca : ∀ o, (w1.alloc o).cell? ⟨g, 0, none⟩ = some (.string (ofL a.s)) := fun o => (H.out.below (Below.alloc (Below.refl _ _) (Nat.le_refl _) o)).c0
 go_enter Tryz.func70, Tryz.ntmps70
 go_wp2_with fail
 refine (strings_TrimLeft.calls _ _ _ _ HT.out).mono ?_
 rintro E w2 ⟨rfl, hb2⟩
 have HR := hi_ ((hb2.block w1.heap.size (by simp)).trans (blk_new w1 _))
 have H2 := hi_ ((H.out.below (Below.alloc (Below.refl _ _) (Nat.le_refl _) _)).below hb2)
 have hlt : w1.heap.size < w2.heap.size := Nat.lt_of_lt_of_le (by simp) hb2.size
 have HLT := hi_ hlt
 have HP : Hid (num_Parse.f (ofL a.numL) = some ((NumP.parse a.numL).1.1, ofL (NumP.parse a.numL).1.2.1, (NumP.parse a.numL).1.2.2, (NumP.parse a.numL).2)) := hi_ (by
  unfold num_Parse.f
  have : a.numL.length ≤ a.s.length := List.length_take_le' _ _
  rw [if_pos (by rw [ofL_size]; omega), ofL_data])
 have HX : Hid ((ofL a.s).extract 0 ((ofL a.s).size - (ofL a.numR).size) = ofL a.numL) := hi_ (by
  rw [ofL_ext, ofL_size, ofL_size]; simp [S.numL])
 have hL : (ofL a.s).size ≤ 1000000 := by rw [ofL_size]; exact hl
 have hR : (ofL a.numR).size ≤ (ofL a.s).size := by rw [ofL_size, ofL_size]; exact numR_le a
 clear c0 ca HT hb2 hlt hl
 have c0 := H2.out.c0
 go_wp2_with fail
 generalize hAA : ofL a.s = A at *
 generalize hBB : ofL a.numR = B at *
 have HAB := hi_ (And.intro hAA hBB)
 clear hAA hBB
 go_cut [4, 5] (fun s4 s5 wx => ∃ b, w1.heap.size < b ∧ s4 = .pointer (some ⟨b, 0, none⟩) ∧ s5 = .int .i64 (NumP.parse a.numL).2 ∧ wx.heap[b]? = some (.cells #[.bool (NumP.parse a.numL).1.1, .string (ofL (NumP.parse a.numL).1.2.1), .int .i64 (NumP.parse a.numL).1.2.2] 24 (0, 0)) ∧ Below w2.heap.size w2 wx)
 case first =>
  have w0 : IntKind.i64.wrap ((A.size : Int) - (B.size : Int)) = (A.size : Int) - (B.size : Int) := IntWalk.i64_in _ (by omega)
  have w00 : (0 : Int) ≤ (A.size : Int) - (B.size : Int) := by omega
  have w01 : (A.size : Int) - (B.size : Int) ≤ (A.size : Int) := by omega
  have w02 : ((A.size : Int) - (B.size : Int)).toNat = A.size - B.size := by omega
  have hc : ∀ w3, Below w2.drew.heap.size w2.drew w3 → w3.cell? ⟨g, 0, none⟩ = some (.string A) := fun w3 hb => (hb.cell (p := ⟨g, 0, none⟩) H2.out.lt).trans c0
  have HC := hi_ hc
  clear hc
  have HCS : Hid (∀ (W : World) (v0 v1 v2 : Value), (((W.setCell ⟨w2.heap.size, 0, none⟩ v0).setCell ⟨w2.heap.size, 1, none⟩ v1).setCell ⟨w2.heap.size, 2, none⟩ v2).cell? ⟨g, 0, none⟩ = W.cell? ⟨g, 0, none⟩) :=
   hi_ (fun W v0 v1 v2 => World.cell?_of_block (((Below.heap_setCell _ _ _ _ (Nat.ne_of_lt H2.out.lt)).trans (Below.heap_setCell _ _ _ _ (Nat.ne_of_lt H2.out.lt))).trans (Below.heap_setCell _ _ _ _ (Nat.ne_of_lt H2.out.lt))))
  have HQ : Hid (∀ w5, Below (w2.drew.alloc (.cells #[.bool false, .string ⟨#[]⟩, .int .i64 0] 24)).heap.size (w2.drew.alloc (.cells #[.bool false, .string ⟨#[]⟩, .int .i64 0] 24)) w5 →
      w5.cell? ⟨w2.heap.size, 0, none⟩ = some (.bool false) ∧ w5.cell? ⟨w2.heap.size, 1, none⟩ = some (.string ⟨#[]⟩) ∧ w5.cell? ⟨w2.heap.size, 2, none⟩ = some (.int .i64 0) ∧
      w5.frozen? ⟨w2.heap.size, 0, none⟩ = false ∧ w5.frozen? ⟨w2.heap.size, 1, none⟩ = false ∧ w5.frozen? ⟨w2.heap.size, 2, none⟩ = false) := hi_ (fun w5 hb => by
   have q := (hb.block w2.heap.size (by simp)).trans (blk_new w2.drew _)
   exact ⟨(blk_cell q 0).trans rfl, (blk_cell q 1).trans rfl, (blk_cell q 2).trans rfl, blk_frozen q 0, blk_frozen q 1, blk_frozen q 2⟩)
  go_region_held3 (fun w' => w'.cell? ⟨g, 0, none⟩ = some (.string A)) (first | go_keep | exact c0 | exact HC.out _ hb5 | exact HC.out _ (hb5.alloc hb5.size _) | exact HC.out _ ((Below.refl _ _).alloc (Nat.le_refl _) _) | exact (HCS.out _ _ _ _).trans (HC.out _ (((Below.refl _ _).alloc (Nat.le_refl _) _).trans (hb5.mono (Below.size ((Below.refl _ _).alloc (Nat.le_refl _) _))))) | exact HC.out _ (((Below.refl _ _).alloc (Nat.le_refl _) _).trans (hb5.mono (Below.size ((Below.refl _ _).alloc (Nat.le_refl _) _))))) (first | (go_at_call 101; rw [HX.out]; refine (num_Parse.calls _ _ _ _ _ _ HP.out).mono ?_; rintro E w5 ⟨rfl, hb5⟩; have qq := HQ.out _ hb5; obtain ⟨q0, q1, q2, f0, f1, f2⟩ := qq) | (go_at_call 101; rw [HX.out]; refine (num_Parse.calls _ _ _ _ _ _ HP.out).mono ?_; rintro E w5 ⟨rfl, hb5⟩))
  · go_wp2
    go_meet
    have hb : Below w2.heap.size w2 w5 := (Below.refl _ _).drew.trans hb5
    exact ⟨w5.heap.size, Nat.lt_of_lt_of_le HLT.out hb.size, rfl, rfl, blk_new _ _, hb.alloc hb.size _⟩
  have q := (hb5.block w2.heap.size (by simp)).trans (blk_new w2.drew _)
  have hb : Below w2.heap.size w2 w5 := (((Below.refl _ _).alloc (Nat.le_refl _) _).drew).trans (hb5.mono (by simp))
  have HQ5 := hi_ q
  have HB5 := hi_ hb
  clear q hb hb5 q0 q1 q2 f0 f1 f2
  go_wp2
  go_meet
  exact ⟨w2.heap.size, HLT.out, rfl, rfl, blk_put (blk_put (blk_put HQ5.out 0 _ rfl) 1 _ rfl) 2 _ rfl, ((HB5.out.setCell (by simp) _).setCell (by simp) _).setCell (by simp) _⟩
 case rest =>
  obtain ⟨b, hb1, rfl, rfl, hb2, hb3⟩ := hcut
  have H3 := hi_ (H2.out.below hb3)
  have HR3 := hi_ ((hb3.block _ HLT.out).trans HR.out)
  have HB3 := hi_ hb2
  clear hb2 hb3 c0
  obtain ⟨e, he⟩ : ∃ e, (NumP.parse a.numL).2 = e := ⟨_, rfl⟩
  rw [he]
  have HE := hi_ he
  clear he
  by_cases he0 : e = 0
  · have e1 : (e != 0) = false := by simp [he0]
    have HNS : Hid (a.numS = { a with s := a.numR }) := hi_ (by unfold S.numS; rw [HE.out, he0]; rfl)
    clear he0
    have H4 := hi_ H3.out
    have hr4 := HR3.out
    have hb4 := HB3.out
    have HR5 := hi_ ((Below.heap_setCell wc ⟨g, 0, none⟩ (.string B) w1.heap.size (Nat.ne_of_gt H.out.lt)).trans hr4)
    have HB5 := hi_ ((Below.heap_setCell wc ⟨g, 0, none⟩ (.string B) b (by have := H.out.lt; show b ≠ g; omega)).trans hb4)
    have c0 := H4.out.c0
    have f0 := H4.out.fz 0
    clear hr4 hb4
    go_wp2_with (first | (refine wpList_load_row rfl 24 (.tmp 4) rfl b rfl 24 _ (0, 0) _ HB5.out Tryz.underlying24 rfl (by kernel_rfl) ?_) | (refine row_event rfl 28 (.tmp 2) (.tmp 38) rfl w1.heap.size _ rfl rfl 28 _ HR5.out (by kernel_rfl) rfl rfl ?_; intro w6 hr6 hk6))
    have h6 := (show Rd w (wc.setCell ⟨g, 0, none⟩ (.string B)) g a.numS from by rw [HNS.out, ← HAB.out.2]; exact H4.out.s0 _).far hk6 (Nat.ne_of_gt H.out.lt) H.out.kp.size
    exact bodyPost_ret (results_cell_row rfl _ _ w1.heap.size 28 _ (0, 0) _ rfl hr6 Tryz.underlying28 rfl (by kernel_rfl)) rfl ⟨_, rfl, Jv.flat w6 _ a.numV rfl rfl, h6⟩
  have e1 : (e != 0) = true := by simp [he0]
  have HNS : Hid (a.numS = { a.fail e with s := a.numR }) := hi_ (by unfold S.numS; rw [HE.out]; simp [he0])
  clear he0
  go_wp2_with fail
  refine (fail_calls H3.out.now e).mono ?_
  rintro E w4 ⟨rfl, h4⟩
  have H4 := hi_ (H3.out.trans h4)
  have hr4 := h4.keep HR3.out (Nat.ne_of_gt H.out.lt)
  have hb4 := h4.keep HB3.out (by have := H.out.lt; omega)
  clear h4
  have HR5 := hi_ ((Below.heap_setCell w4 ⟨g, 0, none⟩ (.string B) w1.heap.size (Nat.ne_of_gt H.out.lt)).trans hr4)
  have HB5 := hi_ ((Below.heap_setCell w4 ⟨g, 0, none⟩ (.string B) b (by have := H.out.lt; show b ≠ g; omega)).trans hb4)
  have c0 := H4.out.c0
  have f0 := H4.out.fz 0
  clear hr4 hb4
  go_wp2_with (first | (refine wpList_load_row rfl 24 (.tmp 4) rfl b rfl 24 _ (0, 0) _ HB5.out Tryz.underlying24 rfl (by kernel_rfl) ?_) | (refine row_event rfl 28 (.tmp 2) (.tmp 38) rfl w1.heap.size _ rfl rfl 28 _ HR5.out (by kernel_rfl) rfl rfl ?_; intro w6 hr6 hk6))
  have h6 := (show Rd w (w4.setCell ⟨g, 0, none⟩ (.string B)) g a.numS from by rw [HNS.out, ← HAB.out.2]; exact H4.out.s0 _).far hk6 (Nat.ne_of_gt H.out.lt) H.out.kp.size
  exact bodyPost_ret (results_cell_row rfl _ _ w1.heap.size 28 _ (0, 0) _ rfl hr6 Tryz.underlying28 rfl (by kernel_rfl)) rfl ⟨_, rfl, Jv.flat w6 _ a.numV rfl rfl, h6⟩
end Js
end Go.Proofs.YtapcpndplnkfjaaGreatDoor
namespace Go.Proofs.YtapcpndplnkfjaaGreatDoor
open Go.RowKit
namespace Js
theorem run_insert8 {P : Program} {w : World} {t kt et : TypeId} (ht : P.underlying t = some (.map kt et)) (hk : P.underlying kt = some (.int .u8)) {r : Nat} {es : Array MapEntry} {clock : Nat} (hb : w.heap[r]? = some (.map es clock)) (c : Int) (v : Value)
    (hf : Instr.findNow (.int .u8) (.int .u8 c) es.toList 0 = some none) :
    (Instr.mapUpdate t (.map (some r)) (.int .u8 c) v).run P w = .ok () { w with heap := w.heap.setIfInBounds r (.map (es.push { key := .int .u8 c, val := v, born := clock }) (clock + 1)) } := by
 have hc : (Instr.checkKey false 10000 kt (.int .u8 c)).run P w = .ok () w := MapKept.run_checkKey hk (by simp [MapKept.IsKey]) false 9999
 simp [Instr.mapUpdate, run_underlying ht, MapKept.run_getObj_map hb, hc, MapKept.run_findKey hk hf, MapKept.run_setObj_map _ hb, Result.andThen]
theorem insert8 {P : Program} {ops : Array Oper} {rest : List Oper} {o : Oper} {a : Act} {w : World} {Q : Exit → Act → World → Prop} (hg : o.guard = none) (m k x : Operand) (t : TypeId) (ho : o.op = .insert t m k x) {kt et : TypeId}
    (ht : P.underlying t = some (.map kt et)) (hk : P.underlying kt = some (.int .u8)) (r : Nat) (es : Array MapEntry) (clock : Nat) (hb : w.heap[r]? = some (.map es clock)) (hm : a.eval m = .map (some r)) (c : Int) (hx : a.eval k = .int .u8 c) (v : Value) (hv : a.eval x = v)
    (hf : Instr.findNow (.int .u8) (.int .u8 c) es.toList 0 = some none)
    (h : ∀ w1, w1.heap[r]? = some (.map (es.push { key := .int .u8 c, val := v, born := clock }) (clock + 1)) → w.grownBy w1 (some r) → wpList P ops Q rest (a.put o.dst undef) w1) : wpList P ops Q (o :: rest) a w := by
 refine wpList_plain hg fun K' hK' => ?_
 unfold Oper.wp
 simp [execOp, ho, hm, hx, hv, run_insert8 ht hk hb c v hf, Result.andThen]
 refine hK' _ _ (h _ (MapKept.heap_set hb).1 ⟨rfl, rfl, rfl, by simp, fun i _ hi => (MapKept.heap_set hb).2 i (by simpa using hi)⟩)
theorem lookup8 {P : Program} {ops : Array Oper} {rest : List Oper} {o : Oper} {a : Act} {w : World} {Q : Exit → Act → World → Prop} (hg : o.guard = none) (m k : Operand) (t : TypeId) (ho : o.op = .lookup t m k true) {kt et : TypeId}
    (ht : P.underlying t = some (.map kt et)) (hk : P.underlying kt = some (.int .u8)) (hz : (zeroValue et).run P w = .ok .nilFunc w) (r : Nat) (es : Array MapEntry) (clock : Nat) (hb : w.heap[r]? = some (.map es clock)) (hm : a.eval m = .map (some r)) (c : Int) (hx : a.eval k = .int .u8 c)
    (q : Option (Nat × Value)) (hf : Instr.findNow (.int .u8) (.int .u8 c) es.toList 0 = some q)
    (h : wpList P ops Q rest (a.put o.dst (match q with | none => .tuple #[.nilFunc, .bool false] | some (_, v) => .tuple #[v, .bool true])) w) : wpList P ops Q (o :: rest) a w := by
 have hc : ∀ e, (Instr.checkKey e 10000 kt (.int .u8 c)).run P w = .ok () w := fun e => MapKept.run_checkKey hk (by simp [MapKept.IsKey]) e 9999
 refine wpList_plain hg fun K' hK' => ?_
 unfold Oper.wp
 cases q with
 | none =>
  have hr : (Instr.lookup t (.map (some r)) (.int .u8 c) true).run P w = .ok (.tuple #[.nilFunc, .bool false]) w := by
   simp [Instr.lookup, run_underlying ht, MapKept.run_getObj_map hb, hc, MapKept.run_findKey hk hf, hz, Result.andThen]
  simp [execOp, ho, hm, hx, hr, Result.andThen]
  exact hK' _ _ h
 | some q =>
  obtain ⟨j, v⟩ := q
  have hr : (Instr.lookup t (.map (some r)) (.int .u8 c) true).run P w = .ok (.tuple #[v, .bool true]) w := by
   simp [Instr.lookup, run_underlying ht, MapKept.run_getObj_map hb, hc, MapKept.run_findKey hk hf, Result.andThen]
  simp [execOp, ho, hm, hx, hr, Result.andThen]
  exact hK' _ _ h
end Js
end Go.Proofs.YtapcpndplnkfjaaGreatDoor
namespace Go.Proofs.YtapcpndplnkfjaaGreatDoor
open Go.RowKit Go.Proofs.YtapcpndplnkfjaaGreatDoorW.PrintWords Go.Proofs.YtapcpndplnkfjaaGreatDoorW.PrintLast Go.Proofs.YtapcpndplnkfjaaGreatDoorW.PrintMore
namespace Js
def fv (g n : Nat) : Value := .func (.func n) #[.pointer (some ⟨g, 0, none⟩)] #[]
def ents (g : Nat) : Array MapEntry := #[{ key := .int .u8 110, val := fv g 64, born := 0 }, { key := .int .u8 116, val := fv g 65, born := 1 }, { key := .int .u8 102, val := fv g 66, born := 2 }, { key := .int .u8 34, val := fv g 67, born := 3 }, { key := .int .u8 91, val := fv g 68, born := 4 }, { key := .int .u8 123, val := fv g 69, born := 5 }, { key := .int .u8 45, val := fv g 70, born := 6 }]
def VCalls (fn : Nat) (ok : S → Prop) (f : S → S28 × S) : Prop := ∀ (w w1 : World) (g : Nat) (a : S), Rd w w1 g a → ok a →
 Calls Tryz.prog fn #[.pointer (some ⟨g, 0, none⟩)] w1 fun E w' => ∃ v, E = .returned v ∧ Jv w' w1.heap.size v (f a).1 ∧ Rd w w' g (f a).2
def S.value1 (ft fa fo : S → S28 × S) (b : S) : S28 × S :=
 if b.e ≠ 0 then (z28, b) else
 match b.s with
 | [] => (z28, b.fail 11)
 | c :: _ =>
  if c = 110 then (z28, b.need [110, 117, 108, 108]) else
  if c = 116 then (S28.mk 1 true z24 ⟨#[]⟩ [] [], b.need [116, 114, 117, 101]) else
  if c = 102 then (S28.mk 1 false z24 ⟨#[]⟩ [] [], b.need [102, 97, 108, 115, 101]) else
  if c = 34 then ft b else if c = 91 then fa b else if c = 123 then fo b else
  if c = 45 ∨ 48 ≤ c ∧ c ≤ 57 then (b.numV, b.numS) else (z28, b.fail 11)
def S.value (ft fa fo : S → S28 × S) (a : S) : S28 × S := S.value1 ft fa fo a.skip
theorem ents_none (g : Nat) (c : UInt8) (h0 : c ≠ 110) (h1 : c ≠ 116) (h2 : c ≠ 102) (h3 : c ≠ 34) (h4 : c ≠ 91) (h5 : c ≠ 123) (h6 : c ≠ 45) :
    Instr.findNow (.int .u8) (.int .u8 (c.toNat : Int)) (ents g).toList 0 = some none := by
 have k : ∀ d : UInt8, c ≠ d → ((d.toNat : Int) == (c.toNat : Int)) = false ∧ ((c.toNat : Int) == (d.toNat : Int)) = false := fun d hd => by
  have : c.toNat ≠ d.toNat := fun e => hd (UInt8.toNat_inj.1 e)
  exact ⟨by simp; omega, by simp; omega⟩
 have e0 : ((c.toNat : Int) == 110) = false := (k 110 h0).2
 have e1 : ((c.toNat : Int) == 116) = false := (k 116 h1).2
 have e2 : ((c.toNat : Int) == 102) = false := (k 102 h2).2
 have e3 : ((c.toNat : Int) == 34) = false := (k 34 h3).2
 have e4 : ((c.toNat : Int) == 91) = false := (k 91 h4).2
 have e5 : ((c.toNat : Int) == 123) = false := (k 123 h5).2
 have e6 : ((c.toNat : Int) == 45) = false := (k 45 h6).2
 simp [ents, Instr.findNow, Instr.sameNow]
 simp only [e0, e1, e2, e3, e4, e5, e6]
theorem Jv.of {w : World} {base : Nat} {v : Value} {x : S28} (h : Jv w base v x) : ∃ cs : List Value, v = .agg cs.toArray ∧ cs.toArray.size = 8 ∧ cs.toArray.toList.all (·.oneCell') = true ∧ (Tryz.prog.info? 28).map (·.size) = some cs.toArray.size ∧ k28.M w base (fun _ => True) x cs := by
 obtain ⟨cs, rfl, hM⟩ := h
 have hl : cs.toArray.size = 8 := k28.K_len (k28.K_of_M hM)
 have ho : cs.toArray.toList.all (·.oneCell') = true := List.all_eq_true.2 (fun u hu => k28.K_one (k28.K_of_M hM) u (by simpa using hu))
 exact ⟨cs, rfl, hl, ho, by rw [hl]; kernel_rfl, hM⟩
theorem Jv.up {w w' : World} {base b base' : Nat} {cs : List Value} {x : S28} (h : k28.M w base (fun _ => True) x cs) (k : w.grownBy w' (some b)) (hb : b < base) (hl : base' ≤ base) : Jv w' base' (.agg cs.toArray) x :=
 ⟨cs, rfl, k28.M_lower hl (k28.M_mono (fun _ _ => trivial) (Kd.M_grown (k28.M_bound h) k (fun i hi e => by have := hi.2.1; injection e with e; omega)))⟩
theorem null_v : VCalls 64 (fun _ => True) (fun b => (z28, b.need [110, 117, 108, 108])) := fun w w1 g a h _ => null_calls h
theorem yes_v : VCalls 65 (fun _ => True) (fun b => (S28.mk 1 true z24 ⟨#[]⟩ [] [], b.need [116, 114, 117, 101])) := fun w w1 g a h _ => yes_calls h
theorem no_v : VCalls 66 (fun _ => True) (fun b => (S28.mk 1 false z24 ⟨#[]⟩ [] [], b.need [102, 97, 108, 115, 101])) := fun w w1 g a h _ => no_calls h
theorem number_v : VCalls 70 (fun b => b.s.length ≤ 1000000) (fun b => (b.numV, b.numS)) := fun w w1 g a h hl => number_calls h hl
set_option maxRecDepth 100000 in
set_option maxHeartbeats 8000000 in
theorem value_calls (ft fa fo : S → S28 × S) (okt oka oko : S → Prop) (HT : VCalls 67 okt ft) (HA : VCalls 68 oka fa) (HO : VCalls 69 oko fo) :
    VCalls 34 (fun a => a.s.length ≤ 1000000 ∧ (a.skip.e = 0 → (a.skip.s.head? = some 34 → okt a.skip) ∧ (a.skip.s.head? = some 91 → oka a.skip) ∧ (a.skip.s.head? = some 123 → oko a.skip))) (S.value ft fa fo) := by
 intro w w1 g a h hok
 have H := hi_ h
 have HOK := hi_ hok
 have HTX := hi_ (And.intro HT (And.intro HA HO))
 have hmm := @run_makeMap Tryz.prog
 clear h hok HT HA HO
 go_enter Tryz.func34, Tryz.ntmps34
 go_wp2_with fail
 refine (skip_calls (H.out.below (Below.alloc (Below.refl _ _) (Nat.le_refl _) _)).now).mono ?_
 rintro E w2 ⟨rfl, h2⟩
 have HR := hi_ (h2.keep (blk_new w1 _) (Nat.ne_of_gt H.out.lt))
 have H2 := hi_ ((H.out.below (Below.alloc (Below.refl _ _) (Nat.le_refl _) _)).trans h2)
 have HSZ : Hid (w1.heap.size < w2.heap.size) := hi_ (Nat.lt_of_lt_of_le (by simp) h2.kp.size)
 clear h2
 have h0 := And.intro (MapKept.heap_alloc w2 (.map #[] 0)).1 ((Below.refl w2.heap.size w2).alloc (Nat.le_refl _) (.map #[] 0))
 go_upto_region 2 with fail
 go_cut [3] (fun s3 wx => s3 = .map (some w2.heap.size) ∧ wx.heap[w2.heap.size]? = some (.map (ents g) 7) ∧ Below w2.heap.size w2 wx)
 case first =>
  go_wp2_with (first | (refine insert8 rfl (.tmp 8) (.const (.int .u8 110)) (.tmp 10) 110 rfl Tryz.underlying110 Tryz.underlying5 w2.heap.size _ 0 h0.1 rfl 110 rfl _ rfl rfl ?_; intro v1 i1 j1; have h1 := And.intro i1 (h0.2.grown j1 (Nat.le_of_lt (Array.getElem?_eq_some_iff.1 h0.1).1) (fun k e => Nat.le_of_eq (Option.some.inj e))); clear i1 j1) | (refine insert8 rfl (.tmp 8) (.const (.int .u8 116)) (.tmp 12) 110 rfl Tryz.underlying110 Tryz.underlying5 w2.heap.size _ 1 h1.1 rfl 116 rfl _ rfl rfl ?_; intro v2 i2 j2; have h2 := And.intro i2 (h1.2.grown j2 (Nat.le_of_lt (Array.getElem?_eq_some_iff.1 h1.1).1) (fun k e => Nat.le_of_eq (Option.some.inj e))); clear i2 j2) | (refine insert8 rfl (.tmp 8) (.const (.int .u8 102)) (.tmp 14) 110 rfl Tryz.underlying110 Tryz.underlying5 w2.heap.size _ 2 h2.1 rfl 102 rfl _ rfl rfl ?_; intro v3 i3 j3; have h3 := And.intro i3 (h2.2.grown j3 (Nat.le_of_lt (Array.getElem?_eq_some_iff.1 h2.1).1) (fun k e => Nat.le_of_eq (Option.some.inj e))); clear i3 j3) | (refine insert8 rfl (.tmp 8) (.const (.int .u8 34)) (.tmp 16) 110 rfl Tryz.underlying110 Tryz.underlying5 w2.heap.size _ 3 h3.1 rfl 34 rfl _ rfl rfl ?_; intro v4 i4 j4; have h4 := And.intro i4 (h3.2.grown j4 (Nat.le_of_lt (Array.getElem?_eq_some_iff.1 h3.1).1) (fun k e => Nat.le_of_eq (Option.some.inj e))); clear i4 j4) | (refine insert8 rfl (.tmp 8) (.const (.int .u8 91)) (.tmp 18) 110 rfl Tryz.underlying110 Tryz.underlying5 w2.heap.size _ 4 h4.1 rfl 91 rfl _ rfl rfl ?_; intro v5 i5 j5; have h5 := And.intro i5 (h4.2.grown j5 (Nat.le_of_lt (Array.getElem?_eq_some_iff.1 h4.1).1) (fun k e => Nat.le_of_eq (Option.some.inj e))); clear i5 j5) | (refine insert8 rfl (.tmp 8) (.const (.int .u8 123)) (.tmp 20) 110 rfl Tryz.underlying110 Tryz.underlying5 w2.heap.size _ 5 h5.1 rfl 123 rfl _ rfl rfl ?_; intro v6 i6 j6; have h6 := And.intro i6 (h5.2.grown j6 (Nat.le_of_lt (Array.getElem?_eq_some_iff.1 h5.1).1) (fun k e => Nat.le_of_eq (Option.some.inj e))); clear i6 j6) | (refine insert8 rfl (.tmp 8) (.const (.int .u8 45)) (.tmp 22) 110 rfl Tryz.underlying110 Tryz.underlying5 w2.heap.size _ 6 h6.1 rfl 45 rfl _ rfl rfl ?_; intro v7 i7 j7; have h7 := And.intro i7 (h6.2.grown j7 (Nat.le_of_lt (Array.getElem?_eq_some_iff.1 h6.1).1) (fun k e => Nat.le_of_eq (Option.some.inj e))); clear i7 j7))
  go_meet
  exact ⟨rfl, h7.1, h7.2⟩
 case rest =>
  obtain ⟨rfl, hm, hb⟩ := hcut
  clear hmm h0
  have H3 := hi_ (H2.out.below hb)
  have HR3 := hi_ ((hb.block _ HSZ.out).trans HR.out)
  have HM3 := hi_ hm
  clear hm hb
  have c2 := H3.out.c2
  have HLE : Hid (w.heap.size ≤ w1.heap.size) := hi_ H.out.kp.size
  have HWC : Hid (w1.heap.size < wc.heap.size) := hi_ (Nat.lt_of_lt_of_le HSZ.out (Nat.le_of_lt (Array.getElem?_eq_some_iff.1 HM3.out).1))
  have HNE : Hid (w1.heap.size ≠ g) := hi_ (Nat.ne_of_gt H.out.lt)
  have HV : Hid (S.value ft fa fo a = S.value1 ft fa fo a.skip) := hi_ rfl
  have HLEN : Hid (a.skip.s.length ≤ 1000000) := hi_ (Nat.le_trans (by unfold S.skip Lib.trimLeftS; exact (List.dropWhile_sublist _).length_le) HOK.out.1)
  generalize hbb : a.skip = b at *
  by_cases he : b.e = 0
  · have e1 : (b.e != 0) = false := by simp [he]
    have c0 := H3.out.c0
    cases hs : b.s with
    | nil =>
     have HF : Hid (S.value ft fa fo a = (z28, b.fail 11)) := hi_ (by rw [HV.out]; unfold S.value1; rw [if_neg (by simp [he]), hs])
     rw [hs] at c0
     have hsz : (ofL []).toList.isEmpty = true := by rw [ofL_toList]; rfl
     clear he hs HV
     go_wp2_with fail
     refine (fail_calls H3.out.now 11).mono ?_
     rintro E w4 ⟨rfl, h4⟩
     have H4 := hi_ (H3.out.trans h4)
     have HR4 := hi_ (h4.keep HR3.out HNE.out)
     clear h4 c0 c2 hsz
     go_wp2_with (refine row_event rfl 28 (.tmp 2) (.tmp 37) rfl w1.heap.size _ rfl rfl 28 _ HR4.out (by kernel_rfl) rfl rfl ?_; intro w6 hr6 hk6)
     have h6 := H4.out.far hk6 HNE.out HLE.out
     exact bodyPost_ret (results_cell_row rfl _ _ w1.heap.size 28 _ (0, 0) _ rfl hr6 Tryz.underlying28 rfl (by kernel_rfl)) rfl ⟨_, rfl, by rw [HF.out]; exact Jv.flat w6 _ z28 rfl rfl, by rw [HF.out]; exact h6⟩
    | cons c t =>
     rw [hs] at c0
     have HS := hi_ hs
     have HE := hi_ he
     clear he hs
     have hsz : (ofL (c :: t)).toList.isEmpty = false := by rw [ofL_toList]; rfl
     have hsz1 : 0 < (ofL (c :: t)).size := by rw [ofL_size]; exact Nat.succ_pos _
     by_cases k0 : c = 110
     · subst k0
       have HF : Hid (S.value ft fa fo a = (z28, b.need [110, 117, 108, 108])) := hi_ (by rw [HV.out]; unfold S.value1; rw [if_neg (by simp [HE.out]), HS.out]; first | rfl | simp)
       go_wp2_with (refine lookup8 rfl (.tmp 39) (.tmp 44) 110 rfl Tryz.underlying110 Tryz.underlying5 (Tryz.zeroValue80 _) w2.heap.size (ents g) 7 HM3.out rfl 110 rfl (some (0, .func (.func 64) #[.pointer (some ⟨g, 0, none⟩)] #[])) rfl ?_)
       refine (null_v wc wc g b H3.out.now trivial).mono ?_
       rintro E w4 ⟨v, rfl, hv, h4⟩
       obtain ⟨cs, rfl, hl8, ho8, hi8, hM⟩ := hv.of
       have HL8 := hi_ (And.intro hl8 (And.intro ho8 hi8))
       have HM8 := hi_ hM
       have HR4 := hi_ (h4.keep HR3.out HNE.out)
       have HK4 := hi_ h4.kp.size
       have H4 := hi_ (H3.out.trans h4)
       clear h4 hv hM hl8 ho8 hi8 c0 c2
       go_wp2_with (refine row_event rfl 28 (.tmp 2) (.tmp 51) rfl w1.heap.size _ rfl rfl 28 _ HR4.out HL8.out.2.2 HL8.out.1.symm HL8.out.2.1 ?_; intro w6 hr6 hk6)
       have h6 := H4.out.far hk6 HNE.out HLE.out
       exact bodyPost_ret (results_cell_row rfl _ _ w1.heap.size 28 _ (0, 0) _ rfl hr6 Tryz.underlying28 rfl HL8.out.2.2) rfl ⟨_, rfl, by rw [HF.out]; exact Jv.up HM8.out hk6 HWC.out (Nat.le_of_lt HWC.out), by rw [HF.out]; exact h6⟩
     skip
     by_cases k1 : c = 116
     · subst k1
       have HF : Hid (S.value ft fa fo a = (S28.mk 1 true z24 ⟨#[]⟩ [] [], b.need [116, 114, 117, 101])) := hi_ (by rw [HV.out]; unfold S.value1; rw [if_neg (by simp [HE.out]), HS.out]; first | rfl | simp)
       go_wp2_with (refine lookup8 rfl (.tmp 39) (.tmp 44) 110 rfl Tryz.underlying110 Tryz.underlying5 (Tryz.zeroValue80 _) w2.heap.size (ents g) 7 HM3.out rfl 116 rfl (some (1, .func (.func 65) #[.pointer (some ⟨g, 0, none⟩)] #[])) rfl ?_)
       refine (yes_v wc wc g b H3.out.now trivial).mono ?_
       rintro E w4 ⟨v, rfl, hv, h4⟩
       obtain ⟨cs, rfl, hl8, ho8, hi8, hM⟩ := hv.of
       have HL8 := hi_ (And.intro hl8 (And.intro ho8 hi8))
       have HM8 := hi_ hM
       have HR4 := hi_ (h4.keep HR3.out HNE.out)
       have HK4 := hi_ h4.kp.size
       have H4 := hi_ (H3.out.trans h4)
       clear h4 hv hM hl8 ho8 hi8 c0 c2
       go_wp2_with (refine row_event rfl 28 (.tmp 2) (.tmp 51) rfl w1.heap.size _ rfl rfl 28 _ HR4.out HL8.out.2.2 HL8.out.1.symm HL8.out.2.1 ?_; intro w6 hr6 hk6)
       have h6 := H4.out.far hk6 HNE.out HLE.out
       exact bodyPost_ret (results_cell_row rfl _ _ w1.heap.size 28 _ (0, 0) _ rfl hr6 Tryz.underlying28 rfl HL8.out.2.2) rfl ⟨_, rfl, by rw [HF.out]; exact Jv.up HM8.out hk6 HWC.out (Nat.le_of_lt HWC.out), by rw [HF.out]; exact h6⟩
     skip
     by_cases k2 : c = 102
     · subst k2
       have HF : Hid (S.value ft fa fo a = (S28.mk 1 false z24 ⟨#[]⟩ [] [], b.need [102, 97, 108, 115, 101])) := hi_ (by rw [HV.out]; unfold S.value1; rw [if_neg (by simp [HE.out]), HS.out]; first | rfl | simp)
       go_wp2_with (refine lookup8 rfl (.tmp 39) (.tmp 44) 110 rfl Tryz.underlying110 Tryz.underlying5 (Tryz.zeroValue80 _) w2.heap.size (ents g) 7 HM3.out rfl 102 rfl (some (2, .func (.func 66) #[.pointer (some ⟨g, 0, none⟩)] #[])) rfl ?_)
       refine (no_v wc wc g b H3.out.now trivial).mono ?_
       rintro E w4 ⟨v, rfl, hv, h4⟩
       obtain ⟨cs, rfl, hl8, ho8, hi8, hM⟩ := hv.of
       have HL8 := hi_ (And.intro hl8 (And.intro ho8 hi8))
       have HM8 := hi_ hM
       have HR4 := hi_ (h4.keep HR3.out HNE.out)
       have HK4 := hi_ h4.kp.size
       have H4 := hi_ (H3.out.trans h4)
       clear h4 hv hM hl8 ho8 hi8 c0 c2
       go_wp2_with (refine row_event rfl 28 (.tmp 2) (.tmp 51) rfl w1.heap.size _ rfl rfl 28 _ HR4.out HL8.out.2.2 HL8.out.1.symm HL8.out.2.1 ?_; intro w6 hr6 hk6)
       have h6 := H4.out.far hk6 HNE.out HLE.out
       exact bodyPost_ret (results_cell_row rfl _ _ w1.heap.size 28 _ (0, 0) _ rfl hr6 Tryz.underlying28 rfl HL8.out.2.2) rfl ⟨_, rfl, by rw [HF.out]; exact Jv.up HM8.out hk6 HWC.out (Nat.le_of_lt HWC.out), by rw [HF.out]; exact h6⟩
     skip
     by_cases k3 : c = 34
     · subst k3
       have HF : Hid (S.value ft fa fo a = ft b) := hi_ (by rw [HV.out]; unfold S.value1; rw [if_neg (by simp [HE.out]), HS.out]; first | rfl | simp)
       go_wp2_with (refine lookup8 rfl (.tmp 39) (.tmp 44) 110 rfl Tryz.underlying110 Tryz.underlying5 (Tryz.zeroValue80 _) w2.heap.size (ents g) 7 HM3.out rfl 34 rfl (some (3, .func (.func 67) #[.pointer (some ⟨g, 0, none⟩)] #[])) rfl ?_)
       refine (HTX.out.1 wc wc g b H3.out.now ((HOK.out.2 HE.out).1 (by rw [HS.out]; rfl))).mono ?_
       rintro E w4 ⟨v, rfl, hv, h4⟩
       obtain ⟨cs, rfl, hl8, ho8, hi8, hM⟩ := hv.of
       have HL8 := hi_ (And.intro hl8 (And.intro ho8 hi8))
       have HM8 := hi_ hM
       have HR4 := hi_ (h4.keep HR3.out HNE.out)
       have HK4 := hi_ h4.kp.size
       have H4 := hi_ (H3.out.trans h4)
       clear h4 hv hM hl8 ho8 hi8 c0 c2
       go_wp2_with (refine row_event rfl 28 (.tmp 2) (.tmp 51) rfl w1.heap.size _ rfl rfl 28 _ HR4.out HL8.out.2.2 HL8.out.1.symm HL8.out.2.1 ?_; intro w6 hr6 hk6)
       have h6 := H4.out.far hk6 HNE.out HLE.out
       exact bodyPost_ret (results_cell_row rfl _ _ w1.heap.size 28 _ (0, 0) _ rfl hr6 Tryz.underlying28 rfl HL8.out.2.2) rfl ⟨_, rfl, by rw [HF.out]; exact Jv.up HM8.out hk6 HWC.out (Nat.le_of_lt HWC.out), by rw [HF.out]; exact h6⟩
     skip
     by_cases k4 : c = 91
     · subst k4
       have HF : Hid (S.value ft fa fo a = fa b) := hi_ (by rw [HV.out]; unfold S.value1; rw [if_neg (by simp [HE.out]), HS.out]; first | rfl | simp)
       go_wp2_with (refine lookup8 rfl (.tmp 39) (.tmp 44) 110 rfl Tryz.underlying110 Tryz.underlying5 (Tryz.zeroValue80 _) w2.heap.size (ents g) 7 HM3.out rfl 91 rfl (some (4, .func (.func 68) #[.pointer (some ⟨g, 0, none⟩)] #[])) rfl ?_)
       refine (HTX.out.2.1 wc wc g b H3.out.now ((HOK.out.2 HE.out).2.1 (by rw [HS.out]; rfl))).mono ?_
       rintro E w4 ⟨v, rfl, hv, h4⟩
       obtain ⟨cs, rfl, hl8, ho8, hi8, hM⟩ := hv.of
       have HL8 := hi_ (And.intro hl8 (And.intro ho8 hi8))
       have HM8 := hi_ hM
       have HR4 := hi_ (h4.keep HR3.out HNE.out)
       have HK4 := hi_ h4.kp.size
       have H4 := hi_ (H3.out.trans h4)
       clear h4 hv hM hl8 ho8 hi8 c0 c2
       go_wp2_with (refine row_event rfl 28 (.tmp 2) (.tmp 51) rfl w1.heap.size _ rfl rfl 28 _ HR4.out HL8.out.2.2 HL8.out.1.symm HL8.out.2.1 ?_; intro w6 hr6 hk6)
       have h6 := H4.out.far hk6 HNE.out HLE.out
       exact bodyPost_ret (results_cell_row rfl _ _ w1.heap.size 28 _ (0, 0) _ rfl hr6 Tryz.underlying28 rfl HL8.out.2.2) rfl ⟨_, rfl, by rw [HF.out]; exact Jv.up HM8.out hk6 HWC.out (Nat.le_of_lt HWC.out), by rw [HF.out]; exact h6⟩
     skip
     by_cases k5 : c = 123
     · subst k5
       have HF : Hid (S.value ft fa fo a = fo b) := hi_ (by rw [HV.out]; unfold S.value1; rw [if_neg (by simp [HE.out]), HS.out]; first | rfl | simp)
       go_wp2_with (refine lookup8 rfl (.tmp 39) (.tmp 44) 110 rfl Tryz.underlying110 Tryz.underlying5 (Tryz.zeroValue80 _) w2.heap.size (ents g) 7 HM3.out rfl 123 rfl (some (5, .func (.func 69) #[.pointer (some ⟨g, 0, none⟩)] #[])) rfl ?_)
       refine (HTX.out.2.2 wc wc g b H3.out.now ((HOK.out.2 HE.out).2.2 (by rw [HS.out]; rfl))).mono ?_
       rintro E w4 ⟨v, rfl, hv, h4⟩
       obtain ⟨cs, rfl, hl8, ho8, hi8, hM⟩ := hv.of
       have HL8 := hi_ (And.intro hl8 (And.intro ho8 hi8))
       have HM8 := hi_ hM
       have HR4 := hi_ (h4.keep HR3.out HNE.out)
       have HK4 := hi_ h4.kp.size
       have H4 := hi_ (H3.out.trans h4)
       clear h4 hv hM hl8 ho8 hi8 c0 c2
       go_wp2_with (refine row_event rfl 28 (.tmp 2) (.tmp 51) rfl w1.heap.size _ rfl rfl 28 _ HR4.out HL8.out.2.2 HL8.out.1.symm HL8.out.2.1 ?_; intro w6 hr6 hk6)
       have h6 := H4.out.far hk6 HNE.out HLE.out
       exact bodyPost_ret (results_cell_row rfl _ _ w1.heap.size 28 _ (0, 0) _ rfl hr6 Tryz.underlying28 rfl HL8.out.2.2) rfl ⟨_, rfl, by rw [HF.out]; exact Jv.up HM8.out hk6 HWC.out (Nat.le_of_lt HWC.out), by rw [HF.out]; exact h6⟩
     skip
     by_cases k6 : c = 45
     · subst k6
       have HF : Hid (S.value ft fa fo a = (b.numV, b.numS)) := hi_ (by rw [HV.out]; unfold S.value1; rw [if_neg (by simp [HE.out]), HS.out]; first | rfl | simp)
       go_wp2_with (refine lookup8 rfl (.tmp 39) (.tmp 44) 110 rfl Tryz.underlying110 Tryz.underlying5 (Tryz.zeroValue80 _) w2.heap.size (ents g) 7 HM3.out rfl 45 rfl (some (6, .func (.func 70) #[.pointer (some ⟨g, 0, none⟩)] #[])) rfl ?_)
       refine (number_v wc wc g b H3.out.now HLEN.out).mono ?_
       rintro E w4 ⟨v, rfl, hv, h4⟩
       obtain ⟨cs, rfl, hl8, ho8, hi8, hM⟩ := hv.of
       have HL8 := hi_ (And.intro hl8 (And.intro ho8 hi8))
       have HM8 := hi_ hM
       have HR4 := hi_ (h4.keep HR3.out HNE.out)
       have HK4 := hi_ h4.kp.size
       have H4 := hi_ (H3.out.trans h4)
       clear h4 hv hM hl8 ho8 hi8 c0 c2
       go_wp2_with (refine row_event rfl 28 (.tmp 2) (.tmp 51) rfl w1.heap.size _ rfl rfl 28 _ HR4.out HL8.out.2.2 HL8.out.1.symm HL8.out.2.1 ?_; intro w6 hr6 hk6)
       have h6 := H4.out.far hk6 HNE.out HLE.out
       exact bodyPost_ret (results_cell_row rfl _ _ w1.heap.size 28 _ (0, 0) _ rfl hr6 Tryz.underlying28 rfl HL8.out.2.2) rfl ⟨_, rfl, by rw [HF.out]; exact Jv.up HM8.out hk6 HWC.out (Nat.le_of_lt HWC.out), by rw [HF.out]; exact h6⟩
     have HNO := hi_ (ents_none g c k0 k1 k2 k3 k4 k5 k6)
     by_cases kd : 48 ≤ c ∧ c ≤ 57
     · have HF : Hid (S.value ft fa fo a = (b.numV, b.numS)) := hi_ (by rw [HV.out]; unfold S.value1; rw [if_neg (by simp [HE.out]), HS.out]; simp only [k0, k1, k2, k3, k4, k5, k6, kd, if_false, false_or, true_and, and_self, if_true])
       have d1 : (48 : Int) ≤ (((ofL (c :: t))[0]'hsz1).toNat : Int) := by have := UInt8.le_iff_toNat_le.1 kd.1; show (48 : Int) ≤ (c.toNat : Int); simp at this; omega
       have d2 : (((ofL (c :: t))[0]'hsz1).toNat : Int) ≤ 57 := by have := UInt8.le_iff_toNat_le.1 kd.2; show (c.toNat : Int) ≤ 57; simp at this; omega
       clear k0 k1 k2 k3 k4 k5 k6 kd
       go_wp2_with (first | (refine lookup8 rfl (.tmp 39) (.tmp 44) 110 rfl Tryz.underlying110 Tryz.underlying5 (Tryz.zeroValue80 _) w2.heap.size (ents g) 7 HM3.out rfl (c.toNat : Int) rfl none HNO.out ?_))
       refine (number_v wc wc g b H3.out.now HLEN.out).mono ?_
       rintro E w4 ⟨v, rfl, hv, h4⟩
       obtain ⟨cs, rfl, hl8, ho8, hi8, hM⟩ := hv.of
       have HL8 := hi_ (And.intro hl8 (And.intro ho8 hi8))
       have HM8 := hi_ hM
       have HR4 := hi_ (h4.keep HR3.out HNE.out)
       have HK4 := hi_ h4.kp.size
       have H4 := hi_ (H3.out.trans h4)
       clear h4 hv hM hl8 ho8 hi8 c0 c2
       go_wp2_with (refine row_event rfl 28 (.tmp 2) (.tmp 68) rfl w1.heap.size _ rfl rfl 28 _ HR4.out HL8.out.2.2 HL8.out.1.symm HL8.out.2.1 ?_; intro w6 hr6 hk6)
       have h6 := H4.out.far hk6 HNE.out HLE.out
       exact bodyPost_ret (results_cell_row rfl _ _ w1.heap.size 28 _ (0, 0) _ rfl hr6 Tryz.underlying28 rfl HL8.out.2.2) rfl ⟨_, rfl, by rw [HF.out]; exact Jv.up HM8.out hk6 HWC.out (Nat.le_of_lt HWC.out), by rw [HF.out]; exact h6⟩
     have HF : Hid (S.value ft fa fo a = (z28, b.fail 11)) := hi_ (by rw [HV.out]; unfold S.value1; rw [if_neg (by simp [HE.out]), HS.out]; simp only [k0, k1, k2, k3, k4, k5, k6, kd, if_false, false_or])
     by_cases kl : c < 48
     · have d1 : (((ofL (c :: t))[0]'hsz1).toNat : Int) < 48 := by have := UInt8.lt_iff_toNat_lt.1 kl; show (c.toNat : Int) < 48; simp at this; omega
       clear k0 k1 k2 k3 k4 k5 k6 kd kl
       go_wp2_with (first | (refine lookup8 rfl (.tmp 39) (.tmp 44) 110 rfl Tryz.underlying110 Tryz.underlying5 (Tryz.zeroValue80 _) w2.heap.size (ents g) 7 HM3.out rfl (c.toNat : Int) rfl none HNO.out ?_))
       refine (fail_calls H3.out.now 11).mono ?_
       rintro E w4 ⟨rfl, h4⟩
       have H4 := hi_ (H3.out.trans h4)
       have HR4 := hi_ (h4.keep HR3.out HNE.out)
       clear h4 c0 c2 hsz
       go_wp2_with (refine row_event rfl 28 (.tmp 2) (.tmp 71) rfl w1.heap.size _ rfl rfl 28 _ HR4.out (by kernel_rfl) rfl rfl ?_; intro w6 hr6 hk6)
       have h6 := H4.out.far hk6 HNE.out HLE.out
       exact bodyPost_ret (results_cell_row rfl _ _ w1.heap.size 28 _ (0, 0) _ rfl hr6 Tryz.underlying28 rfl (by kernel_rfl)) rfl ⟨_, rfl, by rw [HF.out]; exact Jv.flat w6 _ z28 rfl rfl, by rw [HF.out]; exact h6⟩
     · have d1 : (57 : Int) < (((ofL (c :: t))[0]'hsz1).toNat : Int) := by
         have h1 : ¬ c.toNat < 48 := fun h => kl (UInt8.lt_iff_toNat_lt.2 (by simpa using h))
         have h2 : ¬ c.toNat ≤ 57 := fun h => kd ⟨UInt8.le_iff_toNat_le.2 (by simp; omega), UInt8.le_iff_toNat_le.2 (by simpa using h)⟩
         show (57 : Int) < (c.toNat : Int); omega
       clear k0 k1 k2 k3 k4 k5 k6 kd kl
       go_wp2_with (first | (refine lookup8 rfl (.tmp 39) (.tmp 44) 110 rfl Tryz.underlying110 Tryz.underlying5 (Tryz.zeroValue80 _) w2.heap.size (ents g) 7 HM3.out rfl (c.toNat : Int) rfl none HNO.out ?_))
       refine (fail_calls H3.out.now 11).mono ?_
       rintro E w4 ⟨rfl, h4⟩
       have H4 := hi_ (H3.out.trans h4)
       have HR4 := hi_ (h4.keep HR3.out HNE.out)
       clear h4 c0 c2 hsz
       go_wp2_with (refine row_event rfl 28 (.tmp 2) (.tmp 71) rfl w1.heap.size _ rfl rfl 28 _ HR4.out (by kernel_rfl) rfl rfl ?_; intro w6 hr6 hk6)
       have h6 := H4.out.far hk6 HNE.out HLE.out
       exact bodyPost_ret (results_cell_row rfl _ _ w1.heap.size 28 _ (0, 0) _ rfl hr6 Tryz.underlying28 rfl (by kernel_rfl)) rfl ⟨_, rfl, by rw [HF.out]; exact Jv.flat w6 _ z28 rfl rfl, by rw [HF.out]; exact h6⟩
  have e1 : (b.e != 0) = true := by simp [he]
  have HF : Hid (S.value ft fa fo a = (z28, b)) := hi_ (by rw [HV.out]; unfold S.value1; rw [if_pos he])
  clear he HV
  go_wp2_with (refine row_event rfl 28 (.tmp 2) (.tmp 29) rfl w1.heap.size _ rfl rfl 28 _ HR3.out (by kernel_rfl) rfl rfl ?_; intro w6 hr6 hk6)
  have h6 := H3.out.far hk6 HNE.out HLE.out
  exact bodyPost_ret (results_cell_row rfl _ _ w1.heap.size 28 _ (0, 0) _ rfl hr6 Tryz.underlying28 rfl (by kernel_rfl)) rfl ⟨_, rfl, by rw [HF.out]; exact Jv.flat w6 _ z28 rfl rfl, by rw [HF.out]; exact h6⟩
def S.ended (b : S) : S := if b.skip.s = [] then b.skip else b.skip.fail 11
def parseV (fv : S → S28 × S) (s : List UInt8) : S28 × Int :=
 if 4096 < s.length then (z28, 13) else
 if (fv ⟨s, 0, 0⟩).2.ended.e = 0 then ((fv ⟨s, 0, 0⟩).1, 0) else (z28, (fv ⟨s, 0, 0⟩).2.ended.e)
theorem KeptM.far {w w' : World} {base b : Nat} {cs : List Value} {x : S28} (h : k28.M w base (fun _ => True) x cs) (k : w.grownBy w' (some b)) (hb : b < base ∨ w.heap.size ≤ b) : k28.M w' base (fun _ => True) x cs :=
 k28.M_mono (fun _ _ => trivial) (Kd.M_grown (k28.M_bound h) k (fun i hi e => by have := hi.2.1; have := hi.2.2.1; injection e with e; omega))
set_option maxRecDepth 100000 in
set_option maxHeartbeats 8000000 in
theorem parse_calls (fv : S → S28 × S) (ok : S → Prop) (HV : VCalls 34 ok fv) (s : List UInt8) (w : World) (hT : Tabs w) (hok : s.length ≤ 4096 → ok ⟨s, 0, 0⟩) :
    Calls Tryz.prog 16 #[.string (ofL s)] w fun E w' => ∃ v, E = .returned (.tuple #[v, .int .i64 (parseV fv s).2]) ∧ Jv w' w.heap.size v (parseV fv s).1 ∧ Below w.heap.size w w' := by
 have HVX := hi_ HV
 have HTB := hi_ hT
 clear hT
 have HOK := hi_ hok
 clear HV hok
 have hi28 : (Tryz.prog.info? 28).map (·.size) = some 8 := by kernel_rfl
 have HI := hi_ hi28
 clear hi28
 by_cases hl : 4096 < s.length
 · have hsz : (4096 : Int) < ((ofL s).size : Int) := by rw [ofL_size]; omega
   have HF : Hid (parseV fv s = (z28, 13)) := hi_ (by unfold parseV; rw [if_pos hl])
   clear hl
   go_enter Tryz.func16, Tryz.ntmps16
   go_wp2_with (refine row_event rfl 28 (.tmp 2) (.tmp 9) rfl w.heap.size _ rfl rfl 28 _ (blk_new w _) (by kernel_rfl) rfl rfl ?_; intro w6 hr6 hk6)
   refine bodyPost_ret (results_list (rs := [.cell 2 28, .tmp 3]) rfl (by simp) (.cell w.heap.size 28 _ (0, 0) _ rfl hr6 Tryz.underlying28 rfl (by kernel_rfl) (.tmp .nil))) rfl ?_
   rw [HF.out]
   exact ⟨_, rfl, Jv.flat w6 _ z28 rfl rfl, ((Below.refl _ _).alloc (Nat.le_refl _) _).grown hk6 (by simp) (fun k e => Nat.le_of_eq (Option.some.inj e))⟩
 · have hsz : ((ofL s).size : Int) ≤ 4096 := by rw [ofL_size]; omega
   have HL := hi_ hl
   clear hl
   go_enter Tryz.func16, Tryz.ntmps16
   have hR0 : ∀ o, Rd ((w.alloc o).alloc (.cells #[.string (ofL s), .int .i64 0, .int .i64 0] 79)) ((w.alloc o).alloc (.cells #[.string (ofL s), .int .i64 0, .int .i64 0] 79)) (w.heap.size + 1) ⟨s, 0, 0⟩ :=
    fun o => ⟨by have := blk_new (w.alloc o) (.cells #[.string (ofL s), .int .i64 0, .int .i64 0] 79); simpa using this, grown_refl _ _, by simp, ⟨w, HTB.out, ((Below.refl _ _).alloc (Nat.le_refl _) _).alloc (by simp) _, by omega⟩⟩
   have HR0 := hi_ hR0
   clear hR0
   obtain ⟨x, b, hxb⟩ : ∃ x b, (x, b) = fv ⟨s, 0, 0⟩ := ⟨_, _, rfl⟩
   have HXB := hi_ hxb
   have HF : Hid (parseV fv s = if b.ended.e = 0 then (x, 0) else (z28, b.ended.e)) := hi_ (by unfold parseV; rw [if_neg HL.out, ← hxb])
   clear hxb
   go_wp2_with fail
   refine (HVX.out _ _ (w.heap.size + 1) ⟨s, 0, 0⟩ (HR0.out _) (HOK.out (by have := HL.out; omega))).mono ?_
   rintro E w4 ⟨v, rfl, hv, h4⟩
   rw [← HXB.out] at hv h4
   obtain ⟨cs, rfl, hl8, ho8, hi8, hM⟩ := hv.of
   have HL8 := hi_ (And.intro hl8 (And.intro ho8 hi8))
   have hsz4 : w.heap.size + 2 ≤ w4.heap.size := by have := h4.kp.size; simp at this; omega
   have hW0 : ∀ o p, Below w.heap.size w ((w.alloc o).alloc p) := fun o p => ((Below.refl _ _).alloc (Nat.le_refl _) _).alloc (by simp) _
   have HR4 := hi_ (h4.keep (k := w.heap.size) ((((Below.refl (w.alloc (.cells #[.int .i64 0, .bool false, .bool false, .string ⟨#[]⟩, .int .i64 0, .string ⟨#[]⟩, .slice none 0 0, .slice none 0 0] 28)).heap.size _).alloc (Nat.le_refl _) _).block w.heap.size (by simp)).trans (blk_new w _)) (by omega))
   have HB4 : Hid (Below w.heap.size w w4) := hi_ ((hW0 _ _).grown h4.kp (by simp; omega) (fun k e => by injection e with e; omega))
   have HM4 := hi_ hM
   have H4 := hi_ h4.now
   have HS4 := hi_ hsz4
   clear hv h4 hM hl8 ho8 hi8 hW0 hsz4 hsz
   go_wp2_with (refine row_event rfl 28 (.tmp 5) (.tmp 14) rfl w4.heap.size cs.toArray rfl rfl 28 _ (blk_new w4 _) HL8.out.2.2 HL8.out.1.symm HL8.out.2.1 ?_; intro w5 hr5 hk5)
   have hal := (Below.refl w4.heap.size w4).alloc (Nat.le_refl _) (.cells #[.int .i64 0, .bool false, .bool false, .string ⟨#[]⟩, .int .i64 0, .string ⟨#[]⟩, .slice none 0 0, .slice none 0 0] 28)
   have hB45 : Below w4.heap.size w4 w5 := hal.grown hk5 (by simp) (fun k e => Nat.le_of_eq (Option.some.inj e))
   have H5 := hi_ ((H4.out.below hB45).now)
   have HR5 := hi_ ((hB45.block _ (by have := HS4.out; omega)).trans HR4.out)
   have HV5 := hi_ hr5
   have HM5 := hi_ (k28.M_mono (fun _ _ => trivial) (Kd.M_below HM4.out hB45))
   have HB5 := hi_ (HB4.out.trans (hB45.mono (by have := HS4.out; omega)))
   have HS5 : Hid (w4.heap.size < w5.heap.size) := hi_ (Nat.lt_of_lt_of_le (by simp) hk5.size)
   clear hal hB45 hr5 hk5
   go_wp2_with fail
   refine (skip_calls H5.out).mono ?_
   rintro E w6 ⟨rfl, h6⟩
   have HR := hi_ (h6.keep HR5.out (by omega))
   have HV := hi_ (h6.keep HV5.out (by have := HS4.out; omega))
   have HM := hi_ (KeptM.far HM5.out h6.kp (by left; simp))
   have HB := hi_ (HB5.out.grown h6.kp HB5.out.size (fun k e => by injection e with e; omega))
   have H := hi_ h6.now
   clear h6
   have c0 := H.out.c0
   by_cases hs : b.skip.s = []
   · have HE : Hid (b.skip = b.ended) := hi_ (by unfold S.ended; rw [if_pos hs])
     have q0 : (ofL b.skip.s).toList.isEmpty = true := by rw [hs, ofL_toList]; rfl
     clear hs
     rw [HE.out] at H
     have c2 := H.out.c2
     by_cases he : b.ended.e = 0
     · have e1 : (b.ended.e != 0) = false := by simp [he]
       have HG : Hid (parseV fv s = (x, 0)) := hi_ (by rw [HF.out, if_pos he])
       clear he
       go_wp2_with (first | (refine wpList_load_row rfl 28 (.tmp 5) rfl w4.heap.size rfl 28 cs.toArray (0, 0) _ HV.out Tryz.underlying28 rfl HL8.out.2.2 ?_) | (refine row_event rfl 28 (.tmp 2) (.tmp 34) rfl w.heap.size cs.toArray rfl rfl 28 _ HR.out HL8.out.2.2 HL8.out.1.symm HL8.out.2.1 ?_; intro w9 hr9 hk9))
       refine bodyPost_ret (results_list (rs := [.cell 2 28, .tmp 3]) rfl (by simp) (.cell w.heap.size 28 _ (0, 0) _ rfl hr9 Tryz.underlying28 rfl HL8.out.2.2 (.tmp .nil))) rfl ?_
       rw [HG.out]
       exact ⟨_, rfl, Jv.up HM.out hk9 (by simp; omega) (by simp; omega), HB.out.grown hk9 HB.out.size (fun k e => Nat.le_of_eq (Option.some.inj e))⟩
     have e1 : (b.ended.e != 0) = true := by simp [he]
     have HG : Hid (parseV fv s = (z28, b.ended.e)) := hi_ (by rw [HF.out, if_neg he])
     clear he
     go_wp2_with fail
     have r0 : w6.cell? ⟨w.heap.size, 0, none⟩ = some (.int .i64 0) := (blk_cell HR.out 0).trans rfl
     have r1 : w6.cell? ⟨w.heap.size, 1, none⟩ = some (.bool false) := (blk_cell HR.out 1).trans rfl
     have r2 : w6.cell? ⟨w.heap.size, 2, none⟩ = some (.bool false) := (blk_cell HR.out 2).trans rfl
     have r3 : w6.cell? ⟨w.heap.size, 3, none⟩ = some (.string ⟨#[]⟩) := (blk_cell HR.out 3).trans rfl
     have r4 : w6.cell? ⟨w.heap.size, 4, none⟩ = some (.int .i64 0) := (blk_cell HR.out 4).trans rfl
     have r5 : w6.cell? ⟨w.heap.size, 5, none⟩ = some (.string ⟨#[]⟩) := (blk_cell HR.out 5).trans rfl
     have r6 : w6.cell? ⟨w.heap.size, 6, none⟩ = some (.slice none 0 0) := (blk_cell HR.out 6).trans rfl
     have r7 : w6.cell? ⟨w.heap.size, 7, none⟩ = some (.slice none 0 0) := (blk_cell HR.out 7).trans rfl
     have f0 := blk_frozen HR.out 0
     have f1 := blk_frozen HR.out 1
     have f2 := blk_frozen HR.out 2
     have f3 := blk_frozen HR.out 3
     have f4 := blk_frozen HR.out 4
     have f5 := blk_frozen HR.out 5
     have f6 := blk_frozen HR.out 6
     have f7 := blk_frozen HR.out 7
     go_region
     have hr9 := blk_drew (blk_put (blk_put (blk_put (blk_put (blk_put (blk_put (blk_put (blk_put HR.out 0 (.int .i64 0) rfl) 1 (.bool false) rfl) 2 (.bool false) rfl) 3 (.string ⟨#[]⟩) rfl) 4 (.int .i64 0) rfl) 5 (.string ⟨#[]⟩) rfl) 6 (.slice none 0 0) rfl) 7 (.slice none 0 0) rfl)
     have hb9 := Below.drew (Below.setCell (Below.setCell (Below.setCell (Below.setCell (Below.setCell (Below.setCell (Below.setCell (Below.setCell HB.out (p := ⟨w.heap.size, 0, none⟩) (Nat.le_refl _) (.int .i64 0)) (p := ⟨w.heap.size, 1, none⟩) (Nat.le_refl _) (.bool false)) (p := ⟨w.heap.size, 2, none⟩) (Nat.le_refl _) (.bool false)) (p := ⟨w.heap.size, 3, none⟩) (Nat.le_refl _) (.string ⟨#[]⟩)) (p := ⟨w.heap.size, 4, none⟩) (Nat.le_refl _) (.int .i64 0)) (p := ⟨w.heap.size, 5, none⟩) (Nat.le_refl _) (.string ⟨#[]⟩)) (p := ⟨w.heap.size, 6, none⟩) (Nat.le_refl _) (.slice none 0 0)) (p := ⟨w.heap.size, 7, none⟩) (Nat.le_refl _) (.slice none 0 0))
     clear r0 r1 r2 r3 r4 r5 r6 r7 f0 f1 f2 f3 f4 f5 f6 f7
     go_wp2
     refine bodyPost_ret (results_list (rs := [.cell 2 28, .tmp 3]) rfl (by simp) (.cell w.heap.size 28 _ (0, 0) _ rfl hr9 Tryz.underlying28 rfl (by kernel_rfl) (.tmp .nil))) rfl ?_
     rw [HG.out]
     exact ⟨_, rfl, Jv.flat _ _ z28 rfl rfl, hb9⟩
   have HE : Hid (b.skip.fail 11 = b.ended) := hi_ (by unfold S.ended; rw [if_neg hs])
   have q0 : (ofL b.skip.s).toList.isEmpty = false := by rw [ofL_toList]; cases h : b.skip.s with | nil => exact absurd h hs | cons c t => rfl
   clear hs
   go_wp2_with fail
   refine (fail_calls H.out 11).mono ?_
   rintro E w7 ⟨rfl, h7⟩
   rw [HE.out] at h7
   have HR6 := HR
   have HV6 := HV
   have HM6 := HM
   have HB6 := HB
   clear c0 q0 HR HV HM HB H
   have HR := hi_ (h7.keep HR6.out (by omega))
   have HV := hi_ (h7.keep HV6.out (by have := HS4.out; omega))
   have HM := hi_ (KeptM.far HM6.out h7.kp (by left; simp))
   have HB := hi_ (HB6.out.grown h7.kp HB6.out.size (fun k e => by injection e with e; omega))
   have H := hi_ h7.now
   clear h7
   have c2 := H.out.c2
   by_cases he : b.ended.e = 0
   · have e1 : (b.ended.e != 0) = false := by simp [he]
     have HG : Hid (parseV fv s = (x, 0)) := hi_ (by rw [HF.out, if_pos he])
     clear he
     go_wp2_with (first | (refine wpList_load_row rfl 28 (.tmp 5) rfl w4.heap.size rfl 28 cs.toArray (0, 0) _ HV.out Tryz.underlying28 rfl HL8.out.2.2 ?_) | (refine row_event rfl 28 (.tmp 2) (.tmp 34) rfl w.heap.size cs.toArray rfl rfl 28 _ HR.out HL8.out.2.2 HL8.out.1.symm HL8.out.2.1 ?_; intro w9 hr9 hk9))
     refine bodyPost_ret (results_list (rs := [.cell 2 28, .tmp 3]) rfl (by simp) (.cell w.heap.size 28 _ (0, 0) _ rfl hr9 Tryz.underlying28 rfl HL8.out.2.2 (.tmp .nil))) rfl ?_
     rw [HG.out]
     exact ⟨_, rfl, Jv.up HM.out hk9 (by simp; omega) (by simp; omega), HB.out.grown hk9 HB.out.size (fun k e => Nat.le_of_eq (Option.some.inj e))⟩
   have e1 : (b.ended.e != 0) = true := by simp [he]
   have HG : Hid (parseV fv s = (z28, b.ended.e)) := hi_ (by rw [HF.out, if_neg he])
   clear he
   go_wp2_with fail
   have r0 : w7.cell? ⟨w.heap.size, 0, none⟩ = some (.int .i64 0) := (blk_cell HR.out 0).trans rfl
   have r1 : w7.cell? ⟨w.heap.size, 1, none⟩ = some (.bool false) := (blk_cell HR.out 1).trans rfl
   have r2 : w7.cell? ⟨w.heap.size, 2, none⟩ = some (.bool false) := (blk_cell HR.out 2).trans rfl
   have r3 : w7.cell? ⟨w.heap.size, 3, none⟩ = some (.string ⟨#[]⟩) := (blk_cell HR.out 3).trans rfl
   have r4 : w7.cell? ⟨w.heap.size, 4, none⟩ = some (.int .i64 0) := (blk_cell HR.out 4).trans rfl
   have r5 : w7.cell? ⟨w.heap.size, 5, none⟩ = some (.string ⟨#[]⟩) := (blk_cell HR.out 5).trans rfl
   have r6 : w7.cell? ⟨w.heap.size, 6, none⟩ = some (.slice none 0 0) := (blk_cell HR.out 6).trans rfl
   have r7 : w7.cell? ⟨w.heap.size, 7, none⟩ = some (.slice none 0 0) := (blk_cell HR.out 7).trans rfl
   have f0 := blk_frozen HR.out 0
   have f1 := blk_frozen HR.out 1
   have f2 := blk_frozen HR.out 2
   have f3 := blk_frozen HR.out 3
   have f4 := blk_frozen HR.out 4
   have f5 := blk_frozen HR.out 5
   have f6 := blk_frozen HR.out 6
   have f7 := blk_frozen HR.out 7
   go_region
   have hr9 := blk_drew (blk_put (blk_put (blk_put (blk_put (blk_put (blk_put (blk_put (blk_put HR.out 0 (.int .i64 0) rfl) 1 (.bool false) rfl) 2 (.bool false) rfl) 3 (.string ⟨#[]⟩) rfl) 4 (.int .i64 0) rfl) 5 (.string ⟨#[]⟩) rfl) 6 (.slice none 0 0) rfl) 7 (.slice none 0 0) rfl)
   have hb9 := Below.drew (Below.setCell (Below.setCell (Below.setCell (Below.setCell (Below.setCell (Below.setCell (Below.setCell (Below.setCell HB.out (p := ⟨w.heap.size, 0, none⟩) (Nat.le_refl _) (.int .i64 0)) (p := ⟨w.heap.size, 1, none⟩) (Nat.le_refl _) (.bool false)) (p := ⟨w.heap.size, 2, none⟩) (Nat.le_refl _) (.bool false)) (p := ⟨w.heap.size, 3, none⟩) (Nat.le_refl _) (.string ⟨#[]⟩)) (p := ⟨w.heap.size, 4, none⟩) (Nat.le_refl _) (.int .i64 0)) (p := ⟨w.heap.size, 5, none⟩) (Nat.le_refl _) (.string ⟨#[]⟩)) (p := ⟨w.heap.size, 6, none⟩) (Nat.le_refl _) (.slice none 0 0)) (p := ⟨w.heap.size, 7, none⟩) (Nat.le_refl _) (.slice none 0 0))
   clear r0 r1 r2 r3 r4 r5 r6 r7 f0 f1 f2 f3 f4 f5 f6 f7
   go_wp2
   refine bodyPost_ret (results_list (rs := [.cell 2 28, .tmp 3]) rfl (by simp) (.cell w.heap.size 28 _ (0, 0) _ rfl hr9 Tryz.underlying28 rfl (by kernel_rfl) (.tmp .nil))) rfl ?_
   rw [HG.out]
   exact ⟨_, rfl, Jv.flat _ _ z28 rfl rfl, hb9⟩
def S.enter0 (a : S) : S := if a.o = 16 then a.fail 35 else a
def S.enter1 (b : S) : S := if b.e = 0 then { b with o := b.o + 1, s := b.s.tail } else { b with o := b.o + 1 }
def S.enter (a : S) : S := a.enter0.enter1
theorem enter1_tail (b : S) (h : b.e = 0) : b.enter1 = { b with o := b.o + 1, s := b.s.tail } := by unfold S.enter1; rw [if_pos h]
set_option maxRecDepth 100000 in
set_option maxHeartbeats 2000000 in
theorem enter_calls {w w1 : World} {g : Nat} {a : S} (h : Rd w w1 g a) (ho : 0 ≤ a.o ∧ a.o ≤ 100) (hs : a.s ≠ []) : Calls Tryz.prog 120 #[.pointer (some ⟨g, 0, none⟩)] w1 fun E w' => E = .returned (.tuple #[]) ∧ Rd w w' g a.enter := by
 obtain ⟨b, hb⟩ : ∃ b, a.enter0 = b := ⟨_, rfl⟩
 have hbs : b.s = a.s ∧ b.o = a.o := by rw [← hb]; unfold S.enter0; split <;> exact ⟨rfl, rfl⟩
 have HEN : Hid (a.enter = b.enter1) := hi_ (by unfold S.enter; rw [hb])
 have HB := hi_ hb
 have c1 := h.c1
 have H := hi_ h
 have HS := hi_ hs
 have HO := hi_ ho
 have HBS := hi_ hbs
 clear h hs ho hb hbs
 have hsz : 1 ≤ (ofL b.s).size := by rw [ofL_size, HBS.out.1]; cases h : a.s with | nil => exact absurd h HS.out | cons c t => simp
 have ho0 : 0 ≤ b.o := by rw [HBS.out.2]; exact HO.out.1
 have ho1 : b.o ≤ 100 := by rw [HBS.out.2]; exact HO.out.2
 have HX : Hid ((ofL b.s).extract 1 (ofL b.s).size = ofL b.s.tail) := hi_ (by
  rw [ofL_ext, ofL_size, List.take_length, List.drop_one])
 by_cases h16 : a.o = 16
 · have q : (a.o == 16) = true := by simp [h16]
   have HB2 : Hid (a.fail 35 = b) := hi_ (by rw [← HB.out]; unfold S.enter0; rw [if_pos h16])
   clear h16
   go_enter Tryz.func120, Tryz.ntmps120
   go_wp2_with fail
   refine (fail_calls H.out 35).mono ?_
   rintro E w2 ⟨rfl, h2⟩
   rw [HB2.out] at h2
   have H2 := hi_ h2
   clear h2 c1
   have c0 := H2.out.c0
   have c1 := H2.out.c1
   have c2 := H2.out.c2
   have f0 := H2.out.fz 0
   have f1 := H2.out.fz 1
   by_cases he : b.e = 0
   · have e1 : (b.e == 0) = true := by simp [he]
     have HT := hi_ (enter1_tail b he)
     clear he
     go_wp2
     go_end0
     refine ⟨rfl, ?_⟩
     rw [HEN.out, HT.out]
     rw [HX.out]
     exact (H2.out.s1 _).s0 _
   have e1 : (b.e == 0) = false := by simp [he]
   have HT : Hid (b.enter1 = { b with o := b.o + 1 }) := hi_ (by unfold S.enter1; rw [if_neg he])
   clear he
   go_wp2
   go_end0
   refine ⟨rfl, ?_⟩
   rw [HEN.out, HT.out]
   exact H2.out.s1 _
 have q : (a.o == 16) = false := by simp [h16]
 have hab : a = b := by rw [← HB.out]; unfold S.enter0; rw [if_neg h16]
 clear h16
 subst hab
 clear c1
 go_enter Tryz.func120, Tryz.ntmps120
 have c0 := H.out.c0
 have c1 := H.out.c1
 have c2 := H.out.c2
 have f0 := H.out.fz 0
 have f1 := H.out.fz 1
 by_cases he : a.e = 0
 · have e1 : (a.e == 0) = true := by simp [he]
   have HT := hi_ (enter1_tail a he)
   clear he
   go_wp2
   go_end0
   refine ⟨rfl, ?_⟩
   rw [HEN.out, HT.out]
   rw [HX.out]
   exact (H.out.s1 _).s0 _
 have e1 : (a.e == 0) = false := by simp [he]
 have HT : Hid (a.enter1 = { a with o := a.o + 1 }) := hi_ (by unfold S.enter1; rw [if_neg he])
 clear he
 go_wp2
 go_end0
 refine ⟨rfl, ?_⟩
 rw [HEN.out, HT.out]
 exact H.out.s1 _
theorem info28 : (Tryz.prog.info? 28).map (fun i => (i.zero, i.size, i.bytes)) = some (some (.agg zA), 8, 112) := by kernel_rfl
theorem zero_M (w : World) (base : Nat) : k28.M w base (fun _ => False) z28 zA.toList := k28_mkM w base _ z28 (Kd.R_nil _ _ _ _ _) (Kd.R_nil _ _ _ _ _)
theorem app_run {W : World} {base : Nat} {v : Value} {xs : List S28} (HO : k28.R 28 W base (fun _ => True) v xs) (b : Nat) (hb : W.heap[b]? = some (.cells zA 28 (0, 0))) (hbase : base ≤ W.heap.size) (hl : xs.length ≤ 1000000) :
    ∃ v1 w1, (Builtin.append_ #[25, 25] 25 #[v, .slice (some ⟨b, 0, none⟩) 1 1]).run Tryz.prog W = .ok v1 w1 ∧ k28.R 28 w1 base (fun _ => True) v1 (xs ++ [z28]) ∧ W.grownBy w1 v.ownBlock ∧ (v1.ownBlock = v.ownBlock ∨ v1.ownBlock = some W.heap.size) := by
 obtain ⟨i0, hi, hzz⟩ := Option.map_eq_some_iff.1 info28
 simp only [Prod.mk.injEq] at hzz
 obtain ⟨hz0, hz1, hz2⟩ := hzz
 obtain ⟨h0, inner, hown, hr⟩ := HO
 obtain ⟨v1, w1, hrun, hown1, hg, _, hat⟩ := run_append_own_at (P := Tryz.prog) W base 25 25 28 i0 (.agg zA) 8 112 Tryz.underlying25 hi hz0 hz1 hz2 rfl (by decide) v xs.length inner hown ⟨b, 0, none⟩ 1 1 zA.toList rfl
  (fun j u hu => by
   rw [show (⟨b, 0, none⟩ : Addr).add j = ⟨b, j, none⟩ by unfold Addr.add; split <;> simp_all, blk_cell hb]; simpa using hu)
  (fun u hu => by simp [zA] at hu; rcases hu with rfl | rfl | rfl | rfl | rfl | rfl | rfl <;> rfl)
  (by simp only [maxLen]; omega) (by omega) hbase
 exact ⟨v1, w1, hrun, Kd.R_appended (okp := fun _ => False) h0 hr (zero_M W base) (fun k h => h.elim) (fun _ _ => trivial) hown1 hg (hat.imp id (fun e => ⟨_, e, Nat.le_refl _⟩)), hg, hat⟩
theorem seg_run {W : World} {base : Nat} {okp : Nat → Prop} {v : Value} {xs : List S28} {x : S28} {cs : List Value} (HO : k28.R 28 W base (fun _ => True) v (xs ++ [z28])) (hM : k28.M W base okp x cs) (hokp : ∀ k, okp k → some k ≠ v.ownBlock) :
    ∃ g1 c1, v = .slice (some ⟨g1, 0, none⟩) (xs.length + 1) c1 ∧ base ≤ g1 ∧ (Instr.storeAt 28 (.pointer (some ⟨g1, xs.length * 8, none⟩)) (.agg cs.toArray)).run Tryz.prog W = .ok () (W.setCells g1 (xs.length * 8) cs) ∧
     k28.R 28 (W.setCells g1 (xs.length * 8) cs) base (fun _ => True) v (xs ++ [x]) ∧ W.grownBy (W.setCells g1 (xs.length * 8) cs) (some g1) := by
 have hlen : cs.length = 8 := k28.K_len (k28.K_of_M hM)
 have hone := k28.K_one (k28.K_of_M hM)
 obtain ⟨A, c, hv, hlc, hC⟩ := Kd.R_reads HO
 have hn : (xs ++ [z28]).length = xs.length + 1 := by simp
 rw [hn] at hv hlc hC
 obtain ⟨inner, hown⟩ := Kd.R_own HO
 rw [hn] at hown
 rcases hown.2 with ⟨h0, _⟩ | ⟨g1, cap, cur, hv1, hb, hh, hnc, hcm, hcs, htk⟩
 · rw [h0] at hv; injection hv with _ hv _; omega
 subst hv1
 obtain ⟨ad, cc, e, _, hK, hc0⟩ := Kd.C_get hC z28 xs.length (by omega) (by omega)
 injection hv with hA _ _
 rw [← hA] at e
 injection e with e
 subst e
 have hcl : cc.length = 8 := k28.K_len hK
 have hseg := Kd.R_seg (okp := okp) (seg := cs) (c := cc) (j := 0) (x' := x) HO (xs.length : Int) (by omega) (by omega) hcl
  (fun j u hu => by
   have := hc0 j u hu
   rw [show (⟨g1, 0, none⟩ : Addr).add (((xs.length : Int)).toNat * k28.sz + j) = ⟨g1, ((xs.length : Int)).toNat * k28.sz + j, none⟩ by unfold Addr.add; split <;> simp_all] at this
   exact this)
  (by rw [hlen]; exact Nat.le_refl _) (by rw [List.take_zero, List.nil_append, List.drop_eq_nil_of_le (by rw [hcl, hlen]; exact Nat.le_refl _), List.append_nil]; exact hM) (fun k hk => ⟨trivial, fun e => hokp k hk (by rw [e]; rfl)⟩)
 have e8 : (xs.length : Int).toNat * k28.sz + 0 = xs.length * 8 := by rw [Int.toNat_natCast]; rfl
 rw [e8] at hseg
 have eset : (xs ++ [z28]).set (xs.length : Int).toNat x = xs ++ [x] := by rw [Int.toNat_natCast, List.set_append_right _ _ (Nat.le_refl _), Nat.sub_self]; rfl
 rw [eset] at hseg
 refine ⟨g1, cap, rfl, hb, run_store_run 28 _ cs hh (by simp [Value.cells]) (by rw [hlen]; kernel_rfl) ?_ hone, hseg.1, hseg.2⟩
 rw [hlen, hcs]
 have : k28.sz = 8 := rfl
 rw [this]; omega
theorem exec_app {o : Oper} {a : Act} {W w1 : World} {s x : Operand} {v u v1 : Value} {t : TypeId} (ho : o.op = .call { callee := .builtin .append, args := #[s, x], argTypes := #[t, t] }) (hty : o.type = t) (hs : a.eval s = v) (hx : a.eval x = u)
    (hrun : (Builtin.append_ #[t, t] t #[v, u]).run Tryz.prog W = .ok v1 w1) : (execOp a.eval o).run Tryz.prog W = .ok (.value v1) w1 := by
 unfold execOp
 simp only [ho, resolve, invoke, builtin, Sem.run_bind, Sem.run_pure, Result.andThen_ok, List.map_toArray, List.map_cons, List.map_nil, hs, hx, hty, hrun]
theorem exec_store {o : Oper} {a : Act} {W w1 : World} {p x : Operand} {v u : Value} {t : TypeId} (ho : o.op = .store t p x) (hp : a.eval p = v) (hx : a.eval x = u) (hrun : (Instr.storeAt t v u).run Tryz.prog W = .ok () w1) :
    (execOp a.eval o).run Tryz.prog W = .ok .skip w1 := by
 unfold execOp
 simp only [ho, hp, hx, Sem.run_bind, Sem.run_pure, Result.andThen_ok, hrun]
theorem Rd.grow {w w1 w2 : World} {g : Nat} {row : Option Nat} {a : S} (h : Rd w w1 g a) (k : w1.grownBy w2 row) (hr : ∀ i, row = some i → i ≠ g ∧ w.heap.size ≤ i) : Rd w w2 g a :=
 ⟨(k.block g h.lt (fun e => (hr g e.symm).1 rfl)).trans h.cell, ⟨k.os.trans h.kp.os, k.tape.trans h.kp.tape, k.output.trans h.kp.output, Nat.le_trans h.kp.size k.size,
  fun i hi hne => (k.block i (Nat.lt_of_lt_of_le hi h.kp.size) (fun e => by have := (hr i e.symm).2; omega)).trans (h.kp.block i hi hne)⟩, h.gl, h.tb.grow k (fun i e => by have := (hr i e).2; have := h.gl; omega)⟩
section
variable {P : Program} {md : Region.Mode} {ops : Array Oper} {Q : Exit → Act → World → Prop} {S : World → Prop} {ds : List Nat}
theorem two_last {i j : Nat} {Ni Nj : Option Tmp} {oi oj : Oper} {fuel : Nat} {l : Array Bool} {a : Act} {w : World} (li lj : Array Bool) (hi : ops[i]? = some oi) (hj : ops[j]? = some oj) (hNi : oi.dst = Ni) (hNj : oj.dst = Nj)
    (hc : (Region.ready md ops l == [i, j] && l.setIfInBounds i true == li && l.setIfInBounds j true == lj) = true) (hdi : i ∈ ds) (hdj : j ∈ ds)
    (h1 : ∀ K : Act → World → Prop, Shut (∀ a' w', wpAnyLast P md ops Q S ds fuel li a' w' → K a' w') → if Region.wanted oi (yielded ops a.tmps) = true then Oper.wp P oi a w K Q else K (a.put Ni undef) w)
    (h2 : ∀ K : Act → World → Prop, Shut (∀ a' w', wpAnyLast P md ops Q S ds fuel lj a' w' → K a' w') → if Region.wanted oj (yielded ops a.tmps) = true then Oper.wp P oj a w K Q else K (a.put Nj undef) w) :
    wpAnyLast P md ops Q S ds (fuel + 1) l a w := by
 subst hNi
 subst hNj
 simp only [Bool.and_eq_true, beq_iff_eq] at hc
 obtain ⟨⟨h3, h4⟩, h5⟩ := hc
 subst h4
 subst h5
 exact wpAnyLast_ready h3 (by simp) (AllReadyL.cons_last hi hdi (fun K hK => h1 K hK) (AllReadyL.cons_last hj hdj (fun K hK => h2 K hK) AllReadyL.nil))
end
structure Ar (w : World) (base b rb g : Nat) (xs : List S28) : Prop where
  rc : w.heap[rb]? = some (.cells #[.pointer (some ⟨g, 0, none⟩)] 77 (0, 0))
  vc : ∃ v6, w.heap[b]? = some (.cells #[.int .i64 4, .bool false, .bool false, .string ⟨#[]⟩, .int .i64 0, .string ⟨#[]⟩, v6, .slice none 0 0] 28 (0, 0)) ∧ k28.R 28 w base (fun _ => True) v6 xs
  lt : b < base ∧ rb < base ∧ g < base ∧ base ≤ w.heap.size
  ne : b ≠ g ∧ rb ≠ g ∧ b ≠ rb
structure ArF (w' w w1 : World) (base b rb g : Nat) (r : S28 × S) (v6 : Value) (xs : List S28) (cs : List Value) (m : Nat) : Prop where
  rd : Rd w w' g r.2
  rc : w'.heap[rb]? = some (.cells #[.pointer (some ⟨g, 0, none⟩)] 77 (0, 0))
  vc : w'.heap[b]? = some (.cells #[.int .i64 4, .bool false, .bool false, .string ⟨#[]⟩, .int .i64 0, .string ⟨#[]⟩, v6, .slice none 0 0] 28 (0, 0))
  vr : k28.R 28 w' base (fun k => k < w1.heap.size) v6 xs
  x : k28.M w' w1.heap.size (fun _ => True) r.1 cs
  mz : w'.heap[m]? = some (.cells zA 28 (0, 0))
  lt : base ≤ w'.heap.size ∧ w1.heap.size ≤ m
set_option maxRecDepth 100000 in
set_option maxHeartbeats 8000000 in
theorem arr_step (fv : S → S28 × S) (ok : S → Prop) (HV : VCalls 34 ok fv) {w w1 : World} {g b rb base : Nat} {a : S} {xs : List S28} (h : Rd w w1 g a) (hA : Ar w1 base b rb g xs) (hok : ok a) (hb : w.heap.size ≤ b) (hbase : w.heap.size ≤ base) (hl : xs.length ≤ 1000000) :
    Calls Tryz.prog 96 #[.pointer (some ⟨b, 0, none⟩), .pointer (some ⟨rb, 0, none⟩)] w1 fun E w' => E = .returned (.tuple #[]) ∧ Rd w w' g (fv a).2 ∧ Ar w' base b rb g (xs ++ [(fv a).1]) := by
 have HVX := hi_ HV
 have HOK := hi_ hok
 have H := hi_ h
 have HA := hi_ hA
 have HLL := hi_ (And.intro hb (And.intro hbase hl))
 obtain ⟨v6, hv6, hr6⟩ := hA.vc
 obtain ⟨A, c, rfl⟩ := Kd.R_slice hr6
 have c6 : w1.drew.cell? ⟨b, 6, none⟩ = some (.slice A xs.length c) := (blk_cell hv6 6).trans rfl
 have cr : w1.drew.cell? ⟨rb, 0, none⟩ = some (.pointer (some ⟨g, 0, none⟩)) := (blk_cell hA.rc 0).trans rfl
 have HV6 := hi_ hv6
 have HR6 := hi_ hr6
 clear HV hok h hA hb hbase hl hv6 hr6
 go_enter Tryz.func96, Tryz.ntmps96
 refine start_ (n := 11) (S := fun w' => w'.cell? ⟨b, 6, none⟩ = some (.slice A xs.length c) ∧ w'.cell? ⟨rb, 0, none⟩ = some (.pointer (some ⟨g, 0, none⟩))) (ds := [8, 10]) #[false, false, false, false, false, false, false, false, false, false, false] (by kernel_rfl) rfl rfl ⟨c6, cr⟩ (fun hHeld => ?_)
 refine pure_ (i := 0) (N := some 2) (v := ?_) (a' := ?_) #[true, false, false, false, false, false, false, false, false, false, false] rfl rfl (by kernel_rfl) (fun _ _ _ h => h) (Or.inl ⟨by rfl, ?_⟩) ?_ ?_
 rotate_left
 · intro w'
   go_simp
   with_reducible rfl
 rotate_left
 · simp only [Act.put, List.setIfInBounds_toArray, List.set_cons_zero, List.set_cons_succ]
   rfl
 refine take_ (i := 1) (N := some 3) (v := ?_) (a' := ?_) #[true, true, false, false, false, false, false, false, false, false, false] rfl rfl (by kernel_rfl) (fun _ _ _ h => h) (Or.inl ⟨by rfl, ?_⟩) hHeld ?_ ?_
 rotate_left
 · rintro w' ⟨s0, s1⟩
   go_simp
   with_reducible rfl
 rotate_left
 · simp only [Act.put, List.setIfInBounds_toArray, List.set_cons_zero, List.set_cons_succ]
   rfl
 refine take_ (i := 2) (N := some 4) (v := ?_) (a' := ?_) #[true, true, true, false, false, false, false, false, false, false, false] rfl rfl (by kernel_rfl) (fun _ _ _ h => h) (Or.inl ⟨by rfl, ?_⟩) hHeld ?_ ?_
 rotate_left
 · rintro w' ⟨s0, s1⟩
   go_simp
   with_reducible rfl
 rotate_left
 · simp only [Act.put, List.setIfInBounds_toArray, List.set_cons_zero, List.set_cons_succ]
   rfl
 refine pure_ (i := 4) (N := some 6) (v := ?_) (a' := ?_) #[true, true, true, false, true, false, false, false, false, false, false] rfl rfl (by kernel_rfl) (fun _ _ _ h => h) (Or.inl ⟨by rfl, ?_⟩) ?_ ?_
 rotate_left
 · intro w'
   go_simp
   with_reducible rfl
 rotate_left
 · simp only [Act.put, List.setIfInBounds_toArray, List.set_cons_zero, List.set_cons_succ]
   rfl
 refine join_ (σ := List Value × Nat) 5 #[true, true, true, true, true, true, false, false, false, false, false] (fun s => [(5, .agg s.1.toArray), (7, .slice (some ⟨s.2, 0, none⟩) 1 1)]) (fun s w' => ArF w' w w1 base b rb g (fv a) (.slice A xs.length c) xs s.1 s.2) ?_ ?_
 rotate_left
 · intro hCont
   refine two_ (i := 3) (j := 5) (Ni := some 5) (Nj := some 7) #[true, true, true, true, true, false, false, false, false, false, false] #[true, true, true, false, true, true, false, false, false, false, false] rfl rfl rfl rfl (by kernel_rfl) (by decide) (by decide) (fun K hK => ?_) (fun K hK => ?_)
   · have HD := hi_ (H.out.d).now
     refine goes_ Tryz.func34 (by kernel_rfl) rfl #[.pointer (some ⟨g, 0, none⟩)] (by rfl) rfl rfl (by (try simp only [List.map_toArray, List.map_cons, List.map_nil]); rfl) ?_
     refine (HVX.out _ _ g a HD.out HOK.out).mono ?_
     rintro E w4 ⟨v, rfl, hv, h4⟩
     refine ⟨_, rfl, ?_⟩
     obtain ⟨cs, rfl, hl8, ho8, hi8, hM⟩ := hv.of
     have hvb := h4.keep HV6.out HA.out.ne.1
     have hrb := h4.keep HA.out.rc HA.out.ne.2.1
     refine hK.out _ _ ⟨(blk_cell hvb 6).trans rfl, (blk_cell hrb 0).trans rfl⟩ (fun hHeld => ?_)
     clear hK K
     refine norm_ (a' := ?_) ?_ ?_
     rotate_left
     · show Act.put _ (some 5) _ = _
       simp only [Act.put, List.setIfInBounds_toArray, List.set_cons_zero, List.set_cons_succ]
       rfl
     refine one_ (i := 5) (N := some 7) #[true, true, true, true, true, true, false, false, false, false, false] rfl rfl (by kernel_rfl) (by decide) (fun K hK => ?_)
     refine value_ (v := .slice (some ⟨w4.heap.size, 0, none⟩) 1 1) (w1 := w4.alloc (.cells zA 28)) (by rfl) rfl ?_ ?_
     · go_simp; rfl
     refine hK.out _ _ ⟨(blk_cell (blk_alloc hvb _) 6).trans rfl, (blk_cell (blk_alloc hrb _) 0).trans rfl⟩ (fun hHeld => ?_)
     clear hK K
     refine norm_ (a' := ?_) ?_ ?_
     rotate_left
     · show Act.put _ (some 7) _ = _
       simp only [Act.put, List.setIfInBounds_toArray, List.set_cons_zero, List.set_cons_succ]
       rfl
     refine norm_ (by simp only [putAll, Act.put, List.setIfInBounds_toArray, List.set_cons_zero, List.set_cons_succ]) (hCont (cs, w4.heap.size) _ ⟨((H.out.d).trans h4).below (Below.alloc (Below.refl _ _) (Nat.le_refl _) _), blk_alloc hrb _, blk_alloc hvb _, ?_, Kd.M_below hM (Below.alloc (Below.refl _ _) (Nat.le_refl _) _), blk_new w4 _, ?_⟩)
     · refine Kd.R_below (Kd.R_mono (Kd.R_move (Kd.R_bound HR6.out) (w1 := w4) (fun k hk => ?_)) (fun k hk => hk.2.2.1)) (Below.alloc (Below.refl _ _) (Nat.le_refl _) _)
       exact h4.kp.block k hk.2.2.1 (by have := hk.2.1; have := HA.out.lt.2.2.1; simp; omega)
     have := HA.out.lt.2.2.2; have := h4.kp.size; simp at *; omega
   refine value_ (v := .slice (some ⟨w1.heap.size, 0, none⟩) 1 1) (w1 := w1.drew.alloc (.cells zA 28)) (by rfl) rfl ?_ ?_
   · go_simp; rfl
   have hal : Below w1.drew.heap.size w1.drew (w1.drew.alloc (.cells zA 28)) := Below.alloc (Below.refl _ _) (Nat.le_refl _) _
   have hvb := blk_alloc (blk_drew HV6.out) (.cells zA 28)
   have hrb := blk_alloc (blk_drew HA.out.rc) (.cells zA 28)
   have hmb := blk_new w1.drew (.cells zA 28)
   have HD := hi_ ((H.out.d).below hal)
   refine hK.out _ _ ⟨(blk_cell hvb 6).trans rfl, (blk_cell hrb 0).trans rfl⟩ (fun hHeld => ?_)
   clear hK K
   refine norm_ (a' := ?_) ?_ ?_
   rotate_left
   · show Act.put _ (some 7) _ = _
     simp only [Act.put, List.setIfInBounds_toArray, List.set_cons_zero, List.set_cons_succ]
     rfl
   refine one_ (i := 3) (N := some 5) #[true, true, true, true, true, true, false, false, false, false, false] rfl rfl (by kernel_rfl) (by decide) (fun K hK => ?_)
   refine goes_ Tryz.func34 (by kernel_rfl) rfl #[.pointer (some ⟨g, 0, none⟩)] (by rfl) rfl rfl (by (try simp only [List.map_toArray, List.map_cons, List.map_nil]); rfl) ?_
   refine (HVX.out _ _ g a HD.out.now HOK.out).mono ?_
   rintro E w4 ⟨v, rfl, hv, h4⟩
   refine ⟨_, rfl, ?_⟩
   obtain ⟨cs, rfl, hl8, ho8, hi8, hM⟩ := hv.of
   have hvb4 := h4.keep hvb HA.out.ne.1
   have hrb4 := h4.keep hrb HA.out.ne.2.1
   have hmb4 := h4.keep hmb (Nat.ne_of_gt H.out.lt)
   refine hK.out _ _ ⟨(blk_cell hvb4 6).trans rfl, (blk_cell hrb4 0).trans rfl⟩ (fun hHeld => ?_)
   clear hK K
   refine norm_ (a' := ?_) ?_ ?_
   rotate_left
   · show Act.put _ (some 5) _ = _
     simp only [Act.put, List.setIfInBounds_toArray, List.set_cons_zero, List.set_cons_succ]
     rfl
   refine norm_ (by simp only [putAll, Act.put, List.setIfInBounds_toArray, List.set_cons_zero, List.set_cons_succ]) (hCont (cs, w1.heap.size) _ ⟨HD.out.trans h4, hrb4, hvb4, ?_, k28.M_lower (by simp) hM, hmb4, ?_⟩)
   · refine Kd.R_mono (Kd.R_move (Kd.R_bound HR6.out) (w1 := w4) (fun k hk => ?_)) (fun k hk => hk.2.2.1)
     exact (h4.kp.block k (by have := hk.2.2.1; simp; omega) (by have := hk.2.1; have := HA.out.lt.2.2.1; simp; omega)).trans (hal.block k hk.2.2.1)
   have := HA.out.lt.2.2.2; have := h4.kp.size; simp at *; omega
 · rintro ⟨cs, m⟩ w4 hF
   have HF := hi_ hF
   clear hF HVX HOK H HR6 c6 cr
   refine norm_ (a' := ?_) ?_ ?_
   rotate_left
   · simp only [putAll, Act.put, List.setIfInBounds_toArray, List.set_cons_zero, List.set_cons_succ]
     rfl
   obtain ⟨v1, w5, hrun, hR5, hg5, hat5⟩ := app_run (Kd.R_mono HF.out.vr (fun _ _ => trivial)) m HF.out.mz HF.out.lt.1 HLL.out.2.2
   have hv5 := (hg5.block b (Array.getElem?_eq_some_iff.1 HF.out.vc).1 (fun e => by have := (Kd.R_bound HF.out.vr).1 b e.symm; have := HA.out.lt.1; omega)).trans HF.out.vc
   have hr5 := (hg5.block rb (Array.getElem?_eq_some_iff.1 HF.out.rc).1 (fun e => by have := (Kd.R_bound HF.out.vr).1 rb e.symm; have := HA.out.lt.2.1; omega)).trans HF.out.rc
   have hx5 := k28.M_lower (base' := base) HA.out.lt.2.2.2 (Kd.M_grown (k28.M_bound HF.out.x) hg5 (fun k hk e => by have := HF.out.vr.1 k e.symm; have := hk.2.1; omega))
   have hokx : ∀ k, (True ∧ w1.heap.size ≤ k ∧ k < w4.heap.size ∧ ∃ q, q ∈ k28.E ∧ ∃ cells, w4.heap[k]? = some (.cells cells q (0, 0))) → some k ≠ v1.ownBlock := fun k hk e => by
    rcases hat5 with e1 | e1
    · rw [e1] at e; have := HF.out.vr.1 k e.symm; have := hk.2.1; omega
    rw [e1] at e; have := hk.2.2.1; injection e with e; omega
   have hbb : b < base := HA.out.lt.1
   have hRb : k28.R 28 (w5.setCell ⟨b, 6, none⟩ v1) base (fun _ => True) v1 (xs ++ [z28]) := Kd.R_mono (Kd.R_far (Kd.R_bound hR5) (p := ⟨b, 6, none⟩) (fun k hk => by have := hk.2.1; show k ≠ b; omega) v1) (fun _ _ => trivial)
   have hxb := Kd.M_far hx5 (p := ⟨b, 6, none⟩) (fun k hk => by have := hk.2.1; have := HA.out.lt.2.2.2; show k ≠ b; omega) v1
   obtain ⟨g1, c1, hv1, hg1, hs5, hR6, hk6⟩ := seg_run hR5 hx5 hokx
   obtain ⟨g2, c2, hv2, hg2, hsb, hRb6, hkb6⟩ := seg_run hRb hxb hokx
   subst hv1
   injection hv2 with hv2 _ hv3
   injection hv2 with hv2
   injection hv2 with hv2
   subst hv2; subst hv3
   have HRow : Hid (∀ i, (Value.slice A xs.length c).ownBlock = some i → base ≤ i) := hi_ (fun i e => ((Kd.R_bound HF.out.vr).1 i e).2.1)
   have HW5 := hi_ (And.intro hg5 (And.intro hR6 (And.intro hk6 (And.intro hRb6 hkb6))))
   have HB5 := hi_ (And.intro hv5 hr5)
   have HSb := hi_ hsb
   clear hR5 hat5 hx5 hR6 hk6 hokx hRb hxb hRb6 hkb6 hsb hg2 hg5 hv5 hr5
   have HS5 := hi_ hs5
   have HG1 := hi_ hg1
   clear hs5 hg1
   refine one_ (i := 6) (N := some 8) #[true, true, true, true, true, true, true, false, false, false, false] rfl rfl (by kernel_rfl) (by decide) (fun K hK => ?_)
   refine value_ (v := .slice (some ⟨g1, 0, none⟩) (xs.length + 1) c1) (w1 := w5) (by rfl) rfl ?_ ?_
   · exact exec_app (s := .tmp 3) (x := .tmp 7) rfl rfl rfl rfl hrun
   refine hK.out _ _ ⟨(blk_cell HB5.out.1 6).trans rfl, (blk_cell HB5.out.2 0).trans rfl⟩ (fun hHeld => ?_)
   clear hK K
   refine norm_ (a' := ?_) ?_ ?_
   rotate_left
   · show Act.put _ (some 8) _ = _
     simp only [Act.put, List.setIfInBounds_toArray, List.set_cons_zero, List.set_cons_succ]
     rfl
   have hn0 : (0 : Int) ≤ (xs.length : Int) := by omega
   have hn1 : (xs.length : Int) < ((xs.length + 1 : Nat) : Int) := by omega
   refine pure_ (i := 7) (N := some 9) (v := .pointer (some ⟨g1, xs.length * 8, none⟩)) (a' := ?_) #[true, true, true, true, true, true, true, true, false, false, false] rfl rfl (by kernel_rfl) (fun _ _ _ h => h) (Or.inl ⟨by rfl, ?_⟩) ?_ ?_
   · intro w'
     go_simp
     intro hq
     exact absurd hq (by omega)
   rotate_left
   · simp only [Act.put, List.setIfInBounds_toArray, List.set_cons_zero, List.set_cons_succ]
     rfl
   refine pure_ (i := 9) (N := some 10) (v := ?_) (a' := ?_) #[true, true, true, true, true, true, true, true, false, true, false] rfl rfl (by kernel_rfl) (fun _ _ _ h => h) (Or.inl ⟨by rfl, ?_⟩) ?_ ?_
   rotate_left
   · intro w'
     go_simp
     with_reducible rfl
   rotate_left
   · simp only [Act.put, List.setIfInBounds_toArray, List.set_cons_zero, List.set_cons_succ]
     rfl
   refine two_last (i := 8) (j := 10) (Ni := none) (Nj := none) #[true, true, true, true, true, true, true, true, true, true, false] #[true, true, true, true, true, true, true, true, false, true, true] rfl rfl rfl rfl (by kernel_rfl) (by decide) (by decide) (fun K hK => ?_) (fun K hK => ?_)
   · refine skip_ (w1 := (w5.setCells g1 (xs.length * 8) cs)) (by rfl) rfl (exec_store (p := .tmp 9) (x := .tmp 5) rfl rfl rfl HS5.out) ?_
     refine hK.out _ _ ?_
     clear hK K
     have hvA := (HW5.out.2.2.1.block b (Array.getElem?_eq_some_iff.1 HB5.out.1).1 (fun e => by injection e with e; have := HG1.out; omega)).trans HB5.out.1
     have hrA := (HW5.out.2.2.1.block rb (Array.getElem?_eq_some_iff.1 HB5.out.2).1 (fun e => by injection e with e; have := HG1.out; have := HA.out.lt.2.1; omega)).trans HB5.out.2
     have cA : (w5.setCells g1 (xs.length * 8) cs).cell? ⟨b, 6, none⟩ = some (.slice A xs.length c) := (blk_cell hvA 6).trans rfl
     have fA := blk_frozen hvA 6
     refine last_ (i := 10) (N := none) #[true, true, true, true, true, true, true, true, true, true, true] rfl rfl (by kernel_rfl) (by decide) (fun K hK => ?_)
     refine skip_ (w1 := (w5.setCells g1 (xs.length * 8) cs).setCell ⟨b, 6, none⟩ (.slice (some ⟨g1, 0, none⟩) (xs.length + 1) c1)) (by rfl) rfl ?_ ?_
     · go_simp
     refine hK.out _ _ ?_
     refine done_ (by kernel_rfl) ?_
     clear hK K cA fA
     go_end0
     refine ⟨rfl, ((HF.out.rd.grow HW5.out.1 (fun i e => ?_)).grow HW5.out.2.2.1 (fun i e => ?_)).far (grown_set _ b 6 _) HA.out.ne.1 HLL.out.1, (Below.heap_setCell _ _ _ _ (fun e => HA.out.ne.2.2 e.symm)).trans hrA, ⟨_, blk_put hvA 6 _ rfl, ?_⟩, ⟨HA.out.lt.1, HA.out.lt.2.1, HA.out.lt.2.2.1, ?_⟩, HA.out.ne⟩
     · have := HRow.out i e; have := HA.out.lt.2.2.1; have := HLL.out.2.1; exact ⟨by omega, by omega⟩
     · injection e with e; have := HG1.out; have := HA.out.lt.2.2.1; have := HLL.out.2.1; exact ⟨by omega, by omega⟩
     · exact Kd.R_mono (Kd.R_far (Kd.R_bound HW5.out.2.1) (p := ⟨b, 6, none⟩) (fun k hk => by have := hk.2.1; show k ≠ b; omega) _) (fun _ _ => trivial)
     exact Nat.le_trans HF.out.lt.1 (Nat.le_trans HW5.out.1.size (Nat.le_trans HW5.out.2.2.1.size (grown_set _ _ _ _).size))
   have cB : w5.cell? ⟨b, 6, none⟩ = some (.slice A xs.length c) := (blk_cell HB5.out.1 6).trans rfl
   have fB := blk_frozen HB5.out.1 6
   refine skip_ (w1 := (w5.setCell ⟨b, 6, none⟩ (.slice (some ⟨g1, 0, none⟩) (xs.length + 1) c1))) (by rfl) rfl ?_ ?_
   · go_simp
   refine hK.out _ _ ?_
   clear hK K cB fB
   refine last_ (i := 8) (N := none) #[true, true, true, true, true, true, true, true, true, true, true] rfl rfl (by kernel_rfl) (by decide) (fun K hK => ?_)
   refine skip_ (w1 := (w5.setCell ⟨b, 6, none⟩ (.slice (some ⟨g1, 0, none⟩) (xs.length + 1) c1)).setCells g1 (xs.length * 8) cs) (by rfl) rfl (exec_store (p := .tmp 9) (x := .tmp 5) rfl rfl rfl HSb.out) ?_
   refine hK.out _ _ ?_
   refine done_ (by kernel_rfl) ?_
   clear hK K
   have hvB := blk_put HB5.out.1 6 (.slice (some ⟨g1, 0, none⟩) (xs.length + 1) c1) rfl
   have hrB := (Below.heap_setCell w5 ⟨b, 6, none⟩ (.slice (some ⟨g1, 0, none⟩) (xs.length + 1) c1) rb (fun e => HA.out.ne.2.2 e.symm)).trans HB5.out.2
   have hvC := (HW5.out.2.2.2.2.block b (Array.getElem?_eq_some_iff.1 hvB).1 (fun e => by injection e with e; have := HG1.out; omega)).trans hvB
   have hrC := (HW5.out.2.2.2.2.block rb (Array.getElem?_eq_some_iff.1 hrB).1 (fun e => by injection e with e; have := HG1.out; have := HA.out.lt.2.1; omega)).trans hrB
   go_end0
   refine ⟨rfl, ((HF.out.rd.grow HW5.out.1 (fun i e => ?_)).far (grown_set _ b 6 _) HA.out.ne.1 HLL.out.1).grow HW5.out.2.2.2.2 (fun i e => ?_), hrC, ⟨_, hvC, HW5.out.2.2.2.1⟩, ⟨HA.out.lt.1, HA.out.lt.2.1, HA.out.lt.2.2.1, ?_⟩, HA.out.ne⟩
   · have := HRow.out i e; have := HA.out.lt.2.2.1; have := HLL.out.2.1; exact ⟨by omega, by omega⟩
   · injection e with e; have := HG1.out; have := HA.out.lt.2.2.1; have := HLL.out.2.1; exact ⟨by omega, by omega⟩
   exact Nat.le_trans HF.out.lt.1 (Nat.le_trans HW5.out.1.size (Nat.le_trans (grown_set _ _ _ _).size HW5.out.2.2.2.2.size))
theorem copy_rows {P : Program} (w : World) (dT sT ty elem : TypeId) (g o dLen dCap : Nat) (a : Addr) (sLen sCap n size : Nat) (cur : Array Value) (t : TypeId) (cs : List Value)
    (hu : P.underlying dT = some (.slice elem)) (hs : (P.info? elem).map (·.size) = some size) (hg : w.heap[g]? = some (.cells cur t (0, 0))) (hm : Nat.min sLen dLen = n) (hn : cs.length = n * size)
    (hsrc : ∀ j v, cs[j]? = some v → w.cell? (a.add j) = some v) (hfit : o + cs.length ≤ cur.size) (h1 : ∀ v ∈ cs, v.oneCell' = true) :
    (Builtin.copy_ #[dT, sT] ty #[.slice (some ⟨g, o, none⟩) dLen dCap, .slice (some a) sLen sCap]).run P w =
     .ok (goInt n) (w.setRow g (cur.toList.take o ++ cs ++ cur.toList.drop (o + cs.length)).toArray) := by
 have hl := run_loadCells_list (P := P) w a cs hsrc
 have hst := run_storeCells_at P g o t cs 0 cur w hg (by simpa using hfit) h1
 cases hq : P.info? elem with
 | none => simp [hq] at hs
 | some i =>
  have hi : i.size = size := by simpa [hq] using hs
  rw [hn] at hl
  simp [Builtin.copy_, run_underlying hu, Builtin.lenOf, Builtin.firstCells, sizeOf, typeInfo, hq, hi, hm, hl, hst]
def ins (cs xcs : List Value) (i : Nat) : List Value := cs.take (i * 8) ++ xcs ++ cs.drop (i * 8)
theorem ins_end {cs xcs : List Value} {n : Nat} (h : cs.length = n * 8) : ins cs xcs n = cs ++ xcs := by
 unfold ins
 rw [List.take_of_length_le (by omega), List.drop_of_length_le (by omega), List.append_nil]
def InsV (W : World) (base n : Nat) (v : Value) (cs : List Value) (E : Ending) (w' : World) : Prop :=
 ∃ v1, E = .returned v1 ∧ w'.ownsRow base 28 8 v1 n cs ∧ W.grownBy w' v.ownBlock ∧ (v1.ownBlock = v.ownBlock ∨ v1.ownBlock = some W.heap.size)
set_option maxRecDepth 100000 in
set_option maxHeartbeats 4000000 in
theorem insV_end {W : World} {base n c m : Nat} {A : Option Addr} {cs xcs : List Value} (HO : W.ownsRow base 28 8 (.slice A n c) n cs) (hm : W.heap[m]? = some (.cells xcs.toArray 28 (0, 0))) (hx : xcs.length = 8) (h1 : ∀ u ∈ xcs, u.oneCell' = true) (hl : n ≤ 1000000) (hbase : base ≤ W.heap.size) :
    Calls Tryz.prog 100 #[.slice A n c, .int .i64 n, .slice (some ⟨m, 0, none⟩) 1 1] W (InsV W base (n + 1) (.slice A n c) (cs ++ xcs)) := by
 obtain ⟨i0, hi, hzz⟩ := Option.map_eq_some_iff.1 info28
 simp only [Prod.mk.injEq] at hzz
 obtain ⟨hz0, hz1, hz2⟩ := hzz
 obtain ⟨v1, w1, hrun, hown1, hg, _, hat⟩ := run_append_own_at (P := Tryz.prog) W base 25 25 28 i0 (.agg zA) 8 112 Tryz.underlying25 hi hz0 hz1 hz2 rfl (by decide) (.slice A n c) n cs HO ⟨m, 0, none⟩ 1 1 xcs (by omega)
  (fun j u hu => by
   rw [show (⟨m, 0, none⟩ : Addr).add j = ⟨m, j, none⟩ by unfold Addr.add; split <;> simp_all, blk_cell hm]; simpa using hu)
  h1 (by simp only [maxLen]; omega) (by omega) hbase
 have hF : Hid (InsV W base (n + 1) (.slice A n c) (cs ++ xcs) (.returned v1) w1) := hi_ ⟨v1, rfl, hown1, hg, hat⟩
 have hc : n ≤ c := by
  rcases HO.2 with ⟨h0, h2⟩ | ⟨g, cap, cur, h0, _, _, h2, _⟩
  · injection h0 with _ _ h3; omega
  injection h0 with _ _ h3; omega
 have hcI : (n : Int) ≤ (c : Int) := by omega
 have hA : A = none → n = 0 ∧ c = 0 := fun e => by
  rcases HO.2 with ⟨h0, h2⟩ | ⟨g, cap, cur, h0, _⟩
  · injection h0 with _ _ h3; omega
  injection h0 with h3; rw [e] at h3; cases h3
 clear hown1 hg hat hm h1 HO hi hz0 hz1 hz2
 cases A with
 | none =>
  obtain ⟨rfl, rfl⟩ := hA rfl
  go_enter Tryz.func100, Tryz.ntmps100
  go_wp2_with (at_builtin; refine Lib.wpList_append_run _ rfl _ _ _ _ rfl _ _ rfl rfl _ _ hrun ?_)
  go_ret
  exact hF.out
 | some ad =>
  obtain ⟨g, o, sp⟩ := ad
  clear hA
  go_enter Tryz.func100, Tryz.ntmps100
  go_wp2_with (at_builtin; refine Lib.wpList_append_run _ rfl _ _ _ _ rfl _ _ rfl rfl _ _ hrun ?_)
  all_goals (go_ret; exact hF.out)
theorem row_take {cs cur1 : List Value} {k m : Nat} (h : cur1.take k = cs) (hm : m ≤ k) : cur1.take m = cs.take m := by
 rw [← h, List.take_take, Nat.min_eq_left hm]
set_option maxRecDepth 100000 in
set_option maxHeartbeats 8000000 in
theorem insV_shift {W : World} {base g n c i m : Nat} {cur : Array Value} {cs xcs : List Value} (hb : base ≤ g) (hg : W.heap[g]? = some (.cells cur 28 (0, 0))) (hsz : cur.size = c * 8) (htk : cur.toList.take (n * 8) = cs) (hcl : cs.length = n * 8)
    (hone : ∀ u ∈ cs, u.oneCell' = true) (hi : i < n) (hroom : n + 1 ≤ c) (hc : c ≤ maxLen)
    (hm : W.heap[m]? = some (.cells xcs.toArray 28 (0, 0))) (hx : xcs.length = 8) (h1 : ∀ u ∈ xcs, u.oneCell' = true) (hmg : m ≠ g) :
    Calls Tryz.prog 100 #[.slice (some ⟨g, 0, none⟩) n c, .int .i64 i, .slice (some ⟨m, 0, none⟩) 1 1] W (InsV W base (n + 1) (.slice (some ⟨g, 0, none⟩) n c) (ins cs xcs i)) := by
 obtain ⟨i0, hi0, hzz⟩ := Option.map_eq_some_iff.1 info28
 simp only [Prod.mk.injEq] at hzz
 obtain ⟨hz0, hz1, hz2⟩ := hzz
 have hsz8 : (Tryz.prog.info? 28).map (·.size) = some 8 := by rw [hi0]; simp [hz1]
 have hdl : (cs.drop (i * 8)).length = (n - i) * 8 := by rw [List.length_drop, hcl, Nat.sub_mul]
 obtain ⟨ROW1, hR1⟩ : ∃ ROW1 : Array Value, ROW1 = (cur.toList.take ((i + 1) * 8) ++ cs.drop (i * 8) ++ cur.toList.drop ((i + 1) * 8 + (cs.drop (i * 8)).length)).toArray := ⟨_, rfl⟩
 have hR1l : ROW1.size = c * 8 := by rw [hR1]; simp [hcl]; omega
 have hov : ∀ lb cb, (callFunc 124 #[.slice (some ⟨m, 0, none⟩) 1 1, .slice (some ⟨g, (i + 1) * 8, none⟩) lb cb]).run Tryz.prog W = .ok (.value (.bool false)) W := fun lb cb => by
  rw [run_callFunc_extern Tryz.func124 (by kernel_rfl) (by kernel_rfl) (by kernel_rfl) (e := Extern.SlicesOverlaps.overlaps #[25, 25] #[4]) (by kernel_rfl),
   Lib.run_overlaps_apart W 25 4 28 Tryz.underlying25 8 (fun w => by simp [Go.sizeOf, typeInfo, hi0, hz1]) ⟨m, 0, none⟩ ⟨g, (i + 1) * 8, none⟩ 1 1 lb cb hmg 28 28 8 (c * 8) (by simp [World.shape?, hm, hx]) (by simp [World.shape?, hg, hsz]) (by omega) (blk_frozen hm 0) (blk_frozen hm 8)]
  rfl
 have hcp1 : ∀ ty dc sc, (Builtin.copy_ #[25, 25] ty #[.slice (some ⟨g, (i + 1) * 8, none⟩) (n - i) dc, .slice (some ⟨g, i * 8, none⟩) (n + 1 - i) sc]).run Tryz.prog W.drew = .ok (goInt ((n - i : Nat) : Int)) (W.drew.setRow g ROW1) := fun ty dc sc => by
  rw [hR1]
  exact copy_rows W.drew 25 25 ty 28 g ((i + 1) * 8) (n - i) dc ⟨g, i * 8, none⟩ (n + 1 - i) sc (n - i) 8 cur 28 (cs.drop (i * 8)) Tryz.underlying25 hsz8 hg (by simp only [Nat.min_def]; split <;> omega) hdl
   (fun j v hj => by
    have hj2 : j < (n - i) * 8 := by rw [← hdl]; exact (List.getElem?_eq_some_iff.1 hj).1
    rw [show (⟨g, i * 8, none⟩ : Addr).add j = ⟨g, i * 8 + j, none⟩ by unfold Addr.add; split <;> simp_all]
    rw [show W.drew.cell? ⟨g, i * 8 + j, none⟩ = W.cell? ⟨g, i * 8 + j, none⟩ from rfl, blk_cell hg]
    rw [List.getElem?_drop, ← htk, List.getElem?_take] at hj
    split at hj
    · simpa using hj
    cases hj)
   (by rw [hdl, hsz]; omega) (fun u hu => hone u (List.mem_of_mem_drop hu))
 have hg1 : (W.drew.setRow g ROW1).heap[g]? = some (.cells ROW1 28 (0, 0)) := setRow_at (w := W.drew) hg
 have hm1 : (W.drew.setRow g ROW1).heap[m]? = some (.cells xcs.toArray 28 (0, 0)) := ((setRow_grown W.drew g ROW1).block m (Array.getElem?_eq_some_iff.1 hm).1 (by simpa using hmg)).trans hm
 obtain ⟨ROW2, hR2⟩ : ∃ ROW2 : Array Value, ROW2 = (ROW1.toList.take (i * 8) ++ xcs ++ ROW1.toList.drop (i * 8 + xcs.length)).toArray := ⟨_, rfl⟩
 have hcp2 : ∀ (U : World), U.heap = (W.drew.setRow g ROW1).heap → ∀ ty dc, (Builtin.copy_ #[25, 25] ty #[.slice (some ⟨g, i * 8, none⟩) (n + 1 - i) dc, .slice (some ⟨m, 0, none⟩) 1 1]).run Tryz.prog U = .ok (goInt 1) (U.setRow g ROW2) := fun U hU ty dc => by
  rw [hR2]
  have hg1' : U.heap[g]? = some (.cells ROW1 28 (0, 0)) := by rw [hU]; exact hg1
  have hm1' : U.heap[m]? = some (.cells xcs.toArray 28 (0, 0)) := by rw [hU]; exact hm1
  exact copy_rows U 25 25 ty 28 g (i * 8) (n + 1 - i) dc ⟨m, 0, none⟩ 1 1 1 8 ROW1 28 xcs Tryz.underlying25 hsz8 hg1' (by simp only [Nat.min_def]; split <;> omega) (by omega)
   (fun j v hj => by
    rw [show (⟨m, 0, none⟩ : Addr).add j = ⟨m, j, none⟩ by unfold Addr.add; split <;> simp_all, blk_cell hm1']
    simpa using hj)
   (by rw [hx, hR1l]; omega) h1
 have hF : Hid (InsV W base (n + 1) (.slice (some ⟨g, 0, none⟩) n c) (ins cs xcs i) (.returned (.slice (some ⟨g, 0, none⟩) (n + 1) c)) ((W.drew.setRow g ROW1).setRow g ROW2)) := by
  have e1 : ROW1.toList = cs.take (i * 8) ++ ((cur.toList.drop (i * 8)).take 8 ++ (cs.drop (i * 8) ++ cur.toList.drop ((i + 1) * 8 + (cs.drop (i * 8)).length))) := by
   rw [hR1, List.toList_toArray, ← List.append_assoc, ← List.append_assoc]
   congr 2
   rw [show (i + 1) * 8 = i * 8 + 8 by omega, List.take_add, row_take htk (by omega)]
  have hl1 : (cs.take (i * 8)).length = i * 8 := by rw [List.length_take, hcl]; omega
  have hl2 : ((cur.toList.drop (i * 8)).take 8).length = 8 := by rw [List.length_take, List.length_drop, Array.length_toList, hsz]; omega
  have e2 : ROW2.toList = ins cs xcs i ++ cur.toList.drop ((i + 1) * 8 + (cs.drop (i * 8)).length) := by
   rw [hR2, List.toList_toArray, e1, List.take_left' hl1, hx, ← List.drop_drop, List.drop_left' hl1, List.drop_left' hl2]
   unfold ins
   simp only [List.append_assoc]
  have hil : (ins cs xcs i).length = (n + 1) * 8 := by unfold ins; simp only [List.length_append, hl1, hx, hdl, Nat.sub_mul]; omega
  have hR2l : ROW2.size = c * 8 := by
   rw [hR2]; simp [hx, hR1l]; omega
  exact hi_ ⟨_, rfl, ⟨hil, .inr ⟨g, c, ROW2, rfl, hb, setRow_at hg1, hroom, hc, hR2l, by rw [e2, List.take_left' hil]⟩⟩,
   grown_trans (grown_trans (b := W.drew) ⟨rfl, rfl, rfl, Nat.le_refl _, fun _ _ _ => rfl⟩ (setRow_grown _ _ _)) (setRow_grown _ _ _), .inl rfl⟩
 clear hR1 hR2
 have hw1 : IntKind.i64.wrap ((i : Int) + 1) = (i : Int) + 1 := by rw [IntKind.wrap_i64]; unfold maxLen at hc; omega
 have hz2' : ¬ ((i : Int) = (n : Int)) := by omega
 have hc63 : (c : Int) ≤ 9223372036854775807 := by unfold maxLen at hc; omega
 have hb1 : (0 : Int) ≤ (i : Int) + 1 := by omega
 have hin : i ≤ n := by omega
 have htn : ((i : Int) + 1).toNat = i + 1 := by omega
 have hb2 : ¬ (c = i + 1) := by omega
 have hb3 : (i : Int) ≤ (n : Int) + 1 := by omega
 have hb4 : ¬ (c = i) := by omega
 clear hz0 hz1 hz2 hi0 hg hsz htk hcl hone hm hx h1 hg1 hm1 hdl hR1l hsz8
 have mixed : Tryz.prog.follows .mixedOrders = true := by kernel_rfl
 go_enter Tryz.func100, Tryz.ntmps100
 go_wp2_with (simp only [hov])
 go_region_law_o (refine step_copy_runI rfl _ _ 25 25 rfl _ _ (by simp [Act.eval, Act.put]) (by simp [Act.eval, Act.put]) (hcp1 _ _ _) ?_)
 go_wp2_with (at_builtin; refine wpList_copy_runI _ rfl _ _ 25 25 rfl _ _ rfl rfl (hcp2 _ rfl _ _) ?_)
 go_ret
 exact hF.out
set_option maxRecDepth 100000 in
set_option maxHeartbeats 8000000 in
theorem insV_grow {W : World} {base g n c i m : Nat} {cur : Array Value} {cs xcs : List Value} (hbase : base ≤ W.heap.size) (hg : W.heap[g]? = some (.cells cur 28 (0, 0))) (hsz : cur.size = c * 8) (htk : cur.toList.take (n * 8) = cs) (hcl : cs.length = n * 8)
    (hone : ∀ u ∈ cs, u.oneCell' = true) (hi : i < n) (hnc : n ≤ c) (hroom : c < n + 1) (hc : n ≤ 1000000)
    (hm : W.heap[m]? = some (.cells xcs.toArray 28 (0, 0))) (hx : xcs.length = 8) (h1 : ∀ u ∈ xcs, u.oneCell' = true) :
    Calls Tryz.prog 100 #[.slice (some ⟨g, 0, none⟩) n c, .int .i64 i, .slice (some ⟨m, 0, none⟩) 1 1] W (InsV W base (n + 1) (.slice (some ⟨g, 0, none⟩) n c) (ins cs xcs i)) := by
 obtain ⟨i0, hi0, hzz⟩ := Option.map_eq_some_iff.1 info28
 simp only [Prod.mk.injEq] at hzz
 obtain ⟨hz0, hz1, hz2⟩ := hzz
 have hsz8 : (Tryz.prog.info? 28).map (·.size) = some 8 := by rw [hi0]; simp [hz1]
 have hdl : (cs.drop (i * 8)).length = (n - i) * 8 := by rw [List.length_drop, hcl, Nat.sub_mul]
 have hzs : (Value.agg zA).cells.size = 8 := rfl
 have hgl : g < W.heap.size := (Array.getElem?_eq_some_iff.1 hg).1
 have hml : m < W.heap.size := (Array.getElem?_eq_some_iff.1 hm).1
 have hik : i + (n + 1 - i) = n + 1 := by omega
 have hkk : (n : Int) + 1 - (i : Int) = ((n + 1 - i : Nat) : Int) := by omega
 have hold : (Builtin.firstCells i0.size i (.slice (some ⟨g, 0, none⟩) i c)).run Tryz.prog W.drew = .ok (cs.take (i * 8)).toArray W.drew := by
  rw [hz1]
  exact run_firstCells_some W.drew 8 i ⟨g, 0, none⟩ i c (cs.take (i * 8)) (by rw [List.length_take, hcl]; omega) (fun j v hj => by
   rw [show (⟨g, 0, none⟩ : Addr).add j = ⟨g, j, none⟩ by unfold Addr.add; split <;> simp_all, show W.drew.cell? ⟨g, j, none⟩ = W.cell? ⟨g, j, none⟩ from rfl, blk_cell hg]
   rw [List.getElem?_take, ← htk, List.getElem?_take] at hj
   split at hj
   · split at hj
     · simpa using hj
     cases hj
   cases hj)
 have hrz : ∀ ty, (Builtin.append_ #[25, 3] ty #[.slice (some ⟨g, 0, none⟩) i c, .int .i64 ((n : Int) + 1 - (i : Int))]).run Tryz.prog W =
     .ok (.slice (some ⟨W.heap.size, 0, none⟩) (n + 1) (grownCap W (n + 1) c 28)) (W.drew.alloc (.cells ((cs.take (i * 8)).toArray ++ Builtin.zeroCells (Value.agg zA).cells (n + 1 - i) ++ Builtin.zeroCells (Value.agg zA).cells (grownCap W (n + 1) c 28 - (n + 1))) 28)) := fun ty => by
  have h := Lib.run_append_grow_zeros W 25 3 ty 28 i0 _ .i64 .i64 Tryz.underlying25 Tryz.underlying3 hi0 hz0 (some ⟨g, 0, none⟩) i c (cs.take (i * 8)) hold (n + 1 - i) (by omega) (by rw [hz1]; decide) (by omega) (by omega) (by rw [hz2]; omega) (by rw [hz2, hik]; exact growslice_fits hroom (by omega))
  rw [hik] at h
  rw [hkk]
  exact h
 obtain ⟨G, hG⟩ : ∃ G, G = grownCap W (n + 1) c 28 := ⟨_, rfl⟩
 have hGn : n + 1 ≤ G := by rw [hG]; exact grownCap_ge W _ _ _
 have hGm : G ≤ maxLen := by rw [hG]; exact grownCap_le_maxLen W (n + 1) c 28 (by unfold maxLen; omega)
 obtain ⟨ROW, hROW⟩ : ∃ ROW : Array Value, ROW = (cs.take (i * 8)).toArray ++ Builtin.zeroCells (Value.agg zA).cells (n + 1 - i) ++ Builtin.zeroCells (Value.agg zA).cells (G - (n + 1)) := ⟨_, rfl⟩
 rw [← hG] at hrz
 rw [← hROW] at hrz
 have hl1 : (cs.take (i * 8)).length = i * 8 := by rw [List.length_take, hcl]; omega
 have hRl : ROW.size = G * 8 := by
  rw [hROW]
  simp only [Array.size_append, List.size_toArray, size_zeroCells, hzs, hl1, ← Nat.add_mul]
  congr 1
  omega
 obtain ⟨W1, hW1⟩ : ∃ W1, W1 = W.drew.alloc (.cells ROW 28) := ⟨_, rfl⟩
 have hH1 : W1.heap[W.heap.size]? = some (.cells ROW 28 (0, 0)) := by rw [hW1]; exact blk_new W.drew (.cells ROW 28)
 have hm1 : W1.heap[m]? = some (.cells xcs.toArray 28 (0, 0)) := by rw [hW1]; exact blk_alloc (w := W.drew) hm _
 have hg1 : W1.heap[g]? = some (.cells cur 28 (0, 0)) := by rw [hW1]; exact blk_alloc (w := W.drew) hg _
 have hk1 : W.grownBy W1 (some g) := by rw [hW1]; exact grown_below (Below.alloc (Below.refl _ _).drew (Nat.le_refl _) _) _
 obtain ⟨ROW1, hR1⟩ : ∃ ROW1 : Array Value, ROW1 = (ROW.toList.take (i * 8) ++ xcs ++ ROW.toList.drop (i * 8 + xcs.length)).toArray := ⟨_, rfl⟩
 have hR1l : ROW1.size = G * 8 := by rw [hR1]; simp [hx, hRl]; omega
 have hcpA : ∀ (U : World), U.heap = W1.heap → ∀ ty dc, (Builtin.copy_ #[25, 25] ty #[.slice (some ⟨W.heap.size, i * 8, none⟩) (n + 1 - i) dc, .slice (some ⟨m, 0, none⟩) 1 1]).run Tryz.prog U = .ok (goInt 1) (U.setRow W.heap.size ROW1) := fun U hU ty dc => by
  rw [hR1]
  have hH' : U.heap[W.heap.size]? = some (.cells ROW 28 (0, 0)) := by rw [hU]; exact hH1
  have hm1' : U.heap[m]? = some (.cells xcs.toArray 28 (0, 0)) := by rw [hU]; exact hm1
  exact copy_rows U 25 25 ty 28 W.heap.size (i * 8) (n + 1 - i) dc ⟨m, 0, none⟩ 1 1 1 8 ROW 28 xcs Tryz.underlying25 hsz8 hH' (by simp only [Nat.min_def]; split <;> omega) (by omega)
   (fun j v hj => by
    rw [show (⟨m, 0, none⟩ : Addr).add j = ⟨m, j, none⟩ by unfold Addr.add; split <;> simp_all, blk_cell hm1']
    simpa using hj)
   (by rw [hx, hRl]; omega) h1
 have hHN : g ≠ W.heap.size := by omega
 obtain ⟨ROW2, hR2⟩ : ∃ ROW2 : Array Value, ROW2 = (ROW1.toList.take ((i + 1) * 8) ++ cs.drop (i * 8) ++ ROW1.toList.drop ((i + 1) * 8 + (cs.drop (i * 8)).length)).toArray := ⟨_, rfl⟩
 have hcpB : ∀ (U : World), U.heap = (W1.setRow W.heap.size ROW1).heap → ∀ ty dc sc, (Builtin.copy_ #[25, 25] ty #[.slice (some ⟨W.heap.size, (i + 1) * 8, none⟩) (n - i) dc, .slice (some ⟨g, i * 8, none⟩) (n - i) sc]).run Tryz.prog U = .ok (goInt ((n - i : Nat) : Int)) (U.setRow W.heap.size ROW2) := fun U hU ty dc sc => by
  rw [hR2]
  have hH' : U.heap[W.heap.size]? = some (.cells ROW1 28 (0, 0)) := by rw [hU]; exact setRow_at hH1
  have hg' : U.heap[g]? = some (.cells cur 28 (0, 0)) := by rw [hU]; exact ((setRow_grown W1 W.heap.size ROW1).block g (Array.getElem?_eq_some_iff.1 hg1).1 (by simpa using hHN)).trans hg1
  exact copy_rows U 25 25 ty 28 W.heap.size ((i + 1) * 8) (n - i) dc ⟨g, i * 8, none⟩ (n - i) sc (n - i) 8 ROW1 28 (cs.drop (i * 8)) Tryz.underlying25 hsz8 hH' (by simp only [Nat.min_def]; split <;> omega) hdl
   (fun j v hj => by
    rw [show (⟨g, i * 8, none⟩ : Addr).add j = ⟨g, i * 8 + j, none⟩ by unfold Addr.add; split <;> simp_all, blk_cell hg']
    rw [List.getElem?_drop, ← htk, List.getElem?_take] at hj
    split at hj
    · simpa using hj
    cases hj)
   (by rw [hdl, hR1l]; omega) (fun u hu => hone u (List.mem_of_mem_drop hu))
 have hF : ∀ U : World, U.heap = (W1.setRow W.heap.size ROW1).heap → U.os = W.os → U.tape = W.tape → U.output = W.output → InsV W base (n + 1) (.slice (some ⟨g, 0, none⟩) n c) (ins cs xcs i) (.returned (.slice (some ⟨W.heap.size, 0, none⟩) (n + 1) G)) (U.setRow W.heap.size ROW2) := by
  intro U hU ho ht hp
  have e1 : ROW.toList.take (i * 8) = cs.take (i * 8) := by
   rw [hROW]; simp only [Array.toList_append, List.append_assoc, List.toList_toArray]; rw [List.take_left' hl1]
  have e2 : ROW1.toList = (cs.take (i * 8) ++ xcs) ++ ROW.toList.drop (i * 8 + xcs.length) := by rw [hR1, List.toList_toArray, e1]
  have hl2 : (cs.take (i * 8) ++ xcs).length = (i + 1) * 8 := by rw [List.length_append, hl1, hx]; omega
  have e3 : ROW2.toList = ins cs xcs i ++ ROW1.toList.drop ((i + 1) * 8 + (cs.drop (i * 8)).length) := by
   rw [hR2, List.toList_toArray, e2, List.take_left' hl2]; unfold ins; rfl
  have hil : (ins cs xcs i).length = (n + 1) * 8 := by unfold ins; simp only [List.length_append, hl1, hx, hdl, Nat.sub_mul]; omega
  have hR2l : ROW2.size = G * 8 := by rw [hR2]; simp [hR1l, hcl]; omega
  have hH' : U.heap[W.heap.size]? = some (.cells ROW1 28 (0, 0)) := by rw [hU]; exact setRow_at hH1
  refine ⟨_, rfl, ⟨hil, .inr ⟨W.heap.size, G, ROW2, rfl, hbase, setRow_at hH', hGn, hGm, hR2l, by rw [e3, List.take_left' hil]⟩⟩, ⟨ho, ht, hp, ?_, fun k hk hn => ?_⟩, .inr rfl⟩
  · have h1 := (setRow_grown U W.heap.size ROW2).size
    have h2 := (setRow_grown W1 W.heap.size ROW1).size
    rw [← hU] at h2
    exact Nat.le_trans hk1.size (Nat.le_trans h2 h1)
  have hkN : k ≠ W.heap.size := by omega
  have hkU : k < U.heap.size := by
   have h2 := (setRow_grown W1 W.heap.size ROW1).size
   rw [← hU] at h2
   have := hk1.size; omega
  have r1 := (setRow_grown U W.heap.size ROW2).block k hkU (by simpa using hkN)
  have r2 := (setRow_grown W1 W.heap.size ROW1).block k (by have := hk1.size; omega) (by simpa using hkN)
  rw [← hU] at r2
  have r3 : W1.heap[k]? = W.heap[k]? := by rw [hW1]; exact (Below.alloc (Below.refl W.heap.size W.drew) (Nat.le_refl _) (.cells ROW 28)).block k hk
  exact r1.trans (r2.trans r3)
 have hFF : ∀ U : World, Hid (U.heap = (W1.setRow W.heap.size ROW1).heap ∧ U.os = W.os ∧ U.tape = W.tape ∧ U.output = W.output → InsV W base (n + 1) (.slice (some ⟨g, 0, none⟩) n c) (ins cs xcs i) (.returned (.slice (some ⟨W.heap.size, 0, none⟩) (n + 1) G)) (U.setRow W.heap.size ROW2)) := fun U => hi_ (fun h => hF U h.1 h.2.1 h.2.2.1 h.2.2.2)
 subst hW1
 clear hF
 have hw1 : IntKind.i64.wrap ((i : Int) + 1) = (i : Int) + 1 := by rw [IntKind.wrap_i64]; omega
 have hz2' : ¬ ((i : Int) = (n : Int)) := by omega
 have hz3 : (c : Int) < (n : Int) + 1 := by omega
 have hb1 : (0 : Int) ≤ (i : Int) + 1 := by omega
 have hin : i ≤ n := by omega
 have htn : ((i : Int) + 1).toNat = i + 1 := by omega
 have hG63 : G ≤ 9223372036854775807 := by unfold maxLen at hGm; omega
 have hGi : ¬ (G = i) := by omega
 have hGim : ¬ (G = i + 1) := by omega
 have hci : ¬ (c = i) := by omega
 have hb3 : (i : Int) ≤ (n : Int) := by omega
 have mixed : Tryz.prog.follows .mixedOrders = true := by kernel_rfl
 clear hz0 hz1 hz2 hi0 hg hsz htk hcl hone hm hx h1 hg1 hm1 hdl hR1l hsz8 hk1 hH1 hl1 hRl hROW hG hold hkk hik hR1 hR2 hzs
 go_enter Tryz.func100, Tryz.ntmps100
 go_wp2_with (at_builtin; refine Lib.wpList_append_run _ rfl _ _ _ _ rfl _ _ rfl rfl _ _ (hrz _) ?_)
 rw [hcpA ((W.alloc (.cells ROW 28)).drew) rfl]
 go_wp2
 go_region_law_o (refine step_copy_runI rfl _ _ 25 25 rfl (.slice (some ⟨W.heap.size, (i + 1) * 8, none⟩) (n - i) (G - (i + 1))) (.slice (some ⟨g, i * 8, none⟩) (n - i) (c - i)) (by simp [Act.eval, Act.put]) (by simp [Act.eval, Act.put]) (hcpB (((W.alloc (.cells ROW 28)).drew.setRow W.heap.size ROW1).drew) rfl 3 (G - (i + 1)) (c - i)) ?_)
 go_wp2
 go_ret
 exact (hFF _).out ⟨rfl, rfl, rfl, rfl⟩
theorem insV_calls {W : World} {base n i m : Nat} {v : Value} {cs xcs : List Value} (HO : W.ownsRow base 28 8 v n cs) (hone : ∀ u ∈ cs, u.oneCell' = true) (hi : i ≤ n) (hl : n ≤ 1000000) (hbase : base ≤ W.heap.size)
    (hm : W.heap[m]? = some (.cells xcs.toArray 28 (0, 0))) (hx : xcs.length = 8) (h1 : ∀ u ∈ xcs, u.oneCell' = true) (hmv : some m ≠ v.ownBlock) :
    Calls Tryz.prog 100 #[v, .int .i64 i, .slice (some ⟨m, 0, none⟩) 1 1] W (InsV W base (n + 1) v (ins cs xcs i)) := by
 obtain ⟨A, c, rfl⟩ := own_slice HO
 rcases Nat.lt_or_ge i n with h | h
 · rcases HO.2 with ⟨h0, h2⟩ | ⟨g, cap, cur, h0, hb, hg, hnc, hcm, hcs, htk⟩
   · omega
   injection h0 with hA _ hc
   subst hA; subst hc
   rcases Nat.lt_or_ge c (n + 1) with hr | hr
   · exact insV_grow hbase hg hcs htk HO.1 hone h hnc hr hl hm hx h1
   exact insV_shift hb hg hcs htk HO.1 hone h hr hcm hm hx h1 (fun e => hmv (by rw [e]; rfl))
 · obtain rfl : i = n := by omega
   rw [ins_end HO.1]
   exact insV_end HO hm hx h1 hl hbase
theorem R_put {α : Type} {d : Kd α} {e base : Nat} {ok : Nat → Prop} {W w1 : World} {v v1 : Value} {ps : List α} {inner : List Value} (h0 : ∀ k, v.ownBlock = some k → ok k) (hr : Reps (d.M W base (fun k => ok k ∧ some k ≠ v.ownBlock)) d.sz ps inner) (hfresh : ∀ k, W.heap.size ≤ k → ok k)
    (hown : w1.ownsRow base e d.sz v1 ps.length inner) (hg : W.grownBy w1 v.ownBlock) (hat : v1.ownBlock = v.ownBlock ∨ v1.ownBlock = some W.heap.size) : d.R e w1 base ok v1 ps := by
 have hne : ∀ k, some k ≠ v.ownBlock → k < W.heap.size → some k ≠ v1.ownBlock := by
  intro k hk hlt
  rcases hat with hat | hat
  · rw [hat]; exact hk
  rw [hat]; intro he; injection he with he; omega
 refine ⟨fun k hk => ?_, inner, hown, hr.imp_ (fun q c hq => ?_)⟩
 · rcases hat with hat | hat
   · exact h0 k (hat ▸ hk)
   rw [hat] at hk; injection hk with hk; exact hfresh k (by omega)
 · have h1 := d.M_move (w1 := w1) (fun k hk => hg.block k hk.2.2.1 hk.1.2) (d.M_bound hq)
   exact d.M_mono (fun k hk => ⟨hk.1.1, hne k hk.1.2 hk.2.2.1⟩) h1
theorem reps_one {w : World} {base : Nat} {ok : Nat → Prop} {xs : List S28} {cs : List Value} (h : Reps (k28.M w base ok) 8 xs cs) : ∀ u ∈ cs, u.oneCell' = true := by
 intro u hu
 obtain ⟨k, hk⟩ := List.getElem?_of_mem hu
 have hlen := h.1
 have hkl : k < cs.length := (List.getElem?_eq_some_iff.1 hk).1
 have hj : k / 8 < xs.length := by omega
 have hM := h.2 (k / 8) _ (List.getElem?_eq_getElem hj)
 refine k28.K_one (k28.K_of_M hM) u ?_
 exact List.mem_iff_getElem?.2 ⟨k - k / 8 * 8, by rw [List.getElem?_take_of_lt (by omega), List.getElem?_drop, show k / 8 * 8 + (k - k / 8 * 8) = k by omega]; exact hk⟩
theorem insV_R {W : World} {base i m : Nat} {ok okp : Nat → Prop} {v : Value} {xs : List S28} {x : S28} {xcs : List Value} (hR : k28.R 28 W base ok v xs) (hM : k28.M W base okp x xcs) (hokp : ∀ k, okp k → ok k ∧ some k ≠ v.ownBlock) (hfresh : ∀ k, W.heap.size ≤ k → ok k)
    (hi : i ≤ xs.length) (hl : xs.length ≤ 1000000) (hbase : base ≤ W.heap.size) (hm : W.heap[m]? = some (.cells xcs.toArray 28 (0, 0))) (hmv : some m ≠ v.ownBlock) :
    Calls Tryz.prog 100 #[v, .int .i64 i, .slice (some ⟨m, 0, none⟩) 1 1] W fun E w' => ∃ v1, E = .returned v1 ∧ k28.R 28 w' base ok v1 (xs.take i ++ [x] ++ xs.drop i) ∧ W.grownBy w' v.ownBlock ∧ (v1.ownBlock = v.ownBlock ∨ v1.ownBlock = some W.heap.size) := by
 obtain ⟨h0, inner, hown, hr⟩ := hR
 have hx := k28.K_len (k28.K_of_M hM)
 refine (insV_calls hown (reps_one hr) hi hl hbase hm hx (k28.K_one (k28.K_of_M hM)) hmv).mono ?_
 rintro E w' ⟨v1, rfl, h1, h2, h3⟩
 refine ⟨v1, rfl, R_put h0 (inner := ins inner xcs i) ?_ hfresh ?_ h2 h3, h2, h3⟩
 · unfold ins
   exact Kd.reps_append (Kd.reps_append (Kd.reps_take hr hi) (by
    have := (Reps.none (k28.M W base (fun k => ok k ∧ some k ≠ v.ownBlock)) k28.sz).snoc (p := x) (c := xcs) (k28.M_mono hokp hM) hx
    simpa using this)) (Kd.reps_drop hr)
 · have : (xs.take i ++ [x] ++ xs.drop i).length = xs.length + 1 := by simp; omega
   rw [this]; exact h1
theorem info9 : (Tryz.prog.info? 9).map (fun i => (i.zero, i.size, i.bytes)) = some (some (.string ⟨#[]⟩), 1, 16) := by kernel_rfl
def inst (cs xcs : List Value) (i : Nat) : List Value := cs.take (i) ++ xcs ++ cs.drop (i)
theorem inst_end {cs xcs : List Value} {n : Nat} (h : cs.length = n * 1) : inst cs xcs n = cs ++ xcs := by
 unfold inst
 rw [List.take_of_length_le (by omega), List.drop_of_length_le (by omega), List.append_nil]
def InsT (W : World) (base n : Nat) (v : Value) (cs : List Value) (E : Ending) (w' : World) : Prop :=
 ∃ v1, E = .returned v1 ∧ w'.ownsRow base 9 1 v1 n cs ∧ W.grownBy w' v.ownBlock ∧ (v1.ownBlock = v.ownBlock ∨ v1.ownBlock = some W.heap.size)
set_option maxRecDepth 100000 in
set_option maxHeartbeats 4000000 in
theorem insT_end {W : World} {base n c m : Nat} {A : Option Addr} {cs xcs : List Value} (HO : W.ownsRow base 9 1 (.slice A n c) n cs) (hm : W.heap[m]? = some (.cells xcs.toArray 9 (0, 0))) (hx : xcs.length = 1) (h1 : ∀ u ∈ xcs, u.oneCell' = true) (hl : n ≤ 1000000) (hbase : base ≤ W.heap.size) :
    Calls Tryz.prog 99 #[.slice A n c, .int .i64 n, .slice (some ⟨m, 0, none⟩) 1 1] W (InsT W base (n + 1) (.slice A n c) (cs ++ xcs)) := by
 obtain ⟨i0, hi, hzz⟩ := Option.map_eq_some_iff.1 info9
 simp only [Prod.mk.injEq] at hzz
 obtain ⟨hz0, hz1, hz2⟩ := hzz
 obtain ⟨v1, w1, hrun, hown1, hg, _, hat⟩ := run_append_own_at (P := Tryz.prog) W base 26 26 9 i0 (.string ⟨#[]⟩) 1 16 Tryz.underlying26 hi hz0 hz1 hz2 rfl (by decide) (.slice A n c) n cs HO ⟨m, 0, none⟩ 1 1 xcs (by omega)
  (fun j u hu => by
   rw [show (⟨m, 0, none⟩ : Addr).add j = ⟨m, j, none⟩ by unfold Addr.add; split <;> simp_all, blk_cell hm]; simpa using hu)
  h1 (by simp only [maxLen]; omega) (by omega) hbase
 have hF : Hid (InsT W base (n + 1) (.slice A n c) (cs ++ xcs) (.returned v1) w1) := hi_ ⟨v1, rfl, hown1, hg, hat⟩
 have hc : n ≤ c := by
  rcases HO.2 with ⟨h0, h2⟩ | ⟨g, cap, cur, h0, _, _, h2, _⟩
  · injection h0 with _ _ h3; omega
  injection h0 with _ _ h3; omega
 have hcI : (n : Int) ≤ (c : Int) := by omega
 have hA : A = none → n = 0 ∧ c = 0 := fun e => by
  rcases HO.2 with ⟨h0, h2⟩ | ⟨g, cap, cur, h0, _⟩
  · injection h0 with _ _ h3; omega
  injection h0 with h3; rw [e] at h3; cases h3
 clear hown1 hg hat hm h1 HO hi hz0 hz1 hz2
 cases A with
 | none =>
  obtain ⟨rfl, rfl⟩ := hA rfl
  go_enter Tryz.func99, Tryz.ntmps99
  go_wp2_with (at_builtin; refine Lib.wpList_append_run _ rfl _ _ _ _ rfl _ _ rfl rfl _ _ hrun ?_)
  go_ret
  exact hF.out
 | some ad =>
  obtain ⟨g, o, sp⟩ := ad
  clear hA
  go_enter Tryz.func99, Tryz.ntmps99
  go_wp2_with (at_builtin; refine Lib.wpList_append_run _ rfl _ _ _ _ rfl _ _ rfl rfl _ _ hrun ?_)
  all_goals (go_ret; exact hF.out)
set_option maxRecDepth 100000 in
set_option maxHeartbeats 8000000 in
theorem insT_shift {W : World} {base g n c i m : Nat} {cur : Array Value} {cs xcs : List Value} (hb : base ≤ g) (hg : W.heap[g]? = some (.cells cur 9 (0, 0))) (hsz : cur.size = c * 1) (htk : cur.toList.take (n * 1) = cs) (hcl : cs.length = n * 1)
    (hone : ∀ u ∈ cs, u.oneCell' = true) (hi : i < n) (hroom : n + 1 ≤ c) (hc : c ≤ maxLen)
    (hm : W.heap[m]? = some (.cells xcs.toArray 9 (0, 0))) (hx : xcs.length = 1) (h1 : ∀ u ∈ xcs, u.oneCell' = true) (hmg : m ≠ g) :
    Calls Tryz.prog 99 #[.slice (some ⟨g, 0, none⟩) n c, .int .i64 i, .slice (some ⟨m, 0, none⟩) 1 1] W (InsT W base (n + 1) (.slice (some ⟨g, 0, none⟩) n c) (inst cs xcs i)) := by
 obtain ⟨i0, hi0, hzz⟩ := Option.map_eq_some_iff.1 info9
 simp only [Prod.mk.injEq] at hzz
 obtain ⟨hz0, hz1, hz2⟩ := hzz
 have hsz8 : (Tryz.prog.info? 9).map (·.size) = some 1 := by rw [hi0]; simp [hz1]
 have hdl : (cs.drop (i)).length = (n - i) * 1 := by rw [List.length_drop, hcl]; omega
 obtain ⟨ROW1, hR1⟩ : ∃ ROW1 : Array Value, ROW1 = (cur.toList.take (i + 1) ++ cs.drop (i) ++ cur.toList.drop ((i + 1) + (cs.drop (i)).length)).toArray := ⟨_, rfl⟩
 have hR1l : ROW1.size = c * 1 := by rw [hR1]; simp [hcl]; omega
 have hov : ∀ lb cb, (callFunc 122 #[.slice (some ⟨m, 0, none⟩) 1 1, .slice (some ⟨g, (i + 1), none⟩) lb cb]).run Tryz.prog W = .ok (.value (.bool false)) W := fun lb cb => by
  rw [run_callFunc_extern Tryz.func122 (by kernel_rfl) (by kernel_rfl) (by kernel_rfl) (e := Extern.SlicesOverlaps.overlaps #[26, 26] #[4]) (by kernel_rfl),
   Lib.run_overlaps_apart W 26 4 9 Tryz.underlying26 1 (fun w => by simp [Go.sizeOf, typeInfo, hi0, hz1]) ⟨m, 0, none⟩ ⟨g, (i + 1), none⟩ 1 1 lb cb hmg 9 9 1 (c * 1) (by simp [World.shape?, hm, hx]) (by simp [World.shape?, hg, hsz]) (by omega) (blk_frozen hm 0) (blk_frozen hm 1)]
  rfl
 have hcp1 : ∀ ty dc sc, (Builtin.copy_ #[26, 26] ty #[.slice (some ⟨g, (i + 1), none⟩) (n - i) dc, .slice (some ⟨g, i, none⟩) (n + 1 - i) sc]).run Tryz.prog W.drew = .ok (goInt ((n - i : Nat) : Int)) (W.drew.setRow g ROW1) := fun ty dc sc => by
  rw [hR1]
  exact copy_rows W.drew 26 26 ty 9 g (i + 1) (n - i) dc ⟨g, i, none⟩ (n + 1 - i) sc (n - i) 1 cur 9 (cs.drop (i)) Tryz.underlying26 hsz8 hg (by simp only [Nat.min_def]; split <;> omega) hdl
   (fun j v hj => by
    have hj2 : j < (n - i) * 1 := by rw [← hdl]; exact (List.getElem?_eq_some_iff.1 hj).1
    rw [show (⟨g, i, none⟩ : Addr).add j = ⟨g, i + j, none⟩ by unfold Addr.add; split <;> simp_all]
    rw [show W.drew.cell? ⟨g, i + j, none⟩ = W.cell? ⟨g, i + j, none⟩ from rfl, blk_cell hg]
    rw [List.getElem?_drop, ← htk, List.getElem?_take] at hj
    split at hj
    · simpa using hj
    cases hj)
   (by rw [hdl, hsz]; omega) (fun u hu => hone u (List.mem_of_mem_drop hu))
 have hg1 : (W.drew.setRow g ROW1).heap[g]? = some (.cells ROW1 9 (0, 0)) := setRow_at (w := W.drew) hg
 have hm1 : (W.drew.setRow g ROW1).heap[m]? = some (.cells xcs.toArray 9 (0, 0)) := ((setRow_grown W.drew g ROW1).block m (Array.getElem?_eq_some_iff.1 hm).1 (by simpa using hmg)).trans hm
 obtain ⟨ROW2, hR2⟩ : ∃ ROW2 : Array Value, ROW2 = (ROW1.toList.take (i) ++ xcs ++ ROW1.toList.drop (i + xcs.length)).toArray := ⟨_, rfl⟩
 have hcp2 : ∀ (U : World), U.heap = (W.drew.setRow g ROW1).heap → ∀ ty dc, (Builtin.copy_ #[26, 26] ty #[.slice (some ⟨g, i, none⟩) (n + 1 - i) dc, .slice (some ⟨m, 0, none⟩) 1 1]).run Tryz.prog U = .ok (goInt 1) (U.setRow g ROW2) := fun U hU ty dc => by
  rw [hR2]
  have hg1' : U.heap[g]? = some (.cells ROW1 9 (0, 0)) := by rw [hU]; exact hg1
  have hm1' : U.heap[m]? = some (.cells xcs.toArray 9 (0, 0)) := by rw [hU]; exact hm1
  exact copy_rows U 26 26 ty 9 g (i) (n + 1 - i) dc ⟨m, 0, none⟩ 1 1 1 1 ROW1 9 xcs Tryz.underlying26 hsz8 hg1' (by simp only [Nat.min_def]; split <;> omega) (by omega)
   (fun j v hj => by
    rw [show (⟨m, 0, none⟩ : Addr).add j = ⟨m, j, none⟩ by unfold Addr.add; split <;> simp_all, blk_cell hm1']
    simpa using hj)
   (by rw [hx, hR1l]; omega) h1
 have hF : Hid (InsT W base (n + 1) (.slice (some ⟨g, 0, none⟩) n c) (inst cs xcs i) (.returned (.slice (some ⟨g, 0, none⟩) (n + 1) c)) ((W.drew.setRow g ROW1).setRow g ROW2)) := by
  have e1 : ROW1.toList = cs.take (i) ++ ((cur.toList.drop (i)).take 1 ++ (cs.drop (i) ++ cur.toList.drop ((i + 1) + (cs.drop (i)).length))) := by
   rw [hR1, List.toList_toArray, ← List.append_assoc, ← List.append_assoc]
   congr 2
   rw [show (i + 1) = i + 1 by omega, List.take_add, row_take htk (by omega)]
  have hl1 : (cs.take (i)).length = i := by rw [List.length_take, hcl]; omega
  have hl2 : ((cur.toList.drop (i)).take 1).length = 1 := by rw [List.length_take, List.length_drop, Array.length_toList, hsz]; omega
  have e2 : ROW2.toList = inst cs xcs i ++ cur.toList.drop ((i + 1) + (cs.drop (i)).length) := by
   rw [hR2, List.toList_toArray, e1, List.take_left' hl1, hx, ← List.drop_drop, List.drop_left' hl1, List.drop_left' hl2]
   unfold inst
   simp only [List.append_assoc]
  have hil : (inst cs xcs i).length = (n + 1) * 1 := by unfold inst; simp only [List.length_append, hl1, hx, hdl, Nat.sub_mul]; omega
  have hR2l : ROW2.size = c * 1 := by
   rw [hR2]; simp [hx, hR1l]; omega
  exact hi_ ⟨_, rfl, ⟨hil, .inr ⟨g, c, ROW2, rfl, hb, setRow_at hg1, hroom, hc, hR2l, by rw [e2, List.take_left' hil]⟩⟩,
   grown_trans (grown_trans (b := W.drew) ⟨rfl, rfl, rfl, Nat.le_refl _, fun _ _ _ => rfl⟩ (setRow_grown _ _ _)) (setRow_grown _ _ _), .inl rfl⟩
 clear hR1 hR2
 have hw1 : IntKind.i64.wrap ((i : Int) + 1) = (i : Int) + 1 := by rw [IntKind.wrap_i64]; unfold maxLen at hc; omega
 have hz2' : ¬ ((i : Int) = (n : Int)) := by omega
 have hc63 : (c : Int) ≤ 9223372036854775807 := by unfold maxLen at hc; omega
 have hb1 : (0 : Int) ≤ (i : Int) + 1 := by omega
 have hin : i ≤ n := by omega
 have htn : ((i : Int) + 1).toNat = i + 1 := by omega
 have hb2 : ¬ (c = i + 1) := by omega
 have hb3 : (i : Int) ≤ (n : Int) + 1 := by omega
 have hb4 : ¬ (c = i) := by omega
 clear hz0 hz1 hz2 hi0 hg hsz htk hcl hone hm hx h1 hg1 hm1 hdl hR1l hsz8
 have mixed : Tryz.prog.follows .mixedOrders = true := by kernel_rfl
 go_enter Tryz.func99, Tryz.ntmps99
 go_wp2_with (simp only [hov])
 go_region_law_o (refine step_copy_runI rfl _ _ 26 26 rfl _ _ (by simp [Act.eval, Act.put]) (by simp [Act.eval, Act.put]) (hcp1 _ _ _) ?_)
 go_wp2_with (at_builtin; refine wpList_copy_runI _ rfl _ _ 26 26 rfl _ _ rfl rfl (hcp2 _ rfl _ _) ?_)
 go_ret
 exact hF.out
set_option maxRecDepth 100000 in
set_option maxHeartbeats 8000000 in
theorem insT_grow {W : World} {base g n c i m : Nat} {cur : Array Value} {cs xcs : List Value} (hbase : base ≤ W.heap.size) (hg : W.heap[g]? = some (.cells cur 9 (0, 0))) (hsz : cur.size = c * 1) (htk : cur.toList.take (n * 1) = cs) (hcl : cs.length = n * 1)
    (hone : ∀ u ∈ cs, u.oneCell' = true) (hi : i < n) (hnc : n ≤ c) (hroom : c < n + 1) (hc : n ≤ 1000000)
    (hm : W.heap[m]? = some (.cells xcs.toArray 9 (0, 0))) (hx : xcs.length = 1) (h1 : ∀ u ∈ xcs, u.oneCell' = true) :
    Calls Tryz.prog 99 #[.slice (some ⟨g, 0, none⟩) n c, .int .i64 i, .slice (some ⟨m, 0, none⟩) 1 1] W (InsT W base (n + 1) (.slice (some ⟨g, 0, none⟩) n c) (inst cs xcs i)) := by
 obtain ⟨i0, hi0, hzz⟩ := Option.map_eq_some_iff.1 info9
 simp only [Prod.mk.injEq] at hzz
 obtain ⟨hz0, hz1, hz2⟩ := hzz
 have hsz8 : (Tryz.prog.info? 9).map (·.size) = some 1 := by rw [hi0]; simp [hz1]
 have hdl : (cs.drop (i)).length = (n - i) * 1 := by rw [List.length_drop, hcl]; omega
 have hzs : (Value.string ⟨#[]⟩).cells.size = 1 := rfl
 have hgl : g < W.heap.size := (Array.getElem?_eq_some_iff.1 hg).1
 have hml : m < W.heap.size := (Array.getElem?_eq_some_iff.1 hm).1
 have hik : i + (n + 1 - i) = n + 1 := by omega
 have hkk : (n : Int) + 1 - (i : Int) = ((n + 1 - i : Nat) : Int) := by omega
 have hold : (Builtin.firstCells i0.size i (.slice (some ⟨g, 0, none⟩) i c)).run Tryz.prog W.drew = .ok (cs.take (i)).toArray W.drew := by
  rw [hz1]
  exact run_firstCells_some W.drew 1 i ⟨g, 0, none⟩ i c (cs.take (i)) (by rw [List.length_take, hcl]; omega) (fun j v hj => by
   rw [show (⟨g, 0, none⟩ : Addr).add j = ⟨g, j, none⟩ by unfold Addr.add; split <;> simp_all, show W.drew.cell? ⟨g, j, none⟩ = W.cell? ⟨g, j, none⟩ from rfl, blk_cell hg]
   rw [List.getElem?_take, ← htk, List.getElem?_take] at hj
   split at hj
   · split at hj
     · simpa using hj
     cases hj
   cases hj)
 have hrz : ∀ ty, (Builtin.append_ #[26, 3] ty #[.slice (some ⟨g, 0, none⟩) i c, .int .i64 ((n : Int) + 1 - (i : Int))]).run Tryz.prog W =
     .ok (.slice (some ⟨W.heap.size, 0, none⟩) (n + 1) (grownCap W (n + 1) c 9)) (W.drew.alloc (.cells ((cs.take (i)).toArray ++ Builtin.zeroCells (Value.string ⟨#[]⟩).cells (n + 1 - i) ++ Builtin.zeroCells (Value.string ⟨#[]⟩).cells (grownCap W (n + 1) c 9 - (n + 1))) 9)) := fun ty => by
  have h := Lib.run_append_grow_zeros W 26 3 ty 9 i0 _ .i64 .i64 Tryz.underlying26 Tryz.underlying3 hi0 hz0 (some ⟨g, 0, none⟩) i c (cs.take (i)) hold (n + 1 - i) (by omega) (by rw [hz1]; decide) (by omega) (by omega) (by rw [hz2]; omega) (by rw [hz2, hik]; exact growslice_fits hroom (by omega))
  rw [hik] at h
  rw [hkk]
  exact h
 obtain ⟨G, hG⟩ : ∃ G, G = grownCap W (n + 1) c 9 := ⟨_, rfl⟩
 have hGn : n + 1 ≤ G := by rw [hG]; exact grownCap_ge W _ _ _
 have hGm : G ≤ maxLen := by rw [hG]; exact grownCap_le_maxLen W (n + 1) c 9 (by unfold maxLen; omega)
 obtain ⟨ROW, hROW⟩ : ∃ ROW : Array Value, ROW = (cs.take (i)).toArray ++ Builtin.zeroCells (Value.string ⟨#[]⟩).cells (n + 1 - i) ++ Builtin.zeroCells (Value.string ⟨#[]⟩).cells (G - (n + 1)) := ⟨_, rfl⟩
 rw [← hG] at hrz
 rw [← hROW] at hrz
 have hl1 : (cs.take (i)).length = i := by rw [List.length_take, hcl]; omega
 have hRl : ROW.size = G * 1 := by
  rw [hROW]
  simp only [Array.size_append, List.size_toArray, size_zeroCells, hzs, hl1]
  omega
 obtain ⟨W1, hW1⟩ : ∃ W1, W1 = W.drew.alloc (.cells ROW 9) := ⟨_, rfl⟩
 have hH1 : W1.heap[W.heap.size]? = some (.cells ROW 9 (0, 0)) := by rw [hW1]; exact blk_new W.drew (.cells ROW 9)
 have hm1 : W1.heap[m]? = some (.cells xcs.toArray 9 (0, 0)) := by rw [hW1]; exact blk_alloc (w := W.drew) hm _
 have hg1 : W1.heap[g]? = some (.cells cur 9 (0, 0)) := by rw [hW1]; exact blk_alloc (w := W.drew) hg _
 have hk1 : W.grownBy W1 (some g) := by rw [hW1]; exact grown_below (Below.alloc (Below.refl _ _).drew (Nat.le_refl _) _) _
 obtain ⟨ROW1, hR1⟩ : ∃ ROW1 : Array Value, ROW1 = (ROW.toList.take (i) ++ xcs ++ ROW.toList.drop (i + xcs.length)).toArray := ⟨_, rfl⟩
 have hR1l : ROW1.size = G * 1 := by rw [hR1]; simp [hx, hRl]; omega
 have hcpA : ∀ (U : World), U.heap = W1.heap → ∀ ty dc, (Builtin.copy_ #[26, 26] ty #[.slice (some ⟨W.heap.size, i, none⟩) (n + 1 - i) dc, .slice (some ⟨m, 0, none⟩) 1 1]).run Tryz.prog U = .ok (goInt 1) (U.setRow W.heap.size ROW1) := fun U hU ty dc => by
  rw [hR1]
  have hH' : U.heap[W.heap.size]? = some (.cells ROW 9 (0, 0)) := by rw [hU]; exact hH1
  have hm1' : U.heap[m]? = some (.cells xcs.toArray 9 (0, 0)) := by rw [hU]; exact hm1
  exact copy_rows U 26 26 ty 9 W.heap.size (i) (n + 1 - i) dc ⟨m, 0, none⟩ 1 1 1 1 ROW 9 xcs Tryz.underlying26 hsz8 hH' (by simp only [Nat.min_def]; split <;> omega) (by omega)
   (fun j v hj => by
    rw [show (⟨m, 0, none⟩ : Addr).add j = ⟨m, j, none⟩ by unfold Addr.add; split <;> simp_all, blk_cell hm1']
    simpa using hj)
   (by rw [hx, hRl]; omega) h1
 have hHN : g ≠ W.heap.size := by omega
 obtain ⟨ROW2, hR2⟩ : ∃ ROW2 : Array Value, ROW2 = (ROW1.toList.take (i + 1) ++ cs.drop (i) ++ ROW1.toList.drop ((i + 1) + (cs.drop (i)).length)).toArray := ⟨_, rfl⟩
 have hcpB : ∀ (U : World), U.heap = (W1.setRow W.heap.size ROW1).heap → ∀ ty dc sc, (Builtin.copy_ #[26, 26] ty #[.slice (some ⟨W.heap.size, (i + 1), none⟩) (n - i) dc, .slice (some ⟨g, i, none⟩) (n - i) sc]).run Tryz.prog U = .ok (goInt ((n - i : Nat) : Int)) (U.setRow W.heap.size ROW2) := fun U hU ty dc sc => by
  rw [hR2]
  have hH' : U.heap[W.heap.size]? = some (.cells ROW1 9 (0, 0)) := by rw [hU]; exact setRow_at hH1
  have hg' : U.heap[g]? = some (.cells cur 9 (0, 0)) := by rw [hU]; exact ((setRow_grown W1 W.heap.size ROW1).block g (Array.getElem?_eq_some_iff.1 hg1).1 (by simpa using hHN)).trans hg1
  exact copy_rows U 26 26 ty 9 W.heap.size (i + 1) (n - i) dc ⟨g, i, none⟩ (n - i) sc (n - i) 1 ROW1 9 (cs.drop (i)) Tryz.underlying26 hsz8 hH' (by simp only [Nat.min_def]; split <;> omega) hdl
   (fun j v hj => by
    rw [show (⟨g, i, none⟩ : Addr).add j = ⟨g, i + j, none⟩ by unfold Addr.add; split <;> simp_all, blk_cell hg']
    rw [List.getElem?_drop, ← htk, List.getElem?_take] at hj
    split at hj
    · simpa using hj
    cases hj)
   (by rw [hdl, hR1l]; omega) (fun u hu => hone u (List.mem_of_mem_drop hu))
 have hF : ∀ U : World, U.heap = (W1.setRow W.heap.size ROW1).heap → U.os = W.os → U.tape = W.tape → U.output = W.output → InsT W base (n + 1) (.slice (some ⟨g, 0, none⟩) n c) (inst cs xcs i) (.returned (.slice (some ⟨W.heap.size, 0, none⟩) (n + 1) G)) (U.setRow W.heap.size ROW2) := by
  intro U hU ho ht hp
  have e1 : ROW.toList.take (i) = cs.take (i) := by
   rw [hROW]; simp only [Array.toList_append, List.append_assoc, List.toList_toArray]; rw [List.take_left' hl1]
  have e2 : ROW1.toList = (cs.take (i) ++ xcs) ++ ROW.toList.drop (i + xcs.length) := by rw [hR1, List.toList_toArray, e1]
  have hl2 : (cs.take (i) ++ xcs).length = (i + 1) := by rw [List.length_append, hl1, hx]
  have e3 : ROW2.toList = inst cs xcs i ++ ROW1.toList.drop ((i + 1) + (cs.drop (i)).length) := by
   rw [hR2, List.toList_toArray, e2, List.take_left' hl2]; unfold inst; rfl
  have hil : (inst cs xcs i).length = (n + 1) * 1 := by unfold inst; simp only [List.length_append, hl1, hx, hdl, Nat.sub_mul]; omega
  have hR2l : ROW2.size = G * 1 := by rw [hR2]; simp [hR1l, hcl]; omega
  have hH' : U.heap[W.heap.size]? = some (.cells ROW1 9 (0, 0)) := by rw [hU]; exact setRow_at hH1
  refine ⟨_, rfl, ⟨hil, .inr ⟨W.heap.size, G, ROW2, rfl, hbase, setRow_at hH', hGn, hGm, hR2l, by rw [e3, List.take_left' hil]⟩⟩, ⟨ho, ht, hp, ?_, fun k hk hn => ?_⟩, .inr rfl⟩
  · have h1 := (setRow_grown U W.heap.size ROW2).size
    have h2 := (setRow_grown W1 W.heap.size ROW1).size
    rw [← hU] at h2
    exact Nat.le_trans hk1.size (Nat.le_trans h2 h1)
  have hkN : k ≠ W.heap.size := by omega
  have hkU : k < U.heap.size := by
   have h2 := (setRow_grown W1 W.heap.size ROW1).size
   rw [← hU] at h2
   have := hk1.size; omega
  have r1 := (setRow_grown U W.heap.size ROW2).block k hkU (by simpa using hkN)
  have r2 := (setRow_grown W1 W.heap.size ROW1).block k (by have := hk1.size; omega) (by simpa using hkN)
  rw [← hU] at r2
  have r3 : W1.heap[k]? = W.heap[k]? := by rw [hW1]; exact (Below.alloc (Below.refl W.heap.size W.drew) (Nat.le_refl _) (.cells ROW 9)).block k hk
  exact r1.trans (r2.trans r3)
 have hFF : ∀ U : World, Hid (U.heap = (W1.setRow W.heap.size ROW1).heap ∧ U.os = W.os ∧ U.tape = W.tape ∧ U.output = W.output → InsT W base (n + 1) (.slice (some ⟨g, 0, none⟩) n c) (inst cs xcs i) (.returned (.slice (some ⟨W.heap.size, 0, none⟩) (n + 1) G)) (U.setRow W.heap.size ROW2)) := fun U => hi_ (fun h => hF U h.1 h.2.1 h.2.2.1 h.2.2.2)
 subst hW1
 clear hF
 have hw1 : IntKind.i64.wrap ((i : Int) + 1) = (i : Int) + 1 := by rw [IntKind.wrap_i64]; omega
 have hz2' : ¬ ((i : Int) = (n : Int)) := by omega
 have hz3 : (c : Int) < (n : Int) + 1 := by omega
 have hb1 : (0 : Int) ≤ (i : Int) + 1 := by omega
 have hin : i ≤ n := by omega
 have htn : ((i : Int) + 1).toNat = i + 1 := by omega
 have hG63 : G ≤ 9223372036854775807 := by unfold maxLen at hGm; omega
 have hGi : ¬ (G = i) := by omega
 have hGim : ¬ (G = i + 1) := by omega
 have hci : ¬ (c = i) := by omega
 have hb3 : (i : Int) ≤ (n : Int) := by omega
 have mixed : Tryz.prog.follows .mixedOrders = true := by kernel_rfl
 clear hz0 hz1 hz2 hi0 hg hsz htk hcl hone hm hx h1 hg1 hm1 hdl hR1l hsz8 hk1 hH1 hl1 hRl hROW hG hold hkk hik hR1 hR2 hzs
 go_enter Tryz.func99, Tryz.ntmps99
 go_wp2_with (at_builtin; refine Lib.wpList_append_run _ rfl _ _ _ _ rfl _ _ rfl rfl _ _ (hrz _) ?_)
 rw [hcpA ((W.alloc (.cells ROW 9)).drew) rfl]
 go_wp2
 go_region_law_o (refine step_copy_runI rfl _ _ 26 26 rfl (.slice (some ⟨W.heap.size, (i + 1), none⟩) (n - i) (G - (i + 1))) (.slice (some ⟨g, i, none⟩) (n - i) (c - i)) (by simp [Act.eval, Act.put]) (by simp [Act.eval, Act.put]) (hcpB (((W.alloc (.cells ROW 9)).drew.setRow W.heap.size ROW1).drew) rfl 3 (G - (i + 1)) (c - i)) ?_)
 go_wp2
 go_ret
 exact (hFF _).out ⟨rfl, rfl, rfl, rfl⟩
theorem insT_calls {W : World} {base n i m : Nat} {v : Value} {cs xcs : List Value} (HO : W.ownsRow base 9 1 v n cs) (hone : ∀ u ∈ cs, u.oneCell' = true) (hi : i ≤ n) (hl : n ≤ 1000000) (hbase : base ≤ W.heap.size)
    (hm : W.heap[m]? = some (.cells xcs.toArray 9 (0, 0))) (hx : xcs.length = 1) (h1 : ∀ u ∈ xcs, u.oneCell' = true) (hmv : some m ≠ v.ownBlock) :
    Calls Tryz.prog 99 #[v, .int .i64 i, .slice (some ⟨m, 0, none⟩) 1 1] W (InsT W base (n + 1) v (inst cs xcs i)) := by
 obtain ⟨A, c, rfl⟩ := own_slice HO
 rcases Nat.lt_or_ge i n with h | h
 · rcases HO.2 with ⟨h0, h2⟩ | ⟨g, cap, cur, h0, hb, hg, hnc, hcm, hcs, htk⟩
   · omega
   injection h0 with hA _ hc
   subst hA; subst hc
   rcases Nat.lt_or_ge c (n + 1) with hr | hr
   · exact insT_grow hbase hg hcs htk HO.1 hone h hnc hr hl hm hx h1
   exact insT_shift hb hg hcs htk HO.1 hone h hr hcm hm hx h1 (fun e => hmv (by rw [e]; rfl))
 · obtain rfl : i = n := by omega
   rw [inst_end HO.1]
   exact insT_end HO hm hx h1 hl hbase
theorem reps_oneT {w : World} {base : Nat} {ok : Nat → Prop} {xs : List ByteArray} {cs : List Value} (h : Reps (Kd.string.M w base ok) Kd.string.sz xs cs) : ∀ u ∈ cs, u.oneCell' = true :=
 Kd.reps_one h (by decide) (fun _ _ hp => Kd.string.K_one (Kd.string.K_of_M hp))
theorem insT_R {W : World} {base i m : Nat} {ok okp : Nat → Prop} {v : Value} {xs : List ByteArray} {x : ByteArray} {xcs : List Value} (hR : Kd.string.R 9 W base ok v xs) (hM : Kd.string.M W base okp x xcs) (hokp : ∀ k, okp k → ok k ∧ some k ≠ v.ownBlock) (hfresh : ∀ k, W.heap.size ≤ k → ok k)
    (hi : i ≤ xs.length) (hl : xs.length ≤ 1000000) (hbase : base ≤ W.heap.size) (hm : W.heap[m]? = some (.cells xcs.toArray 9 (0, 0))) (hmv : some m ≠ v.ownBlock) :
    Calls Tryz.prog 99 #[v, .int .i64 i, .slice (some ⟨m, 0, none⟩) 1 1] W fun E w' => ∃ v1, E = .returned v1 ∧ Kd.string.R 9 w' base ok v1 (xs.take i ++ [x] ++ xs.drop i) ∧ W.grownBy w' v.ownBlock ∧ (v1.ownBlock = v.ownBlock ∨ v1.ownBlock = some W.heap.size) := by
 obtain ⟨h0, inner, hown, hr⟩ := hR
 have hx := Kd.string.K_len (Kd.string.K_of_M hM)
 refine (insT_calls hown (reps_oneT hr) hi hl hbase hm hx (Kd.string.K_one (Kd.string.K_of_M hM)) hmv).mono ?_
 rintro E w' ⟨v1, rfl, h1, h2, h3⟩
 refine ⟨v1, rfl, R_put h0 (inner := inst inner xcs i) ?_ hfresh ?_ h2 h3, h2, h3⟩
 · unfold inst
   have hT := Kd.reps_take (m := i) hr hi
   have hD := Kd.reps_drop (m := i) hr
   rw [show i * Kd.string.sz = i from Nat.mul_one i] at hT hD
   exact Kd.reps_append (Kd.reps_append hT (by
    have := (Reps.none (Kd.string.M W base (fun k => ok k ∧ some k ≠ v.ownBlock)) Kd.string.sz).snoc (p := x) (c := xcs) (Kd.string.M_mono hokp hM) hx
    simpa using this)) hD
 · have : (xs.take i ++ [x] ++ xs.drop i).length = xs.length + 1 := by simp; omega
   rw [this]; exact h1
end Js
end Go.Proofs.YtapcpndplnkfjaaGreatDoor
namespace Go.Proofs
open Go.Shelf Go.RowKit
def Tryz.lays262b_ren : Go.Shelf.Ren := ⟨fun | 26 => 63 | 33 => 91 | 34 => 92 | 38 => 116 | n => n, fun | 0 => 0 | 3 => 3 | 4 => 4 | 9 => 9 | 24 => 26 | 40 => 132 | n => n, fun | n => n⟩
theorem Tryz.lays262b : Go.Proofs.Lays2.n26 Tryz.prog Tryz.lays262b_ren := {
  mixed := by kernel_rfl
  f26 := Tryz.func63.trans (congrArg some (by kernel_rfl))
  f33 := Tryz.func91.trans (congrArg some (by kernel_rfl))
  f34 := Tryz.func92.trans (congrArg some (by kernel_rfl))
  f38 := Tryz.func116.trans (congrArg some (by kernel_rfl))
  t0 := Tryz.underlying0
  a0 := Tryz.isAgg0
  z0 := Tryz.sizeOf0
  v0 := Tryz.zeroValue0
  t3 := Tryz.underlying3
  a3 := Tryz.isAgg3
  z3 := Tryz.sizeOf3
  v3 := Tryz.zeroValue3
  t4 := Tryz.underlying4
  a4 := Tryz.isAgg4
  z4 := Tryz.sizeOf4
  v4 := Tryz.zeroValue4
  t9 := Tryz.underlying9
  a9 := Tryz.isAgg9
  z9 := Tryz.sizeOf9
  v9 := Tryz.zeroValue9
  t24 := Tryz.underlying26
  a24 := Tryz.isAgg26
  z24 := Tryz.sizeOf26
  v24 := Tryz.zeroValue26
  t40 := Tryz.underlying132
  a40 := Tryz.isAgg132
  z40 := Tryz.sizeOf132
  v40 := Tryz.zeroValue132
}
end Go.Proofs
namespace Go.Proofs.YtapcpndplnkfjaaGreatDoor
open Go.RowKit Go.Proofs.YtapcpndplnkfjaaGreatDoorW.PrintWords Go.Proofs.YtapcpndplnkfjaaGreatDoorW.PrintLast Go.Proofs.YtapcpndplnkfjaaGreatDoorW.PrintMore
namespace Js
def pos (ns : List ByteArray) (x : ByteArray) : Nat := Lib.bsGo (fun t => Op.bytesLess (ns.getD t ⟨#[]⟩).toList x.toList) ns.length 0 ns.length
def has (ns : List ByteArray) (x : ByteArray) : Bool := decide (pos ns x < ns.length ∧ ns.getD (pos ns x) ⟨#[]⟩ = x)
theorem search_calls {w : World} {base : Nat} {ok : Nat → Prop} {v : Value} {ns : List ByteArray} (x : ByteArray) (hR : Kd.string.R 9 w base ok v ns) (hl : ns.length ≤ 1000000) :
    Calls Tryz.prog 63 #[v, .string x] w fun E w' => E = .returned (.tuple #[.int .i64 (pos ns x : Nat), .bool (has ns x)]) ∧ ∃ q, w' = w.drewN q := by
 obtain ⟨A, c, hv, hlc, hC⟩ := Kd.R_reads hR
 obtain ⟨inner, hown⟩ := Kd.R_own hR
 rcases hown.2 with ⟨h0, h2⟩ | ⟨g, cap, cur, h0, hb, hg, hnc, hcm, hcs, htk⟩
 · have : ns = [] := List.eq_nil_of_length_eq_zero h2
   subst this; subst h0
   exact (Any2.slices_BinarySearch_string_empty Tryz.lays262b none 0 x w).mono fun e w' hh => ⟨hh.1.trans rfl, 0, hh.2⟩
 · subst h0
   refine (Any2.slices_BinarySearch_string Tryz.lays262b g 0 ns.length cap (fun t => ns.getD t ⟨#[]⟩) x w (by omega) (fun j hj => ?_)).mono fun e w' hh => ⟨hh.1, hh.2⟩
   injection hv with hA _ _
   obtain ⟨ad, cc, e, _, hK, hc0⟩ := Kd.C_get hC ⟨#[]⟩ j (by omega) (by omega)
   rw [← hA] at e
   injection e with e
   subst e
   have hk : cc = [.string (ns.getD j ⟨#[]⟩)] := hK
   have h := hc0 0 (.string (ns.getD j ⟨#[]⟩)) (by rw [hk]; rfl)
   rw [show (⟨g, 0, none⟩ : Addr).add (((j : Int)).toNat * Kd.string.sz + 0) = ⟨g, 0 + j, none⟩ by
    have e1 : ((j : Int)).toNat * Kd.string.sz + 0 = j := by rw [Int.toNat_natCast]; exact Nat.mul_one j
    rw [e1]; unfold Addr.add; split <;> simp_all] at h
   exact h
theorem bs_le (less : Nat → Bool) : ∀ (f lo hi : Nat), lo ≤ hi → Lib.bsGo less f lo hi ≤ hi
 | 0, lo, hi, h => by simp [Lib.bsGo]; exact h
 | f + 1, lo, hi, h => by
  unfold Lib.bsGo
  split
  · split
    · exact bs_le less f _ hi (by omega)
    exact Nat.le_trans (bs_le less f lo _ (by omega)) (by omega)
  exact h
theorem pos_le (ns : List ByteArray) (x : ByteArray) : pos ns x ≤ ns.length := bs_le _ _ _ _ (Nat.zero_le _)
variable {σ : Type}
def listLoop (st : σ → S → σ × S) : Nat → σ → S → σ × S
 | 0, x, a => (x, a)
 | k + 1, x, a => if a.took [44] = true then listLoop st k (st x (a.take [44])).1 (st x (a.take [44])).2 else (x, a.take [44])
def S.left (a : S) : S := { a with o := a.o - 1 }
def listF (st : σ → S → σ × S) (p : List UInt8) (x : σ) (a : S) : σ × S :=
 if a.enter.took p = true then (x, (a.enter.take p).left) else
 let r := st x (a.enter.take p)
 let q := listLoop st (r.2.s.length + 1) r.1 r.2
 (q.1, (q.2.need p).left)
structure Thing (w : World) (g fn : Nat) (cap : Array Value) (Inv : World → σ → Prop) (st : σ → S → σ × S) (P P1 : σ → S → Prop) : Prop where
  calls : ∀ w1 x a, Rd w w1 g a → Inv w1 x → P x a → Calls Tryz.prog fn cap w1 fun E w' => E = .returned (.tuple #[]) ∧ Rd w w' g (st x a).2 ∧ Inv w' (st x a).1
  kept : ∀ w1 w2 x, Inv w1 x → w1.grownBy w2 (some g) → Inv w2 x
  len : ∀ x a, P x a → (st x a).2.s.length ≤ a.s.length
  step : ∀ x a, P x a → P1 (st x a).1 (st x a).2
  more : ∀ x a, P1 x a → a.took [44] = true → P x (a.take [44])
  open_ : ∀ x a, P1 x a → 0 ≤ a.o ∧ a.o ≤ 1000
theorem take_o (a : S) (p : List UInt8) : (a.take p).o = a.o := by unfold S.take; split <;> rfl
theorem need_o (a : S) (p : List UInt8) : (a.need p).o = a.o := by
 unfold S.need S.fail
 split <;> exact take_o a p
theorem skip_len (a : S) : a.skip.s.length ≤ a.s.length := by
 unfold S.skip Lib.trimLeftS
 exact (List.dropWhile_sublist _).length_le
theorem took_lt (a : S) (c : UInt8) (h : a.took [c] = true) : (a.take [c]).s.length < a.s.length := by
 have h1 := skip_len a
 have hp : Lib.hasPrefix a.skip.s [c] = true := by unfold S.took at h; simp at h; exact h.1
 unfold S.take
 rw [if_pos h]
 show (Lib.trimPrefix a.skip.s [c]).length < a.s.length
 unfold Lib.trimPrefix
 rw [if_pos hp]
 cases hs : a.skip.s with
 | nil => rw [hs] at hp; simp [Lib.hasPrefix] at hp
 | cons d t => rw [hs] at h1; simp at h1 ⊢; omega
set_option maxRecDepth 100000 in
set_option maxHeartbeats 8000000 in
theorem list_67 {w w1 : World} {g : Nat} {cap : Array Value} {Inv : World → σ → Prop} {st : σ → S → σ × S} {P P1 : σ → S → Prop} (HT : Thing w g 96 cap Inv st P P1) (p : List UInt8) {x : σ} {a : S} (h : Rd w w1 g a) (hI : Inv w1 x) (ho : 0 ≤ a.o ∧ a.o ≤ 100) (hs : a.s ≠ [])
    (hP : a.enter.took p = false → P x (a.enter.take p)) (hop : 0 ≤ a.enter.o ∧ a.enter.o ≤ 1000) :
    Calls Tryz.prog 95 #[.pointer (some ⟨g, 0, none⟩), .string (ofL p), .func (.func 96) #[] cap] w1 fun E w' => E = .returned (.tuple #[]) ∧ Rd w w' g (listF st p x a).2 ∧ Inv w' (listF st p x a).1 := by
 have H := hi_ h
 have HI := hi_ hI
 have HTT := hi_ HT
 have HOS := hi_ (And.intro ho hs)
 have HP := hi_ hP
 have HOP := hi_ hop
 obtain ⟨R, hR⟩ : ∃ R, listF st p x a = R := ⟨_, rfl⟩
 have HR := hi_ hR
 rw [hR]
 clear h hI HT ho hs hP hop hR
 go_enter Tryz.func95, Tryz.ntmps95
 go_wp2_with fail
 refine (enter_calls H.out.now HOS.out.1 HOS.out.2).mono ?_
 rintro E w2 ⟨rfl, h2⟩
 have HI2 := hi_ (HTT.out.kept _ _ _ HI.out h2.kp)
 have H2 := hi_ (H.out.trans h2)
 clear h2
 go_wp2_with fail
 refine (took_calls H2.out.now p).mono ?_
 rintro E w3 ⟨rfl, h3⟩
 have HI3 := hi_ (HTT.out.kept _ _ _ HI2.out h3.kp)
 have H3 := hi_ (H2.out.trans h3)
 clear h3
 cases hk : a.enter.took p with
 | true =>
  have HF : Hid ((a.enter.take p).left = R.2 ∧ R.1 = x) := hi_ (by rw [← HR.out]; unfold listF; rw [if_pos hk]; exact ⟨rfl, rfl⟩)
  have c1 := H3.out.c1
  have f1 := H3.out.fz 1
  have o0 : 0 ≤ (a.enter.take p).o := by rw [take_o]; exact HOP.out.1
  have o1 : (a.enter.take p).o ≤ 1000 := by rw [take_o]; exact HOP.out.2
  clear hk
  go_wp2
  go_end0
  exact ⟨rfl, by rw [← HF.out.1]; exact H3.out.s1 _, by rw [HF.out.2]; exact HTT.out.kept _ _ _ HI3.out (grown_set _ _ _ _)⟩
 | false =>
  have HF : Hid (listLoop st ((st x (a.enter.take p)).2.s.length + 1) (st x (a.enter.take p)).1 (st x (a.enter.take p)).2 = (R.1, (listLoop st ((st x (a.enter.take p)).2.s.length + 1) (st x (a.enter.take p)).1 (st x (a.enter.take p)).2).2) ∧ ((listLoop st ((st x (a.enter.take p)).2.s.length + 1) (st x (a.enter.take p)).1 (st x (a.enter.take p)).2).2.need p).left = R.2) := hi_ (by
   rw [← HR.out]; unfold listF; rw [if_neg (by rw [hk]; simp)]; exact ⟨rfl, rfl⟩)
  have HPx := hi_ (HP.out hk)
  clear hk
  go_wp2_with fail
  refine (HTT.out.calls _ _ _ H3.out HI3.out HPx.out).mono ?_
  rintro E w4 ⟨rfl, h4, hI4⟩
  have H4 := hi_ h4
  have HI4 := hi_ hI4
  have HP4 := hi_ (HTT.out.step _ _ HPx.out)
  clear h4 hI4
  generalize hx1 : (st x (a.enter.take p)).1 = x1 at *
  generalize ha1 : (st x (a.enter.take p)).2 = a1 at *
  generalize hq : (listLoop st (a1.s.length + 1) x1 a1).2 = q at *
  go_wp2_with fail
  go_loopg [] a1.s.length (fun gk wr => ∃ y b k, gk = b.s.length ∧ b.s.length < k ∧ Rd w wr g b ∧ Inv wr y ∧ P1 y b ∧ listLoop st k y b = (R.1, q))
  case atStart => exact ⟨x1, a1, a1.s.length + 1, rfl, Nat.lt_succ_self _, H4.out, HI4.out, HP4.out, HF.out.1⟩
  case round =>
   obtain ⟨y, b, k, rfl, hk, hrd, hinv, hp1, hll⟩ := hrel
   have H5 := hi_ hrd
   have HI5 := hi_ hinv
   have HP5 := hi_ hp1
   have HLL := hi_ hll
   have HK := hi_ hk
   clear hrd hinv hp1 hll hk
   go_wp2_with fail
   refine (took_calls H5.out.now [44]).mono ?_
   rintro E w6 ⟨rfl, h6⟩
   have HI6 := hi_ (HTT.out.kept _ _ _ HI5.out h6.kp)
   have H6 := hi_ (H5.out.trans h6)
   clear h6
   cases hk : b.took [44] with
   | true =>
    have HPy := hi_ (HTT.out.more _ _ HP5.out hk)
    have HLT := hi_ (took_lt b 44 hk)
    have HL2 : Hid (listLoop st (k - 1) (st y (b.take [44])).1 (st y (b.take [44])).2 = (R.1, q)) := hi_ (by
     have hl := HLL.out
     obtain ⟨k', rfl⟩ : ∃ k', k = k' + 1 := ⟨k - 1, by have := HK.out; omega⟩
     rw [listLoop, if_pos hk] at hl
     exact hl)
    clear hk
    go_wp2_with fail
    refine (HTT.out.calls _ _ _ H6.out HI6.out HPy.out).mono ?_
    rintro E w7 ⟨rfl, h7, hI7⟩
    have H7 := hi_ h7
    have HI7 := hi_ hI7
    clear h7 hI7
    go_wp2
    go_roundg ((st y (b.take [44])).2.s.length)
    case measure => have := HTT.out.len _ _ HPy.out; have := HLT.out; omega
    case rel => exact ⟨_, _, k - 1, rfl, by have := HTT.out.len _ _ HPy.out; have := HLT.out; have := HK.out; omega, H7.out, HI7.out, HTT.out.step _ _ HPy.out, HL2.out⟩
   | false =>
    have HQ : Hid (y = R.1 ∧ b.take [44] = q) := hi_ (by
     have hl := HLL.out
     obtain ⟨k', rfl⟩ : ∃ k', k = k' + 1 := ⟨k - 1, by have := HK.out; omega⟩
     rw [listLoop, if_neg (by rw [hk]; simp)] at hl
     injection hl with h1 h2
     exact ⟨h1, h2⟩)
    have HOB := hi_ (HTT.out.open_ _ _ HP5.out)
    clear hk
    go_wp2_with fail
    refine (need_calls H6.out.now p).mono ?_
    rintro E w8 ⟨rfl, h8⟩
    have HI8 := hi_ (HTT.out.kept _ _ _ HI6.out h8.kp)
    have H8 := hi_ (H6.out.trans h8)
    clear h8
    have c1 := H8.out.c1
    have f1 := H8.out.fz 1
    have o0 : 0 ≤ ((b.take [44]).need p).o := by rw [need_o, take_o]; exact HOB.out.1
    have o1 : ((b.take [44]).need p).o ≤ 1000 := by rw [need_o, take_o]; exact HOB.out.2
    go_wp2
    go_end0
    exact ⟨rfl, by rw [← HF.out.2, ← HQ.out.2]; exact H8.out.s1 _, by rw [← HQ.out.1]; exact HTT.out.kept _ _ _ HI8.out (grown_set _ _ _ _)⟩
theorem next_more {P : Program} {ops : Array Oper} {rest : List Oper} {o : Oper} {a : Act} {w : World} {Q : Exit → Act → World → Prop} (hg : o.guard = none) (x : Operand) (ho : o.op = .next x true) (it : Nat) (s : ByteArray) (pos : Nat)
    (hb : w.heap[it]? = some (.stringIter s pos)) (hx : a.eval x = .pointer (some ⟨it, 0, none⟩)) (hp : pos < s.size)
    (h : ∀ w1, w1.heap[it]? = some (.stringIter s (pos + (Utf8.decode s pos).2)) → w.grownBy w1 (some it) → wpList P ops Q rest (a.put o.dst (.tuple #[.bool true, .int .i64 pos, .int .i32 (Utf8.decode s pos).1])) w1) : wpList P ops Q (o :: rest) a w := by
 have hr : ∀ ty, (Instr.next (.pointer (some ⟨it, 0, none⟩)) true ty).run P w = .ok (.tuple #[.bool true, .int .i64 pos, .int .i32 (Utf8.decode s pos).1]) { w with heap := w.heap.setIfInBounds it (.stringIter s (pos + (Utf8.decode s pos).2)) } := fun ty => by
  simp only [Instr.next, getObj, setObj, Sem.run_bind, Sem.run, hb, Result.andThen, hp, if_true]
  simp [goInt]
 refine wpList_plain hg fun K' hK' => ?_
 unfold Oper.wp
 simp [execOp, ho, hx, hr, Result.andThen]
 exact hK' _ _ (h _ (MapKept.heap_set hb).1 ⟨rfl, rfl, rfl, by simp, fun i _ hi => (MapKept.heap_set hb).2 i (by simpa using hi)⟩)
theorem next_over {P : Program} {ops : Array Oper} {rest : List Oper} {o : Oper} {a : Act} {w : World} {Q : Exit → Act → World → Prop} (hg : o.guard = none) (x : Operand) (ho : o.op = .next x true) (it : Nat) (s : ByteArray) (pos : Nat)
    (hb : w.heap[it]? = some (.stringIter s pos)) (hx : a.eval x = .pointer (some ⟨it, 0, none⟩)) (hp : ¬ pos < s.size)
    (h : wpList P ops Q rest (a.put o.dst (.tuple #[.bool false])) w) : wpList P ops Q (o :: rest) a w := by
 have hr : ∀ ty, (Instr.next (.pointer (some ⟨it, 0, none⟩)) true ty).run P w = .ok (.tuple #[.bool false]) w := fun ty => by
  simp only [Instr.next, getObj, setObj, Sem.run_bind, Sem.run, hb, Result.andThen, hp, if_false]
  simp [goInt]
 refine wpList_plain hg fun K' hK' => ?_
 unfold Oper.wp
 simp [execOp, ho, hx, hr, Result.andThen]
 exact hK' _ _ h
theorem decode_adv (s : ByteArray) (pos : Nat) : 1 ≤ (Utf8.decode s pos).2 := by
 simp only [Utf8.decode]
 repeat' split
 all_goals simp_all [Utf8.runeError]
def plainF (s : ByteArray) : Nat → Nat → Nat × Bool
 | 0, k => (k, false)
 | n + 1, k =>
  if k < s.size then
   if (Utf8.decode s k).1 = 34 ∨ (Utf8.decode s k).1 = 92 then (k, true) else
   if (Utf8.decode s k).1 < 32 then (k, false) else
   if (Utf8.decode s k).1 = 65533 ∧ (Lib.decodeGo (s.extract k s.size)).2 < 2 then (k, false) else plainF s n (k + (Utf8.decode s k).2)
  else (s.size, false)
set_option maxRecDepth 100000 in
set_option maxHeartbeats 4000000 in
theorem plain_calls (s : ByteArray) (w : World) (hT : Tabs w) (hl : s.size ≤ 1000000) :
    Calls Tryz.prog 118 #[.string s] w fun E w' => E = .returned (.tuple #[.int .i64 ((plainF s (s.size + 1) 0).1 : Nat), .bool (plainF s (s.size + 1) 0).2]) ∧ Below w.heap.size w w' := by
 have HTB := hi_ hT
 obtain ⟨R, hR⟩ : ∃ R, plainF s (s.size + 1) 0 = R := ⟨_, rfl⟩
 have HR := hi_ hR
 rw [hR]
 clear hT hR
 go_enter Tryz.func118, Tryz.ntmps118
 go_wp2_with fail
 go_loopg [] (s.size + 1) (fun gk wr => ∃ k n, gk = s.size + 1 - k ∧ (s.size < n + k ∧ 1 ≤ n) ∧ Hid (wr.heap[w.heap.size]? = some (.stringIter s k)) ∧ Hid (Below w.heap.size w wr) ∧ Hid (plainF s n k = R))
 case atStart => exact ⟨0, s.size + 1, by omega, ⟨by omega, by omega⟩, hi_ (w.iter_heap s 0), hi_ (Below.alloc (Below.refl _ _) (Nat.le_refl _) _), HR⟩
 case round =>
  obtain ⟨k, n, rfl, hn, HIT, HB, HF⟩ := hrel
  have HN := hi_ hn
  clear HR hn
  by_cases hk : k < s.size
  · have HF2 : Hid ((if (Utf8.decode s k).1 = 34 ∨ (Utf8.decode s k).1 = 92 then (k, true) else if (Utf8.decode s k).1 < 32 then (k, false) else if (Utf8.decode s k).1 = 65533 ∧ (Lib.decodeGo (s.extract k s.size)).2 < 2 then (k, false) else plainF s (n - 1) (k + (Utf8.decode s k).2)) = R) := hi_ (by
      have hf := HF.out
      obtain ⟨n', rfl⟩ : ∃ n', n = n' + 1 := ⟨n - 1, by have := HN.out; omega⟩
      rw [plainF, if_pos hk] at hf
      exact hf)
    have HADV := hi_ (decode_adv s k)
    have hkI : (k : Int) ≤ 1000000 := by omega
    have hks : (k : Int) ≤ (s.size : Int) := by omega
    have HK := hi_ hk
    clear HF hk
    obtain ⟨d, hd⟩ : ∃ d, (Utf8.decode s k).1 = d := ⟨_, rfl⟩
    have hd3 : (d : Int) ≤ 2147483647 := by rw [← hd]; have := decode_le s k; omega
    have HD := hi_ hd
    clear hd
    rw [HD.out] at HF2
    by_cases c1 : d = 34 ∨ d = 92
    · have HRR : Hid ((k, true) = R) := hi_ (by have := HF2.out; rw [if_pos c1] at this; exact this)
      rcases c1 with c1 | c1
      · subst c1
        go_wp2_with (refine next_more rfl (.tmp 9) rfl w.heap.size s k HIT.out rfl HK.out ?_; intro w2 hi2 hk2; rw [HD.out])
        have hb2 := HB.out.grown hk2 HB.out.size (fun i e => Nat.le_of_eq (Option.some.inj e))
        exact bodyPost_ret (results_list (rs := [.tmp 2, .tmp 3]) rfl (by simp) (.tmp (.tmp .nil))) rfl ⟨by rw [← HRR.out]; rfl, hb2⟩
      subst c1
      go_wp2_with (refine next_more rfl (.tmp 9) rfl w.heap.size s k HIT.out rfl HK.out ?_; intro w2 hi2 hk2; rw [HD.out])
      have hb2 := HB.out.grown hk2 HB.out.size (fun i e => Nat.le_of_eq (Option.some.inj e))
      exact bodyPost_ret (results_list (rs := [.tmp 2, .tmp 3]) rfl (by simp) (.tmp (.tmp .nil))) rfl ⟨by rw [← HRR.out]; rfl, hb2⟩
    · have q1 : ((d : Int) == 34) = false := by simp; omega
      have q2 : ((d : Int) == 92) = false := by simp; omega
      by_cases c2 : d < 32
      · have HRR : Hid ((k, false) = R) := hi_ (by have := HF2.out; rw [if_neg c1, if_pos c2] at this; exact this)
        have q3 : (d : Int) < 32 := by omega
        clear c1 c2
        go_wp2_with (refine next_more rfl (.tmp 9) rfl w.heap.size s k HIT.out rfl HK.out ?_; intro w2 hi2 hk2; rw [HD.out])
        have hb2 := HB.out.grown hk2 HB.out.size (fun i e => Nat.le_of_eq (Option.some.inj e))
        exact bodyPost_ret (results_list (rs := [.tmp 2, .tmp 3]) rfl (by simp) (.tmp (.tmp .nil))) rfl ⟨by rw [← HRR.out]; rfl, hb2⟩
      have q3 : (32 : Int) ≤ (d : Int) := by omega
      by_cases c3 : d = 65533
      · subst c3
        obtain ⟨m, hm⟩ : ∃ m, (Lib.decodeGo (s.extract k s.size)).2 = m := ⟨_, rfl⟩
        have HM := hi_ hm
        rw [HM.out] at HF2
        clear hm
        by_cases c4 : m < 2
        · have HRR : Hid ((k, false) = R) := hi_ (by have := HF2.out; rw [if_neg c1, if_neg c2, if_pos ⟨rfl, c4⟩] at this; exact this)
          have q4 : (m : Int) < 2 := by omega
          clear c1 c2 c4
          go_wp2_with (refine next_more rfl (.tmp 9) rfl w.heap.size s k HIT.out rfl HK.out ?_; intro w2 hi2 hk2; rw [HD.out])
          refine (Tryz.utf8_DecodeRuneInString _ _ (HTB.out.below (HB.out.grown hk2 HB.out.size (fun i e => Nat.le_of_eq (Option.some.inj e)))).u8).mono ?_
          rintro E w3 ⟨rfl, hb⟩
          rw [HM.out]
          have hb3 := (HB.out.grown hk2 HB.out.size (fun i e => Nat.le_of_eq (Option.some.inj e))).trans (hb.mono (Nat.le_trans HB.out.size hk2.size))
          have hi3 := (hb.block w.heap.size (Array.getElem?_eq_some_iff.1 hi2).1).trans hi2
          go_wp2
          exact bodyPost_ret (results_list (rs := [.tmp 2, .tmp 3]) rfl (by simp) (.tmp (.tmp .nil))) rfl ⟨by rw [← HRR.out]; rfl, hb3⟩
        have HRR : Hid (plainF s (n - 1) (k + (Utf8.decode s k).2) = R) := hi_ (by have := HF2.out; rw [if_neg c1, if_neg c2, if_neg (fun h => c4 h.2)] at this; exact this)
        have q4 : (2 : Int) ≤ (m : Int) := by omega
        clear c1 c2 c4
        go_wp2_with (refine next_more rfl (.tmp 9) rfl w.heap.size s k HIT.out rfl HK.out ?_; intro w2 hi2 hk2; rw [HD.out])
        refine (Tryz.utf8_DecodeRuneInString _ _ (HTB.out.below (HB.out.grown hk2 HB.out.size (fun i e => Nat.le_of_eq (Option.some.inj e)))).u8).mono ?_
        rintro E w3 ⟨rfl, hb⟩
        rw [HM.out]
        have hb3 := (HB.out.grown hk2 HB.out.size (fun i e => Nat.le_of_eq (Option.some.inj e))).trans (hb.mono (Nat.le_trans HB.out.size hk2.size))
        have hi3 := (hb.block w.heap.size (Array.getElem?_eq_some_iff.1 hi2).1).trans hi2
        go_wp2
        go_roundg (s.size + 1 - (k + (Utf8.decode s k).2))
        case measure => have := HADV.out; have := HK.out; omega
        case rel => exact ⟨_, n - 1, rfl, by have := HADV.out; have := HN.out; have := HK.out; exact ⟨by omega, by omega⟩, hi_ hi3, hi_ hb3, HRR⟩
      have q4 : ((d : Int) == 65533) = false := by simp; omega
      have HRR : Hid (plainF s (n - 1) (k + (Utf8.decode s k).2) = R) := hi_ (by have := HF2.out; rw [if_neg c1, if_neg c2, if_neg (fun h => c3 h.1)] at this; exact this)
      clear c1 c2 c3
      go_wp2_with (refine next_more rfl (.tmp 9) rfl w.heap.size s k HIT.out rfl HK.out ?_; intro w2 hi2 hk2; rw [HD.out])
      have hb2 := HB.out.grown hk2 HB.out.size (fun i e => Nat.le_of_eq (Option.some.inj e))
      go_roundg (s.size + 1 - (k + (Utf8.decode s k).2))
      case measure => have := HADV.out; have := HK.out; omega
      case rel => exact ⟨_, n - 1, rfl, by have := HADV.out; have := HN.out; have := HK.out; exact ⟨by omega, by omega⟩, hi_ hi2, hi_ hb2, HRR⟩
  · have HRR : Hid ((s.size, false) = R) := hi_ (by
      have hf := HF.out
      cases n with
      | zero => exact absurd HN.out (by omega)
      | succ n => rw [plainF, if_neg hk] at hf; exact hf)
    have HK := hi_ hk
    clear hk HF
    go_wp2_with (refine next_over rfl (.tmp 9) rfl w.heap.size s k HIT.out rfl HK.out ?_)
    exact bodyPost_ret (results_list (rs := [.tmp 2, .tmp 3]) rfl (by simp) (.tmp (.tmp .nil))) rfl ⟨by rw [← HRR.out]; rfl, HB.out⟩
end Js
end Go.Proofs.YtapcpndplnkfjaaGreatDoor
namespace Go.Proofs
open Go.Shelf Go.RowKit
def Tryz.lays240_ren : Go.Shelf.Ren := ⟨fun | 240 => 114 | 276 => 143 | n => n, fun | 0 => 0 | 3 => 3 | 4 => 4 | 5 => 5 | 9 => 9 | 20 => 20 | 37 => 38 | 70 => 124 | 72 => 126 | 164 => 172 | 138 => 191 | 75 => 128 | 80 => 115 | n => n, fun | n => n⟩
def Tryz.lays166_ren : Go.Shelf.Ren := ⟨fun | 166 => 85 | 240 => 114 | 276 => 143 | n => n, fun | 0 => 0 | 3 => 3 | 4 => 4 | 5 => 5 | 9 => 9 | 20 => 20 | 37 => 38 | 70 => 124 | 72 => 126 | 164 => 172 | 138 => 191 | 75 => 128 | 80 => 115 | n => n, fun | n => n⟩
theorem Tryz.lays166 : Go.Proofs.Lays.n166 Tryz.prog Tryz.lays166_ren := {
  mixed := by kernel_rfl
  f166 := Tryz.func85.trans (congrArg some (by kernel_rfl))
  f240 := Tryz.func114.trans (congrArg some (by kernel_rfl))
  f276 := Tryz.func143.trans (congrArg some (by kernel_rfl))
  t0 := Tryz.underlying0
  a0 := Tryz.isAgg0
  z0 := Tryz.sizeOf0
  v0 := Tryz.zeroValue0
  t3 := Tryz.underlying3
  a3 := Tryz.isAgg3
  z3 := Tryz.sizeOf3
  v3 := Tryz.zeroValue3
  t4 := Tryz.underlying4
  a4 := Tryz.isAgg4
  z4 := Tryz.sizeOf4
  v4 := Tryz.zeroValue4
  t9 := Tryz.underlying9
  a9 := Tryz.isAgg9
  z9 := Tryz.sizeOf9
  v9 := Tryz.zeroValue9
  t20 := Tryz.underlying20
  a20 := Tryz.isAgg20
  z20 := Tryz.sizeOf20
  v20 := Tryz.zeroValue20
  t37 := Tryz.underlying38
  a37 := Tryz.isAgg38
  z37 := Tryz.sizeOf38
  v37 := Tryz.zeroValue38
  t70 := Tryz.underlying124
  a70 := Tryz.isAgg124
  z70 := Tryz.sizeOf124
  v70 := Tryz.zeroValue124
  t72 := Tryz.underlying126
  a72 := Tryz.isAgg126
  z72 := Tryz.sizeOf126
  v72 := Tryz.zeroValue126
  t75 := Tryz.underlying128
  a75 := Tryz.isAgg128
  z75 := Tryz.sizeOf128
  v75 := Tryz.zeroValue128
  t164 := Tryz.underlying172
  a164 := Tryz.isAgg172
  z164 := Tryz.sizeOf172
  v164 := Tryz.zeroValue172
}
theorem Tryz.Builder_Extra_166 : Builder.Extra Tryz.prog Tryz.lays166_ren where
 sizeBuilder := by kernel_rfl
 liesBuilder := by kernel_rfl
 t5 := Tryz.underlying5
 a5 := Tryz.isAgg5
 z5 := Tryz.sizeOf5
 v5 := Tryz.zeroValue5
 infoByte := by kernel_rfl
 cellsByte := by kernel_rfl
 sizeByte := by kernel_rfl
 neB5 := by decide
theorem Tryz.Builder_WriteString (B b : Nat) (bs : List Value) (s : ByteArray) (w : World) (h : Lib.IsBuilder 126 5 B b bs w) (hlen : bs.length + s.size ≤ 140737488355328) (hBw : B ≤ w.heap.size) :
    Calls Tryz.prog 85 #[.pointer (some ⟨b, 0, none⟩), .string s] w fun e w' => e = .returned (.tuple #[.int .i64 s.size, .nilIface]) ∧ (Lib.BuilderAt 126 5 B b (.pointer (some ⟨b, 0, none⟩)) (bs ++ Lib.strCells s) w' ∧ Below B w w') := Any.Builder_WriteString Tryz.lays166 Tryz.Builder_Extra_166 B b bs s w h hlen hBw
end Go.Proofs
namespace Go.Proofs.YtapcpndplnkfjaaGreatDoor
open Go.RowKit Go.Proofs.YtapcpndplnkfjaaGreatDoorW.PrintWords Go.Proofs.YtapcpndplnkfjaaGreatDoorW.PrintLast Go.Proofs.YtapcpndplnkfjaaGreatDoorW.PrintMore
namespace Js
theorem Rd.belowB {w w1 w2 : World} {g B : Nat} {a : S} (h : Rd w w1 g a) (k : Below B w1 w2) (hg : g < B) (hw : w.heap.size ≤ B) : Rd w w2 g a := by
 refine ⟨(k.block g hg).trans h.cell, ⟨k.os.trans h.kp.os, k.tape.trans h.kp.tape, k.output.trans h.kp.output, Nat.le_trans h.kp.size k.size, fun i hi hne => (k.block i (Nat.lt_of_lt_of_le hi hw)).trans (h.kp.block i hi hne)⟩, h.gl, ?_⟩
 obtain ⟨w0, h1, h2, h3⟩ := h.tb
 exact ⟨w0, h1, h2.trans (k.mono (by omega)), h3⟩
theorem bd_at {w w' : World} {B b g : Nat} {p : Value} {bs : List Value} (h : Lib.BuilderAt 126 5 B b p bs w) (k : w.grownBy w' (some g)) (hg : g < B) : Lib.BuilderAt 126 5 B b p bs w' := by
 obtain ⟨h1, v, h2, h3, h4⟩ := h
 refine ⟨h1, v, (k.block b (Array.getElem?_eq_some_iff.1 h2).1 (by simp; omega)).trans h2, ?_, h4⟩
 exact own_move (World.ownsRow.kept h3 k (by
  cases hv : v.ownBlock with
  | none => exact .inl rfl
  | some i => right; intro e; injection e with e; have := h3.lt i hv; omega)) (fun _ _ => rfl)
theorem bd_kept {w w' : World} {B b g : Nat} {bs : List Value} (h : Lib.IsBuilder 126 5 B b bs w) (k : w.grownBy w' (some g)) (hg : g < B) : Lib.IsBuilder 126 5 B b bs w' :=
 h.elim (fun x => .inl (bd_at x k hg)) (fun x => .inr (bd_at x k hg))
theorem plainF_le (s : ByteArray) : ∀ n k, s.size < n + k → 1 ≤ n → (plainF s n k).1 ≤ s.size ∧ ((plainF s n k).2 = true → (plainF s n k).1 < s.size)
 | 0, k, _, h => absurd h (by omega)
 | n + 1, k, h, _ => by
  rw [plainF]
  by_cases hk : k < s.size
  · rw [if_pos hk]
    split
    · exact ⟨Nat.le_of_lt hk, fun _ => hk⟩
    split
    · exact ⟨Nat.le_of_lt hk, fun h => by cases h⟩
    split
    · exact ⟨Nat.le_of_lt hk, fun h => by cases h⟩
    have := decode_adv s k
    exact plainF_le s n _ (by omega) (by omega)
  rw [if_neg hk]
  exact ⟨Nat.le_refl _, fun h => by cases h⟩
def ECalls (okE : S → Prop) (esc : S → List UInt8 × S) : Prop := ∀ (w w1 : World) (g : Nat) (a : S), Rd w w1 g a → okE a →
 Calls Tryz.prog 119 #[.pointer (some ⟨g, 0, none⟩)] w1 fun E w' => E = .returned (.string (ofL (esc a).1)) ∧ Rd w w' g (esc a).2
def S.plain (a : S) : Nat × Bool := plainF (ofL a.s) ((ofL a.s).size + 1) 0
def S.cut (a : S) : S := { a with s := a.s.drop (a.plain.1 + 1) }
def strLoop (esc : S → List UInt8 × S) : Nat → List UInt8 → S → List UInt8 × S
 | 0, out, a => (out, a)
 | n + 1, out, a =>
  if a.e ≠ 0 then (out, a) else
  if a.plain.2 = false then (out ++ a.s.take a.plain.1, a.fail 11) else
  if a.s.getD a.plain.1 0 = 34 then (out ++ a.s.take a.plain.1, a.cut) else
  strLoop esc n (out ++ a.s.take a.plain.1 ++ (esc a.cut).1) (esc a.cut).2
def S.tl (a : S) : S := { a with s := a.s.tail }
def S.str (esc : S → List UInt8 × S) (a : S) : List UInt8 × S := strLoop esc (a.s.length + 1) [] a.tl
structure GoodE (okE : S → Prop) (esc : S → List UInt8 × S) : Prop where
  len : ∀ a, okE a → (esc a).2.s.length ≤ a.s.length
  out : ∀ a, okE a → (esc a).1.length ≤ 16
theorem byteCells_app (a b : List UInt8) : Lib.byteCells a ++ Lib.strCells (ofL b) = Lib.byteCells (a ++ b) := by simp [Lib.byteCells, Lib.strCells, ofL]
set_option maxRecDepth 100000 in
set_option maxHeartbeats 8000000 in
theorem str_calls {okE : S → Prop} {esc : S → List UInt8 × S} (HE : ECalls okE esc) (HG : GoodE okE esc) {w w1 : World} {g : Nat} {a : S} (h : Rd w w1 g a) (hs : a.s ≠ []) (hl : a.s.length ≤ 1000000) (hok : ∀ b, b.e = 0 → b.o = a.o → b.s.length ≤ 1000000 → okE b) (hoo : ∀ b, okE b → (esc b).2.o = b.o) :
    Calls Tryz.prog 94 #[.pointer (some ⟨g, 0, none⟩)] w1 fun E w' => E = .returned (.string (ofL (a.str esc).1)) ∧ Rd w w' g (a.str esc).2 := by
 have H := hi_ h
 have HEG := hi_ (And.intro HE HG)
 have HOK := hi_ hok
 have HOO := hi_ hoo
 obtain ⟨R, hR⟩ : ∃ R, a.str esc = R := ⟨_, rfl⟩
 have HR : Hid (strLoop esc (a.s.length + 1) [] a.tl = R) := hi_ hR
 rw [hR]
 have c0 := h.c0
 have f0 := h.fz 0
 have hsz : 1 ≤ (ofL a.s).size := by rw [ofL_size]; cases h : a.s with | nil => exact absurd h hs | cons c t => simp
 have HX : Hid ((ofL a.s).extract 1 (ofL a.s).size = ofL a.s.tail) := hi_ (by rw [ofL_ext, ofL_size, List.take_length, List.drop_one])
 have HTL : Hid (a.tl.s.length ≤ a.s.length ∧ a.s.length ≤ 1000000) := hi_ ⟨by unfold S.tl; simp, hl⟩
 clear h HE HG hs hl hok hR hoo
 go_enter Tryz.func94, Tryz.ntmps94
 go_wp2_with fail
 rw [HX.out]
 have H2 : Hid (Rd w (w1.setCell ⟨g, 0, none⟩ (.string (ofL a.s.tail))) g a.tl) := hi_ (H.out.s0 a.s.tail)
 have hsz2 : (w1.setCell ⟨g, 0, none⟩ (.string (ofL a.s.tail))).heap.size = w1.heap.size := by simp [World.setCell]
 generalize w1.setCell ⟨g, 0, none⟩ (.string (ofL a.s.tail)) = w2 at *
 obtain ⟨B, hB⟩ : ∃ B, w1.heap.size = B := ⟨_, rfl⟩
 have HGB : Hid (g < B ∧ w.heap.size ≤ B) := hi_ ⟨by rw [← hB]; exact H.out.lt, by rw [← hB]; exact H.out.kp.size⟩
 rw [hB] at hsz2
 have HI0 : Hid (Lib.IsBuilder 126 5 B B (Lib.byteCells []) (w2.alloc (.cells #[.pointer none, .slice none 0 0] 126))) := hi_ (.inl ⟨Nat.le_refl _, _, by have := blk_new w2 (.cells #[.pointer none, .slice none 0 0] 126); rw [hsz2] at this; exact this, World.ownsRow_nil _ _ _ _, by simp [Value.ownBlock]⟩)
 have H0 : Hid (Rd w (w2.alloc (.cells #[.pointer none, .slice none 0 0] 126)) g a.tl) := hi_ (H2.out.below (Below.alloc (Below.refl _ _) (Nat.le_refl _) _))
 have HS0 : Hid (B ≤ (w2.alloc (.cells #[.pointer none, .slice none 0 0] 126)).heap.size) := hi_ (by simp; omega)
 have HTO : Hid (a.tl.o = a.o) := hi_ rfl
 rw [hB]
 clear hB hsz2 H2 HX c0 f0 hsz
 generalize w2.alloc (.cells #[.pointer none, .slice none 0 0] 126) = w3 at *
 go_loopg [] (a.tl.s.length + 1) (fun gk wr => ∃ out c n, gk = c.s.length + 1 ∧ (c.s.length < n ∧ c.s.length ≤ 1000000 ∧ out.length + 20 * c.s.length ≤ 20000000 ∧ c.o = a.o) ∧ Hid (Rd w wr g c) ∧ Hid (Lib.IsBuilder 126 5 B B (Lib.byteCells out) wr) ∧ Hid (B ≤ wr.heap.size) ∧ Hid (strLoop esc n out c = R))
 case atStart => exact ⟨[], a.tl, a.s.length + 1, rfl, ⟨by have := HTL.out; omega, by have := HTL.out; omega, by have := HTL.out; simp; omega, HTO.out⟩, H0, HI0, HS0, HR⟩
 case round =>
  obtain ⟨out, c, n, rfl, hn, H, HI, HSZ, HF⟩ := hrel
  have HN := hi_ hn
  clear hn H0 HI0 HS0
  have c2 := H.out.c2
  by_cases he : c.e = 0
  · have e1 : (c.e == 0) = true := by simp [he]
    have HE0 := hi_ he
    have HF2 : Hid ((if c.plain.2 = false then (out ++ c.s.take c.plain.1, c.fail 11) else if c.s.getD c.plain.1 0 = 34 then (out ++ c.s.take c.plain.1, c.cut) else strLoop esc (n - 1) (out ++ c.s.take c.plain.1 ++ (esc c.cut).1) (esc c.cut).2) = R) := hi_ (by
     have hf := HF.out
     obtain ⟨n', rfl⟩ : ∃ n', n = n' + 1 := ⟨n - 1, by have := HN.out; omega⟩
     rw [strLoop, if_neg (by simp [he])] at hf
     exact hf)
    have hpl := plainF_le (ofL c.s) ((ofL c.s).size + 1) 0 (by omega) (by omega)
    have HCUT : Hid (c.cut = { c with s := c.s.drop (c.plain.1 + 1) }) := hi_ rfl
    have c0 := H.out.c0
    clear he HF
    go_wp2_with fail
    refine (plain_calls (ofL c.s) _ H.out.tb.tabs (by rw [ofL_size]; have := HN.out; omega)).mono ?_
    rintro E w4 ⟨rfl, hb4⟩
    have hpp : plainF (ofL c.s) ((ofL c.s).size + 1) 0 = c.plain := rfl
    rw [hpp] at hpl ⊢
    clear hpp
    obtain ⟨k, q, hkq⟩ : ∃ k q, c.plain = (k, q) := ⟨_, _, rfl⟩
    rw [hkq] at hpl ⊢
    rw [hkq] at HF2 HCUT
    have hk1 : k ≤ (ofL c.s).size := hpl.1
    have HK2 : Hid (q = true → k < (ofL c.s).size) := hi_ hpl.2
    have hk3 : (k : Int) ≤ 1000000 := by have := HN.out; rw [ofL_size] at hk1; omega
    have H4 := hi_ (H.out.below hb4)
    have HI4 := hi_ (bd_kept HI.out (grown_below hb4 (some g)) HGB.out.1)
    have HS4 : Hid (B ≤ w4.heap.size) := hi_ (Nat.le_trans HSZ.out hb4.size)
    have HX : Hid ((ofL c.s).extract 0 k = ofL (c.s.take k)) := hi_ (by rw [ofL_ext]; simp)
    have HLK : Hid (k ≤ c.s.length) := hi_ (by rw [ofL_size] at hk1; exact hk1)
    clear hb4 hpl hkq c0 c2 H HI HSZ
    have c0 := H4.out.c0
    go_wp2_with fail
    rw [HX.out]
    refine (Tryz.Builder_WriteString B B (Lib.byteCells out) (ofL (c.s.take k)) _ HI4.out (by rw [Lib.byteCells_length, ofL_size]; have := HN.out; have := HLK.out; simp; omega) HS4.out).mono ?_
    rintro E w5 ⟨rfl, hbd, hb5⟩
    rw [byteCells_app] at hbd
    have H := hi_ (H4.out.belowB hb5 HGB.out.1 HGB.out.2)
    have HI : Hid (Lib.IsBuilder 126 5 B B (Lib.byteCells (out ++ c.s.take k)) w5) := hi_ (.inr hbd)
    have HSZ : Hid (B ≤ w5.heap.size) := hi_ (Nat.le_trans HS4.out hb5.size)
    clear hbd hb5 H4 HI4 HS4 c0 HX
    cases q with
    | false =>
     have HRR : Hid ((out ++ c.s.take k, c.fail 11) = R) := hi_ (by have := HF2.out; rw [if_pos rfl] at this; exact this)
     go_wp2_with fail
     refine (fail_calls H.out.now 11).mono ?_
     rintro E w6 ⟨rfl, h6⟩
     have HI6 := hi_ (bd_kept HI.out h6.kp HGB.out.1)
     have HS6 : Hid (B ≤ w6.heap.size) := hi_ (Nat.le_trans HSZ.out h6.kp.size)
     have H6 := hi_ (H.out.trans h6)
     clear h6
     go_wp2_with fail
     refine (Tryz.Builder_String_any B B (out ++ c.s.take k) _ HI6.out HS6.out).mono ?_
     rintro E w9 ⟨rfl, hb9⟩
     have h9 := H6.out.belowB hb9 HGB.out.1 HGB.out.2
     go_wp2
     go_ret
     exact ⟨by rw [← HRR.out]; rfl, by rw [← HRR.out]; exact h9⟩
    | true =>
     have hk2 : k < (ofL c.s).size := HK2.out rfl
     have HF3 : Hid ((if c.s.getD k 0 = 34 then (out ++ c.s.take k, c.cut) else strLoop esc (n - 1) (out ++ c.s.take k ++ (esc c.cut).1) (esc c.cut).2) = R) := hi_ (by have := HF2.out; rw [if_neg (by simp)] at this; exact this)
     have hk2I : (k : Int) < ((ofL c.s).size : Int) := by omega
     have c0 := H.out.c0
     have f0 := H.out.fz 0
     have HX2 : Hid ((ofL c.s).extract (k + 1) (ofL c.s).size = ofL (c.s.drop (k + 1))) := hi_ (by rw [ofL_ext, ofL_size, List.take_length])
     have hbyte : (ofL c.s)[k]'hk2 = c.s.getD k 0 := by
      have hk4 : k < c.s.length := by rw [ofL_size] at hk2; exact hk2
      rw [List.getD_eq_getElem?_getD, List.getElem?_eq_getElem hk4]; rfl
     by_cases h34 : c.s.getD k 0 = 34
     · have e34 : ((((ofL c.s)[k]'hk2).toNat : Int) == 34) = true := by rw [hbyte, h34]; rfl
       have HRR : Hid ((out ++ c.s.take k, c.cut) = R) := hi_ (by have := HF3.out; rw [if_pos h34] at this; exact this)
       clear h34 hbyte
       go_wp2_with fail
       rw [HX2.out]
       have H6 : Hid (Rd w (w5.setCell ⟨g, 0, none⟩ (.string (ofL (c.s.drop (k + 1))))) g c.cut) := hi_ (by rw [HCUT.out]; exact H.out.s0 _)
       have HI6 := hi_ (bd_kept HI.out (grown_set w5 g 0 (.string (ofL (c.s.drop (k + 1))))) HGB.out.1)
       have HS6 : Hid (B ≤ (w5.setCell ⟨g, 0, none⟩ (.string (ofL (c.s.drop (k + 1))))).heap.size) := hi_ (by simp [World.setCell]; exact HSZ.out)
       refine (Tryz.Builder_String_any B B (out ++ c.s.take k) _ HI6.out HS6.out).mono ?_
       rintro E w9 ⟨rfl, hb9⟩
       have h9 := H6.out.belowB hb9 HGB.out.1 HGB.out.2
       go_wp2
       go_ret
       exact ⟨by rw [← HRR.out]; rfl, by rw [← HRR.out]; exact h9⟩
     · have e34 : ((((ofL c.s)[k]'hk2).toNat : Int) == 34) = false := by
         rw [hbyte]; simp
         intro e; exact h34 (UInt8.toNat_inj.1 (by have : (c.s.getD k 0).toNat = 34 := by exact_mod_cast e
                                                   simpa using this))
       have HRR : Hid (strLoop esc (n - 1) (out ++ c.s.take k ++ (esc c.cut).1) (esc c.cut).2 = R) := hi_ (by have := HF3.out; rw [if_neg h34] at this; exact this)
       clear h34 hbyte
       go_wp2_with fail
       rw [HX2.out]
       have H6 : Hid (Rd w (w5.setCell ⟨g, 0, none⟩ (.string (ofL (c.s.drop (k + 1))))) g c.cut) := hi_ (by rw [HCUT.out]; exact H.out.s0 _)
       have HI6 := hi_ (bd_kept HI.out (grown_set w5 g 0 (.string (ofL (c.s.drop (k + 1))))) HGB.out.1)
       have HS6 : Hid (B ≤ (w5.setCell ⟨g, 0, none⟩ (.string (ofL (c.s.drop (k + 1))))).heap.size) := hi_ (by simp [World.setCell]; exact HSZ.out)
       have HK3 : Hid (k < c.s.length) := hi_ (by rw [ofL_size] at hk2; exact hk2)
       have hcl : c.cut.s.length = c.s.length - (k + 1) := by rw [HCUT.out]; simp
       have hce : c.cut.e = 0 ∧ c.cut.o = a.o := by rw [HCUT.out]; exact ⟨HE0.out, HN.out.2.2.2⟩
       have HOKc : Hid (okE c.cut) := hi_ (HOK.out _ hce.1 hce.2 (by have := HN.out; omega))
       have HLN : Hid (c.cut.s.length = c.s.length - (k + 1) ∧ (esc c.cut).2.s.length ≤ c.cut.s.length ∧ (esc c.cut).1.length ≤ 16 ∧ (esc c.cut).2.o = a.o) := hi_ ⟨hcl, HEG.out.2.len _ HOKc.out, HEG.out.2.out _ HOKc.out, (HOO.out _ HOKc.out).trans hce.2⟩
       generalize w5.setCell ⟨g, 0, none⟩ (.string (ofL (c.s.drop (k + 1)))) = w6 at *
       clear hcl hce c0 f0 H HI HSZ HX2
       refine (HEG.out.1 _ _ g c.cut H6.out.now HOKc.out).mono ?_
       rintro E w7 ⟨rfl, h7⟩
       have HI7 := hi_ (bd_kept HI6.out h7.kp HGB.out.1)
       have HS7 : Hid (B ≤ w7.heap.size) := hi_ (Nat.le_trans HS6.out h7.kp.size)
       have H7 := hi_ (H6.out.trans h7)
       clear h7 H6 HI6 HS6
       go_wp2_with fail
       refine (Tryz.Builder_WriteString B B (Lib.byteCells (out ++ c.s.take k)) (ofL (esc c.cut).1) _ HI7.out (by rw [Lib.byteCells_length, ofL_size]; have := HN.out; have := HLK.out; have := HLN.out; simp; omega) HS7.out).mono ?_
       rintro E w8 ⟨rfl, hbd, hb8⟩
       rw [byteCells_app] at hbd
       have H8 := hi_ (H7.out.belowB hb8 HGB.out.1 HGB.out.2)
       have HS8 : Hid (B ≤ w8.heap.size) := hi_ (Nat.le_trans HS7.out hb8.size)
       have HI8 : Hid (Lib.IsBuilder 126 5 B B (Lib.byteCells (out ++ c.s.take k ++ (esc c.cut).1)) w8) := hi_ (.inr hbd)
       clear hbd hb8 H7 HI7 HS7
       go_wp2_with fail
       go_roundg ((esc c.cut).2.s.length + 1)
       case measure => have := HLN.out; have := HLK.out; have := HK3.out; omega
       case rel => exact ⟨_, _, n - 1, rfl, ⟨by have := HLN.out; have := HN.out; have := HLK.out; have := HK3.out; omega, by have := HLN.out; have := HN.out; omega, by have := HK3.out; have := HLN.out; have := HN.out; have := HLK.out; simp; omega, HLN.out.2.2.2⟩, H8, HI8, HS8, HRR⟩
  have e1 : (c.e == 0) = false := by simp [he]
  have HRR : Hid ((out, c) = R) := hi_ (by
   have hf := HF.out
   obtain ⟨n', rfl⟩ : ∃ n', n = n' + 1 := ⟨n - 1, by have := HN.out; omega⟩
   rw [strLoop, if_pos he] at hf
   exact hf)
  clear he
  go_wp2_with fail
  refine (Tryz.Builder_String_any B B out _ HI.out HSZ.out).mono ?_
  rintro E w9 ⟨rfl, hb9⟩
  have h9 := H.out.belowB hb9 HGB.out.1 HGB.out.2
  go_wp2
  go_ret
  exact ⟨by rw [← HRR.out]; rfl, by rw [← HRR.out]; exact h9⟩
def okText (okE : S → Prop) (esc : S → List UInt8 × S) (a : S) : Prop := a.s ≠ [] ∧ a.s.length ≤ 1000000 ∧ (∀ b, b.e = 0 → b.o = a.o → b.s.length ≤ 1000000 → okE b) ∧ ∀ b, okE b → (esc b).2.o = b.o
def textF (esc : S → List UInt8 × S) (a : S) : S28 × S := (⟨3, false, z24, ofL (a.str esc).1, [], []⟩, (a.str esc).2)
theorem text_calls {okE : S → Prop} {esc : S → List UInt8 × S} (HE : ECalls okE esc) (HG : GoodE okE esc) : VCalls 67 (okText okE esc) (textF esc) := by
 intro w w1 g a h hok
 obtain ⟨hs, hl, hok1, hoo⟩ := hok
 have H := hi_ h
 have HA : Hid _ := hi_ (str_calls HE HG (H.out.below (Below.alloc (Below.refl _ _) (Nat.le_refl _) (.cells zA 28))).now hs hl hok1 hoo)
 obtain ⟨R, hR⟩ : ∃ R, a.str esc = R := ⟨_, rfl⟩
 have hT : textF esc a = (⟨3, false, z24, ofL R.1, [], []⟩, R.2) := by rw [textF, hR]
 rw [hR] at HA
 rw [hT]
 clear h hs hl hok1 hoo hT hR
 go_enter Tryz.func67, Tryz.ntmps67
 go_wp2_with fail
 refine HA.out.mono ?_
 rintro E w2 ⟨rfl, h2⟩
 have HR := hi_ (h2.keep (blk_new w1 _) (Nat.ne_of_gt H.out.lt))
 have H2 := hi_ ((H.out.below (Below.alloc (Below.refl _ _) (Nat.le_refl _) _)).trans h2)
 clear h2
 go_wp2_with (refine row_event rfl 28 (.tmp 2) (.tmp 5) rfl w1.heap.size _ rfl rfl 28 _ HR.out (by kernel_rfl) rfl rfl ?_; intro w3 hr3 hk3)
 have h3 := H2.out.far hk3 (Nat.ne_of_gt H.out.lt) H.out.kp.size
 exact bodyPost_ret (results_cell_row rfl _ _ w1.heap.size 28 _ (0, 0) _ rfl hr3 Tryz.underlying28 rfl (by kernel_rfl)) rfl ⟨_, rfl, Jv.flat w3 _ (S28.mk 3 false z24 (ofL R.1) [] []) rfl rfl, h3⟩
def hexS : ByteArray := ⟨#[48, 49, 50, 51, 52, 53, 54, 55, 56, 57, 97, 98, 99, 100, 101, 102]⟩
set_option maxRecDepth 100000 in
set_option maxHeartbeats 4000000 in
theorem valid_calls (c : Nat) (hc : c ≤ 2147483647) (w : World) : Calls Tryz.prog 169 #[.int .i32 c] w fun E w' => E = .returned (.bool (Utf8.valid c)) ∧ w' = w := by
 have q0 : (0 : Int) ≤ (c : Int) := by omega
 have qm : (c : Int) ≤ 2147483647 := by omega
 by_cases h1 : c < 55296
 · have hv : Utf8.valid c = true := by simp [Utf8.valid]; omega
   have q1 : (c : Int) < 55296 := by omega
   rw [hv]
   go_enter Tryz.func169, Tryz.ntmps169
   go_wp2_with fail
   go_ret
   exact ⟨rfl, rfl⟩
 by_cases h2 : c ≤ 57343
 · have hv : Utf8.valid c = false := by simp [Utf8.valid]; omega
   have q1 : ((c : Int) < 55296) = False := by simp; omega
   have q2 : ((57343 : Int) < (c : Int)) = False := by simp; omega
   rw [hv]
   go_enter Tryz.func169, Tryz.ntmps169
   go_wp2_with fail
   go_ret
   exact ⟨rfl, rfl⟩
 by_cases h3 : c ≤ 1114111
 · have hv : Utf8.valid c = true := by simp [Utf8.valid]; omega
   have q1 : ((c : Int) < 55296) = False := by simp; omega
   have q2 : ((57343 : Int) < (c : Int)) = True := by simp; omega
   have q3 : (c : Int) ≤ 1114111 := by omega
   rw [hv]
   go_enter Tryz.func169, Tryz.ntmps169
   go_wp2_with fail
   go_ret
   exact ⟨rfl, rfl⟩
 have hv : Utf8.valid c = false := by simp [Utf8.valid]; omega
 have q1 : ((c : Int) < 55296) = False := by simp; omega
 have q2 : ((57343 : Int) < (c : Int)) = True := by simp; omega
 have q3 : ((c : Int) ≤ 1114111) = False := by simp; omega
 rw [hv]
 go_enter Tryz.func169, Tryz.ntmps169
 go_wp2_with fail
 go_ret
 exact ⟨rfl, rfl⟩
theorem hex_plain : ∀ k : Fin 16, (Utf8.decode hexS k).1 ≠ 65533 ∧ (Utf8.decode hexS k).2 = 1 ∧ (Utf8.decode hexS k).1 < 128 := by decide
theorem enc_two (c : Nat) (h : 128 ≤ c) : ∃ E : ByteArray, Utf8.encode c = E ∧ ∃ b0 b1 b2 b3 : UInt8, (E = ⟨#[b0, b1]⟩ ∧ 128 ≤ b1.toNat) ∨ (E = ⟨#[b0, b1, b2]⟩ ∧ 128 ≤ b2.toNat) ∨ (E = ⟨#[b0, b1, b2, b3]⟩ ∧ 128 ≤ b3.toNat) := by
 refine ⟨_, rfl, ?_⟩
 simp only [Utf8.encode]
 generalize hd : (if Utf8.valid c = true then (c : Int).toNat else Utf8.runeError) = d
 have h1 : 128 ≤ d := by rw [← hd]; split <;> simp [Utf8.runeError] <;> omega
 rw [if_neg (by omega)]
 split
 · exact ⟨_, _, 0, 0, .inl ⟨rfl, by simp [UInt8.toNat_ofNat']; omega⟩⟩
 split
 · exact ⟨_, _, _, 0, .inr (.inl ⟨rfl, by simp [UInt8.toNat_ofNat']; omega⟩)⟩
 exact ⟨_, _, _, _, .inr (.inr ⟨rfl, by simp [UInt8.toNat_ofNat']; omega⟩)⟩
theorem idx_none (b : UInt8) (h : 128 ≤ b.toNat) : ∀ l : List UInt8, (∀ x ∈ l, x.toNat < 128) → Lib.indexByte l b = -1
 | [], _ => rfl
 | x :: l, hl => by
  have h1 := idx_none b h l (fun y hy => hl y (List.mem_cons_of_mem _ hy))
  have h2 := hl x (List.mem_cons_self)
  have h3 : (x == b) = false := by
   simp
   intro e
   rw [e] at h2
   omega
  simp [Lib.indexByte, h1, h3]
theorem hex_low : ∀ x ∈ hexS.data.toList, x.toNat < 128 := by decide
theorem hex_drop (n : Nat) (b : UInt8) (h : 128 ≤ b.toNat) : strings_IndexByte.f (hexS.extract n 16) b.toNat = some (-1) := by
 unfold strings_IndexByte.f
 rw [idx_none _ (by simp; exact h)]
 intro x hx
 simp at hx
 exact hex_low x (List.mem_of_mem_drop (List.mem_of_mem_take hx))
set_option maxRecDepth 100000 in
set_option maxHeartbeats 8000000 in
theorem index_at (s E : ByteArray) (c l : Nat) (w : World) (hm : c ≤ 2147483647) (q1 : ((c : Int) < 128) = False) (q2 : ((c : Int) == 65533) = false) (h2 : Utf8.valid c = true)
    (hE : Utf8.encode c = E) (hl : (E.size : Int) - 1 = l) (hl3 : (l : Int) ≤ 3) (hz : (s.size : Int) ≤ 1000) (hk1 : l < s.size) (hk2 : l < E.size)
    (hkI : (l : Int) < (s.size : Int)) (hkJ : (l : Int) + 1 ≤ (s.size : Int)) (hkE : (l : Int) < (E.size : Int)) (q5 : (((s[l]'hk1).toNat : Int) != ((E[l]'hk2).toNat : Int)) = true)
    (HX : Hid (Lib.indexByte (s.extract (l + 1) s.size).data.toList ((E[l]'hk2).toNat : Int).toNat.toUInt8 = -1)) :
    Calls Tryz.prog 154 #[.string s, .int .i32 c] w fun E w' => E = .returned (.int .i64 (-1)) ∧ Below w.heap.size w w' := by
 have q0 : ((0 : Int) ≤ (c : Int)) = True := by simp
 have qm : (c : Int) ≤ 2147483647 := by omega
 have HM := hi_ hm
 clear hm
 go_enter Tryz.func154, Tryz.ntmps154
 go_wp2_with fail
 refine (valid_calls c HM.out _).mono ?_
 rintro E' w2 ⟨rfl, rfl⟩
 rw [h2]
 go_wp2_with fail
 refine wp_scope_straight ?_
 go_wp2_with fail
 refine wp_loop_rounds 1 ?_
 rw [rounds_succ]
 go_wp2_with fail
 refine wp_scope_straight ?_
 go_wp2_with fail
 go_region
 go_wp2_with fail
 have hw : IntKind.i64.wrap ((l : Int) + 1) = (l : Int) + 1 := by simp [IntKind.wrap, IntKind.bits, IntKind.signed]; omega
 have hw0 : (0 : Int) ≤ (l : Int) + 1 := by omega
 have hw1 : ((l : Int) + 1).toNat = l + 1 := by omega
 go_region_held3 (fun w' => Below w2.heap.size w2 w') (first | assumption | exact (Below.refl _ _).drew | exact ((Below.refl _ _).drew).drew | go_keep)
  (first | (go_at_call 147; refine (Tryz.strings_IndexByte _ _ _).mono ?_; rintro e w3 ⟨rfl, rfl⟩; rw [HX.out]))
 clear hw hw0 hw1
 go_wp2_with fail
 unfold Exit.noGoto
 go_ret
 exact ⟨rfl, by assumption⟩
set_option maxRecDepth 100000 in
set_option maxHeartbeats 8000000 in
theorem index_ill (s : ByteArray) (c : Nat) (w : World) (hm : c ≤ 2147483647) (q1 : ((c : Int) < 128) = False) (q2 : ((c : Int) == 65533) = false) (h2 : Utf8.valid c = false) :
    Calls Tryz.prog 154 #[.string s, .int .i32 c] w fun E w' => E = .returned (.int .i64 (-1)) ∧ Below w.heap.size w w' := by
 have q0 : ((0 : Int) ≤ (c : Int)) = True := by simp
 have qm : (c : Int) ≤ 2147483647 := by omega
 have HM := hi_ hm
 clear hm
 go_enter Tryz.func154, Tryz.ntmps154
 go_wp2_with fail
 refine (valid_calls c HM.out _).mono ?_
 rintro E' w2 ⟨rfl, rfl⟩
 rw [h2]
 go_wp2_with fail
 go_ret
 exact ⟨rfl, Below.refl _ _⟩
set_option maxRecDepth 100000 in
set_option maxHeartbeats 8000000 in
theorem index_err (s : ByteArray) (w : World) (hz : s.size ≤ 1000000) (hs : ∀ k < s.size, (Utf8.decode s k).1 ≠ 65533) :
    Calls Tryz.prog 154 #[.string s, .int .i32 65533] w fun E w' => E = .returned (.int .i64 (-1)) ∧ Below w.heap.size w w' := by
 have HS := hi_ hs
 have HZ := hi_ hz
 clear hs hz
 go_enter Tryz.func154, Tryz.ntmps154
 go_wp2_with fail
 go_loopg [] (s.size + 1) (fun gk wr => ∃ k, gk = s.size + 1 - k ∧ Hid (wr.heap[w.heap.size]? = some (.stringIter s k)) ∧ Hid (Below w.heap.size w wr))
 case atStart => exact ⟨0, by omega, hi_ (w.iter_heap s 0), hi_ (Below.alloc (Below.refl _ _) (Nat.le_refl _) _)⟩
 case round =>
  obtain ⟨k, rfl, HIT, HB⟩ := hrel
  by_cases hk : k < s.size
  · have HADV := hi_ (decode_adv s k)
    have hkI : (k : Int) ≤ 1000000 := by have := HZ.out; omega
    have HK := hi_ hk
    have hne := HS.out k hk
    clear hk
    obtain ⟨d, hd⟩ : ∃ d, (Utf8.decode s k).1 = d := ⟨_, rfl⟩
    have hd3 : (d : Int) ≤ 2147483647 := by rw [← hd]; have := decode_le s k; omega
    have HD := hi_ hd
    clear hd
    rw [HD.out] at hne
    have q4 : ((d : Int) == 65533) = false := by simp; omega
    clear hne
    go_wp2_with (refine next_more rfl (.tmp 175) rfl w.heap.size s k HIT.out rfl HK.out ?_; intro w2 hi2 hk2; rw [HD.out])
    have hb2 := HB.out.grown hk2 HB.out.size (fun i e => Nat.le_of_eq (Option.some.inj e))
    go_roundg (s.size + 1 - (k + (Utf8.decode s k).2))
    case measure => have := HADV.out; have := HK.out; omega
    case rel => exact ⟨_, rfl, hi_ hi2, hi_ hb2⟩
  have HK := hi_ hk
  clear hk
  go_wp2_with (refine next_over rfl (.tmp 175) rfl w.heap.size s k HIT.out rfl HK.out ?_)
  go_ret
  exact ⟨rfl, HB.out⟩
theorem index_high (c : Nat) (w : World) (hc : 128 ≤ c) (hm : c ≤ 2147483647) :
    Calls Tryz.prog 154 #[.string hexS, .int .i32 c] w fun E w' => E = .returned (.int .i64 (-1)) ∧ Below w.heap.size w w' := by
 have q1 : ((c : Int) < 128) = False := by simp; omega
 by_cases h1 : c = 65533
 · subst h1
   exact index_err hexS w (by decide) (fun k hk => (hex_plain ⟨k, hk⟩).1)
 · have q2 : ((c : Int) == 65533) = false := by simp; omega
   cases h2 : Utf8.valid c with
   | false => exact index_ill hexS c w hm q1 q2 h2
   | true =>
    obtain ⟨E, hE, b0, b1, b2, b3, hcs⟩ := enc_two c hc
    have hf : ∀ (x : Nat) (b : UInt8), x < 128 → 128 ≤ b.toNat → ((x : Int) != (b.toNat : Int)) = true := fun x b hx hb => by simp; omega
    have hg : ∀ (n : Nat) (b : UInt8), 128 ≤ b.toNat → Hid (Lib.indexByte (hexS.extract n hexS.size).data.toList ((b.toNat : Int)).toNat.toUInt8 = -1) := fun n b hb => hi_ (Option.some.inj (hex_drop n b hb))
    rcases hcs with ⟨rfl, hb⟩ | ⟨rfl, hb⟩ | ⟨rfl, hb⟩
    · exact index_at hexS _ c 1 w hm q1 q2 h2 hE rfl (by decide) (by decide) (by decide) (by show 1 < 2; decide) (by decide) (by decide) (by show (1 : Int) < 2; decide) (hf 49 _ (by decide) hb) (hg 2 _ hb)
    · exact index_at hexS _ c 2 w hm q1 q2 h2 hE rfl (by decide) (by decide) (by decide) (by show 2 < 3; decide) (by decide) (by decide) (by show (2 : Int) < 3; decide) (hf 50 _ (by decide) hb) (hg 3 _ hb)
    exact index_at hexS _ c 3 w hm q1 q2 h2 hE rfl (by decide) (by decide) (by decide) (by show 3 < 4; decide) (by decide) (by decide) (by show (3 : Int) < 4; decide) (hf 51 _ (by decide) hb) (hg 4 _ hb)
def hexI (c : Nat) : Int := if c < 128 then Lib.indexByte hexS.data.toList c.toUInt8 else -1
theorem index_calls (c : Nat) (w : World) (hm : c ≤ 2147483647) :
    Calls Tryz.prog 154 #[.string hexS, .int .i32 c] w fun E w' => E = .returned (.int .i64 (hexI c)) ∧ Below w.heap.size w w' := by
 unfold hexI
 split
 · rename_i h
   exact (Tryz.strings_IndexRune_ascii hexS c w (by omega) (by omega)).mono fun e w' hh => ⟨hh.1, by rw [hh.2]; exact Below.refl _ _⟩
 · exact index_high c w (by omega) hm
set_option maxRecDepth 10000 in
theorem hexI_b (c : Nat) : -1 ≤ hexI c ∧ hexI c ≤ 15 := by
 unfold hexI
 split
 · refine ⟨Lib.indexByte_ge _ _, ?_⟩
   rename_i h
   have : ∀ i : Fin 128, Lib.indexByte hexS.data.toList i.val.toUInt8 ≤ 15 := by decide
   exact this ⟨c, h⟩
 omega
theorem mapGoD_length (f : Int → Int) : ∀ (n : Nat) (l : List UInt8), (Lib.mapGoD f n l).length ≤ 4 * n
 | 0, l => by simp [Lib.mapGoD]
 | n + 1, l => by
  unfold Lib.mapGoD
  split
  · simp
  have := mapGoD_length f n (l.drop (Lib.decodeL l).2)
  have h4 : ∀ r, (Lib.encodeRune r).length ≤ 4 := fun r => by
   unfold Lib.encodeRune; rw [List.length_map]; exact Lib.encodeRuneZ_length_le r
  rw [List.length_append]
  split
  · have := h4 (f (Lib.decodeL l).1); omega
  simp; omega
def stepI (x i : Int) : Int := bits .or .i32 (wrap32 (x * 16)) i
def fourLoop (s : ByteArray) : Nat → Nat → Int → Option Int
 | 0, _, _ => none
 | n + 1, k, x => if k < s.size then if hexI (Utf8.decode s k).1 < 0 then none else fourLoop s n (k + (Utf8.decode s k).2) (stepI x (hexI (Utf8.decode s k).1)) else some x
def S.low (a : S) : ByteArray := ofL (Lib.toLowerD (a.s.take 4))
def fourV (a : S) : Option Int → Int × S
 | none => (0, a.fail 11)
 | some x => (x, { a with s := a.s.drop 4 })
def S.four (a : S) : Int × S := if a.s.length < 4 then (0, a.fail 11) else fourV a (fourLoop a.low (a.low.size + 1) 0 0)
set_option maxRecDepth 100000 in
set_option maxHeartbeats 8000000 in
theorem four_calls {w w1 : World} {g : Nat} {a : S} (h : Rd w w1 g a) (hl : a.s.length ≤ 1000000) :
    Calls Tryz.prog 161 #[.pointer (some ⟨g, 0, none⟩)] w1 fun E w' => E = .returned (.int .i32 a.four.1) ∧ Rd w w' g a.four.2 := by
 have H := hi_ h
 have c0 := h.c0
 have HL := hi_ hl
 by_cases h4 : a.s.length < 4
 · have hi : ((ofL a.s).size : Int) < 4 := by rw [ofL_size]; omega
   have HR : Hid (a.four = (0, a.fail 11)) := hi_ (by unfold S.four; rw [if_pos h4])
   rw [HR.out]
   clear h h4 hl
   go_enter Tryz.func161, Tryz.ntmps161
   go_wp2_with fail
   refine (fail_calls H.out.now 11).mono ?_
   rintro E w2 ⟨rfl, h2⟩
   have h2 := H.out.trans h2
   go_wp2_with fail
   go_ret
   exact ⟨rfl, h2⟩
 · have hi : (4 : Int) ≤ ((ofL a.s).size : Int) := by rw [ofL_size]; omega
   have hi2 : ((ofL a.s).size : Int) ≤ 1000000 := by rw [ofL_size]; omega
   have HX : Hid ((ofL a.s).extract 0 4 = ofL (a.s.take 4)) := hi_ (by rw [ofL_ext]; simp)
   obtain ⟨R, hR⟩ : ∃ R, a.four = R := ⟨_, rfl⟩
   have HR : Hid (fourV a (fourLoop a.low (a.low.size + 1) 0 0) = R) := hi_ (by rw [← hR]; unfold S.four; rw [if_neg h4])
   have HT := hi_ h.tb.tabs
   have hlow : (ofL (Lib.toLowerD (ofL (a.s.take 4)).data.toList)) = a.low := rfl
   have HLOW := hi_ hlow
   rw [hR]
   clear h h4 hl hR hlow
   go_enter Tryz.func161, Tryz.ntmps161
   go_wp2_with fail
   rw [HX.out]
   refine (Any.strings_ToLower_any Tryz.lays159 Tryz.Builder_Extra_159 _ _ (by rw [ofL_size]; simp; omega) HT.out.cv HT.out.u8).mono ?_
   rintro E w2 ⟨rfl, hb2⟩
   have hE : (⟨(Lib.toLowerD (ofL (a.s.take 4)).data.toList).toArray⟩ : ByteArray) = a.low := HLOW.out
   rw [hE]
   have HLZ : Hid (a.low.size ≤ 16) := hi_ (by unfold S.low; rw [ofL_size]; unfold Lib.toLowerD Lib.mapD; have := mapGoD_length Lib.toLowerU (a.s.take 4).length (a.s.take 4); simp at this ⊢; omega)
   have H2 := hi_ (H.out.below hb2)
   obtain ⟨s, hs⟩ : ∃ s, a.low = s := ⟨_, rfl⟩
   rw [hs] at HLZ HR ⊢
   obtain ⟨B, hB⟩ : ∃ B, w2.heap.size = B := ⟨_, rfl⟩
   have HB := hi_ hB
   have HGB : Hid (g < B ∧ w.heap.size ≤ B) := hi_ ⟨by rw [← hB]; exact H2.out.lt, by rw [← hB]; exact H2.out.kp.size⟩
   have H3 : Hid (Rd w (w2.alloc (.stringIter s 0)) g a) := hi_ (H2.out.below (Below.alloc (Below.refl _ _) (Nat.le_refl _) _))
   have HI3 : Hid ((w2.alloc (.stringIter s 0)).heap[B]? = some (.stringIter s 0)) := hi_ (by rw [← hB]; exact w2.iter_heap s 0)
   clear hE hb2 HX HT HLOW hs c0 H2 hB
   go_wp2_with fail
   rw [HB.out]
   go_loopg [3] (s.size + 1) (fun gk v3 wr => ∃ (k n : Nat) (x : Int), gk = s.size + 1 - k ∧ v3 = .int .i32 x ∧ (s.size < n + k ∧ 1 ≤ n) ∧ Hid (wr.heap[B]? = some (.stringIter s k)) ∧ Hid (Rd w wr g a) ∧ Hid (fourV a (fourLoop s n k x) = R))
   case atStart => exact ⟨0, s.size + 1, 0, by omega, rfl, ⟨by omega, by omega⟩, HI3, H3, HR⟩
   case round =>
    obtain ⟨k, n, x, rfl, rfl, hn, HIT, H, HF⟩ := hrel
    have HN := hi_ hn
    clear hn H3 HI3 HR
    by_cases hk : k < s.size
    · have HADV := hi_ (decode_adv s k)
      have hkI : (k : Int) ≤ 1000000 := by have := HLZ.out; omega
      have HF2 : Hid (fourV a (if hexI (Utf8.decode s k).1 < 0 then none else fourLoop s (n - 1) (k + (Utf8.decode s k).2) (stepI x (hexI (Utf8.decode s k).1))) = R) := hi_ (by
       have hf := HF.out
       obtain ⟨n', rfl⟩ : ∃ n', n = n' + 1 := ⟨n - 1, by have := HN.out; omega⟩
       rw [fourLoop, if_pos hk] at hf
       exact hf)
      have HK := hi_ hk
      clear hk HF
      obtain ⟨d, hd⟩ : ∃ d, (Utf8.decode s k).1 = d := ⟨_, rfl⟩
      have hd3 : (d : Int) ≤ 2147483647 := by rw [← hd]; have := decode_le s k; omega
      have HD := hi_ hd
      clear hd
      rw [HD.out] at HF2
      have hb := hexI_b d
      have hcc : hexS = ⟨#[48, 49, 50, 51, 52, 53, 54, 55, 56, 57, 97, 98, 99, 100, 101, 102]⟩ := rfl
      have HC := hi_ hcc
      clear hcc
      go_wp2_with (refine next_more rfl (.tmp 21) rfl B s k HIT.out rfl HK.out ?_; intro w4 hi4 hk4; rw [HD.out])
      have H4 : Hid (Rd w w4 g a) := hi_ (H.out.far hk4 (by have := HGB.out; omega) HGB.out.2)
      have HI4 := hi_ hi4
      clear hk4 hi4
      rw [← HC.out]
      refine (index_calls d _ (by omega)).mono ?_
      rintro E w5 ⟨rfl, hb5⟩
      have HI5 : Hid (w5.heap[B]? = some (.stringIter s (k + (Utf8.decode s k).2))) := hi_ ((hb5.block B (Array.getElem?_eq_some_iff.1 HI4.out).1).trans HI4.out)
      have H5 := hi_ (H4.out.below hb5)
      clear hb5 H4 HI4
      obtain ⟨i, hi⟩ : ∃ i, hexI d = i := ⟨_, rfl⟩
      rw [hi] at HF2 hb ⊢
      have HHI := hi_ hi
      clear hi H HIT
      by_cases h0 : i < 0
      · have HRR : Hid (fourV a none = R) := hi_ (by have := HF2.out; rw [if_pos h0] at this; exact this)
        go_wp2_with fail
        refine (fail_calls H5.out.now 11).mono ?_
        rintro E w6 ⟨rfl, h6⟩
        have h6 := H5.out.trans h6
        go_wp2_with fail
        go_ret
        exact ⟨by rw [← HRR.out]; rfl, by rw [← HRR.out]; exact h6⟩
      have HRR : Hid (fourV a (fourLoop s (n - 1) (k + (Utf8.decode s k).2) (stepI x i)) = R) := hi_ (by have := HF2.out; rw [if_neg h0] at this; exact this)
      have h0' : (0 : Int) ≤ i := by omega
      have hi15 : i ≤ 15 := hb.2
      clear h0 hb
      go_wp2_with fail
      go_roundg (s.size + 1 - (k + (Utf8.decode s k).2))
      case measure => have := HADV.out; have := HK.out; omega
      case rel => exact ⟨_, n - 1, _, rfl, rfl, by have := HADV.out; have := HN.out; have := HK.out; exact ⟨by omega, by omega⟩, HI5, H5, HRR⟩
    · have HRR : Hid (fourV a (some x) = R) := hi_ (by
        have hf := HF.out
        obtain ⟨n', rfl⟩ : ∃ n', n = n' + 1 := ⟨n - 1, by have := HN.out; omega⟩
        rw [fourLoop, if_neg hk] at hf
        exact hf)
      have HK := hi_ hk
      clear hk HF
      have c0 := H.out.c0
      have f0 := H.out.fz 0
      have HX2 : Hid ((ofL a.s).extract 4 (ofL a.s).size = ofL (a.s.drop 4)) := hi_ (by rw [ofL_ext, ofL_size, List.take_length])
      have h9 := H.out.s0 (a.s.drop 4)
      have HH9 := hi_ h9
      clear h9
      go_wp2_with (refine next_over rfl (.tmp 21) rfl B s k HIT.out rfl HK.out ?_)
      rw [HX2.out]
      go_ret
      exact ⟨by rw [← HRR.out]; rfl, by rw [← HRR.out]; exact HH9.out⟩
end Js
end Go.Proofs.YtapcpndplnkfjaaGreatDoor
