/- What the law rests on, part 2: joined by a program of this session (claimx.py). -/
import Derived.Test.YtapcpndplnkfjaaGreatDoorJsonOrdersA
namespace Go.Proofs.YtapcpndplnkfjaaGreatDoor
open Go.RowKit Go.Proofs.YtapcpndplnkfjaaGreatDoorW.PrintWords Go.Proofs.YtapcpndplnkfjaaGreatDoorW.PrintLast Go.Proofs.YtapcpndplnkfjaaGreatDoorW.PrintMore
set_option linter.unusedVariables false
set_option linter.unusedSimpArgs false
namespace Js
theorem info28 : (Tryz.prog.info? 28).map (fun i => (i.zero, i.size, i.bytes)) = some (some (.agg zA), 8, 112) := by kernel_rfl
theorem zero_M (w : World) (base : Nat) : k28.M w base (fun _ => False) z28 zA.toList := k28_mkM w base _ z28 (Kd.R_nil _ _ _ _ _) (Kd.R_nil _ _ _ _ _)
theorem app_run {W : World} {base : Nat} {v : Value} {xs : List S28} (HO : k28.R 28 W base (fun _ => True) v xs) (b : Nat) (hb : W.heap[b]? = some (.cells zA 28 (0, 0))) (hbase : base ≤ W.heap.size) (hl : xs.length ≤ 1000000) :
    ∃ v1 w1, (Builtin.append_ #[25, 25] 25 #[v, .slice (some ⟨b, 0, none⟩) 1 1]).run Tryz.prog W = .ok v1 w1 ∧ k28.R 28 w1 base (fun _ => True) v1 (xs ++ [z28]) ∧ W.grownBy w1 v.ownBlock ∧ (v1.ownBlock = v.ownBlock ∨ v1.ownBlock = some W.heap.size) := by
  obtain ⟨i0, hi, hzz⟩ := Option.map_eq_some_iff.1 info28
  simp only [Prod.mk.injEq] at hzz
  obtain ⟨hz0, hz1, hz2⟩ := hzz
  obtain ⟨h0, inner, hown, hr⟩ := HO
  obtain ⟨v1, w1, hrun, hown1, hg, _, hat⟩ := run_append_own_at (P := Tryz.prog) W base 25 25 28 i0 (.agg zA) 8 112 Tryz.underlying25 hi hz0 hz1 hz2 rfl (by decide) v xs.length inner hown ⟨b, 0, none⟩ 1 1 zA.toList rfl
    (fun j u hu => by
      rw [show (⟨b, 0, none⟩ : Addr).add j = ⟨b, j, none⟩ by unfold Addr.add; split <;> simp_all, blk_cell hb]; simpa using hu)
    (fun u hu => by simp [zA] at hu; rcases hu with rfl | rfl | rfl | rfl | rfl | rfl | rfl <;> rfl)
    (by simp only [maxLen]; omega) (by omega) hbase
  exact ⟨v1, w1, hrun, Kd.R_appended (okp := fun _ => False) h0 hr (zero_M W base) (fun k h => h.elim) (fun _ _ => trivial) hown1 hg (hat.imp id (fun e => ⟨_, e, Nat.le_refl _⟩)), hg, hat⟩
theorem seg_run {W : World} {base : Nat} {okp : Nat → Prop} {v : Value} {xs : List S28} {x : S28} {cs : List Value} (HO : k28.R 28 W base (fun _ => True) v (xs ++ [z28])) (hM : k28.M W base okp x cs) (hokp : ∀ k, okp k → some k ≠ v.ownBlock) :
    ∃ g1 c1, v = .slice (some ⟨g1, 0, none⟩) (xs.length + 1) c1 ∧ base ≤ g1 ∧ (Instr.storeAt 28 (.pointer (some ⟨g1, xs.length * 8, none⟩)) (.agg cs.toArray)).run Tryz.prog W = .ok () (W.setCells g1 (xs.length * 8) cs) ∧
      k28.R 28 (W.setCells g1 (xs.length * 8) cs) base (fun _ => True) v (xs ++ [x]) ∧ W.grownBy (W.setCells g1 (xs.length * 8) cs) (some g1) := by
  have hlen : cs.length = 8 := k28.K_len (k28.K_of_M hM)
  have hone := k28.K_one (k28.K_of_M hM)
  obtain ⟨A, c, hv, hlc, hC⟩ := Kd.R_reads HO
  have hn : (xs ++ [z28]).length = xs.length + 1 := by simp
  rw [hn] at hv hlc hC
  obtain ⟨inner, hown⟩ := Kd.R_own HO
  rw [hn] at hown
  rcases hown.2 with ⟨h0, _⟩ | ⟨g1, cap, cur, hv1, hb, hh, hnc, hcm, hcs, htk⟩
  · rw [h0] at hv; injection hv with _ hv _; omega
  subst hv1
  obtain ⟨ad, cc, e, _, hK, hc0⟩ := Kd.C_get hC z28 xs.length (by omega) (by omega)
  injection hv with hA _ _
  rw [← hA] at e
  injection e with e
  subst e
  have hcl : cc.length = 8 := k28.K_len hK
  have hseg := Kd.R_seg (okp := okp) (seg := cs) (c := cc) (j := 0) (x' := x) HO (xs.length : Int) (by omega) (by omega) hcl
    (fun j u hu => by
      have := hc0 j u hu
      rw [show (⟨g1, 0, none⟩ : Addr).add (((xs.length : Int)).toNat * k28.sz + j) = ⟨g1, ((xs.length : Int)).toNat * k28.sz + j, none⟩ by unfold Addr.add; split <;> simp_all] at this
      exact this)
    (by rw [hlen]; exact Nat.le_refl _) (by rw [List.take_zero, List.nil_append, List.drop_eq_nil_of_le (by rw [hcl, hlen]; exact Nat.le_refl _), List.append_nil]; exact hM) (fun k hk => ⟨trivial, fun e => hokp k hk (by rw [e]; rfl)⟩)
  have e8 : (xs.length : Int).toNat * k28.sz + 0 = xs.length * 8 := by rw [Int.toNat_natCast]; rfl
  rw [e8] at hseg
  have eset : (xs ++ [z28]).set (xs.length : Int).toNat x = xs ++ [x] := by rw [Int.toNat_natCast, List.set_append_right _ _ (Nat.le_refl _), Nat.sub_self]; rfl
  rw [eset] at hseg
  refine ⟨g1, cap, rfl, hb, run_store_run 28 _ cs hh (by simp [Value.cells]) (by rw [hlen]; kernel_rfl) ?_ hone, hseg.1, hseg.2⟩
  rw [hlen, hcs]
  have : k28.sz = 8 := rfl
  rw [this]; omega
theorem exec_app {o : Oper} {a : Act} {W w1 : World} {s x : Operand} {v u v1 : Value} {t : TypeId} (ho : o.op = .call { callee := .builtin .append, args := #[s, x], argTypes := #[t, t] }) (hty : o.type = t) (hs : a.eval s = v) (hx : a.eval x = u)
    (hrun : (Builtin.append_ #[t, t] t #[v, u]).run Tryz.prog W = .ok v1 w1) : (execOp a.eval o).run Tryz.prog W = .ok (.value v1) w1 := by
  unfold execOp
  simp only [ho, resolve, invoke, builtin, Sem.run_bind, Sem.run_pure, Result.andThen_ok, List.map_toArray, List.map_cons, List.map_nil, hs, hx, hty, hrun]
theorem exec_store {o : Oper} {a : Act} {W w1 : World} {p x : Operand} {v u : Value} {t : TypeId} (ho : o.op = .store t p x) (hp : a.eval p = v) (hx : a.eval x = u) (hrun : (Instr.storeAt t v u).run Tryz.prog W = .ok () w1) :
    (execOp a.eval o).run Tryz.prog W = .ok .skip w1 := by
  unfold execOp
  simp only [ho, hp, hx, Sem.run_bind, Sem.run_pure, Result.andThen_ok, hrun]
theorem Rd.grow {w w1 w2 : World} {g : Nat} {row : Option Nat} {a : S} (h : Rd w w1 g a) (k : w1.grownBy w2 row) (hr : ∀ i, row = some i → i ≠ g ∧ w.heap.size ≤ i) : Rd w w2 g a :=
  ⟨(k.block g h.lt (fun e => (hr g e.symm).1 rfl)).trans h.cell, ⟨k.os.trans h.kp.os, k.tape.trans h.kp.tape, k.output.trans h.kp.output, Nat.le_trans h.kp.size k.size,
    fun i hi hne => (k.block i (Nat.lt_of_lt_of_le hi h.kp.size) (fun e => by have := (hr i e.symm).2; omega)).trans (h.kp.block i hi hne)⟩, h.gl, h.tb.grow k (fun i e => by have := (hr i e).2; have := h.gl; omega)⟩
section
variable {P : Program} {md : Region.Mode} {ops : Array Oper} {Q : Exit → Act → World → Prop} {S : World → Prop} {ds : List Nat}
theorem two_last {i j : Nat} {Ni Nj : Option Tmp} {oi oj : Oper} {fuel : Nat} {l : Array Bool} {a : Act} {w : World} (li lj : Array Bool) (hi : ops[i]? = some oi) (hj : ops[j]? = some oj) (hNi : oi.dst = Ni) (hNj : oj.dst = Nj)
    (hc : (Region.ready md ops l == [i, j] && l.setIfInBounds i true == li && l.setIfInBounds j true == lj) = true) (hdi : i ∈ ds) (hdj : j ∈ ds)
    (h1 : ∀ K : Act → World → Prop, Shut (∀ a' w', wpAnyLast P md ops Q S ds fuel li a' w' → K a' w') → if Region.wanted oi (yielded ops a.tmps) = true then Oper.wp P oi a w K Q else K (a.put Ni undef) w)
    (h2 : ∀ K : Act → World → Prop, Shut (∀ a' w', wpAnyLast P md ops Q S ds fuel lj a' w' → K a' w') → if Region.wanted oj (yielded ops a.tmps) = true then Oper.wp P oj a w K Q else K (a.put Nj undef) w) :
    wpAnyLast P md ops Q S ds (fuel + 1) l a w := by
  subst hNi
  subst hNj
  simp only [Bool.and_eq_true, beq_iff_eq] at hc
  obtain ⟨⟨h3, h4⟩, h5⟩ := hc
  subst h4
  subst h5
  exact wpAnyLast_ready h3 (by simp) (AllReadyL.cons_last hi hdi (fun K hK => h1 K hK) (AllReadyL.cons_last hj hdj (fun K hK => h2 K hK) AllReadyL.nil))
end
structure Ar (w : World) (base b rb g : Nat) (xs : List S28) : Prop where
  rc : w.heap[rb]? = some (.cells #[.pointer (some ⟨g, 0, none⟩)] 77 (0, 0))
  vc : ∃ v6, w.heap[b]? = some (.cells #[.int .i64 4, .bool false, .bool false, .string ⟨#[]⟩, .int .i64 0, .string ⟨#[]⟩, v6, .slice none 0 0] 28 (0, 0)) ∧ k28.R 28 w base (fun _ => True) v6 xs
  lt : b < base ∧ rb < base ∧ g < base ∧ base ≤ w.heap.size
  ne : b ≠ g ∧ rb ≠ g ∧ b ≠ rb
structure ArF (w' w w1 : World) (base b rb g : Nat) (r : S28 × S) (v6 : Value) (xs : List S28) (cs : List Value) (m : Nat) : Prop where
  rd : Rd w w' g r.2
  rc : w'.heap[rb]? = some (.cells #[.pointer (some ⟨g, 0, none⟩)] 77 (0, 0))
  vc : w'.heap[b]? = some (.cells #[.int .i64 4, .bool false, .bool false, .string ⟨#[]⟩, .int .i64 0, .string ⟨#[]⟩, v6, .slice none 0 0] 28 (0, 0))
  vr : k28.R 28 w' base (fun k => k < w1.heap.size) v6 xs
  x : k28.M w' w1.heap.size (fun _ => True) r.1 cs
  mz : w'.heap[m]? = some (.cells zA 28 (0, 0))
  lt : base ≤ w'.heap.size ∧ w1.heap.size ≤ m
set_option maxRecDepth 100000 in
set_option maxHeartbeats 8000000 in
theorem arr_step (fv : S → S28 × S) (ok : S → Prop) (HV : VCalls 34 ok fv) {w w1 : World} {g b rb base : Nat} {a : S} {xs : List S28} (h : Rd w w1 g a) (hA : Ar w1 base b rb g xs) (hok : ok a) (hb : w.heap.size ≤ b) (hbase : w.heap.size ≤ base) (hl : xs.length ≤ 1000000) :
    Calls Tryz.prog 96 #[.pointer (some ⟨b, 0, none⟩), .pointer (some ⟨rb, 0, none⟩)] w1 fun E w' => E = .returned (.tuple #[]) ∧ Rd w w' g (fv a).2 ∧ Ar w' base b rb g (xs ++ [(fv a).1]) := by
  have HVX := Lib.hid HV
  have HOK := Lib.hid hok
  have H := Lib.hid h
  have HA := Lib.hid hA
  have HLL := Lib.hid (And.intro hb (And.intro hbase hl))
  obtain ⟨v6, hv6, hr6⟩ := hA.vc
  obtain ⟨A, c, rfl⟩ := Kd.R_slice hr6
  have c6 : w1.drew.cell? ⟨b, 6, none⟩ = some (.slice A xs.length c) := (blk_cell hv6 6).trans rfl
  have cr : w1.drew.cell? ⟨rb, 0, none⟩ = some (.pointer (some ⟨g, 0, none⟩)) := (blk_cell hA.rc 0).trans rfl
  have HV6 := Lib.hid hv6
  have HR6 := Lib.hid hr6
  clear HV hok h hA hb hbase hl hv6 hr6
  go_enter Tryz.func96, Tryz.ntmps96
  refine start_ (n := 11) (S := fun w' => w'.cell? ⟨b, 6, none⟩ = some (.slice A xs.length c) ∧ w'.cell? ⟨rb, 0, none⟩ = some (.pointer (some ⟨g, 0, none⟩))) (ds := [8, 10]) #[false, false, false, false, false, false, false, false, false, false, false] (by kernel_rfl) rfl rfl ⟨c6, cr⟩ (fun hHeld => ?_)
  refine pure_ (i := 0) (N := some 2) (v := ?_) (a' := ?_) #[true, false, false, false, false, false, false, false, false, false, false] rfl rfl (by kernel_rfl) (fun _ _ _ h => h) (Or.inl ⟨by rfl, ?_⟩) ?_ ?_
  rotate_left
  · intro w'
    go_simp
    with_reducible rfl
  rotate_left
  · simp only [Act.put, List.setIfInBounds_toArray, List.set_cons_zero, List.set_cons_succ]
    rfl
  refine take_ (i := 1) (N := some 3) (v := ?_) (a' := ?_) #[true, true, false, false, false, false, false, false, false, false, false] rfl rfl (by kernel_rfl) (fun _ _ _ h => h) (Or.inl ⟨by rfl, ?_⟩) hHeld ?_ ?_
  rotate_left
  · rintro w' ⟨s0, s1⟩
    go_simp
    with_reducible rfl
  rotate_left
  · simp only [Act.put, List.setIfInBounds_toArray, List.set_cons_zero, List.set_cons_succ]
    rfl
  refine take_ (i := 2) (N := some 4) (v := ?_) (a' := ?_) #[true, true, true, false, false, false, false, false, false, false, false] rfl rfl (by kernel_rfl) (fun _ _ _ h => h) (Or.inl ⟨by rfl, ?_⟩) hHeld ?_ ?_
  rotate_left
  · rintro w' ⟨s0, s1⟩
    go_simp
    with_reducible rfl
  rotate_left
  · simp only [Act.put, List.setIfInBounds_toArray, List.set_cons_zero, List.set_cons_succ]
    rfl
  refine pure_ (i := 4) (N := some 6) (v := ?_) (a' := ?_) #[true, true, true, false, true, false, false, false, false, false, false] rfl rfl (by kernel_rfl) (fun _ _ _ h => h) (Or.inl ⟨by rfl, ?_⟩) ?_ ?_
  rotate_left
  · intro w'
    go_simp
    with_reducible rfl
  rotate_left
  · simp only [Act.put, List.setIfInBounds_toArray, List.set_cons_zero, List.set_cons_succ]
    rfl
  refine join_ (σ := List Value × Nat) 5 #[true, true, true, true, true, true, false, false, false, false, false] (fun s => [(5, .agg s.1.toArray), (7, .slice (some ⟨s.2, 0, none⟩) 1 1)]) (fun s w' => ArF w' w w1 base b rb g (fv a) (.slice A xs.length c) xs s.1 s.2) ?_ ?_
  rotate_left
  · intro hCont
    refine two_ (i := 3) (j := 5) (Ni := some 5) (Nj := some 7) #[true, true, true, true, true, false, false, false, false, false, false] #[true, true, true, false, true, true, false, false, false, false, false] rfl rfl rfl rfl (by kernel_rfl) (by decide) (by decide) (fun K hK => ?_) (fun K hK => ?_)
    · have HD := Lib.hid (H.out.d).now
      refine goes_ Tryz.func34 (by kernel_rfl) rfl #[.pointer (some ⟨g, 0, none⟩)] (by rfl) rfl rfl (by (try simp only [List.map_toArray, List.map_cons, List.map_nil]); rfl) ?_
      refine (HVX.out _ _ g a HD.out HOK.out).mono ?_
      rintro E w4 ⟨v, rfl, hv, h4⟩
      refine ⟨_, rfl, ?_⟩
      obtain ⟨cs, rfl, hl8, ho8, hi8, hM⟩ := hv.of
      have hvb := h4.keep HV6.out HA.out.ne.1
      have hrb := h4.keep HA.out.rc HA.out.ne.2.1
      refine hK.out _ _ ⟨(blk_cell hvb 6).trans rfl, (blk_cell hrb 0).trans rfl⟩ (fun hHeld => ?_)
      clear hK K
      refine norm_ (a' := ?_) ?_ ?_
      rotate_left
      · show Act.put _ (some 5) _ = _
        simp only [Act.put, List.setIfInBounds_toArray, List.set_cons_zero, List.set_cons_succ]
        rfl
      refine one_ (i := 5) (N := some 7) #[true, true, true, true, true, true, false, false, false, false, false] rfl rfl (by kernel_rfl) (by decide) (fun K hK => ?_)
      refine value_ (v := .slice (some ⟨w4.heap.size, 0, none⟩) 1 1) (w1 := w4.alloc (.cells zA 28)) (by rfl) rfl ?_ ?_
      · go_simp; rfl
      refine hK.out _ _ ⟨(blk_cell (blk_alloc hvb _) 6).trans rfl, (blk_cell (blk_alloc hrb _) 0).trans rfl⟩ (fun hHeld => ?_)
      clear hK K
      refine norm_ (a' := ?_) ?_ ?_
      rotate_left
      · show Act.put _ (some 7) _ = _
        simp only [Act.put, List.setIfInBounds_toArray, List.set_cons_zero, List.set_cons_succ]
        rfl
      refine norm_ (by simp only [putAll, Act.put, List.setIfInBounds_toArray, List.set_cons_zero, List.set_cons_succ]) (hCont (cs, w4.heap.size) _ ⟨((H.out.d).trans h4).below (Below.alloc (Below.refl _ _) (Nat.le_refl _) _), blk_alloc hrb _, blk_alloc hvb _, ?_, Kd.M_below hM (Below.alloc (Below.refl _ _) (Nat.le_refl _) _), blk_new w4 _, ?_⟩)
      · refine Kd.R_below (Kd.R_mono (Kd.R_move (Kd.R_bound HR6.out) (w1 := w4) (fun k hk => ?_)) (fun k hk => hk.2.2.1)) (Below.alloc (Below.refl _ _) (Nat.le_refl _) _)
        exact h4.kp.block k hk.2.2.1 (by have := hk.2.1; have := HA.out.lt.2.2.1; simp; omega)
      · have := HA.out.lt.2.2.2; have := h4.kp.size; simp at *; omega
    · refine value_ (v := .slice (some ⟨w1.heap.size, 0, none⟩) 1 1) (w1 := w1.drew.alloc (.cells zA 28)) (by rfl) rfl ?_ ?_
      · go_simp; rfl
      have hal : Below w1.drew.heap.size w1.drew (w1.drew.alloc (.cells zA 28)) := Below.alloc (Below.refl _ _) (Nat.le_refl _) _
      have hvb := blk_alloc (blk_drew HV6.out) (.cells zA 28)
      have hrb := blk_alloc (blk_drew HA.out.rc) (.cells zA 28)
      have hmb := blk_new w1.drew (.cells zA 28)
      have HD := Lib.hid ((H.out.d).below hal)
      refine hK.out _ _ ⟨(blk_cell hvb 6).trans rfl, (blk_cell hrb 0).trans rfl⟩ (fun hHeld => ?_)
      clear hK K
      refine norm_ (a' := ?_) ?_ ?_
      rotate_left
      · show Act.put _ (some 7) _ = _
        simp only [Act.put, List.setIfInBounds_toArray, List.set_cons_zero, List.set_cons_succ]
        rfl
      refine one_ (i := 3) (N := some 5) #[true, true, true, true, true, true, false, false, false, false, false] rfl rfl (by kernel_rfl) (by decide) (fun K hK => ?_)
      refine goes_ Tryz.func34 (by kernel_rfl) rfl #[.pointer (some ⟨g, 0, none⟩)] (by rfl) rfl rfl (by (try simp only [List.map_toArray, List.map_cons, List.map_nil]); rfl) ?_
      refine (HVX.out _ _ g a HD.out.now HOK.out).mono ?_
      rintro E w4 ⟨v, rfl, hv, h4⟩
      refine ⟨_, rfl, ?_⟩
      obtain ⟨cs, rfl, hl8, ho8, hi8, hM⟩ := hv.of
      have hvb4 := h4.keep hvb HA.out.ne.1
      have hrb4 := h4.keep hrb HA.out.ne.2.1
      have hmb4 := h4.keep hmb (Nat.ne_of_gt H.out.lt)
      refine hK.out _ _ ⟨(blk_cell hvb4 6).trans rfl, (blk_cell hrb4 0).trans rfl⟩ (fun hHeld => ?_)
      clear hK K
      refine norm_ (a' := ?_) ?_ ?_
      rotate_left
      · show Act.put _ (some 5) _ = _
        simp only [Act.put, List.setIfInBounds_toArray, List.set_cons_zero, List.set_cons_succ]
        rfl
      refine norm_ (by simp only [putAll, Act.put, List.setIfInBounds_toArray, List.set_cons_zero, List.set_cons_succ]) (hCont (cs, w1.heap.size) _ ⟨HD.out.trans h4, hrb4, hvb4, ?_, k28.M_lower (by simp) hM, hmb4, ?_⟩)
      · refine Kd.R_mono (Kd.R_move (Kd.R_bound HR6.out) (w1 := w4) (fun k hk => ?_)) (fun k hk => hk.2.2.1)
        exact (h4.kp.block k (by have := hk.2.2.1; simp; omega) (by have := hk.2.1; have := HA.out.lt.2.2.1; simp; omega)).trans (hal.block k hk.2.2.1)
      · have := HA.out.lt.2.2.2; have := h4.kp.size; simp at *; omega
  · rintro ⟨cs, m⟩ w4 hF
    have HF := Lib.hid hF
    clear hF HVX HOK H HR6 c6 cr
    refine norm_ (a' := ?_) ?_ ?_
    rotate_left
    · simp only [putAll, Act.put, List.setIfInBounds_toArray, List.set_cons_zero, List.set_cons_succ]
      rfl
    obtain ⟨v1, w5, hrun, hR5, hg5, hat5⟩ := app_run (Kd.R_mono HF.out.vr (fun _ _ => trivial)) m HF.out.mz HF.out.lt.1 HLL.out.2.2
    have hv5 := (hg5.block b (Array.getElem?_eq_some_iff.1 HF.out.vc).1 (fun e => by have := (Kd.R_bound HF.out.vr).1 b e.symm; have := HA.out.lt.1; omega)).trans HF.out.vc
    have hr5 := (hg5.block rb (Array.getElem?_eq_some_iff.1 HF.out.rc).1 (fun e => by have := (Kd.R_bound HF.out.vr).1 rb e.symm; have := HA.out.lt.2.1; omega)).trans HF.out.rc
    have hx5 := k28.M_lower (base' := base) HA.out.lt.2.2.2 (Kd.M_grown (k28.M_bound HF.out.x) hg5 (fun k hk e => by have := HF.out.vr.1 k e.symm; have := hk.2.1; omega))
    have hokx : ∀ k, (True ∧ w1.heap.size ≤ k ∧ k < w4.heap.size ∧ ∃ q, q ∈ k28.E ∧ ∃ cells, w4.heap[k]? = some (.cells cells q (0, 0))) → some k ≠ v1.ownBlock := fun k hk e => by
      rcases hat5 with e1 | e1
      · rw [e1] at e; have := HF.out.vr.1 k e.symm; have := hk.2.1; omega
      · rw [e1] at e; have := hk.2.2.1; injection e with e; omega
    have hbb : b < base := HA.out.lt.1
    have hRb : k28.R 28 (w5.setCell ⟨b, 6, none⟩ v1) base (fun _ => True) v1 (xs ++ [z28]) := Kd.R_mono (Kd.R_far (Kd.R_bound hR5) (p := ⟨b, 6, none⟩) (fun k hk => by have := hk.2.1; show k ≠ b; omega) v1) (fun _ _ => trivial)
    have hxb := Kd.M_far hx5 (p := ⟨b, 6, none⟩) (fun k hk => by have := hk.2.1; have := HA.out.lt.2.2.2; show k ≠ b; omega) v1
    obtain ⟨g1, c1, hv1, hg1, hs5, hR6, hk6⟩ := seg_run hR5 hx5 hokx
    obtain ⟨g2, c2, hv2, hg2, hsb, hRb6, hkb6⟩ := seg_run hRb hxb hokx
    subst hv1
    injection hv2 with hv2 _ hv3
    injection hv2 with hv2
    injection hv2 with hv2
    subst hv2; subst hv3
    have HRow : Hid (∀ i, (Value.slice A xs.length c).ownBlock = some i → base ≤ i) := Lib.hid (fun i e => ((Kd.R_bound HF.out.vr).1 i e).2.1)
    have HW5 := Lib.hid (And.intro hg5 (And.intro hR6 (And.intro hk6 (And.intro hRb6 hkb6))))
    have HB5 := Lib.hid (And.intro hv5 hr5)
    have HSb := Lib.hid hsb
    clear hR5 hat5 hx5 hR6 hk6 hokx hRb hxb hRb6 hkb6 hsb hg2 hg5 hv5 hr5
    have HS5 := Lib.hid hs5
    have HG1 := Lib.hid hg1
    clear hs5 hg1
    refine one_ (i := 6) (N := some 8) #[true, true, true, true, true, true, true, false, false, false, false] rfl rfl (by kernel_rfl) (by decide) (fun K hK => ?_)
    refine value_ (v := .slice (some ⟨g1, 0, none⟩) (xs.length + 1) c1) (w1 := w5) (by rfl) rfl ?_ ?_
    · exact exec_app (s := .tmp 3) (x := .tmp 7) rfl rfl rfl rfl hrun
    refine hK.out _ _ ⟨(blk_cell HB5.out.1 6).trans rfl, (blk_cell HB5.out.2 0).trans rfl⟩ (fun hHeld => ?_)
    clear hK K
    refine norm_ (a' := ?_) ?_ ?_
    rotate_left
    · show Act.put _ (some 8) _ = _
      simp only [Act.put, List.setIfInBounds_toArray, List.set_cons_zero, List.set_cons_succ]
      rfl
    have hn0 : (0 : Int) ≤ (xs.length : Int) := by omega
    have hn1 : (xs.length : Int) < ((xs.length + 1 : Nat) : Int) := by omega
    refine pure_ (i := 7) (N := some 9) (v := .pointer (some ⟨g1, xs.length * 8, none⟩)) (a' := ?_) #[true, true, true, true, true, true, true, true, false, false, false] rfl rfl (by kernel_rfl) (fun _ _ _ h => h) (Or.inl ⟨by rfl, ?_⟩) ?_ ?_
    · intro w'
      go_simp
      intro hq
      exact absurd hq (by omega)
    rotate_left
    · simp only [Act.put, List.setIfInBounds_toArray, List.set_cons_zero, List.set_cons_succ]
      rfl
    refine pure_ (i := 9) (N := some 10) (v := ?_) (a' := ?_) #[true, true, true, true, true, true, true, true, false, true, false] rfl rfl (by kernel_rfl) (fun _ _ _ h => h) (Or.inl ⟨by rfl, ?_⟩) ?_ ?_
    rotate_left
    · intro w'
      go_simp
      with_reducible rfl
    rotate_left
    · simp only [Act.put, List.setIfInBounds_toArray, List.set_cons_zero, List.set_cons_succ]
      rfl
    refine two_last (i := 8) (j := 10) (Ni := none) (Nj := none) #[true, true, true, true, true, true, true, true, true, true, false] #[true, true, true, true, true, true, true, true, false, true, true] rfl rfl rfl rfl (by kernel_rfl) (by decide) (by decide) (fun K hK => ?_) (fun K hK => ?_)
    · refine skip_ (w1 := (w5.setCells g1 (xs.length * 8) cs)) (by rfl) rfl (exec_store (p := .tmp 9) (x := .tmp 5) rfl rfl rfl HS5.out) ?_
      refine hK.out _ _ ?_
      clear hK K
      have hvA := (HW5.out.2.2.1.block b (Array.getElem?_eq_some_iff.1 HB5.out.1).1 (fun e => by injection e with e; have := HG1.out; omega)).trans HB5.out.1
      have hrA := (HW5.out.2.2.1.block rb (Array.getElem?_eq_some_iff.1 HB5.out.2).1 (fun e => by injection e with e; have := HG1.out; have := HA.out.lt.2.1; omega)).trans HB5.out.2
      have cA : (w5.setCells g1 (xs.length * 8) cs).cell? ⟨b, 6, none⟩ = some (.slice A xs.length c) := (blk_cell hvA 6).trans rfl
      have fA := blk_frozen hvA 6
      refine last_ (i := 10) (N := none) #[true, true, true, true, true, true, true, true, true, true, true] rfl rfl (by kernel_rfl) (by decide) (fun K hK => ?_)
      refine skip_ (w1 := (w5.setCells g1 (xs.length * 8) cs).setCell ⟨b, 6, none⟩ (.slice (some ⟨g1, 0, none⟩) (xs.length + 1) c1)) (by rfl) rfl ?_ ?_
      · go_simp
      refine hK.out _ _ ?_
      refine done_ (by kernel_rfl) ?_
      clear hK K cA fA
      go_end0
      refine ⟨rfl, ((HF.out.rd.grow HW5.out.1 (fun i e => ?_)).grow HW5.out.2.2.1 (fun i e => ?_)).far (grown_set _ b 6 _) HA.out.ne.1 HLL.out.1, (Below.heap_setCell _ _ _ _ (fun e => HA.out.ne.2.2 e.symm)).trans hrA, ⟨_, blk_put hvA 6 _ rfl, ?_⟩, ⟨HA.out.lt.1, HA.out.lt.2.1, HA.out.lt.2.2.1, ?_⟩, HA.out.ne⟩
      · have := HRow.out i e; have := HA.out.lt.2.2.1; have := HLL.out.2.1; exact ⟨by omega, by omega⟩
      · injection e with e; have := HG1.out; have := HA.out.lt.2.2.1; have := HLL.out.2.1; exact ⟨by omega, by omega⟩
      · exact Kd.R_mono (Kd.R_far (Kd.R_bound HW5.out.2.1) (p := ⟨b, 6, none⟩) (fun k hk => by have := hk.2.1; show k ≠ b; omega) _) (fun _ _ => trivial)
      · exact Nat.le_trans HF.out.lt.1 (Nat.le_trans HW5.out.1.size (Nat.le_trans HW5.out.2.2.1.size (grown_set _ _ _ _).size))
    · have cB : w5.cell? ⟨b, 6, none⟩ = some (.slice A xs.length c) := (blk_cell HB5.out.1 6).trans rfl
      have fB := blk_frozen HB5.out.1 6
      refine skip_ (w1 := (w5.setCell ⟨b, 6, none⟩ (.slice (some ⟨g1, 0, none⟩) (xs.length + 1) c1))) (by rfl) rfl ?_ ?_
      · go_simp
      refine hK.out _ _ ?_
      clear hK K cB fB
      refine last_ (i := 8) (N := none) #[true, true, true, true, true, true, true, true, true, true, true] rfl rfl (by kernel_rfl) (by decide) (fun K hK => ?_)
      refine skip_ (w1 := (w5.setCell ⟨b, 6, none⟩ (.slice (some ⟨g1, 0, none⟩) (xs.length + 1) c1)).setCells g1 (xs.length * 8) cs) (by rfl) rfl (exec_store (p := .tmp 9) (x := .tmp 5) rfl rfl rfl HSb.out) ?_
      refine hK.out _ _ ?_
      refine done_ (by kernel_rfl) ?_
      clear hK K
      have hvB := blk_put HB5.out.1 6 (.slice (some ⟨g1, 0, none⟩) (xs.length + 1) c1) rfl
      have hrB := (Below.heap_setCell w5 ⟨b, 6, none⟩ (.slice (some ⟨g1, 0, none⟩) (xs.length + 1) c1) rb (fun e => HA.out.ne.2.2 e.symm)).trans HB5.out.2
      have hvC := (HW5.out.2.2.2.2.block b (Array.getElem?_eq_some_iff.1 hvB).1 (fun e => by injection e with e; have := HG1.out; omega)).trans hvB
      have hrC := (HW5.out.2.2.2.2.block rb (Array.getElem?_eq_some_iff.1 hrB).1 (fun e => by injection e with e; have := HG1.out; have := HA.out.lt.2.1; omega)).trans hrB
      go_end0
      refine ⟨rfl, ((HF.out.rd.grow HW5.out.1 (fun i e => ?_)).far (grown_set _ b 6 _) HA.out.ne.1 HLL.out.1).grow HW5.out.2.2.2.2 (fun i e => ?_), hrC, ⟨_, hvC, HW5.out.2.2.2.1⟩, ⟨HA.out.lt.1, HA.out.lt.2.1, HA.out.lt.2.2.1, ?_⟩, HA.out.ne⟩
      · have := HRow.out i e; have := HA.out.lt.2.2.1; have := HLL.out.2.1; exact ⟨by omega, by omega⟩
      · injection e with e; have := HG1.out; have := HA.out.lt.2.2.1; have := HLL.out.2.1; exact ⟨by omega, by omega⟩
      · exact Nat.le_trans HF.out.lt.1 (Nat.le_trans HW5.out.1.size (Nat.le_trans (grown_set _ _ _ _).size HW5.out.2.2.2.2.size))
end Js
end Go.Proofs.YtapcpndplnkfjaaGreatDoor
namespace Go.Proofs.YtapcpndplnkfjaaGreatDoor
open Go.RowKit Go.Proofs.YtapcpndplnkfjaaGreatDoorW.PrintWords Go.Proofs.YtapcpndplnkfjaaGreatDoorW.PrintLast Go.Proofs.YtapcpndplnkfjaaGreatDoorW.PrintMore
set_option linter.unusedVariables false
set_option linter.unusedSimpArgs false
namespace Js
variable {σ : Type}
def listLoop (st : σ → S → σ × S) : Nat → σ → S → σ × S
  | 0, x, a => (x, a)
  | k + 1, x, a => if a.took [44] = true then listLoop st k (st x (a.take [44])).1 (st x (a.take [44])).2 else (x, a.take [44])
def S.left (a : S) : S := { a with o := a.o - 1 }
def listF (st : σ → S → σ × S) (p : List UInt8) (x : σ) (a : S) : σ × S :=
  if a.enter.took p = true then (x, (a.enter.take p).left) else
  let r := st x (a.enter.take p)
  let q := listLoop st (r.2.s.length + 1) r.1 r.2
  (q.1, (q.2.need p).left)
structure Thing (w : World) (g fn : Nat) (cap : Array Value) (Inv : World → σ → Prop) (st : σ → S → σ × S) (P P1 : σ → S → Prop) : Prop where
  calls : ∀ w1 x a, Rd w w1 g a → Inv w1 x → P x a → Calls Tryz.prog fn cap w1 fun E w' => E = .returned (.tuple #[]) ∧ Rd w w' g (st x a).2 ∧ Inv w' (st x a).1
  kept : ∀ w1 w2 x, Inv w1 x → w1.grownBy w2 (some g) → Inv w2 x
  len : ∀ x a, P x a → (st x a).2.s.length ≤ a.s.length
  step : ∀ x a, P x a → P1 (st x a).1 (st x a).2
  more : ∀ x a, P1 x a → a.took [44] = true → P x (a.take [44])
  open_ : ∀ x a, P1 x a → 0 ≤ a.o ∧ a.o ≤ 1000
theorem take_o (a : S) (p : List UInt8) : (a.take p).o = a.o := by unfold S.take; split <;> rfl
theorem need_o (a : S) (p : List UInt8) : (a.need p).o = a.o := by
  unfold S.need S.fail
  split <;> exact take_o a p
theorem skip_len (a : S) : a.skip.s.length ≤ a.s.length := by
  unfold S.skip Lib.trimLeftS
  exact (List.dropWhile_sublist _).length_le
theorem took_lt (a : S) (c : UInt8) (h : a.took [c] = true) : (a.take [c]).s.length < a.s.length := by
  have h1 := skip_len a
  have hp : Lib.hasPrefix a.skip.s [c] = true := by unfold S.took at h; simp at h; exact h.1
  unfold S.take
  rw [if_pos h]
  show (Lib.trimPrefix a.skip.s [c]).length < a.s.length
  unfold Lib.trimPrefix
  rw [if_pos hp]
  cases hs : a.skip.s with
  | nil => rw [hs] at hp; simp [Lib.hasPrefix] at hp
  | cons d t => rw [hs] at h1; simp at h1 ⊢; omega
set_option maxRecDepth 100000 in
set_option maxHeartbeats 8000000 in
theorem list_67 {w w1 : World} {g : Nat} {cap : Array Value} {Inv : World → σ → Prop} {st : σ → S → σ × S} {P P1 : σ → S → Prop} (HT : Thing w g 96 cap Inv st P P1) (p : List UInt8) {x : σ} {a : S} (h : Rd w w1 g a) (hI : Inv w1 x) (ho : 0 ≤ a.o ∧ a.o ≤ 100) (hs : a.s ≠ [])
    (hP : a.enter.took p = false → P x (a.enter.take p)) (hop : 0 ≤ a.enter.o ∧ a.enter.o ≤ 1000) :
    Calls Tryz.prog 95 #[.pointer (some ⟨g, 0, none⟩), .string (ofL p), .func (.func 96) #[] cap] w1 fun E w' => E = .returned (.tuple #[]) ∧ Rd w w' g (listF st p x a).2 ∧ Inv w' (listF st p x a).1 := by
  have H := Lib.hid h
  have HI := Lib.hid hI
  have HTT := Lib.hid HT
  have HOS := Lib.hid (And.intro ho hs)
  have HP := Lib.hid hP
  have HOP := Lib.hid hop
  obtain ⟨R, hR⟩ : ∃ R, listF st p x a = R := ⟨_, rfl⟩
  have HR := Lib.hid hR
  rw [hR]
  clear h hI HT ho hs hP hop hR
  go_enter Tryz.func95, Tryz.ntmps95
  go_wp2_with fail
  refine (enter_calls H.out.now HOS.out.1 HOS.out.2).mono ?_
  rintro E w2 ⟨rfl, h2⟩
  have HI2 := Lib.hid (HTT.out.kept _ _ _ HI.out h2.kp)
  have H2 := Lib.hid (H.out.trans h2)
  clear h2
  go_wp2_with fail
  refine (took_calls H2.out.now p).mono ?_
  rintro E w3 ⟨rfl, h3⟩
  have HI3 := Lib.hid (HTT.out.kept _ _ _ HI2.out h3.kp)
  have H3 := Lib.hid (H2.out.trans h3)
  clear h3
  cases hk : a.enter.took p with
  | true =>
    have HF : Hid ((a.enter.take p).left = R.2 ∧ R.1 = x) := Lib.hid (by rw [← HR.out]; unfold listF; rw [if_pos hk]; exact ⟨rfl, rfl⟩)
    have c1 := H3.out.c1
    have f1 := H3.out.fz 1
    have o0 : 0 ≤ (a.enter.take p).o := by rw [take_o]; exact HOP.out.1
    have o1 : (a.enter.take p).o ≤ 1000 := by rw [take_o]; exact HOP.out.2
    clear hk
    go_wp2
    go_end0
    exact ⟨rfl, by rw [← HF.out.1]; exact H3.out.s1 _, by rw [HF.out.2]; exact HTT.out.kept _ _ _ HI3.out (grown_set _ _ _ _)⟩
  | false =>
    have HF : Hid (listLoop st ((st x (a.enter.take p)).2.s.length + 1) (st x (a.enter.take p)).1 (st x (a.enter.take p)).2 = (R.1, (listLoop st ((st x (a.enter.take p)).2.s.length + 1) (st x (a.enter.take p)).1 (st x (a.enter.take p)).2).2) ∧ ((listLoop st ((st x (a.enter.take p)).2.s.length + 1) (st x (a.enter.take p)).1 (st x (a.enter.take p)).2).2.need p).left = R.2) := Lib.hid (by
      rw [← HR.out]; unfold listF; rw [if_neg (by rw [hk]; simp)]; exact ⟨rfl, rfl⟩)
    have HPx := Lib.hid (HP.out hk)
    clear hk
    go_wp2_with fail
    refine (HTT.out.calls _ _ _ H3.out HI3.out HPx.out).mono ?_
    rintro E w4 ⟨rfl, h4, hI4⟩
    have H4 := Lib.hid h4
    have HI4 := Lib.hid hI4
    have HP4 := Lib.hid (HTT.out.step _ _ HPx.out)
    clear h4 hI4
    generalize hx1 : (st x (a.enter.take p)).1 = x1 at *
    generalize ha1 : (st x (a.enter.take p)).2 = a1 at *
    generalize hq : (listLoop st (a1.s.length + 1) x1 a1).2 = q at *
    go_wp2_with fail
    go_loopg [] a1.s.length (fun gk wr => ∃ y b k, gk = b.s.length ∧ b.s.length < k ∧ Rd w wr g b ∧ Inv wr y ∧ P1 y b ∧ listLoop st k y b = (R.1, q))
    case atStart => exact ⟨x1, a1, a1.s.length + 1, rfl, Nat.lt_succ_self _, H4.out, HI4.out, HP4.out, HF.out.1⟩
    case round =>
      obtain ⟨y, b, k, rfl, hk, hrd, hinv, hp1, hll⟩ := hrel
      have H5 := Lib.hid hrd
      have HI5 := Lib.hid hinv
      have HP5 := Lib.hid hp1
      have HLL := Lib.hid hll
      have HK := Lib.hid hk
      clear hrd hinv hp1 hll hk
      go_wp2_with fail
      refine (took_calls H5.out.now [44]).mono ?_
      rintro E w6 ⟨rfl, h6⟩
      have HI6 := Lib.hid (HTT.out.kept _ _ _ HI5.out h6.kp)
      have H6 := Lib.hid (H5.out.trans h6)
      clear h6
      cases hk : b.took [44] with
      | true =>
        have HPy := Lib.hid (HTT.out.more _ _ HP5.out hk)
        have HLT := Lib.hid (took_lt b 44 hk)
        have HL2 : Hid (listLoop st (k - 1) (st y (b.take [44])).1 (st y (b.take [44])).2 = (R.1, q)) := Lib.hid (by
          have hl := HLL.out
          obtain ⟨k', rfl⟩ : ∃ k', k = k' + 1 := ⟨k - 1, by have := HK.out; omega⟩
          rw [listLoop, if_pos hk] at hl
          exact hl)
        clear hk
        go_wp2_with fail
        refine (HTT.out.calls _ _ _ H6.out HI6.out HPy.out).mono ?_
        rintro E w7 ⟨rfl, h7, hI7⟩
        have H7 := Lib.hid h7
        have HI7 := Lib.hid hI7
        clear h7 hI7
        go_wp2
        go_roundg ((st y (b.take [44])).2.s.length)
        case measure => have := HTT.out.len _ _ HPy.out; have := HLT.out; omega
        case rel => exact ⟨_, _, k - 1, rfl, by have := HTT.out.len _ _ HPy.out; have := HLT.out; have := HK.out; omega, H7.out, HI7.out, HTT.out.step _ _ HPy.out, HL2.out⟩
      | false =>
        have HQ : Hid (y = R.1 ∧ b.take [44] = q) := Lib.hid (by
          have hl := HLL.out
          obtain ⟨k', rfl⟩ : ∃ k', k = k' + 1 := ⟨k - 1, by have := HK.out; omega⟩
          rw [listLoop, if_neg (by rw [hk]; simp)] at hl
          injection hl with h1 h2
          exact ⟨h1, h2⟩)
        have HOB := Lib.hid (HTT.out.open_ _ _ HP5.out)
        clear hk
        go_wp2_with fail
        refine (need_calls H6.out.now p).mono ?_
        rintro E w8 ⟨rfl, h8⟩
        have HI8 := Lib.hid (HTT.out.kept _ _ _ HI6.out h8.kp)
        have H8 := Lib.hid (H6.out.trans h8)
        clear h8
        have c1 := H8.out.c1
        have f1 := H8.out.fz 1
        have o0 : 0 ≤ ((b.take [44]).need p).o := by rw [need_o, take_o]; exact HOB.out.1
        have o1 : ((b.take [44]).need p).o ≤ 1000 := by rw [need_o, take_o]; exact HOB.out.2
        go_wp2
        go_end0
        exact ⟨rfl, by rw [← HF.out.2, ← HQ.out.2]; exact H8.out.s1 _, by rw [← HQ.out.1]; exact HTT.out.kept _ _ _ HI8.out (grown_set _ _ _ _)⟩
end Js
end Go.Proofs.YtapcpndplnkfjaaGreatDoor
namespace Go.Proofs.YtapcpndplnkfjaaGreatDoor
open Go.RowKit Go.Proofs.YtapcpndplnkfjaaGreatDoorW.PrintWords Go.Proofs.YtapcpndplnkfjaaGreatDoorW.PrintLast Go.Proofs.YtapcpndplnkfjaaGreatDoorW.PrintMore
set_option linter.unusedVariables false
set_option linter.unusedSimpArgs false
namespace Js
theorem next_more {P : Program} {ops : Array Oper} {rest : List Oper} {o : Oper} {a : Act} {w : World} {Q : Exit → Act → World → Prop} (hg : o.guard = none) (x : Operand) (ho : o.op = .next x true) (it : Nat) (s : ByteArray) (pos : Nat)
    (hb : w.heap[it]? = some (.stringIter s pos)) (hx : a.eval x = .pointer (some ⟨it, 0, none⟩)) (hp : pos < s.size)
    (h : ∀ w1, w1.heap[it]? = some (.stringIter s (pos + (Utf8.decode s pos).2)) → w.grownBy w1 (some it) → wpList P ops Q rest (a.put o.dst (.tuple #[.bool true, .int .i64 pos, .int .i32 (Utf8.decode s pos).1])) w1) : wpList P ops Q (o :: rest) a w := by
  have hr : ∀ ty, (Instr.next (.pointer (some ⟨it, 0, none⟩)) true ty).run P w = .ok (.tuple #[.bool true, .int .i64 pos, .int .i32 (Utf8.decode s pos).1]) { w with heap := w.heap.setIfInBounds it (.stringIter s (pos + (Utf8.decode s pos).2)) } := fun ty => by
    simp only [Instr.next, getObj, setObj, Sem.run_bind, Sem.run, hb, Result.andThen, hp, if_true]
    simp [goInt]
  refine wpList_plain hg fun K' hK' => ?_
  unfold Oper.wp
  simp [execOp, ho, hx, hr, Result.andThen]
  exact hK' _ _ (h _ (MapKept.heap_set hb).1 ⟨rfl, rfl, rfl, by simp, fun i _ hi => (MapKept.heap_set hb).2 i (by simpa using hi)⟩)
theorem next_over {P : Program} {ops : Array Oper} {rest : List Oper} {o : Oper} {a : Act} {w : World} {Q : Exit → Act → World → Prop} (hg : o.guard = none) (x : Operand) (ho : o.op = .next x true) (it : Nat) (s : ByteArray) (pos : Nat)
    (hb : w.heap[it]? = some (.stringIter s pos)) (hx : a.eval x = .pointer (some ⟨it, 0, none⟩)) (hp : ¬ pos < s.size)
    (h : wpList P ops Q rest (a.put o.dst (.tuple #[.bool false])) w) : wpList P ops Q (o :: rest) a w := by
  have hr : ∀ ty, (Instr.next (.pointer (some ⟨it, 0, none⟩)) true ty).run P w = .ok (.tuple #[.bool false]) w := fun ty => by
    simp only [Instr.next, getObj, setObj, Sem.run_bind, Sem.run, hb, Result.andThen, hp, if_false]
    simp [goInt]
  refine wpList_plain hg fun K' hK' => ?_
  unfold Oper.wp
  simp [execOp, ho, hx, hr, Result.andThen]
  exact hK' _ _ h
theorem decode_adv (s : ByteArray) (pos : Nat) : 1 ≤ (Utf8.decode s pos).2 := by
  simp only [Utf8.decode]
  repeat' split
  all_goals simp_all [Utf8.runeError]
def plainF (s : ByteArray) : Nat → Nat → Nat × Bool
  | 0, k => (k, false)
  | n + 1, k =>
    if k < s.size then
      if (Utf8.decode s k).1 = 34 ∨ (Utf8.decode s k).1 = 92 then (k, true) else
      if (Utf8.decode s k).1 < 32 then (k, false) else
      if (Utf8.decode s k).1 = 65533 ∧ (Lib.decodeGo (s.extract k s.size)).2 < 2 then (k, false) else plainF s n (k + (Utf8.decode s k).2)
    else (s.size, false)
set_option maxRecDepth 100000 in
set_option maxHeartbeats 4000000 in
theorem plain_calls (s : ByteArray) (w : World) (hT : Tabs w) (hl : s.size ≤ 1000000) :
    Calls Tryz.prog 118 #[.string s] w fun E w' => E = .returned (.tuple #[.int .i64 ((plainF s (s.size + 1) 0).1 : Nat), .bool (plainF s (s.size + 1) 0).2]) ∧ Below w.heap.size w w' := by
  have HTB := Lib.hid hT
  obtain ⟨R, hR⟩ : ∃ R, plainF s (s.size + 1) 0 = R := ⟨_, rfl⟩
  have HR := Lib.hid hR
  rw [hR]
  clear hT hR
  go_enter Tryz.func118, Tryz.ntmps118
  go_wp2_with fail
  go_loopg [] (s.size + 1) (fun gk wr => ∃ k n, gk = s.size + 1 - k ∧ (s.size < n + k ∧ 1 ≤ n) ∧ Hid (wr.heap[w.heap.size]? = some (.stringIter s k)) ∧ Hid (Below w.heap.size w wr) ∧ Hid (plainF s n k = R))
  case atStart => exact ⟨0, s.size + 1, by omega, ⟨by omega, by omega⟩, Lib.hid (w.iter_heap s 0), Lib.hid (Below.alloc (Below.refl _ _) (Nat.le_refl _) _), HR⟩
  case round =>
    obtain ⟨k, n, rfl, hn, HIT, HB, HF⟩ := hrel
    have HN := Lib.hid hn
    clear HR hn
    by_cases hk : k < s.size
    · have HF2 : Hid ((if (Utf8.decode s k).1 = 34 ∨ (Utf8.decode s k).1 = 92 then (k, true) else if (Utf8.decode s k).1 < 32 then (k, false) else if (Utf8.decode s k).1 = 65533 ∧ (Lib.decodeGo (s.extract k s.size)).2 < 2 then (k, false) else plainF s (n - 1) (k + (Utf8.decode s k).2)) = R) := Lib.hid (by
        have hf := HF.out
        obtain ⟨n', rfl⟩ : ∃ n', n = n' + 1 := ⟨n - 1, by have := HN.out; omega⟩
        rw [plainF, if_pos hk] at hf
        exact hf)
      have HADV := Lib.hid (decode_adv s k)
      have hkI : (k : Int) ≤ 1000000 := by omega
      have hks : (k : Int) ≤ (s.size : Int) := by omega
      have HK := Lib.hid hk
      clear HF hk
      obtain ⟨d, hd⟩ : ∃ d, (Utf8.decode s k).1 = d := ⟨_, rfl⟩
      have hd3 : (d : Int) ≤ 2147483647 := by rw [← hd]; have := decode_le s k; omega
      have HD := Lib.hid hd
      clear hd
      rw [HD.out] at HF2
      by_cases c1 : d = 34 ∨ d = 92
      · have HRR : Hid ((k, true) = R) := Lib.hid (by have := HF2.out; rw [if_pos c1] at this; exact this)
        rcases c1 with c1 | c1
        · subst c1
          go_wp2_with (refine next_more rfl (.tmp 9) rfl w.heap.size s k HIT.out rfl HK.out ?_; intro w2 hi2 hk2; rw [HD.out])
          have hb2 := HB.out.grown hk2 HB.out.size (fun i e => Nat.le_of_eq (Option.some.inj e))
          exact bodyPost_ret (results_list (rs := [.tmp 2, .tmp 3]) rfl (by simp) (.tmp (.tmp .nil))) rfl ⟨by rw [← HRR.out]; rfl, hb2⟩
        · subst c1
          go_wp2_with (refine next_more rfl (.tmp 9) rfl w.heap.size s k HIT.out rfl HK.out ?_; intro w2 hi2 hk2; rw [HD.out])
          have hb2 := HB.out.grown hk2 HB.out.size (fun i e => Nat.le_of_eq (Option.some.inj e))
          exact bodyPost_ret (results_list (rs := [.tmp 2, .tmp 3]) rfl (by simp) (.tmp (.tmp .nil))) rfl ⟨by rw [← HRR.out]; rfl, hb2⟩
      · have q1 : ((d : Int) == 34) = false := by simp; omega
        have q2 : ((d : Int) == 92) = false := by simp; omega
        by_cases c2 : d < 32
        · have HRR : Hid ((k, false) = R) := Lib.hid (by have := HF2.out; rw [if_neg c1, if_pos c2] at this; exact this)
          have q3 : (d : Int) < 32 := by omega
          clear c1 c2
          go_wp2_with (refine next_more rfl (.tmp 9) rfl w.heap.size s k HIT.out rfl HK.out ?_; intro w2 hi2 hk2; rw [HD.out])
          have hb2 := HB.out.grown hk2 HB.out.size (fun i e => Nat.le_of_eq (Option.some.inj e))
          exact bodyPost_ret (results_list (rs := [.tmp 2, .tmp 3]) rfl (by simp) (.tmp (.tmp .nil))) rfl ⟨by rw [← HRR.out]; rfl, hb2⟩
        · have q3 : (32 : Int) ≤ (d : Int) := by omega
          by_cases c3 : d = 65533
          · subst c3
            obtain ⟨m, hm⟩ : ∃ m, (Lib.decodeGo (s.extract k s.size)).2 = m := ⟨_, rfl⟩
            have HM := Lib.hid hm
            rw [HM.out] at HF2
            clear hm
            by_cases c4 : m < 2
            · have HRR : Hid ((k, false) = R) := Lib.hid (by have := HF2.out; rw [if_neg c1, if_neg c2, if_pos ⟨rfl, c4⟩] at this; exact this)
              have q4 : (m : Int) < 2 := by omega
              clear c1 c2 c4
              go_wp2_with (refine next_more rfl (.tmp 9) rfl w.heap.size s k HIT.out rfl HK.out ?_; intro w2 hi2 hk2; rw [HD.out])
              refine (Tryz.utf8_DecodeRuneInString _ _ (HTB.out.below (HB.out.grown hk2 HB.out.size (fun i e => Nat.le_of_eq (Option.some.inj e)))).u8).mono ?_
              rintro E w3 ⟨rfl, hb⟩
              rw [HM.out]
              have hb3 := (HB.out.grown hk2 HB.out.size (fun i e => Nat.le_of_eq (Option.some.inj e))).trans (hb.mono (Nat.le_trans HB.out.size hk2.size))
              have hi3 := (hb.block w.heap.size (Array.getElem?_eq_some_iff.1 hi2).1).trans hi2
              go_wp2
              exact bodyPost_ret (results_list (rs := [.tmp 2, .tmp 3]) rfl (by simp) (.tmp (.tmp .nil))) rfl ⟨by rw [← HRR.out]; rfl, hb3⟩
            · have HRR : Hid (plainF s (n - 1) (k + (Utf8.decode s k).2) = R) := Lib.hid (by have := HF2.out; rw [if_neg c1, if_neg c2, if_neg (fun h => c4 h.2)] at this; exact this)
              have q4 : (2 : Int) ≤ (m : Int) := by omega
              clear c1 c2 c4
              go_wp2_with (refine next_more rfl (.tmp 9) rfl w.heap.size s k HIT.out rfl HK.out ?_; intro w2 hi2 hk2; rw [HD.out])
              refine (Tryz.utf8_DecodeRuneInString _ _ (HTB.out.below (HB.out.grown hk2 HB.out.size (fun i e => Nat.le_of_eq (Option.some.inj e)))).u8).mono ?_
              rintro E w3 ⟨rfl, hb⟩
              rw [HM.out]
              have hb3 := (HB.out.grown hk2 HB.out.size (fun i e => Nat.le_of_eq (Option.some.inj e))).trans (hb.mono (Nat.le_trans HB.out.size hk2.size))
              have hi3 := (hb.block w.heap.size (Array.getElem?_eq_some_iff.1 hi2).1).trans hi2
              go_wp2
              go_roundg (s.size + 1 - (k + (Utf8.decode s k).2))
              case measure => have := HADV.out; have := HK.out; omega
              case rel => exact ⟨_, n - 1, rfl, by have := HADV.out; have := HN.out; have := HK.out; exact ⟨by omega, by omega⟩, Lib.hid hi3, Lib.hid hb3, HRR⟩
          · have q4 : ((d : Int) == 65533) = false := by simp; omega
            have HRR : Hid (plainF s (n - 1) (k + (Utf8.decode s k).2) = R) := Lib.hid (by have := HF2.out; rw [if_neg c1, if_neg c2, if_neg (fun h => c3 h.1)] at this; exact this)
            clear c1 c2 c3
            go_wp2_with (refine next_more rfl (.tmp 9) rfl w.heap.size s k HIT.out rfl HK.out ?_; intro w2 hi2 hk2; rw [HD.out])
            have hb2 := HB.out.grown hk2 HB.out.size (fun i e => Nat.le_of_eq (Option.some.inj e))
            go_roundg (s.size + 1 - (k + (Utf8.decode s k).2))
            case measure => have := HADV.out; have := HK.out; omega
            case rel => exact ⟨_, n - 1, rfl, by have := HADV.out; have := HN.out; have := HK.out; exact ⟨by omega, by omega⟩, Lib.hid hi2, Lib.hid hb2, HRR⟩
    · have HRR : Hid ((s.size, false) = R) := Lib.hid (by
        have hf := HF.out
        cases n with
        | zero => exact absurd HN.out (by omega)
        | succ n => rw [plainF, if_neg hk] at hf; exact hf)
      have HK := Lib.hid hk
      clear hk HF
      go_wp2_with (refine next_over rfl (.tmp 9) rfl w.heap.size s k HIT.out rfl HK.out ?_)
      exact bodyPost_ret (results_list (rs := [.tmp 2, .tmp 3]) rfl (by simp) (.tmp (.tmp .nil))) rfl ⟨by rw [← HRR.out]; rfl, HB.out⟩
end Js
end Go.Proofs.YtapcpndplnkfjaaGreatDoor
namespace Go.Proofs.YtapcpndplnkfjaaGreatDoor
open Go.RowKit Go.Proofs.YtapcpndplnkfjaaGreatDoorW.PrintWords Go.Proofs.YtapcpndplnkfjaaGreatDoorW.PrintLast Go.Proofs.YtapcpndplnkfjaaGreatDoorW.PrintMore
set_option linter.unusedVariables false
set_option linter.unusedSimpArgs false
namespace Js
theorem Rd.belowB {w w1 w2 : World} {g B : Nat} {a : S} (h : Rd w w1 g a) (k : Below B w1 w2) (hg : g < B) (hw : w.heap.size ≤ B) : Rd w w2 g a := by
  refine ⟨(k.block g hg).trans h.cell, ⟨k.os.trans h.kp.os, k.tape.trans h.kp.tape, k.output.trans h.kp.output, Nat.le_trans h.kp.size k.size, fun i hi hne => (k.block i (Nat.lt_of_lt_of_le hi hw)).trans (h.kp.block i hi hne)⟩, h.gl, ?_⟩
  obtain ⟨w0, h1, h2, h3⟩ := h.tb
  exact ⟨w0, h1, h2.trans (k.mono (by omega)), h3⟩
theorem bd_at {w w' : World} {B b g : Nat} {p : Value} {bs : List Value} (h : Lib.BuilderAt 126 5 B b p bs w) (k : w.grownBy w' (some g)) (hg : g < B) : Lib.BuilderAt 126 5 B b p bs w' := by
  obtain ⟨h1, v, h2, h3, h4⟩ := h
  refine ⟨h1, v, (k.block b (Array.getElem?_eq_some_iff.1 h2).1 (by simp; omega)).trans h2, ?_, h4⟩
  exact own_move (World.ownsRow.kept h3 k (by
    cases hv : v.ownBlock with
    | none => exact .inl rfl
    | some i => right; intro e; injection e with e; have := h3.lt i hv; omega)) (fun _ _ => rfl)
theorem bd_kept {w w' : World} {B b g : Nat} {bs : List Value} (h : Lib.IsBuilder 126 5 B b bs w) (k : w.grownBy w' (some g)) (hg : g < B) : Lib.IsBuilder 126 5 B b bs w' :=
  h.elim (fun x => .inl (bd_at x k hg)) (fun x => .inr (bd_at x k hg))
theorem plainF_le (s : ByteArray) : ∀ n k, s.size < n + k → 1 ≤ n → (plainF s n k).1 ≤ s.size ∧ ((plainF s n k).2 = true → (plainF s n k).1 < s.size)
  | 0, k, _, h => absurd h (by omega)
  | n + 1, k, h, _ => by
    rw [plainF]
    by_cases hk : k < s.size
    · rw [if_pos hk]
      split
      · exact ⟨Nat.le_of_lt hk, fun _ => hk⟩
      split
      · exact ⟨Nat.le_of_lt hk, fun h => by cases h⟩
      split
      · exact ⟨Nat.le_of_lt hk, fun h => by cases h⟩
      · have := decode_adv s k
        exact plainF_le s n _ (by omega) (by omega)
    · rw [if_neg hk]
      exact ⟨Nat.le_refl _, fun h => by cases h⟩
def ECalls (okE : S → Prop) (esc : S → List UInt8 × S) : Prop := ∀ (w w1 : World) (g : Nat) (a : S), Rd w w1 g a → okE a →
  Calls Tryz.prog 119 #[.pointer (some ⟨g, 0, none⟩)] w1 fun E w' => E = .returned (.string (ofL (esc a).1)) ∧ Rd w w' g (esc a).2
def S.plain (a : S) : Nat × Bool := plainF (ofL a.s) ((ofL a.s).size + 1) 0
def S.cut (a : S) : S := { a with s := a.s.drop (a.plain.1 + 1) }
def strLoop (esc : S → List UInt8 × S) : Nat → List UInt8 → S → List UInt8 × S
  | 0, out, a => (out, a)
  | n + 1, out, a =>
    if a.e ≠ 0 then (out, a) else
    if a.plain.2 = false then (out ++ a.s.take a.plain.1, a.fail 11) else
    if a.s.getD a.plain.1 0 = 34 then (out ++ a.s.take a.plain.1, a.cut) else
    strLoop esc n (out ++ a.s.take a.plain.1 ++ (esc a.cut).1) (esc a.cut).2
def S.tl (a : S) : S := { a with s := a.s.tail }
def S.str (esc : S → List UInt8 × S) (a : S) : List UInt8 × S := strLoop esc (a.s.length + 1) [] a.tl
structure GoodE (okE : S → Prop) (esc : S → List UInt8 × S) : Prop where
  len : ∀ a, okE a → (esc a).2.s.length ≤ a.s.length
  out : ∀ a, okE a → (esc a).1.length ≤ 16
theorem byteCells_app (a b : List UInt8) : Lib.byteCells a ++ Lib.strCells (ofL b) = Lib.byteCells (a ++ b) := by simp [Lib.byteCells, Lib.strCells, ofL]
set_option maxRecDepth 100000 in
set_option maxHeartbeats 8000000 in
theorem str_calls {okE : S → Prop} {esc : S → List UInt8 × S} (HE : ECalls okE esc) (HG : GoodE okE esc) {w w1 : World} {g : Nat} {a : S} (h : Rd w w1 g a) (hs : a.s ≠ []) (hl : a.s.length ≤ 1000000) (hok : ∀ b, b.e = 0 → b.o = a.o → b.s.length ≤ 1000000 → okE b) (hoo : ∀ b, okE b → (esc b).2.o = b.o) :
    Calls Tryz.prog 94 #[.pointer (some ⟨g, 0, none⟩)] w1 fun E w' => E = .returned (.string (ofL (a.str esc).1)) ∧ Rd w w' g (a.str esc).2 := by
  have H := Lib.hid h
  have HEG := Lib.hid (And.intro HE HG)
  have HOK := Lib.hid hok
  have HOO := Lib.hid hoo
  obtain ⟨R, hR⟩ : ∃ R, a.str esc = R := ⟨_, rfl⟩
  have HR : Hid (strLoop esc (a.s.length + 1) [] a.tl = R) := Lib.hid hR
  rw [hR]
  have c0 := h.c0
  have f0 := h.fz 0
  have hsz : 1 ≤ (ofL a.s).size := by rw [ofL_size]; cases h : a.s with | nil => exact absurd h hs | cons c t => simp
  have HX : Hid ((ofL a.s).extract 1 (ofL a.s).size = ofL a.s.tail) := Lib.hid (by rw [ofL_ext, ofL_size, List.take_length, List.drop_one])
  have HTL : Hid (a.tl.s.length ≤ a.s.length ∧ a.s.length ≤ 1000000) := Lib.hid ⟨by unfold S.tl; simp, hl⟩
  clear h HE HG hs hl hok hR hoo
  go_enter Tryz.func94, Tryz.ntmps94
  go_wp2_with fail
  rw [HX.out]
  have H2 : Hid (Rd w (w1.setCell ⟨g, 0, none⟩ (.string (ofL a.s.tail))) g a.tl) := Lib.hid (H.out.s0 a.s.tail)
  have hsz2 : (w1.setCell ⟨g, 0, none⟩ (.string (ofL a.s.tail))).heap.size = w1.heap.size := by simp [World.setCell]
  generalize w1.setCell ⟨g, 0, none⟩ (.string (ofL a.s.tail)) = w2 at *
  obtain ⟨B, hB⟩ : ∃ B, w1.heap.size = B := ⟨_, rfl⟩
  have HGB : Hid (g < B ∧ w.heap.size ≤ B) := Lib.hid ⟨by rw [← hB]; exact H.out.lt, by rw [← hB]; exact H.out.kp.size⟩
  rw [hB] at hsz2
  have HI0 : Hid (Lib.IsBuilder 126 5 B B (Lib.byteCells []) (w2.alloc (.cells #[.pointer none, .slice none 0 0] 126))) := Lib.hid (.inl ⟨Nat.le_refl _, _, by have := blk_new w2 (.cells #[.pointer none, .slice none 0 0] 126); rw [hsz2] at this; exact this, World.ownsRow_nil _ _ _ _, by simp [Value.ownBlock]⟩)
  have H0 : Hid (Rd w (w2.alloc (.cells #[.pointer none, .slice none 0 0] 126)) g a.tl) := Lib.hid (H2.out.below (Below.alloc (Below.refl _ _) (Nat.le_refl _) _))
  have HS0 : Hid (B ≤ (w2.alloc (.cells #[.pointer none, .slice none 0 0] 126)).heap.size) := Lib.hid (by simp; omega)
  have HTO : Hid (a.tl.o = a.o) := Lib.hid rfl
  rw [hB]
  clear hB hsz2 H2 HX c0 f0 hsz
  generalize w2.alloc (.cells #[.pointer none, .slice none 0 0] 126) = w3 at *
  go_loopg [] (a.tl.s.length + 1) (fun gk wr => ∃ out c n, gk = c.s.length + 1 ∧ (c.s.length < n ∧ c.s.length ≤ 1000000 ∧ out.length + 20 * c.s.length ≤ 20000000 ∧ c.o = a.o) ∧ Hid (Rd w wr g c) ∧ Hid (Lib.IsBuilder 126 5 B B (Lib.byteCells out) wr) ∧ Hid (B ≤ wr.heap.size) ∧ Hid (strLoop esc n out c = R))
  case atStart => exact ⟨[], a.tl, a.s.length + 1, rfl, ⟨by have := HTL.out; omega, by have := HTL.out; omega, by have := HTL.out; simp; omega, HTO.out⟩, H0, HI0, HS0, HR⟩
  case round =>
    obtain ⟨out, c, n, rfl, hn, H, HI, HSZ, HF⟩ := hrel
    have HN := Lib.hid hn
    clear hn H0 HI0 HS0
    have c2 := H.out.c2
    by_cases he : c.e = 0
    · have e1 : (c.e == 0) = true := by simp [he]
      have HE0 := Lib.hid he
      have HF2 : Hid ((if c.plain.2 = false then (out ++ c.s.take c.plain.1, c.fail 11) else if c.s.getD c.plain.1 0 = 34 then (out ++ c.s.take c.plain.1, c.cut) else strLoop esc (n - 1) (out ++ c.s.take c.plain.1 ++ (esc c.cut).1) (esc c.cut).2) = R) := Lib.hid (by
        have hf := HF.out
        obtain ⟨n', rfl⟩ : ∃ n', n = n' + 1 := ⟨n - 1, by have := HN.out; omega⟩
        rw [strLoop, if_neg (by simp [he])] at hf
        exact hf)
      have hpl := plainF_le (ofL c.s) ((ofL c.s).size + 1) 0 (by omega) (by omega)
      have HCUT : Hid (c.cut = { c with s := c.s.drop (c.plain.1 + 1) }) := Lib.hid rfl
      have c0 := H.out.c0
      clear he HF
      go_wp2_with fail
      refine (plain_calls (ofL c.s) _ H.out.tb.tabs (by rw [ofL_size]; have := HN.out; omega)).mono ?_
      rintro E w4 ⟨rfl, hb4⟩
      have hpp : plainF (ofL c.s) ((ofL c.s).size + 1) 0 = c.plain := rfl
      rw [hpp] at hpl ⊢
      clear hpp
      obtain ⟨k, q, hkq⟩ : ∃ k q, c.plain = (k, q) := ⟨_, _, rfl⟩
      rw [hkq] at hpl ⊢
      rw [hkq] at HF2 HCUT
      have hk1 : k ≤ (ofL c.s).size := hpl.1
      have HK2 : Hid (q = true → k < (ofL c.s).size) := Lib.hid hpl.2
      have hk3 : (k : Int) ≤ 1000000 := by have := HN.out; rw [ofL_size] at hk1; omega
      have H4 := Lib.hid (H.out.below hb4)
      have HI4 := Lib.hid (bd_kept HI.out (grown_below hb4 (some g)) HGB.out.1)
      have HS4 : Hid (B ≤ w4.heap.size) := Lib.hid (Nat.le_trans HSZ.out hb4.size)
      have HX : Hid ((ofL c.s).extract 0 k = ofL (c.s.take k)) := Lib.hid (by rw [ofL_ext]; simp)
      have HLK : Hid (k ≤ c.s.length) := Lib.hid (by rw [ofL_size] at hk1; exact hk1)
      clear hb4 hpl hkq c0 c2 H HI HSZ
      have c0 := H4.out.c0
      go_wp2_with fail
      rw [HX.out]
      refine (Tryz.Builder_WriteString B B (Lib.byteCells out) (ofL (c.s.take k)) _ HI4.out (by rw [Lib.byteCells_length, ofL_size]; have := HN.out; have := HLK.out; simp; omega) HS4.out).mono ?_
      rintro E w5 ⟨rfl, hbd, hb5⟩
      rw [byteCells_app] at hbd
      have H := Lib.hid (H4.out.belowB hb5 HGB.out.1 HGB.out.2)
      have HI : Hid (Lib.IsBuilder 126 5 B B (Lib.byteCells (out ++ c.s.take k)) w5) := Lib.hid (.inr hbd)
      have HSZ : Hid (B ≤ w5.heap.size) := Lib.hid (Nat.le_trans HS4.out hb5.size)
      clear hbd hb5 H4 HI4 HS4 c0 HX
      cases q with
      | false =>
        have HRR : Hid ((out ++ c.s.take k, c.fail 11) = R) := Lib.hid (by have := HF2.out; rw [if_pos rfl] at this; exact this)
        go_wp2_with fail
        refine (fail_calls H.out.now 11).mono ?_
        rintro E w6 ⟨rfl, h6⟩
        have HI6 := Lib.hid (bd_kept HI.out h6.kp HGB.out.1)
        have HS6 : Hid (B ≤ w6.heap.size) := Lib.hid (Nat.le_trans HSZ.out h6.kp.size)
        have H6 := Lib.hid (H.out.trans h6)
        clear h6
        go_wp2_with fail
        refine (Tryz.Builder_String_any B B (out ++ c.s.take k) _ HI6.out HS6.out).mono ?_
        rintro E w9 ⟨rfl, hb9⟩
        have h9 := H6.out.belowB hb9 HGB.out.1 HGB.out.2
        go_wp2
        go_ret
        exact ⟨by rw [← HRR.out]; rfl, by rw [← HRR.out]; exact h9⟩
      | true =>
        have hk2 : k < (ofL c.s).size := HK2.out rfl
        have HF3 : Hid ((if c.s.getD k 0 = 34 then (out ++ c.s.take k, c.cut) else strLoop esc (n - 1) (out ++ c.s.take k ++ (esc c.cut).1) (esc c.cut).2) = R) := Lib.hid (by have := HF2.out; rw [if_neg (by simp)] at this; exact this)
        have hk2I : (k : Int) < ((ofL c.s).size : Int) := by omega
        have c0 := H.out.c0
        have f0 := H.out.fz 0
        have HX2 : Hid ((ofL c.s).extract (k + 1) (ofL c.s).size = ofL (c.s.drop (k + 1))) := Lib.hid (by rw [ofL_ext, ofL_size, List.take_length])
        have hbyte : (ofL c.s)[k]'hk2 = c.s.getD k 0 := by
          have hk4 : k < c.s.length := by rw [ofL_size] at hk2; exact hk2
          rw [List.getD_eq_getElem?_getD, List.getElem?_eq_getElem hk4]; rfl
        by_cases h34 : c.s.getD k 0 = 34
        · have e34 : ((((ofL c.s)[k]'hk2).toNat : Int) == 34) = true := by rw [hbyte, h34]; rfl
          have HRR : Hid ((out ++ c.s.take k, c.cut) = R) := Lib.hid (by have := HF3.out; rw [if_pos h34] at this; exact this)
          clear h34 hbyte
          go_wp2_with fail
          rw [HX2.out]
          have H6 : Hid (Rd w (w5.setCell ⟨g, 0, none⟩ (.string (ofL (c.s.drop (k + 1))))) g c.cut) := Lib.hid (by rw [HCUT.out]; exact H.out.s0 _)
          have HI6 := Lib.hid (bd_kept HI.out (grown_set w5 g 0 (.string (ofL (c.s.drop (k + 1))))) HGB.out.1)
          have HS6 : Hid (B ≤ (w5.setCell ⟨g, 0, none⟩ (.string (ofL (c.s.drop (k + 1))))).heap.size) := Lib.hid (by simp [World.setCell]; exact HSZ.out)
          refine (Tryz.Builder_String_any B B (out ++ c.s.take k) _ HI6.out HS6.out).mono ?_
          rintro E w9 ⟨rfl, hb9⟩
          have h9 := H6.out.belowB hb9 HGB.out.1 HGB.out.2
          go_wp2
          go_ret
          exact ⟨by rw [← HRR.out]; rfl, by rw [← HRR.out]; exact h9⟩
        · have e34 : ((((ofL c.s)[k]'hk2).toNat : Int) == 34) = false := by
            rw [hbyte]; simp
            intro e; exact h34 (UInt8.toNat_inj.1 (by have : (c.s.getD k 0).toNat = 34 := by exact_mod_cast e
                                                      simpa using this))
          have HRR : Hid (strLoop esc (n - 1) (out ++ c.s.take k ++ (esc c.cut).1) (esc c.cut).2 = R) := Lib.hid (by have := HF3.out; rw [if_neg h34] at this; exact this)
          clear h34 hbyte
          go_wp2_with fail
          rw [HX2.out]
          have H6 : Hid (Rd w (w5.setCell ⟨g, 0, none⟩ (.string (ofL (c.s.drop (k + 1))))) g c.cut) := Lib.hid (by rw [HCUT.out]; exact H.out.s0 _)
          have HI6 := Lib.hid (bd_kept HI.out (grown_set w5 g 0 (.string (ofL (c.s.drop (k + 1))))) HGB.out.1)
          have HS6 : Hid (B ≤ (w5.setCell ⟨g, 0, none⟩ (.string (ofL (c.s.drop (k + 1))))).heap.size) := Lib.hid (by simp [World.setCell]; exact HSZ.out)
          have HK3 : Hid (k < c.s.length) := Lib.hid (by rw [ofL_size] at hk2; exact hk2)
          have hcl : c.cut.s.length = c.s.length - (k + 1) := by rw [HCUT.out]; simp
          have hce : c.cut.e = 0 ∧ c.cut.o = a.o := by rw [HCUT.out]; exact ⟨HE0.out, HN.out.2.2.2⟩
          have HOKc : Hid (okE c.cut) := Lib.hid (HOK.out _ hce.1 hce.2 (by have := HN.out; omega))
          have HLN : Hid (c.cut.s.length = c.s.length - (k + 1) ∧ (esc c.cut).2.s.length ≤ c.cut.s.length ∧ (esc c.cut).1.length ≤ 16 ∧ (esc c.cut).2.o = a.o) := Lib.hid ⟨hcl, HEG.out.2.len _ HOKc.out, HEG.out.2.out _ HOKc.out, (HOO.out _ HOKc.out).trans hce.2⟩
          generalize w5.setCell ⟨g, 0, none⟩ (.string (ofL (c.s.drop (k + 1)))) = w6 at *
          clear hcl hce c0 f0 H HI HSZ HX2
          refine (HEG.out.1 _ _ g c.cut H6.out.now HOKc.out).mono ?_
          rintro E w7 ⟨rfl, h7⟩
          have HI7 := Lib.hid (bd_kept HI6.out h7.kp HGB.out.1)
          have HS7 : Hid (B ≤ w7.heap.size) := Lib.hid (Nat.le_trans HS6.out h7.kp.size)
          have H7 := Lib.hid (H6.out.trans h7)
          clear h7 H6 HI6 HS6
          go_wp2_with fail
          refine (Tryz.Builder_WriteString B B (Lib.byteCells (out ++ c.s.take k)) (ofL (esc c.cut).1) _ HI7.out (by rw [Lib.byteCells_length, ofL_size]; have := HN.out; have := HLK.out; have := HLN.out; simp; omega) HS7.out).mono ?_
          rintro E w8 ⟨rfl, hbd, hb8⟩
          rw [byteCells_app] at hbd
          have H8 := Lib.hid (H7.out.belowB hb8 HGB.out.1 HGB.out.2)
          have HS8 : Hid (B ≤ w8.heap.size) := Lib.hid (Nat.le_trans HS7.out hb8.size)
          have HI8 : Hid (Lib.IsBuilder 126 5 B B (Lib.byteCells (out ++ c.s.take k ++ (esc c.cut).1)) w8) := Lib.hid (.inr hbd)
          clear hbd hb8 H7 HI7 HS7
          go_wp2_with fail
          go_roundg ((esc c.cut).2.s.length + 1)
          case measure => have := HLN.out; have := HLK.out; have := HK3.out; omega
          case rel => exact ⟨_, _, n - 1, rfl, ⟨by have := HLN.out; have := HN.out; have := HLK.out; have := HK3.out; omega, by have := HLN.out; have := HN.out; omega, by have := HK3.out; have := HLN.out; have := HN.out; have := HLK.out; simp; omega, HLN.out.2.2.2⟩, H8, HI8, HS8, HRR⟩
    · have e1 : (c.e == 0) = false := by simp [he]
      have HRR : Hid ((out, c) = R) := Lib.hid (by
        have hf := HF.out
        obtain ⟨n', rfl⟩ : ∃ n', n = n' + 1 := ⟨n - 1, by have := HN.out; omega⟩
        rw [strLoop, if_pos he] at hf
        exact hf)
      clear he
      go_wp2_with fail
      refine (Tryz.Builder_String_any B B out _ HI.out HSZ.out).mono ?_
      rintro E w9 ⟨rfl, hb9⟩
      have h9 := H.out.belowB hb9 HGB.out.1 HGB.out.2
      go_wp2
      go_ret
      exact ⟨by rw [← HRR.out]; rfl, by rw [← HRR.out]; exact h9⟩
end Js
end Go.Proofs.YtapcpndplnkfjaaGreatDoor
namespace Go.Proofs.YtapcpndplnkfjaaGreatDoor
open Go.RowKit Go.Proofs.YtapcpndplnkfjaaGreatDoorW.PrintWords Go.Proofs.YtapcpndplnkfjaaGreatDoorW.PrintLast Go.Proofs.YtapcpndplnkfjaaGreatDoorW.PrintMore
set_option linter.unusedVariables false
set_option linter.unusedSimpArgs false
namespace Js
def hexD (n : Nat) : UInt8 := if n < 10 then UInt8.ofNat (48 + n) else UInt8.ofNat (87 + n)
def quoteB (c : UInt8) : List UInt8 := if c = 34 ∨ c = 92 then [92, c] else if c.toNat < 32 then [92, 117, 48, 48, hexD (c.toNat / 16), hexD (c.toNat % 16)] else [c]
def quoteL (s : List UInt8) : List UInt8 := 34 :: s.flatMap quoteB ++ [34]
theorem quoteB_len (c : UInt8) : (quoteB c).length ≤ 6 := by unfold quoteB; split; (· simp); split <;> simp
theorem quoteF_len : ∀ s : List UInt8, (s.flatMap quoteB).length ≤ 6 * s.length
  | [] => by simp
  | c :: t => by
    have := quoteF_len t
    have := quoteB_len c
    rw [List.flatMap_cons, List.length_append, List.length_cons]
    omega
structure QI (w wr : World) (out : List UInt8) : Prop where
  b : Lib.IsBuilder 126 5 w.heap.size w.heap.size (Lib.byteCells out) wr
  bel : Below w.heap.size w wr
theorem QI.byte {w wr : World} {out : List UInt8} (h : QI w wr out) (c : UInt8) (hl : out.length ≤ 100000000) :
    Calls Tryz.prog 84 #[.pointer (some ⟨w.heap.size, 0, none⟩), .int .u8 (c.toNat : Int)] wr fun e w' => e = .returned .nilIface ∧ QI w w' (out ++ [c]) :=
  (Tryz.Builder_WriteByte w.heap.size w.heap.size (Lib.byteCells out) c.toNat wr h.b (by rw [Lib.byteCells_length]; omega) h.bel.size).mono fun e w' ⟨h1, h2, h3⟩ => ⟨h1, .inr (by rw [Lib.byteCells_append]; exact h2), h.bel.trans h3⟩
theorem QI.str {w wr : World} {out : List UInt8} (h : QI w wr out) (s : List UInt8) (hl : out.length + s.length ≤ 100000000) :
    Calls Tryz.prog 85 #[.pointer (some ⟨w.heap.size, 0, none⟩), .string (ofL s)] wr fun e w' => e = .returned (.tuple #[.int .i64 (ofL s).size, .nilIface]) ∧ QI w w' (out ++ s) :=
  (Tryz.Builder_WriteString w.heap.size w.heap.size (Lib.byteCells out) (ofL s) wr h.b (by rw [Lib.byteCells_length, ofL_size]; omega) h.bel.size).mono fun e w' ⟨h1, h2, h3⟩ => ⟨h1, .inr (by rw [Lib.byteCells_append]; exact h2), h.bel.trans h3⟩
theorem QI.out {w wr : World} {out : List UInt8} (h : QI w wr out) :
    Calls Tryz.prog 86 #[.pointer (some ⟨w.heap.size, 0, none⟩)] wr fun e w' => e = .returned (.string (ofL out)) ∧ Below w.heap.size w w' :=
  (Tryz.Builder_String_any w.heap.size w.heap.size out wr h.b h.bel.size).mono fun e w' ⟨h1, h2⟩ => ⟨h1, h.bel.trans h2⟩
theorem QI.drew {w wr : World} {out : List UInt8} (h : QI w wr out) : QI w wr.drew out := ⟨h.b, below_drew1 h.bel⟩
theorem and15 : ∀ n : Fin 256, bits BinOp.and IntKind.u8 (n.val : Int) 15 = ((n.val % 16 : Nat) : Int) := by decide +kernel
theorem hexE : ∀ n : Fin 16, (⟨#[48, 49, 50, 51, 52, 53, 54, 55, 56, 57, 97, 98, 99, 100, 101, 102]⟩ : ByteArray).extract n.val (n.val + 1) = ofL [hexD n.val] := by decide +kernel
theorem wrap8 (a : Nat) (h : a < 16) : IntKind.u8.wrap ((a : Int) + 1) = (a : Int) + 1 := by
  rw [IntKind.wrap_u8]; omega
set_option maxRecDepth 100000 in
set_option maxHeartbeats 4000000 in
theorem quote_calls (s : List UInt8) (hs : s.length ≤ 1000000) (w : World) :
    Calls Tryz.prog 57 #[.string (ofL s)] w fun e w' => e = .returned (.string (ofL (quoteL s))) ∧ Below w.heap.size w w' := by
  have HQ0 : Hid (QI w (w.alloc (.cells #[.pointer none, .slice none 0 0] 126)) []) := Lib.hid ⟨.inl ⟨Nat.le_refl _, _, blk_new w _, World.ownsRow_nil _ _ _ _, by simp [Value.ownBlock]⟩, below_alloc (Below.refl _ _) _⟩
  go_enter Tryz.func57, Tryz.ntmps57
  go_wp2_with fail
  refine (HQ0.out.byte 34 (by simp)).mono ?_
  rintro E w1 ⟨rfl, hq⟩
  have HQ := Lib.hid hq
  have hsz : (ofL s).size = s.length := ofL_size s
  clear hq HQ0
  go_wp2_with fail
  go_loopw [9] (fun vi wr => ∃ k : Nat, k ≤ s.length ∧ vi = .int .i64 k ∧ Hid (QI w wr (34 :: (s.take k).flatMap quoteB))) (fun vi _ => s.length - (intOf vi).toNat)
  case atStart => exact ⟨0, by omega, rfl, HQ⟩
  case round =>
    clear HQ
    obtain ⟨k, hk, rfl, HQ⟩ := hrel
    by_cases hkl : k < s.length
    · have hk2 : k < (ofL s).size := by omega
      obtain ⟨x, hx⟩ : ∃ x, x = s[k] := ⟨_, rfl⟩
      have hbyte : (ofL s)[k]'hk2 = x := hx.symm
      have HTK : Hid (34 :: (s.take (k + 1)).flatMap quoteB = (34 :: (s.take k).flatMap quoteB) ++ quoteB x) := Lib.hid (by rw [List.take_succ_eq_append_getElem hkl, List.flatMap_append, hx]; simp [List.flatMap_cons]; rfl)
      have HLN : Hid ((34 :: (s.take k).flatMap quoteB).length ≤ 6000001) := Lib.hid (by have := quoteF_len (s.take k); rw [List.length_cons]; rw [List.length_take] at this; omega)
      obtain ⟨out, hout⟩ : ∃ out, out = 34 :: (s.take k).flatMap quoteB := ⟨_, rfl⟩
      rw [← hout] at HQ HTK HLN
      clear hx hout
      have hxb : x.toNat < 256 := x.toNat_lt
      by_cases h1 : x = 34 ∨ x = 92
      · have HB : Hid (quoteB x = [92, x]) := Lib.hid (by unfold quoteB; rw [if_pos h1])
        by_cases h34 : x = 34
        · have e34 : ((x.toNat : Int) == 34) = true := by rw [h34]; rfl
          clear h1 h34
          go_wp2_with fail
          refine (HQ.out.byte 92 (by have := HLN.out; omega)).mono ?_
          rintro E w2 ⟨rfl, hq⟩
          have HQ2 := Lib.hid hq
          clear hq
          go_wp2_with fail
          refine (HQ2.out.byte x (by have := HLN.out; simp; omega)).mono ?_
          rintro E w3 ⟨rfl, hq⟩
          have HQ3 : Hid (QI w w3 (34 :: (s.take (k + 1)).flatMap quoteB)) := Lib.hid (by rw [HTK.out, HB.out]; simpa using hq)
          clear hq
          go_wp2_with fail
          exact ⟨⟨k + 1, by omega, by simp, HQ3⟩, by simp [intOf]; omega⟩
        · have e92 : ((x.toNat : Int) == 92) = true := by rw [h1.resolve_left h34]; rfl
          have e34 : ((x.toNat : Int) == 34) = false := by rw [h1.resolve_left h34]; rfl
          clear h1 h34
          go_wp2_with fail
          refine (HQ.out.byte 92 (by have := HLN.out; omega)).mono ?_
          rintro E w2 ⟨rfl, hq⟩
          have HQ2 := Lib.hid hq
          clear hq
          go_wp2_with fail
          refine (HQ2.out.byte x (by have := HLN.out; simp; omega)).mono ?_
          rintro E w3 ⟨rfl, hq⟩
          have HQ3 : Hid (QI w w3 (34 :: (s.take (k + 1)).flatMap quoteB)) := Lib.hid (by rw [HTK.out, HB.out]; simpa using hq)
          clear hq
          go_wp2_with fail
          exact ⟨⟨k + 1, by omega, by simp, HQ3⟩, by simp [intOf]; omega⟩
      · have e34 : ((x.toNat : Int) == 34) = false := by rw [beq_eq_false_iff_ne]; intro e; exact h1 (.inl (by rw [← UInt8.toNat_inj]; have : (34 : UInt8).toNat = 34 := rfl; omega))
        have e92 : ((x.toNat : Int) == 92) = false := by rw [beq_eq_false_iff_ne]; intro e; exact h1 (.inr (by rw [← UInt8.toNat_inj]; have : (92 : UInt8).toNat = 92 := rfl; omega))
        by_cases h32 : x.toNat < 32
        · obtain ⟨a, ha⟩ : ∃ a, a = x.toNat / 16 := ⟨_, rfl⟩
          obtain ⟨b, hb⟩ : ∃ b, b = x.toNat % 16 := ⟨_, rfl⟩
          have HB : Hid (quoteB x = [92, 117, 48, 48, hexD a, hexD b]) := Lib.hid (by unfold quoteB; rw [if_neg h1, if_pos h32, ha, hb])
          have h32' : (x.toNat : Int) < 32 := by omega
          have hA : (x.toNat : Int) / 16 = (a : Int) := by omega
          have hBb : bits BinOp.and IntKind.u8 (x.toNat : Int) 15 = (b : Int) := by rw [hb]; exact and15 ⟨x.toNat, hxb⟩
          have hla : a < 16 := by omega
          have hlb : b < 16 := by omega
          have hW1 : IntKind.u8.wrap ((a : Int) + 1) = (a : Int) + 1 := wrap8 a hla
          have hW2 : IntKind.u8.wrap ((b : Int) + 1) = (b : Int) + 1 := wrap8 b hlb
          have hl1 : (a : Int) + 1 ≤ 16 := by omega
          have hl2 : (b : Int) + 1 ≤ 16 := by omega
          have hc1 : (a : Int) ≤ (a : Int) + 1 := by omega
          have hc2 : (b : Int) ≤ (b : Int) + 1 := by omega
          have hE1 : (⟨#[48, 49, 50, 51, 52, 53, 54, 55, 56, 57, 97, 98, 99, 100, 101, 102]⟩ : ByteArray).extract a (a + 1) = ofL [hexD a] := hexE ⟨a, hla⟩
          have hE2 : (⟨#[48, 49, 50, 51, 52, 53, 54, 55, 56, 57, 97, 98, 99, 100, 101, 102]⟩ : ByteArray).extract b (b + 1) = ofL [hexD b] := hexE ⟨b, hlb⟩
          have hz1 : (ofL [hexD a]).size = 1 := ofL_size _
          have hz2 : (ofL [hexD b]).size = 1 := ofL_size _
          have hz3 : (ofL [92, 117, 48, 48, hexD a]).size = 5 := ofL_size _
          have hS1 : (⟨#[92, 117, 48, 48]⟩ : ByteArray) ++ ofL [hexD a] = ofL [92, 117, 48, 48, hexD a] := ofL_app [92, 117, 48, 48] [hexD a]
          have hS2 : ofL [92, 117, 48, 48, hexD a] ++ ofL [hexD b] = ofL [92, 117, 48, 48, hexD a, hexD b] := ofL_app _ _
          clear ha hb
          have HQd := Lib.hid HQ.out.drew
          clear h1
          go_upto_region 12 with fail
          refine start_ (n := 15) (S := fun w' => True) (ds := []) #[false, false, false, false, false, false, false, false, false, false, false, false, false, false, false] (by kernel_rfl) rfl rfl trivial (fun hHeld => ?_)
          generalize wr.drew = wd at HQd ⊢
          refine pure_ (i := 0) (N := some 30) (v := ?_) (a' := ?_) #[true, false, false, false, false, false, false, false, false, false, false, false, false, false, false] rfl rfl (by kernel_rfl) (fun _ _ _ h => h) (Or.inl ⟨by rfl, ?_⟩) ?_ ?_
          rotate_left
          · intro w'
            go_simp
            with_reducible rfl
          rotate_left
          · simp only [Act.put, List.setIfInBounds_toArray, List.set_cons_zero, List.set_cons_succ, i64_w, i32_w]
            rfl
          refine pure_ (i := 1) (N := some 31) (v := ?_) (a' := ?_) #[true, true, false, false, false, false, false, false, false, false, false, false, false, false, false] rfl rfl (by kernel_rfl) (fun _ _ _ h => h) (Or.inl ⟨by rfl, ?_⟩) ?_ ?_
          rotate_left
          · intro w'
            go_simp
            with_reducible rfl
          rotate_left
          · simp only [Act.put, List.setIfInBounds_toArray, List.set_cons_zero, List.set_cons_succ, i64_w, i32_w]
            rfl
          refine pure_ (i := 2) (N := some 32) (v := ?_) (a' := ?_) #[true, true, true, false, false, false, false, false, false, false, false, false, false, false, false] rfl rfl (by kernel_rfl) (fun _ _ _ h => h) (Or.inl ⟨by rfl, ?_⟩) ?_ ?_
          rotate_left
          · intro w'
            go_simp
            with_reducible rfl
          rotate_left
          · simp only [Act.put, List.setIfInBounds_toArray, List.set_cons_zero, List.set_cons_succ, i64_w, i32_w]
            rfl
          refine pure_ (i := 3) (N := some 33) (v := ?_) (a' := ?_) #[true, true, true, true, false, false, false, false, false, false, false, false, false, false, false] rfl rfl (by kernel_rfl) (fun _ _ _ h => h) (Or.inl ⟨by rfl, ?_⟩) ?_ ?_
          rotate_left
          · intro w'
            go_simp
            with_reducible rfl
          rotate_left
          · simp only [Act.put, List.setIfInBounds_toArray, List.set_cons_zero, List.set_cons_succ, i64_w, i32_w]
            rfl
          refine pure_ (i := 4) (N := some 34) (v := ?_) (a' := ?_) #[true, true, true, true, true, false, false, false, false, false, false, false, false, false, false] rfl rfl (by kernel_rfl) (fun _ _ _ h => h) (Or.inl ⟨by rfl, ?_⟩) ?_ ?_
          rotate_left
          · intro w'
            go_simp
            with_reducible rfl
          rotate_left
          · simp only [Act.put, List.setIfInBounds_toArray, List.set_cons_zero, List.set_cons_succ, i64_w, i32_w]
            rfl
          refine pure_ (i := 5) (N := some 35) (v := ?_) (a' := ?_) #[true, true, true, true, true, true, false, false, false, false, false, false, false, false, false] rfl rfl (by kernel_rfl) (fun _ _ _ h => h) (Or.inl ⟨by rfl, ?_⟩) ?_ ?_
          rotate_left
          · intro w'
            go_simp
            with_reducible rfl
          rotate_left
          · simp only [Act.put, List.setIfInBounds_toArray, List.set_cons_zero, List.set_cons_succ, i64_w, i32_w]
            rfl
          refine pure_ (i := 6) (N := some 36) (v := ?_) (a' := ?_) #[true, true, true, true, true, true, true, false, false, false, false, false, false, false, false] rfl rfl (by kernel_rfl) (fun _ _ _ h => h) (Or.inl ⟨by rfl, ?_⟩) ?_ ?_
          rotate_left
          · intro w'
            go_simp
            with_reducible rfl
          rotate_left
          · simp only [Act.put, List.setIfInBounds_toArray, List.set_cons_zero, List.set_cons_succ, i64_w, i32_w]
            rfl
          refine pure_ (i := 7) (N := some 37) (v := ?_) (a' := ?_) #[true, true, true, true, true, true, true, true, false, false, false, false, false, false, false] rfl rfl (by kernel_rfl) (fun _ _ _ h => h) (Or.inl ⟨by rfl, ?_⟩) ?_ ?_
          rotate_left
          · intro w'
            go_simp
            with_reducible rfl
          rotate_left
          · simp only [Act.put, List.setIfInBounds_toArray, List.set_cons_zero, List.set_cons_succ, i64_w, i32_w]
            rfl
          refine pure_ (i := 8) (N := some 38) (v := ?_) (a' := ?_) #[true, true, true, true, true, true, true, true, true, false, false, false, false, false, false] rfl rfl (by kernel_rfl) (fun _ _ _ h => h) (Or.inl ⟨by rfl, ?_⟩) ?_ ?_
          rotate_left
          · intro w'
            go_simp
            with_reducible rfl
          rotate_left
          · simp only [Act.put, List.setIfInBounds_toArray, List.set_cons_zero, List.set_cons_succ, i64_w, i32_w]
            rfl
          refine pure_ (i := 9) (N := some 39) (v := ?_) (a' := ?_) #[true, true, true, true, true, true, true, true, true, true, false, false, false, false, false] rfl rfl (by kernel_rfl) (fun _ _ _ h => h) (Or.inl ⟨by rfl, ?_⟩) ?_ ?_
          rotate_left
          · intro w'
            go_simp
            with_reducible rfl
          rotate_left
          · simp only [Act.put, List.setIfInBounds_toArray, List.set_cons_zero, List.set_cons_succ, i64_w, i32_w]
            rfl
          refine pure_ (i := 10) (N := some 40) (v := ?_) (a' := ?_) #[true, true, true, true, true, true, true, true, true, true, true, false, false, false, false] rfl rfl (by kernel_rfl) (fun _ _ _ h => h) (Or.inl ⟨by rfl, ?_⟩) ?_ ?_
          rotate_left
          · intro w'
            go_simp
            with_reducible rfl
          rotate_left
          · simp only [Act.put, List.setIfInBounds_toArray, List.set_cons_zero, List.set_cons_succ, i64_w, i32_w]
            rfl
          refine pure_ (i := 11) (N := some 41) (v := ?_) (a' := ?_) #[true, true, true, true, true, true, true, true, true, true, true, true, false, false, false] rfl rfl (by kernel_rfl) (fun _ _ _ h => h) (Or.inl ⟨by rfl, ?_⟩) ?_ ?_
          rotate_left
          · intro w'
            go_simp
            with_reducible rfl
          rotate_left
          · simp only [Act.put, List.setIfInBounds_toArray, List.set_cons_zero, List.set_cons_succ, i64_w, i32_w]
            rfl
          refine pure_ (i := 12) (N := some 42) (v := ?_) (a' := ?_) #[true, true, true, true, true, true, true, true, true, true, true, true, true, false, false] rfl rfl (by kernel_rfl) (fun _ _ _ h => h) (Or.inl ⟨by rfl, ?_⟩) ?_ ?_
          rotate_left
          · intro w'
            go_simp
            with_reducible rfl
          rotate_left
          · simp only [Act.put, List.setIfInBounds_toArray, List.set_cons_zero, List.set_cons_succ, i64_w, i32_w]
            rfl
          refine pure_ (i := 13) (N := some 43) (v := ?_) (a' := ?_) #[true, true, true, true, true, true, true, true, true, true, true, true, true, true, false] rfl rfl (by kernel_rfl) (fun _ _ _ h => h) (Or.inl ⟨by rfl, ?_⟩) ?_ ?_
          rotate_left
          · intro w'
            go_simp
            with_reducible rfl
          rotate_left
          · simp only [Act.put, List.setIfInBounds_toArray, List.set_cons_zero, List.set_cons_succ, i64_w, i32_w]
            rfl
          refine one_ (i := 14) (N := some 44) #[true, true, true, true, true, true, true, true, true, true, true, true, true, true, true] rfl rfl (by kernel_rfl) (by decide) (fun K hK => ?_)
          refine call_ 85 #[.pointer (some ⟨w.heap.size, 0, none⟩), .string (ofL [92, 117, 48, 48, hexD a, hexD b])] (by rfl) rfl ?_ ?_
          · go_simp
          refine (HQd.out.str [92, 117, 48, 48, hexD a, hexD b] (by have := HLN.out; simp; omega)).mono ?_
          rintro E w3 ⟨rfl, hq⟩
          refine ⟨_, rfl, hK.out _ _ trivial (fun hHeld => ?_)⟩
          clear hK K
          have HQ3 : Hid (QI w w3 (34 :: (s.take (k + 1)).flatMap quoteB)) := Lib.hid (by rw [HTK.out, HB.out]; exact hq)
          clear hq
          refine norm_ (a' := ?_) ?_ ?_
          rotate_left
          · show Act.put _ (some 44) _ = _
            simp only [Act.put, List.setIfInBounds_toArray, List.set_cons_zero, List.set_cons_succ, i64_w, i32_w]
            rfl
          refine done_ (by kernel_rfl) ?_
          clear hz1 hz2 hz3 hS1 hS2 hE1 hE2 hA hBb hW1 hW2 hl1 hl2 hc1 hc2
          go_wp2_with fail
          exact ⟨⟨k + 1, by omega, by simp, HQ3⟩, by simp [intOf]; omega⟩
        · have HB : Hid (quoteB x = [x]) := Lib.hid (by unfold quoteB; rw [if_neg h1, if_neg h32])
          have h32' : ¬ (x.toNat : Int) < 32 := by omega
          clear h1
          go_wp2_with fail
          refine (HQ.out.byte x (by have := HLN.out; omega)).mono ?_
          rintro E w3 ⟨rfl, hq⟩
          have HQ3 : Hid (QI w w3 (34 :: (s.take (k + 1)).flatMap quoteB)) := Lib.hid (by rw [HTK.out, HB.out]; exact hq)
          clear hq
          go_wp2_with fail
          exact ⟨⟨k + 1, by omega, by simp, HQ3⟩, by simp [intOf]; omega⟩
    · have : k = s.length := by omega
      subst this
      have HQ : Hid (QI w wr (34 :: s.flatMap quoteB)) := Lib.hid (by have := HQ.out; rwa [List.take_length] at this)
      have HLN : Hid ((34 :: s.flatMap quoteB).length ≤ 6000001) := Lib.hid (by have := quoteF_len s; rw [List.length_cons]; omega)
      go_wp2_with fail
      refine (HQ.out.byte 34 (by have := HLN.out; omega)).mono ?_
      rintro E w2 ⟨rfl, hq⟩
      have HQ2 := Lib.hid hq
      clear hq
      go_wp2_with fail
      refine HQ2.out.out.mono ?_
      rintro E w3 ⟨rfl, hb⟩
      go_wp2_with fail
      go_ret
      exact ⟨rfl, hb⟩
end Js
end Go.Proofs.YtapcpndplnkfjaaGreatDoor
namespace Go.Proofs.YtapcpndplnkfjaaGreatDoor
open Go.RowKit Go.Proofs.YtapcpndplnkfjaaGreatDoorW.PrintWords Go.Proofs.YtapcpndplnkfjaaGreatDoorW.PrintLast Go.Proofs.YtapcpndplnkfjaaGreatDoorW.PrintMore
attribute [local go_sem] max2_int min2_int max_two min_two max_three min_three max_four min_four
set_option linter.unusedVariables false
set_option linter.unusedSimpArgs false
def errW : Option Int → Value
  | none => .nilIface
  | some c => .iface 0 (.int .i64 c)
theorem errW_none : errW none = .nilIface := rfl
theorem errW_some (c : Int) : errW (some c) = .iface 0 (.int .i64 c) := rfl
end Go.Proofs.YtapcpndplnkfjaaGreatDoor
namespace Go.Proofs.YtapcpndplnkfjaaGreatDoor
open Go.RowKit Go.Proofs.YtapcpndplnkfjaaGreatDoorW.PrintWords Go.Proofs.YtapcpndplnkfjaaGreatDoorW.PrintLast Go.Proofs.YtapcpndplnkfjaaGreatDoorW.PrintMore
attribute [local go_sem] max2_int min2_int max_two min_two max_three min_three max_four min_four
set_option linter.unusedVariables false
set_option linter.unusedSimpArgs false
end Go.Proofs.YtapcpndplnkfjaaGreatDoor
namespace Go.Proofs.YtapcpndplnkfjaaGreatDoor
open Go.RowKit Go.Proofs.YtapcpndplnkfjaaGreatDoorW.PrintWords Go.Proofs.YtapcpndplnkfjaaGreatDoorW.PrintLast Go.Proofs.YtapcpndplnkfjaaGreatDoorW.PrintMore
attribute [local go_sem] max2_int min2_int max_two min_two max_three min_three max_four min_four
set_option linter.unusedVariables false
set_option linter.unusedSimpArgs false
end Go.Proofs.YtapcpndplnkfjaaGreatDoor
namespace Go.Proofs.YtapcpndplnkfjaaGreatDoor
open Go.RowKit Go.Proofs.YtapcpndplnkfjaaGreatDoorW.PrintWords Go.Proofs.YtapcpndplnkfjaaGreatDoorW.PrintLast Go.Proofs.YtapcpndplnkfjaaGreatDoorW.PrintMore
set_option linter.unusedVariables false
set_option linter.unusedSimpArgs false
namespace Js
def kindsT : List Int := [1, 2, 2, 4, 4, 5, 5, 6, 6, 7, 6, 7]
def k1 (k : Int) : Int := kindsT.getD (2 * k.toNat) 0
def k2 (k : Int) : Int := kindsT.getD (2 * k.toNat + 1) 0
end Js
end Go.Proofs.YtapcpndplnkfjaaGreatDoor
namespace Go.Proofs.YtapcpndplnkfjaaGreatDoor
open Go.RowKit Go.Proofs.YtapcpndplnkfjaaGreatDoorW.PrintWords Go.Proofs.YtapcpndplnkfjaaGreatDoorW.PrintLast Go.Proofs.YtapcpndplnkfjaaGreatDoorW.PrintMore
set_option linter.unusedVariables false
set_option linter.unusedSimpArgs false
namespace Js
theorem copy_rows {P : Program} (w : World) (dT sT ty elem : TypeId) (g o dLen dCap : Nat) (a : Addr) (sLen sCap n size : Nat) (cur : Array Value) (t : TypeId) (cs : List Value)
    (hu : P.underlying dT = some (.slice elem)) (hs : (P.info? elem).map (·.size) = some size) (hg : w.heap[g]? = some (.cells cur t (0, 0))) (hm : Nat.min sLen dLen = n) (hn : cs.length = n * size)
    (hsrc : ∀ j v, cs[j]? = some v → w.cell? (a.add j) = some v) (hfit : o + cs.length ≤ cur.size) (h1 : ∀ v ∈ cs, v.oneCell' = true) :
    (Builtin.copy_ #[dT, sT] ty #[.slice (some ⟨g, o, none⟩) dLen dCap, .slice (some a) sLen sCap]).run P w =
      .ok (goInt n) (w.setRow g (cur.toList.take o ++ cs ++ cur.toList.drop (o + cs.length)).toArray) := by
  have hl := run_loadCells_list (P := P) w a cs hsrc
  have hst := run_storeCells_at P g o t cs 0 cur w hg (by simpa using hfit) h1
  cases hq : P.info? elem with
  | none => simp [hq] at hs
  | some i =>
    have hi : i.size = size := by simpa [hq] using hs
    rw [hn] at hl
    simp [Builtin.copy_, run_underlying hu, Builtin.lenOf, Builtin.firstCells, sizeOf, typeInfo, hq, hi, hm, hl, hst]
def ins (cs xcs : List Value) (i : Nat) : List Value := cs.take (i * 8) ++ xcs ++ cs.drop (i * 8)
theorem ins_end {cs xcs : List Value} {n : Nat} (h : cs.length = n * 8) : ins cs xcs n = cs ++ xcs := by
  unfold ins
  rw [List.take_of_length_le (by omega), List.drop_of_length_le (by omega), List.append_nil]
def InsV (W : World) (base n : Nat) (v : Value) (cs : List Value) (E : Ending) (w' : World) : Prop :=
  ∃ v1, E = .returned v1 ∧ w'.ownsRow base 28 8 v1 n cs ∧ W.grownBy w' v.ownBlock ∧ (v1.ownBlock = v.ownBlock ∨ v1.ownBlock = some W.heap.size)
set_option maxRecDepth 100000 in
set_option maxHeartbeats 4000000 in
theorem insV_end {W : World} {base n c m : Nat} {A : Option Addr} {cs xcs : List Value} (HO : W.ownsRow base 28 8 (.slice A n c) n cs) (hm : W.heap[m]? = some (.cells xcs.toArray 28 (0, 0))) (hx : xcs.length = 8) (h1 : ∀ u ∈ xcs, u.oneCell' = true) (hl : n ≤ 1000000) (hbase : base ≤ W.heap.size) :
    Calls Tryz.prog 100 #[.slice A n c, .int .i64 n, .slice (some ⟨m, 0, none⟩) 1 1] W (InsV W base (n + 1) (.slice A n c) (cs ++ xcs)) := by
  obtain ⟨i0, hi, hzz⟩ := Option.map_eq_some_iff.1 info28
  simp only [Prod.mk.injEq] at hzz
  obtain ⟨hz0, hz1, hz2⟩ := hzz
  obtain ⟨v1, w1, hrun, hown1, hg, _, hat⟩ := run_append_own_at (P := Tryz.prog) W base 25 25 28 i0 (.agg zA) 8 112 Tryz.underlying25 hi hz0 hz1 hz2 rfl (by decide) (.slice A n c) n cs HO ⟨m, 0, none⟩ 1 1 xcs (by omega)
    (fun j u hu => by
      rw [show (⟨m, 0, none⟩ : Addr).add j = ⟨m, j, none⟩ by unfold Addr.add; split <;> simp_all, blk_cell hm]; simpa using hu)
    h1 (by simp only [maxLen]; omega) (by omega) hbase
  have hF : Hid (InsV W base (n + 1) (.slice A n c) (cs ++ xcs) (.returned v1) w1) := Lib.hid ⟨v1, rfl, hown1, hg, hat⟩
  have hc : n ≤ c := by
    rcases HO.2 with ⟨h0, h2⟩ | ⟨g, cap, cur, h0, _, _, h2, _⟩
    · injection h0 with _ _ h3; omega
    · injection h0 with _ _ h3; omega
  have hcI : (n : Int) ≤ (c : Int) := by omega
  have hA : A = none → n = 0 ∧ c = 0 := fun e => by
    rcases HO.2 with ⟨h0, h2⟩ | ⟨g, cap, cur, h0, _⟩
    · injection h0 with _ _ h3; omega
    · injection h0 with h3; rw [e] at h3; cases h3
  clear hown1 hg hat hm h1 HO hi hz0 hz1 hz2
  cases A with
  | none =>
    obtain ⟨rfl, rfl⟩ := hA rfl
    go_enter Tryz.func100, Tryz.ntmps100
    go_wp2_with (at_builtin; refine Lib.wpList_append_run _ rfl _ _ _ _ rfl _ _ rfl rfl _ _ hrun ?_)
    go_ret
    exact hF.out
  | some ad =>
    obtain ⟨g, o, sp⟩ := ad
    clear hA
    go_enter Tryz.func100, Tryz.ntmps100
    go_wp2_with (at_builtin; refine Lib.wpList_append_run _ rfl _ _ _ _ rfl _ _ rfl rfl _ _ hrun ?_)
    all_goals (go_ret; exact hF.out)
theorem row_take {cs cur1 : List Value} {k m : Nat} (h : cur1.take k = cs) (hm : m ≤ k) : cur1.take m = cs.take m := by
  rw [← h, List.take_take, Nat.min_eq_left hm]
set_option maxRecDepth 100000 in
set_option maxHeartbeats 8000000 in
theorem insV_shift {W : World} {base g n c i m : Nat} {cur : Array Value} {cs xcs : List Value} (hb : base ≤ g) (hg : W.heap[g]? = some (.cells cur 28 (0, 0))) (hsz : cur.size = c * 8) (htk : cur.toList.take (n * 8) = cs) (hcl : cs.length = n * 8)
    (hone : ∀ u ∈ cs, u.oneCell' = true) (hi : i < n) (hroom : n + 1 ≤ c) (hc : c ≤ maxLen)
    (hm : W.heap[m]? = some (.cells xcs.toArray 28 (0, 0))) (hx : xcs.length = 8) (h1 : ∀ u ∈ xcs, u.oneCell' = true) (hmg : m ≠ g) :
    Calls Tryz.prog 100 #[.slice (some ⟨g, 0, none⟩) n c, .int .i64 i, .slice (some ⟨m, 0, none⟩) 1 1] W (InsV W base (n + 1) (.slice (some ⟨g, 0, none⟩) n c) (ins cs xcs i)) := by
  obtain ⟨i0, hi0, hzz⟩ := Option.map_eq_some_iff.1 info28
  simp only [Prod.mk.injEq] at hzz
  obtain ⟨hz0, hz1, hz2⟩ := hzz
  have hsz8 : (Tryz.prog.info? 28).map (·.size) = some 8 := by rw [hi0]; simp [hz1]
  have hdl : (cs.drop (i * 8)).length = (n - i) * 8 := by rw [List.length_drop, hcl, Nat.sub_mul]
  obtain ⟨ROW1, hR1⟩ : ∃ ROW1 : Array Value, ROW1 = (cur.toList.take ((i + 1) * 8) ++ cs.drop (i * 8) ++ cur.toList.drop ((i + 1) * 8 + (cs.drop (i * 8)).length)).toArray := ⟨_, rfl⟩
  have hR1l : ROW1.size = c * 8 := by rw [hR1]; simp [hcl]; omega
  have hov : ∀ lb cb, (callFunc 124 #[.slice (some ⟨m, 0, none⟩) 1 1, .slice (some ⟨g, (i + 1) * 8, none⟩) lb cb]).run Tryz.prog W = .ok (.value (.bool false)) W := fun lb cb => by
    rw [run_callFunc_extern Tryz.func124 (by kernel_rfl) (by kernel_rfl) (by kernel_rfl) (e := Extern.SlicesOverlaps.overlaps #[25, 25] #[4]) (by kernel_rfl),
      Lib.run_overlaps_apart W 25 4 28 Tryz.underlying25 8 (fun w => by simp [Go.sizeOf, typeInfo, hi0, hz1]) ⟨m, 0, none⟩ ⟨g, (i + 1) * 8, none⟩ 1 1 lb cb hmg 28 28 8 (c * 8) (by simp [World.shape?, hm, hx]) (by simp [World.shape?, hg, hsz]) (by omega) (blk_frozen hm 0) (blk_frozen hm 8)]
    rfl
  have hcp1 : ∀ ty dc sc, (Builtin.copy_ #[25, 25] ty #[.slice (some ⟨g, (i + 1) * 8, none⟩) (n - i) dc, .slice (some ⟨g, i * 8, none⟩) (n + 1 - i) sc]).run Tryz.prog W.drew = .ok (goInt ((n - i : Nat) : Int)) (W.drew.setRow g ROW1) := fun ty dc sc => by
    rw [hR1]
    exact copy_rows W.drew 25 25 ty 28 g ((i + 1) * 8) (n - i) dc ⟨g, i * 8, none⟩ (n + 1 - i) sc (n - i) 8 cur 28 (cs.drop (i * 8)) Tryz.underlying25 hsz8 hg (by simp only [Nat.min_def]; split <;> omega) hdl
      (fun j v hj => by
        have hj2 : j < (n - i) * 8 := by rw [← hdl]; exact (List.getElem?_eq_some_iff.1 hj).1
        rw [show (⟨g, i * 8, none⟩ : Addr).add j = ⟨g, i * 8 + j, none⟩ by unfold Addr.add; split <;> simp_all]
        rw [show W.drew.cell? ⟨g, i * 8 + j, none⟩ = W.cell? ⟨g, i * 8 + j, none⟩ from rfl, blk_cell hg]
        rw [List.getElem?_drop, ← htk, List.getElem?_take] at hj
        split at hj
        · simpa using hj
        · cases hj)
      (by rw [hdl, hsz]; omega) (fun u hu => hone u (List.mem_of_mem_drop hu))
  have hg1 : (W.drew.setRow g ROW1).heap[g]? = some (.cells ROW1 28 (0, 0)) := setRow_at (w := W.drew) hg
  have hm1 : (W.drew.setRow g ROW1).heap[m]? = some (.cells xcs.toArray 28 (0, 0)) := ((setRow_grown W.drew g ROW1).block m (Array.getElem?_eq_some_iff.1 hm).1 (by simpa using hmg)).trans hm
  obtain ⟨ROW2, hR2⟩ : ∃ ROW2 : Array Value, ROW2 = (ROW1.toList.take (i * 8) ++ xcs ++ ROW1.toList.drop (i * 8 + xcs.length)).toArray := ⟨_, rfl⟩
  have hcp2 : ∀ (U : World), U.heap = (W.drew.setRow g ROW1).heap → ∀ ty dc, (Builtin.copy_ #[25, 25] ty #[.slice (some ⟨g, i * 8, none⟩) (n + 1 - i) dc, .slice (some ⟨m, 0, none⟩) 1 1]).run Tryz.prog U = .ok (goInt 1) (U.setRow g ROW2) := fun U hU ty dc => by
    rw [hR2]
    have hg1' : U.heap[g]? = some (.cells ROW1 28 (0, 0)) := by rw [hU]; exact hg1
    have hm1' : U.heap[m]? = some (.cells xcs.toArray 28 (0, 0)) := by rw [hU]; exact hm1
    exact copy_rows U 25 25 ty 28 g (i * 8) (n + 1 - i) dc ⟨m, 0, none⟩ 1 1 1 8 ROW1 28 xcs Tryz.underlying25 hsz8 hg1' (by simp only [Nat.min_def]; split <;> omega) (by omega)
      (fun j v hj => by
        rw [show (⟨m, 0, none⟩ : Addr).add j = ⟨m, j, none⟩ by unfold Addr.add; split <;> simp_all, blk_cell hm1']
        simpa using hj)
      (by rw [hx, hR1l]; omega) h1
  have hF : Hid (InsV W base (n + 1) (.slice (some ⟨g, 0, none⟩) n c) (ins cs xcs i) (.returned (.slice (some ⟨g, 0, none⟩) (n + 1) c)) ((W.drew.setRow g ROW1).setRow g ROW2)) := by
    have e1 : ROW1.toList = cs.take (i * 8) ++ ((cur.toList.drop (i * 8)).take 8 ++ (cs.drop (i * 8) ++ cur.toList.drop ((i + 1) * 8 + (cs.drop (i * 8)).length))) := by
      rw [hR1, List.toList_toArray, ← List.append_assoc, ← List.append_assoc]
      congr 2
      rw [show (i + 1) * 8 = i * 8 + 8 by omega, List.take_add, row_take htk (by omega)]
    have hl1 : (cs.take (i * 8)).length = i * 8 := by rw [List.length_take, hcl]; omega
    have hl2 : ((cur.toList.drop (i * 8)).take 8).length = 8 := by rw [List.length_take, List.length_drop, Array.length_toList, hsz]; omega
    have e2 : ROW2.toList = ins cs xcs i ++ cur.toList.drop ((i + 1) * 8 + (cs.drop (i * 8)).length) := by
      rw [hR2, List.toList_toArray, e1, List.take_left' hl1, hx, ← List.drop_drop, List.drop_left' hl1, List.drop_left' hl2]
      unfold ins
      simp only [List.append_assoc]
    have hil : (ins cs xcs i).length = (n + 1) * 8 := by unfold ins; simp only [List.length_append, hl1, hx, hdl, Nat.sub_mul]; omega
    have hR2l : ROW2.size = c * 8 := by
      rw [hR2]; simp [hx, hR1l]; omega
    exact Lib.hid ⟨_, rfl, ⟨hil, .inr ⟨g, c, ROW2, rfl, hb, setRow_at hg1, hroom, hc, hR2l, by rw [e2, List.take_left' hil]⟩⟩,
      grown_trans (grown_trans (b := W.drew) ⟨rfl, rfl, rfl, Nat.le_refl _, fun _ _ _ => rfl⟩ (setRow_grown _ _ _)) (setRow_grown _ _ _), .inl rfl⟩
  clear hR1 hR2
  have hw1 : IntKind.i64.wrap ((i : Int) + 1) = (i : Int) + 1 := by rw [IntKind.wrap_i64]; unfold maxLen at hc; omega
  have hz2' : ¬ ((i : Int) = (n : Int)) := by omega
  have hc63 : (c : Int) ≤ 9223372036854775807 := by unfold maxLen at hc; omega
  have hb1 : (0 : Int) ≤ (i : Int) + 1 := by omega
  have hin : i ≤ n := by omega
  have htn : ((i : Int) + 1).toNat = i + 1 := by omega
  have hb2 : ¬ (c = i + 1) := by omega
  have hb3 : (i : Int) ≤ (n : Int) + 1 := by omega
  have hb4 : ¬ (c = i) := by omega
  clear hz0 hz1 hz2 hi0 hg hsz htk hcl hone hm hx h1 hg1 hm1 hdl hR1l hsz8
  have mixed : Tryz.prog.follows .mixedOrders = true := by kernel_rfl
  go_enter Tryz.func100, Tryz.ntmps100
  go_wp2_with (simp only [hov])
  go_region_law_o (refine step_copy_runI rfl _ _ 25 25 rfl _ _ (by simp [Act.eval, Act.put]) (by simp [Act.eval, Act.put]) (hcp1 _ _ _) ?_)
  go_wp2_with (at_builtin; refine wpList_copy_runI _ rfl _ _ 25 25 rfl _ _ rfl rfl (hcp2 _ rfl _ _) ?_)
  go_ret
  exact hF.out
end Js
end Go.Proofs.YtapcpndplnkfjaaGreatDoor
namespace Go.Proofs.YtapcpndplnkfjaaGreatDoor
open Go.RowKit Go.Proofs.YtapcpndplnkfjaaGreatDoorW.PrintWords Go.Proofs.YtapcpndplnkfjaaGreatDoorW.PrintLast Go.Proofs.YtapcpndplnkfjaaGreatDoorW.PrintMore
set_option linter.unusedVariables false
set_option linter.unusedSimpArgs false
namespace Js
set_option maxRecDepth 100000 in
set_option maxHeartbeats 8000000 in
theorem insV_grow {W : World} {base g n c i m : Nat} {cur : Array Value} {cs xcs : List Value} (hbase : base ≤ W.heap.size) (hg : W.heap[g]? = some (.cells cur 28 (0, 0))) (hsz : cur.size = c * 8) (htk : cur.toList.take (n * 8) = cs) (hcl : cs.length = n * 8)
    (hone : ∀ u ∈ cs, u.oneCell' = true) (hi : i < n) (hnc : n ≤ c) (hroom : c < n + 1) (hc : n ≤ 1000000)
    (hm : W.heap[m]? = some (.cells xcs.toArray 28 (0, 0))) (hx : xcs.length = 8) (h1 : ∀ u ∈ xcs, u.oneCell' = true) :
    Calls Tryz.prog 100 #[.slice (some ⟨g, 0, none⟩) n c, .int .i64 i, .slice (some ⟨m, 0, none⟩) 1 1] W (InsV W base (n + 1) (.slice (some ⟨g, 0, none⟩) n c) (ins cs xcs i)) := by
  obtain ⟨i0, hi0, hzz⟩ := Option.map_eq_some_iff.1 info28
  simp only [Prod.mk.injEq] at hzz
  obtain ⟨hz0, hz1, hz2⟩ := hzz
  have hsz8 : (Tryz.prog.info? 28).map (·.size) = some 8 := by rw [hi0]; simp [hz1]
  have hdl : (cs.drop (i * 8)).length = (n - i) * 8 := by rw [List.length_drop, hcl, Nat.sub_mul]
  have hzs : (Value.agg zA).cells.size = 8 := rfl
  have hgl : g < W.heap.size := (Array.getElem?_eq_some_iff.1 hg).1
  have hml : m < W.heap.size := (Array.getElem?_eq_some_iff.1 hm).1
  have hik : i + (n + 1 - i) = n + 1 := by omega
  have hkk : (n : Int) + 1 - (i : Int) = ((n + 1 - i : Nat) : Int) := by omega
  have hold : (Builtin.firstCells i0.size i (.slice (some ⟨g, 0, none⟩) i c)).run Tryz.prog W.drew = .ok (cs.take (i * 8)).toArray W.drew := by
    rw [hz1]
    exact run_firstCells_some W.drew 8 i ⟨g, 0, none⟩ i c (cs.take (i * 8)) (by rw [List.length_take, hcl]; omega) (fun j v hj => by
      rw [show (⟨g, 0, none⟩ : Addr).add j = ⟨g, j, none⟩ by unfold Addr.add; split <;> simp_all, show W.drew.cell? ⟨g, j, none⟩ = W.cell? ⟨g, j, none⟩ from rfl, blk_cell hg]
      rw [List.getElem?_take, ← htk, List.getElem?_take] at hj
      split at hj
      · split at hj
        · simpa using hj
        · cases hj
      · cases hj)
  have hrz : ∀ ty, (Builtin.append_ #[25, 3] ty #[.slice (some ⟨g, 0, none⟩) i c, .int .i64 ((n : Int) + 1 - (i : Int))]).run Tryz.prog W =
      .ok (.slice (some ⟨W.heap.size, 0, none⟩) (n + 1) (grownCap W (n + 1) c 28)) (W.drew.alloc (.cells ((cs.take (i * 8)).toArray ++ Builtin.zeroCells (Value.agg zA).cells (n + 1 - i) ++ Builtin.zeroCells (Value.agg zA).cells (grownCap W (n + 1) c 28 - (n + 1))) 28)) := fun ty => by
    have h := Lib.run_append_grow_zeros W 25 3 ty 28 i0 _ .i64 .i64 Tryz.underlying25 Tryz.underlying3 hi0 hz0 (some ⟨g, 0, none⟩) i c (cs.take (i * 8)) hold (n + 1 - i) (by omega) (by rw [hz1]; decide) (by omega) (by omega) (by rw [hz2]; omega) (by rw [hz2, hik]; exact growslice_fits hroom (by omega))
    rw [hik] at h
    rw [hkk]
    exact h
  obtain ⟨G, hG⟩ : ∃ G, G = grownCap W (n + 1) c 28 := ⟨_, rfl⟩
  have hGn : n + 1 ≤ G := by rw [hG]; exact grownCap_ge W _ _ _
  have hGm : G ≤ maxLen := by rw [hG]; exact grownCap_le_maxLen W (n + 1) c 28 (by unfold maxLen; omega)
  obtain ⟨ROW, hROW⟩ : ∃ ROW : Array Value, ROW = (cs.take (i * 8)).toArray ++ Builtin.zeroCells (Value.agg zA).cells (n + 1 - i) ++ Builtin.zeroCells (Value.agg zA).cells (G - (n + 1)) := ⟨_, rfl⟩
  rw [← hG] at hrz
  rw [← hROW] at hrz
  have hl1 : (cs.take (i * 8)).length = i * 8 := by rw [List.length_take, hcl]; omega
  have hRl : ROW.size = G * 8 := by
    rw [hROW]
    simp only [Array.size_append, List.size_toArray, size_zeroCells, hzs, hl1, ← Nat.add_mul]
    congr 1
    omega
  obtain ⟨W1, hW1⟩ : ∃ W1, W1 = W.drew.alloc (.cells ROW 28) := ⟨_, rfl⟩
  have hH1 : W1.heap[W.heap.size]? = some (.cells ROW 28 (0, 0)) := by rw [hW1]; exact blk_new W.drew (.cells ROW 28)
  have hm1 : W1.heap[m]? = some (.cells xcs.toArray 28 (0, 0)) := by rw [hW1]; exact blk_alloc (w := W.drew) hm _
  have hg1 : W1.heap[g]? = some (.cells cur 28 (0, 0)) := by rw [hW1]; exact blk_alloc (w := W.drew) hg _
  have hk1 : W.grownBy W1 (some g) := by rw [hW1]; exact grown_below (Below.alloc (Below.refl _ _).drew (Nat.le_refl _) _) _
  obtain ⟨ROW1, hR1⟩ : ∃ ROW1 : Array Value, ROW1 = (ROW.toList.take (i * 8) ++ xcs ++ ROW.toList.drop (i * 8 + xcs.length)).toArray := ⟨_, rfl⟩
  have hR1l : ROW1.size = G * 8 := by rw [hR1]; simp [hx, hRl]; omega
  have hcpA : ∀ (U : World), U.heap = W1.heap → ∀ ty dc, (Builtin.copy_ #[25, 25] ty #[.slice (some ⟨W.heap.size, i * 8, none⟩) (n + 1 - i) dc, .slice (some ⟨m, 0, none⟩) 1 1]).run Tryz.prog U = .ok (goInt 1) (U.setRow W.heap.size ROW1) := fun U hU ty dc => by
    rw [hR1]
    have hH' : U.heap[W.heap.size]? = some (.cells ROW 28 (0, 0)) := by rw [hU]; exact hH1
    have hm1' : U.heap[m]? = some (.cells xcs.toArray 28 (0, 0)) := by rw [hU]; exact hm1
    exact copy_rows U 25 25 ty 28 W.heap.size (i * 8) (n + 1 - i) dc ⟨m, 0, none⟩ 1 1 1 8 ROW 28 xcs Tryz.underlying25 hsz8 hH' (by simp only [Nat.min_def]; split <;> omega) (by omega)
      (fun j v hj => by
        rw [show (⟨m, 0, none⟩ : Addr).add j = ⟨m, j, none⟩ by unfold Addr.add; split <;> simp_all, blk_cell hm1']
        simpa using hj)
      (by rw [hx, hRl]; omega) h1
  have hHN : g ≠ W.heap.size := by omega
  obtain ⟨ROW2, hR2⟩ : ∃ ROW2 : Array Value, ROW2 = (ROW1.toList.take ((i + 1) * 8) ++ cs.drop (i * 8) ++ ROW1.toList.drop ((i + 1) * 8 + (cs.drop (i * 8)).length)).toArray := ⟨_, rfl⟩
  have hcpB : ∀ (U : World), U.heap = (W1.setRow W.heap.size ROW1).heap → ∀ ty dc sc, (Builtin.copy_ #[25, 25] ty #[.slice (some ⟨W.heap.size, (i + 1) * 8, none⟩) (n - i) dc, .slice (some ⟨g, i * 8, none⟩) (n - i) sc]).run Tryz.prog U = .ok (goInt ((n - i : Nat) : Int)) (U.setRow W.heap.size ROW2) := fun U hU ty dc sc => by
    rw [hR2]
    have hH' : U.heap[W.heap.size]? = some (.cells ROW1 28 (0, 0)) := by rw [hU]; exact setRow_at hH1
    have hg' : U.heap[g]? = some (.cells cur 28 (0, 0)) := by rw [hU]; exact ((setRow_grown W1 W.heap.size ROW1).block g (Array.getElem?_eq_some_iff.1 hg1).1 (by simpa using hHN)).trans hg1
    exact copy_rows U 25 25 ty 28 W.heap.size ((i + 1) * 8) (n - i) dc ⟨g, i * 8, none⟩ (n - i) sc (n - i) 8 ROW1 28 (cs.drop (i * 8)) Tryz.underlying25 hsz8 hH' (by simp only [Nat.min_def]; split <;> omega) hdl
      (fun j v hj => by
        rw [show (⟨g, i * 8, none⟩ : Addr).add j = ⟨g, i * 8 + j, none⟩ by unfold Addr.add; split <;> simp_all, blk_cell hg']
        rw [List.getElem?_drop, ← htk, List.getElem?_take] at hj
        split at hj
        · simpa using hj
        · cases hj)
      (by rw [hdl, hR1l]; omega) (fun u hu => hone u (List.mem_of_mem_drop hu))
  have hF : ∀ U : World, U.heap = (W1.setRow W.heap.size ROW1).heap → U.os = W.os → U.tape = W.tape → U.output = W.output → InsV W base (n + 1) (.slice (some ⟨g, 0, none⟩) n c) (ins cs xcs i) (.returned (.slice (some ⟨W.heap.size, 0, none⟩) (n + 1) G)) (U.setRow W.heap.size ROW2) := by
    intro U hU ho ht hp
    have e1 : ROW.toList.take (i * 8) = cs.take (i * 8) := by
      rw [hROW]; simp only [Array.toList_append, List.append_assoc, List.toList_toArray]; rw [List.take_left' hl1]
    have e2 : ROW1.toList = (cs.take (i * 8) ++ xcs) ++ ROW.toList.drop (i * 8 + xcs.length) := by rw [hR1, List.toList_toArray, e1]
    have hl2 : (cs.take (i * 8) ++ xcs).length = (i + 1) * 8 := by rw [List.length_append, hl1, hx]; omega
    have e3 : ROW2.toList = ins cs xcs i ++ ROW1.toList.drop ((i + 1) * 8 + (cs.drop (i * 8)).length) := by
      rw [hR2, List.toList_toArray, e2, List.take_left' hl2]; unfold ins; rfl
    have hil : (ins cs xcs i).length = (n + 1) * 8 := by unfold ins; simp only [List.length_append, hl1, hx, hdl, Nat.sub_mul]; omega
    have hR2l : ROW2.size = G * 8 := by rw [hR2]; simp [hR1l, hcl]; omega
    have hH' : U.heap[W.heap.size]? = some (.cells ROW1 28 (0, 0)) := by rw [hU]; exact setRow_at hH1
    refine ⟨_, rfl, ⟨hil, .inr ⟨W.heap.size, G, ROW2, rfl, hbase, setRow_at hH', hGn, hGm, hR2l, by rw [e3, List.take_left' hil]⟩⟩, ⟨ho, ht, hp, ?_, fun k hk hn => ?_⟩, .inr rfl⟩
    · have h1 := (setRow_grown U W.heap.size ROW2).size
      have h2 := (setRow_grown W1 W.heap.size ROW1).size
      rw [← hU] at h2
      exact Nat.le_trans hk1.size (Nat.le_trans h2 h1)
    · have hkN : k ≠ W.heap.size := by omega
      have hkU : k < U.heap.size := by
        have h2 := (setRow_grown W1 W.heap.size ROW1).size
        rw [← hU] at h2
        have := hk1.size; omega
      have r1 := (setRow_grown U W.heap.size ROW2).block k hkU (by simpa using hkN)
      have r2 := (setRow_grown W1 W.heap.size ROW1).block k (by have := hk1.size; omega) (by simpa using hkN)
      rw [← hU] at r2
      have r3 : W1.heap[k]? = W.heap[k]? := by rw [hW1]; exact (Below.alloc (Below.refl W.heap.size W.drew) (Nat.le_refl _) (.cells ROW 28)).block k hk
      exact r1.trans (r2.trans r3)
  have hFF : ∀ U : World, Hid (U.heap = (W1.setRow W.heap.size ROW1).heap ∧ U.os = W.os ∧ U.tape = W.tape ∧ U.output = W.output → InsV W base (n + 1) (.slice (some ⟨g, 0, none⟩) n c) (ins cs xcs i) (.returned (.slice (some ⟨W.heap.size, 0, none⟩) (n + 1) G)) (U.setRow W.heap.size ROW2)) := fun U => Lib.hid (fun h => hF U h.1 h.2.1 h.2.2.1 h.2.2.2)
  subst hW1
  clear hF
  have hw1 : IntKind.i64.wrap ((i : Int) + 1) = (i : Int) + 1 := by rw [IntKind.wrap_i64]; omega
  have hz2' : ¬ ((i : Int) = (n : Int)) := by omega
  have hz3 : (c : Int) < (n : Int) + 1 := by omega
  have hb1 : (0 : Int) ≤ (i : Int) + 1 := by omega
  have hin : i ≤ n := by omega
  have htn : ((i : Int) + 1).toNat = i + 1 := by omega
  have hG63 : G ≤ 9223372036854775807 := by unfold maxLen at hGm; omega
  have hGi : ¬ (G = i) := by omega
  have hGim : ¬ (G = i + 1) := by omega
  have hci : ¬ (c = i) := by omega
  have hb3 : (i : Int) ≤ (n : Int) := by omega
  have mixed : Tryz.prog.follows .mixedOrders = true := by kernel_rfl
  clear hz0 hz1 hz2 hi0 hg hsz htk hcl hone hm hx h1 hg1 hm1 hdl hR1l hsz8 hk1 hH1 hl1 hRl hROW hG hold hkk hik hR1 hR2 hzs
  go_enter Tryz.func100, Tryz.ntmps100
  go_wp2_with (at_builtin; refine Lib.wpList_append_run _ rfl _ _ _ _ rfl _ _ rfl rfl _ _ (hrz _) ?_)
  rw [hcpA ((W.alloc (.cells ROW 28)).drew) rfl]
  go_wp2
  go_region_law_o (refine step_copy_runI rfl _ _ 25 25 rfl (.slice (some ⟨W.heap.size, (i + 1) * 8, none⟩) (n - i) (G - (i + 1))) (.slice (some ⟨g, i * 8, none⟩) (n - i) (c - i)) (by simp [Act.eval, Act.put]) (by simp [Act.eval, Act.put]) (hcpB (((W.alloc (.cells ROW 28)).drew.setRow W.heap.size ROW1).drew) rfl 3 (G - (i + 1)) (c - i)) ?_)
  go_wp2
  go_ret
  exact (hFF _).out ⟨rfl, rfl, rfl, rfl⟩
end Js
end Go.Proofs.YtapcpndplnkfjaaGreatDoor
namespace Go.Proofs.YtapcpndplnkfjaaGreatDoor
open Go.RowKit Go.Proofs.YtapcpndplnkfjaaGreatDoorW.PrintWords Go.Proofs.YtapcpndplnkfjaaGreatDoorW.PrintLast Go.Proofs.YtapcpndplnkfjaaGreatDoorW.PrintMore
set_option linter.unusedVariables false
set_option linter.unusedSimpArgs false
namespace Js
theorem insV_calls {W : World} {base n i m : Nat} {v : Value} {cs xcs : List Value} (HO : W.ownsRow base 28 8 v n cs) (hone : ∀ u ∈ cs, u.oneCell' = true) (hi : i ≤ n) (hl : n ≤ 1000000) (hbase : base ≤ W.heap.size)
    (hm : W.heap[m]? = some (.cells xcs.toArray 28 (0, 0))) (hx : xcs.length = 8) (h1 : ∀ u ∈ xcs, u.oneCell' = true) (hmv : some m ≠ v.ownBlock) :
    Calls Tryz.prog 100 #[v, .int .i64 i, .slice (some ⟨m, 0, none⟩) 1 1] W (InsV W base (n + 1) v (ins cs xcs i)) := by
  obtain ⟨A, c, rfl⟩ := own_slice HO
  rcases Nat.lt_or_ge i n with h | h
  · rcases HO.2 with ⟨h0, h2⟩ | ⟨g, cap, cur, h0, hb, hg, hnc, hcm, hcs, htk⟩
    · omega
    · injection h0 with hA _ hc
      subst hA; subst hc
      rcases Nat.lt_or_ge c (n + 1) with hr | hr
      · exact insV_grow hbase hg hcs htk HO.1 hone h hnc hr hl hm hx h1
      · exact insV_shift hb hg hcs htk HO.1 hone h hr hcm hm hx h1 (fun e => hmv (by rw [e]; rfl))
  · obtain rfl : i = n := by omega
    rw [ins_end HO.1]
    exact insV_end HO hm hx h1 hl hbase
theorem R_put {α : Type} {d : Kd α} {e base : Nat} {ok : Nat → Prop} {W w1 : World} {v v1 : Value} {ps : List α} {inner : List Value} (h0 : ∀ k, v.ownBlock = some k → ok k) (hr : Reps (d.M W base (fun k => ok k ∧ some k ≠ v.ownBlock)) d.sz ps inner) (hfresh : ∀ k, W.heap.size ≤ k → ok k)
    (hown : w1.ownsRow base e d.sz v1 ps.length inner) (hg : W.grownBy w1 v.ownBlock) (hat : v1.ownBlock = v.ownBlock ∨ v1.ownBlock = some W.heap.size) : d.R e w1 base ok v1 ps := by
  have hne : ∀ k, some k ≠ v.ownBlock → k < W.heap.size → some k ≠ v1.ownBlock := by
    intro k hk hlt
    rcases hat with hat | hat
    · rw [hat]; exact hk
    · rw [hat]; intro he; injection he with he; omega
  refine ⟨fun k hk => ?_, inner, hown, hr.imp_ (fun q c hq => ?_)⟩
  · rcases hat with hat | hat
    · exact h0 k (hat ▸ hk)
    · rw [hat] at hk; injection hk with hk; exact hfresh k (by omega)
  · have h1 := d.M_move (w1 := w1) (fun k hk => hg.block k hk.2.2.1 hk.1.2) (d.M_bound hq)
    exact d.M_mono (fun k hk => ⟨hk.1.1, hne k hk.1.2 hk.2.2.1⟩) h1
theorem reps_one {w : World} {base : Nat} {ok : Nat → Prop} {xs : List S28} {cs : List Value} (h : Reps (k28.M w base ok) 8 xs cs) : ∀ u ∈ cs, u.oneCell' = true := by
  intro u hu
  obtain ⟨k, hk⟩ := List.getElem?_of_mem hu
  have hlen := h.1
  have hkl : k < cs.length := (List.getElem?_eq_some_iff.1 hk).1
  have hj : k / 8 < xs.length := by omega
  have hM := h.2 (k / 8) _ (List.getElem?_eq_getElem hj)
  refine k28.K_one (k28.K_of_M hM) u ?_
  exact List.mem_iff_getElem?.2 ⟨k - k / 8 * 8, by rw [List.getElem?_take_of_lt (by omega), List.getElem?_drop, show k / 8 * 8 + (k - k / 8 * 8) = k by omega]; exact hk⟩
theorem insV_R {W : World} {base i m : Nat} {ok okp : Nat → Prop} {v : Value} {xs : List S28} {x : S28} {xcs : List Value} (hR : k28.R 28 W base ok v xs) (hM : k28.M W base okp x xcs) (hokp : ∀ k, okp k → ok k ∧ some k ≠ v.ownBlock) (hfresh : ∀ k, W.heap.size ≤ k → ok k)
    (hi : i ≤ xs.length) (hl : xs.length ≤ 1000000) (hbase : base ≤ W.heap.size) (hm : W.heap[m]? = some (.cells xcs.toArray 28 (0, 0))) (hmv : some m ≠ v.ownBlock) :
    Calls Tryz.prog 100 #[v, .int .i64 i, .slice (some ⟨m, 0, none⟩) 1 1] W fun E w' => ∃ v1, E = .returned v1 ∧ k28.R 28 w' base ok v1 (xs.take i ++ [x] ++ xs.drop i) ∧ W.grownBy w' v.ownBlock ∧ (v1.ownBlock = v.ownBlock ∨ v1.ownBlock = some W.heap.size) := by
  obtain ⟨h0, inner, hown, hr⟩ := hR
  have hx := k28.K_len (k28.K_of_M hM)
  refine (insV_calls hown (reps_one hr) hi hl hbase hm hx (k28.K_one (k28.K_of_M hM)) hmv).mono ?_
  rintro E w' ⟨v1, rfl, h1, h2, h3⟩
  refine ⟨v1, rfl, R_put h0 (inner := ins inner xcs i) ?_ hfresh ?_ h2 h3, h2, h3⟩
  · unfold ins
    exact Kd.reps_append (Kd.reps_append (Kd.reps_take hr hi) (by
      have := (Reps.none (k28.M W base (fun k => ok k ∧ some k ≠ v.ownBlock)) k28.sz).snoc (p := x) (c := xcs) (k28.M_mono hokp hM) hx
      simpa using this)) (Kd.reps_drop hr)
  · have : (xs.take i ++ [x] ++ xs.drop i).length = xs.length + 1 := by simp; omega
    rw [this]; exact h1
end Js
end Go.Proofs.YtapcpndplnkfjaaGreatDoor
namespace Go.Proofs.YtapcpndplnkfjaaGreatDoor
open Go.RowKit Go.Proofs.YtapcpndplnkfjaaGreatDoorW.PrintWords Go.Proofs.YtapcpndplnkfjaaGreatDoorW.PrintLast Go.Proofs.YtapcpndplnkfjaaGreatDoorW.PrintMore
set_option linter.unusedVariables false
set_option linter.unusedSimpArgs false
namespace Js
theorem info9 : (Tryz.prog.info? 9).map (fun i => (i.zero, i.size, i.bytes)) = some (some (.string ⟨#[]⟩), 1, 16) := by kernel_rfl
def inst (cs xcs : List Value) (i : Nat) : List Value := cs.take (i) ++ xcs ++ cs.drop (i)
theorem inst_end {cs xcs : List Value} {n : Nat} (h : cs.length = n * 1) : inst cs xcs n = cs ++ xcs := by
  unfold inst
  rw [List.take_of_length_le (by omega), List.drop_of_length_le (by omega), List.append_nil]
def InsT (W : World) (base n : Nat) (v : Value) (cs : List Value) (E : Ending) (w' : World) : Prop :=
  ∃ v1, E = .returned v1 ∧ w'.ownsRow base 9 1 v1 n cs ∧ W.grownBy w' v.ownBlock ∧ (v1.ownBlock = v.ownBlock ∨ v1.ownBlock = some W.heap.size)
set_option maxRecDepth 100000 in
set_option maxHeartbeats 4000000 in
theorem insT_end {W : World} {base n c m : Nat} {A : Option Addr} {cs xcs : List Value} (HO : W.ownsRow base 9 1 (.slice A n c) n cs) (hm : W.heap[m]? = some (.cells xcs.toArray 9 (0, 0))) (hx : xcs.length = 1) (h1 : ∀ u ∈ xcs, u.oneCell' = true) (hl : n ≤ 1000000) (hbase : base ≤ W.heap.size) :
    Calls Tryz.prog 99 #[.slice A n c, .int .i64 n, .slice (some ⟨m, 0, none⟩) 1 1] W (InsT W base (n + 1) (.slice A n c) (cs ++ xcs)) := by
  obtain ⟨i0, hi, hzz⟩ := Option.map_eq_some_iff.1 info9
  simp only [Prod.mk.injEq] at hzz
  obtain ⟨hz0, hz1, hz2⟩ := hzz
  obtain ⟨v1, w1, hrun, hown1, hg, _, hat⟩ := run_append_own_at (P := Tryz.prog) W base 26 26 9 i0 (.string ⟨#[]⟩) 1 16 Tryz.underlying26 hi hz0 hz1 hz2 rfl (by decide) (.slice A n c) n cs HO ⟨m, 0, none⟩ 1 1 xcs (by omega)
    (fun j u hu => by
      rw [show (⟨m, 0, none⟩ : Addr).add j = ⟨m, j, none⟩ by unfold Addr.add; split <;> simp_all, blk_cell hm]; simpa using hu)
    h1 (by simp only [maxLen]; omega) (by omega) hbase
  have hF : Hid (InsT W base (n + 1) (.slice A n c) (cs ++ xcs) (.returned v1) w1) := Lib.hid ⟨v1, rfl, hown1, hg, hat⟩
  have hc : n ≤ c := by
    rcases HO.2 with ⟨h0, h2⟩ | ⟨g, cap, cur, h0, _, _, h2, _⟩
    · injection h0 with _ _ h3; omega
    · injection h0 with _ _ h3; omega
  have hcI : (n : Int) ≤ (c : Int) := by omega
  have hA : A = none → n = 0 ∧ c = 0 := fun e => by
    rcases HO.2 with ⟨h0, h2⟩ | ⟨g, cap, cur, h0, _⟩
    · injection h0 with _ _ h3; omega
    · injection h0 with h3; rw [e] at h3; cases h3
  clear hown1 hg hat hm h1 HO hi hz0 hz1 hz2
  cases A with
  | none =>
    obtain ⟨rfl, rfl⟩ := hA rfl
    go_enter Tryz.func99, Tryz.ntmps99
    go_wp2_with (at_builtin; refine Lib.wpList_append_run _ rfl _ _ _ _ rfl _ _ rfl rfl _ _ hrun ?_)
    go_ret
    exact hF.out
  | some ad =>
    obtain ⟨g, o, sp⟩ := ad
    clear hA
    go_enter Tryz.func99, Tryz.ntmps99
    go_wp2_with (at_builtin; refine Lib.wpList_append_run _ rfl _ _ _ _ rfl _ _ rfl rfl _ _ hrun ?_)
    all_goals (go_ret; exact hF.out)
set_option maxRecDepth 100000 in
set_option maxHeartbeats 8000000 in
theorem insT_shift {W : World} {base g n c i m : Nat} {cur : Array Value} {cs xcs : List Value} (hb : base ≤ g) (hg : W.heap[g]? = some (.cells cur 9 (0, 0))) (hsz : cur.size = c * 1) (htk : cur.toList.take (n * 1) = cs) (hcl : cs.length = n * 1)
    (hone : ∀ u ∈ cs, u.oneCell' = true) (hi : i < n) (hroom : n + 1 ≤ c) (hc : c ≤ maxLen)
    (hm : W.heap[m]? = some (.cells xcs.toArray 9 (0, 0))) (hx : xcs.length = 1) (h1 : ∀ u ∈ xcs, u.oneCell' = true) (hmg : m ≠ g) :
    Calls Tryz.prog 99 #[.slice (some ⟨g, 0, none⟩) n c, .int .i64 i, .slice (some ⟨m, 0, none⟩) 1 1] W (InsT W base (n + 1) (.slice (some ⟨g, 0, none⟩) n c) (inst cs xcs i)) := by
  obtain ⟨i0, hi0, hzz⟩ := Option.map_eq_some_iff.1 info9
  simp only [Prod.mk.injEq] at hzz
  obtain ⟨hz0, hz1, hz2⟩ := hzz
  have hsz8 : (Tryz.prog.info? 9).map (·.size) = some 1 := by rw [hi0]; simp [hz1]
  have hdl : (cs.drop (i)).length = (n - i) * 1 := by rw [List.length_drop, hcl]; omega
  obtain ⟨ROW1, hR1⟩ : ∃ ROW1 : Array Value, ROW1 = (cur.toList.take (i + 1) ++ cs.drop (i) ++ cur.toList.drop ((i + 1) + (cs.drop (i)).length)).toArray := ⟨_, rfl⟩
  have hR1l : ROW1.size = c * 1 := by rw [hR1]; simp [hcl]; omega
  have hov : ∀ lb cb, (callFunc 122 #[.slice (some ⟨m, 0, none⟩) 1 1, .slice (some ⟨g, (i + 1), none⟩) lb cb]).run Tryz.prog W = .ok (.value (.bool false)) W := fun lb cb => by
    rw [run_callFunc_extern Tryz.func122 (by kernel_rfl) (by kernel_rfl) (by kernel_rfl) (e := Extern.SlicesOverlaps.overlaps #[26, 26] #[4]) (by kernel_rfl),
      Lib.run_overlaps_apart W 26 4 9 Tryz.underlying26 1 (fun w => by simp [Go.sizeOf, typeInfo, hi0, hz1]) ⟨m, 0, none⟩ ⟨g, (i + 1), none⟩ 1 1 lb cb hmg 9 9 1 (c * 1) (by simp [World.shape?, hm, hx]) (by simp [World.shape?, hg, hsz]) (by omega) (blk_frozen hm 0) (blk_frozen hm 1)]
    rfl
  have hcp1 : ∀ ty dc sc, (Builtin.copy_ #[26, 26] ty #[.slice (some ⟨g, (i + 1), none⟩) (n - i) dc, .slice (some ⟨g, i, none⟩) (n + 1 - i) sc]).run Tryz.prog W.drew = .ok (goInt ((n - i : Nat) : Int)) (W.drew.setRow g ROW1) := fun ty dc sc => by
    rw [hR1]
    exact copy_rows W.drew 26 26 ty 9 g (i + 1) (n - i) dc ⟨g, i, none⟩ (n + 1 - i) sc (n - i) 1 cur 9 (cs.drop (i)) Tryz.underlying26 hsz8 hg (by simp only [Nat.min_def]; split <;> omega) hdl
      (fun j v hj => by
        have hj2 : j < (n - i) * 1 := by rw [← hdl]; exact (List.getElem?_eq_some_iff.1 hj).1
        rw [show (⟨g, i, none⟩ : Addr).add j = ⟨g, i + j, none⟩ by unfold Addr.add; split <;> simp_all]
        rw [show W.drew.cell? ⟨g, i + j, none⟩ = W.cell? ⟨g, i + j, none⟩ from rfl, blk_cell hg]
        rw [List.getElem?_drop, ← htk, List.getElem?_take] at hj
        split at hj
        · simpa using hj
        · cases hj)
      (by rw [hdl, hsz]; omega) (fun u hu => hone u (List.mem_of_mem_drop hu))
  have hg1 : (W.drew.setRow g ROW1).heap[g]? = some (.cells ROW1 9 (0, 0)) := setRow_at (w := W.drew) hg
  have hm1 : (W.drew.setRow g ROW1).heap[m]? = some (.cells xcs.toArray 9 (0, 0)) := ((setRow_grown W.drew g ROW1).block m (Array.getElem?_eq_some_iff.1 hm).1 (by simpa using hmg)).trans hm
  obtain ⟨ROW2, hR2⟩ : ∃ ROW2 : Array Value, ROW2 = (ROW1.toList.take (i) ++ xcs ++ ROW1.toList.drop (i + xcs.length)).toArray := ⟨_, rfl⟩
  have hcp2 : ∀ (U : World), U.heap = (W.drew.setRow g ROW1).heap → ∀ ty dc, (Builtin.copy_ #[26, 26] ty #[.slice (some ⟨g, i, none⟩) (n + 1 - i) dc, .slice (some ⟨m, 0, none⟩) 1 1]).run Tryz.prog U = .ok (goInt 1) (U.setRow g ROW2) := fun U hU ty dc => by
    rw [hR2]
    have hg1' : U.heap[g]? = some (.cells ROW1 9 (0, 0)) := by rw [hU]; exact hg1
    have hm1' : U.heap[m]? = some (.cells xcs.toArray 9 (0, 0)) := by rw [hU]; exact hm1
    exact copy_rows U 26 26 ty 9 g (i) (n + 1 - i) dc ⟨m, 0, none⟩ 1 1 1 1 ROW1 9 xcs Tryz.underlying26 hsz8 hg1' (by simp only [Nat.min_def]; split <;> omega) (by omega)
      (fun j v hj => by
        rw [show (⟨m, 0, none⟩ : Addr).add j = ⟨m, j, none⟩ by unfold Addr.add; split <;> simp_all, blk_cell hm1']
        simpa using hj)
      (by rw [hx, hR1l]; omega) h1
  have hF : Hid (InsT W base (n + 1) (.slice (some ⟨g, 0, none⟩) n c) (inst cs xcs i) (.returned (.slice (some ⟨g, 0, none⟩) (n + 1) c)) ((W.drew.setRow g ROW1).setRow g ROW2)) := by
    have e1 : ROW1.toList = cs.take (i) ++ ((cur.toList.drop (i)).take 1 ++ (cs.drop (i) ++ cur.toList.drop ((i + 1) + (cs.drop (i)).length))) := by
      rw [hR1, List.toList_toArray, ← List.append_assoc, ← List.append_assoc]
      congr 2
      rw [show (i + 1) = i + 1 by omega, List.take_add, row_take htk (by omega)]
    have hl1 : (cs.take (i)).length = i := by rw [List.length_take, hcl]; omega
    have hl2 : ((cur.toList.drop (i)).take 1).length = 1 := by rw [List.length_take, List.length_drop, Array.length_toList, hsz]; omega
    have e2 : ROW2.toList = inst cs xcs i ++ cur.toList.drop ((i + 1) + (cs.drop (i)).length) := by
      rw [hR2, List.toList_toArray, e1, List.take_left' hl1, hx, ← List.drop_drop, List.drop_left' hl1, List.drop_left' hl2]
      unfold inst
      simp only [List.append_assoc]
    have hil : (inst cs xcs i).length = (n + 1) * 1 := by unfold inst; simp only [List.length_append, hl1, hx, hdl, Nat.sub_mul]; omega
    have hR2l : ROW2.size = c * 1 := by
      rw [hR2]; simp [hx, hR1l]; omega
    exact Lib.hid ⟨_, rfl, ⟨hil, .inr ⟨g, c, ROW2, rfl, hb, setRow_at hg1, hroom, hc, hR2l, by rw [e2, List.take_left' hil]⟩⟩,
      grown_trans (grown_trans (b := W.drew) ⟨rfl, rfl, rfl, Nat.le_refl _, fun _ _ _ => rfl⟩ (setRow_grown _ _ _)) (setRow_grown _ _ _), .inl rfl⟩
  clear hR1 hR2
  have hw1 : IntKind.i64.wrap ((i : Int) + 1) = (i : Int) + 1 := by rw [IntKind.wrap_i64]; unfold maxLen at hc; omega
  have hz2' : ¬ ((i : Int) = (n : Int)) := by omega
  have hc63 : (c : Int) ≤ 9223372036854775807 := by unfold maxLen at hc; omega
  have hb1 : (0 : Int) ≤ (i : Int) + 1 := by omega
  have hin : i ≤ n := by omega
  have htn : ((i : Int) + 1).toNat = i + 1 := by omega
  have hb2 : ¬ (c = i + 1) := by omega
  have hb3 : (i : Int) ≤ (n : Int) + 1 := by omega
  have hb4 : ¬ (c = i) := by omega
  clear hz0 hz1 hz2 hi0 hg hsz htk hcl hone hm hx h1 hg1 hm1 hdl hR1l hsz8
  have mixed : Tryz.prog.follows .mixedOrders = true := by kernel_rfl
  go_enter Tryz.func99, Tryz.ntmps99
  go_wp2_with (simp only [hov])
  go_region_law_o (refine step_copy_runI rfl _ _ 26 26 rfl _ _ (by simp [Act.eval, Act.put]) (by simp [Act.eval, Act.put]) (hcp1 _ _ _) ?_)
  go_wp2_with (at_builtin; refine wpList_copy_runI _ rfl _ _ 26 26 rfl _ _ rfl rfl (hcp2 _ rfl _ _) ?_)
  go_ret
  exact hF.out
set_option maxRecDepth 100000 in
set_option maxHeartbeats 8000000 in
theorem insT_grow {W : World} {base g n c i m : Nat} {cur : Array Value} {cs xcs : List Value} (hbase : base ≤ W.heap.size) (hg : W.heap[g]? = some (.cells cur 9 (0, 0))) (hsz : cur.size = c * 1) (htk : cur.toList.take (n * 1) = cs) (hcl : cs.length = n * 1)
    (hone : ∀ u ∈ cs, u.oneCell' = true) (hi : i < n) (hnc : n ≤ c) (hroom : c < n + 1) (hc : n ≤ 1000000)
    (hm : W.heap[m]? = some (.cells xcs.toArray 9 (0, 0))) (hx : xcs.length = 1) (h1 : ∀ u ∈ xcs, u.oneCell' = true) :
    Calls Tryz.prog 99 #[.slice (some ⟨g, 0, none⟩) n c, .int .i64 i, .slice (some ⟨m, 0, none⟩) 1 1] W (InsT W base (n + 1) (.slice (some ⟨g, 0, none⟩) n c) (inst cs xcs i)) := by
  obtain ⟨i0, hi0, hzz⟩ := Option.map_eq_some_iff.1 info9
  simp only [Prod.mk.injEq] at hzz
  obtain ⟨hz0, hz1, hz2⟩ := hzz
  have hsz8 : (Tryz.prog.info? 9).map (·.size) = some 1 := by rw [hi0]; simp [hz1]
  have hdl : (cs.drop (i)).length = (n - i) * 1 := by rw [List.length_drop, hcl]; omega
  have hzs : (Value.string ⟨#[]⟩).cells.size = 1 := rfl
  have hgl : g < W.heap.size := (Array.getElem?_eq_some_iff.1 hg).1
  have hml : m < W.heap.size := (Array.getElem?_eq_some_iff.1 hm).1
  have hik : i + (n + 1 - i) = n + 1 := by omega
  have hkk : (n : Int) + 1 - (i : Int) = ((n + 1 - i : Nat) : Int) := by omega
  have hold : (Builtin.firstCells i0.size i (.slice (some ⟨g, 0, none⟩) i c)).run Tryz.prog W.drew = .ok (cs.take (i)).toArray W.drew := by
    rw [hz1]
    exact run_firstCells_some W.drew 1 i ⟨g, 0, none⟩ i c (cs.take (i)) (by rw [List.length_take, hcl]; omega) (fun j v hj => by
      rw [show (⟨g, 0, none⟩ : Addr).add j = ⟨g, j, none⟩ by unfold Addr.add; split <;> simp_all, show W.drew.cell? ⟨g, j, none⟩ = W.cell? ⟨g, j, none⟩ from rfl, blk_cell hg]
      rw [List.getElem?_take, ← htk, List.getElem?_take] at hj
      split at hj
      · split at hj
        · simpa using hj
        · cases hj
      · cases hj)
  have hrz : ∀ ty, (Builtin.append_ #[26, 3] ty #[.slice (some ⟨g, 0, none⟩) i c, .int .i64 ((n : Int) + 1 - (i : Int))]).run Tryz.prog W =
      .ok (.slice (some ⟨W.heap.size, 0, none⟩) (n + 1) (grownCap W (n + 1) c 9)) (W.drew.alloc (.cells ((cs.take (i)).toArray ++ Builtin.zeroCells (Value.string ⟨#[]⟩).cells (n + 1 - i) ++ Builtin.zeroCells (Value.string ⟨#[]⟩).cells (grownCap W (n + 1) c 9 - (n + 1))) 9)) := fun ty => by
    have h := Lib.run_append_grow_zeros W 26 3 ty 9 i0 _ .i64 .i64 Tryz.underlying26 Tryz.underlying3 hi0 hz0 (some ⟨g, 0, none⟩) i c (cs.take (i)) hold (n + 1 - i) (by omega) (by rw [hz1]; decide) (by omega) (by omega) (by rw [hz2]; omega) (by rw [hz2, hik]; exact growslice_fits hroom (by omega))
    rw [hik] at h
    rw [hkk]
    exact h
  obtain ⟨G, hG⟩ : ∃ G, G = grownCap W (n + 1) c 9 := ⟨_, rfl⟩
  have hGn : n + 1 ≤ G := by rw [hG]; exact grownCap_ge W _ _ _
  have hGm : G ≤ maxLen := by rw [hG]; exact grownCap_le_maxLen W (n + 1) c 9 (by unfold maxLen; omega)
  obtain ⟨ROW, hROW⟩ : ∃ ROW : Array Value, ROW = (cs.take (i)).toArray ++ Builtin.zeroCells (Value.string ⟨#[]⟩).cells (n + 1 - i) ++ Builtin.zeroCells (Value.string ⟨#[]⟩).cells (G - (n + 1)) := ⟨_, rfl⟩
  rw [← hG] at hrz
  rw [← hROW] at hrz
  have hl1 : (cs.take (i)).length = i := by rw [List.length_take, hcl]; omega
  have hRl : ROW.size = G * 1 := by
    rw [hROW]
    simp only [Array.size_append, List.size_toArray, size_zeroCells, hzs, hl1]
    omega
  obtain ⟨W1, hW1⟩ : ∃ W1, W1 = W.drew.alloc (.cells ROW 9) := ⟨_, rfl⟩
  have hH1 : W1.heap[W.heap.size]? = some (.cells ROW 9 (0, 0)) := by rw [hW1]; exact blk_new W.drew (.cells ROW 9)
  have hm1 : W1.heap[m]? = some (.cells xcs.toArray 9 (0, 0)) := by rw [hW1]; exact blk_alloc (w := W.drew) hm _
  have hg1 : W1.heap[g]? = some (.cells cur 9 (0, 0)) := by rw [hW1]; exact blk_alloc (w := W.drew) hg _
  have hk1 : W.grownBy W1 (some g) := by rw [hW1]; exact grown_below (Below.alloc (Below.refl _ _).drew (Nat.le_refl _) _) _
  obtain ⟨ROW1, hR1⟩ : ∃ ROW1 : Array Value, ROW1 = (ROW.toList.take (i) ++ xcs ++ ROW.toList.drop (i + xcs.length)).toArray := ⟨_, rfl⟩
  have hR1l : ROW1.size = G * 1 := by rw [hR1]; simp [hx, hRl]; omega
  have hcpA : ∀ (U : World), U.heap = W1.heap → ∀ ty dc, (Builtin.copy_ #[26, 26] ty #[.slice (some ⟨W.heap.size, i, none⟩) (n + 1 - i) dc, .slice (some ⟨m, 0, none⟩) 1 1]).run Tryz.prog U = .ok (goInt 1) (U.setRow W.heap.size ROW1) := fun U hU ty dc => by
    rw [hR1]
    have hH' : U.heap[W.heap.size]? = some (.cells ROW 9 (0, 0)) := by rw [hU]; exact hH1
    have hm1' : U.heap[m]? = some (.cells xcs.toArray 9 (0, 0)) := by rw [hU]; exact hm1
    exact copy_rows U 26 26 ty 9 W.heap.size (i) (n + 1 - i) dc ⟨m, 0, none⟩ 1 1 1 1 ROW 9 xcs Tryz.underlying26 hsz8 hH' (by simp only [Nat.min_def]; split <;> omega) (by omega)
      (fun j v hj => by
        rw [show (⟨m, 0, none⟩ : Addr).add j = ⟨m, j, none⟩ by unfold Addr.add; split <;> simp_all, blk_cell hm1']
        simpa using hj)
      (by rw [hx, hRl]; omega) h1
  have hHN : g ≠ W.heap.size := by omega
  obtain ⟨ROW2, hR2⟩ : ∃ ROW2 : Array Value, ROW2 = (ROW1.toList.take (i + 1) ++ cs.drop (i) ++ ROW1.toList.drop ((i + 1) + (cs.drop (i)).length)).toArray := ⟨_, rfl⟩
  have hcpB : ∀ (U : World), U.heap = (W1.setRow W.heap.size ROW1).heap → ∀ ty dc sc, (Builtin.copy_ #[26, 26] ty #[.slice (some ⟨W.heap.size, (i + 1), none⟩) (n - i) dc, .slice (some ⟨g, i, none⟩) (n - i) sc]).run Tryz.prog U = .ok (goInt ((n - i : Nat) : Int)) (U.setRow W.heap.size ROW2) := fun U hU ty dc sc => by
    rw [hR2]
    have hH' : U.heap[W.heap.size]? = some (.cells ROW1 9 (0, 0)) := by rw [hU]; exact setRow_at hH1
    have hg' : U.heap[g]? = some (.cells cur 9 (0, 0)) := by rw [hU]; exact ((setRow_grown W1 W.heap.size ROW1).block g (Array.getElem?_eq_some_iff.1 hg1).1 (by simpa using hHN)).trans hg1
    exact copy_rows U 26 26 ty 9 W.heap.size (i + 1) (n - i) dc ⟨g, i, none⟩ (n - i) sc (n - i) 1 ROW1 9 (cs.drop (i)) Tryz.underlying26 hsz8 hH' (by simp only [Nat.min_def]; split <;> omega) hdl
      (fun j v hj => by
        rw [show (⟨g, i, none⟩ : Addr).add j = ⟨g, i + j, none⟩ by unfold Addr.add; split <;> simp_all, blk_cell hg']
        rw [List.getElem?_drop, ← htk, List.getElem?_take] at hj
        split at hj
        · simpa using hj
        · cases hj)
      (by rw [hdl, hR1l]; omega) (fun u hu => hone u (List.mem_of_mem_drop hu))
  have hF : ∀ U : World, U.heap = (W1.setRow W.heap.size ROW1).heap → U.os = W.os → U.tape = W.tape → U.output = W.output → InsT W base (n + 1) (.slice (some ⟨g, 0, none⟩) n c) (inst cs xcs i) (.returned (.slice (some ⟨W.heap.size, 0, none⟩) (n + 1) G)) (U.setRow W.heap.size ROW2) := by
    intro U hU ho ht hp
    have e1 : ROW.toList.take (i) = cs.take (i) := by
      rw [hROW]; simp only [Array.toList_append, List.append_assoc, List.toList_toArray]; rw [List.take_left' hl1]
    have e2 : ROW1.toList = (cs.take (i) ++ xcs) ++ ROW.toList.drop (i + xcs.length) := by rw [hR1, List.toList_toArray, e1]
    have hl2 : (cs.take (i) ++ xcs).length = (i + 1) := by rw [List.length_append, hl1, hx]
    have e3 : ROW2.toList = inst cs xcs i ++ ROW1.toList.drop ((i + 1) + (cs.drop (i)).length) := by
      rw [hR2, List.toList_toArray, e2, List.take_left' hl2]; unfold inst; rfl
    have hil : (inst cs xcs i).length = (n + 1) * 1 := by unfold inst; simp only [List.length_append, hl1, hx, hdl, Nat.sub_mul]; omega
    have hR2l : ROW2.size = G * 1 := by rw [hR2]; simp [hR1l, hcl]; omega
    have hH' : U.heap[W.heap.size]? = some (.cells ROW1 9 (0, 0)) := by rw [hU]; exact setRow_at hH1
    refine ⟨_, rfl, ⟨hil, .inr ⟨W.heap.size, G, ROW2, rfl, hbase, setRow_at hH', hGn, hGm, hR2l, by rw [e3, List.take_left' hil]⟩⟩, ⟨ho, ht, hp, ?_, fun k hk hn => ?_⟩, .inr rfl⟩
    · have h1 := (setRow_grown U W.heap.size ROW2).size
      have h2 := (setRow_grown W1 W.heap.size ROW1).size
      rw [← hU] at h2
      exact Nat.le_trans hk1.size (Nat.le_trans h2 h1)
    · have hkN : k ≠ W.heap.size := by omega
      have hkU : k < U.heap.size := by
        have h2 := (setRow_grown W1 W.heap.size ROW1).size
        rw [← hU] at h2
        have := hk1.size; omega
      have r1 := (setRow_grown U W.heap.size ROW2).block k hkU (by simpa using hkN)
      have r2 := (setRow_grown W1 W.heap.size ROW1).block k (by have := hk1.size; omega) (by simpa using hkN)
      rw [← hU] at r2
      have r3 : W1.heap[k]? = W.heap[k]? := by rw [hW1]; exact (Below.alloc (Below.refl W.heap.size W.drew) (Nat.le_refl _) (.cells ROW 9)).block k hk
      exact r1.trans (r2.trans r3)
  have hFF : ∀ U : World, Hid (U.heap = (W1.setRow W.heap.size ROW1).heap ∧ U.os = W.os ∧ U.tape = W.tape ∧ U.output = W.output → InsT W base (n + 1) (.slice (some ⟨g, 0, none⟩) n c) (inst cs xcs i) (.returned (.slice (some ⟨W.heap.size, 0, none⟩) (n + 1) G)) (U.setRow W.heap.size ROW2)) := fun U => Lib.hid (fun h => hF U h.1 h.2.1 h.2.2.1 h.2.2.2)
  subst hW1
  clear hF
  have hw1 : IntKind.i64.wrap ((i : Int) + 1) = (i : Int) + 1 := by rw [IntKind.wrap_i64]; omega
  have hz2' : ¬ ((i : Int) = (n : Int)) := by omega
  have hz3 : (c : Int) < (n : Int) + 1 := by omega
  have hb1 : (0 : Int) ≤ (i : Int) + 1 := by omega
  have hin : i ≤ n := by omega
  have htn : ((i : Int) + 1).toNat = i + 1 := by omega
  have hG63 : G ≤ 9223372036854775807 := by unfold maxLen at hGm; omega
  have hGi : ¬ (G = i) := by omega
  have hGim : ¬ (G = i + 1) := by omega
  have hci : ¬ (c = i) := by omega
  have hb3 : (i : Int) ≤ (n : Int) := by omega
  have mixed : Tryz.prog.follows .mixedOrders = true := by kernel_rfl
  clear hz0 hz1 hz2 hi0 hg hsz htk hcl hone hm hx h1 hg1 hm1 hdl hR1l hsz8 hk1 hH1 hl1 hRl hROW hG hold hkk hik hR1 hR2 hzs
  go_enter Tryz.func99, Tryz.ntmps99
  go_wp2_with (at_builtin; refine Lib.wpList_append_run _ rfl _ _ _ _ rfl _ _ rfl rfl _ _ (hrz _) ?_)
  rw [hcpA ((W.alloc (.cells ROW 9)).drew) rfl]
  go_wp2
  go_region_law_o (refine step_copy_runI rfl _ _ 26 26 rfl (.slice (some ⟨W.heap.size, (i + 1), none⟩) (n - i) (G - (i + 1))) (.slice (some ⟨g, i, none⟩) (n - i) (c - i)) (by simp [Act.eval, Act.put]) (by simp [Act.eval, Act.put]) (hcpB (((W.alloc (.cells ROW 9)).drew.setRow W.heap.size ROW1).drew) rfl 3 (G - (i + 1)) (c - i)) ?_)
  go_wp2
  go_ret
  exact (hFF _).out ⟨rfl, rfl, rfl, rfl⟩
theorem insT_calls {W : World} {base n i m : Nat} {v : Value} {cs xcs : List Value} (HO : W.ownsRow base 9 1 v n cs) (hone : ∀ u ∈ cs, u.oneCell' = true) (hi : i ≤ n) (hl : n ≤ 1000000) (hbase : base ≤ W.heap.size)
    (hm : W.heap[m]? = some (.cells xcs.toArray 9 (0, 0))) (hx : xcs.length = 1) (h1 : ∀ u ∈ xcs, u.oneCell' = true) (hmv : some m ≠ v.ownBlock) :
    Calls Tryz.prog 99 #[v, .int .i64 i, .slice (some ⟨m, 0, none⟩) 1 1] W (InsT W base (n + 1) v (inst cs xcs i)) := by
  obtain ⟨A, c, rfl⟩ := own_slice HO
  rcases Nat.lt_or_ge i n with h | h
  · rcases HO.2 with ⟨h0, h2⟩ | ⟨g, cap, cur, h0, hb, hg, hnc, hcm, hcs, htk⟩
    · omega
    · injection h0 with hA _ hc
      subst hA; subst hc
      rcases Nat.lt_or_ge c (n + 1) with hr | hr
      · exact insT_grow hbase hg hcs htk HO.1 hone h hnc hr hl hm hx h1
      · exact insT_shift hb hg hcs htk HO.1 hone h hr hcm hm hx h1 (fun e => hmv (by rw [e]; rfl))
  · obtain rfl : i = n := by omega
    rw [inst_end HO.1]
    exact insT_end HO hm hx h1 hl hbase
theorem reps_oneT {w : World} {base : Nat} {ok : Nat → Prop} {xs : List ByteArray} {cs : List Value} (h : Reps (Kd.string.M w base ok) Kd.string.sz xs cs) : ∀ u ∈ cs, u.oneCell' = true :=
  Kd.reps_one h (by decide) (fun _ _ hp => Kd.string.K_one (Kd.string.K_of_M hp))
theorem insT_R {W : World} {base i m : Nat} {ok okp : Nat → Prop} {v : Value} {xs : List ByteArray} {x : ByteArray} {xcs : List Value} (hR : Kd.string.R 9 W base ok v xs) (hM : Kd.string.M W base okp x xcs) (hokp : ∀ k, okp k → ok k ∧ some k ≠ v.ownBlock) (hfresh : ∀ k, W.heap.size ≤ k → ok k)
    (hi : i ≤ xs.length) (hl : xs.length ≤ 1000000) (hbase : base ≤ W.heap.size) (hm : W.heap[m]? = some (.cells xcs.toArray 9 (0, 0))) (hmv : some m ≠ v.ownBlock) :
    Calls Tryz.prog 99 #[v, .int .i64 i, .slice (some ⟨m, 0, none⟩) 1 1] W fun E w' => ∃ v1, E = .returned v1 ∧ Kd.string.R 9 w' base ok v1 (xs.take i ++ [x] ++ xs.drop i) ∧ W.grownBy w' v.ownBlock ∧ (v1.ownBlock = v.ownBlock ∨ v1.ownBlock = some W.heap.size) := by
  obtain ⟨h0, inner, hown, hr⟩ := hR
  have hx := Kd.string.K_len (Kd.string.K_of_M hM)
  refine (insT_calls hown (reps_oneT hr) hi hl hbase hm hx (Kd.string.K_one (Kd.string.K_of_M hM)) hmv).mono ?_
  rintro E w' ⟨v1, rfl, h1, h2, h3⟩
  refine ⟨v1, rfl, R_put h0 (inner := inst inner xcs i) ?_ hfresh ?_ h2 h3, h2, h3⟩
  · unfold inst
    have hT := Kd.reps_take (m := i) hr hi
    have hD := Kd.reps_drop (m := i) hr
    rw [show i * Kd.string.sz = i from Nat.mul_one i] at hT hD
    exact Kd.reps_append (Kd.reps_append hT (by
      have := (Reps.none (Kd.string.M W base (fun k => ok k ∧ some k ≠ v.ownBlock)) Kd.string.sz).snoc (p := x) (c := xcs) (Kd.string.M_mono hokp hM) hx
      simpa using this)) hD
  · have : (xs.take i ++ [x] ++ xs.drop i).length = xs.length + 1 := by simp; omega
    rw [this]; exact h1
end Js
end Go.Proofs.YtapcpndplnkfjaaGreatDoor
namespace Go.Proofs
open Go.Shelf Go.RowKit
set_option linter.unusedVariables false
def Tryz.lays262b_ren : Go.Shelf.Ren := ⟨fun | 26 => 63 | 33 => 91 | 34 => 92 | 38 => 116 | n => n, fun | 0 => 0 | 3 => 3 | 4 => 4 | 9 => 9 | 24 => 26 | 40 => 132 | n => n, fun | n => n⟩
theorem Tryz.lays262b : Go.Proofs.Lays2.n26 Tryz.prog Tryz.lays262b_ren := {
  mixed := by kernel_rfl
  f26 := Tryz.func63.trans (congrArg some (by kernel_rfl))
  f33 := Tryz.func91.trans (congrArg some (by kernel_rfl))
  f34 := Tryz.func92.trans (congrArg some (by kernel_rfl))
  f38 := Tryz.func116.trans (congrArg some (by kernel_rfl))
  t0 := Tryz.underlying0
  a0 := Tryz.isAgg0
  z0 := Tryz.sizeOf0
  v0 := Tryz.zeroValue0
  t3 := Tryz.underlying3
  a3 := Tryz.isAgg3
  z3 := Tryz.sizeOf3
  v3 := Tryz.zeroValue3
  t4 := Tryz.underlying4
  a4 := Tryz.isAgg4
  z4 := Tryz.sizeOf4
  v4 := Tryz.zeroValue4
  t9 := Tryz.underlying9
  a9 := Tryz.isAgg9
  z9 := Tryz.sizeOf9
  v9 := Tryz.zeroValue9
  t24 := Tryz.underlying26
  a24 := Tryz.isAgg26
  z24 := Tryz.sizeOf26
  v24 := Tryz.zeroValue26
  t40 := Tryz.underlying132
  a40 := Tryz.isAgg132
  z40 := Tryz.sizeOf132
  v40 := Tryz.zeroValue132
}
end Go.Proofs
namespace Go.Proofs.YtapcpndplnkfjaaGreatDoor
open Go.RowKit Go.Proofs.YtapcpndplnkfjaaGreatDoorW.PrintWords Go.Proofs.YtapcpndplnkfjaaGreatDoorW.PrintLast Go.Proofs.YtapcpndplnkfjaaGreatDoorW.PrintMore
set_option linter.unusedVariables false
set_option linter.unusedSimpArgs false
namespace Js
def pos (ns : List ByteArray) (x : ByteArray) : Nat := Lib.bsGo (fun t => Op.bytesLess (ns.getD t ⟨#[]⟩).toList x.toList) ns.length 0 ns.length
def has (ns : List ByteArray) (x : ByteArray) : Bool := decide (pos ns x < ns.length ∧ ns.getD (pos ns x) ⟨#[]⟩ = x)
theorem search_calls {w : World} {base : Nat} {ok : Nat → Prop} {v : Value} {ns : List ByteArray} (x : ByteArray) (hR : Kd.string.R 9 w base ok v ns) (hl : ns.length ≤ 1000000) :
    Calls Tryz.prog 63 #[v, .string x] w fun E w' => E = .returned (.tuple #[.int .i64 (pos ns x : Nat), .bool (has ns x)]) ∧ ∃ q, w' = w.drewN q := by
  obtain ⟨A, c, hv, hlc, hC⟩ := Kd.R_reads hR
  obtain ⟨inner, hown⟩ := Kd.R_own hR
  rcases hown.2 with ⟨h0, h2⟩ | ⟨g, cap, cur, h0, hb, hg, hnc, hcm, hcs, htk⟩
  · have : ns = [] := List.eq_nil_of_length_eq_zero h2
    subst this; subst h0
    exact (Any2.slices_BinarySearch_string_empty Tryz.lays262b none 0 x w).mono fun e w' hh => ⟨hh.1.trans rfl, 0, hh.2⟩
  · subst h0
    refine (Any2.slices_BinarySearch_string Tryz.lays262b g 0 ns.length cap (fun t => ns.getD t ⟨#[]⟩) x w (by omega) (fun j hj => ?_)).mono fun e w' hh => ⟨hh.1, hh.2⟩
    injection hv with hA _ _
    obtain ⟨ad, cc, e, _, hK, hc0⟩ := Kd.C_get hC ⟨#[]⟩ j (by omega) (by omega)
    rw [← hA] at e
    injection e with e
    subst e
    have hk : cc = [.string (ns.getD j ⟨#[]⟩)] := hK
    have h := hc0 0 (.string (ns.getD j ⟨#[]⟩)) (by rw [hk]; rfl)
    rw [show (⟨g, 0, none⟩ : Addr).add (((j : Int)).toNat * Kd.string.sz + 0) = ⟨g, 0 + j, none⟩ by
      have e1 : ((j : Int)).toNat * Kd.string.sz + 0 = j := by rw [Int.toNat_natCast]; exact Nat.mul_one j
      rw [e1]; unfold Addr.add; split <;> simp_all] at h
    exact h
theorem bs_le (less : Nat → Bool) : ∀ (f lo hi : Nat), lo ≤ hi → Lib.bsGo less f lo hi ≤ hi
  | 0, lo, hi, h => by simp [Lib.bsGo]; exact h
  | f + 1, lo, hi, h => by
    unfold Lib.bsGo
    split
    · split
      · exact bs_le less f _ hi (by omega)
      · exact Nat.le_trans (bs_le less f lo _ (by omega)) (by omega)
    · exact h
theorem pos_le (ns : List ByteArray) (x : ByteArray) : pos ns x ≤ ns.length := bs_le _ _ _ _ (Nat.zero_le _)
end Js
end Go.Proofs.YtapcpndplnkfjaaGreatDoor
namespace Go.Proofs.YtapcpndplnkfjaaGreatDoor
open Go.RowKit Go.Proofs.YtapcpndplnkfjaaGreatDoorW.PrintWords Go.Proofs.YtapcpndplnkfjaaGreatDoorW.PrintLast Go.Proofs.YtapcpndplnkfjaaGreatDoorW.PrintMore
set_option linter.unusedVariables false
set_option linter.unusedSimpArgs false
namespace Js
def okText (okE : S → Prop) (esc : S → List UInt8 × S) (a : S) : Prop := a.s ≠ [] ∧ a.s.length ≤ 1000000 ∧ (∀ b, b.e = 0 → b.o = a.o → b.s.length ≤ 1000000 → okE b) ∧ ∀ b, okE b → (esc b).2.o = b.o
def textF (esc : S → List UInt8 × S) (a : S) : S28 × S := (⟨3, false, z24, ofL (a.str esc).1, [], []⟩, (a.str esc).2)
theorem text_calls {okE : S → Prop} {esc : S → List UInt8 × S} (HE : ECalls okE esc) (HG : GoodE okE esc) : VCalls 67 (okText okE esc) (textF esc) := by
  intro w w1 g a h hok
  obtain ⟨hs, hl, hok1, hoo⟩ := hok
  have H := Lib.hid h
  have HA : Hid _ := Lib.hid (str_calls HE HG (H.out.below (Below.alloc (Below.refl _ _) (Nat.le_refl _) (.cells zA 28))).now hs hl hok1 hoo)
  obtain ⟨R, hR⟩ : ∃ R, a.str esc = R := ⟨_, rfl⟩
  have hT : textF esc a = (⟨3, false, z24, ofL R.1, [], []⟩, R.2) := by rw [textF, hR]
  rw [hR] at HA
  rw [hT]
  clear h hs hl hok1 hoo hT hR
  go_enter Tryz.func67, Tryz.ntmps67
  go_wp2_with fail
  refine HA.out.mono ?_
  rintro E w2 ⟨rfl, h2⟩
  have HR := Lib.hid (h2.keep (blk_new w1 _) (Nat.ne_of_gt H.out.lt))
  have H2 := Lib.hid ((H.out.below (Below.alloc (Below.refl _ _) (Nat.le_refl _) _)).trans h2)
  clear h2
  go_wp2_with (refine row_event rfl 28 (.tmp 2) (.tmp 5) rfl w1.heap.size _ rfl rfl 28 _ HR.out (by kernel_rfl) rfl rfl ?_; intro w3 hr3 hk3)
  have h3 := H2.out.far hk3 (Nat.ne_of_gt H.out.lt) H.out.kp.size
  exact bodyPost_ret (results_cell_row rfl _ _ w1.heap.size 28 _ (0, 0) _ rfl hr3 Tryz.underlying28 rfl (by kernel_rfl)) rfl ⟨_, rfl, Jv.flat w3 _ (S28.mk 3 false z24 (ofL R.1) [] []) rfl rfl, h3⟩
end Js
end Go.Proofs.YtapcpndplnkfjaaGreatDoor
namespace Go.Proofs.YtapcpndplnkfjaaGreatDoor
open Go.RowKit Go.Proofs.YtapcpndplnkfjaaGreatDoorW.PrintWords Go.Proofs.YtapcpndplnkfjaaGreatDoorW.PrintLast Go.Proofs.YtapcpndplnkfjaaGreatDoorW.PrintMore
set_option linter.unusedVariables false
set_option linter.unusedSimpArgs false
namespace Js
def hexS : ByteArray := ⟨#[48, 49, 50, 51, 52, 53, 54, 55, 56, 57, 97, 98, 99, 100, 101, 102]⟩
set_option maxRecDepth 100000 in
set_option maxHeartbeats 4000000 in
theorem valid_calls (c : Nat) (hc : c ≤ 2147483647) (w : World) : Calls Tryz.prog 169 #[.int .i32 c] w fun E w' => E = .returned (.bool (Utf8.valid c)) ∧ w' = w := by
  have q0 : (0 : Int) ≤ (c : Int) := by omega
  have qm : (c : Int) ≤ 2147483647 := by omega
  by_cases h1 : c < 55296
  · have hv : Utf8.valid c = true := by simp [Utf8.valid]; omega
    have q1 : (c : Int) < 55296 := by omega
    rw [hv]
    go_enter Tryz.func169, Tryz.ntmps169
    go_wp2_with fail
    go_ret
    exact ⟨rfl, rfl⟩
  · by_cases h2 : c ≤ 57343
    · have hv : Utf8.valid c = false := by simp [Utf8.valid]; omega
      have q1 : ((c : Int) < 55296) = False := by simp; omega
      have q2 : ((57343 : Int) < (c : Int)) = False := by simp; omega
      rw [hv]
      go_enter Tryz.func169, Tryz.ntmps169
      go_wp2_with fail
      go_ret
      exact ⟨rfl, rfl⟩
    · by_cases h3 : c ≤ 1114111
      · have hv : Utf8.valid c = true := by simp [Utf8.valid]; omega
        have q1 : ((c : Int) < 55296) = False := by simp; omega
        have q2 : ((57343 : Int) < (c : Int)) = True := by simp; omega
        have q3 : (c : Int) ≤ 1114111 := by omega
        rw [hv]
        go_enter Tryz.func169, Tryz.ntmps169
        go_wp2_with fail
        go_ret
        exact ⟨rfl, rfl⟩
      · have hv : Utf8.valid c = false := by simp [Utf8.valid]; omega
        have q1 : ((c : Int) < 55296) = False := by simp; omega
        have q2 : ((57343 : Int) < (c : Int)) = True := by simp; omega
        have q3 : ((c : Int) ≤ 1114111) = False := by simp; omega
        rw [hv]
        go_enter Tryz.func169, Tryz.ntmps169
        go_wp2_with fail
        go_ret
        exact ⟨rfl, rfl⟩
theorem hex_plain : ∀ k : Fin 16, (Utf8.decode hexS k).1 ≠ 65533 ∧ (Utf8.decode hexS k).2 = 1 ∧ (Utf8.decode hexS k).1 < 128 := by decide
theorem enc_two (c : Nat) (h : 128 ≤ c) : ∃ E : ByteArray, Utf8.encode c = E ∧ ∃ b0 b1 b2 b3 : UInt8, (E = ⟨#[b0, b1]⟩ ∧ 128 ≤ b1.toNat) ∨ (E = ⟨#[b0, b1, b2]⟩ ∧ 128 ≤ b2.toNat) ∨ (E = ⟨#[b0, b1, b2, b3]⟩ ∧ 128 ≤ b3.toNat) := by
  refine ⟨_, rfl, ?_⟩
  simp only [Utf8.encode]
  generalize hd : (if Utf8.valid c = true then (c : Int).toNat else Utf8.runeError) = d
  have h1 : 128 ≤ d := by rw [← hd]; split <;> simp [Utf8.runeError] <;> omega
  rw [if_neg (by omega)]
  split
  · exact ⟨_, _, 0, 0, .inl ⟨rfl, by simp [UInt8.toNat_ofNat']; omega⟩⟩
  split
  · exact ⟨_, _, _, 0, .inr (.inl ⟨rfl, by simp [UInt8.toNat_ofNat']; omega⟩)⟩
  · exact ⟨_, _, _, _, .inr (.inr ⟨rfl, by simp [UInt8.toNat_ofNat']; omega⟩)⟩
theorem idx_none (b : UInt8) (h : 128 ≤ b.toNat) : ∀ l : List UInt8, (∀ x ∈ l, x.toNat < 128) → Lib.indexByte l b = -1
  | [], _ => rfl
  | x :: l, hl => by
    have h1 := idx_none b h l (fun y hy => hl y (List.mem_cons_of_mem _ hy))
    have h2 := hl x (List.mem_cons_self)
    have h3 : (x == b) = false := by
      simp
      intro e
      rw [e] at h2
      omega
    simp [Lib.indexByte, h1, h3]
theorem hex_low : ∀ x ∈ hexS.data.toList, x.toNat < 128 := by decide
theorem hex_drop (n : Nat) (b : UInt8) (h : 128 ≤ b.toNat) : strings_IndexByte.f (hexS.extract n 16) b.toNat = some (-1) := by
  unfold strings_IndexByte.f
  rw [idx_none _ (by simp; exact h)]
  intro x hx
  simp at hx
  exact hex_low x (List.mem_of_mem_drop (List.mem_of_mem_take hx))
set_option maxRecDepth 100000 in
set_option maxHeartbeats 8000000 in
theorem index_at (s E : ByteArray) (c l : Nat) (w : World) (hm : c ≤ 2147483647) (q1 : ((c : Int) < 128) = False) (q2 : ((c : Int) == 65533) = false) (h2 : Utf8.valid c = true)
    (hE : Utf8.encode c = E) (hl : (E.size : Int) - 1 = l) (hl3 : (l : Int) ≤ 3) (hz : (s.size : Int) ≤ 1000) (hk1 : l < s.size) (hk2 : l < E.size)
    (hkI : (l : Int) < (s.size : Int)) (hkJ : (l : Int) + 1 ≤ (s.size : Int)) (hkE : (l : Int) < (E.size : Int)) (q5 : (((s[l]'hk1).toNat : Int) != ((E[l]'hk2).toNat : Int)) = true)
    (HX : Hid (Lib.indexByte (s.extract (l + 1) s.size).data.toList ((E[l]'hk2).toNat : Int).toNat.toUInt8 = -1)) :
    Calls Tryz.prog 154 #[.string s, .int .i32 c] w fun E w' => E = .returned (.int .i64 (-1)) ∧ Below w.heap.size w w' := by
  have q0 : ((0 : Int) ≤ (c : Int)) = True := by simp
  have qm : (c : Int) ≤ 2147483647 := by omega
  have HM := Lib.hid hm
  clear hm
  go_enter Tryz.func154, Tryz.ntmps154
  go_wp2_with fail
  refine (valid_calls c HM.out _).mono ?_
  rintro E' w2 ⟨rfl, rfl⟩
  rw [h2]
  go_wp2_with fail
  refine wp_scope_straight ?_
  go_wp2_with fail
  refine wp_loop_rounds 1 ?_
  rw [rounds_succ]
  go_wp2_with fail
  refine wp_scope_straight ?_
  go_wp2_with fail
  go_region
  go_wp2_with fail
  have hw : IntKind.i64.wrap ((l : Int) + 1) = (l : Int) + 1 := by simp [IntKind.wrap, IntKind.bits, IntKind.signed]; omega
  have hw0 : (0 : Int) ≤ (l : Int) + 1 := by omega
  have hw1 : ((l : Int) + 1).toNat = l + 1 := by omega
  go_region_held3 (fun w' => Below w2.heap.size w2 w') (first | assumption | exact (Below.refl _ _).drew | exact ((Below.refl _ _).drew).drew | go_keep)
    (first | (go_at_call 147; refine (Tryz.strings_IndexByte _ _ _).mono ?_; rintro e w3 ⟨rfl, rfl⟩; rw [HX.out]))
  clear hw hw0 hw1
  go_wp2_with fail
  unfold Exit.noGoto
  go_ret
  exact ⟨rfl, by assumption⟩
set_option maxRecDepth 100000 in
set_option maxHeartbeats 8000000 in
theorem index_ill (s : ByteArray) (c : Nat) (w : World) (hm : c ≤ 2147483647) (q1 : ((c : Int) < 128) = False) (q2 : ((c : Int) == 65533) = false) (h2 : Utf8.valid c = false) :
    Calls Tryz.prog 154 #[.string s, .int .i32 c] w fun E w' => E = .returned (.int .i64 (-1)) ∧ Below w.heap.size w w' := by
  have q0 : ((0 : Int) ≤ (c : Int)) = True := by simp
  have qm : (c : Int) ≤ 2147483647 := by omega
  have HM := Lib.hid hm
  clear hm
  go_enter Tryz.func154, Tryz.ntmps154
  go_wp2_with fail
  refine (valid_calls c HM.out _).mono ?_
  rintro E' w2 ⟨rfl, rfl⟩
  rw [h2]
  go_wp2_with fail
  go_ret
  exact ⟨rfl, Below.refl _ _⟩
set_option maxRecDepth 100000 in
set_option maxHeartbeats 8000000 in
theorem index_err (s : ByteArray) (w : World) (hz : s.size ≤ 1000000) (hs : ∀ k < s.size, (Utf8.decode s k).1 ≠ 65533) :
    Calls Tryz.prog 154 #[.string s, .int .i32 65533] w fun E w' => E = .returned (.int .i64 (-1)) ∧ Below w.heap.size w w' := by
  have HS := Lib.hid hs
  have HZ := Lib.hid hz
  clear hs hz
  go_enter Tryz.func154, Tryz.ntmps154
  go_wp2_with fail
  go_loopg [] (s.size + 1) (fun gk wr => ∃ k, gk = s.size + 1 - k ∧ Hid (wr.heap[w.heap.size]? = some (.stringIter s k)) ∧ Hid (Below w.heap.size w wr))
  case atStart => exact ⟨0, by omega, Lib.hid (w.iter_heap s 0), Lib.hid (Below.alloc (Below.refl _ _) (Nat.le_refl _) _)⟩
  case round =>
    obtain ⟨k, rfl, HIT, HB⟩ := hrel
    by_cases hk : k < s.size
    · have HADV := Lib.hid (decode_adv s k)
      have hkI : (k : Int) ≤ 1000000 := by have := HZ.out; omega
      have HK := Lib.hid hk
      have hne := HS.out k hk
      clear hk
      obtain ⟨d, hd⟩ : ∃ d, (Utf8.decode s k).1 = d := ⟨_, rfl⟩
      have hd3 : (d : Int) ≤ 2147483647 := by rw [← hd]; have := decode_le s k; omega
      have HD := Lib.hid hd
      clear hd
      rw [HD.out] at hne
      have q4 : ((d : Int) == 65533) = false := by simp; omega
      clear hne
      go_wp2_with (refine next_more rfl (.tmp 175) rfl w.heap.size s k HIT.out rfl HK.out ?_; intro w2 hi2 hk2; rw [HD.out])
      have hb2 := HB.out.grown hk2 HB.out.size (fun i e => Nat.le_of_eq (Option.some.inj e))
      go_roundg (s.size + 1 - (k + (Utf8.decode s k).2))
      case measure => have := HADV.out; have := HK.out; omega
      case rel => exact ⟨_, rfl, Lib.hid hi2, Lib.hid hb2⟩
    · have HK := Lib.hid hk
      clear hk
      go_wp2_with (refine next_over rfl (.tmp 175) rfl w.heap.size s k HIT.out rfl HK.out ?_)
      go_ret
      exact ⟨rfl, HB.out⟩
theorem index_high (c : Nat) (w : World) (hc : 128 ≤ c) (hm : c ≤ 2147483647) :
    Calls Tryz.prog 154 #[.string hexS, .int .i32 c] w fun E w' => E = .returned (.int .i64 (-1)) ∧ Below w.heap.size w w' := by
  have q1 : ((c : Int) < 128) = False := by simp; omega
  by_cases h1 : c = 65533
  · subst h1
    exact index_err hexS w (by decide) (fun k hk => (hex_plain ⟨k, hk⟩).1)
  · have q2 : ((c : Int) == 65533) = false := by simp; omega
    cases h2 : Utf8.valid c with
    | false => exact index_ill hexS c w hm q1 q2 h2
    | true =>
      obtain ⟨E, hE, b0, b1, b2, b3, hcs⟩ := enc_two c hc
      have hf : ∀ (x : Nat) (b : UInt8), x < 128 → 128 ≤ b.toNat → ((x : Int) != (b.toNat : Int)) = true := fun x b hx hb => by simp; omega
      have hg : ∀ (n : Nat) (b : UInt8), 128 ≤ b.toNat → Hid (Lib.indexByte (hexS.extract n hexS.size).data.toList ((b.toNat : Int)).toNat.toUInt8 = -1) := fun n b hb => Lib.hid (Option.some.inj (hex_drop n b hb))
      rcases hcs with ⟨rfl, hb⟩ | ⟨rfl, hb⟩ | ⟨rfl, hb⟩
      · exact index_at hexS _ c 1 w hm q1 q2 h2 hE rfl (by decide) (by decide) (by decide) (by show 1 < 2; decide) (by decide) (by decide) (by show (1 : Int) < 2; decide) (hf 49 _ (by decide) hb) (hg 2 _ hb)
      · exact index_at hexS _ c 2 w hm q1 q2 h2 hE rfl (by decide) (by decide) (by decide) (by show 2 < 3; decide) (by decide) (by decide) (by show (2 : Int) < 3; decide) (hf 50 _ (by decide) hb) (hg 3 _ hb)
      · exact index_at hexS _ c 3 w hm q1 q2 h2 hE rfl (by decide) (by decide) (by decide) (by show 3 < 4; decide) (by decide) (by decide) (by show (3 : Int) < 4; decide) (hf 51 _ (by decide) hb) (hg 4 _ hb)
end Js
end Go.Proofs.YtapcpndplnkfjaaGreatDoor
namespace Go.Proofs.YtapcpndplnkfjaaGreatDoor
open Go.RowKit Go.Proofs.YtapcpndplnkfjaaGreatDoorW.PrintWords Go.Proofs.YtapcpndplnkfjaaGreatDoorW.PrintLast Go.Proofs.YtapcpndplnkfjaaGreatDoorW.PrintMore
set_option linter.unusedVariables false
set_option linter.unusedSimpArgs false
namespace Js
def hexI (c : Nat) : Int := if c < 128 then Lib.indexByte hexS.data.toList c.toUInt8 else -1
theorem index_calls (c : Nat) (w : World) (hm : c ≤ 2147483647) :
    Calls Tryz.prog 154 #[.string hexS, .int .i32 c] w fun E w' => E = .returned (.int .i64 (hexI c)) ∧ Below w.heap.size w w' := by
  unfold hexI
  split
  · rename_i h
    exact (Tryz.strings_IndexRune_ascii hexS c w (by omega) (by omega)).mono fun e w' hh => ⟨hh.1, by rw [hh.2]; exact Below.refl _ _⟩
  · exact index_high c w (by omega) hm
set_option maxRecDepth 10000 in
theorem hexI_b (c : Nat) : -1 ≤ hexI c ∧ hexI c ≤ 15 := by
  unfold hexI
  split
  · refine ⟨Lib.indexByte_ge _ _, ?_⟩
    rename_i h
    have : ∀ i : Fin 128, Lib.indexByte hexS.data.toList i.val.toUInt8 ≤ 15 := by decide
    exact this ⟨c, h⟩
  · omega
theorem mapGoD_length (f : Int → Int) : ∀ (n : Nat) (l : List UInt8), (Lib.mapGoD f n l).length ≤ 4 * n
  | 0, l => by simp [Lib.mapGoD]
  | n + 1, l => by
    unfold Lib.mapGoD
    split
    · simp
    · have := mapGoD_length f n (l.drop (Lib.decodeL l).2)
      have h4 : ∀ r, (Lib.encodeRune r).length ≤ 4 := fun r => by
        unfold Lib.encodeRune; rw [List.length_map]; exact Lib.encodeRuneZ_length_le r
      rw [List.length_append]
      split
      · have := h4 (f (Lib.decodeL l).1); omega
      · simp; omega
def stepI (x i : Int) : Int := bits .or .i32 (wrap32 (x * 16)) i
def fourLoop (s : ByteArray) : Nat → Nat → Int → Option Int
  | 0, _, _ => none
  | n + 1, k, x => if k < s.size then if hexI (Utf8.decode s k).1 < 0 then none else fourLoop s n (k + (Utf8.decode s k).2) (stepI x (hexI (Utf8.decode s k).1)) else some x
def S.low (a : S) : ByteArray := ofL (Lib.toLowerD (a.s.take 4))
def fourV (a : S) : Option Int → Int × S
  | none => (0, a.fail 11)
  | some x => (x, { a with s := a.s.drop 4 })
def S.four (a : S) : Int × S := if a.s.length < 4 then (0, a.fail 11) else fourV a (fourLoop a.low (a.low.size + 1) 0 0)
set_option maxRecDepth 100000 in
set_option maxHeartbeats 8000000 in
theorem four_calls {w w1 : World} {g : Nat} {a : S} (h : Rd w w1 g a) (hl : a.s.length ≤ 1000000) :
    Calls Tryz.prog 161 #[.pointer (some ⟨g, 0, none⟩)] w1 fun E w' => E = .returned (.int .i32 a.four.1) ∧ Rd w w' g a.four.2 := by
  have H := Lib.hid h
  have c0 := h.c0
  have HL := Lib.hid hl
  by_cases h4 : a.s.length < 4
  · have hi : ((ofL a.s).size : Int) < 4 := by rw [ofL_size]; omega
    have HR : Hid (a.four = (0, a.fail 11)) := Lib.hid (by unfold S.four; rw [if_pos h4])
    rw [HR.out]
    clear h h4 hl
    go_enter Tryz.func161, Tryz.ntmps161
    go_wp2_with fail
    refine (fail_calls H.out.now 11).mono ?_
    rintro E w2 ⟨rfl, h2⟩
    have h2 := H.out.trans h2
    go_wp2_with fail
    go_ret
    exact ⟨rfl, h2⟩
  · have hi : (4 : Int) ≤ ((ofL a.s).size : Int) := by rw [ofL_size]; omega
    have hi2 : ((ofL a.s).size : Int) ≤ 1000000 := by rw [ofL_size]; omega
    have HX : Hid ((ofL a.s).extract 0 4 = ofL (a.s.take 4)) := Lib.hid (by rw [ofL_ext]; simp)
    obtain ⟨R, hR⟩ : ∃ R, a.four = R := ⟨_, rfl⟩
    have HR : Hid (fourV a (fourLoop a.low (a.low.size + 1) 0 0) = R) := Lib.hid (by rw [← hR]; unfold S.four; rw [if_neg h4])
    have HT := Lib.hid h.tb.tabs
    have hlow : (ofL (Lib.toLowerD (ofL (a.s.take 4)).data.toList)) = a.low := rfl
    have HLOW := Lib.hid hlow
    rw [hR]
    clear h h4 hl hR hlow
    go_enter Tryz.func161, Tryz.ntmps161
    go_wp2_with fail
    rw [HX.out]
    refine (Any.strings_ToLower_any Tryz.lays159 Tryz.Builder_Extra_159 _ _ (by rw [ofL_size]; simp; omega) HT.out.cv HT.out.u8).mono ?_
    rintro E w2 ⟨rfl, hb2⟩
    have hE : (⟨(Lib.toLowerD (ofL (a.s.take 4)).data.toList).toArray⟩ : ByteArray) = a.low := HLOW.out
    rw [hE]
    have HLZ : Hid (a.low.size ≤ 16) := Lib.hid (by unfold S.low; rw [ofL_size]; unfold Lib.toLowerD Lib.mapD; have := mapGoD_length Lib.toLowerU (a.s.take 4).length (a.s.take 4); simp at this ⊢; omega)
    have H2 := Lib.hid (H.out.below hb2)
    obtain ⟨s, hs⟩ : ∃ s, a.low = s := ⟨_, rfl⟩
    rw [hs] at HLZ HR ⊢
    obtain ⟨B, hB⟩ : ∃ B, w2.heap.size = B := ⟨_, rfl⟩
    have HB := Lib.hid hB
    have HGB : Hid (g < B ∧ w.heap.size ≤ B) := Lib.hid ⟨by rw [← hB]; exact H2.out.lt, by rw [← hB]; exact H2.out.kp.size⟩
    have H3 : Hid (Rd w (w2.alloc (.stringIter s 0)) g a) := Lib.hid (H2.out.below (Below.alloc (Below.refl _ _) (Nat.le_refl _) _))
    have HI3 : Hid ((w2.alloc (.stringIter s 0)).heap[B]? = some (.stringIter s 0)) := Lib.hid (by rw [← hB]; exact w2.iter_heap s 0)
    clear hE hb2 HX HT HLOW hs c0 H2 hB
    go_wp2_with fail
    rw [HB.out]
    go_loopg [3] (s.size + 1) (fun gk v3 wr => ∃ (k n : Nat) (x : Int), gk = s.size + 1 - k ∧ v3 = .int .i32 x ∧ (s.size < n + k ∧ 1 ≤ n) ∧ Hid (wr.heap[B]? = some (.stringIter s k)) ∧ Hid (Rd w wr g a) ∧ Hid (fourV a (fourLoop s n k x) = R))
    case atStart => exact ⟨0, s.size + 1, 0, by omega, rfl, ⟨by omega, by omega⟩, HI3, H3, HR⟩
    case round =>
      obtain ⟨k, n, x, rfl, rfl, hn, HIT, H, HF⟩ := hrel
      have HN := Lib.hid hn
      clear hn H3 HI3 HR
      by_cases hk : k < s.size
      · have HADV := Lib.hid (decode_adv s k)
        have hkI : (k : Int) ≤ 1000000 := by have := HLZ.out; omega
        have HF2 : Hid (fourV a (if hexI (Utf8.decode s k).1 < 0 then none else fourLoop s (n - 1) (k + (Utf8.decode s k).2) (stepI x (hexI (Utf8.decode s k).1))) = R) := Lib.hid (by
          have hf := HF.out
          obtain ⟨n', rfl⟩ : ∃ n', n = n' + 1 := ⟨n - 1, by have := HN.out; omega⟩
          rw [fourLoop, if_pos hk] at hf
          exact hf)
        have HK := Lib.hid hk
        clear hk HF
        obtain ⟨d, hd⟩ : ∃ d, (Utf8.decode s k).1 = d := ⟨_, rfl⟩
        have hd3 : (d : Int) ≤ 2147483647 := by rw [← hd]; have := decode_le s k; omega
        have HD := Lib.hid hd
        clear hd
        rw [HD.out] at HF2
        have hb := hexI_b d
        have hcc : hexS = ⟨#[48, 49, 50, 51, 52, 53, 54, 55, 56, 57, 97, 98, 99, 100, 101, 102]⟩ := rfl
        have HC := Lib.hid hcc
        clear hcc
        go_wp2_with (refine next_more rfl (.tmp 21) rfl B s k HIT.out rfl HK.out ?_; intro w4 hi4 hk4; rw [HD.out])
        have H4 : Hid (Rd w w4 g a) := Lib.hid (H.out.far hk4 (by have := HGB.out; omega) HGB.out.2)
        have HI4 := Lib.hid hi4
        clear hk4 hi4
        rw [← HC.out]
        refine (index_calls d _ (by omega)).mono ?_
        rintro E w5 ⟨rfl, hb5⟩
        have HI5 : Hid (w5.heap[B]? = some (.stringIter s (k + (Utf8.decode s k).2))) := Lib.hid ((hb5.block B (Array.getElem?_eq_some_iff.1 HI4.out).1).trans HI4.out)
        have H5 := Lib.hid (H4.out.below hb5)
        clear hb5 H4 HI4
        obtain ⟨i, hi⟩ : ∃ i, hexI d = i := ⟨_, rfl⟩
        rw [hi] at HF2 hb ⊢
        have HHI := Lib.hid hi
        clear hi H HIT
        by_cases h0 : i < 0
        · have HRR : Hid (fourV a none = R) := Lib.hid (by have := HF2.out; rw [if_pos h0] at this; exact this)
          go_wp2_with fail
          refine (fail_calls H5.out.now 11).mono ?_
          rintro E w6 ⟨rfl, h6⟩
          have h6 := H5.out.trans h6
          go_wp2_with fail
          go_ret
          exact ⟨by rw [← HRR.out]; rfl, by rw [← HRR.out]; exact h6⟩
        · have HRR : Hid (fourV a (fourLoop s (n - 1) (k + (Utf8.decode s k).2) (stepI x i)) = R) := Lib.hid (by have := HF2.out; rw [if_neg h0] at this; exact this)
          have h0' : (0 : Int) ≤ i := by omega
          have hi15 : i ≤ 15 := hb.2
          clear h0 hb
          go_wp2_with fail
          go_roundg (s.size + 1 - (k + (Utf8.decode s k).2))
          case measure => have := HADV.out; have := HK.out; omega
          case rel => exact ⟨_, n - 1, _, rfl, rfl, by have := HADV.out; have := HN.out; have := HK.out; exact ⟨by omega, by omega⟩, HI5, H5, HRR⟩
      · have HRR : Hid (fourV a (some x) = R) := Lib.hid (by
          have hf := HF.out
          obtain ⟨n', rfl⟩ : ∃ n', n = n' + 1 := ⟨n - 1, by have := HN.out; omega⟩
          rw [fourLoop, if_neg hk] at hf
          exact hf)
        have HK := Lib.hid hk
        clear hk HF
        have c0 := H.out.c0
        have f0 := H.out.fz 0
        have HX2 : Hid ((ofL a.s).extract 4 (ofL a.s).size = ofL (a.s.drop 4)) := Lib.hid (by rw [ofL_ext, ofL_size, List.take_length])
        have h9 := H.out.s0 (a.s.drop 4)
        have HH9 := Lib.hid h9
        clear h9
        go_wp2_with (refine next_over rfl (.tmp 21) rfl B s k HIT.out rfl HK.out ?_)
        rw [HX2.out]
        go_ret
        exact ⟨by rw [← HRR.out]; rfl, by rw [← HRR.out]; exact HH9.out⟩
end Js
end Go.Proofs.YtapcpndplnkfjaaGreatDoor
namespace Go.Proofs.YtapcpndplnkfjaaGreatDoor
open Go.RowKit Go.Proofs.YtapcpndplnkfjaaGreatDoorW.PrintWords Go.Proofs.YtapcpndplnkfjaaGreatDoorW.PrintLast Go.Proofs.YtapcpndplnkfjaaGreatDoorW.PrintMore
set_option linter.unusedVariables false
set_option linter.unusedSimpArgs false
namespace Js
theorem ofL_bytes (b : ByteArray) : ofL b.data.toList = b := by cases b; simp [ofL]
def encL (x : Int) : List UInt8 := (Utf8.encode x).data.toList
theorem ofL_enc (x : Int) : ofL (encL x) = Utf8.encode x := ofL_bytes _
theorem encL_len (x : Int) : (encL x).length ≤ 4 := by
  unfold encL Utf8.encode
  simp only []
  generalize (if Utf8.valid x = true then x.toNat else Utf8.runeError) = c
  by_cases h1 : c < 128
  · rw [if_pos h1]; simp
  rw [if_neg h1]
  by_cases h2 : c < 2048
  · rw [if_pos h2]; simp
  rw [if_neg h2]
  by_cases h3 : c < 65536
  · rw [if_pos h3]; simp
  · rw [if_neg h3]; simp
theorem fail_s (a : S) (x : Int) : (a.fail x).s = a.s := by unfold S.fail; split <;> rfl
theorem fail_o (a : S) (x : Int) : (a.fail x).o = a.o := by unfold S.fail; split <;> rfl
theorem four_len (a : S) : a.four.2.s.length ≤ a.s.length := by
  unfold S.four
  split
  · rw [fail_s]
    exact Nat.le_refl _
  · cases fourLoop a.low (a.low.size + 1) 0 0 with
    | none => simp [fourV, fail_s]
    | some x => simp [fourV]
theorem four_o (a : S) : a.four.2.o = a.o := by
  unfold S.four
  split
  · rw [fail_o]
  · cases fourLoop a.low (a.low.size + 1) 0 0 with
    | none => simp [fourV, fail_o]
    | some x => rfl
def signX (x y : Int) : Int := wrap32 (wrap32 (65536 + (x - 55296) * 1024 + y) - 56320)
def S.pre (a : S) : S := { a with s := Lib.trimPrefix a.s [92, 117] }
def S.sgn (x : Int) (c : S) : List UInt8 × S := (encL (signX x c.four.1), if c.four.1 < 56320 ∨ 57343 < c.four.1 then c.four.2.fail 11 else c.four.2)
def S.sign (a : S) : List UInt8 × S :=
  if a.four.1 < 55296 ∨ 57343 < a.four.1 then (encL a.four.1, a.four.2) else
  if 56320 ≤ a.four.1 ∨ Lib.hasPrefix a.four.2.s [92, 117] = false then ([], a.four.2.fail 11) else S.sgn a.four.1 a.four.2.pre
set_option maxRecDepth 100000 in
set_option maxHeartbeats 8000000 in
theorem sign_calls {w w1 : World} {g : Nat} {a : S} (h : Rd w w1 g a) (hl : a.s.length ≤ 1000000) :
    Calls Tryz.prog 146 #[.pointer (some ⟨g, 0, none⟩)] w1 fun E w' => E = .returned (.string (ofL a.sign.1)) ∧ Rd w w' g a.sign.2 := by
  have H := Lib.hid h
  obtain ⟨R, hR⟩ : ∃ R, a.sign = R := ⟨_, rfl⟩
  have HR : Hid ((if a.four.1 < 55296 ∨ 57343 < a.four.1 then (encL a.four.1, a.four.2) else if 56320 ≤ a.four.1 ∨ Lib.hasPrefix a.four.2.s [92, 117] = false then ([], a.four.2.fail 11) else S.sgn a.four.1 a.four.2.pre) = R) := Lib.hid hR
  have HL := Lib.hid (Nat.le_trans (four_len a) hl)
  have HL0 := Lib.hid hl
  rw [hR]
  clear h hR hl
  go_enter Tryz.func146, Tryz.ntmps146
  go_wp2_with fail
  refine (four_calls H.out HL0.out).mono ?_
  rintro E w2 ⟨rfl, h2⟩
  have H2 := Lib.hid h2
  clear h2 H HL0
  obtain ⟨p, hp⟩ : ∃ p, a.four = p := ⟨_, rfl⟩
  obtain ⟨x, b⟩ := p
  rw [hp] at HR H2 HL ⊢
  clear hp
  have HR2 : Hid ((if x < 55296 ∨ 57343 < x then (encL x, b) else if 56320 ≤ x ∨ Lib.hasPrefix b.s [92, 117] = false then ([], b.fail 11) else S.sgn x b.pre) = R) := HR
  have HL2 : Hid (b.s.length ≤ 1000000) := HL
  have H3 : Hid (Rd w w2 g b) := H2
  clear HR HL H2
  by_cases hx : x < 55296
  · have HRR : Hid ((encL x, b) = R) := Lib.hid (by have := HR2.out; rw [if_pos (.inl hx)] at this; exact this)
    go_wp2_with fail
    go_ret
    exact ⟨by rw [← HRR.out]; show _ = Ending.returned (.string (ofL (encL x))); rw [ofL_enc]; rfl, by rw [← HRR.out]; exact H3.out⟩
  by_cases hx2 : 57343 < x
  · have HRR : Hid ((encL x, b) = R) := Lib.hid (by have := HR2.out; rw [if_pos (.inr hx2)] at this; exact this)
    have q1 : (x < 55296) = False := by simp; omega
    have q2 : (57343 < x) = True := by simp; omega
    clear hx hx2
    go_wp2_with fail
    go_ret
    exact ⟨by rw [← HRR.out]; show _ = Ending.returned (.string (ofL (encL x))); rw [ofL_enc]; rfl, by rw [← HRR.out]; exact H3.out⟩
  have q1 : (x < 55296) = False := by simp; omega
  have q2 : (57343 < x) = False := by simp; omega
  have c0 := H3.out.c0
  have HR3 : Hid ((if 56320 ≤ x ∨ Lib.hasPrefix b.s [92, 117] = false then ([], b.fail 11) else S.sgn x b.pre) = R) := Lib.hid (by have := HR2.out; rw [if_neg (by omega)] at this; exact this)
  have HX := Lib.hid (And.intro hx hx2)
  clear hx hx2 HR2
  go_wp2_with fail
  refine (Tryz.strings_CutPrefix _ _ _).mono ?_
  rintro E w4 ⟨rfl, rfl⟩
  have e1 : (ofL b.s).data.toList = b.s := by simp [ofL]
  have e2 : (⟨#[92, 117]⟩ : ByteArray).data.toList = [92, 117] := rfl
  have HPRE : Hid (b.pre = { b with s := Lib.trimPrefix b.s [92, 117] }) := Lib.hid rfl
  rw [e1, e2]
  clear e1 e2
  obtain ⟨is, his⟩ : ∃ is, Lib.hasPrefix b.s [92, 117] = is := ⟨_, rfl⟩
  obtain ⟨rest, hrest⟩ : ∃ r, Lib.trimPrefix b.s [92, 117] = r := ⟨_, rfl⟩
  have HLR : Hid (rest.length ≤ 1000000) := Lib.hid (by rw [← hrest]; unfold Lib.trimPrefix; have := HL2.out; split <;> (try simp) <;> omega)
  rw [hrest] at HPRE
  rw [his, hrest]
  rw [his] at HR3
  clear his hrest
  have f0 := H3.out.fz 0
  by_cases hx3 : 56320 ≤ x
  · have HRR : Hid (([], b.fail 11) = R) := Lib.hid (by have := HR3.out; rw [if_pos (.inl hx3)] at this; exact this)
    go_wp2_with fail
    refine (fail_calls H3.out.now 11).mono ?_
    rintro E w6 ⟨rfl, h6⟩
    have h6 := H3.out.trans h6
    go_wp2_with fail
    go_ret
    exact ⟨by rw [← HRR.out]; rfl, by rw [← HRR.out]; exact h6⟩
  cases is with
  | false =>
    have HRR : Hid (([], b.fail 11) = R) := Lib.hid (by have := HR3.out; rw [if_pos (.inr rfl)] at this; exact this)
    have q3 : (56320 ≤ x) = False := by simp; omega
    clear hx3
    go_wp2_with fail
    refine (fail_calls H3.out.now 11).mono ?_
    rintro E w6 ⟨rfl, h6⟩
    have h6 := H3.out.trans h6
    go_wp2_with fail
    go_ret
    exact ⟨by rw [← HRR.out]; rfl, by rw [← HRR.out]; exact h6⟩
  | true =>
    have HRR : Hid (S.sgn x b.pre = R) := Lib.hid (by have := HR3.out; rw [if_neg (by simp; omega)] at this; exact this)
    have q3 : (56320 ≤ x) = False := by simp; omega
    have HX3 := Lib.hid hx3
    clear hx3 HR3
    go_wp2_with fail
    have H5 : Hid (Rd w (w4.setCell ⟨g, 0, none⟩ (.string ⟨rest.toArray⟩)) g b.pre) := Lib.hid (by rw [HPRE.out]; exact H3.out.s0 rest)
    generalize w4.setCell ⟨g, 0, none⟩ (.string ⟨rest.toArray⟩) = w5 at *
    clear c0 f0
    refine (four_calls H5.out.now (by rw [HPRE.out]; exact HLR.out)).mono ?_
    rintro E w6 ⟨rfl, h6⟩
    have H6 := Lib.hid (H5.out.trans h6)
    have HRR2 : Hid ((encL (signX x b.pre.four.1), if b.pre.four.1 < 56320 ∨ 57343 < b.pre.four.1 then b.pre.four.2.fail 11 else b.pre.four.2) = R) := HRR
    clear h6 H5 HRR
    obtain ⟨p, hp⟩ : ∃ p, b.pre.four = p := ⟨_, rfl⟩
    obtain ⟨y, c⟩ := p
    rw [hp] at HRR2 H6 ⊢
    clear hp
    have H7 : Hid (Rd w w6 g c) := H6
    have HRR3 : Hid ((encL (signX x y), if y < 56320 ∨ 57343 < y then c.fail 11 else c) = R) := HRR2
    clear H6 HRR2
    have q4 : (55296 : Int) ≤ x := HX.out.1
    have q5 : x < 56320 := by have := HX3.out; omega
    clear q1 q2 q3
    by_cases hy : y < 56320
    · have HF : Hid ((encL (signX x y), c.fail 11) = R) := Lib.hid (by have := HRR3.out; rw [if_pos (.inl hy)] at this; exact this)
      skip
      go_wp2_with fail
      refine (fail_calls H7.out.now 11).mono ?_
      rintro E w8 ⟨rfl, h8⟩
      have h8 := H7.out.trans h8
      go_wp2_with fail
      go_ret
      exact ⟨by rw [← HF.out]; show _ = Ending.returned (.string (ofL (encL (signX x y)))); rw [ofL_enc]; rfl, by rw [← HF.out]; exact h8⟩
    by_cases hy2 : 57343 < y
    · have HF : Hid ((encL (signX x y), c.fail 11) = R) := Lib.hid (by have := HRR3.out; rw [if_pos (.inr hy2)] at this; exact this)
      have r1 : (y < 56320) = False := by simp; omega
      have r2 : (57343 < y) = True := by simp; omega
      clear hy hy2
      go_wp2_with fail
      refine (fail_calls H7.out.now 11).mono ?_
      rintro E w8 ⟨rfl, h8⟩
      have h8 := H7.out.trans h8
      go_wp2_with fail
      go_ret
      exact ⟨by rw [← HF.out]; show _ = Ending.returned (.string (ofL (encL (signX x y)))); rw [ofL_enc]; rfl, by rw [← HF.out]; exact h8⟩
    · have HF : Hid ((encL (signX x y), c) = R) := Lib.hid (by have := HRR3.out; rw [if_neg (by omega)] at this; exact this)
      have r1 : (y < 56320) = False := by simp; omega
      have r2 : (57343 < y) = False := by simp; omega
      clear hy hy2
      go_wp2_with fail
      go_ret
      exact ⟨by rw [← HF.out]; show _ = Ending.returned (.string (ofL (encL (signX x y)))); rw [ofL_enc]; rfl, by rw [← HF.out]; exact H7.out⟩
def escA : ByteArray := ⟨#[34, 92, 47, 98, 102, 110, 114, 116]⟩
def escB : ByteArray := ⟨#[34, 92, 47, 8, 12, 10, 13, 9]⟩
def escL (i : Int) : List UInt8 := (escB.extract i.toNat (i.toNat + 1)).data.toList
def escI (c : UInt8) : Int := Lib.indexByte escA.data.toList c
theorem indexByte_le : ∀ (l : List UInt8) (c : UInt8), Lib.indexByte l c + 1 ≤ l.length
  | [], _ => by simp [Lib.indexByte]
  | b :: l, c => by
    have := indexByte_le l c
    unfold Lib.indexByte
    split
    · simp; omega
    split
    · simp; omega
    · simp; omega
theorem escI_b (c : UInt8) : -1 ≤ escI c ∧ escI c ≤ 7 := by
  refine ⟨Lib.indexByte_ge _ _, ?_⟩
  have := indexByte_le escA.data.toList c
  have h8 : escA.data.toList.length = 8 := rfl
  unfold escI
  omega
def S.escT (c : UInt8) (b : S) : List UInt8 × S := if c = 117 then b.sign else if escI c < 0 then ([], b.fail 11) else (escL (escI c), b)
def S.esc (a : S) : List UInt8 × S := match a.s with
  | [] => ([], a.fail 11)
  | c :: l => S.escT c { a with s := l }
theorem sgn_len (x : Int) (c : S) : (S.sgn x c).2.s.length ≤ c.s.length ∧ (S.sgn x c).1.length ≤ 4 ∧ (S.sgn x c).2.o = c.o := by
  refine ⟨?_, encL_len _, ?_⟩
  · unfold S.sgn; simp only []; split
    · rw [fail_s]; exact four_len c
    · exact four_len c
  · unfold S.sgn; simp only []; split
    · rw [fail_o]; exact four_o c
    · exact four_o c
theorem sign_len (a : S) : a.sign.2.s.length ≤ a.s.length ∧ a.sign.1.length ≤ 4 ∧ a.sign.2.o = a.o := by
  have h1 := four_len a
  have h2 := four_o a
  unfold S.sign
  split
  · exact ⟨h1, encL_len _, h2⟩
  split
  · exact ⟨by rw [fail_s]; exact h1, by simp, by rw [fail_o]; exact h2⟩
  · have h3 := sgn_len a.four.1 a.four.2.pre
    have h4 : a.four.2.pre.s.length ≤ a.four.2.s.length := by
      unfold S.pre Lib.trimPrefix; simp only []; split <;> simp
    exact ⟨by omega, h3.2.1, h3.2.2.trans h2⟩
theorem esc_len (a : S) : a.esc.2.s.length ≤ a.s.length ∧ a.esc.1.length ≤ 16 ∧ a.esc.2.o = a.o := by
  unfold S.esc
  split
  · rename_i h; exact ⟨by rw [fail_s]; exact Nat.le_refl _, by simp, by rw [fail_o]⟩
  · rename_i c l h
    rw [h]
    unfold S.escT
    split
    · have := sign_len { a with s := l }
      exact ⟨by have := this.1; simp at this ⊢; omega, by omega, this.2.2⟩
    split
    · exact ⟨by rw [fail_s]; simp, by simp, by rw [fail_o]⟩
    · exact ⟨by simp, by unfold escL; simp; omega, rfl⟩
set_option maxRecDepth 100000 in
set_option maxHeartbeats 8000000 in
theorem esc_calls : ECalls (fun a => a.s.length ≤ 1000000) S.esc := by
  intro w w1 g a h hl
  have H := Lib.hid h
  have c0 := h.c0
  have f0 := h.fz 0
  have HL := Lib.hid hl
  cases hs : a.s with
  | nil =>
    have HR : Hid (a.esc = ([], a.fail 11)) := Lib.hid (by unfold S.esc; rw [hs])
    rw [HR.out]
    rw [hs] at c0
    have hE : ofL [] = (⟨#[]⟩ : ByteArray) := rfl
    rw [hE] at c0 ⊢
    clear h hs hl hE
    go_enter Tryz.func119, Tryz.ntmps119
    go_wp2_with fail
    refine (fail_calls H.out.now 11).mono ?_
    rintro E w2 ⟨rfl, h2⟩
    have h2 := H.out.trans h2
    go_wp2_with fail
    go_ret
    exact ⟨rfl, h2⟩
  | cons c l =>
    have HR : Hid (a.esc = S.escT c { a with s := l }) := Lib.hid (by unfold S.esc; rw [hs])
    rw [HR.out]
    obtain ⟨R, hR⟩ : ∃ R, S.escT c { a with s := l } = R := ⟨_, rfl⟩
    have HR2 : Hid ((if c = 117 then S.sign { a with s := l } else if escI c < 0 then ([], S.fail { a with s := l } 11) else (escL (escI c), { a with s := l })) = R) := Lib.hid hR
    rw [hR]
    obtain ⟨s, hS⟩ : ∃ s, ofL a.s = s := ⟨_, rfl⟩
    rw [hS] at c0
    have hz : 0 < s.size := by rw [← hS, ofL_size, hs]; simp
    have hzI : (0 : Int) < (s.size : Int) := by omega
    have hz1 : (1 : Int) ≤ (s.size : Int) := by omega
    have hne : s.toList.isEmpty = false := by rw [← hS, hs, ofL_toList]; rfl
    have HB0 : Hid (s[0]'hz = c) := Lib.hid (by subst hS; simp only [hs]; rfl)
    have HX : Hid (s.extract 1 s.size = ofL l) := Lib.hid (by rw [← hS, ofL_ext, ofL_size, List.take_length, hs]; rfl)
    have HBL : Hid (l.length ≤ 1000000) := Lib.hid (by rw [hs] at hl; simp at hl; omega)
    obtain ⟨b, hb⟩ : ∃ b : S, b = { a with s := l } := ⟨_, rfl⟩
    have HB := Lib.hid hb
    rw [← hb] at HR2
    have hcc : escA = ⟨#[34, 92, 47, 98, 102, 110, 114, 116]⟩ := rfl
    have HC := Lib.hid hcc
    have hcd : escB = ⟨#[34, 92, 47, 8, 12, 10, 13, 9]⟩ := rfl
    have HD := Lib.hid hcd
    clear h hs hl hR HR hS hb hcc hcd
    by_cases h117 : c = 117
    · have e117 : (((s[0]'hz).toNat : Int) == 117) = true := by rw [HB0.out, h117]; rfl
      have HRR : Hid (b.sign = R) := Lib.hid (by have := HR2.out; rw [if_pos h117] at this; exact this)
      clear HR2 h117
      go_enter Tryz.func119, Tryz.ntmps119
      go_wp2_with fail
      rw [HX.out]
      have H2 : Hid (Rd w (w1.setCell ⟨g, 0, none⟩ (.string (ofL l))) g b) := Lib.hid (by rw [HB.out]; exact H.out.s0 l)
      refine (sign_calls H2.out.now (by rw [HB.out]; exact HBL.out)).mono ?_
      rintro E w3 ⟨rfl, h3⟩
      have h3 := H2.out.trans h3
      go_wp2_with fail
      go_ret
      exact ⟨by rw [← HRR.out]; rfl, by rw [← HRR.out]; exact h3⟩
    · have e117 : (((s[0]'hz).toNat : Int) == 117) = false := by
        rw [HB0.out]; simp
        intro e; exact h117 (UInt8.toNat_inj.1 (by have : c.toNat = 117 := by exact_mod_cast e
                                                   simpa using this))
      have HR3 : Hid ((if escI c < 0 then ([], b.fail 11) else (escL (escI c), b)) = R) := Lib.hid (by have := HR2.out; rw [if_neg h117] at this; exact this)
      clear HR2 h117
      have hbb := escI_b c
      have HJ : Hid (Lib.indexByte escA.data.toList (((s[0]'hz).toNat : Int)).toNat.toUInt8 = escI c) := Lib.hid (by rw [HB0.out]; unfold escI; simp)
      obtain ⟨i, hi⟩ : ∃ i, escI c = i := ⟨_, rfl⟩
      rw [hi] at HR3 HJ hbb
      clear hi
      go_enter Tryz.func119, Tryz.ntmps119
      go_wp2_with fail
      rw [HX.out]
      have H2 : Hid (Rd w (w1.setCell ⟨g, 0, none⟩ (.string (ofL l))) g b) := Lib.hid (by rw [HB.out]; exact H.out.s0 l)
      generalize w1.setCell ⟨g, 0, none⟩ (.string (ofL l)) = w2 at *
      refine (Tryz.strings_IndexByte _ _ _).mono ?_
      rintro E w3 ⟨rfl, rfl⟩
      have hA : (⟨#[34, 92, 47, 98, 102, 110, 114, 116]⟩ : ByteArray).data.toList = escA.data.toList := rfl
      rw [hA, HJ.out]
      clear hA c0 f0
      by_cases h0 : i < 0
      · have HRR : Hid (([], b.fail 11) = R) := Lib.hid (by have := HR3.out; rw [if_pos h0] at this; exact this)
        go_wp2_with fail
        refine (fail_calls H2.out.now 11).mono ?_
        rintro E w6 ⟨rfl, h6⟩
        have h6 := H2.out.trans h6
        go_wp2_with fail
        go_ret
        exact ⟨by rw [← HRR.out]; rfl, by rw [← HRR.out]; exact h6⟩
      · have HRR : Hid ((escL i, b) = R) := Lib.hid (by have := HR3.out; rw [if_neg h0] at this; exact this)
        have h0' : (0 : Int) ≤ i := by omega
        have h7 : i ≤ 7 := hbb.2
        obtain ⟨n, rfl⟩ : ∃ n : Nat, i = (n : Int) := ⟨i.toNat, by omega⟩
        clear h0 hbb HR3
        go_wp2_with fail
        go_ret
        exact ⟨by rw [← HRR.out]; show _ = Ending.returned (.string (ofL (escB.extract (n : Int).toNat ((n : Int).toNat + 1)).data.toList)); rw [ofL_bytes]; rfl, by rw [← HRR.out]; exact H2.out⟩
theorem good_esc : GoodE (fun a => a.s.length ≤ 1000000) S.esc := ⟨fun a _ => (esc_len a).1, fun a _ => (esc_len a).2.1⟩
def S.st (a : S) : List UInt8 × S := a.str S.esc
theorem st_calls {w w1 : World} {g : Nat} {a : S} (h : Rd w w1 g a) (hs : a.s ≠ []) (hl : a.s.length ≤ 1000000) :
    Calls Tryz.prog 94 #[.pointer (some ⟨g, 0, none⟩)] w1 fun E w' => E = .returned (.string (ofL a.st.1)) ∧ Rd w w' g a.st.2 :=
  str_calls esc_calls good_esc h hs hl (fun _ _ _ h => h) (fun b _ => (esc_len b).2.2)
theorem text_v : VCalls 67 (fun a => a.s ≠ [] ∧ a.s.length ≤ 1000000) (fun a => (⟨3, false, z24, ofL a.st.1, [], []⟩, a.st.2)) := fun w w1 g a h ok =>
  text_calls esc_calls good_esc w w1 g a h ⟨ok.1, ok.2, fun _ _ _ h => h, fun b _ => (esc_len b).2.2⟩
theorem plain_le (a : S) : a.plain.1 ≤ a.s.length ∧ (a.plain.2 = true → a.plain.1 < a.s.length) := by
  have := plainF_le (ofL a.s) ((ofL a.s).size + 1) 0 (by omega) (by omega)
  rw [ofL_size] at this
  unfold S.plain
  rw [ofL_size]
  exact this
theorem loop_len : ∀ (n : Nat) (out : List UInt8) (a : S), (strLoop S.esc n out a).2.s.length ≤ a.s.length ∧ (strLoop S.esc n out a).2.o = a.o ∧ (a.e ≠ 0 → (strLoop S.esc n out a).2.e ≠ 0)
  | 0, out, a => ⟨Nat.le_refl _, rfl, fun h => h⟩
  | n + 1, out, a => by
    rw [strLoop]
    split
    · exact ⟨Nat.le_refl _, rfl, fun h => h⟩
    rename_i h0
    split
    · exact ⟨by rw [fail_s]; exact Nat.le_refl _, by rw [fail_o], fun h => absurd h h0⟩
    have hc : a.cut.s.length ≤ a.s.length := by unfold S.cut; simp
    split
    · exact ⟨hc, rfl, fun h => absurd h h0⟩
    · have h1 := esc_len a.cut
      have h2 := loop_len n (out ++ a.s.take a.plain.1 ++ (S.esc a.cut).1) (S.esc a.cut).2
      exact ⟨by omega, h2.2.1.trans h1.2.2, fun h => absurd h h0⟩
theorem st_len (a : S) : a.st.2.s.length ≤ a.s.length ∧ a.st.2.o = a.o ∧ (a.e ≠ 0 → a.st.2.e ≠ 0) := by
  have := loop_len (a.s.length + 1) [] a.tl
  have h2 : a.tl.s.length ≤ a.s.length := by unfold S.tl; simp
  exact ⟨Nat.le_trans this.1 h2, this.2.1, this.2.2⟩
end Js
end Go.Proofs.YtapcpndplnkfjaaGreatDoor
namespace Go.Proofs.YtapcpndplnkfjaaGreatDoor
open Go.RowKit Go.Proofs.YtapcpndplnkfjaaGreatDoorW.PrintWords Go.Proofs.YtapcpndplnkfjaaGreatDoorW.PrintLast Go.Proofs.YtapcpndplnkfjaaGreatDoorW.PrintMore
set_option linter.unusedVariables false
set_option linter.unusedSimpArgs false
namespace Js
theorem Ar.kept {w w' : World} {base b rb g : Nat} {xs : List S28} (h : Ar w base b rb g xs) (k : w.grownBy w' (some g)) : Ar w' base b rb g xs := by
  obtain ⟨v6, hv, hr⟩ := h.vc
  exact ⟨(k.block rb (Array.getElem?_eq_some_iff.1 h.rc).1 (by simpa using h.ne.2.1)).trans h.rc,
    ⟨v6, (k.block b (Array.getElem?_eq_some_iff.1 hv).1 (by simpa using h.ne.1)).trans hv, Kd.R_mono (Kd.R_grown (Kd.R_bound hr) k (fun i hi e => by have := hi.2.1; have := h.lt.2.2.1; injection e with e; omega)) (fun _ _ => trivial)⟩,
    ⟨h.lt.1, h.lt.2.1, h.lt.2.2.1, Nat.le_trans h.lt.2.2.2 k.size⟩, h.ne⟩
structure Good (fv : S → S28 × S) (ok Q : S → Prop) : Prop where
  ok_ : ∀ a, Q a → ok a
  next : ∀ a, Q a → Q (fv a).2
  take : ∀ a q, Q a → Q (a.take q)
  len : ∀ a, Q a → (fv a).2.s.length ≤ a.s.length
  bnd : ∀ a, Q a → 0 ≤ a.o ∧ a.o ≤ 1000 ∧ a.s.length ≤ 900000
def arrT (fv : S → S28 × S) (xs : List S28) (b : S) : List S28 × S := (xs ++ [(fv b).1], (fv b).2)
def S.arr (fv : S → S28 × S) (a : S) : S28 × S := let r := listF (arrT fv) [93] [] a; (⟨4, false, z24, ⟨#[]⟩, r.1, []⟩, r.2)
theorem arr_thing {fv : S → S28 × S} {ok Q : S → Prop} (HV : VCalls 34 ok fv) (HG : Good fv ok Q) {w : World} {base b rb g : Nat} (hb : w.heap.size ≤ b) (hbase : w.heap.size ≤ base) :
    Thing w g 96 #[.pointer (some ⟨b, 0, none⟩), .pointer (some ⟨rb, 0, none⟩)] (fun w' xs => Ar w' base b rb g xs) (arrT fv) (fun xs a => xs.length + a.s.length ≤ 900000 ∧ Q a) (fun xs a => xs.length + a.s.length ≤ 900001 ∧ Q a) where
  calls := fun w1 x a h hI hP => arr_step fv ok HV h hI (HG.ok_ a hP.2) hb hbase (by have := hP.1; omega)
  kept := fun w1 w2 x h k => h.kept k
  len := fun x a hP => HG.len a hP.2
  step := fun x a hP => ⟨by have := HG.len a hP.2; have := hP.1; show (x ++ [(fv a).1]).length + (fv a).2.s.length ≤ 900001; simp; omega, HG.next a hP.2⟩
  more := fun x a hP ht => ⟨by have := took_lt a 44 ht; have := hP.1; omega, HG.take a _ hP.2⟩
  open_ := fun x a hP => ⟨(HG.bnd a hP.2).1, (HG.bnd a hP.2).2.1⟩
set_option maxRecDepth 100000 in
set_option maxHeartbeats 8000000 in
theorem array_calls {fv : S → S28 × S} {ok Q : S → Prop} (HV : VCalls 34 ok fv) (HG : Good fv ok Q) :
    VCalls 68 (fun a => (0 ≤ a.o ∧ a.o ≤ 100) ∧ a.s ≠ [] ∧ (0 ≤ a.enter.o ∧ a.enter.o ≤ 1000) ∧ Q (a.enter.take [93])) (S.arr fv) := by
  intro w w1 g a h hok
  have H := Lib.hid h
  have HOK := Lib.hid hok
  have HVG := Lib.hid (And.intro HV HG)
  clear h hok HV HG
  go_enter Tryz.func68, Tryz.ntmps68
  obtain ⟨w2, hw2⟩ : ∃ w2, w2 = (w1.alloc (.cells #[.pointer (some ⟨g, 0, none⟩)] 77)).alloc (.cells #[.int .i64 0, .bool false, .bool false, .string ⟨#[]⟩, .int .i64 0, .string ⟨#[]⟩, .slice none 0 0, .slice none 0 0] 28) := ⟨_, rfl⟩
  have HW2 := Lib.hid hw2
  clear hw2
  have hsz : w2.heap.size = w1.heap.size + 2 := by rw [HW2.out]; simp
  have HSZ := Lib.hid hsz
  clear hsz
  have H2 : Hid (Rd w w2 g a) := Lib.hid (by rw [HW2.out]; exact H.out.below ((Below.alloc (Below.refl _ _) (Nat.le_refl _) _).alloc (by simp) _))
  have hrb : w2.heap[w1.heap.size]? = some (.cells #[.pointer (some ⟨g, 0, none⟩)] 77 (0, 0)) := by rw [HW2.out]; exact blk_alloc (blk_new w1 _) _
  have hrz : w2.heap[w1.heap.size + 1]? = some (.cells #[.int .i64 0, .bool false, .bool false, .string ⟨#[]⟩, .int .i64 0, .string ⟨#[]⟩, .slice none 0 0, .slice none 0 0] 28 (0, 0)) := by
    rw [HW2.out]; have := blk_new (w1.alloc (.cells #[.pointer (some ⟨g, 0, none⟩)] 77)) (.cells #[.int .i64 0, .bool false, .bool false, .string ⟨#[]⟩, .int .i64 0, .string ⟨#[]⟩, .slice none 0 0, .slice none 0 0] 28); simpa using this
  have hvb : (w2.alloc (.cells #[.int .i64 4, .bool false, .bool false, .string ⟨#[]⟩, .int .i64 0, .string ⟨#[]⟩, .slice none 0 0, .slice none 0 0] 28)).heap[w1.heap.size + 1 + 1]? = some (.cells #[.int .i64 4, .bool false, .bool false, .string ⟨#[]⟩, .int .i64 0, .string ⟨#[]⟩, .slice none 0 0, .slice none 0 0] 28 (0, 0)) := by
    have := blk_new w2 (.cells #[.int .i64 4, .bool false, .bool false, .string ⟨#[]⟩, .int .i64 0, .string ⟨#[]⟩, .slice none 0 0, .slice none 0 0] 28); rw [HSZ.out] at this; exact this
  have hgl := H.out.lt
  have HAR : Hid (Ar (w2.alloc (.cells #[.int .i64 4, .bool false, .bool false, .string ⟨#[]⟩, .int .i64 0, .string ⟨#[]⟩, .slice none 0 0, .slice none 0 0] 28)) (w1.heap.size + 3) (w1.heap.size + 1 + 1) w1.heap.size g []) := Lib.hid
    ⟨blk_alloc hrb _, ⟨_, hvb, Kd.R_nil _ _ _ _ _⟩, ⟨by omega, by omega, by omega, by simp [HSZ.out]⟩, ⟨by omega, by omega, by omega⟩⟩
  have HRZ := Lib.hid hrz
  have HGL := Lib.hid hgl
  have HT := Lib.hid (arr_thing HVG.out.1 HVG.out.2 (w := w2) (base := w1.heap.size + 3) (b := w1.heap.size + 1 + 1) (rb := w1.heap.size) (g := g) (by have := HSZ.out; omega) (by have := HSZ.out; omega))
  have HPX : Hid (Q (a.enter.take [93])) := Lib.hid HOK.out.2.2.2
  clear hrb hrz hvb hgl
  go_wp2_with fail
  rw [← HW2.out]
  refine (list_67 HT.out [93] (H2.out.now.below (Below.alloc (Below.refl _ _) (Nat.le_refl _) _)) HAR.out HOK.out.1 HOK.out.2.1 (fun _ => ⟨by have := (HVG.out.2.bnd _ HPX.out).2.2; simp; omega, HPX.out⟩) HOK.out.2.2.1).mono ?_
  rintro E w4 ⟨rfl, h4, hA4⟩
  obtain ⟨v6, hv6, hr6⟩ := hA4.vc
  have HR4 := Lib.hid (h4.keep HRZ.out (by have := HGL.out; omega))
  have HV6 := Lib.hid hv6
  have H4 := Lib.hid (H2.out.trans h4)
  have HX4 := Lib.hid (k28.M_mono (ok' := fun _ => True) (fun _ _ => trivial) (k28_mkM w4 (w1.heap.size + 3) (fun _ => True) (S.arr fv a).1 (v6 := v6) hr6 (Kd.R_nil _ _ _ _ _ : Kd.string.R 9 w4 (w1.heap.size + 3) (fun _ => True) (.slice none 0 0) [])))
  have hone : (#[.int .i64 4, .bool false, .bool false, .string ⟨#[]⟩, .int .i64 0, .string ⟨#[]⟩, v6, .slice none 0 0] : Array Value).toList.all (·.oneCell') = true := List.all_eq_true.2 (fun u hu => k28.K_one (k28.K_of_M HX4.out) u hu)
  have HON := Lib.hid hone
  have HLW := Lib.hid H.out.kp.size
  clear h4 hA4 hv6 hr6 hone
  go_wp2_with (first | (refine wpList_load_row rfl 28 (.tmp 3) rfl (w1.heap.size + 1 + 1) rfl 28 _ (0, 0) _ HV6.out Tryz.underlying28 rfl (by kernel_rfl) ?_) | (refine row_event rfl 28 (.tmp 2) (.tmp 8) rfl (w1.heap.size + 1) _ rfl rfl 28 _ HR4.out (by kernel_rfl) rfl HON.out ?_; intro w9 hr9 hk9))
  refine bodyPost_ret (results_cell_row rfl _ _ (w1.heap.size + 1) 28 _ (0, 0) _ rfl hr9 Tryz.underlying28 rfl (by kernel_rfl)) rfl ⟨_, rfl, Jv.up HX4.out hk9 (by omega) (by omega), ?_⟩
  exact H4.out.far hk9 (by have := HGL.out; omega) (by have := HLW.out; omega)
end Js
end Go.Proofs.YtapcpndplnkfjaaGreatDoor
namespace Go.Proofs.YtapcpndplnkfjaaGreatDoor
open Go.RowKit Go.Proofs.YtapcpndplnkfjaaGreatDoorW.PrintWords Go.Proofs.YtapcpndplnkfjaaGreatDoorW.PrintLast Go.Proofs.YtapcpndplnkfjaaGreatDoorW.PrintMore
set_option linter.unusedVariables false
set_option linter.unusedSimpArgs false
namespace Js
structure Ob (w : World) (base b rb g : Nat) (xs : List S28) (ns : List ByteArray) : Prop where
  rc : w.heap[rb]? = some (.cells #[.pointer (some ⟨g, 0, none⟩)] 77 (0, 0))
  vc : ∃ v6 v7, w.heap[b]? = some (.cells #[.int .i64 5, .bool false, .bool false, .string ⟨#[]⟩, .int .i64 0, .string ⟨#[]⟩, v6, v7] 28 (0, 0)) ∧ k28.R 28 w base (fun k => some k ≠ v7.ownBlock) v6 xs ∧ Kd.string.R 9 w base (fun _ => True) v7 ns
  lt : b < base ∧ rb < base ∧ g < base ∧ base ≤ w.heap.size
  ne : b ≠ g ∧ rb ≠ g ∧ b ≠ rb
theorem Ob.kept {w w' : World} {base b rb g : Nat} {xs : List S28} {ns : List ByteArray} (h : Ob w base b rb g xs ns) (k : w.grownBy w' (some g)) : Ob w' base b rb g xs ns := by
  obtain ⟨v6, v7, hv, hr, hn⟩ := h.vc
  exact ⟨(k.block rb (Array.getElem?_eq_some_iff.1 h.rc).1 (by simpa using h.ne.2.1)).trans h.rc,
    ⟨v6, v7, (k.block b (Array.getElem?_eq_some_iff.1 hv).1 (by simpa using h.ne.1)).trans hv,
      Kd.R_mono (Kd.R_grown (Kd.R_bound hr) k (fun i hi e => by have := hi.2.1; have := h.lt.2.2.1; injection e with e; omega)) (fun _ hk => hk.1),
      Kd.R_mono (Kd.R_grown (Kd.R_bound hn) k (fun i hi e => by have := hi.2.1; have := h.lt.2.2.1; injection e with e; omega)) (fun _ _ => trivial)⟩,
    ⟨h.lt.1, h.lt.2.1, h.lt.2.2.1, Nat.le_trans h.lt.2.2.2 k.size⟩, h.ne⟩
def put {α : Type} (l : List α) (i : Nat) (x : α) : List α := l.take i ++ [x] ++ l.drop i
def S.twice (a : S) (is : Bool) : S := if is = true then a.fail 31 else a
def objN (a : S) : ByteArray := ofL a.skip.st.1
def objA (ns : List ByteArray) (a : S) : S := (S.twice a.skip.st.2 (has ns (objN a))).need [58]
def objT (fv : S → S28 × S) (p : List S28 × List ByteArray) (a : S) : (List S28 × List ByteArray) × S :=
  if Lib.hasPrefix a.skip.s [34] = false then (p, a.skip.fail 11) else
  ((put p.1 (pos p.2 (objN a)) (fv (objA p.2 a)).1, put p.2 (pos p.2 (objN a)) (objN a)), (fv (objA p.2 a)).2)
structure ObP (W w : World) (base b rb g lo hi : Nat) (a : S) (v6 v7 : Value) (xs : List S28) (ns : List ByteArray) (x : S28) (cs : List Value) : Prop where
  rd : Rd w W g a
  rc : W.heap[rb]? = some (.cells #[.pointer (some ⟨g, 0, none⟩)] 77 (0, 0))
  vc : W.heap[b]? = some (.cells #[.int .i64 5, .bool false, .bool false, .string ⟨#[]⟩, .int .i64 0, .string ⟨#[]⟩, v6, v7] 28 (0, 0))
  r6 : k28.R 28 W base (fun k => some k ≠ v7.ownBlock) v6 xs
  r7 : Kd.string.R 9 W base (fun _ => True) v7 ns
  x : k28.M W lo (fun k => k < hi) x cs
  lt : base ≤ lo ∧ lo ≤ hi ∧ hi ≤ W.heap.size
  own : (∀ k, v6.ownBlock = some k → k < lo) ∧ ∀ k, v7.ownBlock = some k → k < lo ∨ hi ≤ k
theorem ObP.below {W W' w : World} {base b rb g lo hi : Nat} {a : S} {v6 v7 : Value} {xs : List S28} {ns : List ByteArray} {x : S28} {cs : List Value} (h : ObP W w base b rb g lo hi a v6 v7 xs ns x cs) (k : Below W.heap.size W W') : ObP W' w base b rb g lo hi a v6 v7 xs ns x cs :=
  ⟨h.rd.below k, (k.block rb (Array.getElem?_eq_some_iff.1 h.rc).1).trans h.rc, (k.block b (Array.getElem?_eq_some_iff.1 h.vc).1).trans h.vc, Kd.R_below h.r6 k, Kd.R_below h.r7 k, Kd.M_below h.x k, ⟨h.lt.1, h.lt.2.1, Nat.le_trans h.lt.2.2 k.size⟩, h.own⟩
theorem ObP.drew {W w : World} {base b rb g lo hi : Nat} {a : S} {v6 v7 : Value} {xs : List S28} {ns : List ByteArray} {x : S28} {cs : List Value} (h : ObP W w base b rb g lo hi a v6 v7 xs ns x cs) : ObP W.drew w base b rb g lo hi a v6 v7 xs ns x cs := h.below (Below.refl _ _).drew
theorem ObP.calls {W w : World} {base b rb g lo hi ms i : Nat} {a : S} {v6 v7 : Value} {xs : List S28} {ns : List ByteArray} {x : S28} {cs : List Value} {name : ByteArray} (h : ObP W w base b rb g lo hi a v6 v7 xs ns x cs)
    (hms : W.heap[ms]? = some (.cells #[.string name] 9 (0, 0))) (hlo : ∀ k, v7.ownBlock = some k → k < ms) (hi' : i ≤ ns.length) (hl : ns.length ≤ 1000000) (hb : w.heap.size ≤ b) (hbase : w.heap.size ≤ base) (hlt : b < base ∧ rb < base ∧ g < base) (h7 : ∀ k, v7.ownBlock = some k → k < lo) :
    Calls Tryz.prog 99 #[v7, .int .i64 i, .slice (some ⟨ms, 0, none⟩) 1 1] W fun E w' => ∃ vn, E = .returned vn ∧ Rd w w' g a ∧ w'.heap[rb]? = some (.cells #[.pointer (some ⟨g, 0, none⟩)] 77 (0, 0)) ∧
      w'.heap[b]? = some (.cells #[.int .i64 5, .bool false, .bool false, .string ⟨#[]⟩, .int .i64 0, .string ⟨#[]⟩, v6, v7] 28 (0, 0)) ∧ k28.R 28 w' base (fun k => some k ≠ vn.ownBlock) v6 xs ∧ Kd.string.R 9 w' base (fun _ => True) vn (put ns i name) ∧
      k28.M w' lo (fun k => k < hi ∧ some k ≠ vn.ownBlock) x cs ∧ W.grownBy w' v7.ownBlock ∧ (vn.ownBlock = v7.ownBlock ∨ vn.ownBlock = some W.heap.size) := by
  have hown7 : ∀ k, v7.ownBlock = some k → base ≤ k := fun k e => (Kd.R_bound h.r7).1 k e |>.2.1
  refine (insT_R (x := name) (xcs := [.string name]) (m := ms) (okp := fun _ => False) h.r7 (show Kd.string.M W base (fun _ => False) name [.string name] from rfl) (fun k hk => hk.elim) (fun _ _ => trivial) hi' hl (Nat.le_trans h.lt.1 (Nat.le_trans h.lt.2.1 h.lt.2.2)) hms (fun e => by have := hlo ms e.symm; omega)).mono ?_
  rintro E w' ⟨vn, rfl, hR, hg, hat⟩
  have hsz := hg.size
  have hne : ∀ k, some k ≠ v7.ownBlock → k < W.heap.size → some k ≠ vn.ownBlock := fun k h1 h2 => by
    rcases hat with e | e
    · rw [e]; exact h1
    · rw [e]; intro e2; injection e2 with e2; omega
  refine ⟨vn, rfl, h.rd.grow hg (fun k e => ?_), (hg.block rb (Array.getElem?_eq_some_iff.1 h.rc).1 (fun e => by have := hown7 rb e.symm; omega)).trans h.rc, (hg.block b (Array.getElem?_eq_some_iff.1 h.vc).1 (fun e => by have := hown7 b e.symm; omega)).trans h.vc, ?_, hR, ?_, hg, hat⟩
  · have := hown7 k e; exact ⟨by omega, by omega⟩
  · refine Kd.R_mono (Kd.R_grown (Kd.R_bound h.r6) hg (fun k hk e => hk.1 e)) (fun k hk => hne k hk.1 hk.2.2.1)
  · refine k28.M_mono (fun k hk => ⟨hk.1, hne k (fun e => ?_) hk.2.2.1⟩) (Kd.M_grown (k28.M_bound h.x) hg (fun k hk e => ?_))
    · have := h7 k e.symm; have := hk.2.1; omega
    · have := h7 k e.symm; have := hk.2.1; omega
theorem exec_row {o : Oper} {a : Act} {W : World} {x : Operand} {g : Nat} {cells : Array Value} (ho : o.op = .load 28 x) (hx : a.eval x = .pointer (some ⟨g, 0, none⟩)) (hg : W.heap[g]? = some (.cells cells 28 (0, 0))) (hi : (Tryz.prog.info? 28).map (·.size) = some cells.size) :
    (execOp a.eval o).run Tryz.prog W = .ok (.value (.agg cells)) W := by
  unfold execOp
  simp only [ho, hx, Instr.loadAt, Instr.sureAddr, Sem.run_bind, Sem.run_pure, Result.andThen_ok, run_loadVar_row W g 28 28 cells (0, 0) _ hg Tryz.underlying28 rfl hi]
theorem fold8 (cs : List Value) (h : cs.length = 8) : List.foldl (fun (cs : Array Value) (x : Value × Nat) => cs.setIfInBounds x.snd x.fst) #[.int .i64 0, .bool false, .bool false, .string ⟨#[]⟩, .int .i64 0, .string ⟨#[]⟩, .slice none 0 0, .slice none 0 0] cs.zipIdx = cs.toArray := by
  rcases cs with _ | ⟨a, _ | ⟨b, _ | ⟨c, _ | ⟨d, _ | ⟨e, _ | ⟨f, _ | ⟨g, _ | ⟨k, _ | ⟨l, t⟩⟩⟩⟩⟩⟩⟩⟩⟩ <;> first | (exfalso; simp at h; done) | (exfalso; simp at h; omega) | (clear h; simp [List.zipIdx]; done) | rfl
set_option maxRecDepth 100000 in
set_option maxHeartbeats 8000000 in
theorem obj_step (fv : S → S28 × S) (ok : S → Prop) (HV : VCalls 34 ok fv) {w w1 : World} {g b rb base : Nat} {a : S} {xs : List S28} {ns : List ByteArray} (h : Rd w w1 g a) (hA : Ob w1 base b rb g xs ns) (hok : ok (objA ns a)) (hb : w.heap.size ≤ b) (hbase : w.heap.size ≤ base)
    (hl : xs.length ≤ 1000000 ∧ ns.length = xs.length ∧ a.s.length ≤ 1000000) :
    Calls Tryz.prog 97 #[.pointer (some ⟨rb, 0, none⟩), .pointer (some ⟨b, 0, none⟩)] w1 fun E w' => E = .returned (.tuple #[]) ∧ Rd w w' g (objT fv (xs, ns) a).2 ∧ Ob w' base b rb g (objT fv (xs, ns) a).1.1 (objT fv (xs, ns) a).1.2 := by
  have HVX := Lib.hid HV
  have HOK := Lib.hid hok
  have H := Lib.hid h
  have HA := Lib.hid hA
  have HLL := Lib.hid (And.intro hb (And.intro hbase hl))
  obtain ⟨R, hR⟩ : ∃ R, objT fv (xs, ns) a = R := ⟨_, rfl⟩
  have HR : Hid ((if Lib.hasPrefix a.skip.s [34] = false then ((xs, ns), a.skip.fail 11) else ((put xs (pos ns (objN a)) (fv (objA ns a)).1, put ns (pos ns (objN a)) (objN a)), (fv (objA ns a)).2)) = R) := Lib.hid hR
  rw [hR]
  have cr : w1.cell? ⟨rb, 0, none⟩ = some (.pointer (some ⟨g, 0, none⟩)) := (blk_cell hA.rc 0).trans rfl
  clear HV hok h hA hb hbase hl hR
  go_enter Tryz.func97, Tryz.ntmps97
  go_wp2_with fail
  refine (skip_calls H.out.now).mono ?_
  rintro E w2 ⟨rfl, h2⟩
  have HA2 := Lib.hid (HA.out.kept h2.kp)
  have H2 := Lib.hid (H.out.trans h2)
  clear h2 cr H HA
  have cr : w2.cell? ⟨rb, 0, none⟩ = some (.pointer (some ⟨g, 0, none⟩)) := (blk_cell HA2.out.rc 0).trans rfl
  have c0 := H2.out.c0
  go_wp2_with fail
  refine (Tryz.strings_HasPrefix _ _ _).mono ?_
  rintro E w3 ⟨rfl, rfl⟩
  have e1 : (ofL a.skip.s).data.toList = a.skip.s := by simp [ofL]
  have e2 : (⟨#[34]⟩ : ByteArray).data.toList = [34] := rfl
  rw [e1, e2]
  clear e1 e2
  cases hp : Lib.hasPrefix a.skip.s [34] with
  | false =>
    have HRR : Hid (((xs, ns), a.skip.fail 11) = R) := Lib.hid (by have := HR.out; rw [hp, if_pos rfl] at this; exact this)
    clear hp HR
    go_wp2_with fail
    refine (fail_calls H2.out.now 11).mono ?_
    rintro E w4 ⟨rfl, h4⟩
    have HA4 := Lib.hid (HA2.out.kept h4.kp)
    have H4 := Lib.hid (H2.out.trans h4)
    clear h4
    go_wp2_with fail
    exact bodyPost_ret (results_none rfl _ _ _) rfl ⟨rfl, by rw [← HRR.out]; exact H4.out, by rw [← HRR.out]; exact HA4.out⟩
  | true =>
    have HRR : Hid (((put xs (pos ns (objN a)) (fv (objA ns a)).1, put ns (pos ns (objN a)) (objN a)), (fv (objA ns a)).2) = R) := Lib.hid (by have := HR.out; rw [hp, if_neg (by simp)] at this; exact this)
    have hne : a.skip.s ≠ [] := fun e => by rw [e] at hp; cases hp
    have hll : a.skip.s.length ≤ 1000000 := by
      have : a.skip.s.length ≤ a.s.length := by unfold S.skip Lib.trimLeftS; exact (List.dropWhile_sublist _).length_le
      have := HLL.out.2.2.2.2; omega
    have HSS : Hid (Calls Tryz.prog 94 #[.pointer (some ⟨g, 0, none⟩)] w3 fun E w' => E = .returned (.string (objN a)) ∧ Rd w3 w' g a.skip.st.2) := Lib.hid (st_calls H2.out.now hne hll)
    clear hp HR hne hll c0
    go_wp2_with fail
    refine HSS.out.mono ?_
    rintro E w4 ⟨rfl, h4⟩
    have HA4 := Lib.hid (HA2.out.kept h4.kp)
    have H4 := Lib.hid (H2.out.trans h4)
    clear h4 cr HSS HA2 H2
    obtain ⟨v6, v7, hv, hr6, hr7⟩ := HA4.out.vc
    have cr : w4.cell? ⟨rb, 0, none⟩ = some (.pointer (some ⟨g, 0, none⟩)) := (blk_cell HA4.out.rc 0).trans rfl
    have c5 : w4.cell? ⟨b, 5, none⟩ = some (.slice none 0 0) ∨ True := .inr trivial
    have c7 : w4.cell? ⟨b, 7, none⟩ = some v7 := (blk_cell hv 7).trans rfl
    have HSE := Lib.hid (search_calls (objN a) hr7 (by have := HLL.out.2.2; omega))
    clear hv hr6 hr7 c5
    go_wp2_with fail
    refine HSE.out.mono ?_
    rintro E w5 ⟨rfl, q, rfl⟩
    obtain ⟨i, hi⟩ : ∃ i, pos ns (objN a) = i := ⟨_, rfl⟩
    obtain ⟨is, his⟩ : ∃ is, has ns (objN a) = is := ⟨_, rfl⟩
    have HI := Lib.hid hi
    have HIS := Lib.hid his
    rw [hi, his]
    clear hi his HSE c7
    have HA5 : Hid (Ob (w4.drewN q) base b rb g xs ns) := Lib.hid (HA4.out.kept ⟨rfl, rfl, rfl, Nat.le_refl _, fun _ _ _ => rfl⟩)
    have H5 : Hid (Rd w (w4.drewN q) g a.skip.st.2) := Lib.hid (H4.out.dN q)
    generalize w4.drewN q = w5 at *
    clear H4 HA4 cr
    have cr : w5.cell? ⟨rb, 0, none⟩ = some (.pointer (some ⟨g, 0, none⟩)) := (blk_cell HA5.out.rc 0).trans rfl
    go_upto_if 25 with (fail)
    go_cut [] (fun wx => Hid (Rd w wx g (S.twice a.skip.st.2 is)) ∧ Hid (Ob wx base b rb g xs ns))
    · cases is with
      | true =>
        go_wp2_with fail
        refine (fail_calls H5.out.now 31).mono ?_
        rintro E w6 ⟨rfl, h6⟩
        have HA6 := Lib.hid (HA5.out.kept h6.kp)
        have H6 := Lib.hid (H5.out.trans h6)
        go_wp2_with fail
        go_meet
        exact ⟨H6, HA6⟩
      | false =>
        go_wp2_with fail
        go_meet
        exact ⟨H5, HA5⟩
    obtain ⟨H6, HA6⟩ := hcut
    have HQ : Hid (S.twice a.skip.st.2 is = S.twice a.skip.st.2 (has ns (objN a))) := Lib.hid (by rw [HIS.out])
    rw [HQ.out] at H6
    clear H5 HA5 cr HQ
    have cr : wc.cell? ⟨rb, 0, none⟩ = some (.pointer (some ⟨g, 0, none⟩)) := (blk_cell HA6.out.rc 0).trans rfl
    go_wp2_with fail
    refine (need_calls H6.out.now [58]).mono ?_
    rintro E w7 ⟨rfl, h7⟩
    have HA7 := Lib.hid (HA6.out.kept h7.kp)
    have H7 : Hid (Rd w w7 g (objA ns a)) := Lib.hid (H6.out.trans h7)
    clear h7 H6 HA6 cr
    have cr : w7.cell? ⟨rb, 0, none⟩ = some (.pointer (some ⟨g, 0, none⟩)) := (blk_cell HA7.out.rc 0).trans rfl
    go_wp2_with fail
    refine (HVX.out _ _ g _ H7.out.now HOK.out).mono ?_
    rintro E w8 ⟨v, rfl, hv, h8⟩
    have HA8 := Lib.hid (HA7.out.kept h8.kp)
    have H8 := Lib.hid (H7.out.trans h8)
    have H78 := Lib.hid h8
    obtain ⟨cs, rfl, hl8, ho8, hi8, hM⟩ := hv.of
    have HM := Lib.hid hM
    have H1C := Lib.hid (fun u hu => k28.K_one (k28.K_of_M hM) u hu)
    clear hv h8 hM cr
    have HI8 := Lib.hid hi8
    have HO8 := Lib.hid ho8
    have HL8 := Lib.hid hl8
    clear hi8 ho8 hl8
    have HN8 : Hid ((w8.alloc (.cells zA 28)).heap[w8.heap.size]? = some (.cells zA 28 (0, 0))) := Lib.hid (blk_new w8 (.cells zA 28))
    have hcs0 : Hid (zA.size = cs.toArray.size) := Lib.hid (by rw [HL8.out]; rfl)
    go_wp2_with (refine row_event rfl 28 (.tmp 5) (.tmp 31) rfl w8.heap.size _ rfl rfl 28 _ HN8.out HI8.out hcs0.out HO8.out ?_; intro w9 hr9 hk9)
    have HB0 : Below w8.heap.size w8 (w8.alloc (.cells zA 28)) := Below.alloc (Below.refl _ _) (Nat.le_refl _) _
    have HB89 : Below w8.heap.size w8 w9 := HB0.grown hk9 HB0.size (fun i e => Nat.le_of_eq (Option.some.inj e))
    have hk78 := H78.out.kp
    have HOB := Lib.hid (And.intro HA7.out.lt HA7.out.ne)
    obtain ⟨v6, v7, hv, hr6, hr7⟩ := HA7.out.vc
    obtain ⟨A6, c6, hq6⟩ := Kd.R_slice hr6
    obtain ⟨A7, c7, hq7⟩ := Kd.R_slice hr7
    subst hq6 hq7
    have HP : Hid (ObP w9 w base b rb g w7.heap.size w8.heap.size (fv (objA ns a)).2 (.slice A6 xs.length c6) (.slice A7 ns.length c7) xs ns (fv (objA ns a)).1 cs) := Lib.hid
      ⟨H8.out.below HB89, (HB89.block rb (Array.getElem?_eq_some_iff.1 HA8.out.rc).1).trans HA8.out.rc,
        (HB89.block b (Nat.lt_of_lt_of_le (Array.getElem?_eq_some_iff.1 hv).1 hk78.size)).trans ((hk78.block b (Array.getElem?_eq_some_iff.1 hv).1 (by simpa using HOB.out.2.1)).trans hv),
        Kd.R_below (Kd.R_mono (Kd.R_grown (Kd.R_bound hr6) hk78 (fun i hi e => by have := hi.2.1; have := HOB.out.1.2.2.1; injection e with e; omega)) (fun _ hk => hk.1)) HB89,
        Kd.R_below (Kd.R_mono (Kd.R_grown (Kd.R_bound hr7) hk78 (fun i hi e => by have := hi.2.1; have := HOB.out.1.2.2.1; injection e with e; omega)) (fun _ _ => trivial)) HB89,
        Kd.M_below (k28.M_mono (fun k hk => hk.2.2.1) (k28.M_bound HM.out)) HB89,
        ⟨HOB.out.1.2.2.2, hk78.size, HB89.size⟩,
        fun k e => ((Kd.R_bound hr6).1 k e).2.2.1, fun k e => .inl ((Kd.R_bound hr7).1 k e).2.2.1⟩
    have H70 : Hid (∀ k, (Value.slice A7 ns.length c7).ownBlock = some k → k < w7.heap.size) := Lib.hid (fun k e => ((Kd.R_bound hr7).1 k e).2.2.1)
    have HR9 := Lib.hid hr9
    clear hv hr6 hr7 hr9 hk9 HB0 HB89 hk78 HA7 HA8 H7 H8 H78 HN8 hcs0 HM HVX HOK HIS
    refine start_ (n := 16) (S := fun w' => w'.heap[b]? = some (.cells #[.int .i64 5, .bool false, .bool false, .string ⟨#[]⟩, .int .i64 0, .string ⟨#[]⟩, .slice A6 xs.length c6, .slice A7 ns.length c7] 28 (0, 0)) ∧ w'.heap[w8.heap.size]? = some (.cells cs.toArray 28 (0, 0))) (ds := [11, 13, 14, 15]) #[false, false, false, false, false, false, false, false, false, false, false, false, false, false, false, false] (by kernel_rfl) rfl rfl ⟨HP.out.vc, HR9.out⟩ (fun hHeld => ?_)
    refine pure_ (i := 0) (N := some 32) (v := ?_) (a' := ?_) #[true, false, false, false, false, false, false, false, false, false, false, false, false, false, false, false] rfl rfl (by kernel_rfl) (fun _ _ _ h => h) (Or.inl ⟨by rfl, ?_⟩) ?_ ?_
    rotate_left
    · intro w'
      go_simp
      with_reducible rfl
    rotate_left
    · simp only [Act.put, List.setIfInBounds_toArray, List.set_cons_zero, List.set_cons_succ]
      rfl
    refine pure_ (i := 2) (N := some 34) (v := ?_) (a' := ?_) #[true, false, true, false, false, false, false, false, false, false, false, false, false, false, false, false] rfl rfl (by kernel_rfl) (fun _ _ _ h => h) (Or.inl ⟨by rfl, ?_⟩) ?_ ?_
    rotate_left
    · intro w'
      go_simp
      with_reducible rfl
    rotate_left
    · simp only [Act.put, List.setIfInBounds_toArray, List.set_cons_zero, List.set_cons_succ]
      rfl
    refine pure_ (i := 3) (N := some 35) (v := ?_) (a' := ?_) #[true, false, true, true, false, false, false, false, false, false, false, false, false, false, false, false] rfl rfl (by kernel_rfl) (fun _ _ _ h => h) (Or.inl ⟨by rfl, ?_⟩) ?_ ?_
    rotate_left
    · intro w'
      go_simp
      with_reducible rfl
    rotate_left
    · simp only [Act.put, List.setIfInBounds_toArray, List.set_cons_zero, List.set_cons_succ]
      rfl
    refine pure_ (i := 6) (N := some 38) (v := ?_) (a' := ?_) #[true, false, true, true, false, false, true, false, false, false, false, false, false, false, false, false] rfl rfl (by kernel_rfl) (fun _ _ _ h => h) (Or.inl ⟨by rfl, ?_⟩) ?_ ?_
    rotate_left
    · intro w'
      go_simp
      with_reducible rfl
    rotate_left
    · simp only [Act.put, List.setIfInBounds_toArray, List.set_cons_zero, List.set_cons_succ]
      rfl
    refine pure_ (i := 8) (N := some 40) (v := ?_) (a' := ?_) #[true, false, true, true, false, false, true, false, true, false, false, false, false, false, false, false] rfl rfl (by kernel_rfl) (fun _ _ _ h => h) (Or.inl ⟨by rfl, ?_⟩) ?_ ?_
    rotate_left
    · intro w'
      go_simp
      with_reducible rfl
    rotate_left
    · simp only [Act.put, List.setIfInBounds_toArray, List.set_cons_zero, List.set_cons_succ]
      rfl
    refine take_ (i := 1) (N := some 33) (v := ?_) (a' := ?_) #[true, true, true, true, false, false, true, false, true, false, false, false, false, false, false, false] rfl rfl (by kernel_rfl) (fun _ _ _ h => h) (Or.inl ⟨by rfl, ?_⟩) hHeld ?_ ?_
    rotate_left
    · rintro w' ⟨s0, s1⟩
      have q : w'.cell? ⟨b, 7, none⟩ = some (.slice A7 ns.length c7) := (blk_cell s0 7).trans rfl
      go_simp
      with_reducible rfl
    rotate_left
    · simp only [Act.put, List.setIfInBounds_toArray, List.set_cons_zero, List.set_cons_succ]
      rfl
    refine take_ (i := 7) (N := some 39) (v := ?_) (a' := ?_) #[true, true, true, true, false, false, true, true, true, false, false, false, false, false, false, false] rfl rfl (by kernel_rfl) (fun _ _ _ h => h) (Or.inl ⟨by rfl, ?_⟩) hHeld ?_ ?_
    rotate_left
    · rintro w' ⟨s0, s1⟩
      have q : w'.cell? ⟨b, 6, none⟩ = some (.slice A6 xs.length c6) := (blk_cell s0 6).trans rfl
      go_simp
      with_reducible rfl
    rotate_left
    · simp only [Act.put, List.setIfInBounds_toArray, List.set_cons_zero, List.set_cons_succ]
      rfl
    refine take_ (i := 9) (N := some 41) (v := .agg cs.toArray) (a' := ?_) #[true, true, true, true, false, false, true, true, true, true, false, false, false, false, false, false] rfl rfl (by kernel_rfl) (fun _ _ _ h => h) (Or.inl ⟨by rfl, ?_⟩) hHeld ?_ ?_
    · rintro w' ⟨s0, s1⟩
      exact exec_row rfl rfl s1 HI8.out
    rotate_left
    · simp only [Act.put, List.setIfInBounds_toArray, List.set_cons_zero, List.set_cons_succ]
      rfl
    have HI2 : Hid (i ≤ ns.length) := Lib.hid (by rw [← HI.out]; exact pos_le _ _)
    have HL2 : Hid (ns.length ≤ 1000000) := Lib.hid (by have := HLL.out.2.2; omega)
    have HSZ : Hid (w7.heap.size ≤ w8.heap.size ∧ w8.heap.size < w9.heap.size) := Lib.hid ⟨HP.out.lt.2.1, (Array.getElem?_eq_some_iff.1 HR9.out).1⟩
    refine join_ (σ := Value × Nat × Nat) 4 #[true, true, true, true, true, true, true, true, true, true, true, false, true, false, false, false] (fun s => [(36, .slice (some ⟨s.2.1, 0, none⟩) 1 1), (37, s.1), (42, .slice (some ⟨s.2.2, 0, none⟩) 1 1), (44, .pointer (some ⟨b, 7, none⟩))])
      (fun s w' => Rd w w' g (fv (objA ns a)).2 ∧ w'.heap[rb]? = some (.cells #[.pointer (some ⟨g, 0, none⟩)] 77 (0, 0)) ∧ w'.heap[b]? = some (.cells #[.int .i64 5, .bool false, .bool false, .string ⟨#[]⟩, .int .i64 0, .string ⟨#[]⟩, .slice A6 xs.length c6, .slice A7 ns.length c7] 28 (0, 0)) ∧ k28.R 28 w' base (fun k => some k ≠ s.1.ownBlock) (.slice A6 xs.length c6) xs ∧ Kd.string.R 9 w' base (fun _ => True) s.1 (put ns i (objN a)) ∧
        k28.M w' w7.heap.size (fun k => k < w8.heap.size ∧ some k ≠ s.1.ownBlock) (fv (objA ns a)).1 cs ∧ w'.heap[s.2.2]? = some (.cells cs.toArray 28 (0, 0)) ∧ w8.heap.size ≤ s.2.2) ?_ ?_
    rotate_left
    · intro hCont
      refine two_ (i := 4) (j := 10) (Ni := some 36) (Nj := some 42) #[true, true, true, true, true, false, true, true, true, true, false, false, false, false, false, false] #[true, true, true, true, false, false, true, true, true, true, true, false, false, false, false, false] rfl rfl rfl rfl (by kernel_rfl) (by decide) (by decide) (fun K hK => ?_) (fun K hK => ?_)
      ·
        refine value_ (v := .slice (some ⟨w9.heap.size, 0, none⟩) 1 1) (w1 := w9.drew.alloc (.cells #[.string (objN a)] 9)) (by rfl) rfl ?_ ?_
        · go_simp; try rfl
        have HP1 := Lib.hid (HP.out.drew.below (Below.alloc (Below.refl _ _) (Nat.le_refl _) (.cells #[.string (objN a)] 9)))
        have HX1 := Lib.hid (blk_alloc (w := w9.drew) HR9.out (.cells #[.string (objN a)] 9))
        have HMS := Lib.hid (blk_new w9.drew (.cells #[.string (objN a)] 9))
        have HWS : Hid ((w9.drew.alloc (.cells #[.string (objN a)] 9)).heap.size = w9.heap.size + 1) := Lib.hid (by simp)
        refine hK.out _ _ ⟨HP1.out.vc, HX1.out⟩ (fun hHeld => ?_)
        clear hK K
        refine norm_ (a' := ?_) ?_ ?_
        rotate_left
        · show Act.put _ (some 36) _ = _
          simp only [Act.put, List.setIfInBounds_toArray, List.set_cons_zero, List.set_cons_succ]
          rfl
        generalize w9.drew.alloc (.cells #[.string (objN a)] 9) = W1 at *
        refine two_ (i := 5) (j := 10) (Ni := some 37) (Nj := some 42) #[true, true, true, true, true, true, true, true, true, true, false, false, false, false, false, false] #[true, true, true, true, true, false, true, true, true, true, true, false, false, false, false, false] rfl rfl rfl rfl (by kernel_rfl) (by decide) (by decide) (fun K hK => ?_) (fun K hK => ?_)
        · refine goes_ Tryz.func99 (by kernel_rfl) rfl #[.slice A7 ns.length c7, .int .i64 i, .slice (some ⟨w9.heap.size, 0, none⟩) 1 1] (by rfl) rfl rfl (by (try simp only [List.map_toArray, List.map_cons, List.map_nil]); rfl) ?_
          refine (ObP.calls HP1.out HMS.out (fun k e => by have := H70.out k e; have := HSZ.out; have := HWS.out; simp at *; omega) HI2.out HL2.out HLL.out.1 HLL.out.2.1 ⟨HOB.out.1.1, HOB.out.1.2.1, HOB.out.1.2.2.1⟩ H70.out).mono ?_
          rintro E w4 ⟨vn, rfl, q1, q2, q3, q4, q5, q6, q7, q8⟩
          refine ⟨_, rfl, ?_⟩
          have hx4 := (q7.block w8.heap.size (Array.getElem?_eq_some_iff.1 HX1.out).1 (fun e => by have := H70.out _ e.symm; have := HSZ.out; omega)).trans HX1.out
          refine hK.out _ _ ⟨q3, hx4⟩ (fun hHeld => ?_)
          clear hK K
          refine norm_ (a' := ?_) ?_ ?_
          rotate_left
          · show Act.put _ (some 37) _ = _
            simp only [Act.put, List.setIfInBounds_toArray, List.set_cons_zero, List.set_cons_succ]
            rfl
          refine pure_ (i := 12) (N := some 44) (v := ?_) (a' := ?_) #[true, true, true, true, true, true, true, true, true, true, false, false, true, false, false, false] rfl rfl (by kernel_rfl) (fun _ _ _ h => h) (Or.inl ⟨by rfl, ?_⟩) ?_ ?_
          rotate_left
          · intro w'
            go_simp
            with_reducible rfl
          rotate_left
          · simp only [Act.put, List.setIfInBounds_toArray, List.set_cons_zero, List.set_cons_succ]
            rfl
          refine one_ (i := 10) (N := some 42) #[true, true, true, true, true, true, true, true, true, true, true, false, true, false, false, false] rfl rfl (by kernel_rfl) (by decide) (fun K hK => ?_)
          refine value_ (v := .slice (some ⟨w4.heap.size, 0, none⟩) 1 1) (w1 := w4.alloc (.cells cs.toArray 28)) (by rfl) rfl ?_ ?_
          · go_simp; rw [fold8 cs (by simpa using HL8.out)]; simp only [show cs.length = 8 by simpa using HL8.out]; go_simp; try rfl
          have k4 : Below w4.heap.size w4 (w4.alloc (.cells cs.toArray 28)) := Below.alloc (Below.refl _ _) (Nat.le_refl _) _
          refine hK.out _ _ ⟨blk_alloc q3 _, blk_alloc hx4 _⟩ (fun hHeld => ?_)
          clear hK K
          refine norm_ (a' := ?_) ?_ ?_
          rotate_left
          · show Act.put _ (some 42) _ = _
            simp only [Act.put, List.setIfInBounds_toArray, List.set_cons_zero, List.set_cons_succ]
            rfl
          refine norm_ (by simp only [putAll, Act.put, List.setIfInBounds_toArray, List.set_cons_zero, List.set_cons_succ]) (hCont (vn, w9.heap.size, w4.heap.size) _ ⟨q1.below k4, blk_alloc q2 _, blk_alloc q3 _, Kd.R_below q4 k4, Kd.R_below q5 k4, Kd.M_below q6 k4, blk_new w4 _, by have := q7.size; have := HWS.out; have := HSZ.out; show w8.heap.size ≤ w4.heap.size; omega⟩)
        · refine value_ (v := .slice (some ⟨W1.heap.size, 0, none⟩) 1 1) (w1 := W1.alloc (.cells cs.toArray 28)) (by rfl) rfl ?_ ?_
          · go_simp; rw [fold8 cs (by simpa using HL8.out)]; simp only [show cs.length = 8 by simpa using HL8.out]; go_simp; try rfl
          have HP2 := Lib.hid (HP1.out.below (Below.alloc (Below.refl _ _) (Nat.le_refl _) (.cells cs.toArray 28)))
          have HX2 := Lib.hid (blk_alloc HX1.out (.cells cs.toArray 28))
          have HMS2 := Lib.hid (blk_alloc HMS.out (.cells cs.toArray 28))
          have HMX := Lib.hid (blk_new W1 (.cells cs.toArray 28))
          refine hK.out _ _ ⟨HP2.out.vc, HX2.out⟩ (fun hHeld => ?_)
          clear hK K
          refine norm_ (a' := ?_) ?_ ?_
          rotate_left
          · show Act.put _ (some 42) _ = _
            simp only [Act.put, List.setIfInBounds_toArray, List.set_cons_zero, List.set_cons_succ]
            rfl
          refine one_ (i := 5) (N := some 37) #[true, true, true, true, true, true, true, true, true, true, true, false, false, false, false, false] rfl rfl (by kernel_rfl) (by decide) (fun K hK => ?_)
          refine goes_ Tryz.func99 (by kernel_rfl) rfl #[.slice A7 ns.length c7, .int .i64 i, .slice (some ⟨w9.heap.size, 0, none⟩) 1 1] (by rfl) rfl rfl (by (try simp only [List.map_toArray, List.map_cons, List.map_nil]); rfl) ?_
          refine (ObP.calls HP2.out HMS2.out (fun k e => by have := H70.out k e; have := HSZ.out; have := HWS.out; simp at *; omega) HI2.out HL2.out HLL.out.1 HLL.out.2.1 ⟨HOB.out.1.1, HOB.out.1.2.1, HOB.out.1.2.2.1⟩ H70.out).mono ?_
          rintro E w4 ⟨vn, rfl, q1, q2, q3, q4, q5, q6, q7, q8⟩
          refine ⟨_, rfl, ?_⟩
          have hx4 := (q7.block w8.heap.size (Array.getElem?_eq_some_iff.1 HX2.out).1 (fun e => by have := H70.out _ e.symm; have := HSZ.out; omega)).trans HX2.out
          have hmx4 := (q7.block _ (Array.getElem?_eq_some_iff.1 HMX.out).1 (fun e => by have := H70.out _ e.symm; have := HSZ.out; have := HWS.out; simp at *; omega)).trans HMX.out
          refine hK.out _ _ ⟨q3, hx4⟩ (fun hHeld => ?_)
          clear hK K
          refine norm_ (a' := ?_) ?_ ?_
          rotate_left
          · show Act.put _ (some 37) _ = _
            simp only [Act.put, List.setIfInBounds_toArray, List.set_cons_zero, List.set_cons_succ]
            rfl
          refine pure_ (i := 12) (N := some 44) (v := ?_) (a' := ?_) #[true, true, true, true, true, true, true, true, true, true, true, false, true, false, false, false] rfl rfl (by kernel_rfl) (fun _ _ _ h => h) (Or.inl ⟨by rfl, ?_⟩) ?_ ?_
          rotate_left
          · intro w'
            go_simp
            with_reducible rfl
          rotate_left
          · simp only [Act.put, List.setIfInBounds_toArray, List.set_cons_zero, List.set_cons_succ]
            rfl
          refine norm_ (by simp only [putAll, Act.put, List.setIfInBounds_toArray, List.set_cons_zero, List.set_cons_succ]) (hCont (vn, w9.heap.size, W1.heap.size) _ ⟨q1, q2, q3, q4, q5, q6, hmx4, by have := HWS.out; have := HSZ.out; show w8.heap.size ≤ W1.heap.size; omega⟩)
      · refine value_ (v := .slice (some ⟨w9.heap.size, 0, none⟩) 1 1) (w1 := w9.drew.alloc (.cells cs.toArray 28)) (by rfl) rfl ?_ ?_
        · go_simp; rw [fold8 cs (by simpa using HL8.out)]; simp only [show cs.length = 8 by simpa using HL8.out]; go_simp; try rfl
        have HP1 := Lib.hid (HP.out.drew.below (Below.alloc (Below.refl _ _) (Nat.le_refl _) (.cells cs.toArray 28)))
        have HX1 := Lib.hid (blk_alloc (w := w9.drew) HR9.out (.cells cs.toArray 28))
        have HMX := Lib.hid (blk_new w9.drew (.cells cs.toArray 28))
        have HWS : Hid ((w9.drew.alloc (.cells cs.toArray 28)).heap.size = w9.heap.size + 1) := Lib.hid (by simp)
        refine hK.out _ _ ⟨HP1.out.vc, HX1.out⟩ (fun hHeld => ?_)
        clear hK K
        refine norm_ (a' := ?_) ?_ ?_
        rotate_left
        · show Act.put _ (some 42) _ = _
          simp only [Act.put, List.setIfInBounds_toArray, List.set_cons_zero, List.set_cons_succ]
          rfl
        generalize w9.drew.alloc (.cells cs.toArray 28) = W1 at *
        refine one_ (i := 4) (N := some 36) #[true, true, true, true, true, false, true, true, true, true, true, false, false, false, false, false] rfl rfl (by kernel_rfl) (by decide) (fun K hK => ?_)
        refine value_ (v := .slice (some ⟨W1.heap.size, 0, none⟩) 1 1) (w1 := W1.alloc (.cells #[.string (objN a)] 9)) (by rfl) rfl ?_ ?_
        · go_simp; try rfl
        have HP2 := Lib.hid (HP1.out.below (Below.alloc (Below.refl _ _) (Nat.le_refl _) (.cells #[.string (objN a)] 9)))
        have HX2 := Lib.hid (blk_alloc HX1.out (.cells #[.string (objN a)] 9))
        have HMX2 := Lib.hid (blk_alloc HMX.out (.cells #[.string (objN a)] 9))
        have HMS2 := Lib.hid (blk_new W1 (.cells #[.string (objN a)] 9))
        refine hK.out _ _ ⟨HP2.out.vc, HX2.out⟩ (fun hHeld => ?_)
        clear hK K
        refine norm_ (a' := ?_) ?_ ?_
        rotate_left
        · show Act.put _ (some 36) _ = _
          simp only [Act.put, List.setIfInBounds_toArray, List.set_cons_zero, List.set_cons_succ]
          rfl
        refine one_ (i := 5) (N := some 37) #[true, true, true, true, true, true, true, true, true, true, true, false, false, false, false, false] rfl rfl (by kernel_rfl) (by decide) (fun K hK => ?_)
        refine goes_ Tryz.func99 (by kernel_rfl) rfl #[.slice A7 ns.length c7, .int .i64 i, .slice (some ⟨W1.heap.size, 0, none⟩) 1 1] (by rfl) rfl rfl (by (try simp only [List.map_toArray, List.map_cons, List.map_nil]); rfl) ?_
        refine (ObP.calls HP2.out HMS2.out (fun k e => by have := H70.out k e; have := HSZ.out; have := HWS.out; simp at *; omega) HI2.out HL2.out HLL.out.1 HLL.out.2.1 ⟨HOB.out.1.1, HOB.out.1.2.1, HOB.out.1.2.2.1⟩ H70.out).mono ?_
        rintro E w4 ⟨vn, rfl, q1, q2, q3, q4, q5, q6, q7, q8⟩
        refine ⟨_, rfl, ?_⟩
        have hx4 := (q7.block w8.heap.size (Array.getElem?_eq_some_iff.1 HX2.out).1 (fun e => by have := H70.out _ e.symm; have := HSZ.out; omega)).trans HX2.out
        have hmx4 := (q7.block _ (Array.getElem?_eq_some_iff.1 HMX2.out).1 (fun e => by have := H70.out _ e.symm; have := HSZ.out; have := HWS.out; simp at *; omega)).trans HMX2.out
        refine hK.out _ _ ⟨q3, hx4⟩ (fun hHeld => ?_)
        clear hK K
        refine norm_ (a' := ?_) ?_ ?_
        rotate_left
        · show Act.put _ (some 37) _ = _
          simp only [Act.put, List.setIfInBounds_toArray, List.set_cons_zero, List.set_cons_succ]
          rfl
        refine pure_ (i := 12) (N := some 44) (v := ?_) (a' := ?_) #[true, true, true, true, true, true, true, true, true, true, true, false, true, false, false, false] rfl rfl (by kernel_rfl) (fun _ _ _ h => h) (Or.inl ⟨by rfl, ?_⟩) ?_ ?_
        rotate_left
        · intro w'
          go_simp
          with_reducible rfl
        rotate_left
        · simp only [Act.put, List.setIfInBounds_toArray, List.set_cons_zero, List.set_cons_succ]
          rfl
        refine norm_ (by simp only [putAll, Act.put, List.setIfInBounds_toArray, List.set_cons_zero, List.set_cons_succ]) (hCont (vn, W1.heap.size, w9.heap.size) _ ⟨q1, q2, q3, q4, q5, q6, hmx4, by have := HWS.out; have := HSZ.out; show w8.heap.size ≤ w9.heap.size; omega⟩)
    · rintro ⟨vn, ms, mx⟩ W ⟨q1, q2, q3, q4, q5, q6, q7, q8⟩
      dsimp only at q4 q5 q6 q7 q8
      obtain ⟨An, nn, cn, hvn⟩ : ∃ A n c, vn = .slice A n c := by obtain ⟨A, c, e⟩ := Kd.R_slice q5; exact ⟨_, _, _, e⟩
      subst hvn
      have HB0 : Hid (∀ k, (Value.slice A6 xs.length c6).ownBlock = some k → base ≤ k ∧ k < w7.heap.size ∧ some k ≠ (Value.slice An nn cn).ownBlock) := Lib.hid (fun k e => ⟨((Kd.R_bound q4).1 k e).2.1, HP.out.own.1 k e, q4.1 k e⟩)
      have hmxs := (Array.getElem?_eq_some_iff.1 q7).1
      have hlt := HP.out.lt
      have HIN := Lib.hid (insV_R (i := i) (m := mx) q4 (k28.M_lower (base' := base) hlt.1 (k28.M_bound q6)) (fun k hk => ⟨hk.1.2, fun e => by have := (HB0.out k e.symm).2.1; have := hk.2.1; omega⟩) (fun k hk e => by have := ((Kd.R_bound q5).1 k e.symm).2.2.1; omega)
        (by have := HI2.out; have := HLL.out.2.2; omega) (by have := HLL.out.2.2; omega) (by omega) q7 (fun e => by have := (HB0.out mx e.symm).2.1; omega))
      have HQ := Lib.hid (And.intro q1 (And.intro q2 q3))
      have HR7 : Hid (Kd.string.R 9 W base (fun k => (Value.slice An nn cn).ownBlock = some k) (.slice An nn cn) (put ns i (objN a))) := Lib.hid ⟨fun k hk => hk, q5.2⟩
      have HWZ : Hid (base ≤ W.heap.size) := Lib.hid (by omega)
      clear q1 q2 q3 q4 q5 q6 q7 q8 hmxs hlt
      refine norm_ (a' := ?_) ?_ ?_
      rotate_left
      · simp only [putAll, Act.put, List.setIfInBounds_toArray, List.set_cons_zero, List.set_cons_succ]
        rfl
      refine last_ (i := 11) (N := some 43) #[true, true, true, true, true, true, true, true, true, true, true, true, true, false, false, false] rfl rfl (by kernel_rfl) (by decide) (fun K hK => ?_)
      refine goes_ Tryz.func100 (by kernel_rfl) rfl #[.slice A6 xs.length c6, .int .i64 i, .slice (some ⟨mx, 0, none⟩) 1 1] (by rfl) rfl rfl (by (try simp only [List.map_toArray, List.map_cons, List.map_nil]); rfl) ?_
      refine HIN.out.mono ?_
      rintro E w5 ⟨v1, rfl, hR, hg, hat⟩
      obtain ⟨A1, n1, c1, hv1⟩ : ∃ A n c, v1 = .slice A n c := by obtain ⟨A, c, e⟩ := Kd.R_slice hR; exact ⟨_, _, _, e⟩
      subst hv1
      change k28.R 28 w5 base _ _ (put xs i (fv (objA ns a)).1) at hR
      refine ⟨_, rfl, ?_⟩
      refine hK.out _ _ ?_
      clear hK K
      refine norm_ (a' := ?_) ?_ ?_
      rotate_left
      · show Act.put _ (some 43) _ = _
        simp only [Act.put, List.setIfInBounds_toArray, List.set_cons_zero, List.set_cons_succ]
        rfl
      have hv5 := (hg.block b (Array.getElem?_eq_some_iff.1 HQ.out.2.2).1 (fun e => by have := (HB0.out b e.symm).1; have := HOB.out.1.1; omega)).trans HQ.out.2.2
      have hr5 := (hg.block rb (Array.getElem?_eq_some_iff.1 HQ.out.2.1).1 (fun e => by have := (HB0.out rb e.symm).1; have := HOB.out.1.2.1; omega)).trans HQ.out.2.1
      have H5 := Lib.hid (HQ.out.1.grow hg (fun k e => by have := (HB0.out k e).1; have := HOB.out.1.2.2.1; have := HLL.out.2.1; exact ⟨by omega, by omega⟩))
      have HR5 := Lib.hid hR
      have HN5 : Hid (Kd.string.R 9 w5 base (fun _ => True) (.slice An nn cn) (put ns i (objN a))) := Lib.hid (Kd.R_mono (Kd.R_grown (Kd.R_bound HR7.out) hg (fun k hk e => (HB0.out k e.symm).2.2 hk.1.symm)) (fun _ _ => trivial))
      have HSZ5 := Lib.hid hg.size
      clear hR hg hat HIN
      have hv6 := blk_put hv5 7 (.slice An nn cn) rfl
      have hv7 := blk_put hv6 6 (.slice A1 n1 c1) rfl
      have hr6 := (Below.heap_setCell w5 ⟨b, 7, none⟩ (.slice An nn cn) rb (fun e => HOB.out.2.2.2 e.symm)).trans hr5
      have hr7 := (Below.heap_setCell (w5.setCell ⟨b, 7, none⟩ (.slice An nn cn)) ⟨b, 6, none⟩ (.slice A1 n1 c1) rb (fun e => HOB.out.2.2.2 e.symm)).trans hr6
      have HV := Lib.hid (And.intro hv7 hr7)
      have cA : w5.cell? ⟨b, 7, none⟩ = some (.slice A7 ns.length c7) := (blk_cell hv5 7).trans rfl
      have fA := blk_frozen hv5 7
      have cB : (w5.setCell ⟨b, 7, none⟩ (.slice An nn cn)).cell? ⟨b, 6, none⟩ = some (.slice A6 xs.length c6) := (blk_cell hv6 6).trans rfl
      have fB := blk_frozen hv6 6
      clear hv5 hr5 hv6 hv7 hr6 hr7
      refine last_ (i := 13) (N := none) #[true, true, true, true, true, true, true, true, true, true, true, true, true, true, false, false] rfl rfl (by kernel_rfl) (by decide) (fun K hK => ?_)
      refine skip_ (w1 := w5.setCell ⟨b, 7, none⟩ (.slice An nn cn)) (by rfl) rfl ?_ ?_
      · go_simp
      refine hK.out _ _ ?_
      clear hK K cA fA
      refine last_ (i := 14) (N := some 45) #[true, true, true, true, true, true, true, true, true, true, true, true, true, true, true, false] rfl rfl (by kernel_rfl) (by decide) (fun K hK => ?_)
      refine value_ (v := .pointer (some ⟨b, 6, none⟩)) (w1 := w5.setCell ⟨b, 7, none⟩ (.slice An nn cn)) (by rfl) rfl ?_ ?_
      · go_simp
      refine hK.out _ _ ?_
      clear hK K
      refine norm_ (a' := ?_) ?_ ?_
      rotate_left
      · show Act.put _ (some 45) _ = _
        simp only [Act.put, List.setIfInBounds_toArray, List.set_cons_zero, List.set_cons_succ]
        rfl
      refine last_ (i := 15) (N := none) #[true, true, true, true, true, true, true, true, true, true, true, true, true, true, true, true] rfl rfl (by kernel_rfl) (by decide) (fun K hK => ?_)
      refine skip_ (w1 := (w5.setCell ⟨b, 7, none⟩ (.slice An nn cn)).setCell ⟨b, 6, none⟩ (.slice A1 n1 c1)) (by rfl) rfl ?_ ?_
      · go_simp
      refine hK.out _ _ ?_
      refine done_ (by kernel_rfl) ?_
      clear hK K cB fB
      go_end0
      rw [← HRR.out, HI.out]
      refine ⟨rfl, (H5.out.far (grown_set _ b 7 _) HOB.out.2.1 HLL.out.1).far (grown_set _ b 6 _) HOB.out.2.1 HLL.out.1, HV.out.2, ⟨_, _, HV.out.1, ?_, ?_⟩, ⟨HOB.out.1.1, HOB.out.1.2.1, HOB.out.1.2.2.1, ?_⟩, HOB.out.2⟩
      · exact Kd.R_mono (Kd.R_far (Kd.R_bound (Kd.R_mono (Kd.R_far (Kd.R_bound HR5.out) (p := ⟨b, 7, none⟩) (fun k hk => by have := hk.2.1; have := HOB.out.1.1; show k ≠ b; omega) (.slice An nn cn)) (fun _ hk => hk.1))) (p := ⟨b, 6, none⟩) (fun k hk => by have := hk.2.1; have := HOB.out.1.1; show k ≠ b; omega) (.slice A1 n1 c1)) (fun _ hk => hk.1)
      · exact Kd.R_mono (Kd.R_far (Kd.R_bound (Kd.R_mono (Kd.R_far (Kd.R_bound HN5.out) (p := ⟨b, 7, none⟩) (fun k hk => by have := hk.2.1; have := HOB.out.1.1; show k ≠ b; omega) (.slice An nn cn)) (fun _ _ => trivial))) (p := ⟨b, 6, none⟩) (fun k hk => by have := hk.2.1; have := HOB.out.1.1; show k ≠ b; omega) (.slice A1 n1 c1)) (fun _ _ => trivial)
      · have h1 := HQ.out.1.kp.size; have h2 := HSZ5.out; have h3 := HLL.out; have h4 := (grown_set w5 b 7 (.slice An nn cn)).size; have h5 := (grown_set (w5.setCell ⟨b, 7, none⟩ (.slice An nn cn)) b 6 (.slice A1 n1 c1)).size; have h6 := HWZ.out; omega
end Js
end Go.Proofs.YtapcpndplnkfjaaGreatDoor
namespace Go.Proofs.YtapcpndplnkfjaaGreatDoor
open Go.RowKit Go.Proofs.YtapcpndplnkfjaaGreatDoorW.PrintWords Go.Proofs.YtapcpndplnkfjaaGreatDoorW.PrintLast Go.Proofs.YtapcpndplnkfjaaGreatDoorW.PrintMore
set_option linter.unusedVariables false
set_option linter.unusedSimpArgs false
namespace Js
section
variable {σ : Type}
set_option maxRecDepth 100000 in
set_option maxHeartbeats 8000000 in
theorem list_68 {w w1 : World} {g : Nat} {cap : Array Value} {Inv : World → σ → Prop} {st : σ → S → σ × S} {P P1 : σ → S → Prop} (HT : Thing w g 97 cap Inv st P P1) (p : List UInt8) {x : σ} {a : S} (h : Rd w w1 g a) (hI : Inv w1 x) (ho : 0 ≤ a.o ∧ a.o ≤ 100) (hs : a.s ≠ [])
    (hP : a.enter.took p = false → P x (a.enter.take p)) (hop : 0 ≤ a.enter.o ∧ a.enter.o ≤ 1000) :
    Calls Tryz.prog 95 #[.pointer (some ⟨g, 0, none⟩), .string (ofL p), .func (.func 97) #[] cap] w1 fun E w' => E = .returned (.tuple #[]) ∧ Rd w w' g (listF st p x a).2 ∧ Inv w' (listF st p x a).1 := by
  have H := Lib.hid h
  have HI := Lib.hid hI
  have HTT := Lib.hid HT
  have HOS := Lib.hid (And.intro ho hs)
  have HP := Lib.hid hP
  have HOP := Lib.hid hop
  obtain ⟨R, hR⟩ : ∃ R, listF st p x a = R := ⟨_, rfl⟩
  have HR := Lib.hid hR
  rw [hR]
  clear h hI HT ho hs hP hop hR
  go_enter Tryz.func95, Tryz.ntmps95
  go_wp2_with fail
  refine (enter_calls H.out.now HOS.out.1 HOS.out.2).mono ?_
  rintro E w2 ⟨rfl, h2⟩
  have HI2 := Lib.hid (HTT.out.kept _ _ _ HI.out h2.kp)
  have H2 := Lib.hid (H.out.trans h2)
  clear h2
  go_wp2_with fail
  refine (took_calls H2.out.now p).mono ?_
  rintro E w3 ⟨rfl, h3⟩
  have HI3 := Lib.hid (HTT.out.kept _ _ _ HI2.out h3.kp)
  have H3 := Lib.hid (H2.out.trans h3)
  clear h3
  cases hk : a.enter.took p with
  | true =>
    have HF : Hid ((a.enter.take p).left = R.2 ∧ R.1 = x) := Lib.hid (by rw [← HR.out]; unfold listF; rw [if_pos hk]; exact ⟨rfl, rfl⟩)
    have c1 := H3.out.c1
    have f1 := H3.out.fz 1
    have o0 : 0 ≤ (a.enter.take p).o := by rw [take_o]; exact HOP.out.1
    have o1 : (a.enter.take p).o ≤ 1000 := by rw [take_o]; exact HOP.out.2
    clear hk
    go_wp2
    go_end0
    exact ⟨rfl, by rw [← HF.out.1]; exact H3.out.s1 _, by rw [HF.out.2]; exact HTT.out.kept _ _ _ HI3.out (grown_set _ _ _ _)⟩
  | false =>
    have HF : Hid (listLoop st ((st x (a.enter.take p)).2.s.length + 1) (st x (a.enter.take p)).1 (st x (a.enter.take p)).2 = (R.1, (listLoop st ((st x (a.enter.take p)).2.s.length + 1) (st x (a.enter.take p)).1 (st x (a.enter.take p)).2).2) ∧ ((listLoop st ((st x (a.enter.take p)).2.s.length + 1) (st x (a.enter.take p)).1 (st x (a.enter.take p)).2).2.need p).left = R.2) := Lib.hid (by
      rw [← HR.out]; unfold listF; rw [if_neg (by rw [hk]; simp)]; exact ⟨rfl, rfl⟩)
    have HPx := Lib.hid (HP.out hk)
    clear hk
    go_wp2_with fail
    refine (HTT.out.calls _ _ _ H3.out HI3.out HPx.out).mono ?_
    rintro E w4 ⟨rfl, h4, hI4⟩
    have H4 := Lib.hid h4
    have HI4 := Lib.hid hI4
    have HP4 := Lib.hid (HTT.out.step _ _ HPx.out)
    clear h4 hI4
    generalize hx1 : (st x (a.enter.take p)).1 = x1 at *
    generalize ha1 : (st x (a.enter.take p)).2 = a1 at *
    generalize hq : (listLoop st (a1.s.length + 1) x1 a1).2 = q at *
    go_wp2_with fail
    go_loopg [] a1.s.length (fun gk wr => ∃ y b k, gk = b.s.length ∧ b.s.length < k ∧ Rd w wr g b ∧ Inv wr y ∧ P1 y b ∧ listLoop st k y b = (R.1, q))
    case atStart => exact ⟨x1, a1, a1.s.length + 1, rfl, Nat.lt_succ_self _, H4.out, HI4.out, HP4.out, HF.out.1⟩
    case round =>
      obtain ⟨y, b, k, rfl, hk, hrd, hinv, hp1, hll⟩ := hrel
      have H5 := Lib.hid hrd
      have HI5 := Lib.hid hinv
      have HP5 := Lib.hid hp1
      have HLL := Lib.hid hll
      have HK := Lib.hid hk
      clear hrd hinv hp1 hll hk
      go_wp2_with fail
      refine (took_calls H5.out.now [44]).mono ?_
      rintro E w6 ⟨rfl, h6⟩
      have HI6 := Lib.hid (HTT.out.kept _ _ _ HI5.out h6.kp)
      have H6 := Lib.hid (H5.out.trans h6)
      clear h6
      cases hk : b.took [44] with
      | true =>
        have HPy := Lib.hid (HTT.out.more _ _ HP5.out hk)
        have HLT := Lib.hid (took_lt b 44 hk)
        have HL2 : Hid (listLoop st (k - 1) (st y (b.take [44])).1 (st y (b.take [44])).2 = (R.1, q)) := Lib.hid (by
          have hl := HLL.out
          obtain ⟨k', rfl⟩ : ∃ k', k = k' + 1 := ⟨k - 1, by have := HK.out; omega⟩
          rw [listLoop, if_pos hk] at hl
          exact hl)
        clear hk
        go_wp2_with fail
        refine (HTT.out.calls _ _ _ H6.out HI6.out HPy.out).mono ?_
        rintro E w7 ⟨rfl, h7, hI7⟩
        have H7 := Lib.hid h7
        have HI7 := Lib.hid hI7
        clear h7 hI7
        go_wp2
        go_roundg ((st y (b.take [44])).2.s.length)
        case measure => have := HTT.out.len _ _ HPy.out; have := HLT.out; omega
        case rel => exact ⟨_, _, k - 1, rfl, by have := HTT.out.len _ _ HPy.out; have := HLT.out; have := HK.out; omega, H7.out, HI7.out, HTT.out.step _ _ HPy.out, HL2.out⟩
      | false =>
        have HQ : Hid (y = R.1 ∧ b.take [44] = q) := Lib.hid (by
          have hl := HLL.out
          obtain ⟨k', rfl⟩ : ∃ k', k = k' + 1 := ⟨k - 1, by have := HK.out; omega⟩
          rw [listLoop, if_neg (by rw [hk]; simp)] at hl
          injection hl with h1 h2
          exact ⟨h1, h2⟩)
        have HOB := Lib.hid (HTT.out.open_ _ _ HP5.out)
        clear hk
        go_wp2_with fail
        refine (need_calls H6.out.now p).mono ?_
        rintro E w8 ⟨rfl, h8⟩
        have HI8 := Lib.hid (HTT.out.kept _ _ _ HI6.out h8.kp)
        have H8 := Lib.hid (H6.out.trans h8)
        clear h8
        have c1 := H8.out.c1
        have f1 := H8.out.fz 1
        have o0 : 0 ≤ ((b.take [44]).need p).o := by rw [need_o, take_o]; exact HOB.out.1
        have o1 : ((b.take [44]).need p).o ≤ 1000 := by rw [need_o, take_o]; exact HOB.out.2
        go_wp2
        go_end0
        exact ⟨rfl, by rw [← HF.out.2, ← HQ.out.2]; exact H8.out.s1 _, by rw [← HQ.out.1]; exact HTT.out.kept _ _ _ HI8.out (grown_set _ _ _ _)⟩
end
structure GoodO (fv : S → S28 × S) (ok Q : S → Prop) : Prop extends Good fv ok Q where
  obj : ∀ a ns, Q a → Q (objA ns a)
  bad : ∀ a, Q a → Q (a.skip.fail 11)
theorem twice_s (a : S) (b : Bool) : (a.twice b).s = a.s := by unfold S.twice; split <;> simp [fail_s]
theorem trim_len (l p : List UInt8) : (Lib.trimPrefix l p).length ≤ l.length := by unfold Lib.trimPrefix; split <;> simp
theorem take_len (a : S) (p : List UInt8) : (a.take p).s.length ≤ a.s.length := by
  have h := skip_len a
  unfold S.take
  split
  · exact Nat.le_trans (trim_len _ _) h
  · exact h
theorem need_len (a : S) (p : List UInt8) : (a.need p).s.length ≤ a.s.length := by
  unfold S.need
  split
  · exact take_len a p
  · rw [fail_s]; exact take_len a p
theorem objA_len (ns : List ByteArray) (a : S) : (objA ns a).s.length ≤ a.s.length := by
  unfold objA
  have h1 := need_len (S.twice a.skip.st.2 (has ns (objN a))) [58]
  rw [twice_s] at h1
  have h2 := (st_len a.skip).1
  have h3 := skip_len a
  omega
theorem put_length {α : Type} (l : List α) (i : Nat) (x : α) : (put l i x).length = l.length + 1 := by unfold put; simp; omega
theorem obj_thing {fv : S → S28 × S} {ok Q : S → Prop} (HV : VCalls 34 ok fv) (HG : GoodO fv ok Q) {w : World} {base b rb g : Nat} (hb : w.heap.size ≤ b) (hbase : w.heap.size ≤ base) :
    Thing w g 97 #[.pointer (some ⟨rb, 0, none⟩), .pointer (some ⟨b, 0, none⟩)] (fun w' p => Ob w' base b rb g p.1 p.2) (objT fv) (fun p a => p.1.length + a.s.length ≤ 900000 ∧ p.2.length = p.1.length ∧ Q a) (fun p a => p.1.length + a.s.length ≤ 900001 ∧ p.2.length = p.1.length ∧ Q a) where
  calls := fun w1 p a h hI hP => obj_step fv ok HV h hI (HG.ok_ _ (HG.obj a _ hP.2.2)) hb hbase ⟨by have := hP.1; omega, hP.2.1, by have := (HG.bnd a hP.2.2).2.2; omega⟩
  kept := fun w1 w2 p h k => h.kept k
  len := fun p a hP => by
    unfold objT
    split
    · rw [fail_s]; exact skip_len a
    · rename_i h; exact Nat.le_trans (HG.len _ (HG.obj a _ hP.2.2)) (objA_len _ _)
  step := fun p a hP => by
    unfold objT
    split
    · exact ⟨by have h1 := skip_len a; have h2 := hP.1; show p.1.length + (a.skip.fail 11).s.length ≤ 900001; rw [fail_s]; omega, hP.2.1, HG.bad a hP.2.2⟩
    · rename_i h
      have hq := HG.obj a p.2 hP.2.2
      exact ⟨by have h1 := HG.len _ hq; have h2 := objA_len p.2 a; have h3 := hP.1; show (put p.1 _ _).length + (fv (objA p.2 a)).2.s.length ≤ 900001; rw [put_length]; omega, by simp only [put_length]; rw [hP.2.1], HG.next _ hq⟩
  more := fun p a hP ht => ⟨by have := took_lt a 44 ht; have := hP.1; omega, hP.2.1, HG.take a _ hP.2.2⟩
  open_ := fun p a hP => ⟨(HG.bnd a hP.2.2).1, (HG.bnd a hP.2.2).2.1⟩
def S.obj (fv : S → S28 × S) (a : S) : S28 × S := let r := listF (objT fv) [125] ([], []) a; (⟨5, false, z24, ⟨#[]⟩, r.1.1, r.1.2⟩, r.2)
set_option maxRecDepth 100000 in
set_option maxHeartbeats 8000000 in
theorem object_calls {fv : S → S28 × S} {ok Q : S → Prop} (HV : VCalls 34 ok fv) (HG : GoodO fv ok Q) :
    VCalls 69 (fun a => (0 ≤ a.o ∧ a.o ≤ 100) ∧ a.s ≠ [] ∧ (0 ≤ a.enter.o ∧ a.enter.o ≤ 1000) ∧ Q (a.enter.take [125])) (S.obj fv) := by
  intro w w1 g a h hok
  have H := Lib.hid h
  have HOK := Lib.hid hok
  have HVG := Lib.hid (And.intro HV HG)
  clear h hok HV HG
  go_enter Tryz.func69, Tryz.ntmps69
  obtain ⟨w2, hw2⟩ : ∃ w2, w2 = (w1.alloc (.cells #[.pointer (some ⟨g, 0, none⟩)] 77)).alloc (.cells #[.int .i64 0, .bool false, .bool false, .string ⟨#[]⟩, .int .i64 0, .string ⟨#[]⟩, .slice none 0 0, .slice none 0 0] 28) := ⟨_, rfl⟩
  have HW2 := Lib.hid hw2
  clear hw2
  have hsz : w2.heap.size = w1.heap.size + 2 := by rw [HW2.out]; simp
  have HSZ := Lib.hid hsz
  clear hsz
  have H2 : Hid (Rd w w2 g a) := Lib.hid (by rw [HW2.out]; exact H.out.below ((Below.alloc (Below.refl _ _) (Nat.le_refl _) _).alloc (by simp) _))
  have hrb : w2.heap[w1.heap.size]? = some (.cells #[.pointer (some ⟨g, 0, none⟩)] 77 (0, 0)) := by rw [HW2.out]; exact blk_alloc (blk_new w1 _) _
  have hrz : w2.heap[w1.heap.size + 1]? = some (.cells #[.int .i64 0, .bool false, .bool false, .string ⟨#[]⟩, .int .i64 0, .string ⟨#[]⟩, .slice none 0 0, .slice none 0 0] 28 (0, 0)) := by
    rw [HW2.out]; have := blk_new (w1.alloc (.cells #[.pointer (some ⟨g, 0, none⟩)] 77)) (.cells #[.int .i64 0, .bool false, .bool false, .string ⟨#[]⟩, .int .i64 0, .string ⟨#[]⟩, .slice none 0 0, .slice none 0 0] 28); simpa using this
  have hvb : (w2.alloc (.cells #[.int .i64 5, .bool false, .bool false, .string ⟨#[]⟩, .int .i64 0, .string ⟨#[]⟩, .slice none 0 0, .slice none 0 0] 28)).heap[w1.heap.size + 1 + 1]? = some (.cells #[.int .i64 5, .bool false, .bool false, .string ⟨#[]⟩, .int .i64 0, .string ⟨#[]⟩, .slice none 0 0, .slice none 0 0] 28 (0, 0)) := by
    have := blk_new w2 (.cells #[.int .i64 5, .bool false, .bool false, .string ⟨#[]⟩, .int .i64 0, .string ⟨#[]⟩, .slice none 0 0, .slice none 0 0] 28); rw [HSZ.out] at this; exact this
  have hgl := H.out.lt
  have HAR : Hid (Ob (w2.alloc (.cells #[.int .i64 5, .bool false, .bool false, .string ⟨#[]⟩, .int .i64 0, .string ⟨#[]⟩, .slice none 0 0, .slice none 0 0] 28)) (w1.heap.size + 3) (w1.heap.size + 1 + 1) w1.heap.size g [] []) := Lib.hid
    ⟨blk_alloc hrb _, ⟨_, _, hvb, Kd.R_nil _ _ _ _ _, Kd.R_nil _ _ _ _ _⟩, ⟨by omega, by omega, by omega, by simp [HSZ.out]⟩, ⟨by omega, by omega, by omega⟩⟩
  have HRZ := Lib.hid hrz
  have HGL := Lib.hid hgl
  have HT := Lib.hid (obj_thing HVG.out.1 HVG.out.2 (w := w2) (base := w1.heap.size + 3) (b := w1.heap.size + 1 + 1) (rb := w1.heap.size) (g := g) (by have := HSZ.out; omega) (by have := HSZ.out; omega))
  have HPX : Hid (Q (a.enter.take [125])) := Lib.hid HOK.out.2.2.2
  clear hrb hrz hvb hgl
  go_wp2_with fail
  rw [← HW2.out]
  refine (list_68 HT.out [125] (x := (([] : List S28), ([] : List ByteArray))) (H2.out.now.below (Below.alloc (Below.refl _ _) (Nat.le_refl _) _)) HAR.out HOK.out.1 HOK.out.2.1 (fun _ => ⟨by have := (HVG.out.2.bnd _ HPX.out).2.2; simp; omega, rfl, HPX.out⟩) HOK.out.2.2.1).mono ?_
  rintro E w4 ⟨rfl, h4, hA4⟩
  obtain ⟨v6, v7, hv6, hr6, hr7⟩ := hA4.vc
  have HR4 := Lib.hid (h4.keep HRZ.out (by have := HGL.out; omega))
  have HV6 := Lib.hid hv6
  have H4 := Lib.hid (H2.out.trans h4)
  have HX4 := Lib.hid (k28.M_mono (ok' := fun _ => True) (fun _ _ => trivial) (k28_mkM w4 (w1.heap.size + 3) (fun _ => True) (S.obj fv a).1 (v6 := v6) (Kd.R_mono hr6 (fun _ _ => trivial)) hr7))
  have hone : (#[.int .i64 5, .bool false, .bool false, .string ⟨#[]⟩, .int .i64 0, .string ⟨#[]⟩, v6, v7] : Array Value).toList.all (·.oneCell') = true := List.all_eq_true.2 (fun u hu => k28.K_one (k28.K_of_M HX4.out) u hu)
  have HON := Lib.hid hone
  have HLW := Lib.hid H.out.kp.size
  clear h4 hA4 hv6 hr6 hr7 hone
  go_wp2_with (first | (refine wpList_load_row rfl 28 (.tmp 3) rfl (w1.heap.size + 1 + 1) rfl 28 _ (0, 0) _ HV6.out Tryz.underlying28 rfl (by kernel_rfl) ?_) | (refine row_event rfl 28 (.tmp 2) (.tmp 8) rfl (w1.heap.size + 1) _ rfl rfl 28 _ HR4.out (by kernel_rfl) rfl HON.out ?_; intro w9 hr9 hk9))
  refine bodyPost_ret (results_cell_row rfl _ _ (w1.heap.size + 1) 28 _ (0, 0) _ rfl hr9 Tryz.underlying28 rfl (by kernel_rfl)) rfl ⟨_, rfl, Jv.up HX4.out hk9 (by omega) (by omega), ?_⟩
  exact H4.out.far hk9 (by have := HGL.out; omega) (by have := HLW.out; omega)
end Js
end Go.Proofs.YtapcpndplnkfjaaGreatDoor
namespace Go.Proofs.YtapcpndplnkfjaaGreatDoor
open Go.RowKit Go.Proofs.YtapcpndplnkfjaaGreatDoorW.PrintWords Go.Proofs.YtapcpndplnkfjaaGreatDoorW.PrintLast Go.Proofs.YtapcpndplnkfjaaGreatDoorW.PrintMore
set_option linter.unusedVariables false
set_option linter.unusedSimpArgs false
namespace Js
def textV (a : S) : S28 × S := (⟨3, false, z24, ofL a.st.1, [], []⟩, a.st.2)
def fvN : Nat → S → S28 × S
  | 0, a => (z28, a.skip)
  | n + 1, a => S.value textV (S.arr (fvN n)) (S.obj (fvN n)) a
structure Keeps (a b : S) : Prop where
  len : b.s.length ≤ a.s.length
  o : b.o = a.o
  e : a.e ≠ 0 → b.e ≠ 0
theorem Keeps.refl (a : S) : Keeps a a := ⟨Nat.le_refl _, rfl, fun h => h⟩
theorem Keeps.trans {a b c : S} (h : Keeps a b) (k : Keeps b c) : Keeps a c := ⟨Nat.le_trans k.len h.len, k.o.trans h.o, fun x => k.e (h.e x)⟩
theorem keeps_skip (a : S) : Keeps a a.skip := ⟨skip_len a, rfl, fun h => h⟩
theorem keeps_fail (a : S) (x : Int) (hx : x ≠ 0) : Keeps a (a.fail x) := ⟨by rw [fail_s]; exact Nat.le_refl _, fail_o a x, fun h => by unfold S.fail; simp [h]⟩
theorem keeps_take (a : S) (p : List UInt8) : Keeps a (a.take p) := ⟨take_len a p, take_o a p, fun h => by unfold S.take; split <;> exact h⟩
theorem keeps_need (a : S) (p : List UInt8) : Keeps a (a.need p) := by
  unfold S.need
  split
  · exact keeps_take a p
  · exact (keeps_take a p).trans (keeps_fail _ 11 (by decide))
theorem keeps_st (a : S) : Keeps a a.st.2 := ⟨(st_len a).1, (st_len a).2.1, (st_len a).2.2⟩
theorem keeps_num (a : S) : Keeps a a.numS := by
  unfold S.numS
  refine ⟨numR_le a, ?_, fun h => ?_⟩
  · simp only []; split
    · rfl
    · exact fail_o _ _
  · simp only []; split
    · exact h
    · exact (keeps_fail a _ (by assumption)).e h
theorem keeps_objA (ns : List ByteArray) (a : S) : Keeps a (objA ns a) := by
  unfold objA
  refine ((keeps_skip a).trans (keeps_st _)).trans (Keeps.trans ?_ (keeps_need _ _))
  unfold S.twice
  split
  · exact keeps_fail _ 31 (by decide)
  · exact Keeps.refl _
theorem keeps_loop {σ : Type} {st : σ → S → σ × S} (h : ∀ x a, Keeps a (st x a).2) : ∀ n x a, Keeps a (listLoop st n x a).2
  | 0, x, a => Keeps.refl a
  | n + 1, x, a => by
    unfold listLoop
    split
    · exact ((keeps_take a _).trans (h _ _)).trans (keeps_loop h n _ _)
    · exact keeps_take a _
theorem enter_facts (a : S) : a.enter.s.length ≤ a.s.length ∧ a.enter.o = a.o + 1 ∧ (a.e ≠ 0 → a.enter.e ≠ 0) ∧ (a.o = 16 → a.enter.e ≠ 0) := by
  have h0 : a.enter0.s = a.s ∧ a.enter0.o = a.o ∧ (a.e ≠ 0 → a.enter0.e ≠ 0) ∧ (a.o = 16 → a.enter0.e ≠ 0) := by
    unfold S.enter0
    split
    · exact ⟨fail_s _ _, fail_o _ _, (keeps_fail a 35 (by decide)).e, fun _ => by unfold S.fail; simp only []; split <;> simp_all⟩
    · exact ⟨rfl, rfl, fun h => h, fun h => by contradiction⟩
  unfold S.enter S.enter1
  split
  · rename_i h; exact ⟨by simp [h0.1], by simp [h0.2.1], fun x => absurd h (h0.2.2.1 x), fun x => absurd h (h0.2.2.2 x)⟩
  · rename_i h; exact ⟨by simp [h0.1], by simp [h0.2.1], fun _ => h, fun _ => h⟩
theorem keeps_list {σ : Type} {st : σ → S → σ × S} (h : ∀ x a, Keeps a (st x a).2) (p : List UInt8) (x : σ) (a : S) : Keeps a (listF st p x a).2 := by
  have he := enter_facts a
  have hl : ∀ b, Keeps a.enter b → Keeps a b.left := fun b k => ⟨Nat.le_trans k.len he.1, by unfold S.left; simp only []; rw [k.o, he.2.1]; omega, fun x => k.e (he.2.2.1 x)⟩
  unfold listF
  split
  · exact hl _ (keeps_take _ _)
  · exact hl _ (((keeps_take _ _).trans (h _ _)).trans ((keeps_loop h _ _ _).trans (keeps_need _ _)))
theorem keeps_value {ft fa fo : S → S28 × S} (h1 : ∀ a, Keeps a (ft a).2) (h2 : ∀ a, Keeps a (fa a).2) (h3 : ∀ a, Keeps a (fo a).2) (a : S) : Keeps a (S.value ft fa fo a).2 := by
  refine (keeps_skip a).trans ?_
  unfold S.value
  generalize a.skip = b
  unfold S.value1
  repeat' split
  all_goals first | exact Keeps.refl _ | exact keeps_fail _ 11 (by decide) | exact keeps_need _ _ | exact h1 _ | exact h2 _ | exact h3 _ | exact keeps_num _
theorem keeps_fv : ∀ n a, Keeps a (fvN n a).2
  | 0, a => keeps_skip a
  | n + 1, a => keeps_value (ft := textV) (fa := S.arr (fvN n)) (fo := S.obj (fvN n)) (fun a => keeps_st a) (fun a => keeps_list (st := arrT (fvN n)) (fun x a => keeps_fv n a) [93] [] a) (fun a => keeps_list (st := objT (fvN n)) (fun x a => by
      unfold objT
      split
      · exact (keeps_skip a).trans (keeps_fail _ 11 (by decide))
      · exact (keeps_objA _ a).trans (keeps_fv n _)) [125] ([], []) a) a
def Qn (n : Nat) (a : S) : Prop := a.s.length ≤ 900000 ∧ a.o + n = 17 ∧ (n = 0 → a.e ≠ 0) ∧ n ≤ 17
theorem Qn.keeps {n : Nat} {a b : S} (h : Qn n a) (k : Keeps a b) : Qn n b := ⟨Nat.le_trans k.len h.1, by rw [k.o]; exact h.2.1, fun e => k.e (h.2.2.1 e), h.2.2.2⟩
theorem good_n (n : Nat) : GoodO (fvN n) (Qn n) (Qn n) where
  ok_ := fun a h => h
  next := fun a h => h.keeps (keeps_fv n a)
  take := fun a q h => h.keeps (keeps_take a q)
  len := fun a h => (keeps_fv n a).len
  bnd := fun a h => ⟨by have := h.2.1; have := h.2.2.2; omega, by have := h.2.1; omega, h.1⟩
  obj := fun a ns h => h.keeps (keeps_objA ns a)
  bad := fun a h => h.keeps ((keeps_skip a).trans (keeps_fail _ 11 (by decide)))
theorem Qn.enter {n : Nat} {a : S} (h : Qn (n + 1) a) : Qn n a.enter := by
  have he := enter_facts a
  exact ⟨Nat.le_trans he.1 h.1, by rw [he.2.1]; have := h.2.1; push_cast at this; omega, fun e => he.2.2.2 (by have := h.2.1; subst e; push_cast at this; omega), by have := h.2.2.2; omega⟩
theorem v_none (fn : Nat) (f : S → S28 × S) : VCalls fn (fun _ => False) f := fun _ _ _ _ _ h => h.elim
theorem value_n : ∀ n, VCalls 34 (Qn n) (fvN n)
  | 0 => fun w w1 g a h hq => by
    have hv := value_calls textV textV textV _ _ _ (v_none 67 textV) (v_none 68 textV) (v_none 69 textV) w w1 g a h ⟨by have := hq.1; omega, fun e => absurd e (hq.2.2.1 rfl)⟩
    have : S.value textV textV textV a = (z28, a.skip) := by unfold S.value S.value1; rw [if_pos (show a.skip.e ≠ 0 from hq.2.2.1 rfl)]
    rw [this] at hv
    exact hv
  | n + 1 => fun w w1 g a h hq => by
    have hs : Qn (n + 1) a.skip := hq.keeps (keeps_skip a)
    have hne : ∀ c, a.skip.s.head? = some c → a.skip.s ≠ [] := fun c e e2 => by rw [e2] at e; cases e
    have hen := hs.enter
    have hb : ∀ q, (0 ≤ a.skip.o ∧ a.skip.o ≤ 100) ∧ (0 ≤ a.skip.enter.o ∧ a.skip.enter.o ≤ 1000) ∧ Qn n (a.skip.enter.take q) := fun q =>
      ⟨⟨by have := hs.2.1; have := hs.2.2.2; push_cast at *; omega, by have := hs.2.1; push_cast at *; omega⟩, ⟨((good_n n).bnd _ hen).1, ((good_n n).bnd _ hen).2.1⟩, hen.keeps (keeps_take _ q)⟩
    exact value_calls textV (S.arr (fvN n)) (S.obj (fvN n)) _ _ _ text_v (array_calls (value_n n) (good_n n).toGood) (object_calls (value_n n) (good_n n)) w w1 g a h
      ⟨by have := hq.1; omega, fun _ => ⟨fun e => ⟨hne _ e, by have := hs.1; omega⟩, fun e => ⟨(hb [93]).1, hne _ e, (hb [93]).2.1, (hb [93]).2.2⟩, fun e => ⟨(hb [125]).1, hne _ e, (hb [125]).2.1, (hb [125]).2.2⟩⟩⟩
theorem json_calls (s : List UInt8) (w : World) (hT : Tabs w) :
    Calls Tryz.prog 16 #[.string (ofL s)] w fun E w' => ∃ v, E = .returned (.tuple #[v, .int .i64 (parseV (fvN 17) s).2]) ∧ Jv w' w.heap.size v (parseV (fvN 17) s).1 ∧ Below w.heap.size w w' :=
  parse_calls (fvN 17) (Qn 17) (value_n 17) s w hT (fun h => ⟨by show s.length ≤ 900000; omega, rfl, (fun e => absurd e (by decide)), Nat.le_refl _⟩)
end Js
end Go.Proofs.YtapcpndplnkfjaaGreatDoor
namespace Go.Proofs.YtapcpndplnkfjaaGreatDoor
open Go.RowKit Go.Proofs.YtapcpndplnkfjaaGreatDoorW.PrintWords Go.Proofs.YtapcpndplnkfjaaGreatDoorW.PrintLast Go.Proofs.YtapcpndplnkfjaaGreatDoorW.PrintMore
set_option linter.unusedVariables false
set_option linter.unusedSimpArgs false
end Go.Proofs.YtapcpndplnkfjaaGreatDoor
namespace Go.Proofs.YtapcpndplnkfjaaGreatDoor
open Go.RowKit Go.Proofs.YtapcpndplnkfjaaGreatDoorW.PrintWords Go.Proofs.YtapcpndplnkfjaaGreatDoorW.PrintLast Go.Proofs.YtapcpndplnkfjaaGreatDoorW.PrintMore
set_option linter.unusedVariables false
set_option linter.unusedSimpArgs false
namespace Js
end Js
end Go.Proofs.YtapcpndplnkfjaaGreatDoor
namespace Go.Proofs.YtapcpndplnkfjaaGreatDoor
open Go.RowKit Go.Proofs.YtapcpndplnkfjaaGreatDoorW.PrintWords Go.Proofs.YtapcpndplnkfjaaGreatDoorW.PrintLast Go.Proofs.YtapcpndplnkfjaaGreatDoorW.PrintMore
set_option linter.unusedVariables false
set_option linter.unusedSimpArgs false
namespace Js
def okNum (n : S24) : Prop := n.f1.data.toList.length ≤ 40 ∧ n.f1.data.toList.all NumP.isD = true ∧ -999 ≤ n.f2 ∧ n.f2 ≤ 999
end Js
end Go.Proofs.YtapcpndplnkfjaaGreatDoor
namespace Go.Proofs.YtapcpndplnkfjaaGreatDoor
open Go.RowKit Go.Proofs.YtapcpndplnkfjaaGreatDoorW.PrintWords Go.Proofs.YtapcpndplnkfjaaGreatDoorW.PrintLast Go.Proofs.YtapcpndplnkfjaaGreatDoorW.PrintMore
set_option linter.unusedVariables false
set_option linter.unusedSimpArgs false
namespace Js
theorem right_ok {n : NumP.NumV} (h : NumP.right n = true) : okNum ⟨n.1, ofL n.2.1, n.2.2⟩ := by
  unfold NumP.right at h
  unfold okNum
  split at h
  · rename_i h0
    simp only [Bool.and_eq_true, beq_iff_eq] at h
    rw [h0, h.2]
    exact ⟨Nat.zero_le _, rfl, by show (-999 : Int) ≤ 0; omega, by show (0 : Int) ≤ 999; omega⟩
  · simp only [Bool.and_eq_true, decide_eq_true_eq] at h
    exact ⟨h.1.1.2, h.1.1.1.1.1, h.1.2, h.2⟩
theorem parse_ok (l : List UInt8) : okNum ⟨(NumP.parse l).1.1, ofL (NumP.parse l).1.2.1, (NumP.parse l).1.2.2⟩ := by
  have hz : okNum ⟨NumP.zero.1, ofL NumP.zero.2.1, NumP.zero.2.2⟩ := ⟨by decide, by decide, by decide, by decide⟩
  unfold NumP.parse
  split
  · split
    · rename_i h; exact right_ok h
    · exact hz
  · exact hz
theorem loop_out : ∀ (n : Nat) (out : List UInt8) (a : S), (strLoop S.esc n out a).1.length ≤ out.length + 17 * a.s.length
  | 0, out, a => by unfold strLoop; show out.length ≤ _; omega
  | n + 1, out, a => by
    unfold strLoop
    have ht : (a.s.take a.plain.1).length ≤ a.s.length := by rw [List.length_take]; omega
    split
    · show out.length ≤ _; omega
    · split
      · simp only [List.length_append]; omega
      · rename_i h2
        split
        · simp only [List.length_append]; omega
        · have h3 : a.plain.1 < a.s.length := (plain_le a).2 (by simpa using h2)
          have h4 := loop_out n (out ++ a.s.take a.plain.1 ++ a.cut.esc.1) a.cut.esc.2
          have h5 := esc_len a.cut
          have h6 : a.cut.s.length = a.s.length - (a.plain.1 + 1) := by unfold S.cut; simp
          have h7 : (a.s.take a.plain.1).length = a.plain.1 := by rw [List.length_take]; omega
          simp only [List.length_append] at h4
          refine Nat.le_trans h4 ?_
          omega
end Js
end Go.Proofs.YtapcpndplnkfjaaGreatDoor
namespace Go.Proofs.YtapcpndplnkfjaaGreatDoor
open Go.RowKit Go.Proofs.YtapcpndplnkfjaaGreatDoorW.PrintWords Go.Proofs.YtapcpndplnkfjaaGreatDoorW.PrintLast Go.Proofs.YtapcpndplnkfjaaGreatDoorW.PrintMore
set_option linter.unusedVariables false
set_option linter.unusedSimpArgs false
namespace Js
structure JC (w : World) (x : S28) (A : Option Addr) (n c : Nat) (B : Option Addr) (m c' : Nat) : Prop where
  ln : n = x.f4.length
  nc : n ≤ c
  i : k28.C w A n x.f4
  lm : m = x.f5.length
  mc : m ≤ c'
  s : Kd.string.C w B m x.f5
theorem JC.below {w w' : World} {x : S28} {A B : Option Addr} {n c m c' : Nat} (h : JC w x A n c B m c') (hb : Below w.heap.size w w') : JC w' x A n c B m c' :=
  ⟨h.ln, h.nc, Kd.C_below h.i hb, h.lm, h.mc, Kd.C_below h.s hb⟩
theorem eight {w : World} {g : Nat} {a0 a1 a2 a3 a4 a5 a6 a7 : Value} {t : TypeId} (h : w.heap[g]? = some (.cells #[a0, a1, a2, a3, a4, a5, a6, a7] t (0, 0))) :
    w.cell? ⟨g, 0, none⟩ = some a0 ∧ w.cell? ⟨g, 1, none⟩ = some a1 ∧ w.cell? ⟨g, 2, none⟩ = some a2 ∧ w.cell? ⟨g, 3, none⟩ = some a3 ∧ w.cell? ⟨g, 4, none⟩ = some a4 ∧ w.cell? ⟨g, 5, none⟩ = some a5 ∧ w.cell? ⟨g, 6, none⟩ = some a6 ∧ w.cell? ⟨g, 7, none⟩ = some a7 :=
  ⟨(blk_cell h 0).trans rfl, (blk_cell h 1).trans rfl, (blk_cell h 2).trans rfl, (blk_cell h 3).trans rfl, (blk_cell h 4).trans rfl, (blk_cell h 5).trans rfl, (blk_cell h 6).trans rfl, (blk_cell h 7).trans rfl⟩
theorem kept {W w' : World} {o : Obj} (hb : Below (W.alloc o).heap.size (W.alloc o) w') : w'.heap[W.heap.size]? = some o ∧ W.heap.size < w'.heap.size := by
  have h := hb.size
  have h2 : (W.alloc o).heap.size = W.heap.size + 1 := by simp
  exact ⟨(hb.block _ (by omega)).trans (heap_alloc_new W o), by omega⟩
theorem thru {W w' : World} {g : Nat} {o : Obj} (h : W.heap[g]? = some o) (hb : Below W.heap.size W w') : w'.heap[g]? = some o := (hb.block _ (blk_lt h)).trans h
def pv (s : List UInt8) : S28 × Int := parseV (fvN 17) s
theorem p7 : pv [55] = (⟨2, false, ⟨false, ⟨#[55]⟩, 0⟩, ⟨#[]⟩, [], []⟩, 0) := by kernel_rfl
end Js
end Go.Proofs.YtapcpndplnkfjaaGreatDoor
namespace Go.Proofs.YtapcpndplnkfjaaGreatDoor
open Go.RowKit Go.Proofs.YtapcpndplnkfjaaGreatDoorW.PrintWords
set_option linter.unusedVariables false
theorem below_ahead (w : World) (n : Nat) (os : Array Obj) : Below w.heap.size w (Sort.grow (w.drewN n) os) :=
  ⟨rfl, rfl, rfl, by simp [Sort.grow], fun k hk => by
    show (w.heap ++ os)[k]? = w.heap[k]?
    rw [Array.getElem?_append_left hk]⟩
def PTabs (w : World) : Prop := Lib.TabIs Tryz.prog w "internal/strconv.uint64pow10" .u64 Lib.pow10Tab
theorem gPow10 : Tryz.prog.globalNamed "internal/strconv.uint64pow10" = some 4 := by kernel_rfl
theorem var_lt {P : Program} {w : World} {n : String} {g : Nat} {cs : Array Value} (hg : P.globalNamed n = some g) (h : w.var? P n = some cs) : g < w.heap.size := by
  unfold World.var? at h
  rw [hg] at h
  simp only [Option.bind_some] at h
  split at h
  · rename_i hh; exact (Array.getElem?_eq_some_iff.1 hh).1
  · cases h
theorem PTabs.below {w w' : World} (h : PTabs w) (hb : Below w.heap.size w w') : PTabs w' :=
  var?_below hb gPow10 (var_lt gPow10 h) h
def strconv_Itoa_83.f (a0 : Int) : Option ByteArray := if -9223372036854775808 ≤ a0 ∧ a0 ≤ 9223372036854775807 then some ⟨(Lib.itoa a0).toArray⟩ else none
theorem strconv_Itoa_83.calls (a0 : Int) (r : ByteArray) (w : World) (hT : PTabs w) (h : strconv_Itoa_83.f a0 = some r) :
    Calls Tryz.prog 83 #[.int .i64 a0] w fun e w' => e = .returned (.string r) ∧ Below w.heap.size w w' := by
  unfold strconv_Itoa_83.f at h
  split at h
  · rename_i hc
    obtain rfl := Option.some.inj h
    refine (Tryz.strconv_Itoa a0 hc.1 hc.2 w hT).mono ?_
    rintro e w' ⟨rfl, k, os, rfl⟩
    exact ⟨rfl, below_ahead _ _ _⟩
  · exact absurd h (by simp)
end Go.Proofs.YtapcpndplnkfjaaGreatDoor
namespace Go.Proofs.YtapcpndplnkfjaaGreatDoor
open Go.RowKit Go.Proofs.YtapcpndplnkfjaaGreatDoorW.PrintWords Go.Proofs.YtapcpndplnkfjaaGreatDoorW.PrintLast Go.Proofs.YtapcpndplnkfjaaGreatDoorW.PrintMore
attribute [local go_sem] max2_int min2_int max_two min_two max_three min_three max_four min_four
set_option linter.unusedVariables false
set_option linter.unusedSimpArgs false
end Go.Proofs.YtapcpndplnkfjaaGreatDoor
namespace Go.Proofs.YtapcpndplnkfjaaGreatDoor
open Go.RowKit Go.Proofs.YtapcpndplnkfjaaGreatDoorW.PrintWords Go.Proofs.YtapcpndplnkfjaaGreatDoorW.PrintLast Go.Proofs.YtapcpndplnkfjaaGreatDoorW.PrintMore
attribute [local go_sem] max2_int min2_int max_two min_two max_three min_three max_four min_four
set_option linter.unusedVariables false
set_option linter.unusedSimpArgs false
end Go.Proofs.YtapcpndplnkfjaaGreatDoor
namespace Go.Proofs.YtapcpndplnkfjaaGreatDoor
open Go.RowKit Go.Proofs.YtapcpndplnkfjaaGreatDoorW.PrintWords Go.Proofs.YtapcpndplnkfjaaGreatDoorW.PrintLast Go.Proofs.YtapcpndplnkfjaaGreatDoorW.PrintMore
attribute [local go_sem] max2_int min2_int max_two min_two max_three min_three max_four min_four
set_option linter.unusedVariables false
set_option linter.unusedSimpArgs false
end Go.Proofs.YtapcpndplnkfjaaGreatDoor
namespace Go.Proofs.YtapcpndplnkfjaaGreatDoor
open Go.RowKit Go.Proofs.YtapcpndplnkfjaaGreatDoorW.PrintWords Go.Proofs.YtapcpndplnkfjaaGreatDoorW.PrintLast Go.Proofs.YtapcpndplnkfjaaGreatDoorW.PrintMore
attribute [local go_sem] max2_int min2_int max_two min_two max_three min_three max_four min_four
set_option linter.unusedVariables false
set_option linter.unusedSimpArgs false
end Go.Proofs.YtapcpndplnkfjaaGreatDoor
namespace Go.Proofs.YtapcpndplnkfjaaGreatDoor
open Go.RowKit Go.Proofs.YtapcpndplnkfjaaGreatDoorW.PrintWords Go.Proofs.YtapcpndplnkfjaaGreatDoorW.PrintLast Go.Proofs.YtapcpndplnkfjaaGreatDoorW.PrintMore
attribute [local go_sem] max2_int min2_int max_two min_two max_three min_three max_four min_four
set_option linter.unusedVariables false
set_option linter.unusedSimpArgs false
end Go.Proofs.YtapcpndplnkfjaaGreatDoor
namespace Go.Proofs.YtapcpndplnkfjaaGreatDoor
open Go.RowKit Go.Proofs.YtapcpndplnkfjaaGreatDoorW.PrintWords Go.Proofs.YtapcpndplnkfjaaGreatDoorW.PrintLast Go.Proofs.YtapcpndplnkfjaaGreatDoorW.PrintMore
attribute [local go_sem] max2_int min2_int max_two min_two max_three min_three max_four min_four
set_option linter.unusedVariables false
set_option linter.unusedSimpArgs false
end Go.Proofs.YtapcpndplnkfjaaGreatDoor
namespace Go.Proofs.YtapcpndplnkfjaaGreatDoor
open Go.RowKit Go.Proofs.YtapcpndplnkfjaaGreatDoorW.PrintWords Go.Proofs.YtapcpndplnkfjaaGreatDoorW.PrintLast Go.Proofs.YtapcpndplnkfjaaGreatDoorW.PrintMore
attribute [local go_sem] max2_int min2_int max_two min_two max_three min_three max_four min_four
set_option linter.unusedVariables false
set_option linter.unusedSimpArgs false
end Go.Proofs.YtapcpndplnkfjaaGreatDoor
namespace Go.Proofs.YtapcpndplnkfjaaGreatDoor
open Go.RowKit Go.Proofs.YtapcpndplnkfjaaGreatDoorW.PrintWords Go.Proofs.YtapcpndplnkfjaaGreatDoorW.PrintLast Go.Proofs.YtapcpndplnkfjaaGreatDoorW.PrintMore
attribute [local go_sem] max2_int min2_int max_two min_two max_three min_three max_four min_four
set_option linter.unusedVariables false
set_option linter.unusedSimpArgs false
end Go.Proofs.YtapcpndplnkfjaaGreatDoor
namespace Go.Proofs.YtapcpndplnkfjaaGreatDoor.Pr
open Go.RowKit Go.Proofs.YtapcpndplnkfjaaGreatDoorW.PrintWords Go.Proofs.YtapcpndplnkfjaaGreatDoorW.PrintLast Go.Proofs.YtapcpndplnkfjaaGreatDoorW.PrintMore
attribute [local go_sem] max2_int min2_int max_two min_two max_three min_three max_four min_four
set_option linter.unusedVariables false
set_option linter.unusedSimpArgs false
end Go.Proofs.YtapcpndplnkfjaaGreatDoor.Pr
