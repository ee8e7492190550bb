/- What the law rests on, part 6: joined by a program of this session (claimx.py). -/
import Derived.Test.YtapcpndplnkfjaaGreatDoorOrderKeysE
set_option linter.unusedVariables false
set_option linter.unusedSimpArgs false
namespace Go.Proofs.YtapcpndplnkfjaaGreatDoor
open Go.RowKit Go.Proofs.YtapcpndplnkfjaaGreatDoorW.PrintWords Go.Proofs.YtapcpndplnkfjaaGreatDoorW.PrintLast Go.Proofs.YtapcpndplnkfjaaGreatDoorW.PrintMore
namespace Js
def vB (v6 v7 : Value) : Array Value := #[.int .i64 5, .bool false, .bool false, .string ⟨#[]⟩, .int .i64 0, .string ⟨#[]⟩, v6, v7]
structure Ms (w : World) (lo m : Nat) (v6 v7 : Value) (xs : List S28) (ns : List ByteArray) : Prop where
  src : w.heap[m]? = some (.cells #[.int .i64 5, .bool false, .bool false, .string ⟨#[]⟩, .int .i64 0, .string ⟨#[]⟩, v6, v7] 35 (0, 0))
  res : w.heap[m + 1]? = some (.cells zA 35 (0, 0))
  r6 : k35.R 35 w lo (fun k => k < m) v6 xs
  r7 : Kd.string.R 9 w lo (fun k => k < m) v7 ns
  lt : lo ≤ m ∧ m + 2 ≤ w.heap.size
theorem Ms.kept {w w' : World} {lo m g : Nat} {v6 v7 : Value} {xs : List S28} {ns : List ByteArray} (h : Ms w lo m v6 v7 xs ns) (k : w.grownBy w' (some g)) (hg : g < lo) : Ms w' lo m v6 v7 xs ns := by
 have lt := h.lt
 exact ⟨(k.block m (by omega) (fun e => by injection e with e; omega)).trans h.src, (k.block (m + 1) (by omega) (fun e => by injection e with e; omega)).trans h.res,
  Kd.R_mono (Kd.R_grown (Kd.R_bound h.r6) k (fun i hi e => by have := hi.2.1; injection e with e; omega)) (fun _ hk => hk.1),
  Kd.R_mono (Kd.R_grown (Kd.R_bound h.r7) k (fun i hi e => by have := hi.2.1; injection e with e; omega)) (fun _ hk => hk.1), lt.1, Nat.le_trans lt.2 k.size⟩
theorem Ms.jw {w w' : World} {lo m : Nat} {v6 v7 : Value} {xs : List S28} {ns : List ByteArray} (h : Ms w lo m v6 v7 xs ns) (k : w.grownBy w' (some (m + 1))) : k35.R 35 w' lo (fun _ => True) v6 xs ∧ Kd.string.R 9 w' lo (fun _ => True) v7 ns :=
 ⟨Kd.R_mono (Kd.R_grown h.r6 k (fun i hi e => by injection e with e; omega)) (fun _ _ => trivial), Kd.R_mono (Kd.R_grown h.r7 k (fun i hi e => by injection e with e; omega)) (fun _ _ => trivial)⟩
theorem Ms.one {w : World} {lo m : Nat} {v6 v7 : Value} {xs : List S28} {ns : List ByteArray} (h : Ms w lo m v6 v7 xs ns) : (#[.int .i64 5, .bool false, .bool false, .string ⟨#[]⟩, .int .i64 0, .string ⟨#[]⟩, v6, v7] : Array Value).toList.all (·.oneCell') = true :=
 List.all_eq_true.2 (fun u hu => k35.K_one (k35.K_of_M (k35_mkM w lo (fun _ => True) (S28.mk 5 false z24 ⟨#[]⟩ xs ns) (Kd.R_mono h.r6 (fun _ _ => trivial)) (Kd.R_mono h.r7 (fun _ _ => trivial)))) u hu)
def MP (s : List UInt8) (w : World) (g lo n : Nat) (T : (List S28 × List ByteArray) × S) (E : Ending) (w' : World) : Prop :=
 ∃ z6 z7 X N q u, E = .returned (.agg (vB z6 z7)) ∧ k35.R 35 w' lo (fun _ => True) z6 X ∧ Kd.string.R 9 w' lo (fun _ => True) z7 N ∧ X.length = N.length ∧ N.length ≤ n + 1 ∧ Rf s w w' g T.2 q u ∧ (T.2.e = 0 → (X, N) = T.1 ∧ rises N)
theorem lessB_is (x a : ByteArray) : Op.bytesLess a.toList x.toList = lessB x a := by rw [lessC, ByteArray.toList_eq, ByteArray.toList_eq]; rfl
theorem tw_more {ns : List ByteArray} {x : ByteArray} {i : Nat} (hi : i ≤ (ns.takeWhile (lessB x)).length) (hn : i < ns.length) (h : Op.bytesLess (ns.getD i ⟨#[]⟩).toList x.toList = true) : i + 1 ≤ (ns.takeWhile (lessB x)).length := by
 rcases Nat.lt_or_ge i (ns.takeWhile (lessB x)).length with h1 | h1
 · omega
 have e : i = (ns.takeWhile (lessB x)).length := by omega
 subst e
 have := tw_at hn
 rw [lessB_is, show ns.getD (ns.takeWhile (lessB x)).length ⟨#[]⟩ = ns[(ns.takeWhile (lessB x)).length] by simp [List.getD, hn], this] at h
 cases h
theorem tw_end {ns : List ByteArray} {x : ByteArray} {i : Nat} (hr : rises ns) (hi : i ≤ (ns.takeWhile (lessB x)).length) (hn : i < ns.length) (h : Op.bytesLess (ns.getD i ⟨#[]⟩).toList x.toList = false) : i = pos ns x := by
 rw [pos_tw hr]
 rcases Nat.lt_or_ge i (ns.takeWhile (lessB x)).length with h1 | h1
 · obtain ⟨h2, h3⟩ := tw_lt h1
   rw [lessB_is, show ns.getD i ⟨#[]⟩ = ns[i] by simp [List.getD, hn], h3] at h
   cases h
 omega
theorem tw_all {ns : List ByteArray} {x : ByteArray} {i : Nat} (hr : rises ns) (hi : i ≤ (ns.takeWhile (lessB x)).length) (hn : ns.length ≤ i) : i = pos ns x := by
 rw [pos_tw hr]
 have hle := (List.takeWhile_sublist (lessB x) (l := ns)).length_le
 omega
theorem toL_beq (a b : ByteArray) : (a.toList == b.toList) = decide (a = b) := by
 by_cases h : a = b
 · subst h; simp
 · have h2 : a.toList ≠ b.toList := fun e => h (by
     rw [ByteArray.toList_eq, ByteArray.toList_eq] at e
     exact ByteArray.ext (Array.toList_inj.1 e))
   simp [h, h2]
theorem strV_skip {a : S} (h : Lib.hasPrefix a.skip.s [34] = true) : strV a.skip = a.skip.st := by unfold strV; rw [if_pos h]
theorem objT_str {fv : S → S28 × S} {a : S} (hbad : ∀ b, b.e ≠ 0 → (fv b).2.e = b.e) (he : a.e = 0) (q : List S28 × List ByteArray) (h : (strV a.skip).2.e ≠ 0) : (objT fv q a).2.e = (strV a.skip).2.e := by
 unfold objT
 cases hp : Lib.hasPrefix a.skip.s [34] with
 | false =>
  rw [if_pos rfl]
  unfold strV
  rw [hp, if_neg (by simp)]
 | true =>
  rw [if_neg (by simp)]
  rw [strV_skip hp] at h ⊢
  have h1 : (S.twice a.skip.st.2 (has q.2 (objN a))).e = a.skip.st.2.e := by
   unfold S.twice
   split
   · exact fail_e h 31
   rfl
  have h2 : (objA q.2 a).e = a.skip.st.2.e := (need_e (by rw [h1]; exact h) [58]).trans h1
  show (fv (objA q.2 a)).2.e = _
  rw [hbad _ (by rw [h2]; exact h), h2]
theorem objT_twice {fv : S → S28 × S} {a : S} (hbad : ∀ b, b.e ≠ 0 → (fv b).2.e = b.e) (q : List S28 × List ByteArray) (hp : Lib.hasPrefix a.skip.s [34] = true) (h : a.skip.st.2.e = 0) (hh : has q.2 (objN a) = true) : (objT fv q a).2.e = 31 := by
 unfold objT
 rw [hp, if_neg (by simp)]
 have h1 : (S.twice a.skip.st.2 (has q.2 (objN a))).e = 31 := by
  unfold S.twice
  rw [hh, if_pos rfl]
  exact fail_e0 h 31
 have h2 : (objA q.2 a).e = 31 := (need_e (by rw [h1]; decide) [58]).trans h1
 show (fv (objA q.2 a)).2.e = _
 rw [hbad _ (by rw [h2]; decide), h2]
theorem strV_pre {a : S} (he : a.e = 0) (h : (strV a.skip).2.e = 0) : Lib.hasPrefix a.skip.s [34] = true := by
 cases hp : Lib.hasPrefix a.skip.s [34] with
 | true => rfl
 | false =>
  unfold strV at h
  rw [hp, if_neg (by simp)] at h
  have := fail_e0 (a := a.skip) he 11
  rw [this] at h
  cases h
set_option maxRecDepth 100000 in
set_option maxHeartbeats 8000000 in
theorem member15 {fv : S → S28 × S} {n : Nat} (HV : WC 37 #[] (OKn n) fv) (hbad : ∀ b, b.e ≠ 0 → (fv b).2.e = b.e) {s : List UInt8} {w w1 : World} {g : Nat} {a : S} {p : Nat} {o : Int} (h : Rf s w w1 g a.skip p o) (hs : s.length ≤ 600) (he : a.e = 0)
    (hok : 0 ≤ a.o ∧ a.o ≤ 16 ∧ a.o + n = 17) {lo : Nat} {v6 v7 : Value} {xs : List S28} {ns : List ByteArray} (hlo : lo ≤ w1.heap.size ∧ g < lo) (h6 : k35.R 35 w1 lo (fun _ => True) v6 xs) (h7 : Kd.string.R 9 w1 lo (fun _ => True) v7 ns)
    (hl : xs.length = ns.length ∧ ns.length ≤ 700) (hr : rises ns) :
    Calls Tryz.prog 108 #[.pointer (some ⟨g, 0, none⟩), .agg (vB v6 v7)] w1 fun E w' => MP s w g lo ns.length (objT fv (xs, ns) a) E w' := by
 obtain ⟨A6, c6, rfl⟩ := Kd.R_slice h6
 obtain ⟨A7, c7, rfl⟩ := Kd.R_slice h7
 unfold vB
 have H := hi_ h
 have HS := hi_ hs
 have HE := hi_ he
 have HO := hi_ hok
 have HVV := hi_ HV
 have HBD := hi_ hbad
 have HLO := hi_ hlo
 have H6 := hi_ h6
 have H7 := hi_ h7
 have HL := hi_ hl
 have HR := hi_ hr
 obtain ⟨T, hT⟩ : ∃ T, objT fv (xs, ns) a = T := ⟨_, rfl⟩
 have HT := hi_ hT
 rw [hT]
 clear h hs he hok HV hbad hlo h6 h7 hl hr hT
 have HWb : Hid (Below w1.heap.size w1 ((w1.alloc (.cells #[.int .i64 5, .bool false, .bool false, .string ⟨#[]⟩, .int .i64 0, .string ⟨#[]⟩, .slice A6 xs.length c6, .slice A7 ns.length c7] 35)).alloc (.cells zA 35))) := hi_ ((Below.alloc (Below.refl _ _) (Nat.le_refl _) _).trans ((Below.alloc (Below.refl _ _) (Nat.le_refl _) _).mono (by simp)))
 have HN0 : Hid (((w1.alloc (.cells #[.int .i64 5, .bool false, .bool false, .string ⟨#[]⟩, .int .i64 0, .string ⟨#[]⟩, .slice A6 xs.length c6, .slice A7 ns.length c7] 35)).alloc (.cells zA 35)).heap[w1.heap.size]? = some (.cells #[.int .i64 5, .bool false, .bool false, .string ⟨#[]⟩, .int .i64 0, .string ⟨#[]⟩, .slice A6 xs.length c6, .slice A7 ns.length c7] 35 (0, 0))) := hi_ (blk_alloc (blk_new w1 _) _)
 have HN1 : Hid (((w1.alloc (.cells #[.int .i64 5, .bool false, .bool false, .string ⟨#[]⟩, .int .i64 0, .string ⟨#[]⟩, .slice A6 xs.length c6, .slice A7 ns.length c7] 35)).alloc (.cells zA 35)).heap[w1.heap.size + 1]? = some (.cells zA 35 (0, 0))) := hi_ (by have := blk_new (w1.alloc (.cells #[.int .i64 5, .bool false, .bool false, .string ⟨#[]⟩, .int .i64 0, .string ⟨#[]⟩, .slice A6 xs.length c6, .slice A7 ns.length c7] 35)) (.cells zA 35); simpa using this)
 have HSZ : Hid (((w1.alloc (.cells #[.int .i64 5, .bool false, .bool false, .string ⟨#[]⟩, .int .i64 0, .string ⟨#[]⟩, .slice A6 xs.length c6, .slice A7 ns.length c7] 35)).alloc (.cells zA 35)).heap.size = w1.heap.size + 2) := hi_ (by simp)
 go_enter Tryz.func108, Tryz.ntmps108
 go_wp2_with fail
 have HM0 : Hid (Ms _ lo w1.heap.size (.slice A6 xs.length c6) (.slice A7 ns.length c7) xs ns) := hi_ ⟨HN0.out, HN1.out, Kd.R_mono (Kd.R_below (Kd.R_bound H6.out) HWb.out) (fun k hk => hk.2.2.1), Kd.R_mono (Kd.R_below (Kd.R_bound H7.out) HWb.out) (fun k hk => hk.2.2.1), HLO.out.1, by rw [HSZ.out]; exact Nat.le_refl _⟩
 refine (str15 (H.out.below HWb.out).now HE.out).mono ?_
 rintro E w2 ⟨out, q2, rfl, h2, h2e⟩
 have HM2 := hi_ (HM0.out.kept h2.kp HLO.out.2)
 have H2 := hi_ ((H.out.below HWb.out).trans h2)
 have H2E := hi_ h2e
 clear h2 h2e
 have ce := H2.out.c3
 by_cases hee : (strV a.skip).2.e ≠ 0
 · have e1 : ((strV a.skip).2.e != 0) = true := by simpa using hee
   have HEE := hi_ hee
   clear hee
   go_wp2_with (first | (refine wpList_load_row rfl 35 (.tmp 3) rfl w1.heap.size rfl 35 _ (0, 0) _ HM2.out.src Tryz.underlying35 rfl (by kernel_rfl) ?_) | (refine row_event rfl 35 (.tmp 4) (.tmp 16) rfl (w1.heap.size + 1) _ rfl rfl 35 _ HM2.out.res (by kernel_rfl) rfl HM2.out.one ?_; intro w3 hr3 hk3))
   have hj := HM2.out.jw hk3
   have hte : T.2.e = (strV a.skip).2.e := by rw [← HT.out]; exact objT_str HBD.out HE.out (xs, ns) HEE.out
   exact bodyPost_ret (results_cell_row rfl _ _ (w1.heap.size + 1) 35 _ (0, 0) _ rfl hr3 Tryz.underlying35 rfl (by kernel_rfl)) rfl ⟨_, _, xs, ns, q2, o, rfl, hj.1, hj.2, HL.out.1, by omega, (H2.out.far hk3 (by have := H.out.lt; omega) (by have := H.out.kp.size; omega)).bad HEE.out hte, fun e => absurd (hte.symm.trans e) HEE.out⟩
 replace hee : (strV a.skip).2.e = 0 := Classical.not_not.1 hee
 have e1 : ((strV a.skip).2.e != 0) = false := by simp [hee]
 have HEE := hi_ hee
 have HPR := hi_ (strV_pre HE.out hee)
 have HOU := hi_ (H2E.out hee)
 rw [strV_skip HPR.out] at HOU HEE H2
 obtain ⟨name, hname⟩ : ∃ name, ofL out = name := ⟨_, rfl⟩
 have HNA : Hid (name = objN a) := hi_ (by rw [← hname, HOU.out]; rfl)
 rw [hname]
 clear hee hname H2E HOU
 go_upto_block 0 with fail
 clear ce
 go_cut [6] (fun s6 wx => s6 = .int .i64 ((pos ns name : Nat) : Int) ∧ Hid (Ms wx lo w1.heap.size (.slice A6 xs.length c6) (.slice A7 ns.length c7) xs ns) ∧ Hid (Rf s w wx g a.skip.st.2 q2 o))
 case first =>
  go_wp2_with fail
  go_loopw [6] (fun vi wr => ∃ i : Nat, i ≤ ns.length ∧ vi = .int .i64 i ∧ Hid (i ≤ (ns.takeWhile (lessB name)).length) ∧ Hid (Ms wr lo w1.heap.size (.slice A6 xs.length c6) (.slice A7 ns.length c7) xs ns) ∧ Hid (Rf s w wr g a.skip.st.2 q2 o)) (fun vi _ => ns.length - (intOf vi).toNat)
  case atStart => exact ⟨0, by omega, rfl, hi_ (Nat.zero_le _), HM2, H2⟩
  case round =>
   obtain ⟨i, hi, rfl, HI, HM, HQ⟩ := hrel
   have c7' := (blk_cell HM.out.src 7).trans rfl
   have hlen := HL.out.2
   by_cases hin : i < ns.length
   · have hin' : (i : Int) < (ns.length : Int) := by omega
     obtain ⟨bd, cc, rfl, -, hK1, hc0⟩ := Kd.C_get (Kd.R_reads' HM.out.r7).2.2 (⟨#[]⟩ : ByteArray) (i : Int) (by omega) (by omega)
     obtain ⟨nm, hnm⟩ : ∃ nm, ns.getD i ⟨#[]⟩ = nm := ⟨_, rfl⟩
     have ek1 : cc = [.string nm] := by rw [← hnm]; exact hK1
     have t1 := hc0 0 (.string nm) (by rw [ek1]; rfl)
     rw [show (i : Int).toNat * Kd.string.sz + 0 = i by rw [Int.toNat_natCast]; exact Nat.mul_one i] at t1
     have HNM := hi_ hnm
     have HIN := hi_ hin
     clear hK1 hc0 ek1 hnm
     cases hb : Op.bytesLess nm.toList name.toList with
     | true =>
      have HT1 := hi_ (tw_more HI.out HIN.out (by rw [HNM.out]; exact hb))
      go_wp2_with fail
      exact ⟨⟨i + 1, by omega, by simp, HT1, HM, HQ⟩, by simp [intOf]; omega⟩
     | false =>
      have HT1 := hi_ (tw_end HR.out HI.out HIN.out (by rw [HNM.out]; exact hb))
      go_wp2_with fail
      go_meet
      exact ⟨by rw [← HT1.out], HM, HQ⟩
   have hin' : ¬ ((i : Int) < (ns.length : Int)) := by omega
   have HT1 := hi_ (tw_all HR.out HI.out (by omega))
   go_wp2_with fail
   go_meet
   exact ⟨by rw [← HT1.out], HM, HQ⟩
 obtain ⟨rfl, HM, HQ⟩ := hcut
 clear HM2 H2
 obtain ⟨i, hi⟩ : ∃ i, pos ns name = i := ⟨_, rfl⟩
 have HH : Hid (has ns name = decide (i < ns.length ∧ ns.getD i ⟨#[]⟩ = name)) := hi_ (by unfold has; rw [hi])
 have HLE : Hid (i ≤ ns.length) := hi_ (by rw [← hi]; exact pos_le _ _)
 have HI := hi_ hi
 rw [hi]
 clear hi
 go_upto_region 7 with fail
 go_cut [46] (fun s46 wx => s46 = .bool (has ns name) ∧ Hid (Ms wx lo w1.heap.size (.slice A6 xs.length c6) (.slice A7 ns.length c7) xs ns) ∧ Hid (Rf s w wx g a.skip.st.2 q2 o))
 case first =>
  have c7' := (blk_cell HM.out.src 7).trans rfl
  have hlen := HL.out.2
  have hle := HLE.out
  by_cases hin : i < ns.length
  · have hin' : (i : Int) < (ns.length : Int) := by omega
    obtain ⟨bd, cc, rfl, -, hK1, hc0⟩ := Kd.C_get (Kd.R_reads' HM.out.r7).2.2 (⟨#[]⟩ : ByteArray) (i : Int) (by omega) (by omega)
    obtain ⟨nm, hnm⟩ : ∃ nm, ns.getD i ⟨#[]⟩ = nm := ⟨_, rfl⟩
    have ek1 : cc = [.string nm] := by rw [← hnm]; exact hK1
    have t1 := hc0 0 (.string nm) (by rw [ek1]; rfl)
    rw [show (i : Int).toNat * Kd.string.sz + 0 = i by rw [Int.toNat_natCast]; exact Nat.mul_one i] at t1
    have HNM := hi_ hnm
    have HIN := hi_ hin
    clear hK1 hc0 ek1 hnm hin hle
    go_wp2_with fail
    go_meet
    refine ⟨?_, HM, HQ⟩
    rw [HH.out, toL_beq, HNM.out]
    simp [HIN.out]
  have hin' : ¬ ((i : Int) < (ns.length : Int)) := by omega
  have HIN := hi_ hin
  clear hin hle
  go_wp2_with fail
  go_meet
  exact ⟨by rw [HH.out]; simp [HIN.out], HM, HQ⟩
 obtain ⟨rfl, HM', HQ'⟩ := hcut
 clear HM HQ
 cases hh : has ns name with
 | true =>
  have HHT := hi_ hh
  clear hh
  go_wp2_with fail
  refine (fail15 HQ'.out.now 31 (by decide)).mono ?_
  rintro E w4 ⟨rfl, h4⟩
  have HM4 := hi_ (HM'.out.kept h4.kp HLO.out.2)
  have H4 := hi_ (HQ'.out.trans h4)
  clear h4
  go_wp2_with (first | (refine wpList_load_row rfl 35 (.tmp 3) rfl w1.heap.size rfl 35 _ (0, 0) _ HM4.out.src Tryz.underlying35 rfl (by kernel_rfl) ?_) | (refine row_event rfl 35 (.tmp 4) (.tmp 49) rfl (w1.heap.size + 1) _ rfl rfl 35 _ HM4.out.res (by kernel_rfl) rfl HM4.out.one ?_; intro w5 hr5 hk5))
  have hj := HM4.out.jw hk5
  have hte : T.2.e = 31 := by rw [← HT.out]; exact objT_twice HBD.out (xs, ns) HPR.out HEE.out (by rw [← HNA.out]; exact HHT.out)
  have hf : (a.skip.st.2.fail 31).e = 31 := fail_e0 HEE.out 31
  exact bodyPost_ret (results_cell_row rfl _ _ (w1.heap.size + 1) 35 _ (0, 0) _ rfl hr5 Tryz.underlying35 rfl (by kernel_rfl)) rfl ⟨_, _, xs, ns, q2, o, rfl, hj.1, hj.2, HL.out.1, by omega, (H4.out.far hk5 (by have := H.out.lt; omega) (by have := H.out.kp.size; omega)).bad (by rw [hf]; decide) (by rw [hte, hf]), fun e => absurd (hte.symm.trans e) (by decide)⟩
 | false =>
  have HHF := hi_ hh
  clear hh
  go_wp2_with fail
  refine (blanks15 HQ'.out.now).mono ?_
  rintro E w4 ⟨rfl, q4, h4⟩
  have HM4 := hi_ (HM'.out.kept h4.kp HLO.out.2)
  have H4 := hi_ (HQ'.out.trans h4)
  clear h4
  go_wp2_with fail
  refine (word15 H4.out.now HEE.out [58] (by decide)).mono ?_
  rintro E w5 ⟨rfl, q5, h5⟩
  have HM5 := hi_ (HM4.out.kept h5.kp HLO.out.2)
  have HOA : Hid (a.skip.st.2.need [58] = objA ns a) := hi_ (by unfold objA S.twice; rw [← HNA.out, HHF.out, if_neg (by simp)])
  have H5 := hi_ (H4.out.trans h5)
  rw [HOA.out] at H5
  clear h5
  have hok : OKn n (objA ns a) := fun _ => by
   have h1 := (keeps_objA ns a).o
   have := HO.out
   omega
  have HOK := hi_ hok
  clear hok
  go_wp2_with fail
  refine (HVV.out s _ _ g _ q5 _ H5.out.now HS.out HOK.out).mono ?_
  rintro E w8 ⟨v8, y8, q8, u8, rfl, hj8, h8, h8e⟩
  have HM8 := hi_ (HM5.out.kept h8.kp HLO.out.2)
  have H8 := hi_ (H5.out.trans h8)
  obtain ⟨cs, rfl, hs8, ho8, hi8, hM8⟩ := hj8.of
  obtain ⟨va, vb, hcs, hra, hrb⟩ := k35_openM hM8
  obtain ⟨Aa, ca, rfl⟩ := Kd.R_slice hra
  obtain ⟨Ab, cb, rfl⟩ := Kd.R_slice hrb
  clear hra hrb
  subst hcs
  have HV8 := hi_ hM8
  have HE8 := hi_ h8e
  have HO8 := hi_ ho8
  have HZ8 := hi_ h8.kp.size
  clear hj8 h8 h8e hs8 ho8 hi8 hM8
  go_wp2_with fail
  have HAL : Hid (Below w8.heap.size w8 ((w8.alloc (.cells #[.int .i64 y8.f0, .bool y8.f1, .bool y8.f2.f0, .string y8.f2.f1, .int .i64 y8.f2.f2, .string y8.f3, .slice Aa y8.f4.length ca, .slice Ab y8.f5.length cb] 35)).alloc (.cells #[.int .i64 5, .bool false, .bool false, .string ⟨#[]⟩, .int .i64 0, .string ⟨#[]⟩, .slice none 0 0, .slice none 0 0] 35))) := hi_ ((Below.alloc (Below.refl _ _) (Nat.le_refl _) _).trans ((Below.alloc (Below.refl _ _) (Nat.le_refl _) _).mono (by simp)))
  have HA1 : Hid (((w8.alloc (.cells #[.int .i64 y8.f0, .bool y8.f1, .bool y8.f2.f0, .string y8.f2.f1, .int .i64 y8.f2.f2, .string y8.f3, .slice Aa y8.f4.length ca, .slice Ab y8.f5.length cb] 35)).alloc (.cells #[.int .i64 5, .bool false, .bool false, .string ⟨#[]⟩, .int .i64 0, .string ⟨#[]⟩, .slice none 0 0, .slice none 0 0] 35)).heap[w8.heap.size]? = some (.cells #[.int .i64 y8.f0, .bool y8.f1, .bool y8.f2.f0, .string y8.f2.f1, .int .i64 y8.f2.f2, .string y8.f3, .slice Aa y8.f4.length ca, .slice Ab y8.f5.length cb] 35 (0, 0))) := hi_ (blk_alloc (blk_new w8 _) _)
  have HA2 : Hid (((w8.alloc (.cells #[.int .i64 y8.f0, .bool y8.f1, .bool y8.f2.f0, .string y8.f2.f1, .int .i64 y8.f2.f2, .string y8.f3, .slice Aa y8.f4.length ca, .slice Ab y8.f5.length cb] 35)).alloc (.cells #[.int .i64 5, .bool false, .bool false, .string ⟨#[]⟩, .int .i64 0, .string ⟨#[]⟩, .slice none 0 0, .slice none 0 0] 35)).heap[w8.heap.size + 1]? = some (.cells #[.int .i64 5, .bool false, .bool false, .string ⟨#[]⟩, .int .i64 0, .string ⟨#[]⟩, .slice none 0 0, .slice none 0 0] 35 (0, 0))) := hi_ (by have := blk_new (w8.alloc (.cells #[.int .i64 y8.f0, .bool y8.f1, .bool y8.f2.f0, .string y8.f2.f1, .int .i64 y8.f2.f2, .string y8.f3, .slice Aa y8.f4.length ca, .slice Ab y8.f5.length cb] 35)) (.cells #[.int .i64 5, .bool false, .bool false, .string ⟨#[]⟩, .int .i64 0, .string ⟨#[]⟩, .slice none 0 0, .slice none 0 0] 35); simpa using this)
  have HA3 : Hid (((w8.alloc (.cells #[.int .i64 y8.f0, .bool y8.f1, .bool y8.f2.f0, .string y8.f2.f1, .int .i64 y8.f2.f2, .string y8.f3, .slice Aa y8.f4.length ca, .slice Ab y8.f5.length cb] 35)).alloc (.cells #[.int .i64 5, .bool false, .bool false, .string ⟨#[]⟩, .int .i64 0, .string ⟨#[]⟩, .slice none 0 0, .slice none 0 0] 35)).heap.size = w8.heap.size + 2) := hi_ (by simp)
  generalize (w8.alloc (.cells #[.int .i64 y8.f0, .bool y8.f1, .bool y8.f2.f0, .string y8.f2.f1, .int .i64 y8.f2.f2, .string y8.f3, .slice Aa y8.f4.length ca, .slice Ab y8.f5.length cb] 35)).alloc (.cells #[.int .i64 5, .bool false, .bool false, .string ⟨#[]⟩, .int .i64 0, .string ⟨#[]⟩, .slice none 0 0, .slice none 0 0] 35) = W at HAL HA1 HA2 HA3 ⊢
  have HW : Hid (Mw w8 W lo w1.heap.size w8.heap.size (.slice A6 xs.length c6) (.slice A7 ns.length c7) xs ns y8 [.int .i64 y8.f0, .bool y8.f1, .bool y8.f2.f0, .string y8.f2.f1, .int .i64 y8.f2.f2, .string y8.f3, .slice Aa y8.f4.length ca, .slice Ab y8.f5.length cb] (.slice none 0 0) (.slice none 0 0) [] []) := hi_ (by
   have lt := HM8.out.lt
   have lt5 := HM5.out.lt
   exact ⟨(HAL.out.block w1.heap.size (by omega)).trans HM8.out.src, HA1.out, HA2.out, (HAL.out.block (w1.heap.size + 1) (by omega)).trans HM8.out.res,
    Kd.R_mono (Kd.R_below HM8.out.r6 HAL.out) (fun k hk => ⟨by omega, by omega, by omega⟩), Kd.R_mono (Kd.R_below HM8.out.r7 HAL.out) (fun k hk => ⟨by omega, by omega, by omega⟩),
    k35.M_lower (by omega) (k35.M_mono (fun k hk => ⟨hk.2.2.1, by have := hk.2.1; omega, by have := hk.2.1; omega⟩) (Kd.M_below (k35.M_bound HV8.out) HAL.out)), Kd.R_nil _ _ _ _ _, Kd.R_nil _ _ _ _ _, fun k e => by simp [Value.ownBlock] at e, ⟨lt.1, by omega, by rw [HA3.out]; exact Nat.le_refl _⟩, HAL.out⟩)
  have HD14 := hi_ HW.out.drew
  obtain ⟨hlr, hcr, hrr⟩ := rowM HD14.out.r7
  obtain ⟨B14, d14, hz⟩ := Kd.R_slice HD14.out.q7
  have HRR := hi_ hrr
  have HCR := hi_ hcr
  clear hlr hcr hrr hz
  refine start_ (n := 9) (S := fun w' => w'.cell? ⟨w8.heap.size + 1, 7, none⟩ = some (.slice none 0 0) ∧ w'.cell? ⟨w1.heap.size, 7, none⟩ = some (.slice A7 ns.length c7)) (ds := [8]) #[false, false, false, false, false, false, false, false, false] (by kernel_rfl) rfl rfl ⟨(blk_cell HD14.out.out 7).trans rfl, (blk_cell HD14.out.src 7).trans rfl⟩ (fun hHeld => ?_)
  refine pure_ (i := 0) (N := some 57) (v := ?_) (a' := ?_) #[true, false, false, false, false, false, false, false, false] rfl rfl (by kernel_rfl) (fun _ _ _ h => h) (Or.inl ⟨by rfl, ?_⟩) ?_ ?_
  rotate_left
  · intro w'
    go_simp
    with_reducible rfl
  rotate_left
  · simp only [Act.put, List.setIfInBounds_toArray, List.set_cons_zero, List.set_cons_succ]
    rfl
  refine take_ (i := 1) (N := some 58) (v := ?_) (a' := ?_) #[true, true, false, false, false, false, false, false, false] rfl rfl (by kernel_rfl) (fun _ _ _ h => h) (Or.inl ⟨by rfl, ?_⟩) hHeld ?_ ?_
  rotate_left
  · rintro w' ⟨s0, s1⟩
    go_simp
    with_reducible rfl
  rotate_left
  · simp only [Act.put, List.setIfInBounds_toArray, List.set_cons_zero, List.set_cons_succ]
    rfl
  refine pure_ (i := 2) (N := some 59) (v := ?_) (a' := ?_) #[true, true, true, false, false, false, false, false, false] rfl rfl (by kernel_rfl) (fun _ _ _ h => h) (Or.inl ⟨by rfl, ?_⟩) ?_ ?_
  rotate_left
  · intro w'
    go_simp
    with_reducible rfl
  rotate_left
  · simp only [Act.put, List.setIfInBounds_toArray, List.set_cons_zero, List.set_cons_succ]
    rfl
  refine take_ (i := 3) (N := some 60) (v := ?_) (a' := ?_) #[true, true, true, true, false, false, false, false, false] rfl rfl (by kernel_rfl) (fun _ _ _ h => h) (Or.inl ⟨by rfl, ?_⟩) hHeld ?_ ?_
  rotate_left
  · rintro w' ⟨s0, s1⟩
    go_simp
    with_reducible rfl
  rotate_left
  · simp only [Act.put, List.setIfInBounds_toArray, List.set_cons_zero, List.set_cons_succ]
    rfl
  refine pure_ (i := 4) (N := some 61) (v := ?_) (a' := ?_) #[true, true, true, true, true, false, false, false, false] rfl rfl (by kernel_rfl) (fun _ _ _ h => h) (Or.inl ⟨by rfl, ?_⟩) ?_ ?_
  rotate_left
  · intro w'
    go_simp
    with_reducible rfl
  rotate_left
  · simp only [Act.put, List.setIfInBounds_toArray, List.set_cons_zero, List.set_cons_succ]
    rfl
  refine pure_ (i := 5) (N := some 62) (v := .slice A7 i c7) (a' := ?_) #[true, true, true, true, true, true, false, false, false] rfl rfl (by kernel_rfl) (fun _ _ _ h => h) (Or.inl ⟨by rfl, ?_⟩) ?_ ?_
  · intro w'
    exact exec_cut_hi rfl rfl rfl Tryz.underlying26 (by kernel_rfl) (by have := HLE.out; have := HCR.out; have := HL.out; omega) w'
  rotate_left
  · simp only [Act.put, List.setIfInBounds_toArray, List.set_cons_zero, List.set_cons_succ]
    rfl
  refine one_ (i := 6) (N := some 63) #[true, true, true, true, true, true, true, false, false] rfl rfl (by kernel_rfl) (by decide) (fun K hK => ?_)
  refine Mw.step7 HD14.out (by rfl) rfl rfl rfl (rr_take HRR.out (by have := HLE.out; omega)) (by have := HLE.out; have := HL.out; simp only [List.length_append, List.length_take, List.length_singleton, List.length_nil]; omega) ?_
  intro P14 n14 e14 wa14 hn14 hW14 hb14
  refine hK.out _ _ ⟨(blk_cell hb14.1 7).trans rfl, (blk_cell hb14.2 7).trans rfl⟩ (fun hHeld => ?_)
  clear hK K
  refine norm_ (a' := ?_) ?_ ?_
  rotate_left
  · show Act.put _ (some 63) _ = _
    simp only [Act.put, List.setIfInBounds_toArray, List.set_cons_zero, List.set_cons_succ]
    rfl
  refine pure_ (i := 7) (N := some 64) (v := ?_) (a' := ?_) #[true, true, true, true, true, true, true, true, false] rfl rfl (by kernel_rfl) (fun _ _ _ h => h) (Or.inl ⟨by rfl, ?_⟩) ?_ ?_
  rotate_left
  · intro w'
    go_simp
    with_reducible rfl
  rotate_left
  · simp only [Act.put, List.setIfInBounds_toArray, List.set_cons_zero, List.set_cons_succ]
    rfl
  have hca := (blk_cell hb14.1 7).trans rfl
  have hfa := blk_frozen hb14.1 7
  refine last_ (i := 8) (N := none) #[true, true, true, true, true, true, true, true, true] rfl rfl (by kernel_rfl) (by decide) (fun K hK => ?_)
  refine skip_ (w1 := wa14.setCell ⟨w8.heap.size + 1, 7, none⟩ (.slice P14 n14 e14)) (by rfl) rfl ?_ ?_
  · clear hHeld
    go_simp
  refine hK.out _ _ ?_
  refine done_ (by kernel_rfl) ?_
  clear hK K hca hfa hHeld
  have HW14 := hi_ hW14
  clear hn14 hW14 hb14 HD14 HRR HCR HW
  go_wp2_with fail
  have HD15 := hi_ HW14.out.drew
  obtain ⟨hlr, hcr, hrr⟩ := rowM HD15.out.r6
  obtain ⟨B15, d15, hz⟩ := Kd.R_slice HD15.out.q6
  have HRR := hi_ hrr
  have HCR := hi_ hcr
  clear hlr hcr hrr hz
  refine start_ (n := 9) (S := fun w' => w'.cell? ⟨w8.heap.size + 1, 6, none⟩ = some (.slice none 0 0) ∧ w'.cell? ⟨w1.heap.size, 6, none⟩ = some (.slice A6 xs.length c6)) (ds := [8]) #[false, false, false, false, false, false, false, false, false] (by kernel_rfl) rfl rfl ⟨(blk_cell HD15.out.out 6).trans rfl, (blk_cell HD15.out.src 6).trans rfl⟩ (fun hHeld => ?_)
  refine pure_ (i := 0) (N := some 65) (v := ?_) (a' := ?_) #[true, false, false, false, false, false, false, false, false] rfl rfl (by kernel_rfl) (fun _ _ _ h => h) (Or.inl ⟨by rfl, ?_⟩) ?_ ?_
  rotate_left
  · intro w'
    go_simp
    with_reducible rfl
  rotate_left
  · simp only [Act.put, List.setIfInBounds_toArray, List.set_cons_zero, List.set_cons_succ]
    rfl
  refine take_ (i := 1) (N := some 66) (v := ?_) (a' := ?_) #[true, true, false, false, false, false, false, false, false] rfl rfl (by kernel_rfl) (fun _ _ _ h => h) (Or.inl ⟨by rfl, ?_⟩) hHeld ?_ ?_
  rotate_left
  · rintro w' ⟨s0, s1⟩
    go_simp
    with_reducible rfl
  rotate_left
  · simp only [Act.put, List.setIfInBounds_toArray, List.set_cons_zero, List.set_cons_succ]
    rfl
  refine pure_ (i := 2) (N := some 67) (v := ?_) (a' := ?_) #[true, true, true, false, false, false, false, false, false] rfl rfl (by kernel_rfl) (fun _ _ _ h => h) (Or.inl ⟨by rfl, ?_⟩) ?_ ?_
  rotate_left
  · intro w'
    go_simp
    with_reducible rfl
  rotate_left
  · simp only [Act.put, List.setIfInBounds_toArray, List.set_cons_zero, List.set_cons_succ]
    rfl
  refine take_ (i := 3) (N := some 68) (v := ?_) (a' := ?_) #[true, true, true, true, false, false, false, false, false] rfl rfl (by kernel_rfl) (fun _ _ _ h => h) (Or.inl ⟨by rfl, ?_⟩) hHeld ?_ ?_
  rotate_left
  · rintro w' ⟨s0, s1⟩
    go_simp
    with_reducible rfl
  rotate_left
  · simp only [Act.put, List.setIfInBounds_toArray, List.set_cons_zero, List.set_cons_succ]
    rfl
  refine pure_ (i := 4) (N := some 69) (v := ?_) (a' := ?_) #[true, true, true, true, true, false, false, false, false] rfl rfl (by kernel_rfl) (fun _ _ _ h => h) (Or.inl ⟨by rfl, ?_⟩) ?_ ?_
  rotate_left
  · intro w'
    go_simp
    with_reducible rfl
  rotate_left
  · simp only [Act.put, List.setIfInBounds_toArray, List.set_cons_zero, List.set_cons_succ]
    rfl
  refine pure_ (i := 5) (N := some 70) (v := .slice A6 i c6) (a' := ?_) #[true, true, true, true, true, true, false, false, false] rfl rfl (by kernel_rfl) (fun _ _ _ h => h) (Or.inl ⟨by rfl, ?_⟩) ?_ ?_
  · intro w'
    exact exec_cut_hi rfl rfl rfl Tryz.underlying33 (by kernel_rfl) (by have := HLE.out; have := HCR.out; have := HL.out; omega) w'
  rotate_left
  · simp only [Act.put, List.setIfInBounds_toArray, List.set_cons_zero, List.set_cons_succ]
    rfl
  refine one_ (i := 6) (N := some 71) #[true, true, true, true, true, true, true, false, false] rfl rfl (by kernel_rfl) (by decide) (fun K hK => ?_)
  refine Mw.step6 HD15.out (by rfl) rfl rfl rfl (rr_take HRR.out (by have := HLE.out; have := HL.out; omega)) (by have := HLE.out; have := HL.out; simp only [List.length_append, List.length_take, List.length_singleton, List.length_nil]; omega) ?_
  intro P15 n15 e15 wa15 hn15 hW15 hb15
  refine hK.out _ _ ⟨(blk_cell hb15.1 6).trans rfl, (blk_cell hb15.2 6).trans rfl⟩ (fun hHeld => ?_)
  clear hK K
  refine norm_ (a' := ?_) ?_ ?_
  rotate_left
  · show Act.put _ (some 71) _ = _
    simp only [Act.put, List.setIfInBounds_toArray, List.set_cons_zero, List.set_cons_succ]
    rfl
  refine pure_ (i := 7) (N := some 72) (v := ?_) (a' := ?_) #[true, true, true, true, true, true, true, true, false] rfl rfl (by kernel_rfl) (fun _ _ _ h => h) (Or.inl ⟨by rfl, ?_⟩) ?_ ?_
  rotate_left
  · intro w'
    go_simp
    with_reducible rfl
  rotate_left
  · simp only [Act.put, List.setIfInBounds_toArray, List.set_cons_zero, List.set_cons_succ]
    rfl
  have hca := (blk_cell hb15.1 6).trans rfl
  have hfa := blk_frozen hb15.1 6
  refine last_ (i := 8) (N := none) #[true, true, true, true, true, true, true, true, true] rfl rfl (by kernel_rfl) (by decide) (fun K hK => ?_)
  refine skip_ (w1 := wa15.setCell ⟨w8.heap.size + 1, 6, none⟩ (.slice P15 n15 e15)) (by rfl) rfl ?_ ?_
  · clear hHeld
    go_simp
  refine hK.out _ _ ?_
  refine done_ (by kernel_rfl) ?_
  clear hK K hca hfa hHeld
  have HW15 := hi_ hW15
  clear hn15 hW15 hb15 HD15 HRR HCR HW14
  have c8 := (blk_cell HW15.out.out 7).trans rfl
  go_wp2_with (first | (refine wpList_load_row rfl 35 (.tmp 7) rfl w8.heap.size rfl 35 _ (0, 0) _ HW16.out.val Tryz.underlying35 rfl (by kernel_rfl) ?_) | ((with_reducible refine gate_builtin (b := .append) (xs := #[.tmp 74, .tmp 76]) rfl ?_); at_builtin; refine Mw.one7 HW15.out (t1 := 74) (t2 := 76) (y := name) rfl rfl rfl rfl (by simp) (by have := HLE.out; have := HL.out; simp only [List.length_append, List.length_take, List.length_singleton, List.length_nil]; omega) ?_; intro P16 n16 e16 wa16 hn16 hW16 hb16; have hca := (blk_cell hb16.1 7).trans rfl; have hfa := blk_frozen hb16.1 7; have HW16 := hi_ hW16; clear hn16 hW16 c8; have c9 := (blk_cell HW16.out.out 6).trans rfl) | ((with_reducible refine gate_builtin (b := .append) (xs := #[.tmp 80, .tmp 82]) rfl ?_); at_builtin; refine Mw.one6 HW16.out (t1 := 80) (t2 := 82) rfl rfl rfl rfl (by simp) (by have := HLE.out; have := HL.out; simp only [List.length_append, List.length_take, List.length_singleton, List.length_nil]; omega) ?_; intro P17 n17 e17 wa17 hn17 hW17 hb17; have hca2 := (blk_cell hb17.1 6).trans rfl; have hfa2 := blk_frozen hb17.1 6; have HW17 := hi_ hW17; clear hn17 hW17 c9))
  clear HW15 HW16 hca hfa hca2 hfa2 hb16 hb17
  have HD18 := hi_ HW17.out.drew
  obtain ⟨hlr, hcr, hrr⟩ := rowM HD18.out.r7
  obtain ⟨K18, hK18⟩ : ∃ K18, (if c7 = i then A7 else A7.map (·.add (i * 1))) = K18 := ⟨_, rfl⟩
  have HRD18 : Hid (ReadsRow _ 1 _ K18 (ns.length - i) (ns.drop i)) := hi_ (by have := rr_drop (m := i) hrr (by have := HLE.out; omega) hcr; rw [← hK18]; exact this)
  have HKK18 := hi_ hK18
  clear hK18
  obtain ⟨B18, d18, hz⟩ := Kd.R_slice HD18.out.q7
  have HRR := hi_ hrr
  have HCR := hi_ hcr
  clear hlr hcr hrr hz
  refine start_ (n := 9) (S := fun w' => w'.cell? ⟨w8.heap.size + 1, 7, none⟩ = some (.slice P16 n16 e16) ∧ w'.cell? ⟨w1.heap.size, 7, none⟩ = some (.slice A7 ns.length c7)) (ds := [8]) #[false, false, false, false, false, false, false, false, false] (by kernel_rfl) rfl rfl ⟨(blk_cell HD18.out.out 7).trans rfl, (blk_cell HD18.out.src 7).trans rfl⟩ (fun hHeld => ?_)
  refine pure_ (i := 0) (N := some 85) (v := ?_) (a' := ?_) #[true, false, false, false, false, false, false, false, false] rfl rfl (by kernel_rfl) (fun _ _ _ h => h) (Or.inl ⟨by rfl, ?_⟩) ?_ ?_
  rotate_left
  · intro w'
    go_simp
    with_reducible rfl
  rotate_left
  · simp only [Act.put, List.setIfInBounds_toArray, List.set_cons_zero, List.set_cons_succ]
    rfl
  refine take_ (i := 1) (N := some 86) (v := ?_) (a' := ?_) #[true, true, false, false, false, false, false, false, false] rfl rfl (by kernel_rfl) (fun _ _ _ h => h) (Or.inl ⟨by rfl, ?_⟩) hHeld ?_ ?_
  rotate_left
  · rintro w' ⟨s0, s1⟩
    go_simp
    with_reducible rfl
  rotate_left
  · simp only [Act.put, List.setIfInBounds_toArray, List.set_cons_zero, List.set_cons_succ]
    rfl
  refine pure_ (i := 2) (N := some 87) (v := ?_) (a' := ?_) #[true, true, true, false, false, false, false, false, false] rfl rfl (by kernel_rfl) (fun _ _ _ h => h) (Or.inl ⟨by rfl, ?_⟩) ?_ ?_
  rotate_left
  · intro w'
    go_simp
    with_reducible rfl
  rotate_left
  · simp only [Act.put, List.setIfInBounds_toArray, List.set_cons_zero, List.set_cons_succ]
    rfl
  refine take_ (i := 3) (N := some 88) (v := ?_) (a' := ?_) #[true, true, true, true, false, false, false, false, false] rfl rfl (by kernel_rfl) (fun _ _ _ h => h) (Or.inl ⟨by rfl, ?_⟩) hHeld ?_ ?_
  rotate_left
  · rintro w' ⟨s0, s1⟩
    go_simp
    with_reducible rfl
  rotate_left
  · simp only [Act.put, List.setIfInBounds_toArray, List.set_cons_zero, List.set_cons_succ]
    rfl
  refine pure_ (i := 4) (N := some 89) (v := ?_) (a' := ?_) #[true, true, true, true, true, false, false, false, false] rfl rfl (by kernel_rfl) (fun _ _ _ h => h) (Or.inl ⟨by rfl, ?_⟩) ?_ ?_
  rotate_left
  · intro w'
    go_simp
    with_reducible rfl
  rotate_left
  · simp only [Act.put, List.setIfInBounds_toArray, List.set_cons_zero, List.set_cons_succ]
    rfl
  refine pure_ (i := 5) (N := some 90) (v := .slice K18 (ns.length - i) (c7 - i)) (a' := ?_) #[true, true, true, true, true, true, false, false, false] rfl rfl (by kernel_rfl) (fun _ _ _ h => h) (Or.inl ⟨by rfl, ?_⟩) ?_ ?_
  · intro w'
    exact exec_cut_lo rfl rfl rfl Tryz.underlying26 (by kernel_rfl) (by have := HLE.out; have := HL.out; omega) HKK18.out w'
  rotate_left
  · simp only [Act.put, List.setIfInBounds_toArray, List.set_cons_zero, List.set_cons_succ]
    rfl
  refine one_ (i := 6) (N := some 91) #[true, true, true, true, true, true, true, false, false] rfl rfl (by kernel_rfl) (by decide) (fun K hK => ?_)
  refine Mw.step7 HD18.out (by rfl) rfl rfl rfl (HRD18.out) (by have := HLE.out; have := HL.out; simp only [List.length_append, List.length_take, List.length_singleton, List.length_nil]; omega) ?_
  intro P18 n18 e18 wa18 hn18 hW18 hb18
  refine hK.out _ _ ⟨(blk_cell hb18.1 7).trans rfl, (blk_cell hb18.2 7).trans rfl⟩ (fun hHeld => ?_)
  clear hK K
  refine norm_ (a' := ?_) ?_ ?_
  rotate_left
  · show Act.put _ (some 91) _ = _
    simp only [Act.put, List.setIfInBounds_toArray, List.set_cons_zero, List.set_cons_succ]
    rfl
  refine pure_ (i := 7) (N := some 92) (v := ?_) (a' := ?_) #[true, true, true, true, true, true, true, true, false] rfl rfl (by kernel_rfl) (fun _ _ _ h => h) (Or.inl ⟨by rfl, ?_⟩) ?_ ?_
  rotate_left
  · intro w'
    go_simp
    with_reducible rfl
  rotate_left
  · simp only [Act.put, List.setIfInBounds_toArray, List.set_cons_zero, List.set_cons_succ]
    rfl
  have hca := (blk_cell hb18.1 7).trans rfl
  have hfa := blk_frozen hb18.1 7
  refine last_ (i := 8) (N := none) #[true, true, true, true, true, true, true, true, true] rfl rfl (by kernel_rfl) (by decide) (fun K hK => ?_)
  refine skip_ (w1 := wa18.setCell ⟨w8.heap.size + 1, 7, none⟩ (.slice P18 n18 e18)) (by rfl) rfl ?_ ?_
  · clear hHeld
    go_simp
  refine hK.out _ _ ?_
  refine done_ (by kernel_rfl) ?_
  clear hK K hca hfa hHeld
  have HW18 := hi_ hW18
  clear hn18 hW18 hb18 HD18 HRR HCR HW17
  go_wp2_with fail
  have HD19 := hi_ HW18.out.drew
  obtain ⟨hlr, hcr, hrr⟩ := rowM HD19.out.r6
  obtain ⟨K19, hK19⟩ : ∃ K19, (if c6 = i then A6 else A6.map (·.add (i * 8))) = K19 := ⟨_, rfl⟩
  have HRD19 : Hid (ReadsRow _ 8 _ K19 (xs.length - i) (xs.drop i)) := hi_ (by have := rr_drop (m := i) hrr (by have := HLE.out; have := HL.out; omega) hcr; rw [← hK19]; exact this)
  have HKK19 := hi_ hK19
  clear hK19
  obtain ⟨B19, d19, hz⟩ := Kd.R_slice HD19.out.q6
  have HRR := hi_ hrr
  have HCR := hi_ hcr
  clear hlr hcr hrr hz
  refine start_ (n := 9) (S := fun w' => w'.cell? ⟨w8.heap.size + 1, 6, none⟩ = some (.slice P17 n17 e17) ∧ w'.cell? ⟨w1.heap.size, 6, none⟩ = some (.slice A6 xs.length c6)) (ds := [8]) #[false, false, false, false, false, false, false, false, false] (by kernel_rfl) rfl rfl ⟨(blk_cell HD19.out.out 6).trans rfl, (blk_cell HD19.out.src 6).trans rfl⟩ (fun hHeld => ?_)
  refine pure_ (i := 0) (N := some 93) (v := ?_) (a' := ?_) #[true, false, false, false, false, false, false, false, false] rfl rfl (by kernel_rfl) (fun _ _ _ h => h) (Or.inl ⟨by rfl, ?_⟩) ?_ ?_
  rotate_left
  · intro w'
    go_simp
    with_reducible rfl
  rotate_left
  · simp only [Act.put, List.setIfInBounds_toArray, List.set_cons_zero, List.set_cons_succ]
    rfl
  refine take_ (i := 1) (N := some 94) (v := ?_) (a' := ?_) #[true, true, false, false, false, false, false, false, false] rfl rfl (by kernel_rfl) (fun _ _ _ h => h) (Or.inl ⟨by rfl, ?_⟩) hHeld ?_ ?_
  rotate_left
  · rintro w' ⟨s0, s1⟩
    go_simp
    with_reducible rfl
  rotate_left
  · simp only [Act.put, List.setIfInBounds_toArray, List.set_cons_zero, List.set_cons_succ]
    rfl
  refine pure_ (i := 2) (N := some 95) (v := ?_) (a' := ?_) #[true, true, true, false, false, false, false, false, false] rfl rfl (by kernel_rfl) (fun _ _ _ h => h) (Or.inl ⟨by rfl, ?_⟩) ?_ ?_
  rotate_left
  · intro w'
    go_simp
    with_reducible rfl
  rotate_left
  · simp only [Act.put, List.setIfInBounds_toArray, List.set_cons_zero, List.set_cons_succ]
    rfl
  refine take_ (i := 3) (N := some 96) (v := ?_) (a' := ?_) #[true, true, true, true, false, false, false, false, false] rfl rfl (by kernel_rfl) (fun _ _ _ h => h) (Or.inl ⟨by rfl, ?_⟩) hHeld ?_ ?_
  rotate_left
  · rintro w' ⟨s0, s1⟩
    go_simp
    with_reducible rfl
  rotate_left
  · simp only [Act.put, List.setIfInBounds_toArray, List.set_cons_zero, List.set_cons_succ]
    rfl
  refine pure_ (i := 4) (N := some 97) (v := ?_) (a' := ?_) #[true, true, true, true, true, false, false, false, false] rfl rfl (by kernel_rfl) (fun _ _ _ h => h) (Or.inl ⟨by rfl, ?_⟩) ?_ ?_
  rotate_left
  · intro w'
    go_simp
    with_reducible rfl
  rotate_left
  · simp only [Act.put, List.setIfInBounds_toArray, List.set_cons_zero, List.set_cons_succ]
    rfl
  refine pure_ (i := 5) (N := some 98) (v := .slice K19 (xs.length - i) (c6 - i)) (a' := ?_) #[true, true, true, true, true, true, false, false, false] rfl rfl (by kernel_rfl) (fun _ _ _ h => h) (Or.inl ⟨by rfl, ?_⟩) ?_ ?_
  · intro w'
    exact exec_cut_lo rfl rfl rfl Tryz.underlying33 (by kernel_rfl) (by have := HLE.out; have := HL.out; omega) HKK19.out w'
  rotate_left
  · simp only [Act.put, List.setIfInBounds_toArray, List.set_cons_zero, List.set_cons_succ]
    rfl
  refine one_ (i := 6) (N := some 99) #[true, true, true, true, true, true, true, false, false] rfl rfl (by kernel_rfl) (by decide) (fun K hK => ?_)
  refine Mw.step6 HD19.out (by rfl) rfl rfl rfl (HRD19.out) (by have := HLE.out; have := HL.out; simp only [List.length_append, List.length_take, List.length_singleton, List.length_nil]; omega) ?_
  intro P19 n19 e19 wa19 hn19 hW19 hb19
  refine hK.out _ _ ⟨(blk_cell hb19.1 6).trans rfl, (blk_cell hb19.2 6).trans rfl⟩ (fun hHeld => ?_)
  clear hK K
  refine norm_ (a' := ?_) ?_ ?_
  rotate_left
  · show Act.put _ (some 99) _ = _
    simp only [Act.put, List.setIfInBounds_toArray, List.set_cons_zero, List.set_cons_succ]
    rfl
  refine pure_ (i := 7) (N := some 100) (v := ?_) (a' := ?_) #[true, true, true, true, true, true, true, true, false] rfl rfl (by kernel_rfl) (fun _ _ _ h => h) (Or.inl ⟨by rfl, ?_⟩) ?_ ?_
  rotate_left
  · intro w'
    go_simp
    with_reducible rfl
  rotate_left
  · simp only [Act.put, List.setIfInBounds_toArray, List.set_cons_zero, List.set_cons_succ]
    rfl
  have hca := (blk_cell hb19.1 6).trans rfl
  have hfa := blk_frozen hb19.1 6
  refine last_ (i := 8) (N := none) #[true, true, true, true, true, true, true, true, true] rfl rfl (by kernel_rfl) (by decide) (fun K hK => ?_)
  refine skip_ (w1 := wa19.setCell ⟨w8.heap.size + 1, 6, none⟩ (.slice P19 n19 e19)) (by rfl) rfl ?_ ?_
  · clear hHeld
    go_simp
  refine hK.out _ _ ?_
  refine done_ (by kernel_rfl) ?_
  clear hK K hca hfa hHeld
  have HW19 := hi_ hW19
  clear hn19 hW19 hb19 HD19 HRR HCR HW18
  have HO19 : Hid ((#[.int .i64 5, .bool false, .bool false, .string ⟨#[]⟩, .int .i64 0, .string ⟨#[]⟩, .slice P19 n19 e19, .slice P18 n18 e18] : Array Value).toList.all (·.oneCell') = true) := hi_ rfl
  go_wp2_with (first | (refine wpList_load_row rfl 35 (.tmp 8) rfl (w8.heap.size + 1) rfl 35 _ (0, 0) _ HW19.out.out Tryz.underlying35 rfl (by kernel_rfl) ?_) | (refine row_event rfl 35 (.tmp 4) (.tmp 101) rfl (w1.heap.size + 1) _ rfl rfl 35 _ HW19.out.res (by kernel_rfl) rfl HO19.out ?_; intro w20 hr20 hk20))
  have lt := HW19.out.lt
  have hlx : xs.length = ns.length := HL.out.1
  have hT : T = ((put xs i (fv (objA ns a)).1, put ns i name), (fv (objA ns a)).2) := by
   rw [← HT.out]
   unfold objT
   rw [HPR.out, if_neg (by simp)]
   show ((put xs (pos ns (objN a)) _, put ns (pos ns (objN a)) (objN a)), _) = _
   rw [← HNA.out, HI.out]
  have hgl := H.out.lt
  have h19 := (H8.out.below (HW19.out.bel)).far hk20 (by omega) (by have := H.out.kp.size; omega)
  refine bodyPost_ret (results_cell_row rfl _ _ (w1.heap.size + 1) 35 _ (0, 0) _ rfl hr20 Tryz.underlying35 rfl (by kernel_rfl)) rfl ⟨_, _, put xs i y8, put ns i name, q8, u8, rfl, Kd.R_mono (Kd.R_grown HW19.out.q6 hk20 (fun k hk e => by injection e with e; exact hk.2.2.1 e)) (fun _ _ => trivial), Kd.R_mono (Kd.R_grown HW19.out.q7 hk20 (fun k hk e => by injection e with e; omega)) (fun _ _ => trivial), ?_, ?_, ?_, ?_⟩
  · unfold put; simp only [List.length_append, List.length_take, List.length_drop, List.length_singleton]; omega
  · unfold put; simp only [List.length_append, List.length_take, List.length_drop, List.length_singleton]; omega
  · rw [hT]; exact h19
  intro e
  rw [hT] at e ⊢
  rw [HE8.out e]
  exact ⟨rfl, by rw [← HI.out]; exact put_rises HR.out HHF.out⟩
structure Lo (w : World) (base b : Nat) (x : List S28 × List ByteArray) : Prop where
  vc : ∃ v6 v7, w.heap[b]? = some (.cells #[.int .i64 5, .bool false, .bool false, .string ⟨#[]⟩, .int .i64 0, .string ⟨#[]⟩, v6, v7] 35 (0, 0)) ∧ k35.R 35 w base (fun _ => True) v6 x.1 ∧ Kd.string.R 9 w base (fun _ => True) v7 x.2
  lt : b < base ∧ base ≤ w.heap.size
theorem Lo.kept {w w' : World} {base b g : Nat} {x : List S28 × List ByteArray} (h : Lo w base b x) (k : w.grownBy w' (some g)) (hg : g < b) : Lo w' base b x := by
 obtain ⟨v6, v7, hv, hr, hn⟩ := h.vc
 have hlt := h.lt
 exact ⟨⟨v6, v7, (k.block b (Array.getElem?_eq_some_iff.1 hv).1 (fun e => by injection e with e; omega)).trans hv,
  Kd.R_mono (Kd.R_grown (Kd.R_bound hr) k (fun i hi e => by have := hi.2.1; injection e with e; omega)) (fun _ _ => trivial),
  Kd.R_mono (Kd.R_grown (Kd.R_bound hn) k (fun i hi e => by have := hi.2.1; injection e with e; omega)) (fun _ _ => trivial)⟩, hlt.1, Nat.le_trans hlt.2 k.size⟩
theorem keeps_objT {fv : S → S28 × S} (hlen : ∀ b, (fv b).2.s.length ≤ b.s.length) (hopen : ∀ b, (fv b).2.o = b.o) (x : List S28 × List ByteArray) (b : S) : (objT fv x b).2.s.length ≤ b.s.length ∧ (objT fv x b).2.o = b.o := by
 unfold objT
 split
 · have h := (keeps_skip b).trans (keeps_fail b.skip 11 (by decide))
   exact ⟨h.len, h.o⟩
 have h := keeps_objA x.2 b
 exact ⟨Nat.le_trans (hlen _) h.len, (hopen _).trans h.o⟩
theorem objF_e {fv : S → S28 × S} (hbad : ∀ b, b.e ≠ 0 → (fv b).2.e = b.e) (x : List S28 × List ByteArray) (b : S) (h : b.e ≠ 0) : (objT fv x b).2.e = b.e := by
 unfold objT
 split
 · exact fail_e (a := b.skip) h _
 have h1 := objA_e h x.2
 show (fv (objA x.2 b)).2.e = _
 rw [hbad _ (by rw [h1]; exact h), h1]
set_option maxRecDepth 100000 in
set_option maxHeartbeats 8000000 in
theorem obj15 (fv : S → S28 × S) (n : Nat) (HV : WC 37 #[] (OKn n) fv) (hbad : ∀ b, b.e ≠ 0 → (fv b).2.e = b.e) (hlen : ∀ b, (fv b).2.s.length ≤ b.s.length) (hskip : ∀ b, fv b.skip = fv b) (hopen : ∀ b, (fv b).2.o = b.o) :
    WC 75 #[.int .i64 5, .int .u8 125] (fun b => b.e = 0 ∧ pk b.s = 123 ∧ OKn (n + 1) b) (S.obj fv) := by
 intro s w w1 g a p o h hs ha
 show Calls Tryz.prog 75 #[.pointer (some ⟨g, 0, none⟩), .int .i64 5, .int .u8 125] w1 _
 have H := hi_ h
 have HS := hi_ hs
 have HE := hi_ ha.1
 have HK := hi_ ha.2.1
 have HO := hi_ (ha.2.2 ha.1)
 have HVV := hi_ HV
 have HBD := hi_ (And.intro hbad (And.intro hlen (And.intro hskip hopen)))
 have HD := hi_ (h.ok ha.1)
 have hoo : o = a.o := (h.ok ha.1).2.2
 subst hoo
 have HB0 : Hid (Below w1.heap.size w1 ((w1.alloc (.cells zA 35)).alloc (.cells zA 35))) := hi_ ((Below.alloc (Below.refl _ _) (Nat.le_refl _) _).trans ((Below.alloc (Below.refl _ _) (Nat.le_refl _) _).mono (by simp)))
 have HST : Hid (S.obj fv a = (⟨5, false, z24, ⟨#[]⟩, (listG (objT fv) [125] ([], []) a.enter).1.1, (listG (objT fv) [125] ([], []) a.enter).1.2⟩, (listG (objT fv) [125] ([], []) a.enter).2)) := hi_ rfl
 have HAB : Hid (∀ x b, b.e ≠ 0 → (objT fv x b).2.e = b.e) := hi_ (fun x b h => objF_e hbad x b h)
 clear h hs ha HV hbad hlen hskip hopen
 have HBB : Hid (∀ o1 o2, Below w1.heap.size w1 ((w1.alloc o1).alloc o2)) := hi_ (fun o1 o2 => (Below.alloc (Below.refl _ _) (Nat.le_refl _) o1).trans ((Below.alloc (Below.refl _ _) (Nat.le_refl _) o2).mono (by simp)))
 have cc : ∀ o1 o2, ((w1.alloc o1).alloc o2).cell? ⟨g, 2, none⟩ = some (.int .i64 a.o) := fun o1 o2 => (H.out.below (HBB.out o1 o2)).c2
 have HWb : Hid (Below w1.heap.size w1 ((w1.alloc (.cells zA 35)).alloc (.cells (vA 5) 35))) := hi_ (HBB.out _ _)
 have HN0 : Hid (((w1.alloc (.cells zA 35)).alloc (.cells (vA 5) 35)).heap[w1.heap.size]? = some (.cells zA 35 (0, 0))) := hi_ (blk_alloc (blk_new w1 _) _)
 have HN1 : Hid (((w1.alloc (.cells zA 35)).alloc (.cells (vA 5) 35)).heap[w1.heap.size + 1]? = some (.cells (vA 5) 35 (0, 0))) := hi_ (by have := blk_new (w1.alloc (.cells zA 35)) (.cells (vA 5) 35); simpa using this)
 have HSZ : Hid (((w1.alloc (.cells zA 35)).alloc (.cells (vA 5) 35)).heap.size = w1.heap.size + 2) := hi_ (by simp)
 by_cases ho : a.o = 16
 · have e1 : (a.o == 16) = true := by simpa using ho
   have HEN := hi_ (listG_e HAB.out [125] ([], []) (a := a.enter) (by rw [enter_deep HE.out ho]; decide))
   have HE35 := hi_ (enter_deep HE.out ho)
   clear ho
   go_enter Tryz.func75, Tryz.ntmps75
   go_wp2_with fail
   refine (fail15 (H.out.below HWb.out).now 35 (by decide)).mono ?_
   rintro E w4 ⟨rfl, h4⟩
   have HR4 := hi_ (h4.keep HN0.out (Nat.ne_of_gt H.out.lt))
   have HV4 := hi_ (h4.keep HN1.out (by have := H.out.lt; omega))
   have H4 := hi_ ((H.out.below HWb.out).trans h4)
   clear h4 cc
   go_wp2_with (first | (refine wpList_load_row rfl 35 (.tmp 7) rfl (w1.heap.size + 1) rfl 35 _ (0, 0) _ HV4.out Tryz.underlying35 rfl (by kernel_rfl) ?_) | (refine row_event rfl 35 (.tmp 6) (.tmp 18) rfl w1.heap.size _ rfl rfl 35 _ HR4.out (by kernel_rfl) rfl rfl ?_; intro w5 hr5 hk5))
   have h5 := H4.out.far hk5 (Nat.ne_of_gt H.out.lt) H.out.kp.size
   have he35 : (S.obj fv a).2.e = 35 := by rw [HST.out]; exact HEN.out.trans HE35.out
   have hf35 : (a.fail 35).e = 35 := fail_e0 HE.out 35
   exact bodyPost_ret (results_cell_row rfl _ _ w1.heap.size 35 _ (0, 0) _ rfl hr5 Tryz.underlying35 rfl (by kernel_rfl)) rfl ⟨_, S28.mk 5 false z24 ⟨#[]⟩ [] [], p, a.o, rfl, Jw.flat w5 _ (S28.mk 5 false z24 ⟨#[]⟩ [] []) rfl rfl, h5.bad (by rw [hf35]; decide) (by rw [he35, hf35]), fun e => absurd (he35.symm.trans e) (by decide)⟩
 · have e1 : (a.o == 16) = false := by simpa using ho
   have HEN := hi_ (enter_ok HE.out ho)
   have HNO : Hid (a.o + 1 ≤ 16) := hi_ (by have := HO.out; omega)
   clear ho
   have cp : ∀ o1 o2, ((w1.alloc o1).alloc o2).cell? ⟨g, 1, none⟩ = some (.int .i64 p) := fun o1 o2 => (H.out.below (HBB.out o1 o2)).c1
   have fp : ∀ o1 o2 j, ((w1.alloc o1).alloc o2).frozen? ⟨g, j, none⟩ = false := fun o1 o2 j => (H.out.below (HBB.out o1 o2)).fz j
   have hp1 : p + 1 ≤ s.length ∧ s.drop (p + 1) = a.s.tail := by
    obtain ⟨b, l, hd, hb, hl, hle⟩ := drop_pk (s := s) (p := p) (c := 123) (by rw [HD.out.2.1]; exact HK.out) (by decide)
    exact ⟨hle, by rw [hl, ← HD.out.2.1, hd]; rfl⟩
   have hsl := HS.out
   have hob := HO.out
   have hS1 := (H.out.below HWb.out).s1 (p + 1) ⟨a.s.tail, a.o, a.e⟩ rfl (by omega) (fun _ => ⟨hp1.1, hp1.2, rfl⟩)
   have hS2 := hS1.s2 (wrap64 (a.o + 1)) a.enter (by rw [HEN.out]; exact HE.out.symm) (fun _ => ⟨hp1.1, by rw [HEN.out]; exact hp1.2, by rw [HEN.out, w64 (by omega) (by omega)]⟩)
   have hwp : ((p + 1 : Nat) : Int) = wrap64 ((p : Int) + 1) := (w1n p s.length (by omega) (by omega)).symm
   rw [hwp] at hS2
   have HS2 := hi_ hS2
   have HN02 : Hid _ := hi_ ((Below.heap_setCell ((((w1.alloc (.cells zA 35)).alloc (.cells (vA 5) 35))).setCell ⟨g, 1, none⟩ (.int .i64 (wrap64 ((p : Int) + 1)))) ⟨g, 2, none⟩ (.int .i64 (wrap64 (a.o + 1))) w1.heap.size (Nat.ne_of_gt H.out.lt)).trans ((Below.heap_setCell (((w1.alloc (.cells zA 35)).alloc (.cells (vA 5) 35))) ⟨g, 1, none⟩ (.int .i64 (wrap64 ((p : Int) + 1))) w1.heap.size (Nat.ne_of_gt H.out.lt)).trans HN0.out))
   have HN12 : Hid _ := hi_ ((Below.heap_setCell ((((w1.alloc (.cells zA 35)).alloc (.cells (vA 5) 35))).setCell ⟨g, 1, none⟩ (.int .i64 (wrap64 ((p : Int) + 1)))) ⟨g, 2, none⟩ (.int .i64 (wrap64 (a.o + 1))) (w1.heap.size + 1) (by have := H.out.lt; show w1.heap.size + 1 ≠ g; omega)).trans ((Below.heap_setCell (((w1.alloc (.cells zA 35)).alloc (.cells (vA 5) 35))) ⟨g, 1, none⟩ (.int .i64 (wrap64 ((p : Int) + 1))) (w1.heap.size + 1) (by have := H.out.lt; show w1.heap.size + 1 ≠ g; omega)).trans HN1.out))
   have HP1 := hi_ hp1
   clear hS1 hS2 hwp hp1 hsl hob
   go_enter Tryz.func75, Tryz.ntmps75
   go_wp2_with fail
   refine (blanks15 HS2.out.now).mono ?_
   rintro E w4 ⟨rfl, q, h4⟩
   have HR4 := hi_ (h4.keep HN02.out (Nat.ne_of_gt H.out.lt))
   have HV4 := hi_ (h4.keep HN12.out (by have := H.out.lt; omega))
   have H4 := hi_ (HS2.out.trans h4)
   have HL4 : Hid (w1.heap.size + 2 ≤ w4.heap.size) := hi_ (by have := h4.kp.size; have := HSZ.out; simp at *; omega)
   clear h4 cc cp fp
   go_wp2_with fail
   refine (peek15 H4.out.now).mono ?_
   rintro E w5 ⟨rfl, h5⟩
   have HR5 := hi_ (h5.keep HR4.out (Nat.ne_of_gt H.out.lt))
   have HV5 := hi_ (h5.keep HV4.out (by have := H.out.lt; omega))
   have H5 := hi_ (H4.out.trans h5)
   have HL5 : Hid (w1.heap.size + 2 ≤ w5.heap.size) := hi_ (Nat.le_trans HL4.out h5.kp.size)
   clear h5
   obtain ⟨c, hc⟩ : ∃ c, pk (s.drop q) = c := ⟨_, rfl⟩
   rw [hc]
   have hee : a.enter.e = 0 := by rw [HEN.out]
   have HEE := hi_ hee
   have HD5 := hi_ (H5.out.ok hee)
   have HC : Hid (pk a.enter.skip.s = c) := hi_ (by rw [← HD5.out.2.1]; exact hc)
   clear hc hee
   by_cases k93 : c = 125
   · subst k93
     have HT := hi_ (take_pk a.enter 125 (by decide) HEE.out HC.out)
     have HS7 : Hid (∀ v1 v2, ((w5.setCell ⟨g, 1, none⟩ v1).setCell ⟨g, 2, none⟩ v2).heap[w1.heap.size]? = some (.cells zA 35 (0, 0)) ∧ ((w5.setCell ⟨g, 1, none⟩ v1).setCell ⟨g, 2, none⟩ v2).heap[w1.heap.size + 1]? = some (.cells (vA 5) 35 (0, 0))) := hi_ (fun v1 v2 =>
      ⟨(Below.heap_setCell _ ⟨g, 2, none⟩ v2 w1.heap.size (Nat.ne_of_gt H.out.lt)).trans ((Below.heap_setCell _ ⟨g, 1, none⟩ v1 w1.heap.size (Nat.ne_of_gt H.out.lt)).trans HR5.out),
       (Below.heap_setCell _ ⟨g, 2, none⟩ v2 (w1.heap.size + 1) (by have := H.out.lt; show w1.heap.size + 1 ≠ g; omega)).trans ((Below.heap_setCell _ ⟨g, 1, none⟩ v1 (w1.heap.size + 1) (by have := H.out.lt; show w1.heap.size + 1 ≠ g; omega)).trans HV5.out)⟩)
     have hq1 : q + 1 ≤ s.length ∧ s.drop (q + 1) = a.enter.skip.s.tail := by
      obtain ⟨b, l, hd, hb, hl, hle⟩ := drop_pk (s := s) (p := q) (c := 125) (by rw [HD5.out.2.1]; exact HC.out) (by decide)
      exact ⟨hle, by rw [hl, ← HD5.out.2.1, hd]; rfl⟩
     have hsl := HS.out
     have hob := HO.out
     have heo : wrap64 (a.o + 1) = a.o + 1 := w64 (by omega) (by omega)
     have hr7 : (S.obj fv a).2 = ⟨a.enter.skip.s.tail, a.o + 1 - 1, 0⟩ := by
      rw [HST.out, listG_F, if_pos HT.out.1, HT.out.2]
      show S.left ⟨_, a.enter.o, 0⟩ = _
      rw [HEN.out]
      rfl
     have hr8 : (S.obj fv a).1 = S28.mk 5 false z24 ⟨#[]⟩ [] [] := by rw [HST.out, listG_F, if_pos HT.out.1]
     have h6 := (H5.out.s1 (q + 1) ⟨a.enter.skip.s.tail, a.o + 1, a.enter.skip.e⟩ rfl (by omega) (fun _ => ⟨hq1.1, hq1.2, heo⟩)).s2 (wrap64 (wrap64 (a.o + 1) - 1)) (S.obj fv a).2 (by rw [hr7]; exact HEE.out.symm) (fun _ => ⟨hq1.1, by rw [hr7]; exact hq1.2, by rw [hr7, heo, w64 (by omega) (by omega)]⟩)
     have hwp : ((q + 1 : Nat) : Int) = wrap64 ((q : Int) + 1) := (w1n q s.length (by omega) (by omega)).symm
     rw [hwp] at h6
     have H6 := hi_ h6
     have H8 := hi_ hr8
     clear hq1 hsl hob heo hr7 h6 hwp hr8
     have cp := H5.out.c1
     have co := H5.out.c2
     have fp := H5.out.fz
     go_wp2_with (first | (refine wpList_load_row rfl 35 (.tmp 7) rfl (w1.heap.size + 1) rfl 35 _ (0, 0) _ (HS7.out _ _).2 Tryz.underlying35 rfl (by kernel_rfl) ?_) | (refine row_event rfl 35 (.tmp 6) (.tmp 53) rfl w1.heap.size _ rfl rfl 35 _ (HS7.out _ _).1 (by kernel_rfl) rfl rfl ?_; intro w7 hr7 hk7))
     have h7 := H6.out.far hk7 (Nat.ne_of_gt H.out.lt) H.out.kp.size
     exact bodyPost_ret (results_cell_row rfl _ _ w1.heap.size 35 _ (0, 0) _ rfl hr7 Tryz.underlying35 rfl (by kernel_rfl)) rfl ⟨_, S28.mk 5 false z24 ⟨#[]⟩ [] [], q + 1, _, rfl, Jw.flat w7 _ (S28.mk 5 false z24 ⟨#[]⟩ [] []) rfl rfl, h7, fun _ => H8.out.symm⟩
   have e93 : (c == 125) = false := by simpa using k93
   have HG : Hid (listG (objT fv) [125] ([], []) a.enter = goF (objT fv) 125 ([], []) a.enter.skip) := hi_ (by
    have ht : a.enter.took [125] = false := by rw [took_pk _ 125 (by decide), HC.out]; rw [show decide (c = ((125 : UInt8).toNat : Int)) = false from decide_eq_false k93]; rfl
    rw [listG_F, ht, if_neg (by decide), take_no ht])
   clear HC
   go_wp2_with fail
   go_loopg [] (s.length + 1) (fun kq wx => ∃ (x : List S28 × List ByteArray) (b : S) (qq : Nat), Hid (Rf s w wx g b qq (a.o + 1)) ∧ Hid (b.e = 0 ∧ b.o = a.o + 1 ∧ b.s.length < kq + 0 ∧ x.2.length + b.s.length ≤ s.length + 1 ∧ goF (objT fv) 125 x b = goF (objT fv) 125 ([], []) a.enter.skip) ∧ Hid (x.1.length = x.2.length ∧ rises x.2) ∧ Hid (Lo wx (w1.heap.size + 2) (w1.heap.size + 1) x) ∧ Hid (wx.heap[w1.heap.size]? = some (.cells zA 35 (0, 0))))
   case atStart =>
    have hob := HO.out
    have heo : wrap64 (a.o + 1) = a.o + 1 := w64 (by omega) (by omega)
    have h5 := H5.out
    rw [heo] at h5
    have hl : a.enter.skip.s.length ≤ s.length := by rw [← HD5.out.2.1, List.length_drop]; omega
    exact ⟨([], []), a.enter.skip, q, hi_ h5, hi_ ⟨HEE.out, by show a.enter.o = _; rw [HEN.out], by omega, by simp; omega, rfl⟩,
     hi_ ⟨rfl, List.Pairwise.nil⟩, hi_ ⟨⟨_, _, HV5.out, Kd.R_nil _ _ _ _ _, Kd.R_nil _ _ _ _ _⟩, by omega, HL5.out⟩, HR5⟩
   case round =>
    obtain ⟨x, b, qq, HQ, HP, HXL, HW, HZ⟩ := hrel
    have ce := HQ.out.c3
    rw [HP.out.1] at ce
    go_wp2_with fail
    refine (blanks15 HQ.out.now).mono ?_
    rintro E w7 ⟨rfl, q7, h7⟩
    have HR7 := hi_ (h7.keep HZ.out (Nat.ne_of_gt H.out.lt))
    have HQ7 := hi_ (HQ.out.trans h7)
    have HW7 := hi_ (HW.out.kept h7.kp (by have := H.out.lt; omega))
    clear h7 ce HW HZ
    obtain ⟨v6, v7, hb7, h6r, h7r⟩ := HW7.out.vc
    have HB7 := hi_ hb7
    have HRO := hi_ (And.intro h6r h7r)
    obtain ⟨A6, c6, rfl⟩ := Kd.R_slice h6r
    obtain ⟨A7, c7, rfl⟩ := Kd.R_slice h7r
    clear hb7 h6r h7r
    go_wp2_with (refine wpList_load_row rfl 35 (.tmp 7) rfl (w1.heap.size + 1) rfl 35 _ (0, 0) _ HB7.out Tryz.underlying35 rfl (by kernel_rfl) ?_)
    have hob := HO.out
    have hno := HNO.out
    refine (member15 (fv := fv) HVV.out HBD.out.1 HQ7.out.now HS.out HP.out.1 ⟨by have := HP.out.2.1; omega, by have := HP.out.2.1; omega, by have := HP.out.2.1; push_cast at hob ⊢; omega⟩ ⟨HW7.out.lt.2, by have := H.out.lt; omega⟩ HRO.out.1 HRO.out.2 ⟨HXL.out.1, by have := HP.out.2.2.2.1; have := HS.out; omega⟩ HXL.out.2).mono ?_
    rintro E w8 ⟨z6, z7, X, N, q8, u8, rfl, h6, h7, hXN, hNl, h8, h8e⟩
    obtain ⟨B6, d6, rfl⟩ := Kd.R_slice h6
    obtain ⟨B7, d7, rfl⟩ := Kd.R_slice h7
    have HB8 := hi_ (h8.keep HB7.out (show w1.heap.size + 1 ≠ g by have := H.out.lt; omega))
    have HR8 := hi_ (h8.keep HR7.out (Nat.ne_of_gt H.out.lt))
    have HRN := hi_ (And.intro h6 h7)
    have HQ8 := hi_ (HQ7.out.trans h8)
    have HE8 := hi_ h8e
    have HNL := hi_ (And.intro hXN hNl)
    have HS8 := hi_ (Nat.le_trans HW7.out.lt.2 h8.kp.size)
    clear h6 h7 h8 h8e hXN hNl hob hno HRO HB7
    unfold vB
    go_wp2_with (refine row_event rfl 35 (.tmp 7) (.tmp 72) rfl (w1.heap.size + 1) _ rfl rfl 35 _ HB8.out (by kernel_rfl) rfl rfl ?_; intro w9 hr9 hk9)
    have hle9 := hk9.size
    have HL9 : Hid (Lo w9 (w1.heap.size + 2) (w1.heap.size + 1) (X, N)) := hi_ ⟨⟨_, _, hr9, Kd.R_mono (Kd.R_grown (Kd.R_bound HRN.out.1) hk9 (fun i hi e => by have := hi.2.1; injection e with e; omega)) (fun _ _ => trivial), Kd.R_mono (Kd.R_grown (Kd.R_bound HRN.out.2) hk9 (fun i hi e => by have := hi.2.1; injection e with e; omega)) (fun _ _ => trivial)⟩, by omega, by have := HS8.out; omega⟩
    have H9 : Hid (Rf s w w9 g (objT fv x b).2 q8 u8) := hi_ (HQ8.out.far hk9 (by have := H.out.lt; omega) (by have := H.out.kp.size; omega))
    have HZ9 := hi_ ((hk9.block w1.heap.size (by have := HS8.out; omega) (fun e => by injection e with e; omega)).trans HR8.out)
    have HYY : Hid ((objT fv x b).2.e = 0 → (X, N) = (objT fv x b).1 ∧ rises N) := HE8
    have HKO := hi_ (keeps_objT (fv := fv) HBD.out.2.1 HBD.out.2.2.2)
    clear hle9 hr9 hk9 HE8 HQ8 HR8 HB8 HRN
    refine (blanks15 H9.out.now).mono ?_
    rintro E w10 ⟨rfl, q10, h10⟩
    have HL10 := hi_ (HL9.out.kept h10.kp (by have := H.out.lt; omega))
    have HZ10 := hi_ (h10.keep HZ9.out (Nat.ne_of_gt H.out.lt))
    have H10 := hi_ (H9.out.trans h10)
    clear h10
    go_wp2_with fail
    refine (peek15 H10.out.now).mono ?_
    rintro E w11 ⟨rfl, h11⟩
    have HL11 := hi_ (HL10.out.kept h11.kp (by have := H.out.lt; omega))
    have HZ11 := hi_ (h11.keep HZ10.out (Nat.ne_of_gt H.out.lt))
    have H11 := hi_ (H10.out.trans h11)
    clear h11
    obtain ⟨c1, hc1⟩ : ∃ c1, pk (s.drop q10) = c1 := ⟨_, rfl⟩
    rw [hc1]
    have HC1 := hi_ hc1
    have ce := H11.out.c3
    clear hc1
    by_cases hee : (objT fv x b).2.e ≠ 0
    · have e1 : ((objT fv x b).2.e == 0) = false := by simpa using hee
      have e2 : ((objT fv x b).2.e != 0) = true := by simpa using hee
      have HEE := hi_ hee
      clear hee
      go_wp2_with fail
      refine (fail15 H11.out.now 11 (by decide)).mono ?_
      rintro E w12 ⟨rfl, h12⟩
      obtain ⟨z6, z7, hz, hz6, hz7⟩ := (HL11.out.kept h12.kp (by have := H.out.lt; omega)).vc
      have HM12 := hi_ (k35_mkM w12 _ (fun _ => True) (S28.mk 5 false z24 ⟨#[]⟩ X N) (Kd.R_mono hz6 (fun _ _ => trivial)) hz7)
      have HO12 : Hid ((#[.int .i64 5, .bool false, .bool false, .string ⟨#[]⟩, .int .i64 0, .string ⟨#[]⟩, z6, z7] : Array Value).toList.all (·.oneCell') = true) := hi_ (List.all_eq_true.2 (fun u hu => k35.K_one (k35.K_of_M HM12.out) u hu))
      have HZ := hi_ hz
      have HZ12 := hi_ (h12.keep HZ11.out (Nat.ne_of_gt H.out.lt))
      have H12 := hi_ (H11.out.trans h12)
      clear h12 hz hz6 hz7 ce
      go_wp2_with (first | (refine wpList_load_row rfl 35 (.tmp 7) rfl (w1.heap.size + 1) rfl 35 _ (0, 0) _ HZ.out Tryz.underlying35 rfl (by kernel_rfl) ?_) | (refine row_event rfl 35 (.tmp 6) (.tmp 93) rfl w1.heap.size _ rfl rfl 35 _ HZ12.out (by kernel_rfl) rfl HO12.out ?_; intro w13 hr13 hk13))
      have h13 := H12.out.far hk13 (Nat.ne_of_gt H.out.lt) H.out.kp.size
      have hf : ((objT fv x b).2.skip.fail 11).e = (objT fv x b).2.e := fail_e HEE.out 11
      have hg2 : (S.obj fv a).2.e = (objT fv x b).2.e := by
       rw [HST.out, HG.out, ← HP.out.2.2.2.2]
       have hq : (objT fv x b).2 = (objT fv x b).2 := rfl
       exact goF_bad 125 x b HEE.out
      exact bodyPost_ret (results_cell_row rfl _ _ w1.heap.size 35 _ (0, 0) _ rfl hr13 Tryz.underlying35 rfl (by kernel_rfl)) rfl ⟨_, S28.mk 5 false z24 ⟨#[]⟩ X N, q10, u8, rfl, Jw.up HM12.out hk13 (by omega) (by omega), h13.bad (by rw [hf]; exact HEE.out) (by rw [hg2, hf]), fun e => absurd (hg2.symm.trans e) HEE.out⟩
    replace hee : (objT fv x b).2.e = 0 := Classical.not_not.1 hee
    have e1 : ((objT fv x b).2.e == 0) = true := by simpa using hee
    have e2 : ((objT fv x b).2.e != 0) = false := by simp [hee]
    have HEE := hi_ hee
    clear hee
    have HQ11 := hi_ (H11.out.ok HEE.out)
    have hu : u8 = a.o + 1 := HQ11.out.2.2.trans ((HKO.out x b).2.trans HP.out.2.1)
    subst hu
    have HY : Hid (objT fv x b = ((X, N), (objT fv x b).2)) := hi_ (by rw [(HYY.out HEE.out).1])
    have HRS := hi_ (HYY.out HEE.out).2
    have HC : Hid (pk (objT fv x b).2.skip.s = c1) := hi_ (by rw [← HQ11.out.2.1]; exact HC1.out)
    have HYE : Hid ((objT fv x b).2.e = 0) := hi_ HEE.out
    have HYL : Hid (∀ x b, (objT fv x b).2.s.length ≤ b.s.length) := hi_ (fun x b => (HKO.out x b).1)
    by_cases k44 : c1 = 44
    · have e44 : (c1 == 44) = true := by simpa using k44
      have n44 : (c1 != 44) = false := by simp [k44]
      have k93' : c1 ≠ 125 := by omega
      have e93' : (c1 == 125) = false := by simpa using k93'
      have n93 : (c1 != 125) = true := by simpa using k93'
      have HC44 := hi_ k44
      clear k44 k93'
      have hq1 : q10 + 1 ≤ s.length ∧ s.drop (q10 + 1) = (objT fv x b).2.skip.s.tail := by
       obtain ⟨b0, l, hd, hb, hl, hle⟩ := drop_pk (s := s) (p := q10) (c := 44) (by rw [HC1.out]; exact HC44.out) (by decide)
       exact ⟨hle, by rw [hl, ← HQ11.out.2.1, hd]; rfl⟩
      have hsl := HS.out
      have h12 := H11.out.s1 (q10 + 1) ⟨(objT fv x b).2.skip.s.tail, a.o + 1, (objT fv x b).2.skip.e⟩ rfl (by omega) (fun _ => ⟨hq1.1, hq1.2, rfl⟩)
      have hwp : ((q10 + 1 : Nat) : Int) = wrap64 ((q10 : Int) + 1) := (w1n q10 s.length (by omega) (by omega)).symm
      rw [hwp] at h12
      have H12 := hi_ h12
      have HL12 := hi_ (HL11.out.kept (grown_set w11 g 1 (.int .i64 (wrap64 ((q10 : Int) + 1)))) (by have := H.out.lt; omega))
      have HZ12 := hi_ ((Below.heap_setCell w11 ⟨g, 1, none⟩ (.int .i64 (wrap64 ((q10 : Int) + 1))) w1.heap.size (Nat.ne_of_gt H.out.lt)).trans HZ11.out)
      have hlt : (objT fv x b).2.skip.s.tail.length + 1 ≤ b.s.length := by
       have h1 := skip_len (objT fv x b).2
       have h2 := (HKO.out x b).1
       have h3 := skip_len b
       have h4 : s.drop q10 = (objT fv x b).2.skip.s := HQ11.out.2.1
       have h5 : 0 < (objT fv x b).2.skip.s.length := by rw [← h4, List.length_drop]; omega
       rw [List.length_tail]
       omega
      have HLT := hi_ hlt
      have HHP := hi_ hwp
      clear hq1 hsl h12 hlt hwp
      have cp := H11.out.c1
      have fp := H11.out.fz
      go_wp2_with fail
      go_roundg ((objT fv x b).2.skip.s.tail.length + 1)
      case measure => have := HLT.out; have := HP.out.2.2.1; omega
      case rel =>
       refine ⟨(X, N), ⟨(objT fv x b).2.skip.s.tail, a.o + 1, 0⟩, q10 + 1, ?_, hi_ ⟨rfl, rfl, by show (objT fv x b).2.skip.s.tail.length < _; omega, ?_, ?_⟩, hi_ ⟨HNL.out.1, HRS.out⟩, HL12, HZ12⟩
       · have h := H12.out
         have : (objT fv x b).2.skip.e = 0 := HEE.out
         rw [this] at h
         exact hi_ h
       · have h1 := HLT.out
         have h2 := HP.out.2.2.2.1
         have h3 := HNL.out.2
         show N.length + (objT fv x b).2.skip.s.tail.length ≤ _
         omega
       have h1 := goF_more (st := objT fv) HYL.out 125 x b HYE.out (by rw [HC.out]; exact HC44.out)
       rw [← HP.out.2.2.2.2, h1, show (objT fv x b).1 = (X, N) from (HYY.out HEE.out).1.symm, show (objT fv x b).2.o = a.o + 1 from (HKO.out x b).2.trans HP.out.2.1]
    have e44 : (c1 == 44) = false := by simpa using k44
    have n44 : (c1 != 44) = true := by simpa using k44
    have HK44 := hi_ k44
    clear k44
    by_cases k93' : c1 = 125
    · have e93' : (c1 == 125) = true := by simpa using k93'
      have n93 : (c1 != 125) = false := by simp [k93']
      have HC93 := hi_ k93'
      clear k93'
      have hq1 : q10 + 1 ≤ s.length ∧ s.drop (q10 + 1) = (objT fv x b).2.skip.s.tail := by
       obtain ⟨b0, l, hd, hb, hl, hle⟩ := drop_pk (s := s) (p := q10) (c := 125) (by rw [HC1.out]; exact HC93.out) (by decide)
       exact ⟨hle, by rw [hl, ← HQ11.out.2.1, hd]; rfl⟩
      have hr : S.obj fv a = (⟨5, false, z24, ⟨#[]⟩, X, N⟩, ⟨(objT fv x b).2.skip.s.tail, a.o + 1 - 1, 0⟩) := by
       have h1 := goF_end (st := objT fv) 125 (by decide) x b HYE.out (by rw [HC.out]; exact HK44.out) (by rw [HC.out]; exact HC93.out)
       rw [HST.out, HG.out, ← HP.out.2.2.2.2, h1, show (objT fv x b).1 = (X, N) from (HYY.out HEE.out).1.symm]
       show _ = (_, (⟨_, a.o + 1 - 1, 0⟩ : S))
       rw [show (objT fv x b).2.o = a.o + 1 from (HKO.out x b).2.trans HP.out.2.1]
      have hsl := HS.out
      have hob := HO.out
      have h12 := (H11.out.s1 (q10 + 1) ⟨(objT fv x b).2.skip.s.tail, a.o + 1, (objT fv x b).2.skip.e⟩ rfl (by omega) (fun _ => ⟨hq1.1, hq1.2, rfl⟩)).s2 (wrap64 a.o) (S.obj fv a).2 (by rw [hr]; exact HEE.out.symm) (fun _ => ⟨hq1.1, by rw [hr]; exact hq1.2, by rw [hr, w64 (by omega) (by omega)]; show a.o = a.o + 1 - 1; omega⟩)
      have hwp : ((q10 + 1 : Nat) : Int) = wrap64 ((q10 : Int) + 1) := (w1n q10 s.length (by omega) (by omega)).symm
      rw [hwp] at h12
      have H12 := hi_ h12
      obtain ⟨z6, z7, hz, hz6, hz7⟩ := ((HL11.out.kept (grown_set w11 g 1 (.int .i64 (wrap64 ((q10 : Int) + 1)))) (by have := H.out.lt; omega)).kept (grown_set _ g 2 (.int .i64 (wrap64 a.o))) (by have := H.out.lt; omega)).vc
      have HM12 := hi_ (k35_mkM _ _ (fun _ => True) (S28.mk 5 false z24 ⟨#[]⟩ X N) (Kd.R_mono hz6 (fun _ _ => trivial)) hz7)
      have HO12 : Hid ((#[.int .i64 5, .bool false, .bool false, .string ⟨#[]⟩, .int .i64 0, .string ⟨#[]⟩, z6, z7] : Array Value).toList.all (·.oneCell') = true) := hi_ (List.all_eq_true.2 (fun u hu => k35.K_one (k35.K_of_M HM12.out) u hu))
      have HZ := hi_ hz
      have HZ12 := hi_ ((Below.heap_setCell (w11.setCell ⟨g, 1, none⟩ (.int .i64 (wrap64 ((q10 : Int) + 1)))) ⟨g, 2, none⟩ (.int .i64 (wrap64 a.o)) w1.heap.size (Nat.ne_of_gt H.out.lt)).trans ((Below.heap_setCell w11 ⟨g, 1, none⟩ (.int .i64 (wrap64 ((q10 : Int) + 1))) w1.heap.size (Nat.ne_of_gt H.out.lt)).trans HZ11.out))
      have HR1 := hi_ hr
      clear hq1 hr hsl hob h12 hwp hz hz6 hz7
      have cp := H11.out.c1
      have co := H11.out.c2
      have fp := H11.out.fz
      go_wp2_with (first | (refine wpList_load_row rfl 35 (.tmp 7) rfl (w1.heap.size + 1) rfl 35 _ (0, 0) _ HZ.out Tryz.underlying35 rfl (by kernel_rfl) ?_) | (refine row_event rfl 35 (.tmp 6) (.tmp 111) rfl w1.heap.size _ rfl rfl 35 _ HZ12.out (by kernel_rfl) rfl HO12.out ?_; intro w13 hr13 hk13))
      have h13 := H12.out.far hk13 (Nat.ne_of_gt H.out.lt) H.out.kp.size
      exact bodyPost_ret (results_cell_row rfl _ _ w1.heap.size 35 _ (0, 0) _ rfl hr13 Tryz.underlying35 rfl (by kernel_rfl)) rfl ⟨_, S28.mk 5 false z24 ⟨#[]⟩ X N, q10 + 1, _, rfl, Jw.up HM12.out hk13 (by omega) (by omega), h13, fun e => by rw [HR1.out]⟩
    have e93' : (c1 == 125) = false := by simpa using k93'
    have n93 : (c1 != 125) = true := by simpa using k93'
    have HK93 := hi_ k93'
    clear k93'
    go_wp2_with fail
    refine (fail15 H11.out.now 11 (by decide)).mono ?_
    rintro E w12 ⟨rfl, h12⟩
    obtain ⟨z6, z7, hz, hz6, hz7⟩ := (HL11.out.kept h12.kp (by have := H.out.lt; omega)).vc
    have HM12 := hi_ (k35_mkM w12 _ (fun _ => True) (S28.mk 5 false z24 ⟨#[]⟩ X N) (Kd.R_mono hz6 (fun _ _ => trivial)) hz7)
    have HO12 : Hid ((#[.int .i64 5, .bool false, .bool false, .string ⟨#[]⟩, .int .i64 0, .string ⟨#[]⟩, z6, z7] : Array Value).toList.all (·.oneCell') = true) := hi_ (List.all_eq_true.2 (fun u hu => k35.K_one (k35.K_of_M HM12.out) u hu))
    have HZ := hi_ hz
    have HZ12 := hi_ (h12.keep HZ11.out (Nat.ne_of_gt H.out.lt))
    have H12 := hi_ (H11.out.trans h12)
    clear h12 hz hz6 hz7 ce
    go_wp2_with (first | (refine wpList_load_row rfl 35 (.tmp 7) rfl (w1.heap.size + 1) rfl 35 _ (0, 0) _ HZ.out Tryz.underlying35 rfl (by kernel_rfl) ?_) | (refine row_event rfl 35 (.tmp 6) (.tmp 93) rfl w1.heap.size _ rfl rfl 35 _ HZ12.out (by kernel_rfl) rfl HO12.out ?_; intro w13 hr13 hk13))
    have h13 := H12.out.far hk13 (Nat.ne_of_gt H.out.lt) H.out.kp.size
    have hf : ((objT fv x b).2.skip.fail 11).e = 11 := fail_e0 HEE.out 11
    have hg2 : (S.obj fv a).2.e = 11 := by
     rw [HST.out, HG.out, ← HP.out.2.2.2.2]
     exact goF_form 125 (by decide) x b HYE.out (by rw [HC.out]; exact HK44.out) (by rw [HC.out]; exact HK93.out)
    exact bodyPost_ret (results_cell_row rfl _ _ w1.heap.size 35 _ (0, 0) _ rfl hr13 Tryz.underlying35 rfl (by kernel_rfl)) rfl ⟨_, S28.mk 5 false z24 ⟨#[]⟩ X N, q10, a.o + 1, rfl, Jw.up HM12.out hk13 (by omega) (by omega), h13.bad (by rw [hf]; decide) (by rw [hg2, hf]), fun e => absurd (hg2.symm.trans e) (by decide)⟩
theorem WC.imp {fn : Nat} {more : Array Value} {ok ok' : S → Prop} {f f' : S → S28 × S} (h : WC fn more ok f) (h1 : ∀ a, ok' a → ok a) (h2 : ∀ a, ok' a → f a = f' a) : WC fn more ok' f' := fun s w w1 g a p o hr hs ha => by
 rw [← h2 a ha]
 exact h s w w1 g a p o hr hs (h1 a ha)
theorem gv15 : ∀ n, WC 37 #[] (OKn n) (gv n)
 | 0 => by
  have h := value15 (fa := textV) (fo := textV) (ok := fun b => b.e ≠ 0) number15 (fun s w w1 g a p o hr hs ha => absurd ha.1 ha.2.2) (fun s w w1 g a p o hr hs ha => absurd ha.1 ha.2.2) (fun a ha _ => ha)
  refine h.imp (fun a ha he => ?_) (fun a ha => ?_)
  · have := ha he; omega
  have hne : a.e ≠ 0 := fun he => by have := ha he; omega
  rw [gv_bad hne]
  unfold S.value S.value1
  rw [if_pos (show a.skip.e ≠ 0 from hne)]
 | n + 1 => value15 (ok := OKn (n + 1)) number15
     (arr15 (gv n) n (gv15 n) (fun b h => by rw [gv_bad h]; rfl) (fun b => (keeps_gv n b).len) (fun b => gv_skip n _ _ (skip2 b)) (fun b => (keeps_gv n b).o))
     (obj15 (gv n) n (gv15 n) (fun b h => by rw [gv_bad h]; rfl) (fun b => (keeps_gv n b).len) (fun b => gv_skip n _ _ (skip2 b)) (fun b => (keeps_gv n b).o)) (fun a ha _ => ha)
theorem ended_bad {b : S} (h : b.e ≠ 0) : b.ended.e = b.e := by
 unfold S.ended
 split
 · rfl
 exact fail_e (a := b.skip) h 11
structure JD (w : World) (x : S28) (A : Option Addr) (n c : Nat) (B : Option Addr) (m c' : Nat) : Prop where
  ln : n = x.f4.length
  nc : n ≤ c
  i : k35.C w A n x.f4
  lm : m = x.f5.length
  mc : m ≤ c'
  s : Kd.string.C w B m x.f5
theorem JD.below {w w' : World} {x : S28} {A B : Option Addr} {n c m c' : Nat} (h : JD w x A n c B m c') (hb : Below w.heap.size w w') : JD w' x A n c B m c' :=
 ⟨h.ln, h.nc, Kd.C_below h.i hb, h.lm, h.mc, Kd.C_below h.s hb⟩
theorem Jw.jd {w : World} {base : Nat} {v : Value} {x : S28} (h : Jw w base v x) : ∃ A n c B m c', v = .agg #[.int .i64 x.f0, .bool x.f1, .bool x.f2.f0, .string x.f2.f1, .int .i64 x.f2.f2, .string x.f3, .slice A n c, .slice B m c'] ∧ JD w x A n c B m c' := by
 obtain ⟨cs, rfl, hM⟩ := h
 obtain ⟨v6, v7, rfl, g6, g7⟩ := k35_openM hM
 obtain ⟨A, c, rfl, hl6, h6⟩ := Kd.R_reads g6
 obtain ⟨B, c', rfl, hl7, h7⟩ := Kd.R_reads g7
 exact ⟨A, _, c, B, _, c', rfl, ⟨rfl, hl6, h6, rfl, hl7, h7⟩⟩
set_option maxRecDepth 100000 in
set_option maxHeartbeats 8000000 in
theorem parse15w (s : List UInt8) (hs : s.length ≤ 600) (w : World) :
    Calls Tryz.prog 17 #[.string (ofL s)] w fun E w' => ∃ v, E = .returned (.tuple #[v, .int .i64 (pv s).2]) ∧ Jw w' w.heap.size v (pv s).1 ∧ Below w.heap.size w w' := by
 have hsz : ((ofL s).size : Int) ≤ 4096 := by rw [ofL_size]; omega
 have HLS := hi_ hs
 have HPV := hi_ (pv_gv s (by omega))
 clear hs
 go_enter Tryz.func17, Tryz.ntmps17
 have hR0 : ∀ o, Rf s ((w.alloc o).alloc (.cells #[.string (ofL s), .int .i64 0, .int .i64 0, .int .i64 0] 84)) ((w.alloc o).alloc (.cells #[.string (ofL s), .int .i64 0, .int .i64 0, .int .i64 0] 84)) (w.heap.size + 1) ⟨s, 0, 0⟩ 0 0 :=
  fun o => ⟨by have := blk_new (w.alloc o) (.cells #[.string (ofL s), .int .i64 0, .int .i64 0, .int .i64 0] 84); simpa using this, grown_refl _ _, by simp, by have := HLS.out; omega, by omega, fun _ => ⟨by omega, rfl, rfl⟩⟩
 have HR0 := hi_ hR0
 clear hR0
 obtain ⟨x, b, hxb⟩ : ∃ x b, (x, b) = gv 17 ⟨s, 0, 0⟩ := ⟨_, _, rfl⟩
 have HXB := hi_ hxb
 have HF : Hid (pv s = if b.ended.e = 0 then (x, 0) else (z28, b.ended.e)) := hi_ (by rw [HPV.out, ← hxb])
 clear hxb
 go_wp2_with fail
 refine (gv15 17 s _ _ (w.heap.size + 1) ⟨s, 0, 0⟩ 0 0 (HR0.out _) HLS.out (fun _ => ⟨Int.le_refl _, by show (0 : Int) ≤ 16; decide, rfl⟩)).mono ?_
 rintro E w4 ⟨v, y, q, u, rfl, hv, h4, h4e⟩
 rw [← HXB.out] at h4 h4e
 obtain ⟨cs, rfl, hl8, ho8, hi8, hM⟩ := hv.of
 have HL8 := hi_ (And.intro hl8 (And.intro ho8 hi8))
 have hsz4 : w.heap.size + 2 ≤ w4.heap.size := by have := h4.kp.size; simp at this; omega
 have hW0 : ∀ o p, Below w.heap.size w ((w.alloc o).alloc p) := fun o p => ((Below.refl _ _).alloc (Nat.le_refl _) _).alloc (by simp) _
 have HR4 := hi_ (h4.keep (k := w.heap.size) ((((Below.refl (w.alloc (.cells #[.int .i64 0, .bool false, .bool false, .string ⟨#[]⟩, .int .i64 0, .string ⟨#[]⟩, .slice none 0 0, .slice none 0 0] 35)).heap.size _).alloc (Nat.le_refl _) _).block w.heap.size (by simp)).trans (blk_new w _)) (by omega))
 have HB4 : Hid (Below w.heap.size w w4) := hi_ ((hW0 _ _).grown h4.kp (by simp; omega) (fun k e => by injection e with e; omega))
 have HM4 := hi_ hM
 have H4 := hi_ h4.now
 have H4E := hi_ h4e
 have HS4 := hi_ hsz4
 clear hv h4 h4e hM hl8 ho8 hi8 hW0 hsz4 hsz
 go_wp2_with (refine row_event rfl 35 (.tmp 5) (.tmp 14) rfl w4.heap.size cs.toArray rfl rfl 35 _ (blk_new w4 _) HL8.out.2.2 HL8.out.1.symm HL8.out.2.1 ?_; intro w5 hr5 hk5)
 have hal := (Below.refl w4.heap.size w4).alloc (Nat.le_refl _) (.cells #[.int .i64 0, .bool false, .bool false, .string ⟨#[]⟩, .int .i64 0, .string ⟨#[]⟩, .slice none 0 0, .slice none 0 0] 35)
 have hB45 : Below w4.heap.size w4 w5 := hal.grown hk5 (by simp) (fun k e => Nat.le_of_eq (Option.some.inj e))
 have H5 := hi_ ((H4.out.below hB45).now)
 have HR5 := hi_ ((hB45.block _ (by have := HS4.out; omega)).trans HR4.out)
 have HV5 := hi_ hr5
 have HM5 := hi_ (k35.M_mono (fun _ _ => trivial) (Kd.M_below HM4.out hB45))
 have HB5 := hi_ (HB4.out.trans (hB45.mono (by have := HS4.out; omega)))
 have HS5 : Hid (w4.heap.size < w5.heap.size) := hi_ (Nat.lt_of_lt_of_le (by simp) hk5.size)
 clear hal hB45 hr5 hk5
 go_wp2_with fail
 refine (blanks15 H5.out).mono ?_
 rintro E w6 ⟨rfl, q6, h6⟩
 have HR := hi_ (h6.keep HR5.out (by omega))
 have HV := hi_ (h6.keep HV5.out (by have := HS4.out; omega))
 have HM := hi_ (k35.M_mono (ok' := fun _ => True) (fun _ _ => trivial) (Kd.M_grown (k35.M_bound HM5.out) h6.kp (fun i hi e => by have := hi.2.1; injection e with e; simp at this; omega)))
 have HB := hi_ (HB5.out.grown h6.kp HB5.out.size (fun k e => by injection e with e; omega))
 have H := hi_ h6.now
 clear h6
 have c1 := H.out.c1
 go_upto_if 23 with (fail)
 clear c1
 go_cut [] (fun wx => ∃ c q7, Hid (Rf s wx wx (w.heap.size + 1) c q7 u ∧ c.e = b.ended.e) ∧ Hid (wx.heap[w.heap.size]? = some (.cells #[.int .i64 0, .bool false, .bool false, .string ⟨#[]⟩, .int .i64 0, .string ⟨#[]⟩, .slice none 0 0, .slice none 0 0] 35 (0, 0))) ∧ Hid (wx.heap[w4.heap.size]? = some (.cells cs.toArray 35 (0, 0))) ∧ Hid (k35.M wx (w.heap.size + 2) (fun _ => True) y cs) ∧ Hid (Below w.heap.size w wx))
 case first =>
  by_cases hq : q6 < s.length
  · have hqi : (q6 : Int) < ((ofL s).size : Int) := by rw [ofL_size]; omega
    have HQ := hi_ hq
    clear hq
    go_wp2_with fail
    refine (fail15 H.out 11 (by decide)).mono ?_
    rintro E w7 ⟨rfl, h7⟩
    have HR7 := hi_ (h7.keep HR.out (by omega))
    have HV7 := hi_ (h7.keep HV.out (by have := HS4.out; omega))
    have HM7 := hi_ (k35.M_mono (ok' := fun _ => True) (fun _ _ => trivial) (Kd.M_grown (k35.M_bound HM.out) h7.kp (fun i hi e => by have := hi.2.1; injection e with e; simp at this; omega)))
    have HB7 := hi_ (HB.out.grown h7.kp HB.out.size (fun k e => by injection e with e; omega))
    have H7 := hi_ h7.now
    clear h7
    go_wp2_with fail
    go_meet
    refine ⟨_, _, hi_ ⟨H7.out, ?_⟩, HR7, HV7, by simpa using HM7, HB7⟩
    by_cases he : b.e = 0
    · have hk := (H.out.ok he).2.1
      have hne : b.skip.s ≠ [] := fun e => by
       have := congrArg List.length hk
       rw [e, List.length_drop] at this
       have := HQ.out
       simp at *; omega
      unfold S.ended
      rw [if_neg hne]
    rw [ended_bad he]; exact fail_e (a := b.skip) he 11
  have hqi : ¬ ((q6 : Int) < ((ofL s).size : Int)) := by rw [ofL_size]; omega
  have HQ := hi_ hq
  clear hq
  go_wp2_with fail
  go_meet
  refine ⟨_, _, hi_ ⟨H.out, ?_⟩, HR, HV, by simpa using HM, HB⟩
  by_cases he : b.e = 0
  · have hk := (H.out.ok he).2.1
    have hne : b.skip.s = [] := by rw [← hk]; exact List.drop_eq_nil_of_le (by have := HQ.out; omega)
    unfold S.ended
    rw [if_pos hne]
  rw [ended_bad he]; rfl
 obtain ⟨c, q7, HC, HR', HV', HM', HB'⟩ := hcut
 clear H HR HV HM HB HR5 HV5 HM5 HB5 H5
 have c3 := HC.out.1.c3
 rw [HC.out.2] at c3
 by_cases he : b.ended.e = 0
 · have e1 : (b.ended.e != 0) = false := by simp [he]
   have HG : Hid (pv s = (x, 0)) := hi_ (by rw [HF.out, if_pos he])
   have HYX : Hid (y = x) := hi_ (H4E.out (Classical.byContradiction fun hb => by rw [ended_bad hb] at he; exact hb he))
   clear he
   go_wp2_with (first | (refine wpList_load_row rfl 35 (.tmp 5) rfl w4.heap.size rfl 35 cs.toArray (0, 0) _ HV'.out Tryz.underlying35 rfl HL8.out.2.2 ?_) | (refine row_event rfl 35 (.tmp 2) (.tmp 36) rfl w.heap.size cs.toArray rfl rfl 35 _ HR'.out HL8.out.2.2 HL8.out.1.symm HL8.out.2.1 ?_; intro w9 hr9 hk9))
   refine bodyPost_ret (results_list (rs := [.cell 2 35, .tmp 3]) rfl (by simp) (.cell w.heap.size 35 _ (0, 0) _ rfl hr9 Tryz.underlying35 rfl HL8.out.2.2 (.tmp .nil))) rfl ?_
   rw [HG.out, ← HYX.out]
   exact ⟨_, rfl, Jw.up HM'.out hk9 (by omega) (by omega), HB'.out.grown hk9 HB'.out.size (fun k e => Nat.le_of_eq (Option.some.inj e))⟩
 · have e1 : (b.ended.e != 0) = true := by simp [he]
   have HG : Hid (pv s = (z28, b.ended.e)) := hi_ (by rw [HF.out, if_neg he])
   clear he
   go_wp2_with fail
   have r0 : wc.cell? ⟨w.heap.size, 0, none⟩ = some (.int .i64 0) := (blk_cell HR'.out 0).trans rfl
   have r1 : wc.cell? ⟨w.heap.size, 1, none⟩ = some (.bool false) := (blk_cell HR'.out 1).trans rfl
   have r2 : wc.cell? ⟨w.heap.size, 2, none⟩ = some (.bool false) := (blk_cell HR'.out 2).trans rfl
   have r3 : wc.cell? ⟨w.heap.size, 3, none⟩ = some (.string ⟨#[]⟩) := (blk_cell HR'.out 3).trans rfl
   have r4 : wc.cell? ⟨w.heap.size, 4, none⟩ = some (.int .i64 0) := (blk_cell HR'.out 4).trans rfl
   have r5 : wc.cell? ⟨w.heap.size, 5, none⟩ = some (.string ⟨#[]⟩) := (blk_cell HR'.out 5).trans rfl
   have r6 : wc.cell? ⟨w.heap.size, 6, none⟩ = some (.slice none 0 0) := (blk_cell HR'.out 6).trans rfl
   have r7 : wc.cell? ⟨w.heap.size, 7, none⟩ = some (.slice none 0 0) := (blk_cell HR'.out 7).trans rfl
   have f0 := blk_frozen HR'.out 0
   have f1 := blk_frozen HR'.out 1
   have f2 := blk_frozen HR'.out 2
   have f3 := blk_frozen HR'.out 3
   have f4 := blk_frozen HR'.out 4
   have f5 := blk_frozen HR'.out 5
   have f6 := blk_frozen HR'.out 6
   have f7 := blk_frozen HR'.out 7
   go_region
   have hr9 := blk_drew (blk_put (blk_put (blk_put (blk_put (blk_put (blk_put (blk_put (blk_put HR'.out 0 (.int .i64 0) rfl) 1 (.bool false) rfl) 2 (.bool false) rfl) 3 (.string ⟨#[]⟩) rfl) 4 (.int .i64 0) rfl) 5 (.string ⟨#[]⟩) rfl) 6 (.slice none 0 0) rfl) 7 (.slice none 0 0) rfl)
   have hb9 := Below.drew (Below.setCell (Below.setCell (Below.setCell (Below.setCell (Below.setCell (Below.setCell (Below.setCell (Below.setCell HB'.out (p := ⟨w.heap.size, 0, none⟩) (Nat.le_refl _) (.int .i64 0)) (p := ⟨w.heap.size, 1, none⟩) (Nat.le_refl _) (.bool false)) (p := ⟨w.heap.size, 2, none⟩) (Nat.le_refl _) (.bool false)) (p := ⟨w.heap.size, 3, none⟩) (Nat.le_refl _) (.string ⟨#[]⟩)) (p := ⟨w.heap.size, 4, none⟩) (Nat.le_refl _) (.int .i64 0)) (p := ⟨w.heap.size, 5, none⟩) (Nat.le_refl _) (.string ⟨#[]⟩)) (p := ⟨w.heap.size, 6, none⟩) (Nat.le_refl _) (.slice none 0 0)) (p := ⟨w.heap.size, 7, none⟩) (Nat.le_refl _) (.slice none 0 0))
   clear r0 r1 r2 r3 r4 r5 r6 r7 f0 f1 f2 f3 f4 f5 f6 f7
   go_wp2
   refine bodyPost_ret (results_list (rs := [.cell 2 35, .tmp 3]) rfl (by simp) (.cell w.heap.size 35 _ (0, 0) _ rfl hr9 Tryz.underlying35 rfl (by kernel_rfl) (.tmp .nil))) rfl ?_
   rw [HG.out]
   exact ⟨_, rfl, Jw.flat _ _ z28 rfl rfl, hb9⟩
theorem parse15 (s : List UInt8) (hs : s.length ≤ 600) (w : World) (x : S28) (e : Int) (h : pv s = (x, e)) :
    Calls Tryz.prog 17 #[.string (ofL s)] w fun E w' => ∃ A n c B m c', E = .returned (.tuple #[.agg #[.int .i64 x.f0, .bool x.f1, .bool x.f2.f0, .string x.f2.f1, .int .i64 x.f2.f2, .string x.f3, .slice A n c, .slice B m c'], .int .i64 e]) ∧
     JD w' x A n c B m c' ∧ Below w.heap.size w w' := by
 have h1 := parse15w s hs w
 rw [h] at h1
 refine h1.mono ?_
 rintro E w' ⟨v, rfl, hv, hB⟩
 obtain ⟨A, n, c, B, m, c', rfl, hJ⟩ := hv.jd
 exact ⟨A, n, c, B, m, c', rfl, hJ, hB⟩
theorem newC {W : World} {b : Nat} (xs : List Int) (hl : xs.length ≤ 100) (hc : W.heap[b]? = some (.cells (xs.map (Value.int .u8)).toArray 5 (0, 0))) : Kd.C (Kd.int .u8) W (some ⟨b, 0, none⟩) xs.length xs := by
 refine ⟨rfl, by omega, fun _ => ⟨_, rfl, fun j p hj => ⟨[.int .u8 p], rfl, rfl, fun i u hu => ?_⟩⟩⟩
 cases i with
 | zero =>
  have e : u = .int .u8 p := by simpa using hu.symm
  subst e
  rw [show (⟨b, 0, none⟩ : Addr).add (j * (Kd.int .u8).sz + 0) = ⟨b, j, none⟩ by
   rw [show j * (Kd.int .u8).sz + 0 = j from Nat.mul_one j]
   unfold Addr.add; split <;> simp_all, blk_cell hc]
  simp [hj]
 | succ i => simp at hu
theorem one15 (W : World) (x : UInt8) : (convert 38 9 (.slice (some ⟨W.heap.size, 0, none⟩) 1 1)).run Tryz.prog (W.alloc (.cells #[.int .u8 (x.toNat : Int)] 5)) = .ok (.string (ofL [x])) (W.alloc (.cells #[.int .u8 (x.toNat : Int)] 5)) := by
 refine (str_run _ _ 1 1 [(x.toNat : Int)] (newC _ (by simp) (blk_new W (.cells #[.int .u8 (x.toNat : Int)] 5)))).trans ?_
 congr 2
 simp [strOfNums, ofL]
end Js
end Go.Proofs.YtapcpndplnkfjaaGreatDoor
namespace Go.Proofs.YtapcpndplnkfjaaGreatDoor
open Go.RowKit Go.Proofs.YtapcpndplnkfjaaGreatDoorW.PrintWords
namespace Js
inductive Diff : List UInt8 → List UInt8 → Int → Prop where
  | eq (l : List UInt8) : Diff l l 0
  | lt (a b : UInt8) (l m : List UInt8) : a < b → Diff (a :: l) (b :: m) (-1)
  | gt (a b : UInt8) (l m : List UInt8) : b < a → Diff (a :: l) (b :: m) 1
  | cons (a : UInt8) (l m : List UInt8) (c : Int) : Diff l m c → Diff (a :: l) (a :: m) c
def toI (l : List UInt8) : List Int := l.map fun c => (c.toNat : Int)
theorem strOf_toI (l : List UInt8) : strOfNums (toI l) = ofL l := by
 unfold strOfNums toI ofL
 rw [List.map_map]
 congr 2
 conv => rhs; rw [← List.map_id l]
 refine List.map_congr_left fun c _ => ?_
 show UInt8.ofNat ((c.toNat : Int)).toNat = id c
 simp
end Js
end Go.Proofs.YtapcpndplnkfjaaGreatDoor
namespace Go.Proofs.YtapcpndplnkfjaaGreatDoor
open Go.RowKit Go.Proofs.YtapcpndplnkfjaaGreatDoorW.PrintWords Go.Proofs.YtapcpndplnkfjaaGreatDoorW.PrintLast Go.Proofs.YtapcpndplnkfjaaGreatDoorW.PrintMore
namespace Js
def hb17 (h : Int) : List UInt8 := [UInt8.ofNat (h / 256).toNat, UInt8.ofNat (h % 256).toNat]
theorem ofNat_lt (n : Nat) (h : n < 256) : (UInt8.ofNat n).toNat = n := by simp [UInt8.toNat_ofNat', Nat.mod_eq_of_lt h]
set_option maxRecDepth 100000 in
theorem num01 (h : Int) (h0 : 0 ≤ h) (h1 : h ≤ 65535) (w : World) :
    Calls Tryz.prog 42 #[.int .u64 h, .int .i64 2] w fun e w' => e = .returned (.string (ofL (hb17 h))) ∧ Below w.heap.size w w' := by
 have HB0 : Hid (Below w.heap.size w w) := hi_ (Below.refl _ _)
 obtain ⟨q, hq⟩ : ∃ q, q = h / 256 := ⟨_, rfl⟩
 obtain ⟨lo, hlo⟩ : ∃ lo, lo = UInt8.ofNat (h % 256).toNat := ⟨_, rfl⟩
 obtain ⟨hi, hhi⟩ : ∃ hi, hi = UInt8.ofNat (h / 256).toNat := ⟨_, rfl⟩
 have e1 : Int.tmod h 256 = (lo.toNat : Int) := by rw [Int.tmod_eq_emod_of_nonneg h0, hlo, ofNat_lt _ (by omega)]; omega
 have e2 : Int.tdiv h 256 = q := by rw [Int.tdiv_eq_ediv_of_nonneg h0, hq]
 have e3 : Int.tmod q 256 = (hi.toNat : Int) := by rw [Int.tmod_eq_emod_of_nonneg (by omega), hhi, ofNat_lt _ (by omega)]; omega
 have e4 : Int.tdiv q 256 = 0 := by rw [Int.tdiv_eq_ediv_of_nonneg (by omega)]; omega
 have hq0 : 0 ≤ q := by omega
 have hq1 : q ≤ 255 := by omega
 have hR : hb17 h = [hi, lo] := by rw [hhi, hlo]; rfl
 have b1 : lo.toNat < 256 := lo.toNat_lt
 have b2 : hi.toNat < 256 := hi.toNat_lt
 have hS1 : ofL [lo] ++ (⟨#[]⟩ : ByteArray) = ofL [lo] := ofL_app [lo] []
 have hS2 : ofL [hi] ++ ofL [lo] = ofL [hi, lo] := ofL_app [hi] [lo]
 have hz0 : (⟨#[]⟩ : ByteArray).size = 0 := rfl
 have hz1 : (ofL [lo]).size = 1 := ofL_size _
 have hz2 : (ofL [hi]).size = 1 := ofL_size _
 have hz3 : (ofL [hi, lo]).size = 2 := ofL_size _
 have HR := hi_ hR
 clear hq hlo hhi hR
 rw [HR.out]
 go_enter Tryz.func42, Tryz.ntmps42
 go_wp2_with fail
 go_loopw [0, 5, 6] (fun v0 v5 vi wr => ((v0 = .int .u64 h ∧ v5 = .string ⟨#[]⟩ ∧ vi = .int .i64 0) ∨ (v0 = .int .u64 q ∧ v5 = .string (ofL [lo]) ∧ vi = .int .i64 1) ∨ (v0 = .int .u64 0 ∧ v5 = .string (ofL [hi, lo]) ∧ vi = .int .i64 2)) ∧ Hid (Below w.heap.size w wr)) (fun _ _ vi _ => 2 - (intOf vi).toNat)
 case atStart => exact ⟨.inl ⟨rfl, rfl, rfl⟩, HB0⟩
 case round =>
  clear HB0
  obtain ⟨⟨rfl, rfl, rfl⟩ | ⟨rfl, rfl, rfl⟩ | ⟨rfl, rfl, rfl⟩, HB⟩ := hrel
  · have hst := one15 wr lo
    go_wp2_with fail
    exact ⟨⟨.inr (.inl ⟨rfl, rfl, rfl⟩), hi_ (below_alloc HB.out _)⟩, by simp [intOf]⟩
  · have hst := one15 wr hi
    go_wp2_with fail
    exact ⟨⟨.inr (.inr ⟨rfl, rfl, rfl⟩), hi_ (below_alloc HB.out _)⟩, by simp [intOf]⟩
  go_wp2_with fail
  go_ret
  exact ⟨rfl, HB.out⟩
def esc17 (c : UInt8) : List UInt8 := if c = 0 then [0, 255] else [c]
def text17 (s : List UInt8) : List UInt8 := 5 :: s.flatMap esc17 ++ [0, 0]
def dg17 (c : UInt8) : UInt8 := UInt8.ofNat (c.toNat - 47)
def not17 (c : UInt8) : UInt8 := UInt8.ofNat (255 - c.toNat)
def num17 (D : List UInt8) (e : Int) : List UInt8 := hb17 (2000 + D.length + e) ++ D.map dg17 ++ [0]
def key17 (x : S28) : List UInt8 × Int :=
 if x.f0 = 0 then ([1], 0) else
 if x.f0 = 1 then ([if x.f1 = true then 3 else 2], 0) else
 if x.f0 = 2 then (if x.f2.f1.data.toList = [] then [4, 1] else if x.f2.f0 = true then 4 :: 0 :: (num17 x.f2.f1.data.toList x.f2.f2).map not17 else 4 :: 2 :: num17 x.f2.f1.data.toList x.f2.f2, 0) else
 if x.f0 = 3 then (text17 x.f3.data.toList, 0) else ([], 36)
theorem esc17_len (s : List UInt8) : (s.flatMap esc17).length ≤ 2 * s.length := by
 induction s with
 | nil => simp
 | cons c t ih => rw [List.flatMap_cons, List.length_append]; unfold esc17 at *; split <;> simp at * <;> omega
set_option maxRecDepth 100000 in
set_option maxHeartbeats 4000000 in
theorem ktext17 (b d : Bool) (D : ByteArray) (e : Int) (s : List UInt8) (hs : s.length ≤ 1000000) (v6 v7 : Value) (w : World) :
    Calls Tryz.prog 19 #[.agg #[.int .i64 3, .bool b, .bool d, .string D, .int .i64 e, .string (ofL s), v6, v7]] w fun E w' => E = .returned (.tuple #[.string (ofL (text17 s)), .int .i64 0]) ∧ Below w.heap.size w w' := by
 have hsz : (ofL s).size = s.length := ofL_size s
 have HK0 := hi_ (blk_new w (.cells #[.int .i64 3, .bool b, .bool d, .string D, .int .i64 e, .string (ofL s), v6, v7] 35))
 have HB0 := hi_ (below_alloc (Below.refl w.heap.size w) (.cells #[.int .i64 3, .bool b, .bool d, .string D, .int .i64 e, .string (ofL s), v6, v7] 35))
 go_enter Tryz.func19, Tryz.ntmps19
 go_wp2_with fail
 generalize w.alloc (.cells #[.int .i64 3, .bool b, .bool d, .string D, .int .i64 e, .string (ofL s), v6, v7] 35) = w0 at HK0 HB0 ⊢
 go_loopw [4, 5] (fun v4 vi wr => ∃ k : Nat, k ≤ s.length ∧ v4 = .string (ofL ((s.take k).flatMap esc17)) ∧ vi = .int .i64 k ∧ Hid (wr = w0)) (fun v4 vi _ => s.length - (intOf vi).toNat)
 case atStart => exact ⟨0, by omega, rfl, rfl, hi_ rfl⟩
 case round =>
  obtain ⟨k, hk, rfl, rfl, HW⟩ := hrel
  rw [HW.out]
  obtain ⟨-, -, -, -, -, c5, -, -⟩ := eight HK0.out
  by_cases hkl : k < s.length
  · have hk2 : k < (ofL s).size := by omega
    obtain ⟨x, hx⟩ : ∃ x, x = s[k] := ⟨_, rfl⟩
    have hbyte : (ofL s)[k]'hk2 = x := hx.symm
    have hex : (ofL s).extract k (k + 1) = ofL [x] := by
     rw [ofL_ext, List.take_succ_eq_append_getElem hkl, List.drop_append_of_le_length (by simp; omega), hx]
     simp
     rfl
    have HTK : Hid ((s.take (k + 1)).flatMap esc17 = (s.take k).flatMap esc17 ++ esc17 x) := hi_ (by rw [List.take_succ_eq_append_getElem hkl, List.flatMap_append, hx]; simp [List.flatMap_cons]; rfl)
    have hln : ((s.take k).flatMap esc17).length ≤ 2000000 := by have := esc17_len (s.take k); rw [List.length_take] at this; omega
    obtain ⟨out, hout⟩ : ∃ out, out = (s.take k).flatMap esc17 := ⟨_, rfl⟩
    rw [← hout] at HTK hln ⊢
    have hoz : (ofL out).size ≤ 2000000 := by rw [ofL_size]; exact hln
    have hz1 : (ofL [x]).size = 1 := ofL_size _
    have hS1 : ofL out ++ ofL [x] = ofL (out ++ [x]) := ofL_app _ _
    have hoz2 : (ofL (out ++ [x])).size ≤ 2000001 := by rw [ofL_size, List.length_append]; simp; omega
    clear hx hout hln
    by_cases h1 : x = 0
    · have HBB : Hid (esc17 x = [x, 255]) := hi_ (by unfold esc17; rw [if_pos h1, h1])
      have e0 : ((x.toNat : Int) == 0) = true := by rw [h1]; rfl
      have hap : ofL (out ++ [x]) ++ (⟨#[255]⟩ : ByteArray) = ofL ((s.take (k + 1)).flatMap esc17) := by rw [HTK.out, HBB.out]; exact (ofL_app _ [255]).trans (by simp)
      clear h1
      go_wp2_with fail
      exact ⟨⟨k + 1, by omega, rfl, by simp, hi_ trivial⟩, by simp [intOf]; omega⟩
    have HBB : Hid (esc17 x = [x]) := hi_ (by unfold esc17; rw [if_neg h1])
    have e0 : ((x.toNat : Int) == 0) = false := by rw [beq_eq_false_iff_ne]; intro h2; exact h1 (by rw [← UInt8.toNat_inj]; have : (0 : UInt8).toNat = 0 := rfl; omega)
    have HAP : Hid (ofL (out ++ [x]) = ofL ((s.take (k + 1)).flatMap esc17)) := hi_ (by rw [HTK.out, HBB.out])
    clear h1
    go_wp2_with fail
    exact ⟨⟨k + 1, by omega, by rw [HAP.out], by simp, hi_ trivial⟩, by simp [intOf]; omega⟩
  have hk2 : k = s.length := by omega
  subst hk2
  have hap : (⟨#[5]⟩ : ByteArray) ++ ofL ((s.take s.length).flatMap esc17) = ofL (5 :: s.flatMap esc17) := by rw [List.take_length]; exact ofL_app [5] _
  have hap2 : ofL (5 :: s.flatMap esc17) ++ (⟨#[0, 0]⟩ : ByteArray) = ofL (text17 s) := ofL_app _ [0, 0]
  have hln := esc17_len s
  have hoz : (ofL ((s.take s.length).flatMap esc17)).size ≤ 2000000 := by rw [ofL_size, List.take_length]; omega
  have hoz2 : (ofL (5 :: s.flatMap esc17)).size ≤ 2000001 := by rw [ofL_size, List.length_cons]; omega
  have hoz3 : (ofL (text17 s)).size ≤ 2000003 := by rw [ofL_size]; unfold text17; rw [List.length_append, List.length_cons]; simp only [List.length_cons, List.length_nil]; omega
  generalize ofL ((s.take s.length).flatMap esc17) = T1 at hap hoz ⊢
  generalize ofL (5 :: s.flatMap esc17) = T2 at hap hap2 hoz2 ⊢
  generalize hT3 : ofL (text17 s) = T3 at hap2 hoz3
  have HT3 := hi_ hT3
  clear hln hT3
  go_wp2_with fail
  go_ret2
  exact ⟨by rw [HT3.out]; rfl, HB0.out⟩
set_option maxRecDepth 100000 in
set_option maxHeartbeats 4000000 in
theorem knum17 (b d : Bool) (D : List UInt8) (e : Int) (t : ByteArray) (hD : D ≠ []) (hl : D.length ≤ 40) (hd : D.all NumP.isD = true) (he1 : -999 ≤ e) (he2 : e ≤ 999) (v6 v7 : Value) (w : World) :
    Calls Tryz.prog 19 #[.agg #[.int .i64 2, .bool b, .bool d, .string (ofL D), .int .i64 e, .string t, v6, v7]] w fun E w' => E = .returned (.tuple #[.string (ofL (if d = true then 4 :: 0 :: (num17 D e).map not17 else 4 :: 2 :: num17 D e)), .int .i64 0]) ∧ Below w.heap.size w w' := by
 have hsz : (ofL D).size = D.length := ofL_size D
 have hne : ((ofL D).toList == []) = false := by rw [ofL_toList]; cases D <;> simp_all
 have hne' : (ofL D).toList.isEmpty = false := by rw [ofL_toList]; cases D <;> simp_all
 have HK0 := hi_ (blk_new w (.cells #[.int .i64 2, .bool b, .bool d, .string (ofL D), .int .i64 e, .string t, v6, v7] 35))
 have HB0 := hi_ (below_alloc (Below.refl w.heap.size w) (.cells #[.int .i64 2, .bool b, .bool d, .string (ofL D), .int .i64 e, .string t, v6, v7] 35))
 have hsz0 : w.heap.size < (w.alloc (.cells #[.int .i64 2, .bool b, .bool d, .string (ofL D), .int .i64 e, .string t, v6, v7] 35)).heap.size := blk_lt HK0.out
 have HLT := hi_ hsz0
 have HD := hi_ hd
 obtain ⟨z, hz⟩ : ∃ z : Nat, (ofL D).size = z := ⟨_, rfl⟩
 have HZ : Hid (z = D.length) := hi_ (by omega)
 have hz40 : (z : Int) ≤ 40 := by omega
 clear hd hsz hl hsz0
 go_enter Tryz.func19, Tryz.ntmps19
 go_wp2_with fail
 generalize w.alloc (.cells #[.int .i64 2, .bool b, .bool d, .string (ofL D), .int .i64 e, .string t, v6, v7] 35) = w0 at HK0 HB0 HLT ⊢
 obtain ⟨-, -, c2, c3, c4, -, -, -⟩ := eight HK0.out
 refine (num01 (2000 + z + e) (by omega) (by omega) w0).mono ?_
 rintro E w1 ⟨rfl, hB⟩
 have HK1 := hi_ (thru HK0.out hB)
 have HB1 := hi_ (HB0.out.trans (hB.mono HB0.out.size))
 have HLT1 : Hid (w.heap.size < w1.heap.size) := hi_ (blk_lt HK1.out)
 have HHB : Hid (hb17 (2000 + z + e) = hb17 (2000 + D.length + e)) := hi_ (by rw [HZ.out])
 obtain ⟨H, hH⟩ : ∃ H, H = hb17 (2000 + z + e) := ⟨_, rfl⟩
 have HHL : Hid (H.length = 2) := hi_ (by rw [hH]; rfl)
 rw [← hH] at HHB ⊢
 clear hB hH c2 c3 c4 HK0 HB0 HLT
 go_upto_block 3 with fail
 go_cut [4] (fun s4 wx => s4 = .string (ofL (H ++ D.map dg17)) ∧ Hid (wx.heap[w.heap.size]? = some (.cells #[.int .i64 2, .bool b, .bool d, .string (ofL D), .int .i64 e, .string t, v6, v7] 35 (0, 0))) ∧ Hid (Below w.heap.size w wx))
 case first =>
  go_wp2_with fail
  go_loopw [4, 6] (fun v4 vi wr => ∃ k : Nat, k ≤ D.length ∧ v4 = .string (ofL (H ++ (D.map dg17).take k)) ∧ vi = .int .i64 k ∧ Hid (wr.heap[w.heap.size]? = some (.cells #[.int .i64 2, .bool b, .bool d, .string (ofL D), .int .i64 e, .string t, v6, v7] 35 (0, 0))) ∧ Hid (Below w.heap.size w wr)) (fun _ vi _ => D.length - (intOf vi).toNat)
  case atStart => exact ⟨0, by omega, by simp, rfl, HK1, HB1⟩
  case round =>
   clear HK1 HB1 HLT1
   obtain ⟨k, hk, rfl, rfl, HK, HB⟩ := hrel
   obtain ⟨-, -, -, c3, -, -, -, -⟩ := eight HK.out
   have hzd := HZ.out
   by_cases hkl : k < D.length
   · have hk2 : k < (ofL D).size := by omega
     have hkz : (k : Int) < (z : Int) := by omega
     obtain ⟨x, hx⟩ : ∃ x, x = D[k] := ⟨_, rfl⟩
     have hbyte : (ofL D)[k]'hk2 = x := hx.symm
     have hda : NumP.isD x = true := by rw [hx]; exact List.all_eq_true.1 HD.out _ (List.getElem_mem hkl)
     have hdg : 48 ≤ x.toNat ∧ x.toNat ≤ 57 := by simpa [NumP.isD] using hda
     obtain ⟨y, hy⟩ : ∃ y, y = dg17 x := ⟨_, rfl⟩
     have hyn : y.toNat = x.toNat - 47 := by rw [hy]; unfold dg17; rw [ofNat_lt _ (by omega)]
     have hw : IntKind.u8.wrap ((x.toNat : Int) - 47) = (y.toNat : Int) := by rw [hyn]; unfold IntKind.wrap; simp [IntKind.bits, IntKind.signed]; omega
     have HTK : Hid (H ++ (D.map dg17).take (k + 1) = H ++ (D.map dg17).take k ++ [y]) := hi_ (by rw [List.take_succ_eq_append_getElem (by rw [List.length_map]; exact hkl), List.getElem_map, hy, hx]; simp; rfl)
     have hln : (H ++ (D.map dg17).take k).length ≤ 100 := by have := HHL.out; rw [List.length_append, List.length_take, List.length_map]; omega
     obtain ⟨out, hout⟩ : ∃ out, out = H ++ (D.map dg17).take k := ⟨_, rfl⟩
     rw [← hout] at HTK hln ⊢
     have hoz : (ofL out).size ≤ 100 := by rw [ofL_size]; exact hln
     have hz1 : (ofL [y]).size = 1 := ofL_size _
     have hap : ofL out ++ ofL [y] = ofL (H ++ (D.map dg17).take (k + 1)) := by rw [HTK.out]; exact ofL_app _ _
     have hst := one15 wr y
     clear hx hout hln hda hdg hy hyn hzd
     go_wp2_with fail
     exact ⟨⟨k + 1, by omega, rfl, by simp, hi_ (blk_alloc HK.out _), hi_ (below_alloc HB.out _)⟩, by simp [intOf]; omega⟩
   have hkz : ¬ ((k : Int) < (z : Int)) := by omega
   have HKE : Hid (k = D.length) := hi_ (by omega)
   clear hzd
   go_wp2_with fail
   go_meet
   exact ⟨by rw [HKE.out, List.take_of_length_le (by rw [List.length_map]; exact Nat.le_refl _)], HK, HB⟩
 obtain ⟨rfl, HK, HB⟩ := hcut
 clear HK1 HB1 HLT1
 obtain ⟨-, -, c2, -, -, -, -, -⟩ := eight HK.out
 have HN : Hid (num17 D e = H ++ D.map dg17 ++ [0]) := hi_ (by unfold num17; rw [HHB.out])
 have hap : ofL (H ++ D.map dg17) ++ (⟨#[0]⟩ : ByteArray) = ofL (num17 D e) := by rw [HN.out]; exact ofL_app _ [0]
 have hln : (num17 D e).length ≤ 100 := by have := HHL.out; have := HZ.out; rw [HN.out]; simp; omega
 have hoz : (ofL (H ++ D.map dg17)).size ≤ 100 := by rw [ofL_size]; have := HHL.out; have := HZ.out; simp; omega
 obtain ⟨S, hS⟩ : ∃ S, S = num17 D e := ⟨_, rfl⟩
 have HS := hi_ hS
 rw [← hS] at hap hln
 have hoz2 : (ofL S).size ≤ 100 := by rw [ofL_size]; exact hln
 generalize ofL (H ++ D.map dg17) = T1 at hap hoz ⊢
 clear HHB HN HHL hS HZ
 cases d with
 | false =>
  have hap2 : (⟨#[4, 2]⟩ : ByteArray) ++ ofL S = ofL (4 :: 2 :: S) := ofL_app [4, 2] _
  go_wp2_with fail
  go_ret2
  exact ⟨by rw [HS.out]; rfl, HB.out⟩
 | true =>
  have hsz : (ofL S).size = S.length := ofL_size S
  go_wp2_with fail
  go_loopw [7, 8] (fun v7 vi wr => ∃ k : Nat, k ≤ S.length ∧ v7 = .string (ofL ((S.map not17).take k)) ∧ vi = .int .i64 k ∧ Hid (Below w.heap.size w wr)) (fun _ vi _ => S.length - (intOf vi).toNat)
  case atStart => exact ⟨0, by omega, rfl, rfl, HB⟩
  case round =>
   clear HB HK c2
   obtain ⟨k, hk, rfl, rfl, HB⟩ := hrel
   by_cases hkl : k < S.length
   · have hk2 : k < (ofL S).size := by omega
     obtain ⟨x, hx⟩ : ∃ x, x = S[k] := ⟨_, rfl⟩
     have hbyte : (ofL S)[k]'hk2 = x := hx.symm
     have hxb : x.toNat < 256 := x.toNat_lt
     obtain ⟨y, hy⟩ : ∃ y, y = not17 x := ⟨_, rfl⟩
     have hyn : y.toNat = 255 - x.toNat := by rw [hy]; unfold not17; rw [ofNat_lt _ (by omega)]
     have hw : IntKind.u8.wrap (255 - (x.toNat : Int)) = (y.toNat : Int) := by rw [hyn]; unfold IntKind.wrap; simp [IntKind.bits, IntKind.signed]; omega
     have HTK : Hid ((S.map not17).take (k + 1) = (S.map not17).take k ++ [y]) := hi_ (by rw [List.take_succ_eq_append_getElem (by rw [List.length_map]; exact hkl), List.getElem_map, hy, hx]; rfl)
     have hl3 : ((S.map not17).take k).length ≤ 100 := by rw [List.length_take, List.length_map]; omega
     obtain ⟨out, hout⟩ : ∃ out, out = (S.map not17).take k := ⟨_, rfl⟩
     rw [← hout] at HTK hl3 ⊢
     have hoz : (ofL out).size ≤ 100 := by rw [ofL_size]; exact hl3
     have hz1 : (ofL [y]).size = 1 := ofL_size _
     have hap3 : ofL out ++ ofL [y] = ofL ((S.map not17).take (k + 1)) := by rw [HTK.out]; exact ofL_app _ _
     have hst := one15 wr y
     clear hx hout hl3 hy hyn
     go_wp2_with fail
     exact ⟨⟨k + 1, by omega, rfl, by simp, hi_ (below_alloc HB.out _)⟩, by simp [intOf]; omega⟩
   have HKE : Hid (k = S.length) := hi_ (by omega)
   have hap3 : (⟨#[4, 0]⟩ : ByteArray) ++ ofL ((S.map not17).take k) = ofL (4 :: 0 :: S.map not17) := by rw [HKE.out, List.take_of_length_le (by rw [List.length_map]; exact Nat.le_refl _)]; exact ofL_app [4, 0] _
   have hoz3 : (ofL ((S.map not17).take k)).size ≤ 100 := by rw [ofL_size, List.length_take, List.length_map]; omega
   generalize ofL ((S.map not17).take k) = T3 at hap3 hoz3 ⊢
   go_wp2_with fail
   go_ret2
   exact ⟨by rw [HS.out]; rfl, HB.out⟩
theorem kflat17 (k : Int) (b d : Bool) (D : ByteArray) (e : Int) (t : ByteArray) (hk : k = 0 ∨ k = 1 ∨ (k = 2 ∧ D = ⟨#[]⟩) ∨ (4 ≤ k ∧ k ≤ 5)) (v6 v7 : Value) (w : World) :
    Calls Tryz.prog 19 #[.agg #[.int .i64 k, .bool b, .bool d, .string D, .int .i64 e, .string t, v6, v7]] w fun E w' => E = .returned (.tuple #[.string (ofL (key17 ⟨k, b, ⟨d, D, e⟩, t, [], []⟩).1), .int .i64 (key17 ⟨k, b, ⟨d, D, e⟩, t, [], []⟩).2]) ∧ Below w.heap.size w w' := by
 have HB0 := hi_ (below_alloc (Below.refl w.heap.size w) (.cells #[.int .i64 k, .bool b, .bool d, .string D, .int .i64 e, .string t, v6, v7] 35))
 rcases hk with rfl | rfl | ⟨rfl, rfl⟩ | ⟨h4, h5⟩
 · rw [show key17 ⟨0, b, ⟨d, D, e⟩, t, [], []⟩ = ([1], 0) from rfl]
   go_enter Tryz.func19, Tryz.ntmps19
   go_wp2_with fail
   go_ret2
   exact ⟨rfl, HB0.out⟩
 · cases b with
   | true =>
    rw [show key17 ⟨1, true, ⟨d, D, e⟩, t, [], []⟩ = ([3], 0) from rfl]
    go_enter Tryz.func19, Tryz.ntmps19
    go_wp2_with fail
    go_ret2
    exact ⟨rfl, HB0.out⟩
   | false =>
    rw [show key17 ⟨1, false, ⟨d, D, e⟩, t, [], []⟩ = ([2], 0) from rfl]
    go_enter Tryz.func19, Tryz.ntmps19
    go_wp2_with fail
    go_ret2
    exact ⟨rfl, HB0.out⟩
 · rw [show key17 ⟨2, b, ⟨d, ⟨#[]⟩, e⟩, t, [], []⟩ = ([4, 1], 0) from rfl]
   go_enter Tryz.func19, Tryz.ntmps19
   go_wp2_with fail
   go_ret2
   exact ⟨rfl, HB0.out⟩
 · have h : key17 ⟨k, b, ⟨d, D, e⟩, t, [], []⟩ = ([], 36) := by unfold key17; rw [if_neg (by show ¬ k = 0; omega), if_neg (by show ¬ k = 1; omega), if_neg (by show ¬ k = 2; omega), if_neg (by show ¬ k = 3; omega)]
   rw [h]
   have q0 : (k == 0) = false := by rw [beq_eq_false_iff_ne]; omega
   have q1 : (k == 1) = false := by rw [beq_eq_false_iff_ne]; omega
   have q3 : (k == 3) = false := by rw [beq_eq_false_iff_ne]; omega
   have q4 : 3 < k := by omega
   clear h h5 h4
   go_enter Tryz.func19, Tryz.ntmps19
   go_wp2_with fail
   go_ret2
   exact ⟨rfl, HB0.out⟩
theorem key17_calls (x : S28) (hx : 0 ≤ x.f0 ∧ x.f0 ≤ 5) (hn : okNum x.f2) (ht : x.f3.data.toList.length ≤ 1000000) (v6 v7 : Value) (w : World) :
    Calls Tryz.prog 19 #[.agg #[.int .i64 x.f0, .bool x.f1, .bool x.f2.f0, .string x.f2.f1, .int .i64 x.f2.f2, .string x.f3, v6, v7]] w fun E w' => E = .returned (.tuple #[.string (ofL (key17 x).1), .int .i64 (key17 x).2]) ∧ Below w.heap.size w w' := by
 obtain ⟨k, b, ⟨d, D, e⟩, t, its, ns⟩ := x
 have hkk : key17 ⟨k, b, ⟨d, D, e⟩, t, its, ns⟩ = key17 ⟨k, b, ⟨d, D, e⟩, t, [], []⟩ := rfl
 rw [hkk]
 simp only at hx ht
 by_cases h3 : k = 3
 · subst h3
   have := ktext17 b d D e t.data.toList ht v6 v7 w
   rwa [show ofL t.data.toList = t from rfl] at this
 · by_cases h2 : k = 2 ∧ D.data.toList ≠ []
   · obtain ⟨rfl, hD⟩ := h2
     have := knum17 b d D.data.toList e t hD hn.1 hn.2.1 hn.2.2.1 hn.2.2.2 v6 v7 w
     rw [show ofL D.data.toList = D from rfl] at this
     have hk : key17 ⟨2, b, ⟨d, D, e⟩, t, [], []⟩ = (if d = true then 4 :: 0 :: (num17 D.data.toList e).map not17 else 4 :: 2 :: num17 D.data.toList e, 0) := by
      unfold key17; rw [if_neg (show ¬ ((2 : Int) = 0) by decide), if_neg (show ¬ ((2 : Int) = 1) by decide), if_pos rfl, if_neg hD]
     rw [hk]
     exact this
   refine kflat17 k b d D e t ?_ v6 v7 w
   by_cases h4 : k = 2
   · refine .inr (.inr (.inl ⟨h4, ?_⟩))
     have hD : D.data.toList = [] := Classical.not_not.1 (fun h => h2 ⟨h4, h⟩)
     cases D with | mk a => cases a with | mk l => simp at hD; rw [hD]
   omega
theorem app_eq {a b c d : List Int} (h : a = b) (h2 : c = d) : a ++ c = b ++ d := by rw [h, h2]
theorem toI_not (l : List UInt8) : toI (l.map not17) = (toI l).map (fun c => 255 - c) := by
 unfold toI
 rw [List.map_map, List.map_map]
 refine List.map_congr_left (fun c _ => ?_)
 have := c.toNat_lt
 simp only [Function.comp_apply, not17]
 rw [ofNat_lt _ (by omega)]
 omega
theorem toI_num (D : List UInt8) (e : Int) (hd : D.all NumP.isD = true) (h0 : 0 ≤ 2000 + D.length + e) (h1 : 2000 + D.length + e ≤ 65535) : toI (num17 D e) = numI D e := by
 unfold num17 numI toI
 rw [List.map_append, List.map_append]
 refine app_eq (app_eq ?_ ?_) rfl
 · unfold hb17 heightL
   simp only [List.map_cons, List.map_nil]
   rw [ofNat_lt _ (by omega), ofNat_lt _ (by omega)]
   rw [Int.toNat_of_nonneg (by omega), Int.toNat_of_nonneg (by omega)]
   rw [show (2000 + (D.length : Int) + e) = D.length + e + 2000 by omega, show (D.length + e + 2000) / 256 % 256 = (D.length + e + 2000) / 256 by omega]
 unfold dgs
 rw [List.map_map]
 refine List.map_congr_left (fun c hc => ?_)
 have := List.all_eq_true.1 hd c hc
 have hdg : 48 ≤ c.toNat ∧ c.toNat ≤ 57 := by simpa [NumP.isD] using this
 simp only [Function.comp_apply, dg17]
 rw [ofNat_lt _ (by omega)]
 omega
theorem toI_esc (s : List UInt8) : toI (s.flatMap esc17) = s.flatMap escO := by
 induction s with
 | nil => rfl
 | cons c t ih =>
  rw [List.flatMap_cons, List.flatMap_cons, ← ih]
  unfold toI
  rw [List.map_append]
  refine congrArg (· ++ _) ?_
  unfold esc17 escO
  split <;> rfl
theorem key17_L (x : S28) (hn : okNum x.f2) : toI (key17 x).1 = (keyL x).1 ∧ (key17 x).2 = (keyL x).2 := by
 obtain ⟨k, b, ⟨d, D, e⟩, t, its, ns⟩ := x
 unfold key17 keyL
 simp only
 by_cases h0 : k = 0
 · rw [if_pos h0, if_pos h0]; exact ⟨rfl, rfl⟩
 rw [if_neg h0, if_neg h0]
 by_cases h1 : k = 1
 · rw [if_pos h1, if_pos h1]; exact ⟨by cases b <;> rfl, rfl⟩
 rw [if_neg h1, if_neg h1]
 by_cases h2 : k = 2
 · rw [if_pos h2, if_pos h2]
   refine ⟨?_, rfl⟩
   unfold numberL
   by_cases hD : D.data.toList = []
   · rw [if_pos hD, if_pos hD]; rfl
   rw [if_neg hD, if_neg hD]
   have hl : D.data.toList.length ≤ 40 := hn.1
   have he : -999 ≤ e := hn.2.2.1
   have he2 : e ≤ 999 := hn.2.2.2
   have hq := toI_num D.data.toList e hn.2.1 (by omega) (by omega)
   by_cases hd : d = true
   · rw [if_pos hd, if_pos hd]
     show (4 : Int) :: 0 :: toI ((num17 D.data.toList e).map not17) = _
     rw [toI_not, hq]
   rw [if_neg hd, if_neg hd]
   show (4 : Int) :: 2 :: toI (num17 D.data.toList e) = _
   rw [hq]
 rw [if_neg h2, if_neg h2]
 by_cases h3 : k = 3
 · rw [if_pos h3, if_pos h3]
   refine ⟨?_, rfl⟩
   show (5 : Int) :: toI (t.data.toList.flatMap esc17 ++ [0, 0]) = 5 :: (t.data.toList.flatMap escO ++ [0, 0])
   rw [← toI_esc]
   unfold toI
   rw [List.map_append]
   rfl
 rw [if_neg h3, if_neg h3]; exact ⟨rfl, rfl⟩
end Js
end Go.Proofs.YtapcpndplnkfjaaGreatDoor
namespace Go.Proofs.YtapcpndplnkfjaaGreatDoor
open Go.RowKit Go.Proofs.YtapcpndplnkfjaaGreatDoorW.PrintWords Pr
end Go.Proofs.YtapcpndplnkfjaaGreatDoor
namespace Go.Proofs.YtapcpndplnkfjaaGreatDoor
open Go.RowKit Go.Proofs.YtapcpndplnkfjaaGreatDoorW.PrintWords Go.Proofs.YtapcpndplnkfjaaGreatDoorW.PrintLast Go.Proofs.YtapcpndplnkfjaaGreatDoorW.PrintMore
namespace Js
theorem parse15R (s : List UInt8) (hs : s.length ≤ 600) (w : World) (x : S28) (e : Int) (h : pv s = (x, e)) :
    Calls Tryz.prog 17 #[.string (ofL s)] w fun E w' => ∃ A c B c', E = .returned (.tuple #[.agg #[.int .i64 x.f0, .bool x.f1, .bool x.f2.f0, .string x.f2.f1, .int .i64 x.f2.f2, .string x.f3, .slice A x.f4.length c, .slice B x.f5.length c'], .int .i64 e]) ∧
     JD w' x A x.f4.length c B x.f5.length c' ∧ True ∧ Below w.heap.size w w' := by
 refine (parse15 s hs w x e h).mono ?_
 rintro E w' ⟨A, n, c, B, m, c', rfl, hJ, hB⟩
 obtain rfl := hJ.ln
 obtain rfl := hJ.lm
 exact ⟨A, c, B, c', rfl, hJ, trivial, hB⟩
theorem key_kind (x : S28) (h : 0 ≤ x.f0 ∧ x.f0 ≤ 5) (h4 : x.f0 < 4) : (keyL x).2 = 0 ∧ ∃ c l, (keyL x).1 = c :: l ∧ k1 x.f0 ≤ c ∧ c < k2 x.f0 := by
 have h1 : x.f0 = 0 ∨ x.f0 = 1 ∨ x.f0 = 2 ∨ x.f0 = 3 := by omega
 rcases h1 with e | e | e | e <;> unfold keyL <;> rw [e]
 · exact ⟨rfl, 1, [], rfl, by decide, by decide⟩
 · by_cases hb : x.f1 = true
   · refine ⟨rfl, 3, [], ?_, by decide, by decide⟩; rw [hb]; rfl
   refine ⟨rfl, 2, [], ?_, by decide, by decide⟩
   have : x.f1 = false := by simpa using hb
   rw [this]; rfl
 · exact ⟨rfl, 4, _, rfl, by decide, by decide⟩
 exact ⟨rfl, 5, _, rfl, by decide, by decide⟩
theorem key_rest (x : S28) (h4 : ¬ x.f0 < 4) : keyL x = ([], 36) := by
 unfold keyL; rw [if_neg (by omega), if_neg (by omega), if_neg (by omega), if_neg (by omega)]
theorem toI_len (l : List UInt8) : (toI l).length = l.length := by simp [toI]
theorem k1_lt (a : Int) (ha : 0 ≤ a ∧ a ≤ 5) : k1 a < k2 a := by
 have h1 : a = 0 ∨ a = 1 ∨ a = 2 ∨ a = 3 ∨ a = 4 ∨ a = 5 := by omega
 rcases h1 with rfl | rfl | rfl | rfl | rfl | rfl <;> decide
set_option maxRecDepth 100000 in
set_option maxHeartbeats 4000000 in
theorem okeys_main (s : List UInt8) (hs : s.length ≤ 600) (w : World) (hT : KTabs w) :
    Calls Tryz.prog 3 #[.string (ofL s)] w fun e w' => e = .returned (.bool true) ∧ Below w.heap.size w w' := by
 have HT := hi_ hT
 have HS := hi_ hs
 have hs1 : ((ofL s).size : Int) ≤ 600 := by rw [ofL_size]; omega
 obtain ⟨X, hX⟩ : ∃ X, X = (pv s).1 := ⟨_, rfl⟩
 obtain ⟨e, he⟩ : ∃ e, e = (pv s).2 := ⟨_, rfl⟩
 have HPS : Hid (pv s = (X, e)) := hi_ (by rw [hX, he])
 have tx : Top s.length X := by have := top_parse s; rwa [show parseV (fvN 17) s = (X, e) from HPS.out] at this
 have TX := hi_ tx
 have HQ := hi_ (key17_L X tx.n)
 have HKL := hi_ (k1_lt X.f0 tx.k)
 have hkey : (X.f0 < 4 ∧ ∃ c0 l, Hid (keyL X = (c0 :: l, 0)) ∧ k1 X.f0 ≤ c0 ∧ c0 < k2 X.f0) ∨ (4 ≤ X.f0 ∧ Hid (keyL X = ([], 36))) := by
  by_cases h4 : X.f0 < 4
  · obtain ⟨h0, c0, l, h1, h2, h3⟩ := key_kind X tx.k h4
    exact .inl ⟨h4, c0, l, hi_ (Prod.ext h1 h0), h2, h3⟩
  exact .inr ⟨by omega, hi_ (key_rest X h4)⟩
 have HKEY := hi_ hkey
 clear hT hs tx hX he hkey
 go_enter Tryz.func3, Tryz.ntmps3
 go_wp2_with fail
 refine (awake17_calls _ HT.out).mono ?_
 rintro E w1 ⟨rfl, hB⟩
 have HB1 := hi_ hB
 clear hB
 go_wp2_with fail
 refine (jparseR s _ (HT.out.below HB1.out).t X e HPS.out).mono ?_
 rintro E w2 ⟨A1, c1, B1, d1, rfl, hJ, hR, hB⟩
 have HJ1 := hi_ hJ
 have HR1 := hi_ hR
 have HB2 := hi_ (HB1.out.trans (hB.mono HB1.out.size))
 clear hJ hR hB HB1
 go_wp2_with fail
 refine (parse15R s HS.out _ X e HPS.out).mono ?_
 rintro E w3 ⟨A2, c2, B2, d2, rfl, hJ, hR, hB⟩
 have HK1 := hi_ (kept hB).1
 have HJ1 := hi_ (HJ1.out.below ((below_alloc (Below.refl _ _) _).trans (hB.mono (below_alloc (Below.refl _ _) _).size)))
 have HJ2 := hi_ hJ
 have HR2 := hi_ hR
 have HB3 := hi_ ((below_alloc HB2.out (.cells #[.int .i64 X.f0, .bool X.f1, .bool X.f2.f0, .string X.f2.f1, .int .i64 X.f2.f2, .string X.f3, .slice A1 X.f4.length c1, .slice B1 X.f5.length d1] 28)).trans (hB.mono (below_alloc HB2.out (.cells #[.int .i64 X.f0, .bool X.f1, .bool X.f2.f0, .string X.f2.f1, .int .i64 X.f2.f2, .string X.f3, .slice A1 X.f4.length c1, .slice B1 X.f5.length d1] 28)).size))
 clear hJ hR hB HB2
 go_upto_region 8 with fail
 have hal := below_alloc (Below.refl w3.heap.size w3) (.cells #[.int .i64 X.f0, .bool X.f1, .bool X.f2.f0, .string X.f2.f1, .int .i64 X.f2.f2, .string X.f3, .slice A2 X.f4.length c2, .slice B2 X.f5.length d2] 35)
 have HK1 := hi_ (blk_alloc HK1.out (.cells #[.int .i64 X.f0, .bool X.f1, .bool X.f2.f0, .string X.f2.f1, .int .i64 X.f2.f2, .string X.f3, .slice A2 X.f4.length c2, .slice B2 X.f5.length d2] 35))
 have HK2 := hi_ (blk_new w3 (.cells #[.int .i64 X.f0, .bool X.f1, .bool X.f2.f0, .string X.f2.f1, .int .i64 X.f2.f2, .string X.f3, .slice A2 X.f4.length c2, .slice B2 X.f5.length d2] 35))
 have HJ1 := hi_ (HJ1.out.below hal)
 have HJ2 := hi_ (HJ2.out.below hal)
 have HB4 := hi_ (below_alloc HB3.out (.cells #[.int .i64 X.f0, .bool X.f1, .bool X.f2.f0, .string X.f2.f1, .int .i64 X.f2.f2, .string X.f3, .slice A2 X.f4.length c2, .slice B2 X.f5.length d2] 35))
 obtain ⟨w4, hw⟩ : ∃ w', w' = w3.alloc (.cells #[.int .i64 X.f0, .bool X.f1, .bool X.f2.f0, .string X.f2.f1, .int .i64 X.f2.f2, .string X.f3, .slice A2 X.f4.length c2, .slice B2 X.f5.length d2] 35) := ⟨_, rfl⟩
 rw [← hw] at HK1 HJ1 HK2 HJ2 HB4 ⊢
 clear hal hw HB3
 obtain ⟨q10, q11, q12, q13, q14, q15, q16, q17⟩ := eight HK1.out
 go_wp2_with fail
 refine (key_calls X TX.out.k TX.out.n (by have := TX.out.t; have := HS.out; omega) A1 B1 _ _ c1 d1 _ (HT.out.below HB4.out)).mono ?_
 rintro E w5 ⟨v, rfl, hR, hB⟩
 obtain ⟨A5, c5, rfl, hl5, hC⟩ := Kd.R_reads hR
 obtain ⟨K, hK⟩ : ∃ K, K = (key17 X).1 := ⟨_, rfl⟩
 obtain ⟨er, her⟩ : ∃ er, er = (key17 X).2 := ⟨_, rfl⟩
 have e2 : (keyL X).2 = er := by rw [her, HQ.out.2]
 have e1 : (keyL X).1 = toI K := by rw [hK, HQ.out.1]
 rw [e1] at hC hl5 ⊢
 rw [e2]
 rw [toI_len] at hC hl5 ⊢
 have HE1 := hi_ e1
 have HE2 := hi_ e2
 have HKK := hi_ hK
 have HER := hi_ her
 have HC5 := hi_ hC
 clear hR hC e1 e2 hK her
 have HK1 := hi_ (thru HK1.out hB)
 have HK2 := hi_ (thru HK2.out hB)
 have HB5 := hi_ (HB4.out.trans (hB.mono HB4.out.size))
 clear hB HB4
 clear q10 q11 q12 q13 q14 q15 q16 q17
 obtain ⟨q20, q21, q22, q23, q24, q25, q26, q27⟩ := eight HK2.out
 go_wp2_with fail
 refine (key17_calls X TX.out.k TX.out.n (by have := TX.out.t; have := HS.out; omega) (.slice A2 X.f4.length c2) (.slice B2 X.f5.length d2) _).mono ?_
 rintro E w6 ⟨rfl, hB⟩
 rw [← HKK.out, ← HER.out]
 have HC6 := hi_ (Kd.C_below HC5.out hB)
 have HK1 := hi_ (thru HK1.out hB)
 have HK2 := hi_ (thru HK2.out hB)
 have HB6 := hi_ (HB5.out.trans (hB.mono HB5.out.size))
 clear hB HB5 HC5
 clear q20 q21 q22 q23 q24 q25 q26 q27
 obtain ⟨q10, q11, q12, q13, q14, q15, q16, q17⟩ := eight HK1.out
 go_wp2_with fail
 refine (kind_calls X.f0 TX.out.k _ _ _ _ _ _ _ _ _ _ _ _ (HT.out.below HB6.out)).mono ?_
 rintro E w7 ⟨rfl, hB⟩
 have hC := Kd.C_below HC6.out hB
 have HK1 := hi_ (thru HK1.out hB)
 have HK2 := hi_ (thru HK2.out hB)
 have HB7 := hi_ (HB6.out.trans (hB.mono HB6.out.size))
 clear hB HB6 HC6
 clear q10 q11 q12 q13 q14 q15 q16 q17
 obtain ⟨a, ha⟩ : ∃ a, a = k1 X.f0 := ⟨_, rfl⟩
 obtain ⟨b, hb⟩ : ∃ b, b = k2 X.f0 := ⟨_, rfl⟩
 rw [← ha, ← hb]
 have hkl : a < b := by rw [ha, hb]; exact HKL.out
 have hab : ¬ b ≤ a := by omega
 have r5 : (convert 38 9 (.slice A5 K.length c5)).run Tryz.prog w7 = .ok (.string (ofL K)) w7 := (str_run w7 A5 _ c5 _ hC).trans (by rw [strOf_toI])
 have hkk : ((ofL K).toList == (ofL K).toList) = true := beq_self_eq_true _
 have hkk2 : ((ofL K).toList != (ofL K).toList) = false := bne_self_eq_false _
 rcases HKEY.out with ⟨h4, c0, l, hk, hc1, hc2⟩ | ⟨h4, hk⟩
 · rw [← ha] at hc1
   rw [← hb] at hc2
   have hk0 : er = 0 := by rw [← HE2.out, hk.out]
   have hKl : toI K = c0 :: l := by rw [← HE1.out, hk.out]
   have hlen : K.length = l.length + 1 := by rw [← toI_len, hKl]; rfl
   obtain ⟨ad, hAd, hcell⟩ := u8_at (by rw [toI_len]; exact hC) 0 (by rw [hKl]; simp)
   rw [hKl] at hcell
   have hc : w7.cell? ad = some (.int .u8 c0) := by
    cases ad
    simpa [Addr.add] using hcell
   have hpos : 0 < K.length := by omega
   subst hk0
   rw [hAd] at r5
   generalize ofL K = SK at r5 hkk hkk2
   clear hcell hKl hk ha hb hC hlen
   go_wp2_with fail
   go_ret
   exact ⟨rfl, HB7.out⟩
 · have hk0 : er = 36 := by rw [← HE2.out, hk.out]
   subst hk0
   clear hk ha hb hC
   go_wp2_with fail
   go_ret
   exact ⟨rfl, HB7.out⟩
set_option maxRecDepth 100000 in
theorem okeys_long (s : List UInt8) (h : 600 < s.length) (w : World) (hT : KTabs w) :
    Calls Tryz.prog 3 #[.string (ofL s)] w fun e w' => e = .returned (.bool true) ∧ Below w.heap.size w w' := by
 have HT := hi_ hT
 have HSs : Hid ((ofL s).size = s.length) := hi_ (ofL_size s)
 clear hT
 have hi0 : (600 : Int) < ((ofL s).size : Int) := by rw [HSs.out]; omega
 clear h
 go_enter Tryz.func3, Tryz.ntmps3
 go_wp2_with fail
 refine (awake17_calls _ HT.out).mono ?_
 rintro E w1 ⟨rfl, hB⟩
 go_wp2_with fail
 go_ret
 exact ⟨rfl, hB⟩
theorem OrderKeys_calls (s : ByteArray) (w : World) (hT : KTabs w) :
    Calls Tryz.prog 3 #[.string s] w fun e w' => e = .returned (.bool true) ∧ Below w.heap.size w w' := by
 have es : ofL s.data.toList = s := ofL_of s
 by_cases hh : 600 < s.data.toList.length
 · have := okeys_long s.data.toList hh w hT
   rwa [es] at this
 · have := okeys_main s.data.toList (by omega) w hT
   rwa [es] at this
end Js
end Go.Proofs.YtapcpndplnkfjaaGreatDoor
