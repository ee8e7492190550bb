/- The contracts of the readers' methods at known numbers; the walk over awake. -/
import Derived.Test.YtlgammcbhgmpoaaRdB
namespace Go.Proofs.Ytlgammcbhgmpoaa
open Go.RowKit
theorem endY (B many : Nat) (f : Nat → Sl) (i : Nat) (s t : Int) (w : World) (h : Tb w B many f) (hs : s = (i : Int)) (hi : i < many) (his : (f i).is = true) (ht : ((f i).turn : Int) = t) :
    Calls Try.prog 21 #[.pointer (some ⟨B, 0, none⟩), .agg #[.int .i64 s, .int .u64 t]] w fun e w' => e = .returned (.int .i64 0) ∧ Tb w' B many (ended f i) ∧ Kp B w w' := by
  subst ht; subst hs; exact end_yes B many f i w h hi his
theorem txnY (B many : Nat) (f : Nat → Sl) (i : Nat) (s t x : Int) (w : World) (h : Tb w B many f) (hs : s = (i : Int)) (hi : i < many) (his : (f i).is = true) (ht : ((f i).turn : Int) = t) (hx : ((f i).txn : Int) = x) :
    Calls Try.prog 27 #[.pointer (some ⟨B, 0, none⟩), .agg #[.int .i64 s, .int .u64 t]] w fun e w' => e = .returned (.tuple #[.int .u64 x, .int .i64 0]) ∧ Below w.heap.size w w' := by
  subst ht; subst hx; subst hs; exact txn_yes B many f i w h hi his
theorem liveN (B many : Nat) (f : Nat → Sl) (n : Int) (w : World) (h : Tb w B many f) (hn : ((live f many : Nat) : Int) = n) : Calls Try.prog 31 #[.pointer (some ⟨B, 0, none⟩)] w fun e w' => e = .returned (.int .i64 n) ∧ w = w' := by
  subst hn; exact live_any B many f w h
theorem oldestN (B many : Nat) (f : Nat → Sl) (x : Nat) (z y : Int) (w : World) (h : Tb w B many f) (hz : z = (x : Int)) (hy : ((oldest f x many : Nat) : Int) = y) : Calls Try.prog 29 #[.pointer (some ⟨B, 0, none⟩), .int .u64 z] w fun e w' => e = .returned (.int .u64 y) ∧ w = w' := by
  subst hy; subst hz; exact oldest_any B many f x w h
theorem clearN (B many : Nat) (f : Nat → Sl) (n : Int) (w : World) (h : Tb w B many f) (hn : ((clrN f many : Nat) : Int) = n) :
    Calls Try.prog 25 #[.pointer (some ⟨B, 0, none⟩)] w fun e w' => e = .returned (.int .i64 n) ∧ Tb w' B many (clr f many) ∧ Kp B w w' := by
  subst hn; exact clear_any B many f w h
theorem beginY (B many : Nat) (f : Nat → Sl) (x i : Nat) (z j tn : Int) (w : World) (h : Tb w B many f) (hz : z = (x : Int)) (hj : (i : Int) = j) (hx : x < 18446744073709551616) (hi : i < many) (hlow : ∀ k, k < i → (f k).is = true) (hfree : (f i).is = false) (ht : ((((f i).turn + 1) % 18446744073709551616 : Nat) : Int) = tn) :
    Calls Try.prog 19 #[.pointer (some ⟨B, 0, none⟩), .int .u64 z] w fun e w' =>
      e = .returned (.tuple #[.agg #[.int .i64 j, .int .u64 tn], .int .i64 0]) ∧ Tb w' B many (begun f i x) ∧ Kp B w w' := by
  subst ht; subst hj; subst hz; exact begin_yes B many f x i w h hx hi hlow hfree _ rfl
theorem beginN (B many : Nat) (f : Nat → Sl) (x : Nat) (z : Int) (w : World) (h : Tb w B many f) (hz : z = (x : Int)) (hx : x < 18446744073709551616) (hall : ∀ j, j < many → (f j).is = true) :
    Calls Try.prog 19 #[.pointer (some ⟨B, 0, none⟩), .int .u64 z] w fun e w' =>
      e = .returned (.tuple #[.agg #[.int .i64 0, .int .u64 0], .int .i64 22]) ∧ Tb w' B many f ∧ Kp B w w' := by
  subst hz; exact begin_no B many f x w h hx hall
theorem new_tb (n : Nat) (h1 : 1 ≤ n) (h2 : n ≤ 126) (z : Int) (hz : z = (n : Int)) (w : World) : Calls Try.prog 17 #[.int .i64 z] w fun e w' => e = .returned (.tuple #[.pointer (some ⟨w.heap.size, 0, none⟩), .int .i64 0]) ∧ Tb w' w.heap.size n zs ∧ Below w.heap.size w w' := by
  subst hz
  refine (new_yes n h1 h2 w).mono ?_
  rintro e w' ⟨rfl, rfl⟩
  refine ⟨rfl, ⟨?_, h2, fun i => by simp [zs]⟩, (Below.refl _ _).alloc (Nat.le_refl _) _⟩
  show (w.heap.push _)[w.heap.size]? = _
  simp
theorem kpB {B many : Nat} {f : Nat → Sl} {w0 w w' : World} (h : Below B w0 w) (k : Kp B w w') (t : Tb w B many f) : Below B w0 w' := Kp.below h k (Nat.le_refl _) (Nat.le_of_lt t.lt)
theorem blB {B many : Nat} {f : Nat → Sl} {w0 w w' : World} (h : Below B w0 w) (k : Below w.heap.size w w') (t : Tb w B many f) : Below B w0 w' := h.trans (k.mono (Nat.le_of_lt t.lt))
/-- a handle's variable -/
def Hv (w : World) (b : Nat) (s t : Int) : Prop := w.heap[b]? = some (.cells #[.int .i64 s, .int .u64 t] 47 (0, 0))
theorem Hv.kp {w w' : World} {b B : Nat} {s t : Int} (h : Hv w b s t) (k : Kp B w w') (hne : b ≠ B) : Hv w' b s t := res_kept k h hne
theorem Hv.below {w w' : World} {b : Nat} {s t : Int} (h : Hv w b s t) (k : Below w.heap.size w w') : Hv w' b s t :=
  (k.block b (Array.getElem?_eq_some_iff.1 h).1).trans h
theorem Hv.new (w : World) (s t : Int) : Hv (w.alloc (.cells #[.int .i64 s, .int .u64 t] 47)) w.heap.size s t := by
  show (w.heap.push _)[w.heap.size]? = _
  simp
theorem Hv.c0 {w : World} {b : Nat} {s t : Int} (h : Hv w b s t) : w.cell? ⟨b, 0, none⟩ = some (.int .i64 s) := by rw [cell_of_row _ _ _ _ _ _ h]; rfl
theorem Hv.c1 {w : World} {b : Nat} {s t : Int} (h : Hv w b s t) : w.cell? ⟨b, 1, none⟩ = some (.int .u64 t) := by rw [cell_of_row _ _ _ _ _ _ h]; rfl
theorem Tb.kpn {w w' : World} {b B many : Nat} {f : Nat → Sl} (h : Tb w B many f) (k : Kp b w w') (hne : b ≠ B) : Tb w' B many f :=
  ⟨(k.block B h.lt (by simpa using fun e => hne e.symm)).trans h.1, h.2⟩
theorem low0 {f : Nat → Sl} : ∀ k, k < 0 → (f k).is = true := fun k h => absurd h (Nat.not_lt_zero k)
theorem low1 : ∀ k, k < 1 → (begun zs 0 5 k).is = true := by
  intro k h
  obtain rfl : k = 0 := by omega
  rfl
theorem low2 : ∀ k, k < 2 → (begun (begun zs 0 5) 1 7 k).is = true := by
  intro k h
  rcases (show k = 0 ∨ k = 1 by omega) with rfl | rfl <;> rfl
theorem gone1 : ¬ Gd (ended (begun (begun zs 0 5) 1 7) 0) 2 0 1 := by
  rintro ⟨i, h1, h2, h3, h4⟩
  obtain rfl : i = 0 := by omega
  revert h3; decide
set_option maxRecDepth 100000 in
set_option maxHeartbeats 2000000 in
theorem awake9 (w : World) : Calls Try.prog 16 #[] w fun e w' => e = .returned (.bool true) ∧ Below w.heap.size w w' := by
  go_enter Try.func16, Try.ntmps16
  go_wp2_with fail
  refine (new_tb 2 (by omega) (by omega) 2 rfl _).mono ?_
  rintro e w1 ⟨rfl, ht1, hb1⟩
  obtain ⟨B, hB⟩ : ∃ B, B = w.heap.size := ⟨_, rfl⟩
  rw [← hB] at ht1 ⊢
  rw [← hB] at hb1
  have HT1 := Lib.hid ht1
  have HB1 := Lib.hid hb1
  have HBw := Lib.hid hB
  clear ht1 hb1 hB
  go_simp
  go_wp2_with fail
  refine (beginY B 2 zs 5 0 5 0 1 w1 HT1.out rfl rfl (by decide) (by decide) low0 rfl (by decide)).mono ?_
  rintro e w2 ⟨rfl, ht2, hk2⟩
  have HB2 := Lib.hid (kpB HB1.out hk2 HT1.out : Below B w w2)
  have HT2 := Lib.hid ht2
  clear ht2 hk2
  go_simp
  go_wp2_with fail
  have HVa := Lib.hid (Hv.new w2 0 1)
  have HTw2a := Lib.hid (HT2.out.below ((Below.refl _ _).alloc (Nat.le_refl _) (.cells #[.int .i64 0, .int .u64 1] 47)))
  have HBw2a := Lib.hid (blB HB2.out ((Below.refl _ _).alloc (Nat.le_refl _) (.cells #[.int .i64 0, .int .u64 1] 47)) HT2.out)
  have hla : B < w2.heap.size := HT2.out.lt
  generalize w2.alloc (.cells #[.int .i64 0, .int .u64 1] 47) = w2a at *
  generalize w2.heap.size = ba at *
  refine (beginY B 2 (begun zs 0 5) 7 1 7 1 1 w2a HTw2a.out rfl rfl (by decide) (by decide) low1 rfl (by decide)).mono ?_
  rintro e w3 ⟨rfl, ht3, hk3⟩
  have HB3 := Lib.hid (kpB HBw2a.out hk3 HTw2a.out : Below B w w3)
  have HT3 := Lib.hid ht3
  have HVaw3 := Lib.hid (HVa.out.kp hk3 (by omega))
  clear ht3 hk3
  go_simp
  go_wp2_with fail
  have HVb := Lib.hid (Hv.new w3 1 1)
  have HTw3b := Lib.hid (HT3.out.below ((Below.refl _ _).alloc (Nat.le_refl _) (.cells #[.int .i64 1, .int .u64 1] 47)))
  have HBw3b := Lib.hid (blB HB3.out ((Below.refl _ _).alloc (Nat.le_refl _) (.cells #[.int .i64 1, .int .u64 1] 47)) HT3.out)
  have hlb : B < w3.heap.size := HT3.out.lt
  have HVaw3b := Lib.hid (HVaw3.out.below ((Below.refl _ _).alloc (Nat.le_refl _) (.cells #[.int .i64 1, .int .u64 1] 47)))
  generalize w3.alloc (.cells #[.int .i64 1, .int .u64 1] 47) = w3b at *
  generalize w3.heap.size = bb at *
  refine (beginN B 2 (begun (begun zs 0 5) 1 7) 8 8 w3b HTw3b.out rfl (by decide) low2).mono ?_
  rintro e w4 ⟨rfl, ht4, hk4⟩
  have HB4 := Lib.hid (kpB HBw3b.out hk4 HTw3b.out : Below B w w4)
  have HT4 := Lib.hid ht4
  have HVaw4 := Lib.hid (HVaw3b.out.kp hk4 (by omega))
  have HVbw4 := Lib.hid (HVb.out.kp hk4 (by omega))
  clear ht4 hk4
  go_simp
  go_wp2_with fail
  have HVc := Lib.hid (Hv.new w4 0 0)
  have HTw5 := Lib.hid (HT4.out.below ((Below.refl _ _).alloc (Nat.le_refl _) (.cells #[.int .i64 0, .int .u64 0] 47)))
  have HBw5 := Lib.hid (blB HB4.out ((Below.refl _ _).alloc (Nat.le_refl _) (.cells #[.int .i64 0, .int .u64 0] 47)) HT4.out)
  have hlc : B < w4.heap.size := HT4.out.lt
  have HVaw5 := Lib.hid (HVaw4.out.below ((Below.refl _ _).alloc (Nat.le_refl _) (.cells #[.int .i64 0, .int .u64 0] 47)))
  have HVbw5 := Lib.hid (HVbw4.out.below ((Below.refl _ _).alloc (Nat.le_refl _) (.cells #[.int .i64 0, .int .u64 0] 47)))
  generalize w4.alloc (.cells #[.int .i64 0, .int .u64 0] 47) = w5 at *
  generalize w4.heap.size = bc at *
  refine (oldestN B 2 _ 9 9 5 w5 HTw5.out rfl (by decide)).mono ?_
  rintro e w5' ⟨rfl, rfl⟩
  have ca0 := HVaw5.out.c0
  have ca1 := HVaw5.out.c1
  go_simp
  go_wp2_with fail
  refine (endY B 2 _ 0 0 1 w5 HTw5.out rfl (by decide) rfl (by decide)).mono ?_
  rintro e w6 ⟨rfl, ht6, hk6⟩
  have HB6 := Lib.hid (kpB HBw5.out hk6 HTw5.out : Below B w w6)
  have HT6 := Lib.hid ht6
  have HVaw6 := Lib.hid (HVaw5.out.kp hk6 (by omega))
  have HVbw6 := Lib.hid (HVbw5.out.kp hk6 (by omega))
  clear ht6 hk6 ca0 ca1
  go_simp
  go_wp2_with fail
  refine (oldestN B 2 _ 9 9 7 w6 HT6.out rfl (by decide)).mono ?_
  rintro e w6' ⟨rfl, rfl⟩
  have ca0 := HVaw6.out.c0
  have ca1 := HVaw6.out.c1
  have cb0 := HVbw6.out.c0
  have cb1 := HVbw6.out.c1
  go_simp
  go_wp2_with fail
  refine (txn_no B 2 _ 0 1 w6 HT6.out gone1).mono ?_
  rintro e w7 ⟨rfl, hb7⟩
  have HB7 := Lib.hid (blB HB6.out hb7 HT6.out)
  have HT7 := Lib.hid (HT6.out.below hb7)
  have HVbw7 := Lib.hid (HVbw6.out.below hb7)
  clear hb7 ca0 ca1 cb0 cb1
  have cb0 := HVbw7.out.c0
  have cb1 := HVbw7.out.c1
  go_simp
  go_wp2_with fail
  refine (txnY B 2 _ 1 1 1 7 w7 HT7.out rfl (by decide) rfl (by decide) (by decide)).mono ?_
  rintro e w8 ⟨rfl, hb8⟩
  have HB8 := Lib.hid (blB HB7.out hb8 HT7.out)
  have HT8 := Lib.hid (HT7.out.below hb8)
  clear hb8 cb0 cb1
  go_simp
  go_wp2_with fail
  refine (liveN B 2 _ 1 w8 HT8.out (by decide)).mono ?_
  rintro e w8' ⟨rfl, rfl⟩
  go_simp
  go_wp2_with fail
  refine (dead_yes B 2 _ 1 w8 HT8.out (by decide) rfl).mono ?_
  rintro e w9 ⟨rfl, ht9, hk9⟩
  have HB9 := Lib.hid (kpB HB8.out hk9 HT8.out)
  have HT9 := Lib.hid ht9
  clear ht9 hk9
  go_simp
  go_wp2_with fail
  refine (clearN B 2 _ 1 w9 HT9.out (by decide)).mono ?_
  rintro e w10 ⟨rfl, ht10, hk10⟩
  have HB10 := Lib.hid (kpB HB9.out hk10 HT9.out)
  have HT10 := Lib.hid ht10
  clear ht10 hk10
  go_simp
  go_wp2_with fail
  refine (liveN B 2 _ 0 w10 HT10.out (by decide)).mono ?_
  rintro e w11 ⟨rfl, rfl⟩
  go_simp
  go_wp2_with fail
  go_ret
  exact ⟨rfl, by rw [← HBw.out]; exact HB10.out⟩
end Go.Proofs.Ytlgammcbhgmpoaa
