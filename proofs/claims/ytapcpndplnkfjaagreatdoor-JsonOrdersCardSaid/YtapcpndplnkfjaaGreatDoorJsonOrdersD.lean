/- What the law rests on, part 4: joined by a program of this session (claimx.py). -/
import Derived.Test.YtapcpndplnkfjaaGreatDoorJsonOrdersC
namespace Go.Proofs.YtapcpndplnkfjaaGreatDoor
open Go.RowKit Go.Proofs.YtapcpndplnkfjaaGreatDoorW.PrintWords Go.Proofs.YtapcpndplnkfjaaGreatDoorW.PrintLast Go.Proofs.YtapcpndplnkfjaaGreatDoorW.PrintMore
set_option linter.unusedVariables false
set_option linter.unusedSimpArgs false
namespace Js
def cmpL (f : S28 → S28 → Int) : List S28 → List S28 → Int
  | [], [] => 0
  | [], _ :: _ => -1
  | _ :: _, [] => 1
  | x :: xs, y :: ys => if f x y = 0 then cmpL f xs ys else f x y
def cmpS (a b : ByteArray) : Int := Lib.compareBytes a.data.toList b.data.toList
def cmpM (f : S28 → S28 → Int) (x y : S28) (a b : ByteArray) : Int := if cmpS a b = 0 then f x y else cmpS a b
def cmpO (f : S28 → S28 → Int) : List S28 → List ByteArray → List S28 → List ByteArray → Int
  | x :: xs, a :: ns, y :: ys, b :: ms => if cmpM f x y a b = 0 then cmpO f xs ns ys ms else cmpM f x y a b
  | _, ns, _, ms => Lib.compareInt ns.length ms.length
def cmpF : Nat → S28 → S28 → Int
  | 0, _, _ => 0
  | n + 1, x, y => if x.f0 = y.f0 then (if x.f0 = 4 then cmpL (cmpF n) x.f4 y.f4 else if x.f0 = 5 then cmpO (cmpF n) x.f4 x.f5 y.f4 y.f5 else cmpFlat x y) else Lib.compareInt x.f0 y.f0
def Cv : Nat → S28 → Prop
  | 0, _ => False
  | n + 1, x => (0 ≤ x.f0 ∧ x.f0 ≤ 5) ∧ okNum x.f2 ∧ (x.f0 = 5 → x.f4.length = x.f5.length) ∧ ∀ i, i < x.f4.length → Cv n (x.f4.getD i z28)
def CCalls (f : S28 → S28 → Int) (x y : S28) : Prop := ∀ (A1 B1 A2 B2 : Option Addr) (c1 d1 c2 d2 : Nat) (w : World), JC w x A1 x.f4.length c1 B1 x.f5.length d1 → JC w y A2 y.f4.length c2 B2 y.f5.length d2 →
  Calls Tryz.prog 28 #[.agg #[.int .i64 x.f0, .bool x.f1, .bool x.f2.f0, .string x.f2.f1, .int .i64 x.f2.f2, .string x.f3, .slice A1 x.f4.length c1, .slice B1 x.f5.length d1], .agg #[.int .i64 y.f0, .bool y.f1, .bool y.f2.f0, .string y.f2.f1, .int .i64 y.f2.f2, .string y.f3, .slice A2 y.f4.length c2, .slice B2 y.f5.length d2]] w fun e w' => e = .returned (.int .i64 (f x y)) ∧ Below w.heap.size w w'
theorem cmpL_at (f : S28 → S28 → Int) : ∀ (xs ys : List S28) (i : Nat), i < xs.length → i < ys.length → cmpL f (xs.drop i) (ys.drop i) = if f (xs.getD i z28) (ys.getD i z28) = 0 then cmpL f (xs.drop (i + 1)) (ys.drop (i + 1)) else f (xs.getD i z28) (ys.getD i z28)
  | [], _, _, h, _ => absurd h (by simp)
  | _, [], _, _, h => absurd h (by simp)
  | x :: xs, y :: ys, 0, _, _ => rfl
  | x :: xs, y :: ys, i + 1, h, k => by simpa using cmpL_at f xs ys i (by simpa using h) (by simpa using k)
theorem cmpL_end (f : S28 → S28 → Int) (xs ys : List S28) (i : Nat) (h : xs.length ≤ i) (hi : i ≤ ys.length) (hx : i = xs.length) : cmpL f (xs.drop i) (ys.drop i) = if xs.length < ys.length then -1 else 0 := by
  rw [List.drop_eq_nil_of_le h]
  by_cases hl : xs.length < ys.length
  · rw [if_pos hl, hx, List.drop_eq_getElem_cons hl]; rfl
  · rw [if_neg hl, List.drop_eq_nil_of_le (by omega)]; rfl
theorem cmpL_more (f : S28 → S28 → Int) (xs ys : List S28) (i : Nat) (h : i < xs.length) (hi : ys.length ≤ i) : cmpL f (xs.drop i) (ys.drop i) = 1 := by
  rw [List.drop_eq_nil_of_le hi, List.drop_eq_getElem_cons h]; rfl
theorem cmpO_at (f : S28 → S28 → Int) : ∀ (xs : List S28) (ns : List ByteArray) (ys : List S28) (ms : List ByteArray) (i : Nat), i < xs.length → xs.length = ns.length → i < ys.length → ys.length = ms.length →
    cmpO f (xs.drop i) (ns.drop i) (ys.drop i) (ms.drop i) = if cmpM f (xs.getD i z28) (ys.getD i z28) (ns.getD i ⟨#[]⟩) (ms.getD i ⟨#[]⟩) = 0 then cmpO f (xs.drop (i + 1)) (ns.drop (i + 1)) (ys.drop (i + 1)) (ms.drop (i + 1)) else cmpM f (xs.getD i z28) (ys.getD i z28) (ns.getD i ⟨#[]⟩) (ms.getD i ⟨#[]⟩)
  | [], _, _, _, _, h, _, _, _ => absurd h (by simp)
  | _ :: _, [], _, _, _, _, h, _, _ => absurd h (by simp)
  | _, _, [], _, _, _, _, h, _ => absurd h (by simp)
  | _, _, _ :: _, [], _, _, _, _, h => absurd h (by simp)
  | x :: xs, a :: ns, y :: ys, b :: ms, 0, _, _, _, _ => rfl
  | x :: xs, a :: ns, y :: ys, b :: ms, i + 1, h, h2, k, k2 => by simpa using cmpO_at f xs ns ys ms i (by simpa using h) (by simpa using h2) (by simpa using k) (by simpa using k2)
theorem lt_cast (a b c : Nat) (h : c ≤ a) (k : c ≤ b) : Lib.compareInt ((a - c : Nat) : Int) ((b - c : Nat) : Int) = Lib.compareInt (a : Int) (b : Int) := by
  unfold Lib.compareInt
  (repeat' split) <;> omega
theorem cmpO_end (f : S28 → S28 → Int) (xs : List S28) (ns : List ByteArray) (ys : List S28) (ms : List ByteArray) (i : Nat) (hx : xs.length = ns.length) (hy : ys.length = ms.length) (hi : i = min ns.length ms.length) :
    cmpO f (xs.drop i) (ns.drop i) (ys.drop i) (ms.drop i) = Lib.compareInt ns.length ms.length := by
  have h2 := lt_cast ns.length ms.length i (by omega) (by omega)
  rw [← List.length_drop, ← List.length_drop] at h2
  rw [← h2]
  have : ns.drop i = [] ∨ ms.drop i = [] := by
    by_cases h : ns.length ≤ i
    · exact .inl (List.drop_eq_nil_of_le h)
    · exact .inr (List.drop_eq_nil_of_le (by omega))
  generalize xs.drop i = p at *
  generalize ys.drop i = q at *
  generalize ns.drop i = u at *
  generalize ms.drop i = v at *
  rcases this with rfl | rfl
  · cases p <;> cases q <;> cases v <;> rfl
  · cases p <;> cases q <;> cases u <;> rfl
set_option maxRecDepth 100000 in
set_option maxHeartbeats 2000000 in
theorem compareFunc_calls (f : S28 → S28 → Int) (xs ys : List S28) (HF : ∀ i, i < xs.length → i < ys.length → CCalls f (xs.getD i z28) (ys.getD i z28)) (A A' : Option Addr) (c c' : Nat) (w : World) (hA : k28.C w A xs.length xs) (hc : xs.length ≤ c) (hA' : k28.C w A' ys.length ys) (hc' : ys.length ≤ c') :
    Calls Tryz.prog 54 #[.slice A xs.length c, .slice A' ys.length c', .func (.func 28) #[] #[]] w fun e w' => e = .returned (.int .i64 (cmpL f xs ys)) ∧ Below w.heap.size w w' := by
  have HFF := Lib.hid HF
  have HA := Lib.hid hA
  have HA' := Lib.hid hA'
  have hm := Kd.C_max hA
  have hm' := Kd.C_max hA'
  obtain ⟨R, hR⟩ : ∃ R, R = cmpL f xs ys := ⟨_, rfl⟩
  have HR0 : Hid (R = cmpL f (xs.drop 0) (ys.drop 0)) := Lib.hid hR
  rw [← hR]
  clear HF hA hA' hR
  go_enter Tryz.func54, Tryz.ntmps54
  go_wp2_with fail
  go_loopw [13] (fun vi wr => ∃ (i : Nat), i ≤ xs.length ∧ i ≤ ys.length ∧ vi = .int .i64 i ∧ Hid (R = cmpL f (xs.drop i) (ys.drop i)) ∧ Hid (Below w.heap.size w wr)) (fun vi _ => xs.length - (intOf vi).toNat)
  case atStart => exact ⟨0, by omega, by omega, rfl, HR0, Lib.hid (Below.refl _ _)⟩
  case round =>
    clear HR0
    obtain ⟨i, hi, hi2, rfl, HR, HB⟩ := hrel
    by_cases hix : i < xs.length
    · obtain ⟨ad, A1, c1, B1, d1, rfl, q0, q1, q2, q3, q4, q5, q6, q7, l6, g6, l7, g7⟩ := at_T28 (Kd.C_below HA.out HB.out) (i : Int) (by omega) (by omega)
      simp only [rd_T28, Int.toNat_natCast] at q0 q1 q2 q3 q4 q5 q6 q7 l6 g6 l7 g7
      by_cases hiy : i < ys.length
      · have hF1 := HFF.out i hix hiy
        have hat := cmpL_at f xs ys i hix hiy
        obtain ⟨x, hx⟩ : ∃ x, x = xs.getD i z28 := ⟨_, rfl⟩
        rw [← hx] at q0 q1 q2 q3 q4 q5 q6 q7 l6 g6 l7 g7 hF1 hat
        obtain ⟨ad2, A2, c2, B2, d2, rfl, p0, p1, p2, p3, p4, p5, p6, p7, m6, n6, m7, n7⟩ := at_T28 (Kd.C_below HA'.out (below_alloc HB.out (.cells #[.int .i64 x.f0, .bool x.f1, .bool x.f2.f0, .string x.f2.f1, .int .i64 x.f2.f2, .string x.f3, .slice A1 x.f4.length c1, .slice B1 x.f5.length d1] 28))) (i : Int) (by omega) (by omega)
        simp only [rd_T28, Int.toNat_natCast] at p0 p1 p2 p3 p4 p5 p6 p7 m6 n6 m7 n7
        obtain ⟨y, hy⟩ : ∃ y, y = ys.getD i z28 := ⟨_, rfl⟩
        rw [← hy] at p0 p1 p2 p3 p4 p5 p6 p7 m6 n6 m7 n7 hF1 hat
        have HJX : Hid (JC wr x A1 x.f4.length c1 B1 x.f5.length d1) := Lib.hid ⟨rfl, l6, g6, rfl, l7, g7⟩
        have HJY : Hid (JC (wr.alloc (.cells #[.int .i64 x.f0, .bool x.f1, .bool x.f2.f0, .string x.f2.f1, .int .i64 x.f2.f2, .string x.f3, .slice A1 x.f4.length c1, .slice B1 x.f5.length d1] 28)) y A2 y.f4.length c2 B2 y.f5.length d2) := Lib.hid ⟨rfl, m6, n6, rfl, m7, n7⟩
        have HF1 := Lib.hid hF1
        have hat2 := HR.out.trans hat
        obtain ⟨V, hV⟩ : ∃ V, V = f x y := ⟨_, rfl⟩
        rw [← hV] at hat2
        have HATT := Lib.hid hat2
        have HV := Lib.hid hV
        have HBA : Hid (∀ o p, Below wr.heap.size wr ((wr.alloc o).alloc p)) := Lib.hid (fun o p => below_alloc (below_alloc (Below.refl _ _) _) _)
        clear l6 g6 l7 g7 m6 n6 m7 n7 hx hy hF1 hat hat2 hV
        go_wp2_with fail
        have hk1 := blk_alloc (blk_new wr (.cells #[.int .i64 x.f0, .bool x.f1, .bool x.f2.f0, .string x.f2.f1, .int .i64 x.f2.f2, .string x.f3, .slice A1 x.f4.length c1, .slice B1 x.f5.length d1] 28)) (.cells #[.int .i64 y.f0, .bool y.f1, .bool y.f2.f0, .string y.f2.f1, .int .i64 y.f2.f2, .string y.f3, .slice A2 y.f4.length c2, .slice B2 y.f5.length d2] 28)
        have hk2 := blk_new (wr.alloc (.cells #[.int .i64 x.f0, .bool x.f1, .bool x.f2.f0, .string x.f2.f1, .int .i64 x.f2.f2, .string x.f3, .slice A1 x.f4.length c1, .slice B1 x.f5.length d1] 28)) (.cells #[.int .i64 y.f0, .bool y.f1, .bool y.f2.f0, .string y.f2.f1, .int .i64 y.f2.f2, .string y.f3, .slice A2 y.f4.length c2, .slice B2 y.f5.length d2] 28)
        refine (HF1.out A1 B1 A2 B2 c1 d1 c2 d2 _ (HJX.out.below (HBA.out _ _)) (HJY.out.below (below_alloc (Below.refl _ _) _))).mono ?_
        rintro E w2 ⟨rfl, hB⟩
        rw [← HV.out]
        have HB2 := Lib.hid (HB.out.trans (((HBA.out _ _).trans (hB.mono (HBA.out _ _).size)).mono HB.out.size))
        clear hB hk1 hk2 p0 p1 p2 p3 p4 p5 p6 p7 q0 q1 q2 q3 q4 q5 q6 q7
        have h := HATT.out
        by_cases hV0 : V = 0
        · rw [if_pos hV0] at h
          have HN := Lib.hid h
          have e1 : (V == 0) = true := by simp [hV0]
          clear h hV0
          go_wp2_with fail
          exact ⟨⟨i + 1, by omega, by omega, by simp, HN, HB2⟩, by simp [intOf]; omega⟩
        · rw [if_neg hV0] at h
          have e1 : (V == 0) = false := by simpa using hV0
          have HN := Lib.hid h
          clear h hV0
          go_wp2_with fail
          go_ret
          exact ⟨by rw [HN.out]; rfl, HB2.out⟩
      · have h1 := HR.out.trans (cmpL_more f xs ys i hix (by omega))
        have hge : (ys.length : Int) ≤ (i : Int) := by omega
        have HN := Lib.hid h1
        clear h1
        obtain ⟨x, hx⟩ : ∃ x, x = xs.getD i z28 := ⟨_, rfl⟩
        rw [← hx] at q0 q1 q2 q3 q4 q5 q6 q7 l6 g6 l7 g7
        clear hx l6 g6 l7 g7
        go_wp2_with fail
        go_ret
        exact ⟨by rw [HN.out]; rfl, below_alloc HB.out _⟩
    · have : i = xs.length := by omega
      have h1 := HR.out.trans (cmpL_end f xs ys i (by omega) hi2 this)
      by_cases hl : xs.length < ys.length
      · rw [if_pos hl] at h1
        have HN := Lib.hid h1
        clear h1
        go_wp2_with fail
        go_ret
        exact ⟨by rw [HN.out]; rfl, HB.out⟩
      · rw [if_neg hl] at h1
        have HN := Lib.hid h1
        clear h1
        go_wp2_with fail
        go_ret
        exact ⟨by rw [HN.out]; rfl, HB.out⟩
set_option maxRecDepth 100000 in
set_option maxHeartbeats 2000000 in
theorem compare_arr (f : S28 → S28 → Int) (x y : S28) (hx : x.f0 = 4) (hy : y.f0 = 4) (HF : ∀ i, i < x.f4.length → i < y.f4.length → CCalls f (x.f4.getD i z28) (y.f4.getD i z28)) : CCalls (fun x y => cmpL f x.f4 y.f4) x y := by
  intro A1 B1 A2 B2 c1 d1 c2 d2 w hJ hK
  have HFF := Lib.hid HF
  have HJ := Lib.hid hJ
  have HK := Lib.hid hK
  have e4 : (x.f0 == 4) = true := by simp [hx]
  have e1 : (x.f0 == 1) = false := by simp [hx]
  have e2 : (x.f0 == 2) = false := by simp [hx]
  have e3 : (x.f0 == 3) = false := by simp [hx]
  have ee : (x.f0 == y.f0) = true := by simp [hx, hy]
  have en : (x.f0 != y.f0) = false := by simp [hx, hy]
  have HBA : Hid (∀ o p, Below w.heap.size w ((w.alloc o).alloc p)) := Lib.hid (fun o p => below_alloc (below_alloc (Below.refl _ _) _) _)
  have l1 := hJ.nc
  have l2 := hK.nc
  clear hJ hK HF hx hy
  go_enter Tryz.func28, Tryz.ntmps28
  go_wp2_with fail
  refine (compareFunc_calls f x.f4 y.f4 HFF.out A1 A2 c1 c2 _ (Kd.C_below HJ.out.i (HBA.out _ _)) l1 (Kd.C_below HK.out.i (HBA.out _ _)) l2).mono ?_
  rintro E w1 ⟨rfl, hB⟩
  have HB := Lib.hid ((HBA.out _ _).trans (hB.mono (HBA.out _ _).size))
  clear hB
  go_wp2_with fail
  go_ret
  exact ⟨rfl, HB.out⟩
set_option maxRecDepth 100000 in
set_option maxHeartbeats 2000000 in
theorem compare_obj (f : S28 → S28 → Int) (x y : S28) (hx : x.f0 = 5) (hy : y.f0 = 5) (hlx : x.f4.length = x.f5.length) (hly : y.f4.length = y.f5.length) (HF : ∀ i, i < x.f4.length → i < y.f4.length → CCalls f (x.f4.getD i z28) (y.f4.getD i z28)) : CCalls (fun x y => cmpO f x.f4 x.f5 y.f4 y.f5) x y := by
  intro A1 B1 A2 B2 c1 d1 c2 d2 w hJ hK
  have HFF := Lib.hid HF
  have HJ := Lib.hid hJ
  have HK := Lib.hid hK
  have e5 : (x.f0 == 5) = true := by simp [hx]
  have e4 : (x.f0 == 4) = false := by simp [hx]
  have e1 : (x.f0 == 1) = false := by simp [hx]
  have e2 : (x.f0 == 2) = false := by simp [hx]
  have e3 : (x.f0 == 3) = false := by simp [hx]
  have ee : (x.f0 == y.f0) = true := by simp [hx, hy]
  have en : (x.f0 != y.f0) = false := by simp [hx, hy]
  have l1 := hJ.nc
  have l2 := hK.nc
  have l3 := hJ.mc
  have l4 := hK.mc
  have l5 := Kd.C_max hJ.s
  have l6 := Kd.C_max hK.s
  have HLX := Lib.hid hlx
  have HLY := Lib.hid hly
  obtain ⟨R, hR⟩ : ∃ R, R = cmpO f x.f4 x.f5 y.f4 y.f5 := ⟨_, rfl⟩
  have HR0 : Hid (R = cmpO f (x.f4.drop 0) (x.f5.drop 0) (y.f4.drop 0) (y.f5.drop 0)) := Lib.hid hR
  show Calls Tryz.prog 28 _ _ fun e w' => e = .returned (.int .i64 (cmpO f x.f4 x.f5 y.f4 y.f5)) ∧ _
  rw [← hR]
  have hka := blk_alloc (blk_new w (.cells #[.int .i64 x.f0, .bool x.f1, .bool x.f2.f0, .string x.f2.f1, .int .i64 x.f2.f2, .string x.f3, .slice A1 x.f4.length c1, .slice B1 x.f5.length d1] 28)) (.cells #[.int .i64 y.f0, .bool y.f1, .bool y.f2.f0, .string y.f2.f1, .int .i64 y.f2.f2, .string y.f3, .slice A2 y.f4.length c2, .slice B2 y.f5.length d2] 28)
  have hkb := blk_new (w.alloc (.cells #[.int .i64 x.f0, .bool x.f1, .bool x.f2.f0, .string x.f2.f1, .int .i64 x.f2.f2, .string x.f3, .slice A1 x.f4.length c1, .slice B1 x.f5.length d1] 28)) (.cells #[.int .i64 y.f0, .bool y.f1, .bool y.f2.f0, .string y.f2.f1, .int .i64 y.f2.f2, .string y.f3, .slice A2 y.f4.length c2, .slice B2 y.f5.length d2] 28)
  have hbb := below_alloc (below_alloc (Below.refl w.heap.size w) (.cells #[.int .i64 x.f0, .bool x.f1, .bool x.f2.f0, .string x.f2.f1, .int .i64 x.f2.f2, .string x.f3, .slice A1 x.f4.length c1, .slice B1 x.f5.length d1] 28)) (.cells #[.int .i64 y.f0, .bool y.f1, .bool y.f2.f0, .string y.f2.f1, .int .i64 y.f2.f2, .string y.f3, .slice A2 y.f4.length c2, .slice B2 y.f5.length d2] 28)
  have hsz : (w.alloc (.cells #[.int .i64 x.f0, .bool x.f1, .bool x.f2.f0, .string x.f2.f1, .int .i64 x.f2.f2, .string x.f3, .slice A1 x.f4.length c1, .slice B1 x.f5.length d1] 28)).heap.size = w.heap.size + 1 := by simp
  rw [hsz] at hkb
  clear hJ hK HF hx hy hR hlx hly hsz
  go_enter Tryz.func28, Tryz.ntmps28
  go_wp2_with fail
  obtain ⟨w0, hw0⟩ : ∃ w0, w0 = (w.alloc (.cells #[.int .i64 x.f0, .bool x.f1, .bool x.f2.f0, .string x.f2.f1, .int .i64 x.f2.f2, .string x.f3, .slice A1 x.f4.length c1, .slice B1 x.f5.length d1] 28)).alloc (.cells #[.int .i64 y.f0, .bool y.f1, .bool y.f2.f0, .string y.f2.f1, .int .i64 y.f2.f2, .string y.f3, .slice A2 y.f4.length c2, .slice B2 y.f5.length d2] 28) := ⟨_, rfl⟩
  rw [← hw0] at hka hkb hbb ⊢
  have HKA := Lib.hid hka
  have HKB := Lib.hid hkb
  have HBB := Lib.hid hbb
  clear hka hkb hbb hw0
  obtain ⟨m, hm⟩ : ∃ m : Nat, m = min x.f5.length y.f5.length := ⟨_, rfl⟩
  have hmi : min (x.f5.length : Int) (y.f5.length : Int) = (m : Int) := by omega
  rw [hmi]
  have hmx : m ≤ x.f5.length := by omega
  have hmy : m ≤ y.f5.length := by omega
  have HM := Lib.hid hm
  clear hmi hm
  go_loopw [58] (fun vi wr => ∃ (i : Nat), i ≤ m ∧ vi = .int .i64 i ∧ Hid (R = cmpO f (x.f4.drop i) (x.f5.drop i) (y.f4.drop i) (y.f5.drop i)) ∧ Hid (Below w0.heap.size w0 wr)) (fun vi _ => m - (intOf vi).toNat)
  case atStart => exact ⟨0, by omega, rfl, HR0, Lib.hid (Below.refl _ _)⟩
  case round =>
    clear HR0
    obtain ⟨i, hi, rfl, HR, HBW⟩ := hrel
    by_cases him : i < m
    · have HBX := Lib.hid (HBB.out.trans (HBW.out.mono HBB.out.size))
      have hix : (i : Int) < (x.f4.length : Int) := by rw [HLX.out]; omega
      have hiy : (i : Int) < (y.f4.length : Int) := by rw [HLY.out]; omega
      have hnx : (i : Int) < (x.f5.length : Int) := by omega
      have hny : (i : Int) < (y.f5.length : Int) := by omega
      have hbd := below_drew1 HBX.out
      have hbd0 := below_drew1 HBW.out
      have hat := HR.out.trans (cmpO_at f x.f4 x.f5 y.f4 y.f5 i (by omega) HLX.out (by omega) HLY.out)
      have hF1 := HFF.out i (by omega) (by omega)
      obtain ⟨ad, A3, c3, B3, d3, rfl, q0, q1, q2, q3, q4, q5, q6, q7, k6, g6, k7, g7⟩ := at_T28 (Kd.C_below HJ.out.i hbd) (i : Int) (by omega) (by omega)
      simp only [rd_T28, Int.toNat_natCast] at q0 q1 q2 q3 q4 q5 q6 q7 k6 g6 k7 g7
      obtain ⟨ad2, A4, c4, B4, d4, rfl, p0, p1, p2, p3, p4, p5, p6, p7, m6, n6, m7, n7⟩ := at_T28 (Kd.C_below HK.out.i hbd) (i : Int) (by omega) (by omega)
      simp only [rd_T28, Int.toNat_natCast] at p0 p1 p2 p3 p4 p5 p6 p7 m6 n6 m7 n7
      obtain ⟨bd, cc, rfl, -, hK1, hc0⟩ := Kd.C_get (Kd.C_below HJ.out.s hbd) (⟨#[]⟩ : ByteArray) (i : Int) (by omega) (by omega)
      obtain ⟨bd2, cc2, rfl, -, hK2, hc02⟩ := Kd.C_get (Kd.C_below HK.out.s hbd) (⟨#[]⟩ : ByteArray) (i : Int) (by omega) (by omega)
      obtain ⟨z, hz⟩ : ∃ z, z = x.f4.getD i z28 := ⟨_, rfl⟩
      obtain ⟨u, hu⟩ : ∃ u, u = y.f4.getD i z28 := ⟨_, rfl⟩
      obtain ⟨a, ha⟩ : ∃ a, a = x.f5.getD i ⟨#[]⟩ := ⟨_, rfl⟩
      obtain ⟨b, hb⟩ : ∃ b, b = y.f5.getD i ⟨#[]⟩ := ⟨_, rfl⟩
      have ek1 : cc = [.string a] := by rw [ha]; exact hK1
      have ek2 : cc2 = [.string b] := by rw [hb]; exact hK2
      have t1 := hc0 0 (.string a) (by rw [ek1]; rfl)
      have t2 := hc02 0 (.string b) (by rw [ek2]; rfl)
      rw [show (i : Int).toNat * Kd.string.sz + 0 = i by rw [Int.toNat_natCast]; exact Nat.mul_one i] at t1 t2
      rw [← hz] at q0 q1 q2 q3 q4 q5 q6 q7 k6 g6 k7 g7 hF1 hat
      rw [← hu] at p0 p1 p2 p3 p4 p5 p6 p7 m6 n6 m7 n7 hF1 hat
      rw [← ha, ← hb] at hat
      clear hc0 hc02 hK1 hK2 ek1 ek2 hz hu ha hb
      have HJZ0 : JC wr.drew z A3 z.f4.length c3 B3 z.f5.length d3 := ⟨rfl, k6, g6, rfl, k7, g7⟩
      have HJU0 : JC wr.drew u A4 u.f4.length c4 B4 u.f5.length d4 := ⟨rfl, m6, n6, rfl, m7, n7⟩
      have hka := blk_drew (thru HKA.out HBW.out)
      have hkb := blk_drew (thru HKB.out HBW.out)
      have HF1 := Lib.hid hF1
      obtain ⟨V, hV⟩ : ∃ V, V = f z u := ⟨_, rfl⟩
      obtain ⟨C, hC⟩ : ∃ C, C = cmpS a b := ⟨_, rfl⟩
      have hat2 : R = if (if C = 0 then V else C) = 0 then cmpO f (x.f4.drop (i + 1)) (x.f5.drop (i + 1)) (y.f4.drop (i + 1)) (y.f5.drop (i + 1)) else (if C = 0 then V else C) := by
        rw [hV, hC]; exact hat
      have HATT := Lib.hid hat2
      have HV := Lib.hid hV
      have HC := Lib.hid hC
      clear k6 g6 k7 g7 m6 n6 m7 n7 hat hat2 hF1 hV hC
      go_upto_region 16 with fail
      refine start_ (n := 25) (S := fun w' => Below wr.drew.heap.size wr.drew w') (ds := []) #[false, false, false, false, false, false, false, false, false, false, false, false, false, false, false, false, false, false, false, false, false, false, false, false, false] (by kernel_rfl) rfl rfl (Below.refl _ _) (fun hHeld => ?_)
      generalize wr.drew = wd at hbd hbd0 t1 t2 q0 q1 q2 q3 q4 q5 q6 q7 p0 p1 p2 p3 p4 p5 p6 p7 HJZ0 HJU0 hka hkb hHeld ⊢
      have T1 := Lib.hid t1
      have T2 := Lib.hid t2
      have Q0 := Lib.hid q0
      have Q1 := Lib.hid q1
      have Q2 := Lib.hid q2
      have Q3 := Lib.hid q3
      have Q4 := Lib.hid q4
      have Q5 := Lib.hid q5
      have Q6 := Lib.hid q6
      have Q7 := Lib.hid q7
      have P0 := Lib.hid p0
      have P1 := Lib.hid p1
      have P2 := Lib.hid p2
      have P3 := Lib.hid p3
      have P4 := Lib.hid p4
      have P5 := Lib.hid p5
      have P6 := Lib.hid p6
      have P7 := Lib.hid p7
      have HJZ := Lib.hid HJZ0
      have HJU := Lib.hid HJU0
      have HKa := Lib.hid hka
      have HKb := Lib.hid hkb
      have HBD := Lib.hid hbd
      have HBD0 := Lib.hid hbd0
      clear hbd hbd0 t1 t2 q0 q1 q2 q3 q4 q5 q6 q7 p0 p1 p2 p3 p4 p5 p6 p7 HJZ0 HJU0 hka hkb HR
      refine pure_ (i := 0) (N := some 61) (v := ?_) (a' := ?_) #[true, false, false, false, false, false, false, false, false, false, false, false, false, false, false, false, false, false, false, false, false, false, false, false, false] rfl rfl (by kernel_rfl) (fun _ _ _ h => h) (Or.inl ⟨by rfl, ?_⟩) ?_ ?_
      rotate_left
      · intro w'
        go_simp
        with_reducible rfl
      rotate_left
      · simp only [Act.put, List.setIfInBounds_toArray, List.set_cons_zero, List.set_cons_succ, i64_w, i32_w]
        rfl
      refine take_ (i := 1) (N := some 62) (v := ?_) (a' := ?_) #[true, true, false, false, false, false, false, false, false, false, false, false, false, false, false, false, false, false, false, false, false, false, false, false, false] rfl rfl (by kernel_rfl) (fun _ _ _ h => h) (Or.inl ⟨by rfl, ?_⟩) hHeld ?_ ?_
      rotate_left
      · intro w' hb
        obtain ⟨s0, s1, s2, s3, s4, s5, s6, s7⟩ := eight (thru HKa.out hb)
        go_simp
        with_reducible rfl
      rotate_left
      · simp only [Act.put, List.setIfInBounds_toArray, List.set_cons_zero, List.set_cons_succ, i64_w, i32_w]
        rfl
      refine pure_ (i := 2) (N := some 63) (v := ?_) (a' := ?_) #[true, true, true, false, false, false, false, false, false, false, false, false, false, false, false, false, false, false, false, false, false, false, false, false, false] rfl rfl (by kernel_rfl) (fun _ _ _ h => h) (Or.inl ⟨by rfl, ?_⟩) ?_ ?_
      rotate_left
      · intro w'
        go_simp
        with_reducible rfl
      rotate_left
      · simp only [Act.put, List.setIfInBounds_toArray, List.set_cons_zero, List.set_cons_succ, i64_w, i32_w]
        rfl
      refine pure_ (i := 3) (N := some 64) (v := ?_) (a' := ?_) #[true, true, true, true, false, false, false, false, false, false, false, false, false, false, false, false, false, false, false, false, false, false, false, false, false] rfl rfl (by kernel_rfl) (fun _ _ _ h => h) (Or.inl ⟨by rfl, ?_⟩) ?_ ?_
      rotate_left
      · intro w'
        go_simp
        with_reducible rfl
      rotate_left
      · simp only [Act.put, List.setIfInBounds_toArray, List.set_cons_zero, List.set_cons_succ, i64_w, i32_w]
        rfl
      refine take_ (i := 4) (N := some 65) (v := ?_) (a' := ?_) #[true, true, true, true, true, false, false, false, false, false, false, false, false, false, false, false, false, false, false, false, false, false, false, false, false] rfl rfl (by kernel_rfl) (fun _ _ _ h => h) (Or.inl ⟨by rfl, ?_⟩) hHeld ?_ ?_
      rotate_left
      · intro w' hb
        have s_t1 := pw_cell_below hb T1.out
        go_simp
        with_reducible rfl
      rotate_left
      · simp only [Act.put, List.setIfInBounds_toArray, List.set_cons_zero, List.set_cons_succ, i64_w, i32_w]
        rfl
      refine pure_ (i := 5) (N := some 66) (v := ?_) (a' := ?_) #[true, true, true, true, true, true, false, false, false, false, false, false, false, false, false, false, false, false, false, false, false, false, false, false, false] rfl rfl (by kernel_rfl) (fun _ _ _ h => h) (Or.inl ⟨by rfl, ?_⟩) ?_ ?_
      rotate_left
      · intro w'
        go_simp
        with_reducible rfl
      rotate_left
      · simp only [Act.put, List.setIfInBounds_toArray, List.set_cons_zero, List.set_cons_succ, i64_w, i32_w]
        rfl
      refine take_ (i := 6) (N := some 67) (v := ?_) (a' := ?_) #[true, true, true, true, true, true, true, false, false, false, false, false, false, false, false, false, false, false, false, false, false, false, false, false, false] rfl rfl (by kernel_rfl) (fun _ _ _ h => h) (Or.inl ⟨by rfl, ?_⟩) hHeld ?_ ?_
      rotate_left
      · intro w' hb
        obtain ⟨s0, s1, s2, s3, s4, s5, s6, s7⟩ := eight (thru HKb.out hb)
        go_simp
        with_reducible rfl
      rotate_left
      · simp only [Act.put, List.setIfInBounds_toArray, List.set_cons_zero, List.set_cons_succ, i64_w, i32_w]
        rfl
      refine pure_ (i := 7) (N := some 68) (v := ?_) (a' := ?_) #[true, true, true, true, true, true, true, true, false, false, false, false, false, false, false, false, false, false, false, false, false, false, false, false, false] rfl rfl (by kernel_rfl) (fun _ _ _ h => h) (Or.inl ⟨by rfl, ?_⟩) ?_ ?_
      rotate_left
      · intro w'
        go_simp
        with_reducible rfl
      rotate_left
      · simp only [Act.put, List.setIfInBounds_toArray, List.set_cons_zero, List.set_cons_succ, i64_w, i32_w]
        rfl
      refine pure_ (i := 8) (N := some 69) (v := ?_) (a' := ?_) #[true, true, true, true, true, true, true, true, true, false, false, false, false, false, false, false, false, false, false, false, false, false, false, false, false] rfl rfl (by kernel_rfl) (fun _ _ _ h => h) (Or.inl ⟨by rfl, ?_⟩) ?_ ?_
      rotate_left
      · intro w'
        go_simp
        with_reducible rfl
      rotate_left
      · simp only [Act.put, List.setIfInBounds_toArray, List.set_cons_zero, List.set_cons_succ, i64_w, i32_w]
        rfl
      refine take_ (i := 9) (N := some 70) (v := ?_) (a' := ?_) #[true, true, true, true, true, true, true, true, true, true, false, false, false, false, false, false, false, false, false, false, false, false, false, false, false] rfl rfl (by kernel_rfl) (fun _ _ _ h => h) (Or.inl ⟨by rfl, ?_⟩) hHeld ?_ ?_
      rotate_left
      · intro w' hb
        have s_t2 := pw_cell_below hb T2.out
        go_simp
        with_reducible rfl
      rotate_left
      · simp only [Act.put, List.setIfInBounds_toArray, List.set_cons_zero, List.set_cons_succ, i64_w, i32_w]
        rfl
      refine pure_ (i := 11) (N := some 72) (v := ?_) (a' := ?_) #[true, true, true, true, true, true, true, true, true, true, false, true, false, false, false, false, false, false, false, false, false, false, false, false, false] rfl rfl (by kernel_rfl) (fun _ _ _ h => h) (Or.inl ⟨by rfl, ?_⟩) ?_ ?_
      rotate_left
      · intro w'
        go_simp
        with_reducible rfl
      rotate_left
      · simp only [Act.put, List.setIfInBounds_toArray, List.set_cons_zero, List.set_cons_succ, i64_w, i32_w]
        rfl
      refine take_ (i := 12) (N := some 73) (v := ?_) (a' := ?_) #[true, true, true, true, true, true, true, true, true, true, false, true, true, false, false, false, false, false, false, false, false, false, false, false, false] rfl rfl (by kernel_rfl) (fun _ _ _ h => h) (Or.inl ⟨by rfl, ?_⟩) hHeld ?_ ?_
      rotate_left
      · intro w' hb
        obtain ⟨s0, s1, s2, s3, s4, s5, s6, s7⟩ := eight (thru HKa.out hb)
        go_simp
        with_reducible rfl
      rotate_left
      · simp only [Act.put, List.setIfInBounds_toArray, List.set_cons_zero, List.set_cons_succ, i64_w, i32_w]
        rfl
      refine pure_ (i := 13) (N := some 74) (v := ?_) (a' := ?_) #[true, true, true, true, true, true, true, true, true, true, false, true, true, true, false, false, false, false, false, false, false, false, false, false, false] rfl rfl (by kernel_rfl) (fun _ _ _ h => h) (Or.inl ⟨by rfl, ?_⟩) ?_ ?_
      rotate_left
      · intro w'
        go_simp
        with_reducible rfl
      rotate_left
      · simp only [Act.put, List.setIfInBounds_toArray, List.set_cons_zero, List.set_cons_succ, i64_w, i32_w]
        rfl
      refine pure_ (i := 14) (N := some 75) (v := ?_) (a' := ?_) #[true, true, true, true, true, true, true, true, true, true, false, true, true, true, true, false, false, false, false, false, false, false, false, false, false] rfl rfl (by kernel_rfl) (fun _ _ _ h => h) (Or.inl ⟨by rfl, ?_⟩) ?_ ?_
      rotate_left
      · intro w'
        go_simp
        with_reducible rfl
      rotate_left
      · simp only [Act.put, List.setIfInBounds_toArray, List.set_cons_zero, List.set_cons_succ, i64_w, i32_w]
        rfl
      refine take_ (i := 15) (N := some 76) (v := ?_) (a' := ?_) #[true, true, true, true, true, true, true, true, true, true, false, true, true, true, true, true, false, false, false, false, false, false, false, false, false] rfl rfl (by kernel_rfl) (fun _ _ _ h => h) (Or.inl ⟨by rfl, ?_⟩) hHeld ?_ ?_
      rotate_left
      · intro w' hb
        have s_q0 := pw_cell_below hb Q0.out
        have s_q1 := pw_cell_below hb Q1.out
        have s_q2 := pw_cell_below hb Q2.out
        have s_q3 := pw_cell_below hb Q3.out
        have s_q4 := pw_cell_below hb Q4.out
        have s_q5 := pw_cell_below hb Q5.out
        have s_q6 := pw_cell_below hb Q6.out
        have s_q7 := pw_cell_below hb Q7.out
        go_simp
        with_reducible rfl
      rotate_left
      · simp only [Act.put, List.setIfInBounds_toArray, List.set_cons_zero, List.set_cons_succ, i64_w, i32_w]
        rfl
      refine pure_ (i := 16) (N := some 77) (v := ?_) (a' := ?_) #[true, true, true, true, true, true, true, true, true, true, false, true, true, true, true, true, true, false, false, false, false, false, false, false, false] rfl rfl (by kernel_rfl) (fun _ _ _ h => h) (Or.inl ⟨by rfl, ?_⟩) ?_ ?_
      rotate_left
      · intro w'
        go_simp
        with_reducible rfl
      rotate_left
      · simp only [Act.put, List.setIfInBounds_toArray, List.set_cons_zero, List.set_cons_succ, i64_w, i32_w]
        rfl
      refine take_ (i := 17) (N := some 78) (v := ?_) (a' := ?_) #[true, true, true, true, true, true, true, true, true, true, false, true, true, true, true, true, true, true, false, false, false, false, false, false, false] rfl rfl (by kernel_rfl) (fun _ _ _ h => h) (Or.inl ⟨by rfl, ?_⟩) hHeld ?_ ?_
      rotate_left
      · intro w' hb
        obtain ⟨s0, s1, s2, s3, s4, s5, s6, s7⟩ := eight (thru HKb.out hb)
        go_simp
        with_reducible rfl
      rotate_left
      · simp only [Act.put, List.setIfInBounds_toArray, List.set_cons_zero, List.set_cons_succ, i64_w, i32_w]
        rfl
      refine pure_ (i := 18) (N := some 79) (v := ?_) (a' := ?_) #[true, true, true, true, true, true, true, true, true, true, false, true, true, true, true, true, true, true, true, false, false, false, false, false, false] rfl rfl (by kernel_rfl) (fun _ _ _ h => h) (Or.inl ⟨by rfl, ?_⟩) ?_ ?_
      rotate_left
      · intro w'
        go_simp
        with_reducible rfl
      rotate_left
      · simp only [Act.put, List.setIfInBounds_toArray, List.set_cons_zero, List.set_cons_succ, i64_w, i32_w]
        rfl
      refine pure_ (i := 19) (N := some 80) (v := ?_) (a' := ?_) #[true, true, true, true, true, true, true, true, true, true, false, true, true, true, true, true, true, true, true, true, false, false, false, false, false] rfl rfl (by kernel_rfl) (fun _ _ _ h => h) (Or.inl ⟨by rfl, ?_⟩) ?_ ?_
      rotate_left
      · intro w'
        go_simp
        with_reducible rfl
      rotate_left
      · simp only [Act.put, List.setIfInBounds_toArray, List.set_cons_zero, List.set_cons_succ, i64_w, i32_w]
        rfl
      refine take_ (i := 20) (N := some 81) (v := ?_) (a' := ?_) #[true, true, true, true, true, true, true, true, true, true, false, true, true, true, true, true, true, true, true, true, true, false, false, false, false] rfl rfl (by kernel_rfl) (fun _ _ _ h => h) (Or.inl ⟨by rfl, ?_⟩) hHeld ?_ ?_
      rotate_left
      · intro w' hb
        have s_p0 := pw_cell_below hb P0.out
        have s_p1 := pw_cell_below hb P1.out
        have s_p2 := pw_cell_below hb P2.out
        have s_p3 := pw_cell_below hb P3.out
        have s_p4 := pw_cell_below hb P4.out
        have s_p5 := pw_cell_below hb P5.out
        have s_p6 := pw_cell_below hb P6.out
        have s_p7 := pw_cell_below hb P7.out
        go_simp
        with_reducible rfl
      rotate_left
      · simp only [Act.put, List.setIfInBounds_toArray, List.set_cons_zero, List.set_cons_succ, i64_w, i32_w]
        rfl
      refine one_ (i := 10) (N := some 71) #[true, true, true, true, true, true, true, true, true, true, true, true, true, true, true, true, true, true, true, true, true, false, false, false, false] rfl rfl (by kernel_rfl) (by decide) (fun K hK => ?_)
      refine call_ 53 #[.string a, .string b] (by rfl) rfl ?_ ?_
      · go_simp
      refine (strings_Compare.calls a b (cmpS a b) _ rfl).mono ?_
      rintro E v1 ⟨rfl, hq⟩
      have HV1 : Hid (Below wd.heap.size wd v1) := Lib.hid (by obtain ⟨q, rfl⟩ := hq; exact pw_below_drewN (Below.refl _ _) _)
      rw [← HC.out]
      refine ⟨_, rfl, hK.out _ _ HV1.out (fun hHeld => ?_)⟩
      clear hK K hq
      refine norm_ (a' := ?_) ?_ ?_
      rotate_left
      · show Act.put _ (some 71) _ = _
        simp only [Act.put, List.setIfInBounds_toArray, List.set_cons_zero, List.set_cons_succ, i64_w, i32_w]
        rfl
      refine one_ (i := 21) (N := some 82) #[true, true, true, true, true, true, true, true, true, true, true, true, true, true, true, true, true, true, true, true, true, true, false, false, false] rfl rfl (by kernel_rfl) (by decide) (fun K hK => ?_)
      refine call_ 28 #[.agg #[.int .i64 z.f0, .bool z.f1, .bool z.f2.f0, .string z.f2.f1, .int .i64 z.f2.f2, .string z.f3, .slice A3 z.f4.length c3, .slice B3 z.f5.length d3], .agg #[.int .i64 u.f0, .bool u.f1, .bool u.f2.f0, .string u.f2.f1, .int .i64 u.f2.f2, .string u.f3, .slice A4 u.f4.length c4, .slice B4 u.f5.length d4]] (by rfl) rfl ?_ ?_
      · go_simp
      refine (HF1.out A3 B3 A4 B4 c3 d3 c4 d4 v1 (HJZ.out.below HV1.out) (HJU.out.below HV1.out)).mono ?_
      rintro E v2 ⟨rfl, hB⟩
      have HV2 := Lib.hid (HV1.out.trans (hB.mono HV1.out.size))
      rw [← HV.out]
      refine ⟨_, rfl, hK.out _ _ HV2.out (fun hHeld => ?_)⟩
      clear hK K hB
      refine norm_ (a' := ?_) ?_ ?_
      rotate_left
      · show Act.put _ (some 82) _ = _
        simp only [Act.put, List.setIfInBounds_toArray, List.set_cons_zero, List.set_cons_succ, i64_w, i32_w]
        rfl
      refine one_ (i := 22) (N := some 83) #[true, true, true, true, true, true, true, true, true, true, true, true, true, true, true, true, true, true, true, true, true, true, true, false, false] rfl rfl (by kernel_rfl) (by decide) (fun K hK => ?_)
      refine Kd.R_lit_step (Kd.int .i64) v2.heap.size 3 ?hg (N := 83) ?hd (xs := ([C, V] : List Int)) (inner := [.int .i64 C, .int .i64 V]) (ok := fun _ => True) (okp := fun _ => True) ?hr ?hp (fun _ hk => hk) trivial (Below.refl _ _) (Nat.le_refl _) (by simp) ?_; (case hd => rfl); (case hg => rfl); (case hr => first | (go_simp; done) | (go_simp; rfl)); (case hp => exact (Reps.one (show Kd.M (Kd.int .i64) _ _ _ C [.int .i64 C] from rfl) (Reps.one (show Kd.M (Kd.int .i64) _ _ _ V [.int .i64 V] from rfl) (Reps.none _ _))))
      intro v9 v3 hR9 hb hg_ hnew_
      clear hg_ hnew_
      have HV3 := Lib.hid (HV2.out.trans (hb.mono HV2.out.size))
      obtain ⟨A9, c9, rfl, h9, hC9⟩ := Kd.R_reads hR9
      refine hK.out _ _ HV3.out (fun hHeld => ?_)
      clear hK K
      refine norm_ (a' := ?_) ?_ ?_
      rotate_left
      · show Act.put _ (some 83) _ = _
        simp only [Act.put, List.setIfInBounds_toArray, List.set_cons_zero, List.set_cons_succ, i64_w, i32_w]
        rfl
      refine one_ (i := 23) (N := some 84) #[true, true, true, true, true, true, true, true, true, true, true, true, true, true, true, true, true, true, true, true, true, true, true, true, false] rfl rfl (by kernel_rfl) (by decide) (fun K hK => ?_)
      refine call_ 55 #[.slice A9 ([C, V] : List Int).length c9] (by rfl) rfl ?_ ?_
      · go_simp
      obtain ⟨kj, hkj⟩ := or_ev C V
      refine (Pr.cmp_Or_int.calls kj A9 c9 [C, V] _ v3 hC9 h9 (hkj kj (Nat.le_refl _))).mono ?_
      rintro E v4 ⟨rfl, hq⟩
      have HV4 := Lib.hid (HV3.out.trans ((show Below v3.heap.size v3 v4 by obtain ⟨q, rfl⟩ := hq; exact pw_below_drewN (Below.refl _ _) _).mono HV3.out.size))
      refine ⟨_, rfl, hK.out _ _ HV4.out (fun hHeld => ?_)⟩
      clear hK K hq hkj hC9 h9 hR9 hb
      refine norm_ (a' := ?_) ?_ ?_
      rotate_left
      · show Act.put _ (some 84) _ = _
        simp only [Act.put, List.setIfInBounds_toArray, List.set_cons_zero, List.set_cons_succ, i64_w, i32_w]
        rfl
      refine pure_ (i := 24) (N := some 6) (v := ?_) (a' := ?_) #[true, true, true, true, true, true, true, true, true, true, true, true, true, true, true, true, true, true, true, true, true, true, true, true, true] rfl rfl (by kernel_rfl) (fun _ _ _ h => h) (Or.inl ⟨by rfl, ?_⟩) ?_ ?_
      rotate_left
      · intro w'
        go_simp
        with_reducible rfl
      rotate_left
      · simp only [Act.put, List.setIfInBounds_toArray, List.set_cons_zero, List.set_cons_succ, i64_w, i32_w]
        rfl
      refine done_ (by kernel_rfl) ?_
      have h := HATT.out
      obtain ⟨W, hW⟩ : ∃ W, W = (if C = 0 then V else C) := ⟨_, rfl⟩
      rw [← hW] at h ⊢
      clear hW
      have HBF := Lib.hid (HBD0.out.trans (HV4.out.mono HBD0.out.size))
      by_cases hW0 : W = 0
      · rw [if_pos hW0] at h
        have HN := Lib.hid h
        have e9 : (W == 0) = true := by simp [hW0]
        clear h hW0
        go_wp2_with fail
        exact ⟨⟨i + 1, by omega, by simp, HN, HBF⟩, by simp [intOf]; omega⟩
      · rw [if_neg hW0] at h
        have HN := Lib.hid h
        have e9 : (W == 0) = false := by simpa using hW0
        clear h hW0
        go_wp2_with fail
        go_ret
        exact ⟨by rw [HN.out]; rfl, HBB.out.trans (HBF.out.mono HBB.out.size)⟩
    · have : i = m := by omega
      have h1 := HR.out.trans (cmpO_end f x.f4 x.f5 y.f4 y.f5 i HLX.out HLY.out (by rw [this]; exact HM.out))
      have hka := thru HKA.out HBW.out
      have hkb := thru HKB.out HBW.out
      obtain ⟨q0, q1, q2, q3, q4, q5, q6, q7⟩ := eight hka
      obtain ⟨p0, p1, p2, p3, p4, p5, p6, p7⟩ := eight hkb
      have HBX := Lib.hid (HBB.out.trans (HBW.out.mono HBB.out.size))
      have HN := Lib.hid h1
      have hlt : ¬ (i : Int) < (m : Int) := by omega
      clear h1 this him hka hkb
      go_wp2_with fail
      refine (Tryz.cmp_Compare_int _ _ _).mono ?_
      rintro E w1 ⟨rfl, rfl⟩
      go_wp2_with fail
      go_ret
      exact ⟨by rw [HN.out]; rfl, HBX.out⟩
theorem compare_calls : ∀ (n : Nat) (x y : S28), Cv n x → Cv n y → CCalls (cmpF n) x y
  | 0, _, _, h, _ => h.elim
  | n + 1, x, y, ⟨hk, ho, hl, hi⟩, ⟨hk', ho', hl', hi'⟩ => by
    have IH : ∀ i, i < x.f4.length → i < y.f4.length → CCalls (cmpF n) (x.f4.getD i z28) (y.f4.getD i z28) := fun i h k => compare_calls n _ _ (hi i h) (hi' i k)
    intro A1 B1 A2 B2 c1 d1 c2 d2 w hJ hK
    unfold cmpF
    by_cases h0 : x.f0 = y.f0
    · rw [if_pos h0]
      by_cases h4 : x.f0 = 4
      · rw [if_pos h4]; exact compare_arr (cmpF n) x y h4 (h0 ▸ h4) IH A1 B1 A2 B2 c1 d1 c2 d2 w hJ hK
      · rw [if_neg h4]
        by_cases h5 : x.f0 = 5
        · rw [if_pos h5]; exact compare_obj (cmpF n) x y h5 (h0 ▸ h5) (hl h5) (hl' (h0 ▸ h5)) IH A1 B1 A2 B2 c1 d1 c2 d2 w hJ hK
        · rw [if_neg h5]
          exact compare_flat x y h0 ⟨hk.1, by omega⟩ ho ho' A1 A2 B1 B2 _ _ _ _ c1 c2 d1 d2 w
    · rw [if_neg h0]
      exact compare_ne x y h0 A1 A2 B1 B2 _ _ _ _ c1 c2 d1 d2 w
end Js
end Go.Proofs.YtapcpndplnkfjaaGreatDoor
namespace Go.Proofs.YtapcpndplnkfjaaGreatDoor
open Go.RowKit Go.Proofs.YtapcpndplnkfjaaGreatDoorW.PrintWords Go.Proofs.YtapcpndplnkfjaaGreatDoorW.PrintLast Go.Proofs.YtapcpndplnkfjaaGreatDoorW.PrintMore
set_option linter.unusedVariables false
set_option linter.unusedSimpArgs false
namespace Js
variable {σ : Type}
theorem e0_of {f : S → S} (hf : ∀ a : S, a.e ≠ 0 → (f a).e = a.e) {a : S} (h : (f a).e = 0) : a.e = 0 := by
  by_cases h0 : a.e = 0
  · exact h0
  · exact absurd ((hf a h0).symm.trans h) h0
theorem take_le (a : S) (p : List UInt8) : (a.take p).s.length ≤ a.s.length := (keeps_take a p).len
theorem loop_inv {st : σ → S → σ × S} {Inv : σ → Nat → Prop} (he : ∀ x a, a.e ≠ 0 → (st x a).2.e = a.e) (hm : ∀ x k j, Inv x k → j ≤ k → Inv x j)
    (hst : ∀ x a, a.e = 0 → Inv x (a.s.length + 1) → (st x a).2.e = 0 → Inv (st x a).1 (st x a).2.s.length) :
    ∀ n x a, Inv x a.s.length → (listLoop st n x a).2.e = 0 → Inv (listLoop st n x a).1 (listLoop st n x a).2.s.length
  | 0, x, a, h, _ => h
  | n + 1, x, a, h, h0 => by
    unfold listLoop at h0 ⊢
    by_cases ht : a.took [44] = true
    · rw [if_pos ht] at h0 ⊢
      have h1 : (st x (a.take [44])).2.e = 0 := by
        by_cases hq : (st x (a.take [44])).2.e = 0
        · exact hq
        · exact absurd ((loop_bad st hq n _).symm.trans h0) hq
      have h2 : (a.take [44]).e = 0 := e0_of (f := fun a => (st x a).2) (fun a => he x a) h1
      exact loop_inv he hm hst n _ _ (hst x _ h2 (hm _ _ _ h (took_lt a 44 ht)) h1) h0
    · rw [if_neg ht]
      exact hm _ _ _ h (take_le a _)
theorem need_lt {a : S} {d : UInt8} (h : (a.need [d]).e = 0) : (a.need [d]).s.length + 1 ≤ a.s.length := by
  unfold S.need at h ⊢
  by_cases ht : a.took [d] = true
  · rw [if_pos ht]
    exact took_lt a d ht
  · rw [if_neg ht] at h
    exact absurd h (fail_ne _ 11 (by decide))
theorem listG_inv {st : σ → S → σ × S} {Inv : σ → Nat → Prop} (he : ∀ x a, a.e ≠ 0 → (st x a).2.e = a.e) (hm : ∀ x k j, Inv x k → j ≤ k → Inv x j)
    (hst : ∀ x a, a.e = 0 → Inv x (a.s.length + 1) → (st x a).2.e = 0 → Inv (st x a).1 (st x a).2.s.length) (d : UInt8) (x : σ) (a : S) (h : Inv x (a.s.length + 1)) (h0 : (listG st [d] x a).2.e = 0) :
    Inv (listG st [d] x a).1 ((listG st [d] x a).2.s.length + 1) := by
  unfold listG at h0 ⊢
  by_cases ht : a.took [d] = true
  · rw [if_pos ht]
    exact hm _ _ _ h (by have := took_lt a d ht; show (a.take [d]).s.length + 1 ≤ _; omega)
  · rw [if_neg ht] at h0 ⊢
    have h3 : ((listLoop st ((st x (a.take [d])).2.s.length + 1) (st x (a.take [d])).1 (st x (a.take [d])).2).2.need [d]).e = 0 := h0
    have h2 := e0_of (f := fun a => a.need [d]) (fun a ha => need_e ha [d]) h3
    have h1 : (st x (a.take [d])).2.e = 0 := by
      by_cases hq : (st x (a.take [d])).2.e = 0
      · exact hq
      · exact absurd ((loop_bad st hq _ _).symm.trans h2) hq
    have h4 : (a.take [d]).e = 0 := e0_of (f := fun a => (st x a).2) (fun a => he x a) h1
    have h5 := hst x _ h4 (hm _ _ _ h (by have := take_le a [d]; omega)) h1
    have h6 := loop_inv he hm hst _ _ _ h5 h2
    exact hm _ _ _ h6 (need_lt h3)
theorem quoteF_app (a b : List UInt8) : (a ++ b).flatMap quoteB = a.flatMap quoteB ++ b.flatMap quoteB := by simp
theorem four_lt (a : S) (h : (a.four).2.e = 0) : (a.four).2.s.length + 4 ≤ a.s.length := by
  unfold S.four at h ⊢
  split at h
  · exact absurd h (fail_ne _ 11 (by decide))
  · rename_i hl
    rw [if_neg hl]
    unfold fourV at h ⊢
    split at h
    · exact absurd h (fail_ne _ 11 (by decide))
    · simp; omega
theorem sign_sz (a : S) (h : (a.sign).2.e = 0) : (a.sign).1.length ≤ 4 ∧ (a.sign).2.s.length + 4 ≤ a.s.length := by
  refine ⟨(sign_len a).2.1, ?_⟩
  have h4 : (a.four).2.e = 0 := by
    by_cases hq : (a.four).2.e = 0
    · exact hq
    · exfalso
      unfold S.sign at h
      split at h
      · exact hq h
      split at h
      · rw [fail_e hq] at h; exact hq h
      · have h5 := four_e a.four.2.pre hq
        unfold S.sgn at h
        simp only [] at h
        split at h
        · rw [fail_e (by rw [h5]; exact hq), h5] at h; exact hq h
        · rw [h5] at h; exact hq h
  have h6 := four_lt a h4
  have h7 : (a.sign).2.s.length ≤ (a.four).2.s.length := by
    unfold S.sign
    split
    · exact Nat.le_refl _
    split
    · rw [fail_s]; exact Nat.le_refl _
    · have h8 := (sgn_len a.four.1 a.four.2.pre).1
      have h9 : a.four.2.pre.s.length ≤ a.four.2.s.length := by
        unfold S.pre Lib.trimPrefix
        simp only []
        split <;> simp
      omega
  omega
theorem esc_sz (a : S) (h : (a.esc).2.e = 0) : ((a.esc).1.flatMap quoteB).length + 6 * (a.esc).2.s.length ≤ 6 * a.s.length := by
  obtain ⟨s, o, e⟩ := a
  cases s with
  | nil => exact absurd h (fail_ne ⟨[], o, e⟩ 11 (by decide))
  | cons c l =>
    have hh : (S.escT c ⟨l, o, e⟩).2.e = 0 := h
    show ((S.escT c ⟨l, o, e⟩).1.flatMap quoteB).length + 6 * (S.escT c ⟨l, o, e⟩).2.s.length ≤ 6 * (l.length + 1)
    unfold S.escT at hh ⊢
    split at hh
    · rename_i hc
      rw [if_pos hc]
      have := sign_sz ⟨l, o, e⟩ hh
      have h2 := quoteF_len (S.sign ⟨l, o, e⟩).1
      have h3 : (S.sign ⟨l, o, e⟩).2.s.length + 4 ≤ l.length := this.2
      omega
    · rename_i hc
      rw [if_neg hc]
      split at hh
      · exact absurd hh (fail_ne _ 11 (by decide))
      · rename_i h9
        rw [if_neg h9]
        have h2 := quoteF_len (escL (escI c))
        have h3 : (escL (escI c)).length ≤ 1 := by
          have := (escI_b c).2
          unfold escL
          simp [ByteArray.data_extract, Array.toList_extract, List.extract]
          omega
        show (List.flatMap quoteB (escL (escI c))).length + 6 * l.length ≤ _
        omega
theorem strLoop_sz : ∀ (n : Nat) (out : List UInt8) (a : S), a.e = 0 → a.s.length < n → (strLoop S.esc n out a).2.e = 0 →
    ((strLoop S.esc n out a).1.flatMap quoteB).length + 6 * (strLoop S.esc n out a).2.s.length + 6 ≤ (out.flatMap quoteB).length + 6 * a.s.length
  | 0, out, a, _, h, _ => absurd h (by omega)
  | n + 1, out, a, he, hn, h => by
    rw [strLoop] at h ⊢
    rw [if_neg (by simp [he])] at h ⊢
    by_cases hp : a.plain.2 = false
    · rw [if_pos hp] at h; exact absurd h (fail_ne _ 11 (by decide))
    rw [if_neg hp] at h ⊢
    have hlt := (plain_le a).2 (by simpa using hp)
    have hq := quoteF_len (a.s.take a.plain.1)
    have hk : (a.s.take a.plain.1).length = a.plain.1 := by rw [List.length_take]; omega
    have hc : a.cut.s.length = a.s.length - (a.plain.1 + 1) := by unfold S.cut; simp
    split at h
    · rename_i h34
      rw [if_pos h34]
      show ((out ++ a.s.take a.plain.1).flatMap quoteB).length + 6 * a.cut.s.length + 6 ≤ _
      rw [quoteF_app, List.length_append]
      omega
    · rename_i h34
      rw [if_neg h34]
      have h5 : (a.cut.esc).2.e = 0 := by
        by_cases hb : (a.cut.esc).2.e = 0
        · exact hb
        · rw [strLoop_bad _ _ _ hb] at h; exact absurd h hb
      have h6 := esc_sz a.cut h5
      have h7 := (esc_len a.cut).1
      have h8 := strLoop_sz n (out ++ a.s.take a.plain.1 ++ a.cut.esc.1) a.cut.esc.2 h5 (by omega) h
      rw [quoteF_app, quoteF_app, List.length_append, List.length_append] at h8
      omega
theorem st_sz (a : S) (hs : a.s ≠ []) (h : (a.st).2.e = 0) : (quoteL (a.st).1).length + 6 * (a.st).2.s.length ≤ 6 * a.s.length := by
  have he : a.e = 0 := by
    by_cases hb : a.e = 0
    · exact hb
    · rw [st_bad hb] at h; exact absurd h hb
  obtain ⟨s, o, e⟩ := a
  cases s with
  | nil => exact absurd rfl hs
  | cons c l =>
    have h1 := strLoop_sz ((c :: l).length + 1) [] ⟨l, o, e⟩ he (by show l.length < _; simp; omega) h
    have h2 : (quoteL (S.st ⟨c :: l, o, e⟩).1).length = ((S.st ⟨c :: l, o, e⟩).1.flatMap quoteB).length + 2 := by unfold quoteL; simp
    have h3 : (strLoop S.esc ((c :: l).length + 1) [] ⟨l, o, e⟩) = S.st ⟨c :: l, o, e⟩ := rfl
    rw [h3] at h1
    simp only [List.flatMap_nil, List.length_nil, List.length_cons] at h1 ⊢
    omega
theorem st_bd (a : S) : (a.st).1.length ≤ 17 * a.s.length := by
  have := loop_out (a.s.length + 1) [] a.tl
  have h2 : a.tl.s.length ≤ a.s.length := by unfold S.tl; simp
  simp only [List.length_nil] at this
  show (strLoop S.esc (a.s.length + 1) [] a.tl).1.length ≤ _
  omega
theorem itoa_4 (e : Int) (h : -999 ≤ e ∧ e ≤ 999) : (Lib.itoa e).length ≤ 4 := by
  have : ∀ i : Fin 1999, (Lib.itoa ((i.val : Int) - 999)).length ≤ 4 := by decide +kernel
  have h2 := this ⟨(e + 999).toNat, by omega⟩
  rwa [show (((⟨(e + 999).toNat, by omega⟩ : Fin 1999).val : Int) - 999) = e by show ((e + 999).toNat : Int) - 999 = e; omega] at h2
theorem num_one (c : UInt8) : (NumP.parse [c]).2 = 0 → (NumP.text (NumP.parse [c]).1).length ≤ 6 := by
  have : ∀ k : Fin 256, (NumP.parse [UInt8.ofNat k.val]).2 = 0 → (NumP.text (NumP.parse [UInt8.ofNat k.val]).1).length ≤ 6 := by decide +kernel
  have h := this ⟨c.toNat, c.toNat_lt⟩
  rwa [show UInt8.ofNat (⟨c.toNat, c.toNat_lt⟩ : Fin 256).val = c from UInt8.ofNat_toNat] at h
theorem parse_0 {l : List UInt8} (h : (NumP.parse l).2 = 0) : NumP.ok l = true ∧ NumP.right (NumP.num l) = true ∧ (NumP.parse l).1 = NumP.num l := by
  unfold NumP.parse at h ⊢
  split at h
  · rename_i h1
    split at h
    · rename_i h2
      exact ⟨h1, h2, by rw [if_pos h1, if_pos h2]⟩
    · exact absurd h (by decide)
  · exact absurd h (by decide)
theorem rstrip_le' (D : List UInt8) : (NumP.rstrip D).length ≤ D.length := by
  unfold NumP.rstrip
  rw [List.length_reverse]
  have := (List.dropWhile_sublist (l := D.reverse) NumP.isZ).length_le
  rwa [List.length_reverse] at this
theorem strips (D : List UInt8) : (NumP.rstrip (NumP.lstrip D)).length ≤ D.length := by
  have h1 := rstrip_le' (NumP.lstrip D)
  have h2 : (NumP.lstrip D).length ≤ D.length := (List.dropWhile_sublist _).length_le
  omega
theorem tw_len (p : UInt8 → Bool) (l : List UInt8) : (l.takeWhile p).length + (l.dropWhile p).length = l.length := by
  rw [← List.length_append, List.takeWhile_append_dropWhile]
theorem num_tx (l : List UInt8) (h : (NumP.parse l).2 = 0) : (NumP.text (NumP.parse l).1).length ≤ 6 * l.length ∧ 1 ≤ l.length := by
  obtain ⟨h1, h2, h3⟩ := parse_0 h
  have hne : 1 ≤ l.length := by
    cases l with
    | nil => exact absurd h1 (by decide)
    | cons c l => simp
  refine ⟨?_, hne⟩
  by_cases h4 : l.length = 1
  · obtain ⟨c, rfl⟩ := List.length_eq_one_iff.1 h4
    exact num_one c h
  · rw [h3]
    obtain ⟨d, D, e, hn⟩ : ∃ d D e, NumP.num l = (d, D, e) := ⟨_, _, _, rfl⟩
    rw [hn] at h2
    have hb := right_bd' h2
    have hD : D.length ≤ l.length := by
      have : D = (NumP.num l).2.1 := by rw [hn]
      rw [this]
      unfold NumP.num NumP.form
      split
      · simp [NumP.zero]
      · have k1 := strips (NumP.whole l ++ NumP.dotP (NumP.rest1 l))
        have k2 : (NumP.whole l).length + (NumP.rest1 l).length = (NumP.dropSign l).length := tw_len _ _
        have k3 : (NumP.dropSign l).length ≤ l.length := by unfold NumP.dropSign; split <;> simp
        have k4 : (NumP.dotP (NumP.rest1 l)).length ≤ (NumP.rest1 l).length := by
          unfold NumP.dotP
          split
          · exact Nat.le_trans ((List.takeWhile_sublist _).length_le) (by simp)
          · simp
        rw [List.length_append] at k1
        simp only []
        omega
    rw [hn]
    have hi := itoa_4 e hb.2
    have hs : (NumP.sgn d).length ≤ 1 := by cases d <;> decide
    unfold NumP.text
    simp only []
    (repeat' split) <;> simp <;> omega
theorem num_txF (l : List UInt8) (h : (NumP.parse l).2 = 0) (m : List UInt8 × Int) (n : Nat) (hm : m = ((NumP.parse l).1.2.1, (NumP.parse l).1.2.2)) :
    Pr.num_Text.f (NumP.parse l).1.1 (ofL m.1) m.2 = some (ofL (NumP.text (NumP.parse l).1)) := by
  obtain ⟨h1, h2, h3⟩ := parse_0 h
  obtain ⟨d, D, e, hn⟩ : ∃ d D e, NumP.num l = (d, D, e) := ⟨_, _, _, rfl⟩
  rw [hn] at h2 h3
  have hb := right_bd' h2
  subst hm
  rw [h3]
  exact text_f' d D e (by omega) (by omega)
def jl (l : List (List UInt8)) : Nat := (l.map fun x => x.length + 1).sum
theorem jl_app (a b : List (List UInt8)) : jl (a ++ b) = jl a + jl b := by unfold jl; simp
theorem jl_one (x : List UInt8) : jl [x] = x.length + 1 := by unfold jl; simp
theorem jl_cons (x : List UInt8) (l : List (List UInt8)) : jl (x :: l) = x.length + 1 + jl l := by unfold jl; simp
theorem jl_lens : ∀ l : List (List UInt8), Lib.lens l + l.length = jl l
  | [] => rfl
  | x :: l => by
    have := jl_lens l
    rw [jl_cons, ← this]
    unfold Lib.lens
    simp
    omega
theorem join_le (l : List (List UInt8)) : (Lib.join l [44]).length ≤ jl l := by
  cases l with
  | nil => exact Nat.zero_le _
  | cons x r =>
    rw [Lib.join_length, ← jl_lens]
    simp
    omega
theorem len_jl (l : List (List UInt8)) : l.length ≤ jl l := by rw [← jl_lens]; omega
theorem wrap_ok {l : List (List UInt8)} (a b : UInt8) (h : jl l ≤ 1000000) : wrapF a b l = some (a :: Lib.join l [44] ++ [b]) ∧ (a :: Lib.join l [44] ++ [b]).length ≤ jl l + 2 := by
  have h1 := join_le l
  have h2 := len_jl l
  refine ⟨?_, by simp; omega⟩
  unfold wrapF
  rw [if_pos ⟨by omega, by omega⟩]
theorem items_app {f : S28 → Option (List UInt8)} : ∀ {xs l ys m}, itemsF f xs = some l → itemsF f ys = some m → itemsF f (xs ++ ys) = some (l ++ m)
  | [], l, ys, m, h, k => by simp [itemsF] at h; subst h; exact k
  | x :: t, l, ys, m, h, k => by
    simp only [itemsF, Option.bind_eq_some_iff] at h
    obtain ⟨a, ha, r, hr, h⟩ := h
    obtain rfl : a :: r = l := by simpa using h
    simp [itemsF, ha, items_app hr k]
theorem items_one {f : S28 → Option (List UInt8)} {x : S28} {r : List UInt8} (h : f x = some r) : itemsF f [x] = some [r] := by simp [itemsF, h]
theorem pairs_put {f : S28 → Option (List UInt8)} {x : S28} {r : List UInt8} {k : ByteArray} (hx : f x = some r) (hk : k.data.toList.length ≤ 1000000) (hr : r.length ≤ 1000000000) :
    ∀ (i : Nat) {xs ns l}, xs.length = ns.length → i ≤ xs.length → pairsF f xs ns = some l → pairsF f (put xs i x) (put ns i k) = some (put l i (quoteL k.data.toList ++ [58] ++ r))
  | 0, xs, ns, l, _, _, h => by
    simp only [put, List.take_zero, List.nil_append, List.drop_zero, List.cons_append, pairsF]
    rw [if_pos hk, hx]
    simp only [Option.bind_some]
    rw [if_pos hr, h]
    rfl
  | i + 1, [], ns, l, _, h, _ => absurd h (by simp)
  | i + 1, x' :: xs, [], l, h, _, _ => absurd h (by simp)
  | i + 1, x' :: xs, k' :: ns, l, hl, hi, h => by
    simp only [pairsF] at h
    split at h
    case isFalse => simp at h
    next hk' =>
    rw [Option.bind_eq_some_iff] at h
    obtain ⟨a, ha, h⟩ := h
    split at h
    case isFalse => simp at h
    next hl' =>
    rw [Option.bind_eq_some_iff] at h
    obtain ⟨q, hq, h⟩ := h
    obtain rfl : (quoteL k'.data.toList ++ [58] ++ a) :: q = l := Option.some.inj h
    have ih := pairs_put hx hk hr i (by simpa using hl) (by simpa using hi) hq
    simp only [put, List.take_succ_cons, List.drop_succ_cons, List.cons_append, pairsF] at ih ⊢
    rw [if_pos hk', ha]
    simp only [Option.bind_some]
    rw [if_pos hl', ih]
    rfl
theorem jl_put (l : List (List UInt8)) (i : Nat) (x : List UInt8) : jl (put l i x) = jl l + x.length + 1 := by
  unfold put
  rw [jl_app, jl_app, jl_one]
  have : jl (l.take i) + jl (l.drop i) = jl l := by rw [← jl_app, List.take_append_drop]
  omega
theorem txF_4 (n : Nat) (l : List S28) : txF (n + 1) ⟨4, false, z24, ⟨#[]⟩, l, []⟩ = (itemsF (txF n) l).bind (wrapF 91 93) := rfl
theorem txF_5 (n : Nat) (l : List S28) (m : List ByteArray) : txF (n + 1) ⟨5, false, z24, ⟨#[]⟩, l, m⟩ = (pairsF (txF n) l m).bind (wrapF 123 125) := rfl
theorem txF_3 (n : Nat) (l : List UInt8) (h : l.length ≤ 1000000) : txF (n + 1) ⟨3, false, z24, ofL l, [], []⟩ = some (quoteL l) := (show txF (n + 1) ⟨3, false, z24, ofL l, [], []⟩ = if l.length ≤ 1000000 then some (quoteL l) else none from rfl).trans (if_pos h)
theorem txF_2 (n : Nat) (a : S24) : txF (n + 1) ⟨2, false, a, ⟨#[]⟩, [], []⟩ = (Pr.num_Text.f a.f0 a.f1 a.f2).bind fun b => some b.data.toList := rfl
def Sized (n : Nat) (f : S → S28 × S) : Prop := ∀ a, a.s.length ≤ 50000 → (f a).2.e = 0 → ∃ r, txF n (f a).1 = some r ∧ r.length + 6 * (f a).2.s.length ≤ 6 * a.s.length
theorem skip_le (a : S) : a.skip.s.length ≤ a.s.length := skip_len a
theorem need_w {a : S} {p : List UInt8} (h : (a.need p).e = 0) : (a.need p).s.length + p.length ≤ a.s.length := by
  unfold S.need at h ⊢
  by_cases ht : a.took p = true
  · rw [if_pos ht, take_yes ht]
    have hp : Lib.hasPrefix a.skip.s p = true := by unfold S.took at ht; simp at ht; exact ht.1
    unfold Lib.trimPrefix
    rw [if_pos hp]
    unfold Lib.hasPrefix at hp
    rw [List.isPrefixOf_iff_prefix] at hp
    have := hp.length_le
    have := skip_le a
    simp only [List.length_drop]
    omega
  · rw [if_neg ht] at h
    exact absurd h (fail_ne _ 11 (by decide))
theorem arr_sized {n : Nat} (h : Sized n (gv n)) (c : UInt8) (l : List UInt8) (o : Int) (hl : (c :: l).length ≤ 50000) (h0 : (S.arr (gv n) ⟨c :: l, o, 0⟩).2.e = 0) :
    ∃ r, txF (n + 1) (S.arr (gv n) ⟨c :: l, o, 0⟩).1 = some r ∧ r.length + 6 * (S.arr (gv n) ⟨c :: l, o, 0⟩).2.s.length ≤ 6 * (c :: l).length := by
  have hen : S.enter ⟨c :: l, o, 0⟩ = ⟨l, o + 1, 0⟩ ∨ (S.enter ⟨c :: l, o, 0⟩).e = 35 := by
    unfold S.enter S.enter0
    split
    · right; rfl
    · left; rfl
  have h1 : (listG (arrT (gv n)) [93] [] (S.enter ⟨c :: l, o, 0⟩)).2.e = 0 := h0
  rcases hen with hen | hen
  · rw [hen] at h1
    have := listG_inv (st := arrT (gv n)) (Inv := fun xs k => ∃ t, itemsF (txF n) xs = some t ∧ jl t + 6 * k ≤ 6 * l.length + 6 ∧ k ≤ l.length + 1) (fun x a h => arrT_e h n x) (fun x k j ⟨t, h1, h2, h3⟩ hj => ⟨t, h1, by omega, by omega⟩)
      (fun x a ha ⟨t, h1, h2, h3⟩ hv => by
        have hv' : (gv n a).2.e = 0 := hv
        obtain ⟨r, k1, k2⟩ := h a (by simp at hl; omega) hv'
        refine ⟨t ++ [r], items_app h1 (items_one k1), ?_, ?_⟩
        · rw [jl_app, jl_one]
          show jl t + (r.length + 1) + 6 * (gv n a).2.s.length ≤ _
          omega
        · have := (keeps_gv n a).len
          show (gv n a).2.s.length ≤ _
          omega) 93 [] ⟨l, o + 1, 0⟩ ⟨[], rfl, by simp [jl]; omega, Nat.le_refl _⟩ h1
    obtain ⟨t, k1, k2, k3⟩ := this
    have hw := wrap_ok (l := t) 91 93 (by simp at hl; omega)
    unfold S.arr
    rw [listF_G, hen]
    refine ⟨91 :: Lib.join t [44] ++ [93], ?_, ?_⟩
    · simp only []
      rw [txF_4, k1]
      exact hw.1
    · simp only [List.length_cons]
      have := hw.2
      omega
  · exact absurd h1 (by rw [listG_e (fun x a h => arrT_e h n x) _ _ (by rw [hen]; decide), hen]; decide)
theorem pos_len (ns : List ByteArray) (x : ByteArray) : pos ns x ≤ ns.length := pos_le ns x
theorem obj_sized {n : Nat} (h : Sized n (gv n)) (c : UInt8) (l : List UInt8) (o : Int) (hl : (c :: l).length ≤ 50000) (h0 : (S.obj (gv n) ⟨c :: l, o, 0⟩).2.e = 0) :
    ∃ r, txF (n + 1) (S.obj (gv n) ⟨c :: l, o, 0⟩).1 = some r ∧ r.length + 6 * (S.obj (gv n) ⟨c :: l, o, 0⟩).2.s.length ≤ 6 * (c :: l).length := by
  have hen : S.enter ⟨c :: l, o, 0⟩ = ⟨l, o + 1, 0⟩ ∨ (S.enter ⟨c :: l, o, 0⟩).e = 35 := by
    unfold S.enter S.enter0
    split
    · right; rfl
    · left; rfl
  have h1 : (listG (objT (gv n)) [125] ([], []) (S.enter ⟨c :: l, o, 0⟩)).2.e = 0 := h0
  rcases hen with hen | hen
  · rw [hen] at h1
    have := listG_inv (st := objT (gv n)) (Inv := fun p k => ∃ t, pairsF (txF n) p.1 p.2 = some t ∧ p.1.length = p.2.length ∧ jl t + 6 * k ≤ 6 * l.length + 6 ∧ k ≤ l.length + 1) (fun x a h => objT_e h n x) (fun x k j ⟨t, h1, h2, h3, h4⟩ hj => ⟨t, h1, h2, by omega, by omega⟩)
      (fun x a ha ⟨t, h1, h2, h3, h4⟩ hv => by
        unfold objT at hv ⊢
        by_cases hp : Lib.hasPrefix a.skip.s [34] = false
        · rw [if_pos hp] at hv
          exact absurd hv (fail_ne _ 11 (by decide))
        rw [if_neg hp] at hv ⊢
        have hv' : (gv n (objA x.2 a)).2.e = 0 := hv
        have he := e0_of (f := fun a => (gv n a).2) (fun a ha => by rw [gv_bad ha]; rfl) hv'
        have hk : a.skip.s ≠ [] := fun e => hp (by rw [e]; rfl)
        have hst : (a.skip.st).2.e = 0 := by
          refine e0_of (f := fun b => S.need (S.twice b (has x.2 (objN a))) [58]) (fun b hb => ?_) (a := a.skip.st.2) he
          have := twice_e hb (has x.2 (objN a))
          rw [need_e (by rw [this]; exact hb), this]
        have hs1 := st_sz a.skip hk hst
        have hs2 := skip_le a
        have hs3 : (objA x.2 a).s.length + 1 ≤ (a.skip.st).2.s.length := by
          have h7 := need_w (a := S.twice a.skip.st.2 (has x.2 (objN a))) (p := [58]) he
          have h8 : (S.twice a.skip.st.2 (has x.2 (objN a))).s = a.skip.st.2.s := by
            unfold S.twice
            split
            · exact fail_s _ _
            · rfl
          rw [h8] at h7
          exact h7
        have hb1 := st_bd a.skip
        obtain ⟨r, k1, k2⟩ := h (objA x.2 a) (by simp at hl; omega) hv'
        have hN : (objN a).data.toList = (a.skip.st).1 := ofL_data _
        have hp2 := pairs_put (k := objN a) k1 (by rw [hN]; simp at hl; omega) (by simp at hl; omega) (pos x.2 (objN a)) h2 (by rw [h2]; exact pos_len _ _) h1
        refine ⟨_, hp2, ?_, ?_, ?_⟩
        · have := pos_len x.2 (objN a)
          simp only [put, List.length_append, List.length_take, List.length_drop, List.length_cons, List.length_nil]
          omega
        · rw [jl_put, hN]
          simp only [List.length_append, List.length_cons, List.length_nil]
          omega
        · have := (keeps_gv n (objA x.2 a)).len
          simp only []
          omega) 125 ([], []) ⟨l, o + 1, 0⟩ ⟨[], rfl, rfl, by simp [jl]; omega, Nat.le_refl _⟩ h1
    obtain ⟨t, k1, k4, k2, k3⟩ := this
    have hw := wrap_ok (l := t) 123 125 (by simp at hl; omega)
    unfold S.obj
    rw [listF_G, hen]
    refine ⟨123 :: Lib.join t [44] ++ [125], ?_, ?_⟩
    · simp only []
      rw [txF_5, k1]
      exact hw.1
    · simp only [List.length_cons]
      have := hw.2
      omega
  · exact absurd h1 (by rw [listG_e (fun x a h => objT_e h n x) _ _ (by rw [hen]; decide), hen]; decide)
theorem gv_sized : ∀ n, Sized n (gv n)
  | 0 => fun a hl h => by
    exfalso
    unfold gv at h
    split at h
    · exact fail_ne _ 11 (by decide) h
    · rename_i h1; exact h1 h
  | n + 1 => fun a hl h => by
    have he : a.e = 0 := e0_of (f := fun a => (gv (n + 1) a).2) (fun a ha => by rw [gv_bad ha]; rfl) h
    have hs := skip_le a
    have hv : gv (n + 1) a = S.value1 textV (S.arr (gv n)) (S.obj (gv n)) a.skip := rfl
    rw [hv] at h ⊢
    have hse : a.skip.e = 0 := he
    generalize a.skip = b at h hs hse ⊢
    obtain ⟨s, o, e⟩ := b
    simp only [] at hs hse
    subst hse
    suffices ∃ r, txF (n + 1) (S.value1 textV (S.arr (gv n)) (S.obj (gv n)) ⟨s, o, 0⟩).1 = some r ∧ r.length + 6 * (S.value1 textV (S.arr (gv n)) (S.obj (gv n)) ⟨s, o, 0⟩).2.s.length ≤ 6 * s.length by
      obtain ⟨r, h1, h2⟩ := this
      exact ⟨r, h1, by omega⟩
    unfold S.value1 at h ⊢
    rw [if_neg (show ¬ (S.mk s o 0).e ≠ 0 from fun h => h rfl)] at h ⊢
    cases s with
    | nil => exact absurd h (fail_ne ⟨[], o, 0⟩ 11 (by decide))
    | cons c l =>
      simp only [] at h ⊢
      have nd : ∀ p r x, p.length = 4 ∨ p.length = 5 → r.length ≤ 5 → txF (n + 1) x = some r → (S.need ⟨c :: l, o, 0⟩ p).e = 0 → ∃ r, txF (n + 1) x = some r ∧ r.length + 6 * (S.need ⟨c :: l, o, 0⟩ p).s.length ≤ 6 * (c :: l).length := fun p r x hp hr hx hn => by
        have h1 := need_w hn
        refine ⟨r, hx, ?_⟩
        simp only [] at h1
        omega
      split at h
      · rename_i hc; rw [if_pos hc]; exact nd _ [110, 117, 108, 108] _ (.inl rfl) (by decide) rfl h
      rename_i hc; rw [if_neg hc]
      split at h
      · rename_i hc; rw [if_pos hc]; exact nd _ [116, 114, 117, 101] _ (.inl rfl) (by decide) rfl h
      rename_i hc; rw [if_neg hc]
      split at h
      · rename_i hc; rw [if_pos hc]; exact nd _ [102, 97, 108, 115, 101] _ (.inr rfl) (by decide) rfl h
      rename_i hc; rw [if_neg hc]
      split at h
      · rename_i hc; rw [if_pos hc]
        have h1 := st_sz ⟨c :: l, o, 0⟩ (by simp) h
        have h2 := st_bd ⟨c :: l, o, 0⟩
        refine ⟨quoteL (S.st ⟨c :: l, o, 0⟩).1, ?_, h1⟩
        exact txF_3 n _ (by simp only [] at h2; omega)
      rename_i hc; rw [if_neg hc]
      split at h
      · rename_i hc; rw [if_pos hc]
        exact arr_sized (gv_sized n) c l o (by omega) h
      rename_i hc; rw [if_neg hc]
      split at h
      · rename_i hc; rw [if_pos hc]
        exact obj_sized (gv_sized n) c l o (by omega) h
      rename_i hc; rw [if_neg hc]
      split at h
      · rename_i hc; rw [if_pos hc]
        have hn : (NumP.parse (S.numL ⟨c :: l, o, 0⟩)).2 = 0 := by
          unfold S.numS at h
          simp only [] at h
          split at h
          · assumption
          · rename_i h9
            rw [fail_e0 rfl] at h
            exact absurd h h9
        have ht := num_tx _ hn
        have hL : (S.numL ⟨c :: l, o, 0⟩).length + (S.numS ⟨c :: l, o, 0⟩).s.length = (c :: l).length := by
          have hle := numR_le ⟨c :: l, o, 0⟩
          show (List.take _ _).length + (S.numR ⟨c :: l, o, 0⟩).length = _
          rw [List.length_take]
          simp only [] at hle ⊢
          omega
        refine ⟨NumP.text (NumP.parse (S.numL ⟨c :: l, o, 0⟩)).1, ?_, by simp only []; omega⟩
        refine (txF_2 n _).trans ?_
        have := num_txF _ hn _ 0 rfl
        simp only [] at this
        rw [this]
        rfl
      · exact absurd h (fail_ne ⟨c :: l, o, 0⟩ 11 (by decide))
theorem pv_text (s : List UInt8) : ∃ r, txF 17 (pv s).1 = some r ∧ ((pv s).2 = 0 → r.length ≤ 6 * s.length) := by
  generalize hp : pv s = q
  obtain ⟨x, e⟩ := q
  simp only []
  by_cases he : e = 0
  · subst he
    obtain ⟨hl, r, hg, hr⟩ := pv_ok hp
    obtain ⟨t, h1, h2⟩ := gv_sized 17 ⟨s, 0, 0⟩ (by show s.length ≤ _; omega) (by rw [hg])
    rw [hg] at h1 h2
    exact ⟨t, h1, fun _ => by simp only [] at h2; omega⟩
  · refine ⟨[110, 117, 108, 108], ?_, fun h => absurd h he⟩
    have hx : x = z28 := by
      by_cases hl : s.length ≤ 4096
      · rw [pv_gv s hl] at hp
        split at hp
        · exact absurd (congrArg Prod.snd hp).symm he
        · exact (congrArg Prod.fst hp).symm
      · unfold pv parseV at hp
        rw [if_pos (by omega)] at hp
        exact (congrArg Prod.fst hp).symm
    rw [hx]
    rfl
end Js
end Go.Proofs.YtapcpndplnkfjaaGreatDoor
namespace Go.Proofs.YtapcpndplnkfjaaGreatDoor
open Go.RowKit Go.Proofs.YtapcpndplnkfjaaGreatDoorW.PrintWords Go.Proofs.YtapcpndplnkfjaaGreatDoorW.PrintLast Go.Proofs.YtapcpndplnkfjaaGreatDoorW.PrintMore
set_option linter.unusedVariables false
set_option linter.unusedSimpArgs false
namespace Js
theorem lex3 (c1 c2 c3 f1 f2 f3 : Int) (t : c1 ≤ 0 → c2 ≤ 0 → c3 ≤ 0) (t' : c2 ≤ 0 → 0 ≤ c3 → 0 ≤ c1) (t'' : 0 ≤ c3 → c1 ≤ 0 → 0 ≤ c2) (tf : f1 ≤ 0 → f2 ≤ 0 → f3 ≤ 0)
    (h1 : (if c1 = 0 then f1 else c1) ≤ 0) (h2 : (if c2 = 0 then f2 else c2) ≤ 0) : (if c3 = 0 then f3 else c3) ≤ 0 := by
  split at h1 <;> split at h2 <;> split <;> omega
theorem lexA (c c' f f' : Int) (h : c = -c') (k : f = -f') : (if c = 0 then f else c) = -(if c' = 0 then f' else c') := by split <;> split <;> omega
def cmpG {α : Type} (g : α → α → Int) : List α → List α → Int
  | [], [] => 0
  | [], _ :: _ => -1
  | _ :: _, [] => 1
  | x :: xs, y :: ys => if g x y = 0 then cmpG g xs ys else g x y
structure Ord {α : Type} (P : α → Prop) (g : α → α → Int) : Prop where
  anti : ∀ a b, g a b = - g b a
  tr : ∀ a b c, P a → P b → P c → g a b ≤ 0 → g b c ≤ 0 → g a c ≤ 0
theorem Ord.three {α : Type} {P : α → Prop} {g : α → α → Int} (h : Ord P g) {a b c : α} (ha : P a) (hb : P b) (hc : P c) :
    (g a b ≤ 0 → g b c ≤ 0 → g a c ≤ 0) ∧ (g b c ≤ 0 → 0 ≤ g a c → 0 ≤ g a b) ∧ (0 ≤ g a c → g a b ≤ 0 → 0 ≤ g b c) := by
  have a1 := h.anti a b
  have a2 := h.anti b c
  have a3 := h.anti a c
  refine ⟨h.tr a b c ha hb hc, fun k1 k2 => ?_, fun k1 k2 => ?_⟩
  · have := h.tr b c a hb hc ha k1 (by omega); omega
  · have := h.tr c a b hc ha hb (by omega) k2; omega
theorem cmpG_anti {α : Type} {g : α → α → Int} (h : ∀ a b, g a b = - g b a) : ∀ l m : List α, cmpG g l m = - cmpG g m l
  | [], [] => rfl
  | [], _ :: _ => rfl
  | _ :: _, [] => rfl
  | x :: xs, y :: ys => lexA _ _ _ _ (h x y) (cmpG_anti h xs ys)
theorem cmpG_tr {α : Type} {P : α → Prop} {g : α → α → Int} (h : Ord P g) : ∀ l m k : List α, (∀ a ∈ l, P a) → (∀ a ∈ m, P a) → (∀ a ∈ k, P a) → cmpG g l m ≤ 0 → cmpG g m k ≤ 0 → cmpG g l k ≤ 0
  | [], _, [], _, _, _, _, _ => by simp [cmpG]
  | [], _, _ :: _, _, _, _, _, _ => by simp [cmpG]
  | _ :: _, [], _, _, _, _, h, _ => by simp [cmpG] at h
  | _ :: _, _ :: _, [], _, _, _, _, h => by simp [cmpG] at h
  | x :: xs, y :: ys, z :: zs, hl, hm, hk, h1, h2 => by
    have t := h.three (hl x (by simp)) (hm y (by simp)) (hk z (by simp))
    exact lex3 _ _ _ _ _ _ t.1 t.2.1 t.2.2 (cmpG_tr h xs ys zs (fun a ha => hl a (by simp [ha])) (fun a ha => hm a (by simp [ha])) (fun a ha => hk a (by simp [ha]))) h1 h2
theorem cmpL_G (f : S28 → S28 → Int) : ∀ l m, cmpL f l m = cmpG f l m
  | [], [] => rfl
  | [], _ :: _ => rfl
  | _ :: _, [] => rfl
  | x :: xs, y :: ys => by unfold cmpL cmpG; rw [cmpL_G f xs ys]
def gM (f : S28 → S28 → Int) (p q : S28 × ByteArray) : Int := cmpM f p.1 q.1 p.2 q.2
theorem cmpO_G (f : S28 → S28 → Int) : ∀ (xs : List S28) (ns : List ByteArray) (ys : List S28) (ms : List ByteArray), xs.length = ns.length → ys.length = ms.length → cmpO f xs ns ys ms = cmpG (gM f) (xs.zip ns) (ys.zip ms)
  | [], [], [], [], _, _ => rfl
  | [], [], _ :: ys, _ :: ms, _, _ => by
    show Lib.compareInt ((0 : Nat) : Int) ((ms.length + 1 : Nat) : Int) = -1
    unfold Lib.compareInt; rw [if_pos (by omega)]
  | _ :: xs, _ :: ns, [], [], _, _ => by
    show Lib.compareInt ((ns.length + 1 : Nat) : Int) ((0 : Nat) : Int) = 1
    unfold Lib.compareInt; rw [if_neg (by omega), if_pos (by omega)]
  | x :: xs, a :: ns, y :: ys, b :: ms, h, k => by
    show (if cmpM f x y a b = 0 then cmpO f xs ns ys ms else cmpM f x y a b) = (if cmpM f x y a b = 0 then cmpG (gM f) (xs.zip ns) (ys.zip ms) else cmpM f x y a b)
    rw [cmpO_G f xs ns ys ms (by simpa using h) (by simpa using k)]
  | [], _ :: _, _, _, h, _ => absurd h (by simp)
  | _ :: _, [], _, _, h, _ => absurd h (by simp)
  | _, _, [], _ :: _, _, h => absurd h (by simp)
  | _, _, _ :: _, [], _, h => absurd h (by simp)
theorem gM_ord {P : S28 → Prop} {f : S28 → S28 → Int} (h : Ord P f) : Ord (fun p : S28 × ByteArray => P p.1) (gM f) where
  anti := fun a b => lexA _ _ _ _ (cmpB_anti a.2.data.toList b.2.data.toList) (h.anti a.1 b.1)
  tr := fun a b c ha hb hc h1 h2 => by
    have s : Ord (fun _ : ByteArray => True) cmpS := ⟨fun x y => cmpB_anti _ _, fun x y z _ _ _ => cmpB_trans _ _ _⟩
    have t := s.three (a := a.2) (b := b.2) (c := c.2) trivial trivial trivial
    exact lex3 _ _ _ _ _ _ t.1 t.2.1 t.2.2 (h.tr _ _ _ ha hb hc) h1 h2
theorem cI_anti (a b : Int) : Lib.compareInt a b = - Lib.compareInt b a := by unfold Lib.compareInt; (repeat' split) <;> omega
theorem cI_le (a b : Int) : Lib.compareInt a b ≤ 0 ↔ a ≤ b := by unfold Lib.compareInt; (repeat' split) <;> omega
theorem cmpO_anti {f : S28 → S28 → Int} (h : ∀ a b, f a b = - f b a) : ∀ (xs : List S28) (ns : List ByteArray) (ys : List S28) (ms : List ByteArray), cmpO f xs ns ys ms = - cmpO f ys ms xs ns
  | [], _, [], _ => cI_anti _ _
  | [], _, _ :: _, [] => cI_anti _ _
  | [], _, _ :: _, _ :: _ => cI_anti _ _
  | _ :: _, [], [], _ => cI_anti _ _
  | _ :: _, [], _ :: _, [] => cI_anti _ _
  | _ :: _, [], _ :: _, _ :: _ => cI_anti _ _
  | _ :: _, _ :: _, [], _ => cI_anti _ _
  | _ :: _, _ :: _, _ :: _, [] => cI_anti _ _
  | x :: xs, a :: ns, y :: ys, b :: ms => by
    show (if cmpM f x y a b = 0 then cmpO f xs ns ys ms else cmpM f x y a b) = -(if cmpM f y x b a = 0 then cmpO f ys ms xs ns else cmpM f y x b a)
    refine lexA _ _ _ _ (lexA _ _ _ _ (cmpB_anti _ _) (h x y)) (cmpO_anti h xs ns ys ms)
theorem flat_anti (x y : S28) : cmpFlat x y = - cmpFlat y x := by
  unfold cmpFlat
  by_cases h : x.f0 = y.f0
  · rw [if_pos h, if_pos h.symm, h]
    split
    · omega
    split
    · exact cmpP_anti _ _
    split
    · exact cmpB_anti _ _
    · rfl
  · rw [if_neg h, if_neg (Ne.symm h)]; exact cI_anti _ _
theorem cmpF_anti : ∀ (n : Nat) (x y : S28), cmpF n x y = - cmpF n y x
  | 0, _, _ => rfl
  | n + 1, x, y => by
    unfold cmpF
    by_cases h : x.f0 = y.f0
    · rw [if_pos h, if_pos h.symm, h]
      split
      · rw [cmpL_G, cmpL_G]; exact cmpG_anti (cmpF_anti n) _ _
      split
      · exact cmpO_anti (cmpF_anti n) _ _ _ _
      · exact flat_anti x y
    · rw [if_neg h, if_neg (Ne.symm h)]; exact cI_anti _ _
theorem flat_tr (x y z : S28) (h : x.f0 = y.f0) (k : y.f0 = z.f0) (h1 : cmpFlat x y ≤ 0) (h2 : cmpFlat y z ≤ 0) : cmpFlat x z ≤ 0 := by
  unfold cmpFlat at *
  rw [if_pos h] at h1
  rw [if_pos k] at h2
  rw [if_pos (h.trans k)]
  rw [← h] at h2
  split at h1
  · rename_i e; rw [if_pos e] at h2 ⊢; omega
  · rename_i e
    rw [if_neg e] at h2 ⊢
    split at h1
    · rename_i e2; rw [if_pos e2] at h2 ⊢; exact cmpP_trans _ _ _ h1 h2
    · rename_i e2
      rw [if_neg e2] at h2 ⊢
      split at h1
      · rename_i e3; rw [if_pos e3] at h2 ⊢; exact cmpB_trans _ _ _ h1 h2
      · rename_i e3; rw [if_neg e3]; omega
theorem mem_getD {α : Type} {P : α → Prop} {z : α} {l : List α} (h : ∀ i, i < l.length → P (l.getD i z)) : ∀ a ∈ l, P a := fun a ha => by
  obtain ⟨i, hi, rfl⟩ := List.mem_iff_getElem.1 ha
  have := h i hi
  rwa [List.getD_eq_getElem?_getD, List.getElem?_eq_getElem hi] at this
theorem cmpF_ord : ∀ n : Nat, Ord (Cv n) (cmpF n)
  | 0 => ⟨fun _ _ => rfl, fun _ _ _ h => h.elim⟩
  | n + 1 => by
    have ih := cmpF_ord n
    refine ⟨cmpF_anti (n + 1), fun x y z hx hy hz h1 h2 => ?_⟩
    unfold cmpF at *
    by_cases h : x.f0 = y.f0
    · by_cases k : y.f0 = z.f0
      · rw [if_pos h] at h1
        rw [if_pos k] at h2
        rw [if_pos (h.trans k)]
        rw [← h] at h2
        by_cases e4 : x.f0 = 4
        · rw [if_pos e4] at h1 h2 ⊢
          rw [cmpL_G] at *
          exact cmpG_tr ih _ _ _ (mem_getD hx.2.2.2) (mem_getD hy.2.2.2) (mem_getD hz.2.2.2) h1 h2
        · rw [if_neg e4] at h1 h2 ⊢
          by_cases e5 : x.f0 = 5
          · rw [if_pos e5] at h1 h2 ⊢
            have lx := hx.2.2.1 e5
            have ly := hy.2.2.1 (h ▸ e5)
            have lz := hz.2.2.1 (k ▸ h ▸ e5)
            rw [cmpO_G _ _ _ _ _ lx ly] at h1
            rw [cmpO_G _ _ _ _ _ ly lz] at h2
            rw [cmpO_G _ _ _ _ _ lx lz]
            exact cmpG_tr (gM_ord ih) _ _ _ (fun p hp => mem_getD hx.2.2.2 _ (List.of_mem_zip hp).1) (fun p hp => mem_getD hy.2.2.2 _ (List.of_mem_zip hp).1) (fun p hp => mem_getD hz.2.2.2 _ (List.of_mem_zip hp).1) h1 h2
          · rw [if_neg e5] at h1 h2 ⊢
            exact flat_tr x y z h k h1 h2
      · rw [if_neg k, cI_le] at h2
        rw [if_neg (by omega), cI_le]; omega
    · rw [if_neg h, cI_le] at h1
      by_cases k : y.f0 = z.f0
      · rw [if_neg (by omega), cI_le]; omega
      · rw [if_neg k, cI_le] at h2
        rw [if_neg (by omega), cI_le]; omega
theorem cmpF_law {n : Nat} {x y z : S28} (hx : Cv n x) (hy : Cv n y) (hz : Cv n z) :
    (cmpF n x y ≤ 0 → cmpF n y z ≤ 0 → cmpF n x z ≤ 0) ∧ (0 ≤ cmpF n x y → 0 ≤ cmpF n y z → 0 ≤ cmpF n x z) := by
  have h := cmpF_ord n
  refine ⟨h.tr x y z hx hy hz, fun h1 h2 => ?_⟩
  have a1 := h.anti x y
  have a2 := h.anti y z
  have a3 := h.anti x z
  have := h.tr z y x hz hy hx (by omega) (by omega)
  omega
theorem cI_bd (a b : Int) : -1 ≤ Lib.compareInt a b ∧ Lib.compareInt a b ≤ 1 := by unfold Lib.compareInt; (repeat' split) <;> omega
theorem cmpL_bd {f : S28 → S28 → Int} (h : ∀ a b, -1 ≤ f a b ∧ f a b ≤ 1) : ∀ l m : List S28, -1 ≤ cmpL f l m ∧ cmpL f l m ≤ 1
  | [], [] => by simp [cmpL]
  | [], _ :: _ => by simp [cmpL]
  | _ :: _, [] => by simp [cmpL]
  | x :: xs, y :: ys => by
    unfold cmpL
    split
    · exact cmpL_bd h xs ys
    · exact h x y
theorem cmpO_bd {f : S28 → S28 → Int} (h : ∀ a b, -1 ≤ f a b ∧ f a b ≤ 1) : ∀ (xs : List S28) (ns : List ByteArray) (ys : List S28) (ms : List ByteArray), -1 ≤ cmpO f xs ns ys ms ∧ cmpO f xs ns ys ms ≤ 1
  | [], _, [], _ => cI_bd _ _
  | [], _, _ :: _, [] => cI_bd _ _
  | [], _, _ :: _, _ :: _ => cI_bd _ _
  | _ :: _, [], [], _ => cI_bd _ _
  | _ :: _, [], _ :: _, [] => cI_bd _ _
  | _ :: _, [], _ :: _, _ :: _ => cI_bd _ _
  | _ :: _, _ :: _, [], _ => cI_bd _ _
  | _ :: _, _ :: _, _ :: _, [] => cI_bd _ _
  | x :: xs, a :: ns, y :: ys, b :: ms => by
    have hm : -1 ≤ cmpM f x y a b ∧ cmpM f x y a b ≤ 1 := by
      unfold cmpM cmpS
      split
      · exact h x y
      · exact compare_bd _ _
    show -1 ≤ (if cmpM f x y a b = 0 then cmpO f xs ns ys ms else cmpM f x y a b) ∧ (if cmpM f x y a b = 0 then cmpO f xs ns ys ms else cmpM f x y a b) ≤ 1
    split
    · exact cmpO_bd h xs ns ys ms
    · exact hm
theorem flat_bd (x y : S28) : -1 ≤ cmpFlat x y ∧ cmpFlat x y ≤ 1 := by
  unfold cmpFlat
  split
  · split
    · cases x.f1 <;> cases y.f1 <;> decide
    split
    · exact cmpP_bd _ _
    split
    · exact compare_bd _ _
    · decide
  · exact cI_bd _ _
theorem cmpF_bd : ∀ (n : Nat) (x y : S28), -1 ≤ cmpF n x y ∧ cmpF n x y ≤ 1
  | 0, _, _ => by simp [cmpF]
  | n + 1, x, y => by
    unfold cmpF
    split
    · split
      · exact cmpL_bd (cmpF_bd n) _ _
      split
      · exact cmpO_bd (cmpF_bd n) _ _ _ _
      · exact flat_bd x y
    · exact cI_bd _ _
theorem Cv_z (n : Nat) : Cv (n + 1) z28 := ⟨by decide, ⟨by decide, by decide, by decide, by decide⟩, fun h => absurd h (by decide), fun i hi => absurd hi (by show ¬ i < 0; omega)⟩
theorem Cv_flat {n : Nat} {x : S28} (h1 : 0 ≤ x.f0 ∧ x.f0 ≤ 4) (h2 : okNum x.f2) (h3 : x.f4 = []) : Cv (n + 1) x := ⟨⟨h1.1, by omega⟩, h2, fun h => by omega, fun i hi => by rw [h3] at hi; exact absurd hi (by simp)⟩
theorem okz : okNum z24 := ⟨by decide, by decide, by decide, by decide⟩
theorem gv_Cv : ∀ (n : Nat) (a : S), (gv n a).2.e = 0 → Cv n (gv n a).1
  | 0, a, h => by
    exfalso
    unfold gv at h
    split at h
    · exact fail_ne _ 11 (by decide) h
    · rename_i h1; exact h1 h
  | n + 1, a, h => by
    have hv : gv (n + 1) a = S.value1 textV (S.arr (gv n)) (S.obj (gv n)) a.skip := rfl
    rw [hv] at h ⊢
    generalize a.skip = b at h ⊢
    unfold S.value1 at h ⊢
    split at h
    · rename_i h0; exact absurd h h0
    rename_i h0; rw [if_neg h0]
    split at h
    · exact absurd h (fail_ne _ 11 (by decide))
    rename_i c l hs
    have hfl : ∀ k q, (0 ≤ k ∧ k ≤ (4 : Int)) → Cv (n + 1) (S28.mk k q z24 ⟨#[]⟩ [] []) := fun k q hk => Cv_flat hk okz rfl
    split at h
    · rename_i hc; rw [if_pos hc]; exact Cv_z n
    rename_i hc; rw [if_neg hc]
    split at h
    · rename_i hc; rw [if_pos hc]; exact hfl _ _ (by decide)
    rename_i hc; rw [if_neg hc]
    split at h
    · rename_i hc; rw [if_pos hc]; exact hfl _ _ (by decide)
    rename_i hc; rw [if_neg hc]
    split at h
    · rename_i hc; rw [if_pos hc]; exact Cv_flat (show (0 : Int) ≤ 3 ∧ (3 : Int) ≤ 4 by decide) okz rfl
    rename_i hc; rw [if_neg hc]
    split at h
    · rename_i hc; rw [if_pos hc]
      have h1 : (listG (arrT (gv n)) [93] [] b.enter).2.e = 0 := h
      have := listG_inv (st := arrT (gv n)) (Inv := fun xs k => ∀ i, i < xs.length → Cv n (xs.getD i z28)) (fun x a h => arrT_e h n x) (fun x k j h1 hj => h1)
        (fun x a ha hi hv i hil => by
          unfold arrT at hil ⊢
          simp only [List.length_append, List.length_cons, List.length_nil] at hil
          by_cases hx : i < x.length
          · have := hi i hx
            rw [List.getD_eq_getElem?_getD] at this ⊢
            rwa [List.getElem?_append_left hx]
          · have : i = x.length := by omega
            subst this
            rw [List.getD_eq_getElem?_getD, List.getElem?_append_right (by omega)]
            simp
            exact gv_Cv n a hv) 93 [] b.enter (fun i hi => absurd hi (by simp)) h1
      exact ⟨⟨by show (0 : Int) ≤ 4; decide, by show (4 : Int) ≤ 5; decide⟩, okz, fun e => absurd (show (4 : Int) = 5 from e) (by decide), this⟩
    rename_i hc; rw [if_neg hc]
    split at h
    · rename_i hc; rw [if_pos hc]
      have h1 : (listG (objT (gv n)) [125] ([], []) b.enter).2.e = 0 := h
      have := listG_inv (st := objT (gv n)) (Inv := fun p k => p.1.length = p.2.length ∧ ∀ a ∈ p.1, Cv n a) (fun x a h => objT_e h n x) (fun x k j h1 hj => h1)
        (fun x a ha ⟨hi1, hi2⟩ hv => by
          unfold objT at hv ⊢
          by_cases hp : Lib.hasPrefix a.skip.s [34] = false
          · rw [if_pos hp] at hv
            exact absurd hv (fail_ne _ 11 (by decide))
          rw [if_neg hp] at hv ⊢
          have hv' : (gv n (objA x.2 a)).2.e = 0 := hv
          have h9 := pos_len x.2 (objN a)
          refine ⟨?_, fun q hq => ?_⟩
          · simp only [put, List.length_append, List.length_take, List.length_drop, List.length_cons, List.length_nil]
            omega
          · simp only [put, List.mem_append, List.mem_singleton] at hq
            rcases hq with (hq | hq) | hq
            · exact hi2 q (List.mem_of_mem_take hq)
            · rw [hq]; exact gv_Cv n _ hv'
            · exact hi2 q (List.mem_of_mem_drop hq)) 125 ([], []) b.enter ⟨rfl, fun a ha => by cases ha⟩ h1
      exact ⟨⟨by show (0 : Int) ≤ 5; decide, by show (5 : Int) ≤ 5; decide⟩, okz, fun _ => this.1, fun i hi => this.2 _ (by rw [List.getD_eq_getElem?_getD, List.getElem?_eq_getElem hi]; exact List.getElem_mem hi)⟩
    rename_i hc; rw [if_neg hc]
    split at h
    · rename_i hc; rw [if_pos hc]
      exact Cv_flat (show (0 : Int) ≤ 2 ∧ (2 : Int) ≤ 4 by decide) (parse_ok _) rfl
    · exact absurd h (fail_ne _ 11 (by decide))
theorem pv_Cv (s : List UInt8) : Cv 17 (pv s).1 := by
  generalize hp : pv s = q
  obtain ⟨x, e⟩ := q
  by_cases he : e = 0
  · subst he
    obtain ⟨hl, r, hg, hr⟩ := pv_ok hp
    have := gv_Cv 17 ⟨s, 0, 0⟩ (by rw [hg])
    rwa [hg] at this
  · have hx : x = z28 := by
      by_cases hl : s.length ≤ 4096
      · rw [pv_gv s hl] at hp
        split at hp
        · exact absurd (congrArg Prod.snd hp).symm he
        · exact (congrArg Prod.fst hp).symm
      · unfold pv parseV at hp
        rw [if_pos (by omega)] at hp
        exact (congrArg Prod.fst hp).symm
    rw [hx]
    exact Cv_z 16
end Js
end Go.Proofs.YtapcpndplnkfjaaGreatDoor
namespace Go.Proofs.YtapcpndplnkfjaaGreatDoor
open Go.RowKit Go.Proofs.YtapcpndplnkfjaaGreatDoorW.PrintWords Go.Proofs.YtapcpndplnkfjaaGreatDoorW.PrintLast Go.Proofs.YtapcpndplnkfjaaGreatDoorW.PrintMore
set_option linter.unusedVariables false
set_option linter.unusedSimpArgs false
namespace Js
set_option maxRecDepth 100000 in
set_option maxHeartbeats 2000000 in
theorem orders_main (s t u : List UInt8) (hs : s.length ≤ 300) (ht : t.length ≤ 300) (hu : u.length ≤ 300) (w : World) (hT : JTabs w) :
    Calls Tryz.prog 14 #[.string (ofL s), .string (ofL t), .string (ofL u)] w fun e w' => e = .returned (.bool true) ∧ Below w.heap.size w w' := by
  have HT := Lib.hid hT
  have hs1 : ((ofL s).size : Int) ≤ 300 := by rw [ofL_size]; omega
  have ht1 : ((ofL t).size : Int) ≤ 300 := by rw [ofL_size]; omega
  have hu1 : ((ofL u).size : Int) ≤ 300 := by rw [ofL_size]; omega
  clear hT
  go_enter Tryz.func14, Tryz.ntmps14
  go_wp2_with fail
  refine (awake15_calls _ HT.out).mono ?_
  rintro E w1 ⟨rfl, hB⟩
  have HB1 := Lib.hid hB
  clear hB
  obtain ⟨X, hX⟩ : ∃ X, X = (pv s).1 := ⟨_, rfl⟩
  obtain ⟨e, he⟩ : ∃ e, e = (pv s).2 := ⟨_, rfl⟩
  obtain ⟨Y, hY⟩ : ∃ Y, Y = (pv t).1 := ⟨_, rfl⟩
  obtain ⟨f, hf⟩ : ∃ f, f = (pv t).2 := ⟨_, rfl⟩
  obtain ⟨Z, hZ⟩ : ∃ Z, Z = (pv u).1 := ⟨_, rfl⟩
  obtain ⟨g, hg⟩ : ∃ g, g = (pv u).2 := ⟨_, rfl⟩
  have HPS : Hid (pv s = (X, e)) := Lib.hid (by rw [hX, he])
  have HPT : Hid (pv t = (Y, f)) := Lib.hid (by rw [hY, hf])
  have HPU : Hid (pv u = (Z, g)) := Lib.hid (by rw [hZ, hg])
  have HCX : Hid (Cv 17 X) := Lib.hid (by rw [hX]; exact pv_Cv s)
  have HCY : Hid (Cv 17 Y) := Lib.hid (by rw [hY]; exact pv_Cv t)
  have HCZ : Hid (Cv 17 Z) := Lib.hid (by rw [hZ]; exact pv_Cv u)
  clear hX he hY hf hZ hg
  go_wp2_with fail
  refine (jparseR s _ (HT.out.below HB1.out).t X e HPS.out).mono ?_
  rintro E w2 ⟨A1, c1, B1, d1, rfl, hJ, hR, hB⟩
  have HJ1 := Lib.hid hJ
  have HR1 := Lib.hid hR
  have HB2 := Lib.hid (HB1.out.trans (hB.mono HB1.out.size))
  clear hJ hR hB HB1
  go_wp2_with fail
  refine (jparseR t _ (HT.out.below (below_alloc HB2.out (.cells #[.int .i64 X.f0, .bool X.f1, .bool X.f2.f0, .string X.f2.f1, .int .i64 X.f2.f2, .string X.f3, .slice A1 X.f4.length c1, .slice B1 X.f5.length d1] 28))).t Y f HPT.out).mono ?_
  rintro E w3 ⟨A2, c2, B2, d2, rfl, hJ, hR, hB⟩
  have HK1 := Lib.hid (kept hB).1
  have HJ1 := Lib.hid (HJ1.out.below ((below_alloc (Below.refl _ _) _).trans (hB.mono (below_alloc (Below.refl _ _) _).size)))
  have HJ2 := Lib.hid hJ
  have HR2 := Lib.hid hR
  have HB3 := Lib.hid ((below_alloc HB2.out (.cells #[.int .i64 X.f0, .bool X.f1, .bool X.f2.f0, .string X.f2.f1, .int .i64 X.f2.f2, .string X.f3, .slice A1 X.f4.length c1, .slice B1 X.f5.length d1] 28)).trans (hB.mono (below_alloc HB2.out (.cells #[.int .i64 X.f0, .bool X.f1, .bool X.f2.f0, .string X.f2.f1, .int .i64 X.f2.f2, .string X.f3, .slice A1 X.f4.length c1, .slice B1 X.f5.length d1] 28)).size))
  clear hJ hR hB HB2
  go_wp2_with fail
  refine (jparseR u _ (HT.out.below (below_alloc HB3.out (.cells #[.int .i64 Y.f0, .bool Y.f1, .bool Y.f2.f0, .string Y.f2.f1, .int .i64 Y.f2.f2, .string Y.f3, .slice A2 Y.f4.length c2, .slice B2 Y.f5.length d2] 28))).t Z g HPU.out).mono ?_
  rintro E w4 ⟨A3, c3, B3, d3, rfl, hJ, hR, hB⟩
  have HK2 := Lib.hid (kept hB).1
  have HK1 := Lib.hid (thru (blk_alloc HK1.out (.cells #[.int .i64 Y.f0, .bool Y.f1, .bool Y.f2.f0, .string Y.f2.f1, .int .i64 Y.f2.f2, .string Y.f3, .slice A2 Y.f4.length c2, .slice B2 Y.f5.length d2] 28)) hB)
  have HJ1 := Lib.hid (HJ1.out.below ((below_alloc (Below.refl _ _) _).trans (hB.mono (below_alloc (Below.refl _ _) _).size)))
  have HJ2 := Lib.hid (HJ2.out.below ((below_alloc (Below.refl _ _) _).trans (hB.mono (below_alloc (Below.refl _ _) _).size)))
  have HJ3 := Lib.hid hJ
  have HR3 := Lib.hid hR
  have HB4 := Lib.hid ((below_alloc HB3.out (.cells #[.int .i64 Y.f0, .bool Y.f1, .bool Y.f2.f0, .string Y.f2.f1, .int .i64 Y.f2.f2, .string Y.f3, .slice A2 Y.f4.length c2, .slice B2 Y.f5.length d2] 28)).trans (hB.mono (below_alloc HB3.out (.cells #[.int .i64 Y.f0, .bool Y.f1, .bool Y.f2.f0, .string Y.f2.f1, .int .i64 Y.f2.f2, .string Y.f3, .slice A2 Y.f4.length c2, .slice B2 Y.f5.length d2] 28)).size))
  clear hJ hR hB HB3
  have hout := below_alloc HB4.out (.cells #[.int .i64 Z.f0, .bool Z.f1, .bool Z.f2.f0, .string Z.f2.f1, .int .i64 Z.f2.f2, .string Z.f3, .slice A3 Z.f4.length c3, .slice B3 Z.f5.length d3] 28)
  have HOUT := Lib.hid hout
  clear hout
  by_cases h1 : e = 0
  case neg =>
    have he0 : (e == 0) = false := by simpa using h1
    clear h1
    go_wp2_with fail
    all_goals (go_ret; exact ⟨rfl, HOUT.out⟩)
  subst h1
  by_cases h1 : f = 0
  case neg =>
    have hf0 : (f == 0) = false := by simpa using h1
    clear h1
    go_wp2_with fail
    all_goals (go_ret; exact ⟨rfl, HOUT.out⟩)
  subst h1
  by_cases h1 : g = 0
  case neg =>
    have hg0 : (g == 0) = false := by simpa using h1
    clear h1
    go_wp2_with fail
    all_goals (go_ret; exact ⟨rfl, HOUT.out⟩)
  subst h1
  clear HOUT
  have hord := orders HPS.out HPT.out HPU.out hs ht hu
  obtain ⟨M, hM⟩ : ∃ M, M = (pv (three 107 97 122 s t u)).1 := ⟨_, rfl⟩
  obtain ⟨v, hv⟩ : ∃ v, v = (pv (three 107 97 122 s t u)).2 := ⟨_, rfl⟩
  have HPM : Hid (pv (three 107 97 122 s t u) = (M, v)) := Lib.hid (by rw [hM, hv])
  have HPN : Hid (pv (three 122 107 97 u s t) = (M, v)) := Lib.hid (by rw [hord]; exact HPM.out)
  obtain ⟨rM, hrM, -⟩ := pv_text (three 107 97 122 s t u)
  rw [HPM.out] at hrM
  have HXM := Lib.hid hrM
  clear hord hM hv hrM
  have hG2 : (ofL s).size ≤ 1000 := by rw [ofL_size]; omega
  have hG3 : (ofL t).size ≤ 1000 := by rw [ofL_size]; omega
  have hG4 : (ofL u).size ≤ 1000 := by rw [ofL_size]; omega
  obtain ⟨P1, hP1⟩ : ∃ P, P = ([123, 34, 107, 34, 58] ++ s) := ⟨_, rfl⟩
  have hS1 : (⟨#[123, 34, 107, 34, 58]⟩ : ByteArray) ++ ofL s = ofL P1 := by rw [hP1]; exact ofL_app _ _
  have hz1 : (ofL P1).size ≤ 4000 := by rw [ofL_size, hP1]; simp; omega
  obtain ⟨P2, hP2⟩ : ∃ P, P = (P1 ++ [44, 34, 97, 34, 58]) := ⟨_, rfl⟩
  have hS2 : ofL P1 ++ (⟨#[44, 34, 97, 34, 58]⟩ : ByteArray) = ofL P2 := by rw [hP2]; exact ofL_app _ _
  have hz2 : (ofL P2).size ≤ 4000 := by rw [ofL_size, hP2, hP1]; simp; omega
  obtain ⟨P3, hP3⟩ : ∃ P, P = (P2 ++ t) := ⟨_, rfl⟩
  have hS3 : ofL P2 ++ ofL t = ofL P3 := by rw [hP3]; exact ofL_app _ _
  have hz3 : (ofL P3).size ≤ 4000 := by rw [ofL_size, hP3, hP2, hP1]; simp; omega
  obtain ⟨P4, hP4⟩ : ∃ P, P = (P3 ++ [44, 34, 122, 34, 58]) := ⟨_, rfl⟩
  have hS4 : ofL P3 ++ (⟨#[44, 34, 122, 34, 58]⟩ : ByteArray) = ofL P4 := by rw [hP4]; exact ofL_app _ _
  have hz4 : (ofL P4).size ≤ 4000 := by rw [ofL_size, hP4, hP3, hP2, hP1]; simp; omega
  obtain ⟨P5, hP5⟩ : ∃ P, P = (P4 ++ u) := ⟨_, rfl⟩
  have hS5 : ofL P4 ++ ofL u = ofL P5 := by rw [hP5]; exact ofL_app _ _
  have hz5 : (ofL P5).size ≤ 4000 := by rw [ofL_size, hP5, hP4, hP3, hP2, hP1]; simp; omega
  obtain ⟨P6, hP6⟩ : ∃ P, P = (P5 ++ [125]) := ⟨_, rfl⟩
  have hS6 : ofL P5 ++ (⟨#[125]⟩ : ByteArray) = ofL P6 := by rw [hP6]; exact ofL_app _ _
  have hz6 : (ofL P6).size ≤ 4000 := by rw [ofL_size, hP6, hP5, hP4, hP3, hP2, hP1]; simp; omega
  have hfa : P6 = three 107 97 122 s t u := by rw [hP6, hP5, hP4, hP3, hP2, hP1]; simp [three, mem]
  have HFA := Lib.hid hfa
  clear hfa hP1 hP2 hP3 hP4 hP5 hP6
  go_wp2_with fail
  refine (jparseR P6 _ (HT.out.below (below_alloc HB4.out (.cells #[.int .i64 Z.f0, .bool Z.f1, .bool Z.f2.f0, .string Z.f2.f1, .int .i64 Z.f2.f2, .string Z.f3, .slice A3 Z.f4.length c3, .slice B3 Z.f5.length d3] 28))).t M v (by rw [HFA.out]; exact HPM.out)).mono ?_
  rintro E w5 ⟨A4, c4, B4, d4, rfl, hJ, hR, hB⟩
  have HK3 := Lib.hid (kept hB).1
  have HK1 := Lib.hid (thru (blk_alloc HK1.out (.cells #[.int .i64 Z.f0, .bool Z.f1, .bool Z.f2.f0, .string Z.f2.f1, .int .i64 Z.f2.f2, .string Z.f3, .slice A3 Z.f4.length c3, .slice B3 Z.f5.length d3] 28)) hB)
  have HK2 := Lib.hid (thru (blk_alloc HK2.out (.cells #[.int .i64 Z.f0, .bool Z.f1, .bool Z.f2.f0, .string Z.f2.f1, .int .i64 Z.f2.f2, .string Z.f3, .slice A3 Z.f4.length c3, .slice B3 Z.f5.length d3] 28)) hB)
  have HJ1 := Lib.hid (HJ1.out.below ((below_alloc (Below.refl _ _) _).trans (hB.mono (below_alloc (Below.refl _ _) _).size)))
  have HJ2 := Lib.hid (HJ2.out.below ((below_alloc (Below.refl _ _) _).trans (hB.mono (below_alloc (Below.refl _ _) _).size)))
  have HJ3 := Lib.hid (HJ3.out.below ((below_alloc (Below.refl _ _) _).trans (hB.mono (below_alloc (Below.refl _ _) _).size)))
  have HJ4 := Lib.hid hJ
  have HR4 := Lib.hid hR
  have HB5 := Lib.hid ((below_alloc HB4.out (.cells #[.int .i64 Z.f0, .bool Z.f1, .bool Z.f2.f0, .string Z.f2.f1, .int .i64 Z.f2.f2, .string Z.f3, .slice A3 Z.f4.length c3, .slice B3 Z.f5.length d3] 28)).trans (hB.mono (below_alloc HB4.out (.cells #[.int .i64 Z.f0, .bool Z.f1, .bool Z.f2.f0, .string Z.f2.f1, .int .i64 Z.f2.f2, .string Z.f3, .slice A3 Z.f4.length c3, .slice B3 Z.f5.length d3] 28)).size))
  clear hJ hR hB HB4 hS1 hz1 hS2 hz2 hS3 hz3 hS4 hz4 hS5 hz5 hS6 hz6
  obtain ⟨P7, hP7⟩ : ∃ P, P = ([123, 34, 122, 34, 58] ++ u) := ⟨_, rfl⟩
  have hS7 : (⟨#[123, 34, 122, 34, 58]⟩ : ByteArray) ++ ofL u = ofL P7 := by rw [hP7]; exact ofL_app _ _
  have hz7 : (ofL P7).size ≤ 4000 := by rw [ofL_size, hP7]; simp; omega
  obtain ⟨P8, hP8⟩ : ∃ P, P = (P7 ++ [44, 34, 107, 34, 58]) := ⟨_, rfl⟩
  have hS8 : ofL P7 ++ (⟨#[44, 34, 107, 34, 58]⟩ : ByteArray) = ofL P8 := by rw [hP8]; exact ofL_app _ _
  have hz8 : (ofL P8).size ≤ 4000 := by rw [ofL_size, hP8, hP7]; simp; omega
  obtain ⟨P9, hP9⟩ : ∃ P, P = (P8 ++ s) := ⟨_, rfl⟩
  have hS9 : ofL P8 ++ ofL s = ofL P9 := by rw [hP9]; exact ofL_app _ _
  have hz9 : (ofL P9).size ≤ 4000 := by rw [ofL_size, hP9, hP8, hP7]; simp; omega
  obtain ⟨P10, hP10⟩ : ∃ P, P = (P9 ++ [44, 34, 97, 34, 58]) := ⟨_, rfl⟩
  have hS10 : ofL P9 ++ (⟨#[44, 34, 97, 34, 58]⟩ : ByteArray) = ofL P10 := by rw [hP10]; exact ofL_app _ _
  have hz10 : (ofL P10).size ≤ 4000 := by rw [ofL_size, hP10, hP9, hP8, hP7]; simp; omega
  obtain ⟨P11, hP11⟩ : ∃ P, P = (P10 ++ t) := ⟨_, rfl⟩
  have hS11 : ofL P10 ++ ofL t = ofL P11 := by rw [hP11]; exact ofL_app _ _
  have hz11 : (ofL P11).size ≤ 4000 := by rw [ofL_size, hP11, hP10, hP9, hP8, hP7]; simp; omega
  obtain ⟨P12, hP12⟩ : ∃ P, P = (P11 ++ [125]) := ⟨_, rfl⟩
  have hS12 : ofL P11 ++ (⟨#[125]⟩ : ByteArray) = ofL P12 := by rw [hP12]; exact ofL_app _ _
  have hz12 : (ofL P12).size ≤ 4000 := by rw [ofL_size, hP12, hP11, hP10, hP9, hP8, hP7]; simp; omega
  have hfb : P12 = three 122 107 97 u s t := by rw [hP12, hP11, hP10, hP9, hP8, hP7]; simp [three, mem]
  have HFB := Lib.hid hfb
  clear hfb hP7 hP8 hP9 hP10 hP11 hP12
  go_wp2_with fail
  refine (jparseR P12 _ (HT.out.below (below_alloc HB5.out (.cells #[.int .i64 M.f0, .bool M.f1, .bool M.f2.f0, .string M.f2.f1, .int .i64 M.f2.f2, .string M.f3, .slice A4 M.f4.length c4, .slice B4 M.f5.length d4] 28))).t M v (by rw [HFB.out]; exact HPN.out)).mono ?_
  rintro E w6 ⟨A5, c5, B5, d5, rfl, hJ, hR, hB⟩
  have HK4 := Lib.hid (kept hB).1
  have HK1 := Lib.hid (thru (blk_alloc HK1.out (.cells #[.int .i64 M.f0, .bool M.f1, .bool M.f2.f0, .string M.f2.f1, .int .i64 M.f2.f2, .string M.f3, .slice A4 M.f4.length c4, .slice B4 M.f5.length d4] 28)) hB)
  have HK2 := Lib.hid (thru (blk_alloc HK2.out (.cells #[.int .i64 M.f0, .bool M.f1, .bool M.f2.f0, .string M.f2.f1, .int .i64 M.f2.f2, .string M.f3, .slice A4 M.f4.length c4, .slice B4 M.f5.length d4] 28)) hB)
  have HK3 := Lib.hid (thru (blk_alloc HK3.out (.cells #[.int .i64 M.f0, .bool M.f1, .bool M.f2.f0, .string M.f2.f1, .int .i64 M.f2.f2, .string M.f3, .slice A4 M.f4.length c4, .slice B4 M.f5.length d4] 28)) hB)
  have HJ1 := Lib.hid (HJ1.out.below ((below_alloc (Below.refl _ _) _).trans (hB.mono (below_alloc (Below.refl _ _) _).size)))
  have HJ2 := Lib.hid (HJ2.out.below ((below_alloc (Below.refl _ _) _).trans (hB.mono (below_alloc (Below.refl _ _) _).size)))
  have HJ3 := Lib.hid (HJ3.out.below ((below_alloc (Below.refl _ _) _).trans (hB.mono (below_alloc (Below.refl _ _) _).size)))
  have HJ4 := Lib.hid (HJ4.out.below ((below_alloc (Below.refl _ _) _).trans (hB.mono (below_alloc (Below.refl _ _) _).size)))
  have HJ5 := Lib.hid hJ
  have HR5 := Lib.hid hR
  have HB6 := Lib.hid ((below_alloc HB5.out (.cells #[.int .i64 M.f0, .bool M.f1, .bool M.f2.f0, .string M.f2.f1, .int .i64 M.f2.f2, .string M.f3, .slice A4 M.f4.length c4, .slice B4 M.f5.length d4] 28)).trans (hB.mono (below_alloc HB5.out (.cells #[.int .i64 M.f0, .bool M.f1, .bool M.f2.f0, .string M.f2.f1, .int .i64 M.f2.f2, .string M.f3, .slice A4 M.f4.length c4, .slice B4 M.f5.length d4] 28)).size))
  clear hJ hR hB HB5 hS7 hz7 hS8 hz8 hS9 hz9 hS10 hz10 hS11 hz11 hS12 hz12
  go_upto_region 13 with fail
  have hal := below_alloc (Below.refl w6.heap.size w6) (.cells #[.int .i64 M.f0, .bool M.f1, .bool M.f2.f0, .string M.f2.f1, .int .i64 M.f2.f2, .string M.f3, .slice A5 M.f4.length c5, .slice B5 M.f5.length d5] 28)
  have HK1 := Lib.hid (blk_alloc HK1.out (.cells #[.int .i64 M.f0, .bool M.f1, .bool M.f2.f0, .string M.f2.f1, .int .i64 M.f2.f2, .string M.f3, .slice A5 M.f4.length c5, .slice B5 M.f5.length d5] 28))
  have HK2 := Lib.hid (blk_alloc HK2.out (.cells #[.int .i64 M.f0, .bool M.f1, .bool M.f2.f0, .string M.f2.f1, .int .i64 M.f2.f2, .string M.f3, .slice A5 M.f4.length c5, .slice B5 M.f5.length d5] 28))
  have HK3 := Lib.hid (blk_alloc HK3.out (.cells #[.int .i64 M.f0, .bool M.f1, .bool M.f2.f0, .string M.f2.f1, .int .i64 M.f2.f2, .string M.f3, .slice A5 M.f4.length c5, .slice B5 M.f5.length d5] 28))
  have HK4 := Lib.hid (blk_alloc HK4.out (.cells #[.int .i64 M.f0, .bool M.f1, .bool M.f2.f0, .string M.f2.f1, .int .i64 M.f2.f2, .string M.f3, .slice A5 M.f4.length c5, .slice B5 M.f5.length d5] 28))
  have HK5 := Lib.hid (blk_new w6 (.cells #[.int .i64 M.f0, .bool M.f1, .bool M.f2.f0, .string M.f2.f1, .int .i64 M.f2.f2, .string M.f3, .slice A5 M.f4.length c5, .slice B5 M.f5.length d5] 28))
  have HJ1 := Lib.hid (HJ1.out.below hal)
  have HJ2 := Lib.hid (HJ2.out.below hal)
  have HJ3 := Lib.hid (HJ3.out.below hal)
  have HJ4 := Lib.hid (HJ4.out.below hal)
  have HJ5 := Lib.hid (HJ5.out.below hal)
  have HB7 := Lib.hid (below_alloc HB6.out (.cells #[.int .i64 M.f0, .bool M.f1, .bool M.f2.f0, .string M.f2.f1, .int .i64 M.f2.f2, .string M.f3, .slice A5 M.f4.length c5, .slice B5 M.f5.length d5] 28))
  obtain ⟨w7, hw⟩ : ∃ w', w' = w6.alloc (.cells #[.int .i64 M.f0, .bool M.f1, .bool M.f2.f0, .string M.f2.f1, .int .i64 M.f2.f2, .string M.f3, .slice A5 M.f4.length c5, .slice B5 M.f5.length d5] 28) := ⟨_, rfl⟩
  rw [← hw] at HK1 HJ1 HK2 HJ2 HK3 HJ3 HK4 HJ4 HK5 HJ5 HB7 ⊢
  clear hal hw HB6
  have hbd := below_drew1 (Below.refl w7.heap.size w7)
  have hb1 := blk_drew HK1.out
  have hb2 := blk_drew HK2.out
  have hb3 := blk_drew HK3.out
  have hb4 := blk_drew HK4.out
  have hb5 := blk_drew HK5.out
  have hst : (fun w' : World => w'.heap[w2.heap.size]? = some (.cells #[.int .i64 X.f0, .bool X.f1, .bool X.f2.f0, .string X.f2.f1, .int .i64 X.f2.f2, .string X.f3, .slice A1 X.f4.length c1, .slice B1 X.f5.length d1] 28 (0, 0)) ∧ w'.heap[w3.heap.size]? = some (.cells #[.int .i64 Y.f0, .bool Y.f1, .bool Y.f2.f0, .string Y.f2.f1, .int .i64 Y.f2.f2, .string Y.f3, .slice A2 Y.f4.length c2, .slice B2 Y.f5.length d2] 28 (0, 0)) ∧ w'.heap[w4.heap.size]? = some (.cells #[.int .i64 Z.f0, .bool Z.f1, .bool Z.f2.f0, .string Z.f2.f1, .int .i64 Z.f2.f2, .string Z.f3, .slice A3 Z.f4.length c3, .slice B3 Z.f5.length d3] 28 (0, 0)) ∧ w'.heap[w5.heap.size]? = some (.cells #[.int .i64 M.f0, .bool M.f1, .bool M.f2.f0, .string M.f2.f1, .int .i64 M.f2.f2, .string M.f3, .slice A4 M.f4.length c4, .slice B4 M.f5.length d4] 28 (0, 0)) ∧ w'.heap[w6.heap.size]? = some (.cells #[.int .i64 M.f0, .bool M.f1, .bool M.f2.f0, .string M.f2.f1, .int .i64 M.f2.f2, .string M.f3, .slice A5 M.f4.length c5, .slice B5 M.f5.length d5] 28 (0, 0))) w7.drew := ⟨hb1, hb2, hb3, hb4, hb5⟩
  refine start_ (n := 10) (S := fun w' => w'.heap[w2.heap.size]? = some (.cells #[.int .i64 X.f0, .bool X.f1, .bool X.f2.f0, .string X.f2.f1, .int .i64 X.f2.f2, .string X.f3, .slice A1 X.f4.length c1, .slice B1 X.f5.length d1] 28 (0, 0)) ∧ w'.heap[w3.heap.size]? = some (.cells #[.int .i64 Y.f0, .bool Y.f1, .bool Y.f2.f0, .string Y.f2.f1, .int .i64 Y.f2.f2, .string Y.f3, .slice A2 Y.f4.length c2, .slice B2 Y.f5.length d2] 28 (0, 0)) ∧ w'.heap[w4.heap.size]? = some (.cells #[.int .i64 Z.f0, .bool Z.f1, .bool Z.f2.f0, .string Z.f2.f1, .int .i64 Z.f2.f2, .string Z.f3, .slice A3 Z.f4.length c3, .slice B3 Z.f5.length d3] 28 (0, 0)) ∧ w'.heap[w5.heap.size]? = some (.cells #[.int .i64 M.f0, .bool M.f1, .bool M.f2.f0, .string M.f2.f1, .int .i64 M.f2.f2, .string M.f3, .slice A4 M.f4.length c4, .slice B4 M.f5.length d4] 28 (0, 0)) ∧ w'.heap[w6.heap.size]? = some (.cells #[.int .i64 M.f0, .bool M.f1, .bool M.f2.f0, .string M.f2.f1, .int .i64 M.f2.f2, .string M.f3, .slice A5 M.f4.length c5, .slice B5 M.f5.length d5] 28 (0, 0))) (ds := []) #[false, false, false, false, false, false, false, false, false, false] (by kernel_rfl) rfl rfl hst (fun hHeld => ?_)
  generalize w7.drew = wd at hbd hst hHeld hb1 hb2 hb3 hb4 hb5 ⊢
  have HSB : Hid (∀ w', Below wd.heap.size wd w' → w'.heap[w2.heap.size]? = some (.cells #[.int .i64 X.f0, .bool X.f1, .bool X.f2.f0, .string X.f2.f1, .int .i64 X.f2.f2, .string X.f3, .slice A1 X.f4.length c1, .slice B1 X.f5.length d1] 28 (0, 0)) ∧ w'.heap[w3.heap.size]? = some (.cells #[.int .i64 Y.f0, .bool Y.f1, .bool Y.f2.f0, .string Y.f2.f1, .int .i64 Y.f2.f2, .string Y.f3, .slice A2 Y.f4.length c2, .slice B2 Y.f5.length d2] 28 (0, 0)) ∧ w'.heap[w4.heap.size]? = some (.cells #[.int .i64 Z.f0, .bool Z.f1, .bool Z.f2.f0, .string Z.f2.f1, .int .i64 Z.f2.f2, .string Z.f3, .slice A3 Z.f4.length c3, .slice B3 Z.f5.length d3] 28 (0, 0)) ∧ w'.heap[w5.heap.size]? = some (.cells #[.int .i64 M.f0, .bool M.f1, .bool M.f2.f0, .string M.f2.f1, .int .i64 M.f2.f2, .string M.f3, .slice A4 M.f4.length c4, .slice B4 M.f5.length d4] 28 (0, 0)) ∧ w'.heap[w6.heap.size]? = some (.cells #[.int .i64 M.f0, .bool M.f1, .bool M.f2.f0, .string M.f2.f1, .int .i64 M.f2.f2, .string M.f3, .slice A5 M.f4.length c5, .slice B5 M.f5.length d5] 28 (0, 0))) := Lib.hid (fun w' hb => ⟨thru hb1 hb, thru hb2 hb, thru hb3 hb, thru hb4 hb, thru hb5 hb⟩)
  have HBX : Hid (∀ w', Below wd.heap.size wd w' → Below w.heap.size w w') := Lib.hid (fun w' hb => HB7.out.trans ((hbd.trans (hb.mono hbd.size)).mono HB7.out.size))
  have HJd1 := Lib.hid (HJ1.out.below hbd)
  have HJd2 := Lib.hid (HJ2.out.below hbd)
  have HJd3 := Lib.hid (HJ3.out.below hbd)
  have HJd4 := Lib.hid (HJ4.out.below hbd)
  have HJd5 := Lib.hid (HJ5.out.below hbd)
  have HV0 := Lib.hid (Below.refl wd.heap.size wd)
  clear hbd hst hb1 hb2 hb3 hb4 hb5
  refine pure_ (i := 0) (N := some 88) (v := ?_) (a' := ?_) #[true, false, false, false, false, false, false, false, false, false] rfl rfl (by kernel_rfl) (fun _ _ _ h => h) (Or.inl ⟨by rfl, ?_⟩) ?_ ?_
  rotate_left
  · intro w'
    go_simp
    with_reducible rfl
  rotate_left
  · simp only [Act.put, List.setIfInBounds_toArray, List.set_cons_zero, List.set_cons_succ, i64_w, i32_w]
    rfl
  refine pure_ (i := 1) (N := some 89) (v := ?_) (a' := ?_) #[true, true, false, false, false, false, false, false, false, false] rfl rfl (by kernel_rfl) (fun _ _ _ h => h) (Or.inl ⟨by rfl, ?_⟩) ?_ ?_
  rotate_left
  · intro w'
    go_simp
    with_reducible rfl
  rotate_left
  · simp only [Act.put, List.setIfInBounds_toArray, List.set_cons_zero, List.set_cons_succ, i64_w, i32_w]
    rfl
  refine pure_ (i := 2) (N := some 90) (v := ?_) (a' := ?_) #[true, true, true, false, false, false, false, false, false, false] rfl rfl (by kernel_rfl) (fun _ _ _ h => h) (Or.inl ⟨by rfl, ?_⟩) ?_ ?_
  rotate_left
  · intro w'
    go_simp
    with_reducible rfl
  rotate_left
  · simp only [Act.put, List.setIfInBounds_toArray, List.set_cons_zero, List.set_cons_succ, i64_w, i32_w]
    rfl
  refine pure_ (i := 3) (N := some 91) (v := ?_) (a' := ?_) #[true, true, true, true, false, false, false, false, false, false] rfl rfl (by kernel_rfl) (fun _ _ _ h => h) (Or.inl ⟨by rfl, ?_⟩) ?_ ?_
  rotate_left
  · intro w'
    go_simp
    with_reducible rfl
  rotate_left
  · simp only [Act.put, List.setIfInBounds_toArray, List.set_cons_zero, List.set_cons_succ, i64_w, i32_w]
    rfl
  refine take_ (i := 4) (N := some 92) (v := ?_) (a' := ?_) #[true, true, true, true, true, false, false, false, false, false] rfl rfl (by kernel_rfl) (fun _ _ _ h => h) (Or.inl ⟨by rfl, ?_⟩) hHeld ?_ ?_
  rotate_left
  · rintro w' ⟨s0, s1, s2, s3, s4⟩
    obtain ⟨q0, q1, q2, q3, q4, q5, q6, q7⟩ := eight s3
    clear s0 s1 s2 s3 s4
    go_simp
    with_reducible rfl
  rotate_left
  · simp only [Act.put, List.setIfInBounds_toArray, List.set_cons_zero, List.set_cons_succ, i64_w, i32_w]
    rfl
  refine take_ (i := 6) (N := some 94) (v := ?_) (a' := ?_) #[true, true, true, true, true, false, true, false, false, false] rfl rfl (by kernel_rfl) (fun _ _ _ h => h) (Or.inl ⟨by rfl, ?_⟩) hHeld ?_ ?_
  rotate_left
  · rintro w' ⟨s0, s1, s2, s3, s4⟩
    obtain ⟨q0, q1, q2, q3, q4, q5, q6, q7⟩ := eight s4
    clear s0 s1 s2 s3 s4
    go_simp
    with_reducible rfl
  rotate_left
  · simp only [Act.put, List.setIfInBounds_toArray, List.set_cons_zero, List.set_cons_succ, i64_w, i32_w]
    rfl
  refine one_ (i := 5) (N := some 93) #[true, true, true, true, true, true, true, false, false, false] rfl rfl (by kernel_rfl) (by decide) (fun K hK => ?_)
  refine call_ 30 #[.agg #[.int .i64 M.f0, .bool M.f1, .bool M.f2.f0, .string M.f2.f1, .int .i64 M.f2.f2, .string M.f3, .slice A4 M.f4.length c4, .slice B4 M.f5.length d4]] (by rfl) rfl ?_ ?_
  · go_simp
  refine (jtext_calls 17 M rM HXM.out A4 B4 c4 d4 wd (HT.out.below (HBX.out _ HV0.out)).p (HJd4.out.below HV0.out)).mono ?_
  rintro E v1 ⟨rfl, hB⟩
  have HV1 := Lib.hid (HV0.out.trans (hB.mono HV0.out.size))
  refine ⟨_, rfl, hK.out _ _ (HSB.out _ HV1.out) (fun hHeld => ?_)⟩
  clear hK K hB
  refine norm_ (a' := ?_) ?_ ?_
  rotate_left
  · show Act.put _ (some 93) _ = _
    simp only [Act.put, List.setIfInBounds_toArray, List.set_cons_zero, List.set_cons_succ, i64_w, i32_w]
    rfl
  refine one_ (i := 7) (N := some 95) #[true, true, true, true, true, true, true, true, false, false] rfl rfl (by kernel_rfl) (by decide) (fun K hK => ?_)
  refine call_ 30 #[.agg #[.int .i64 M.f0, .bool M.f1, .bool M.f2.f0, .string M.f2.f1, .int .i64 M.f2.f2, .string M.f3, .slice A5 M.f4.length c5, .slice B5 M.f5.length d5]] (by rfl) rfl ?_ ?_
  · go_simp
  refine (jtext_calls 17 M rM HXM.out A5 B5 c5 d5 v1 (HT.out.below (HBX.out _ HV1.out)).p (HJd5.out.below HV1.out)).mono ?_
  rintro E v2 ⟨rfl, hB⟩
  have HV2 := Lib.hid (HV1.out.trans (hB.mono HV1.out.size))
  refine ⟨_, rfl, hK.out _ _ (HSB.out _ HV2.out) (fun hHeld => ?_)⟩
  clear hK K hB
  refine norm_ (a' := ?_) ?_ ?_
  rotate_left
  · show Act.put _ (some 95) _ = _
    simp only [Act.put, List.setIfInBounds_toArray, List.set_cons_zero, List.set_cons_succ, i64_w, i32_w]
    rfl
  refine pure_ (i := 8) (N := some 96) (v := ?_) (a' := ?_) #[true, true, true, true, true, true, true, true, true, false] rfl rfl (by kernel_rfl) (fun _ _ _ h => h) (Or.inl ⟨by rfl, ?_⟩) ?_ ?_
  rotate_left
  · intro w'
    go_simp
    with_reducible rfl
  rotate_left
  · simp only [Act.put, List.setIfInBounds_toArray, List.set_cons_zero, List.set_cons_succ, i64_w, i32_w]
    rfl
  refine pure_ (i := 9) (N := some 97) (v := ?_) (a' := ?_) #[true, true, true, true, true, true, true, true, true, true] rfl rfl (by kernel_rfl) (fun _ _ _ h => h) (Or.inl ⟨by rfl, ?_⟩) ?_ ?_
  rotate_left
  · intro w'
    go_simp
    with_reducible rfl
  rotate_left
  · simp only [Act.put, List.setIfInBounds_toArray, List.set_cons_zero, List.set_cons_succ, i64_w, i32_w]
    rfl
  refine done_ (by kernel_rfl) ?_
  have HK1 := Lib.hid ((HSB.out _ HV2.out).1)
  have HJ1 := Lib.hid (HJd1.out.below HV2.out)
  have HK2 := Lib.hid ((HSB.out _ HV2.out).2.1)
  have HJ2 := Lib.hid (HJd2.out.below HV2.out)
  have HK3 := Lib.hid ((HSB.out _ HV2.out).2.2.1)
  have HJ3 := Lib.hid (HJd3.out.below HV2.out)
  have HK4 := Lib.hid ((HSB.out _ HV2.out).2.2.2.1)
  have HJ4 := Lib.hid (HJd4.out.below HV2.out)
  have HK5 := Lib.hid ((HSB.out _ HV2.out).2.2.2.2)
  have HJ5 := Lib.hid (HJd5.out.below HV2.out)
  have HB8 := Lib.hid (HBX.out _ HV2.out)
  clear HV0 HV1 HV2 HBX HSB HJd1 HJd2 HJd3 HJd4 HJd5
  obtain ⟨w8, hw⟩ : ∃ w', w' = v2 := ⟨_, rfl⟩
  rw [← hw] at HK1 HJ1 HK2 HJ2 HK3 HJ3 HK4 HJ4 HK5 HJ5 HB8 ⊢
  clear hw
  obtain ⟨q10, q11, q12, q13, q14, q15, q16, q17⟩ := eight HK1.out
  obtain ⟨q20, q21, q22, q23, q24, q25, q26, q27⟩ := eight HK2.out
  obtain ⟨q30, q31, q32, q33, q34, q35, q36, q37⟩ := eight HK3.out
  go_wp2_with fail
  refine (compare_calls 17 X Y HCX.out HCY.out A1 B1 A2 B2 c1 d1 c2 d2 _ HJ1.out HJ2.out).mono ?_
  rintro E w9 ⟨rfl, hB⟩
  have HK1 := Lib.hid (thru HK1.out hB)
  have HJ1 := Lib.hid (HJ1.out.below hB)
  have HK2 := Lib.hid (thru HK2.out hB)
  have HJ2 := Lib.hid (HJ2.out.below hB)
  have HK3 := Lib.hid (thru HK3.out hB)
  have HJ3 := Lib.hid (HJ3.out.below hB)
  have HK4 := Lib.hid (thru HK4.out hB)
  have HJ4 := Lib.hid (HJ4.out.below hB)
  have HK5 := Lib.hid (thru HK5.out hB)
  have HJ5 := Lib.hid (HJ5.out.below hB)
  have HB9 := Lib.hid (HB8.out.trans (hB.mono HB8.out.size))
  clear hB HB8
  clear q10 q11 q12 q13 q14 q15 q16 q17 q20 q21 q22 q23 q24 q25 q26 q27 q30 q31 q32 q33 q34 q35 q36 q37
  obtain ⟨q10, q11, q12, q13, q14, q15, q16, q17⟩ := eight HK1.out
  obtain ⟨q20, q21, q22, q23, q24, q25, q26, q27⟩ := eight HK2.out
  obtain ⟨q30, q31, q32, q33, q34, q35, q36, q37⟩ := eight HK3.out
  go_wp2_with fail
  refine (compare_calls 17 Y Z HCY.out HCZ.out A2 B2 A3 B3 c2 d2 c3 d3 _ HJ2.out HJ3.out).mono ?_
  rintro E w10 ⟨rfl, hB⟩
  have HK1 := Lib.hid (thru HK1.out hB)
  have HJ1 := Lib.hid (HJ1.out.below hB)
  have HK2 := Lib.hid (thru HK2.out hB)
  have HJ2 := Lib.hid (HJ2.out.below hB)
  have HK3 := Lib.hid (thru HK3.out hB)
  have HJ3 := Lib.hid (HJ3.out.below hB)
  have HK4 := Lib.hid (thru HK4.out hB)
  have HJ4 := Lib.hid (HJ4.out.below hB)
  have HK5 := Lib.hid (thru HK5.out hB)
  have HJ5 := Lib.hid (HJ5.out.below hB)
  have HB10 := Lib.hid (HB9.out.trans (hB.mono HB9.out.size))
  clear hB HB9
  clear q10 q11 q12 q13 q14 q15 q16 q17 q20 q21 q22 q23 q24 q25 q26 q27 q30 q31 q32 q33 q34 q35 q36 q37
  obtain ⟨q10, q11, q12, q13, q14, q15, q16, q17⟩ := eight HK1.out
  obtain ⟨q20, q21, q22, q23, q24, q25, q26, q27⟩ := eight HK2.out
  obtain ⟨q30, q31, q32, q33, q34, q35, q36, q37⟩ := eight HK3.out
  go_wp2_with fail
  refine (compare_calls 17 X Z HCX.out HCZ.out A1 B1 A3 B3 c1 d1 c3 d3 _ HJ1.out HJ3.out).mono ?_
  rintro E w11 ⟨rfl, hB⟩
  have HK1 := Lib.hid (thru HK1.out hB)
  have HJ1 := Lib.hid (HJ1.out.below hB)
  have HK2 := Lib.hid (thru HK2.out hB)
  have HJ2 := Lib.hid (HJ2.out.below hB)
  have HK3 := Lib.hid (thru HK3.out hB)
  have HJ3 := Lib.hid (HJ3.out.below hB)
  have HK4 := Lib.hid (thru HK4.out hB)
  have HJ4 := Lib.hid (HJ4.out.below hB)
  have HK5 := Lib.hid (thru HK5.out hB)
  have HJ5 := Lib.hid (HJ5.out.below hB)
  have HB11 := Lib.hid (HB10.out.trans (hB.mono HB10.out.size))
  clear hB HB10
  clear q10 q11 q12 q13 q14 q15 q16 q17 q20 q21 q22 q23 q24 q25 q26 q27 q30 q31 q32 q33 q34 q35 q36 q37
  have hl := cmpF_law HCX.out HCY.out HCZ.out
  have bp := cmpF_bd 17 X Y
  have bq := cmpF_bd 17 Y Z
  have br := cmpF_bd 17 X Z
  obtain ⟨p, hp⟩ : ∃ p, p = cmpF 17 X Y := ⟨_, rfl⟩
  obtain ⟨q, hq⟩ : ∃ q, q = cmpF 17 Y Z := ⟨_, rfl⟩
  obtain ⟨r, hr⟩ : ∃ r, r = cmpF 17 X Z := ⟨_, rfl⟩
  rw [← hp, ← hq, ← hr] at hl
  rw [← hp] at bp ⊢
  rw [← hq] at bq ⊢
  rw [← hr] at br ⊢
  clear hp hq hr
  obtain ⟨l1, l2⟩ := hl
  have c1 : p = -1 ∨ p = 0 ∨ p = 1 := by omega
  have c2 : q = -1 ∨ q = 0 ∨ q = 1 := by omega
  have c3 : r = -1 ∨ r = 0 ∨ r = 1 := by omega
  clear bp bq br
  rcases c1 with rfl | rfl | rfl <;> rcases c2 with rfl | rfl | rfl <;> rcases c3 with rfl | rfl | rfl
  all_goals first
    | (exfalso; omega)
    | (clear l1 l2; go_wp2_with fail; go_ret; exact ⟨rfl, HB11.out⟩)
set_option maxRecDepth 100000 in
theorem orders_long (s : List UInt8) (t : List UInt8) (u : List UInt8) (h : 300 < s.length ∨ 300 < t.length ∨ 300 < u.length) (w : World) (hT : JTabs w) :
    Calls Tryz.prog 14 #[.string (ofL s), .string (ofL t), .string (ofL u)] w fun e w' => e = .returned (.bool true) ∧ Below w.heap.size w w' := by
  have HT := Lib.hid hT
  have HSs : Hid ((ofL s).size = s.length) := Lib.hid (ofL_size s)
  have HSt : Hid ((ofL t).size = t.length) := Lib.hid (ofL_size t)
  have HSu : Hid ((ofL u).size = u.length) := Lib.hid (ofL_size u)
  clear hT
  by_cases h0 : 300 < s.length
  · have hi0 : (300 : Int) < ((ofL s).size : Int) := by rw [HSs.out]; omega
    clear h h0
    go_enter Tryz.func14, Tryz.ntmps14
    go_wp2_with fail
    refine (awake15_calls _ HT.out).mono ?_
    rintro E w1 ⟨rfl, hB⟩
    go_wp2_with fail
    go_ret
    exact ⟨rfl, hB⟩
  have hj0 : ((ofL s).size : Int) ≤ 300 := by rw [HSs.out]; omega
  by_cases h1 : 300 < t.length
  · have hi1 : (300 : Int) < ((ofL t).size : Int) := by rw [HSt.out]; omega
    clear h h0 h1
    go_enter Tryz.func14, Tryz.ntmps14
    go_wp2_with fail
    refine (awake15_calls _ HT.out).mono ?_
    rintro E w1 ⟨rfl, hB⟩
    go_wp2_with fail
    go_ret
    exact ⟨rfl, hB⟩
  have hj1 : ((ofL t).size : Int) ≤ 300 := by rw [HSt.out]; omega
  have hi2 : (300 : Int) < ((ofL u).size : Int) := by rw [HSu.out]; omega
  clear h h0 h1
  go_enter Tryz.func14, Tryz.ntmps14
  go_wp2_with fail
  refine (awake15_calls _ HT.out).mono ?_
  rintro E w1 ⟨rfl, hB⟩
  go_wp2_with fail
  go_ret
  exact ⟨rfl, hB⟩
theorem JsonOrders_calls (s : ByteArray) (t : ByteArray) (u : ByteArray) (w : World) (hT : JTabs w) :
    Calls Tryz.prog 14 #[.string s, .string t, .string u] w fun e w' => e = .returned (.bool true) ∧ Below w.heap.size w w' := by
  have es : ofL s.data.toList = s := ofL_of s
  have et : ofL t.data.toList = t := ofL_of t
  have eu : ofL u.data.toList = u := ofL_of u
  by_cases hh : 300 < s.data.toList.length ∨ 300 < t.data.toList.length ∨ 300 < u.data.toList.length
  · have := orders_long s.data.toList t.data.toList u.data.toList hh w hT
    rwa [es, et, eu] at this
  · have := orders_main s.data.toList t.data.toList u.data.toList (by omega) (by omega) (by omega) w hT
    rwa [es, et, eu] at this
end Js
end Go.Proofs.YtapcpndplnkfjaaGreatDoor
