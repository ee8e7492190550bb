/- What the law rests on, part 3: joined by a program of this session (claimx.py). -/
import Derived.Test.YtapcpndplnkfjaaGreatDoorPlanChoosesB
namespace Go.Proofs.YtapcpndplnkfjaaGreatDoor
open Go.RowKit Go.Proofs.YtapcpndplnkfjaaGreatDoorW.PrintWords Go.Proofs.YtapcpndplnkfjaaGreatDoorW.PrintLast Go.Proofs.YtapcpndplnkfjaaGreatDoorW.PrintMore
set_option linter.unusedVariables false
set_option linter.unusedSimpArgs false
namespace Js
structure JC (w : World) (x : S28) (A : Option Addr) (n c : Nat) (B : Option Addr) (m c' : Nat) : Prop where
  ln : n = x.f4.length
  nc : n ≤ c
  i : k28.C w A n x.f4
  lm : m = x.f5.length
  mc : m ≤ c'
  s : Kd.string.C w B m x.f5
theorem JC.below {w w' : World} {x : S28} {A B : Option Addr} {n c m c' : Nat} (h : JC w x A n c B m c') (hb : Below w.heap.size w w') : JC w' x A n c B m c' :=
  ⟨h.ln, h.nc, Kd.C_below h.i hb, h.lm, h.mc, Kd.C_below h.s hb⟩
theorem kept {W w' : World} {o : Obj} (hb : Below (W.alloc o).heap.size (W.alloc o) w') : w'.heap[W.heap.size]? = some o ∧ W.heap.size < w'.heap.size := by
  have h := hb.size
  have h2 : (W.alloc o).heap.size = W.heap.size + 1 := by simp
  exact ⟨(hb.block _ (by omega)).trans (heap_alloc_new W o), by omega⟩
theorem thru {W w' : World} {g : Nat} {o : Obj} (h : W.heap[g]? = some o) (hb : Below W.heap.size W w') : w'.heap[g]? = some o := (hb.block _ (blk_lt h)).trans h
def pv (s : List UInt8) : S28 × Int := parseV (fvN 17) s
theorem jparse (s : List UInt8) (w : World) (hT : Tabs w) (x : S28) (e : Int) (h : pv s = (x, e)) :
    Calls Tryz.prog 16 #[.string (ofL s)] w fun E w' => ∃ A n c B m c', E = .returned (.tuple #[.agg #[.int .i64 x.f0, .bool x.f1, .bool x.f2.f0, .string x.f2.f1, .int .i64 x.f2.f2, .string x.f3, .slice A n c, .slice B m c'], .int .i64 e]) ∧
      JC w' x A n c B m c' ∧ Below w.heap.size w w' := by
  have hx : x = (parseV (fvN 17) s).1 := by rw [show parseV (fvN 17) s = (x, e) from h]
  have he : e = (parseV (fvN 17) s).2 := by rw [show parseV (fvN 17) s = (x, e) from h]
  subst hx he
  refine (json_calls s w hT).mono fun E w' ⟨v, h1, ⟨cs, h2, h3⟩, h4⟩ => ?_
  obtain ⟨v6, v7, rfl, g6, g7⟩ := k28_openM h3
  obtain ⟨A, c, rfl, hl6, h6⟩ := Kd.R_reads g6
  obtain ⟨B, c', rfl, hl7, h7⟩ := Kd.R_reads g7
  exact ⟨A, _, c, B, _, c', by rw [h1, h2], ⟨rfl, hl6, h6, rfl, hl7, h7⟩, h4⟩
theorem p7 : pv [55] = (⟨2, false, ⟨false, ⟨#[55]⟩, 0⟩, ⟨#[]⟩, [], []⟩, 0) := by kernel_rfl
theorem str_run (w : World) (A : Option Addr) (n c : Nat) (xs : List Int) (h : (Kd.int .u8).C w A n xs) : (convert 38 9 (.slice A n c)).run Tryz.prog w = .ok (.string (strOfNums xs)) w :=
  Kd.C_string Tryz.underlying38 Tryz.underlying5 Tryz.underlying9 h
theorem okNum7 : okNum ⟨false, ⟨#[55]⟩, 0⟩ := ⟨by decide, by decide, by decide, by decide⟩
end Js
end Go.Proofs.YtapcpndplnkfjaaGreatDoor
namespace Go.Proofs.YtapcpndplnkfjaaGreatDoor
open Go.RowKit Go.Proofs.YtapcpndplnkfjaaGreatDoorW.PrintWords Go.Proofs.YtapcpndplnkfjaaGreatDoorW.PrintLast Go.Proofs.YtapcpndplnkfjaaGreatDoorW.PrintMore
set_option linter.unusedVariables false
set_option linter.unusedSimpArgs false
namespace Js
def behR : List Int → List Int
  | [] => []
  | c :: t => if (c + 1) % 256 > 0 then (c + 1) % 256 :: t else behR t
def behindL (l : List Int) : List Int := (behR l.reverse).reverse
def lenV : Value → Nat
  | .slice _ n _ => n
  | _ => 0
set_option maxRecDepth 100000 in
set_option maxHeartbeats 4000000 in
theorem behind_calls (A : Option Addr) (c : Nat) (l : List Int) (w : World) (hC : Kd.C (Kd.int .u8) w A l.length l) (hc : l.length ≤ c) (hl : l.length ≤ 1000000) :
    Calls Tryz.prog 24 #[.slice A l.length c] w fun e w' => ∃ v0_ : Value, e = .returned v0_ ∧ Kd.R (Kd.int .u8) 5 w' w.heap.size (fun _ => True) v0_ (behindL l) ∧ Below w.heap.size w w' := by
  have HCL := Lib.hid (clone_calls A c l w hC hc hl)
  have HL := Lib.hid hl
  clear hC hc hl
  go_enter Tryz.func24, Tryz.ntmps24
  go_wp2_with fail
  refine HCL.out.mono ?_
  rintro E w1 ⟨v, rfl, hR, hB⟩
  have HR := Lib.hid hR
  have HB := Lib.hid hB
  clear hR hB
  go_wp2_with fail
  go_loopw [3] (fun v wr => ∃ t : List Int, lenV v = t.length ∧ t.length ≤ 1000000 ∧ Hid (Kd.R (Kd.int .u8) 5 wr w.heap.size (fun _ => True) v t) ∧ Hid (Below w.heap.size w wr) ∧ Hid (behR t.reverse = behR l.reverse)) (fun v _ => lenV v)
  case atStart =>
    obtain ⟨A1, c1, rfl⟩ := Kd.R_slice HR.out
    exact ⟨l, rfl, HL.out, HR, HB, Lib.hid rfl⟩
  case round =>
    clear HR HB
    obtain ⟨t, hlen, hbd, HR, HB, HE⟩ := hrel
    rcases List.eq_nil_or_concat t with rfl | ⟨t, x, rfl⟩
    · obtain ⟨A1, c1, rfl⟩ := Kd.R_slice HR.out
      go_wp2_with fail
      go_ret
      refine ⟨_, rfl, ?_, HB.out⟩
      have : behindL l = [] := by unfold behindL; rw [← HE.out]; rfl
      rw [this]
      exact Kd.R_nil _ _ _ _ _
    · rw [List.concat_eq_append] at hlen hbd HR HE
      obtain ⟨g, cap, rfl, hg0, hg1, cells, hcells⟩ := Kd.R_form HR.out (by simp)
      have hlt : (t ++ [x]).length = t.length + 1 := by simp
      rw [hlt] at HR hbd
      rw [hlt]
      have hcn := Kd.R_celln (0 : Int) HR.out (t.length : Int) (by omega) (by omega)
      have hx : rdOf (0 : Int) (t ++ [x]) (t.length : Int) = x := by simp [rdOf]
      rw [hx] at hcn
      have hp := Kd.R_putg HR.out (t.length : Int) ((x + 1) % 256)
      have hse : (t ++ [x]).set (t.length : Int).toNat ((x + 1) % 256) = t ++ [(x + 1) % 256] := by simp
      rw [hse] at hp
      simp only [Int.toNat_natCast] at hcn hp
      obtain ⟨hcell, hfz⟩ := hcn
      have hcl := (Kd.R_reads' HR.out).2.1
      have HP := Lib.hid hp
      have HG := Lib.hid (And.intro hg0 hg1)
      have hbe : behR (t ++ [x]).reverse = if (x + 1) % 256 > 0 then (x + 1) % 256 :: t.reverse else behR t.reverse := by
        rw [List.reverse_append, List.reverse_singleton, List.singleton_append]; rfl
      have HBE := Lib.hid hbe
      obtain ⟨n, hn⟩ : ∃ n, t.length = n := ⟨_, rfl⟩
      have HN := Lib.hid hn
      rw [hn] at hcell hfz HP hbd hcl ⊢
      clear hcells hlt hx hp hse hg0 hg1 hbe hn hlen HR
      by_cases hz : (0 : Int) < (x + 1) % 256
      · go_wp2_with fail
        go_ret
        have hb : behindL l = t ++ [(x + 1) % 256] := by
          unfold behindL
          rw [← HE.out, HBE.out, if_pos hz, List.reverse_cons, List.reverse_reverse]
        rw [hb]
        exact ⟨_, rfl, HP.out.1, HB.out.setCell (p := ⟨g, n, none⟩) HG.out.1 _⟩
      · go_wp2_with fail
        have hR := Kd.R_take HP.out.1 (m := n) (by simp [HN.out])
        rw [List.take_left' HN.out] at hR
        exact ⟨⟨t, HN.out.symm, by have := HN.out; omega, Lib.hid hR, Lib.hid (HB.out.setCell (p := ⟨g, n, none⟩) HG.out.1 _), Lib.hid (by rw [← HE.out, HBE.out, if_neg hz])⟩, by simp [lenV]⟩
def boundsL (op : Int) (x : S28) : List Int × List Int × Bool :=
  if (keyL x).2 ≠ 0 then ([], [], false) else
  if op = 0 then ((keyL x).1, behindL (keyL x).1, true) else
  if op = 1 then ([k1 x.f0], (keyL x).1, true) else
  if op = 2 then ([k1 x.f0], behindL (keyL x).1, true) else
  if op = 3 then (behindL (keyL x).1, [k2 x.f0], true) else
  if op = 4 then ((keyL x).1, [k2 x.f0], true) else ([], [], false)
theorem ten {w : World} {g : Nat} {a0 a1 a2 a3 a4 a5 a6 a7 a8 a9 : Value} {t : TypeId} (h : w.heap[g]? = some (.cells #[a0, a1, a2, a3, a4, a5, a6, a7, a8, a9] t (0, 0))) :
    w.cell? ⟨g, 0, none⟩ = some a0 ∧ w.cell? ⟨g, 1, none⟩ = some a1 ∧ w.cell? ⟨g, 2, none⟩ = some a2 ∧ w.cell? ⟨g, 3, none⟩ = some a3 ∧ w.cell? ⟨g, 4, none⟩ = some a4 ∧ w.cell? ⟨g, 5, none⟩ = some a5 ∧ w.cell? ⟨g, 6, none⟩ = some a6 ∧ w.cell? ⟨g, 7, none⟩ = some a7 ∧ w.cell? ⟨g, 8, none⟩ = some a8 ∧ w.cell? ⟨g, 9, none⟩ = some a9 :=
  ⟨(blk_cell h 0).trans rfl, (blk_cell h 1).trans rfl, (blk_cell h 2).trans rfl, (blk_cell h 3).trans rfl, (blk_cell h 4).trans rfl, (blk_cell h 5).trans rfl, (blk_cell h 6).trans rfl, (blk_cell h 7).trans rfl, (blk_cell h 8).trans rfl, (blk_cell h 9).trans rfl⟩
theorem keyL_len (x : S28) (hn : okNum x.f2) (ht : x.f3.data.toList.length ≤ 400000) : (keyL x).1.length ≤ 900000 := by
  have h1 := numberL_len x.f2.f0 x.f2.f1.data.toList x.f2.f2 hn.1
  have h2 := escO_len x.f3.data.toList
  unfold keyL
  repeat' split
  all_goals simp only [List.length_cons, List.length_nil]
  all_goals first | omega | (unfold textL; rw [List.length_append]; simp only [List.length_cons, List.length_nil]; omega)
set_option maxRecDepth 100000 in
set_option maxHeartbeats 4000000 in
theorem bounds_calls (op : Int) (x : S28) (hx : 0 ≤ x.f0 ∧ x.f0 ≤ 5) (hn : okNum x.f2) (ht : x.f3.data.toList.length ≤ 400000) (Sa A B : Option Addr) (sn sc n m c c' : Nat) (w : World) (hT : KTabs w) :
    Calls Tryz.prog 22 #[.agg #[.int .i64 op, .slice Sa sn sc, .int .i64 x.f0, .bool x.f1, .bool x.f2.f0, .string x.f2.f1, .int .i64 x.f2.f2, .string x.f3, .slice A n c, .slice B m c']] w fun e w' => ∃ v1 v2 : Value, e = .returned (.tuple #[v1, v2, .bool (boundsL op x).2.2]) ∧
      Kd.R (Kd.int .u8) 5 w' w.heap.size (fun _ => True) v1 (boundsL op x).1 ∧ Kd.R (Kd.int .u8) 5 w' w.heap.size (fun _ => True) v2 (boundsL op x).2.1 ∧ Below w.heap.size w w' := by
  have HT := Lib.hid hT
  have HX := Lib.hid hx
  have HN := Lib.hid hn
  have HTL := Lib.hid ht
  have hal := fun o => below_alloc (Below.refl w.heap.size w) o
  have HA := Lib.hid hal
  clear hT hx hn ht hal
  go_enter Tryz.func22, Tryz.ntmps22
  go_wp2_with fail
  refine (key_calls x HX.out HN.out (by have := HTL.out; omega) A B n m c c' _ (HT.out.below (HA.out _))).mono ?_
  rintro E w1 ⟨v, rfl, hR, hB⟩
  obtain ⟨hk1, hs1⟩ := kept hB
  obtain ⟨q0, q1, q2, q3, q4, q5, q6, q7, q8, q9⟩ := ten hk1
  obtain ⟨A1, c1, rfl, hl1, hC1⟩ := Kd.R_reads hR
  have HK1 := Lib.hid hk1
  have HB1 := Lib.hid ((HA.out _).trans (hB.mono (HA.out _).size))
  have HR1 := Lib.hid hR
  have HC1 := Lib.hid hC1
  clear hk1 hB hR hC1
  go_wp2_with fail
  refine (kind_calls x.f0 HX.out _ _ _ _ _ _ _ _ _ _ _ _ (HT.out.below HB1.out)).mono ?_
  rintro E w2 ⟨rfl, hB⟩
  have hk1 := thru HK1.out hB
  have q0 : w2.cell? ⟨w.heap.size, 0, none⟩ = some (.int .i64 op) := (blk_cell hk1 0).trans rfl
  have HB2 := Lib.hid (HB1.out.trans (hB.mono HB1.out.size))
  have HR2 : Hid (Kd.R (Kd.int .u8) 5 w2 w.heap.size (fun _ => True) (.slice A1 (keyL x).1.length c1) (keyL x).1) := Lib.hid (Kd.R_below (Kd.R_lower HR1.out (HA.out _).size) hB)
  have HC2 := Lib.hid (Kd.C_below HC1.out hB)
  have HLEN := Lib.hid (keyL_len x HN.out HTL.out)
  clear hk1 hB HR1 HC1 hs1
  have hop0 : (op == 0) = true ∨ (op == 0) = false := by cases (op == 0) <;> simp
  have hal := fun o => below_alloc HB2.out o
  have HAL := Lib.hid hal
  have hnew : ∀ y : Int, Kd.R (Kd.int .u8) 5 (w2.alloc (.cells #[.int .u8 y] 5)) w.heap.size (fun _ => True) (.slice (some ⟨w2.heap.size, 0, none⟩) 1 1) [y] := fun y => Kd.R_lower (new_one w2 y _ rfl) HB2.out.size
  have HNEW := Lib.hid hnew
  clear hal hnew hop0
  obtain ⟨K, e, hK⟩ : ∃ K e, keyL x = (K, e) := ⟨_, _, rfl⟩
  have HBD : Hid (boundsL op x = if e ≠ 0 then ([], [], false) else if op = 0 then (K, behindL K, true) else if op = 1 then ([k1 x.f0], K, true) else if op = 2 then ([k1 x.f0], behindL K, true) else if op = 3 then (behindL K, [k2 x.f0], true) else if op = 4 then (K, [k2 x.f0], true) else ([], [], false)) := Lib.hid (by unfold boundsL; rw [hK])
  rw [hK] at HR2 HC2 HLEN hl1 ⊢
  clear hK
  obtain ⟨y1, hy1⟩ : ∃ y, y = k1 x.f0 := ⟨_, rfl⟩
  obtain ⟨y2, hy2⟩ : ∃ y, y = k2 x.f0 := ⟨_, rfl⟩
  rw [← hy1, ← hy2] at HBD ⊢
  clear hy1 hy2
  have HR2 : Hid (Kd.R (Kd.int .u8) 5 w2 w.heap.size (fun _ => True) (.slice A1 K.length c1) K) := HR2
  have HC2 : Hid (Kd.C (Kd.int .u8) w2 A1 K.length K) := HC2
  have HLEN : Hid (K.length ≤ 900000) := HLEN
  have hl1 : K.length ≤ c1 := hl1
  by_cases he : e = 0
  case neg =>
    have hF : boundsL op x = ([], [], false) := by rw [HBD.out, if_pos he]
    have he' : (e == 0) = false := by simpa using he
    have he2 : (e != 0) = true := by simpa using he
    have HF := Lib.hid hF
    clear he hF
    go_wp2_with fail
    go_ret3
    rw [HF.out]
    exact ⟨_, _, rfl, Kd.R_nil _ _ _ _ _, Kd.R_nil _ _ _ _ _, HB2.out⟩
  subst he
  by_cases h0 : op = 0
  · subst h0
    have HF : Hid (boundsL 0 x = (K, behindL K, true)) := Lib.hid (by rw [HBD.out]; rfl)
    go_wp2_with fail
    refine (behind_calls A1 c1 K _ HC2.out hl1 (by have := HLEN.out; omega)).mono ?_
    rintro E w3 ⟨v, rfl, hR, hB⟩
    go_wp2_with fail
    go_ret3
    rw [HF.out]
    exact ⟨_, _, rfl, Kd.R_below HR2.out hB, Kd.R_lower hR HB2.out.size, HB2.out.trans (hB.mono HB2.out.size)⟩
  have h0' : (op == 0) = false := by simpa using h0
  by_cases h1 : op = 1
  · subst h1
    have HF : Hid (boundsL 1 x = ([y1], K, true)) := Lib.hid (by rw [HBD.out]; rfl)
    clear h0 h0'
    go_wp2_with fail
    go_ret3
    rw [HF.out]
    exact ⟨_, _, rfl, HNEW.out y1, Kd.R_below HR2.out (below_alloc (Below.refl _ _) _), HAL.out _⟩
  have h1' : (op == 1) = false := by simpa using h1
  by_cases h2 : op = 2
  · subst h2
    have HF : Hid (boundsL 2 x = ([y1], behindL K, true)) := Lib.hid (by rw [HBD.out]; rfl)
    clear h0 h0' h1 h1'
    go_wp2_with fail
    refine (behind_calls A1 c1 K _ (Kd.C_below HC2.out (below_alloc (Below.refl _ _) _)) hl1 (by have := HLEN.out; omega)).mono ?_
    rintro E w3 ⟨v, rfl, hR, hB⟩
    go_wp2_with fail
    go_ret3
    rw [HF.out]
    exact ⟨_, _, rfl, Kd.R_below (HNEW.out y1) hB, Kd.R_lower hR (HAL.out _).size, (HAL.out _).trans (hB.mono (HAL.out _).size)⟩
  have h2' : (op == 2) = false := by simpa using h2
  by_cases h3 : op = 3
  · subst h3
    have HF : Hid (boundsL 3 x = (behindL K, [y2], true)) := Lib.hid (by rw [HBD.out]; rfl)
    clear h0 h0' h1 h1' h2 h2'
    go_wp2_with fail
    refine (behind_calls A1 c1 K _ HC2.out hl1 (by have := HLEN.out; omega)).mono ?_
    rintro E w3 ⟨v, rfl, hR, hB⟩
    have hB3 := HB2.out.trans (hB.mono HB2.out.size)
    obtain ⟨A3, c3, rfl⟩ := Kd.R_slice hR
    go_wp2_with fail
    go_ret3
    rw [HF.out]
    exact ⟨_, _, rfl, Kd.R_below (Kd.R_lower hR HB2.out.size) (below_alloc (Below.refl _ _) _), Kd.R_lower (new_one w3 y2 _ rfl) hB3.size, below_alloc hB3 _⟩
  have h3' : (op == 3) = false := by simpa using h3
  by_cases h4 : op = 4
  · subst h4
    have HF : Hid (boundsL 4 x = (K, [y2], true)) := Lib.hid (by rw [HBD.out]; rfl)
    clear h0 h0' h1 h1' h2 h2' h3 h3'
    go_wp2_with fail
    go_ret3
    rw [HF.out]
    exact ⟨_, _, rfl, Kd.R_below HR2.out (below_alloc (Below.refl _ _) _), HNEW.out y2, HAL.out _⟩
  have h4' : (op == 4) = false := by simpa using h4
  have HF : Hid (boundsL op x = ([], [], false)) := Lib.hid (by rw [HBD.out, if_neg (by simp), if_neg h0, if_neg h1, if_neg h2, if_neg h3, if_neg h4])
  clear h0 h1 h2 h3 h4
  go_wp2_with fail
  go_ret3
  rw [HF.out]
  exact ⟨_, _, rfl, Kd.R_nil _ _ _ _ _, Kd.R_nil _ _ _ _ _, HB2.out⟩
end Js
end Go.Proofs.YtapcpndplnkfjaaGreatDoor
namespace Go.Proofs.YtapcpndplnkfjaaGreatDoor
open Go.RowKit Go.Proofs.YtapcpndplnkfjaaGreatDoorW.PrintWords Go.Proofs.YtapcpndplnkfjaaGreatDoorW.PrintLast Go.Proofs.YtapcpndplnkfjaaGreatDoorW.PrintMore
attribute [local go_sem] max2_int min2_int max_two min_two max_three min_three max_four min_four
set_option linter.unusedVariables false
set_option linter.unusedSimpArgs false
def rd_L1 (xs : List (List ByteArray)) (i : Int) : (List ByteArray) := xs.getD i.toNat ([] : List ByteArray)
theorem at_L1 {w : World} {A : Option Addr} {n : Nat} {xs : List (List ByteArray)} (h : Kd.C (Kd.slice 9 Kd.string) w A n xs) (i : Int) (h0 : 0 ≤ i) (h1 : i < n) : ∃ ad A0 c0, A = some ad ∧ w.cell? (ad.add i.toNat) = some (.slice A0 (rd_L1 xs i).length c0) ∧ (rd_L1 xs i).length ≤ c0 ∧ Kd.string.C w A0 (rd_L1 xs i).length (rd_L1 xs i) := by
  obtain ⟨ad, c, e, _, hK, hc0⟩ := Kd.C_get h ([] : List ByteArray) i h0 h1
  have hc : ∀ j u, c[j]? = some u → w.cell? (ad.add (i.toNat * 1 + j)) = some u := hc0
  obtain ⟨A0, c0, rfl, l0, g0⟩ := hK
  exact ⟨ad, A0, c0, e, by have hq := hc 0 _ rfl; rwa [Nat.mul_one, Nat.add_zero] at hq, l0, g0⟩
end Go.Proofs.YtapcpndplnkfjaaGreatDoor
namespace Go.Proofs.YtapcpndplnkfjaaGreatDoor
open Go.RowKit Go.Proofs.YtapcpndplnkfjaaGreatDoorW.PrintWords Go.Proofs.YtapcpndplnkfjaaGreatDoorW.PrintLast Go.Proofs.YtapcpndplnkfjaaGreatDoorW.PrintMore
attribute [local go_sem] max2_int min2_int max_two min_two max_three min_three max_four min_four
set_option linter.unusedVariables false
set_option linter.unusedSimpArgs false
def slices_Equal_string_string.l0 : Nat → List ByteArray → List ByteArray → Int → Int → Option (Bool)
  | 0, _, _, _, _ => none
  | k + 1, x0, x1, x12, x13 => if x13 < x12 then (if 0 ≤ x13 then (if x13 < (x0.length : Int) then (if x13 < (x1.length : Int) then (if (rdOf ByteArray.empty x0 x13).toList = (rdOf ByteArray.empty x1 x13).toList then (slices_Equal_string_string.l0 k x0 x1 x12 (wrap64 (x13 + 1))) else (some false)) else (none)) else (none)) else (none)) else (some true)
def slices_Equal_string_string.f (k : Nat) (l0 : List ByteArray) (l1 : List ByteArray) : Option (Bool) := if (l0.length : Int) = (l1.length : Int) then (slices_Equal_string_string.l0 k l0 l1 (l0.length : Int) 0) else (some false)
theorem slices_Equal_string_string.mono_l : ∀ k, (∀ y0 y1 y2 y3, LeO (slices_Equal_string_string.l0 k y0 y1 y2 y3) (slices_Equal_string_string.l0 (k + 1) y0 y1 y2 y3))
  | 0 => fun _ _ _ _ r h => by simp [slices_Equal_string_string.l0] at h
  | k + 1 => by
    have ih0 := slices_Equal_string_string.mono_l k
    · intro y0 y1 y2 y3
      unfold slices_Equal_string_string.l0
      repeat' first
      | (with_reducible exact ih0 _ _ _ _)
      | (with_reducible exact LeO.refl _)
      | (with_reducible exact LeO.none _)
      | (with_reducible refine LeO.ite ?_ ?_)
      | (with_reducible refine LeO.bind ?_ (fun _ => ?_))
      | exact ih0 _ _ _ _
      | exact LeO.none _
      | refine LeO.ite ?_ ?_
      | refine LeO.bind ?_ (fun _ => ?_)
theorem slices_Equal_string_string.mono : ∀ a0 a1 k, LeO (slices_Equal_string_string.f k a0 a1) (slices_Equal_string_string.f (k + 1) a0 a1) := by
  intro a0 a1 k
  have ih0 := slices_Equal_string_string.mono_l k
  unfold slices_Equal_string_string.f
  repeat' first
      | (with_reducible exact ih0 _ _ _ _)
      | (with_reducible exact LeO.refl _)
      | (with_reducible exact LeO.none _)
      | (with_reducible refine LeO.ite ?_ ?_)
      | (with_reducible refine LeO.bind ?_ (fun _ => ?_))
      | exact ih0 _ _ _ _
      | exact LeO.none _
      | refine LeO.ite ?_ ?_
      | refine LeO.bind ?_ (fun _ => ?_)
set_option maxHeartbeats 8000000 in
set_option maxRecDepth 100000 in
theorem slices_Equal_string_string.calls (k : Nat) (A0 : Option Addr) (c0 : Nat) (l0 : List ByteArray) (A1 : Option Addr) (c1 : Nat) (l1 : List ByteArray) (r : Bool) (w : World) (hr0 : Kd.C Kd.string w A0 l0.length l0) (hc0 : l0.length ≤ c0) (hr1 : Kd.C Kd.string w A1 l1.length l1) (hc1 : l1.length ≤ c1) (h : slices_Equal_string_string.f k l0 l1 = some r) :
    Calls Tryz.prog 48 #[.slice A0 l0.length c0, .slice A1 l1.length c1] w fun e w' => e = .returned (.bool r) ∧ Drawn0 w w' := by
  have HR0 := Aside0.mk hr0
  have HC0 := Aside0.mk hc0
  clear hr0 hc0
  have HR1 := Aside0.mk hr1
  have HC1 := Aside0.mk hc1
  clear hr1 hc1
  have H : (if (l0.length : Int) = (l1.length : Int) then (slices_Equal_string_string.l0 k l0 l1 (l0.length : Int) 0) else (some false)) = some r := h
  clear h
  by_cases c3 : (l0.length : Int) = (l1.length : Int)
  · rw [if_pos c3] at H
    have c3b0 : ((l0.length : Int) == (l1.length : Int)) = true := beq_iff_eq.mpr c3
    have c3b1 : ((l0.length : Int) != (l1.length : Int)) = false := bne_eq_false_iff_eq.mpr c3
    have c3b2 : (l0.length == l1.length) = true := by first | simpa using c3 | (simp at c3 ⊢; omega)
    clear c3
    have H' := Aside0.mk H
    clear H
    go_enter Tryz.func48, Tryz.ntmps48
    go_wp2
    repeat (go_quiet (fail); try go_wp2)
    go_loopg [13] k (fun kq v13 w' => ∃ (x13_1 : Int), v13 = .int .i64 x13_1 ∧ Aside0 (slices_Equal_string_string.l0 kq l0 l1 (l0.length : Int) x13_1 = some r) ∧ Aside0 (kq ≤ k) ∧ Drawn0 w w')
    case atStart => exact ⟨(0), (by first | rfl | (simp; done) | (simp [*]; done) | (simp [wrap64]; done)), H', ⟨Nat.le_refl _⟩, by repeat (first | exact Drawn0.refl _ | apply Drawn0.step)⟩
    case round =>
      clear H'
      try clear c1
      try clear p2
      try clear c3
      try clear c3b0
      try clear c3b1
      try clear c3b2
      obtain ⟨x13_1, rfl, HA, HK1, ⟨m1, rfl⟩⟩ := hrel
      cases gk with
      | zero => exact absurd HA.out (by simp [slices_Equal_string_string.l0])
      | succ k1 =>
        have H := HA.out
        clear HA
        simp only [slices_Equal_string_string.l0] at H
        by_cases c4 : x13_1 < (l0.length : Int)
        · rw [if_pos c4] at H
          have c4b0 : decide (x13_1 < (l0.length : Int)) = true := decide_eq_true c4
          clear c4
          by_cases c5 : 0 ≤ x13_1
          · rw [if_pos c5] at H
            have c5b0 : decide (0 ≤ x13_1) = true := decide_eq_true c5
            clear c5
            by_cases c6 : x13_1 < (l0.length : Int)
            · rw [if_pos c6] at H
              have c6b0 : decide (x13_1 < (l0.length : Int)) = true := decide_eq_true c6
              clear c6
              by_cases c7 : x13_1 < (l1.length : Int)
              · rw [if_pos c7] at H
                have c7b0 : decide (x13_1 < (l1.length : Int)) = true := decide_eq_true c7
                clear c7
                by_cases c8 : (rdOf ByteArray.empty l0 x13_1).toList = (rdOf ByteArray.empty l1 x13_1).toList
                · rw [if_pos c8] at H
                  have c8b0 : ((rdOf ByteArray.empty l0 x13_1).toList == (rdOf ByteArray.empty l1 x13_1).toList) = true := beq_iff_eq.mpr c8
                  have c8b1 : ((rdOf ByteArray.empty l0 x13_1).toList != (rdOf ByteArray.empty l1 x13_1).toList) = false := bne_eq_false_iff_eq.mpr c8
                  clear c8
                  have H' := Aside0.mk H
                  clear H
                  have p101 : 0 ≤ (x13_1 : Int) := of_decide_eq_true (by first | (with_reducible assumption) | assumption)
                  have q101 : x13_1 < (l0.length : Int) := of_decide_eq_true (by first | (with_reducible assumption) | assumption)
                  obtain ⟨ad101, e101, hx101_0⟩ := Kd.at_string HR0.out x13_1 p101 q101
                  cases e101
                  replace p101 := eq_true p101
                  replace q101 := eq_true q101
                  have p102 : 0 ≤ (x13_1 : Int) := of_decide_eq_true (by first | (with_reducible assumption) | assumption)
                  have q102 : x13_1 < (l1.length : Int) := of_decide_eq_true (by first | (with_reducible assumption) | assumption)
                  obtain ⟨ad102, e102, hx102_0⟩ := Kd.at_string HR1.out x13_1 p102 q102
                  cases e102
                  replace p102 := eq_true p102
                  replace q102 := eq_true q102
                  go_wp2
                  repeat (go_quiet (fail); try go_wp2)
                  go_roundg k1
                  case measure => have := HK1.out; omega
                  case rel => exact ⟨(wrap64 (x13_1 + 1)), (by first | rfl | (simp; done) | (simp [*]; done) | (simp [wrap64]; done)), H', ⟨by have := HK1.out; omega⟩, by repeat (first | exact Drawn0.refl _ | apply Drawn0.step)⟩
                · rw [if_neg c8] at H
                  have c8b0 : ((rdOf ByteArray.empty l0 x13_1).toList == (rdOf ByteArray.empty l1 x13_1).toList) = false := beq_eq_false_iff_ne.mpr c8
                  have c8b1 : ((rdOf ByteArray.empty l0 x13_1).toList != (rdOf ByteArray.empty l1 x13_1).toList) = true := bne_iff_ne.mpr c8
                  obtain rfl := Option.some.inj H
                  have p101 : 0 ≤ (x13_1 : Int) := of_decide_eq_true (by first | (with_reducible assumption) | assumption)
                  have q101 : x13_1 < (l0.length : Int) := of_decide_eq_true (by first | (with_reducible assumption) | assumption)
                  obtain ⟨ad101, e101, hx101_0⟩ := Kd.at_string HR0.out x13_1 p101 q101
                  cases e101
                  replace p101 := eq_true p101
                  replace q101 := eq_true q101
                  have p102 : 0 ≤ (x13_1 : Int) := of_decide_eq_true (by first | (with_reducible assumption) | assumption)
                  have q102 : x13_1 < (l1.length : Int) := of_decide_eq_true (by first | (with_reducible assumption) | assumption)
                  obtain ⟨ad102, e102, hx102_0⟩ := Kd.at_string HR1.out x13_1 p102 q102
                  cases e102
                  replace p102 := eq_true p102
                  replace q102 := eq_true q102
                  go_wp2
                  repeat (go_quiet (fail); try go_wp2)
                  go_ret
                  try simp only [beq_nil_isEmpty, bytesLess_gtr]
                  exact ⟨by first | rfl | (simp; done) | (simp [*]; done), by repeat (first | exact Drawn0.refl _ | apply Drawn0.step)⟩
              · rw [if_neg c7] at H
                exact absurd H (by simp)
            · rw [if_neg c6] at H
              exact absurd H (by simp)
          · rw [if_neg c5] at H
            exact absurd H (by simp)
        · rw [if_neg c4] at H
          have c4b0 : decide (x13_1 < (l0.length : Int)) = false := decide_eq_false c4
          clear c4
          obtain rfl := Option.some.inj H
          go_wp2
          repeat (go_quiet (fail); try go_wp2)
          go_ret
          try simp only [beq_nil_isEmpty, bytesLess_gtr]
          exact ⟨by first | rfl | (simp; done) | (simp [*]; done), by repeat (first | exact Drawn0.refl _ | apply Drawn0.step)⟩
  · rw [if_neg c3] at H
    have c3b0 : ((l0.length : Int) == (l1.length : Int)) = false := beq_eq_false_iff_ne.mpr c3
    have c3b1 : ((l0.length : Int) != (l1.length : Int)) = true := bne_iff_ne.mpr c3
    have c3b2 : (l0.length == l1.length) = false := by first | simpa using c3 | (simp at c3 ⊢; omega)
    obtain rfl := Option.some.inj H
    go_enter Tryz.func48, Tryz.ntmps48
    go_wp2
    repeat (go_quiet (fail); try go_wp2)
    go_ret
    try simp only [beq_nil_isEmpty, bytesLess_gtr]
    exact ⟨by first | rfl | (simp; done) | (simp [*]; done), by repeat (first | exact Drawn0.refl _ | apply Drawn0.step)⟩
def rubricatorref20_same.l0 : Nat → List ByteArray → List ByteArray → Int → Option (Bool)
  | 0, _, _, _ => none
  | k + 1, x0, x1, x5 => if x5 < (x0.length : Int) then (if 0 ≤ x5 then (if x5 < (x1.length : Int) then (if (rdOf ByteArray.empty x0 x5).toList = (rdOf ByteArray.empty x1 x5).toList then (rubricatorref20_same.l0 k x0 x1 (wrap64 (x5 + 1))) else (some false)) else (none)) else (none)) else (some true)
def rubricatorref20_same.f (k : Nat) (l0 : List ByteArray) (l1 : List ByteArray) : Option (Bool) := if (l0.length : Int) = (l1.length : Int) then (rubricatorref20_same.l0 k l0 l1 0) else (some false)
theorem rubricatorref20_same.mono_l : ∀ k, (∀ y0 y1 y2, LeO (rubricatorref20_same.l0 k y0 y1 y2) (rubricatorref20_same.l0 (k + 1) y0 y1 y2))
  | 0 => fun _ _ _ r h => by simp [rubricatorref20_same.l0] at h
  | k + 1 => by
    have ih0 := rubricatorref20_same.mono_l k
    · intro y0 y1 y2
      unfold rubricatorref20_same.l0
      repeat' first
      | (with_reducible exact ih0 _ _ _)
      | (with_reducible exact LeO.refl _)
      | (with_reducible exact LeO.none _)
      | (with_reducible refine LeO.ite ?_ ?_)
      | (with_reducible refine LeO.bind ?_ (fun _ => ?_))
      | exact ih0 _ _ _
      | exact LeO.none _
      | refine LeO.ite ?_ ?_
      | refine LeO.bind ?_ (fun _ => ?_)
theorem rubricatorref20_same.mono : ∀ a0 a1 k, LeO (rubricatorref20_same.f k a0 a1) (rubricatorref20_same.f (k + 1) a0 a1) := by
  intro a0 a1 k
  have ih0 := rubricatorref20_same.mono_l k
  unfold rubricatorref20_same.f
  repeat' first
      | (with_reducible exact ih0 _ _ _)
      | (with_reducible exact LeO.refl _)
      | (with_reducible exact LeO.none _)
      | (with_reducible refine LeO.ite ?_ ?_)
      | (with_reducible refine LeO.bind ?_ (fun _ => ?_))
      | exact ih0 _ _ _
      | exact LeO.none _
      | refine LeO.ite ?_ ?_
      | refine LeO.bind ?_ (fun _ => ?_)
set_option maxHeartbeats 8000000 in
set_option maxRecDepth 100000 in
theorem rubricatorref20_same.calls (k : Nat) (A0 : Option Addr) (c0 : Nat) (l0 : List ByteArray) (A1 : Option Addr) (c1 : Nat) (l1 : List ByteArray) (r : Bool) (w : World) (hr0 : Kd.C Kd.string w A0 l0.length l0) (hc0 : l0.length ≤ c0) (hr1 : Kd.C Kd.string w A1 l1.length l1) (hc1 : l1.length ≤ c1) (h : rubricatorref20_same.f k l0 l1 = some r) :
    Calls Tryz.prog 49 #[.slice A0 l0.length c0, .slice A1 l1.length c1] w fun e w' => e = .returned (.bool r) ∧ Drawn0 w w' := by
  have HR0 := Aside0.mk hr0
  have HC0 := Aside0.mk hc0
  clear hr0 hc0
  have HR1 := Aside0.mk hr1
  have HC1 := Aside0.mk hc1
  clear hr1 hc1
  have H : (if (l0.length : Int) = (l1.length : Int) then (rubricatorref20_same.l0 k l0 l1 0) else (some false)) = some r := h
  clear h
  by_cases c3 : (l0.length : Int) = (l1.length : Int)
  · rw [if_pos c3] at H
    have c3b0 : ((l0.length : Int) == (l1.length : Int)) = true := beq_iff_eq.mpr c3
    have c3b1 : ((l0.length : Int) != (l1.length : Int)) = false := bne_eq_false_iff_eq.mpr c3
    have c3b2 : (l0.length == l1.length) = true := by first | simpa using c3 | (simp at c3 ⊢; omega)
    clear c3
    have H' := Aside0.mk H
    clear H
    go_enter Tryz.func49, Tryz.ntmps49
    go_wp2
    repeat (go_quiet (fail); try go_wp2)
    go_loopg [5] k (fun kq v5 w' => ∃ (x5_1 : Int), v5 = .int .i64 x5_1 ∧ Aside0 (rubricatorref20_same.l0 kq l0 l1 x5_1 = some r) ∧ Aside0 (kq ≤ k) ∧ Drawn0 w w')
    case atStart => exact ⟨(0), (by first | rfl | (simp; done) | (simp [*]; done) | (simp [wrap64]; done)), H', ⟨Nat.le_refl _⟩, by repeat (first | exact Drawn0.refl _ | apply Drawn0.step)⟩
    case round =>
      clear H'
      try clear c1
      try clear p2
      try clear c3
      try clear c3b0
      try clear c3b1
      try clear c3b2
      obtain ⟨x5_1, rfl, HA, HK1, ⟨m1, rfl⟩⟩ := hrel
      cases gk with
      | zero => exact absurd HA.out (by simp [rubricatorref20_same.l0])
      | succ k1 =>
        have H := HA.out
        clear HA
        simp only [rubricatorref20_same.l0] at H
        by_cases c4 : x5_1 < (l0.length : Int)
        · rw [if_pos c4] at H
          have c4b0 : decide (x5_1 < (l0.length : Int)) = true := decide_eq_true c4
          clear c4
          by_cases c5 : 0 ≤ x5_1
          · rw [if_pos c5] at H
            have c5b0 : decide (0 ≤ x5_1) = true := decide_eq_true c5
            clear c5
            by_cases c6 : x5_1 < (l1.length : Int)
            · rw [if_pos c6] at H
              have c6b0 : decide (x5_1 < (l1.length : Int)) = true := decide_eq_true c6
              clear c6
              by_cases c7 : (rdOf ByteArray.empty l0 x5_1).toList = (rdOf ByteArray.empty l1 x5_1).toList
              · rw [if_pos c7] at H
                have c7b0 : ((rdOf ByteArray.empty l0 x5_1).toList == (rdOf ByteArray.empty l1 x5_1).toList) = true := beq_iff_eq.mpr c7
                have c7b1 : ((rdOf ByteArray.empty l0 x5_1).toList != (rdOf ByteArray.empty l1 x5_1).toList) = false := bne_eq_false_iff_eq.mpr c7
                clear c7
                have H' := Aside0.mk H
                clear H
                have p103 : 0 ≤ (x5_1 : Int) := of_decide_eq_true (by first | (with_reducible assumption) | assumption)
                have q103 : x5_1 < (l0.length : Int) := of_decide_eq_true (by first | (with_reducible assumption) | assumption)
                obtain ⟨ad103, e103, hx103_0⟩ := Kd.at_string HR0.out x5_1 p103 q103
                cases e103
                replace p103 := eq_true p103
                replace q103 := eq_true q103
                have p104 : 0 ≤ (x5_1 : Int) := of_decide_eq_true (by first | (with_reducible assumption) | assumption)
                have q104 : x5_1 < (l1.length : Int) := of_decide_eq_true (by first | (with_reducible assumption) | assumption)
                obtain ⟨ad104, e104, hx104_0⟩ := Kd.at_string HR1.out x5_1 p104 q104
                cases e104
                replace p104 := eq_true p104
                replace q104 := eq_true q104
                go_wp2
                repeat (go_quiet (fail); try go_wp2)
                go_roundg k1
                case measure => have := HK1.out; omega
                case rel => exact ⟨(wrap64 (x5_1 + 1)), (by first | rfl | (simp; done) | (simp [*]; done) | (simp [wrap64]; done)), H', ⟨by have := HK1.out; omega⟩, by repeat (first | exact Drawn0.refl _ | apply Drawn0.step)⟩
              · rw [if_neg c7] at H
                have c7b0 : ((rdOf ByteArray.empty l0 x5_1).toList == (rdOf ByteArray.empty l1 x5_1).toList) = false := beq_eq_false_iff_ne.mpr c7
                have c7b1 : ((rdOf ByteArray.empty l0 x5_1).toList != (rdOf ByteArray.empty l1 x5_1).toList) = true := bne_iff_ne.mpr c7
                obtain rfl := Option.some.inj H
                have p103 : 0 ≤ (x5_1 : Int) := of_decide_eq_true (by first | (with_reducible assumption) | assumption)
                have q103 : x5_1 < (l0.length : Int) := of_decide_eq_true (by first | (with_reducible assumption) | assumption)
                obtain ⟨ad103, e103, hx103_0⟩ := Kd.at_string HR0.out x5_1 p103 q103
                cases e103
                replace p103 := eq_true p103
                replace q103 := eq_true q103
                have p104 : 0 ≤ (x5_1 : Int) := of_decide_eq_true (by first | (with_reducible assumption) | assumption)
                have q104 : x5_1 < (l1.length : Int) := of_decide_eq_true (by first | (with_reducible assumption) | assumption)
                obtain ⟨ad104, e104, hx104_0⟩ := Kd.at_string HR1.out x5_1 p104 q104
                cases e104
                replace p104 := eq_true p104
                replace q104 := eq_true q104
                go_wp2
                repeat (go_quiet (fail); try go_wp2)
                go_ret
                try simp only [beq_nil_isEmpty, bytesLess_gtr]
                exact ⟨by first | rfl | (simp; done) | (simp [*]; done), by repeat (first | exact Drawn0.refl _ | apply Drawn0.step)⟩
            · rw [if_neg c6] at H
              exact absurd H (by simp)
          · rw [if_neg c5] at H
            exact absurd H (by simp)
        · rw [if_neg c4] at H
          have c4b0 : decide (x5_1 < (l0.length : Int)) = false := decide_eq_false c4
          clear c4
          obtain rfl := Option.some.inj H
          go_wp2
          repeat (go_quiet (fail); try go_wp2)
          go_ret
          try simp only [beq_nil_isEmpty, bytesLess_gtr]
          exact ⟨by first | rfl | (simp; done) | (simp [*]; done), by repeat (first | exact Drawn0.refl _ | apply Drawn0.step)⟩
  · rw [if_neg c3] at H
    have c3b0 : ((l0.length : Int) == (l1.length : Int)) = false := beq_eq_false_iff_ne.mpr c3
    have c3b1 : ((l0.length : Int) != (l1.length : Int)) = true := bne_iff_ne.mpr c3
    have c3b2 : (l0.length == l1.length) = false := by first | simpa using c3 | (simp at c3 ⊢; omega)
    obtain rfl := Option.some.inj H
    go_enter Tryz.func49, Tryz.ntmps49
    go_wp2
    repeat (go_quiet (fail); try go_wp2)
    go_ret
    try simp only [beq_nil_isEmpty, bytesLess_gtr]
    exact ⟨by first | rfl | (simp; done) | (simp [*]; done), by repeat (first | exact Drawn0.refl _ | apply Drawn0.step)⟩
mutual
def rubricatorref20_Choose.l0 : Nat → List (List ByteArray) → List Int → List (List ByteArray) → Int → Option (Int × Int)
  | 0, _, _, _, _ => none
  | k + 1, x0, x1, x2, x8 => if x8 < 2 then (rubricatorref20_Choose.l1 k x0 x1 x2 x8 0) else (some ((-1), (-1)))
def rubricatorref20_Choose.l1 : Nat → List (List ByteArray) → List Int → List (List ByteArray) → Int → Int → Option (Int × Int)
  | 0, _, _, _, _, _ => none
  | k + 1, x0, x1, x2, x8, x9 => if x9 < (x1.length : Int) then (rubricatorref20_Choose.l2 k x0 x1 x2 x8 x9 0) else (rubricatorref20_Choose.l0 k x0 x1 x2 (wrap64 (x8 + 1)))
def rubricatorref20_Choose.l2 : Nat → List (List ByteArray) → List Int → List (List ByteArray) → Int → Int → Int → Option (Int × Int)
  | 0, _, _, _, _, _, _ => none
  | k + 1, x0, x1, x2, x8, x9, x10 => if x10 < (x0.length : Int) then (if 0 ≤ x10 then (if 0 ≤ x9 then (if x9 < (x2.length : Int) then ((rubricatorref20_same.f k (rd_L1 x0 x10) (rd_L1 x2 x9)).bind fun t107 => (if t107 = true then (if x8 = 0 then (if x9 < (x1.length : Int) then (if (rd x1 x9) = 0 then (some (x9, x10)) else (if x8 = 1 then (if (rd x1 x9) ≥ 1 then (if (rd x1 x9) ≤ 4 then (some (x9, x10)) else (rubricatorref20_Choose.l2 k x0 x1 x2 x8 x9 (wrap64 (x10 + 1)))) else (rubricatorref20_Choose.l2 k x0 x1 x2 x8 x9 (wrap64 (x10 + 1)))) else (rubricatorref20_Choose.l2 k x0 x1 x2 x8 x9 (wrap64 (x10 + 1))))) else (none)) else (if x8 = 1 then (if x9 < (x1.length : Int) then (if (rd x1 x9) ≥ 1 then (if (rd x1 x9) ≤ 4 then (some (x9, x10)) else (rubricatorref20_Choose.l2 k x0 x1 x2 x8 x9 (wrap64 (x10 + 1)))) else (rubricatorref20_Choose.l2 k x0 x1 x2 x8 x9 (wrap64 (x10 + 1)))) else (none)) else (rubricatorref20_Choose.l2 k x0 x1 x2 x8 x9 (wrap64 (x10 + 1))))) else (rubricatorref20_Choose.l2 k x0 x1 x2 x8 x9 (wrap64 (x10 + 1))))) else (none)) else (none)) else (none)) else (rubricatorref20_Choose.l1 k x0 x1 x2 x8 (wrap64 (x9 + 1)))
end
def rubricatorref20_Choose.f (k : Nat) (l0 : List (List ByteArray)) (l1 : List Int) (l2 : List (List ByteArray)) : Option (Int × Int) := rubricatorref20_Choose.l0 k l0 l1 l2 0
theorem rubricatorref20_Choose.mono_l : ∀ k, (∀ y0 y1 y2 y3, LeO (rubricatorref20_Choose.l0 k y0 y1 y2 y3) (rubricatorref20_Choose.l0 (k + 1) y0 y1 y2 y3)) ∧ (∀ y0 y1 y2 y3 y4, LeO (rubricatorref20_Choose.l1 k y0 y1 y2 y3 y4) (rubricatorref20_Choose.l1 (k + 1) y0 y1 y2 y3 y4)) ∧ (∀ y0 y1 y2 y3 y4 y5, LeO (rubricatorref20_Choose.l2 k y0 y1 y2 y3 y4 y5) (rubricatorref20_Choose.l2 (k + 1) y0 y1 y2 y3 y4 y5))
  | 0 => ⟨fun _ _ _ _ r h => by simp [rubricatorref20_Choose.l0] at h, fun _ _ _ _ _ r h => by simp [rubricatorref20_Choose.l1] at h, fun _ _ _ _ _ _ r h => by simp [rubricatorref20_Choose.l2] at h⟩
  | k + 1 => by
    obtain ⟨ih0, ih1, ih2⟩ := rubricatorref20_Choose.mono_l k
    refine ⟨?_, ?_, ?_⟩
    · intro y0 y1 y2 y3
      unfold rubricatorref20_Choose.l0
      repeat' first
      | (with_reducible exact ih0 _ _ _ _)
      | (with_reducible exact ih1 _ _ _ _ _)
      | (with_reducible exact ih2 _ _ _ _ _ _)
      | (with_reducible exact rubricatorref20_same.mono _ _ _)
      | (with_reducible exact LeO.refl _)
      | (with_reducible exact LeO.none _)
      | (with_reducible refine LeO.ite ?_ ?_)
      | (with_reducible refine LeO.bind ?_ (fun _ => ?_))
      | exact ih0 _ _ _ _
      | exact ih1 _ _ _ _ _
      | exact ih2 _ _ _ _ _ _
      | exact rubricatorref20_same.mono _ _ _
      | exact LeO.none _
      | refine LeO.ite ?_ ?_
      | refine LeO.bind ?_ (fun _ => ?_)
    · intro y0 y1 y2 y3 y4
      unfold rubricatorref20_Choose.l1
      repeat' first
      | (with_reducible exact ih0 _ _ _ _)
      | (with_reducible exact ih1 _ _ _ _ _)
      | (with_reducible exact ih2 _ _ _ _ _ _)
      | (with_reducible exact rubricatorref20_same.mono _ _ _)
      | (with_reducible exact LeO.refl _)
      | (with_reducible exact LeO.none _)
      | (with_reducible refine LeO.ite ?_ ?_)
      | (with_reducible refine LeO.bind ?_ (fun _ => ?_))
      | exact ih0 _ _ _ _
      | exact ih1 _ _ _ _ _
      | exact ih2 _ _ _ _ _ _
      | exact rubricatorref20_same.mono _ _ _
      | exact LeO.none _
      | refine LeO.ite ?_ ?_
      | refine LeO.bind ?_ (fun _ => ?_)
    · intro y0 y1 y2 y3 y4 y5
      unfold rubricatorref20_Choose.l2
      repeat' first
      | (with_reducible exact ih0 _ _ _ _)
      | (with_reducible exact ih1 _ _ _ _ _)
      | (with_reducible exact ih2 _ _ _ _ _ _)
      | (with_reducible exact rubricatorref20_same.mono _ _ _)
      | (with_reducible exact LeO.refl _)
      | (with_reducible exact LeO.none _)
      | (with_reducible refine LeO.ite ?_ ?_)
      | (with_reducible refine LeO.bind ?_ (fun _ => ?_))
      | exact ih0 _ _ _ _
      | exact ih1 _ _ _ _ _
      | exact ih2 _ _ _ _ _ _
      | exact rubricatorref20_same.mono _ _ _
      | exact LeO.none _
      | refine LeO.ite ?_ ?_
      | refine LeO.bind ?_ (fun _ => ?_)
theorem rubricatorref20_Choose.mono : ∀ a0 a1 a2 k, LeO (rubricatorref20_Choose.f k a0 a1 a2) (rubricatorref20_Choose.f (k + 1) a0 a1 a2) := by
  intro a0 a1 a2 k
  obtain ⟨ih0, ih1, ih2⟩ := rubricatorref20_Choose.mono_l k
  unfold rubricatorref20_Choose.f
  repeat' first
      | (with_reducible exact ih0 _ _ _ _)
      | (with_reducible exact ih1 _ _ _ _ _)
      | (with_reducible exact ih2 _ _ _ _ _ _)
      | (with_reducible exact rubricatorref20_same.mono _ _ _)
      | (with_reducible exact LeO.refl _)
      | (with_reducible exact LeO.none _)
      | (with_reducible refine LeO.ite ?_ ?_)
      | (with_reducible refine LeO.bind ?_ (fun _ => ?_))
      | exact ih0 _ _ _ _
      | exact ih1 _ _ _ _ _
      | exact ih2 _ _ _ _ _ _
      | exact rubricatorref20_same.mono _ _ _
      | exact LeO.none _
      | refine LeO.ite ?_ ?_
      | refine LeO.bind ?_ (fun _ => ?_)
set_option maxHeartbeats 8000000 in
set_option maxRecDepth 100000 in
theorem rubricatorref20_Choose.calls (k : Nat) (A0 : Option Addr) (c0 : Nat) (l0 : List (List ByteArray)) (A1 : Option Addr) (c1 : Nat) (l1 : List Int) (A2 : Option Addr) (c2 : Nat) (l2 : List (List ByteArray)) (r1 : Int) (r2 : Int) (w : World) (hr0 : Kd.C (Kd.slice 9 Kd.string) w A0 l0.length l0) (hc0 : l0.length ≤ c0) (hr1 : Kd.C (Kd.int .i64) w A1 l1.length l1) (hc1 : l1.length ≤ c1) (hr2 : Kd.C (Kd.slice 9 Kd.string) w A2 l2.length l2) (hc2 : l2.length ≤ c2) (h : rubricatorref20_Choose.f k l0 l1 l2 = some (r1, r2)) :
    Calls Tryz.prog 27 #[.slice A0 l0.length c0, .slice A1 l1.length c1, .slice A2 l2.length c2] w fun e w' => e = .returned (.tuple #[.int .i64 r1, .int .i64 r2]) ∧ Drawn0 w w' := by
  have HR0 := Aside0.mk hr0
  have HC0 := Aside0.mk hc0
  clear hr0 hc0
  have HR1 := Aside0.mk hr1
  have HC1 := Aside0.mk hc1
  clear hr1 hc1
  have HR2 := Aside0.mk hr2
  have HC2 := Aside0.mk hc2
  clear hr2 hc2
  have H : (rubricatorref20_Choose.l0 k l0 l1 l2 0) = some (r1, r2) := h
  clear h
  have H' := Aside0.mk H
  clear H
  go_enter Tryz.func27, Tryz.ntmps27
  go_wp2
  repeat (go_quiet (fail); try go_wp2)
  go_loopg [8] k (fun kq v8 w' => ∃ (x8_1 : Int), v8 = .int .i64 x8_1 ∧ Aside0 (rubricatorref20_Choose.l0 kq l0 l1 l2 x8_1 = some (r1, r2)) ∧ Aside0 (kq ≤ k) ∧ Drawn0 w w')
  case atStart => exact ⟨(0), (by first | rfl | (simp; done) | (simp [*]; done) | (simp [wrap64]; done)), H', ⟨Nat.le_refl _⟩, by repeat (first | exact Drawn0.refl _ | apply Drawn0.step)⟩
  case round =>
    clear H'
    try clear c1
    try clear c2
    try clear p2
    obtain ⟨x8_1, rfl, HA, HK1, ⟨m1, rfl⟩⟩ := hrel
    cases gk with
    | zero => exact absurd HA.out (by simp [rubricatorref20_Choose.l0])
    | succ k1 =>
      have H := HA.out
      clear HA
      simp only [rubricatorref20_Choose.l0] at H
      by_cases c4 : x8_1 < 2
      · rw [if_pos c4] at H
        have c4b0 : decide (x8_1 < 2) = true := decide_eq_true c4
        clear c4
        have H' := Aside0.mk H
        clear H
        go_wp2
        repeat (go_quiet (fail); try go_wp2)
        go_loopg [9] k1 (fun kq v9 w' => ∃ (x9_2 : Int), v9 = .int .i64 x9_2 ∧ Aside0 (rubricatorref20_Choose.l1 kq l0 l1 l2 x8_1 x9_2 = some (r1, r2)) ∧ Aside0 (kq ≤ k1) ∧ Drawn0 w w')
        case atStart => exact ⟨(0), (by first | rfl | (simp; done) | (simp [*]; done) | (simp [wrap64]; done)), H', ⟨Nat.le_refl _⟩, by repeat (first | exact Drawn0.refl _ | apply Drawn0.step)⟩
        case round =>
          clear H'
          try clear c1
          try clear c2
          try clear p2
          try clear c4
          try clear c4b0
          try clear p2
          obtain ⟨x9_2, rfl, HA, HK2, ⟨m2, rfl⟩⟩ := hrel
          cases gk with
          | zero => exact absurd HA.out (by simp [rubricatorref20_Choose.l1])
          | succ k2 =>
            have H := HA.out
            clear HA
            simp only [rubricatorref20_Choose.l1] at H
            by_cases c5 : x9_2 < (l1.length : Int)
            · rw [if_pos c5] at H
              have c5b0 : decide (x9_2 < (l1.length : Int)) = true := decide_eq_true c5
              clear c5
              have H' := Aside0.mk H
              clear H
              go_wp2
              repeat (go_quiet (fail); try go_wp2)
              go_loopg [10] k2 (fun kq v10 w' => ∃ (x10_3 : Int), v10 = .int .i64 x10_3 ∧ Aside0 (rubricatorref20_Choose.l2 kq l0 l1 l2 x8_1 x9_2 x10_3 = some (r1, r2)) ∧ Aside0 (kq ≤ k2) ∧ Drawn0 w w')
              case atStart => exact ⟨(0), (by first | rfl | (simp; done) | (simp [*]; done) | (simp [wrap64]; done)), H', ⟨Nat.le_refl _⟩, by repeat (first | exact Drawn0.refl _ | apply Drawn0.step)⟩
              case round =>
                clear H'
                try clear c1
                try clear c2
                try clear p2
                try clear c4
                try clear c4b0
                try clear c5
                try clear c5b0
                try clear p2
                obtain ⟨x10_3, rfl, HA, HK3, ⟨m3, rfl⟩⟩ := hrel
                cases gk with
                | zero => exact absurd HA.out (by simp [rubricatorref20_Choose.l2])
                | succ k3 =>
                  have H := HA.out
                  clear HA
                  simp only [rubricatorref20_Choose.l2] at H
                  by_cases c6 : x10_3 < (l0.length : Int)
                  · rw [if_pos c6] at H
                    have c6b0 : decide (x10_3 < (l0.length : Int)) = true := decide_eq_true c6
                    clear c6
                    by_cases c7 : 0 ≤ x10_3
                    · rw [if_pos c7] at H
                      have c7b0 : decide (0 ≤ x10_3) = true := decide_eq_true c7
                      clear c7
                      by_cases c8 : 0 ≤ x9_2
                      · rw [if_pos c8] at H
                        have c8b0 : decide (0 ≤ x9_2) = true := decide_eq_true c8
                        clear c8
                        by_cases c9 : x9_2 < (l2.length : Int)
                        · rw [if_pos c9] at H
                          have c9b0 : decide (x9_2 < (l2.length : Int)) = true := decide_eq_true c9
                          clear c9
                          replace H := Option.bind_eq_some_iff.mp H
                          obtain ⟨t107, A100, H⟩ := H
                          replace H : (if t107 = true then (if x8_1 = 0 then (if x9_2 < (l1.length : Int) then (if (rd l1 x9_2) = 0 then (some (x9_2, x10_3)) else (if x8_1 = 1 then (if (rd l1 x9_2) ≥ 1 then (if (rd l1 x9_2) ≤ 4 then (some (x9_2, x10_3)) else (rubricatorref20_Choose.l2 k3 l0 l1 l2 x8_1 x9_2 (wrap64 (x10_3 + 1)))) else (rubricatorref20_Choose.l2 k3 l0 l1 l2 x8_1 x9_2 (wrap64 (x10_3 + 1)))) else (rubricatorref20_Choose.l2 k3 l0 l1 l2 x8_1 x9_2 (wrap64 (x10_3 + 1))))) else (none)) else (if x8_1 = 1 then (if x9_2 < (l1.length : Int) then (if (rd l1 x9_2) ≥ 1 then (if (rd l1 x9_2) ≤ 4 then (some (x9_2, x10_3)) else (rubricatorref20_Choose.l2 k3 l0 l1 l2 x8_1 x9_2 (wrap64 (x10_3 + 1)))) else (rubricatorref20_Choose.l2 k3 l0 l1 l2 x8_1 x9_2 (wrap64 (x10_3 + 1)))) else (none)) else (rubricatorref20_Choose.l2 k3 l0 l1 l2 x8_1 x9_2 (wrap64 (x10_3 + 1))))) else (rubricatorref20_Choose.l2 k3 l0 l1 l2 x8_1 x9_2 (wrap64 (x10_3 + 1)))) = some (r1, r2) := H
                          have A10 := Aside0.mk A100
                          clear A100
                          by_cases c11 : t107 = true
                          · subst c11
                            have H1 : (if x8_1 = 0 then (if x9_2 < (l1.length : Int) then (if (rd l1 x9_2) = 0 then (some (x9_2, x10_3)) else (if x8_1 = 1 then (if (rd l1 x9_2) ≥ 1 then (if (rd l1 x9_2) ≤ 4 then (some (x9_2, x10_3)) else (rubricatorref20_Choose.l2 k3 l0 l1 l2 x8_1 x9_2 (wrap64 (x10_3 + 1)))) else (rubricatorref20_Choose.l2 k3 l0 l1 l2 x8_1 x9_2 (wrap64 (x10_3 + 1)))) else (rubricatorref20_Choose.l2 k3 l0 l1 l2 x8_1 x9_2 (wrap64 (x10_3 + 1))))) else (none)) else (if x8_1 = 1 then (if x9_2 < (l1.length : Int) then (if (rd l1 x9_2) ≥ 1 then (if (rd l1 x9_2) ≤ 4 then (some (x9_2, x10_3)) else (rubricatorref20_Choose.l2 k3 l0 l1 l2 x8_1 x9_2 (wrap64 (x10_3 + 1)))) else (rubricatorref20_Choose.l2 k3 l0 l1 l2 x8_1 x9_2 (wrap64 (x10_3 + 1)))) else (none)) else (rubricatorref20_Choose.l2 k3 l0 l1 l2 x8_1 x9_2 (wrap64 (x10_3 + 1))))) = some (r1, r2) := by rw [if_pos rfl] at H; exact H
                            clear H
                            have H := H1
                            clear H1
                            by_cases c12 : x8_1 = 0
                            · rw [if_pos c12] at H
                              have c12b0 : (x8_1 == 0) = true := beq_iff_eq.mpr c12
                              have c12b1 : (x8_1 != 0) = false := bne_eq_false_iff_eq.mpr c12
                              clear c12
                              by_cases c13 : x9_2 < (l1.length : Int)
                              · rw [if_pos c13] at H
                                have c13b0 : decide (x9_2 < (l1.length : Int)) = true := decide_eq_true c13
                                clear c13
                                by_cases c14 : (rd l1 x9_2) = 0
                                · rw [if_pos c14] at H
                                  have c14b0 : ((rd l1 x9_2) == 0) = true := beq_iff_eq.mpr c14
                                  have c14b1 : ((rd l1 x9_2) != 0) = false := bne_eq_false_iff_eq.mpr c14
                                  clear c14
                                  simp only [Option.some.injEq, Prod.mk.injEq] at H
                                  obtain ⟨rfl, rfl⟩ := H
                                  have p105 : 0 ≤ (x10_3 : Int) := of_decide_eq_true (by first | (with_reducible assumption) | assumption)
                                  have q105 : x10_3 < (l0.length : Int) := of_decide_eq_true (by first | (with_reducible assumption) | assumption)
                                  obtain ⟨ad105, A105_0, c105_0, e105, hx105_0, hl105_0, hi105_0⟩ := at_L1 HR0.out x10_3 p105 q105
                                  cases e105
                                  have HR105_0 := Aside0.mk hi105_0
                                  have HC105_0 := Aside0.mk hl105_0
                                  clear hi105_0 hl105_0
                                  replace p105 := eq_true p105
                                  replace q105 := eq_true q105
                                  have p106 : 0 ≤ (x9_2 : Int) := of_decide_eq_true (by first | (with_reducible assumption) | assumption)
                                  have q106 : x9_2 < (l2.length : Int) := of_decide_eq_true (by first | (with_reducible assumption) | assumption)
                                  obtain ⟨ad106, A106_0, c106_0, e106, hx106_0, hl106_0, hi106_0⟩ := at_L1 HR2.out x9_2 p106 q106
                                  cases e106
                                  have HR106_0 := Aside0.mk hi106_0
                                  have HC106_0 := Aside0.mk hl106_0
                                  clear hi106_0 hl106_0
                                  replace p106 := eq_true p106
                                  replace q106 := eq_true q106
                                  go_wp2_with (first | (go_at_call 49; (with_reducible refine (rubricatorref20_same.calls k3 _ _ (rd_L1 l0 x10_3) _ _ (rd_L1 l2 x9_2) true _ ?side1 ?side2 ?side3 ?side4 A10.out).mono ?_); (case side1 => repeat (first | exact HR105_0.out | (with_reducible refine Kd.C_alloc ?_ _) | (with_reducible refine Kd.C_drewN ?_ _) | (with_reducible refine Kd.C_drew ?_))); (case side2 => exact HC105_0.out); (case side3 => repeat (first | exact HR106_0.out | (with_reducible refine Kd.C_alloc ?_ _) | (with_reducible refine Kd.C_drewN ?_ _) | (with_reducible refine Kd.C_drew ?_))); (case side4 => exact HC106_0.out); rintro e w' ⟨rfl, ⟨nd, rfl⟩⟩; (try first | exact ⟨rfl, _, World.drewN_drewN _ _ _⟩ | exact ⟨rfl, _, Eq.trans (World.drewN_drewN _ _ _) (congrArg (World.drewN _) (Nat.add_assoc _ _ _))⟩); have p108 : 0 ≤ (x9_2 : Int) := of_decide_eq_true (by first | (with_reducible assumption) | assumption); have q108 : x9_2 < (l1.length : Int) := of_decide_eq_true (by first | (with_reducible assumption) | assumption); obtain ⟨ad108, e108, hx108_0⟩ := Kd.at_int HR1.out x9_2 p108 q108; cases e108; replace p108 := eq_true p108; replace q108 := eq_true q108))
                                  repeat (go_quiet (first | (go_at_call 49; (with_reducible refine (rubricatorref20_same.calls k3 _ _ (rd_L1 l0 x10_3) _ _ (rd_L1 l2 x9_2) true _ ?side1 ?side2 ?side3 ?side4 A10.out).mono ?_); (case side1 => repeat (first | exact HR105_0.out | (with_reducible refine Kd.C_alloc ?_ _) | (with_reducible refine Kd.C_drewN ?_ _) | (with_reducible refine Kd.C_drew ?_))); (case side2 => exact HC105_0.out); (case side3 => repeat (first | exact HR106_0.out | (with_reducible refine Kd.C_alloc ?_ _) | (with_reducible refine Kd.C_drewN ?_ _) | (with_reducible refine Kd.C_drew ?_))); (case side4 => exact HC106_0.out); rintro e w' ⟨rfl, ⟨nd, rfl⟩⟩; (try first | exact ⟨rfl, _, World.drewN_drewN _ _ _⟩ | exact ⟨rfl, _, Eq.trans (World.drewN_drewN _ _ _) (congrArg (World.drewN _) (Nat.add_assoc _ _ _))⟩); have p108 : 0 ≤ (x9_2 : Int) := of_decide_eq_true (by first | (with_reducible assumption) | assumption); have q108 : x9_2 < (l1.length : Int) := of_decide_eq_true (by first | (with_reducible assumption) | assumption); obtain ⟨ad108, e108, hx108_0⟩ := Kd.at_int HR1.out x9_2 p108 q108; cases e108; replace p108 := eq_true p108; replace q108 := eq_true q108)); try go_wp2_with (first | (go_at_call 49; (with_reducible refine (rubricatorref20_same.calls k3 _ _ (rd_L1 l0 x10_3) _ _ (rd_L1 l2 x9_2) true _ ?side1 ?side2 ?side3 ?side4 A10.out).mono ?_); (case side1 => repeat (first | exact HR105_0.out | (with_reducible refine Kd.C_alloc ?_ _) | (with_reducible refine Kd.C_drewN ?_ _) | (with_reducible refine Kd.C_drew ?_))); (case side2 => exact HC105_0.out); (case side3 => repeat (first | exact HR106_0.out | (with_reducible refine Kd.C_alloc ?_ _) | (with_reducible refine Kd.C_drewN ?_ _) | (with_reducible refine Kd.C_drew ?_))); (case side4 => exact HC106_0.out); rintro e w' ⟨rfl, ⟨nd, rfl⟩⟩; (try first | exact ⟨rfl, _, World.drewN_drewN _ _ _⟩ | exact ⟨rfl, _, Eq.trans (World.drewN_drewN _ _ _) (congrArg (World.drewN _) (Nat.add_assoc _ _ _))⟩); have p108 : 0 ≤ (x9_2 : Int) := of_decide_eq_true (by first | (with_reducible assumption) | assumption); have q108 : x9_2 < (l1.length : Int) := of_decide_eq_true (by first | (with_reducible assumption) | assumption); obtain ⟨ad108, e108, hx108_0⟩ := Kd.at_int HR1.out x9_2 p108 q108; cases e108; replace p108 := eq_true p108; replace q108 := eq_true q108)))
                                  go_ret2
                                  try simp only [beq_nil_isEmpty, bytesLess_gtr]
                                  exact ⟨by first | rfl | (simp; done) | (simp [*]; done), by repeat (first | exact Drawn0.refl _ | apply Drawn0.step)⟩
                                · rw [if_neg c14] at H
                                  have c14b0 : ((rd l1 x9_2) == 0) = false := beq_eq_false_iff_ne.mpr c14
                                  have c14b1 : ((rd l1 x9_2) != 0) = true := bne_iff_ne.mpr c14
                                  by_cases c15 : x8_1 = 1
                                  · rw [if_pos c15] at H
                                    have c15b0 : (x8_1 == 1) = true := beq_iff_eq.mpr c15
                                    have c15b1 : (x8_1 != 1) = false := bne_eq_false_iff_eq.mpr c15
                                    clear c15
                                    by_cases c16 : (rd l1 x9_2) ≥ 1
                                    · rw [if_pos c16] at H
                                      have c16b0 : decide (1 ≤ (rd l1 x9_2)) = true := decide_eq_true c16
                                      clear c16
                                      by_cases c17 : (rd l1 x9_2) ≤ 4
                                      · rw [if_pos c17] at H
                                        have c17b0 : decide ((rd l1 x9_2) ≤ 4) = true := decide_eq_true c17
                                        clear c17
                                        simp only [Option.some.injEq, Prod.mk.injEq] at H
                                        obtain ⟨rfl, rfl⟩ := H
                                        have p105 : 0 ≤ (x10_3 : Int) := of_decide_eq_true (by first | (with_reducible assumption) | assumption)
                                        have q105 : x10_3 < (l0.length : Int) := of_decide_eq_true (by first | (with_reducible assumption) | assumption)
                                        obtain ⟨ad105, A105_0, c105_0, e105, hx105_0, hl105_0, hi105_0⟩ := at_L1 HR0.out x10_3 p105 q105
                                        cases e105
                                        have HR105_0 := Aside0.mk hi105_0
                                        have HC105_0 := Aside0.mk hl105_0
                                        clear hi105_0 hl105_0
                                        replace p105 := eq_true p105
                                        replace q105 := eq_true q105
                                        have p106 : 0 ≤ (x9_2 : Int) := of_decide_eq_true (by first | (with_reducible assumption) | assumption)
                                        have q106 : x9_2 < (l2.length : Int) := of_decide_eq_true (by first | (with_reducible assumption) | assumption)
                                        obtain ⟨ad106, A106_0, c106_0, e106, hx106_0, hl106_0, hi106_0⟩ := at_L1 HR2.out x9_2 p106 q106
                                        cases e106
                                        have HR106_0 := Aside0.mk hi106_0
                                        have HC106_0 := Aside0.mk hl106_0
                                        clear hi106_0 hl106_0
                                        replace p106 := eq_true p106
                                        replace q106 := eq_true q106
                                        go_wp2_with (first | (go_at_call 49; (with_reducible refine (rubricatorref20_same.calls k3 _ _ (rd_L1 l0 x10_3) _ _ (rd_L1 l2 x9_2) true _ ?side1 ?side2 ?side3 ?side4 A10.out).mono ?_); (case side1 => repeat (first | exact HR105_0.out | (with_reducible refine Kd.C_alloc ?_ _) | (with_reducible refine Kd.C_drewN ?_ _) | (with_reducible refine Kd.C_drew ?_))); (case side2 => exact HC105_0.out); (case side3 => repeat (first | exact HR106_0.out | (with_reducible refine Kd.C_alloc ?_ _) | (with_reducible refine Kd.C_drewN ?_ _) | (with_reducible refine Kd.C_drew ?_))); (case side4 => exact HC106_0.out); rintro e w' ⟨rfl, ⟨nd, rfl⟩⟩; (try first | exact ⟨rfl, _, World.drewN_drewN _ _ _⟩ | exact ⟨rfl, _, Eq.trans (World.drewN_drewN _ _ _) (congrArg (World.drewN _) (Nat.add_assoc _ _ _))⟩); have p108 : 0 ≤ (x9_2 : Int) := of_decide_eq_true (by first | (with_reducible assumption) | assumption); have q108 : x9_2 < (l1.length : Int) := of_decide_eq_true (by first | (with_reducible assumption) | assumption); obtain ⟨ad108, e108, hx108_0⟩ := Kd.at_int HR1.out x9_2 p108 q108; cases e108; replace p108 := eq_true p108; replace q108 := eq_true q108; have p109 : 0 ≤ (x9_2 : Int) := of_decide_eq_true (by first | (with_reducible assumption) | assumption); have q109 : x9_2 < (l1.length : Int) := of_decide_eq_true (by first | (with_reducible assumption) | assumption); obtain ⟨ad109, e109, hx109_0⟩ := Kd.at_int HR1.out x9_2 p109 q109; obtain rfl : ad108 = ad109 := (by injection e109); replace p109 := eq_true p109; replace q109 := eq_true q109; have p110 : 0 ≤ (x9_2 : Int) := of_decide_eq_true (by first | (with_reducible assumption) | assumption); have q110 : x9_2 < (l1.length : Int) := of_decide_eq_true (by first | (with_reducible assumption) | assumption); obtain ⟨ad110, e110, hx110_0⟩ := Kd.at_int HR1.out x9_2 p110 q110; obtain rfl : ad108 = ad110 := (by injection e110); replace p110 := eq_true p110; replace q110 := eq_true q110))
                                        repeat (go_quiet (first | (go_at_call 49; (with_reducible refine (rubricatorref20_same.calls k3 _ _ (rd_L1 l0 x10_3) _ _ (rd_L1 l2 x9_2) true _ ?side1 ?side2 ?side3 ?side4 A10.out).mono ?_); (case side1 => repeat (first | exact HR105_0.out | (with_reducible refine Kd.C_alloc ?_ _) | (with_reducible refine Kd.C_drewN ?_ _) | (with_reducible refine Kd.C_drew ?_))); (case side2 => exact HC105_0.out); (case side3 => repeat (first | exact HR106_0.out | (with_reducible refine Kd.C_alloc ?_ _) | (with_reducible refine Kd.C_drewN ?_ _) | (with_reducible refine Kd.C_drew ?_))); (case side4 => exact HC106_0.out); rintro e w' ⟨rfl, ⟨nd, rfl⟩⟩; (try first | exact ⟨rfl, _, World.drewN_drewN _ _ _⟩ | exact ⟨rfl, _, Eq.trans (World.drewN_drewN _ _ _) (congrArg (World.drewN _) (Nat.add_assoc _ _ _))⟩); have p108 : 0 ≤ (x9_2 : Int) := of_decide_eq_true (by first | (with_reducible assumption) | assumption); have q108 : x9_2 < (l1.length : Int) := of_decide_eq_true (by first | (with_reducible assumption) | assumption); obtain ⟨ad108, e108, hx108_0⟩ := Kd.at_int HR1.out x9_2 p108 q108; cases e108; replace p108 := eq_true p108; replace q108 := eq_true q108; have p109 : 0 ≤ (x9_2 : Int) := of_decide_eq_true (by first | (with_reducible assumption) | assumption); have q109 : x9_2 < (l1.length : Int) := of_decide_eq_true (by first | (with_reducible assumption) | assumption); obtain ⟨ad109, e109, hx109_0⟩ := Kd.at_int HR1.out x9_2 p109 q109; obtain rfl : ad108 = ad109 := (by injection e109); replace p109 := eq_true p109; replace q109 := eq_true q109; have p110 : 0 ≤ (x9_2 : Int) := of_decide_eq_true (by first | (with_reducible assumption) | assumption); have q110 : x9_2 < (l1.length : Int) := of_decide_eq_true (by first | (with_reducible assumption) | assumption); obtain ⟨ad110, e110, hx110_0⟩ := Kd.at_int HR1.out x9_2 p110 q110; obtain rfl : ad108 = ad110 := (by injection e110); replace p110 := eq_true p110; replace q110 := eq_true q110)); try go_wp2_with (first | (go_at_call 49; (with_reducible refine (rubricatorref20_same.calls k3 _ _ (rd_L1 l0 x10_3) _ _ (rd_L1 l2 x9_2) true _ ?side1 ?side2 ?side3 ?side4 A10.out).mono ?_); (case side1 => repeat (first | exact HR105_0.out | (with_reducible refine Kd.C_alloc ?_ _) | (with_reducible refine Kd.C_drewN ?_ _) | (with_reducible refine Kd.C_drew ?_))); (case side2 => exact HC105_0.out); (case side3 => repeat (first | exact HR106_0.out | (with_reducible refine Kd.C_alloc ?_ _) | (with_reducible refine Kd.C_drewN ?_ _) | (with_reducible refine Kd.C_drew ?_))); (case side4 => exact HC106_0.out); rintro e w' ⟨rfl, ⟨nd, rfl⟩⟩; (try first | exact ⟨rfl, _, World.drewN_drewN _ _ _⟩ | exact ⟨rfl, _, Eq.trans (World.drewN_drewN _ _ _) (congrArg (World.drewN _) (Nat.add_assoc _ _ _))⟩); have p108 : 0 ≤ (x9_2 : Int) := of_decide_eq_true (by first | (with_reducible assumption) | assumption); have q108 : x9_2 < (l1.length : Int) := of_decide_eq_true (by first | (with_reducible assumption) | assumption); obtain ⟨ad108, e108, hx108_0⟩ := Kd.at_int HR1.out x9_2 p108 q108; cases e108; replace p108 := eq_true p108; replace q108 := eq_true q108; have p109 : 0 ≤ (x9_2 : Int) := of_decide_eq_true (by first | (with_reducible assumption) | assumption); have q109 : x9_2 < (l1.length : Int) := of_decide_eq_true (by first | (with_reducible assumption) | assumption); obtain ⟨ad109, e109, hx109_0⟩ := Kd.at_int HR1.out x9_2 p109 q109; obtain rfl : ad108 = ad109 := (by injection e109); replace p109 := eq_true p109; replace q109 := eq_true q109; have p110 : 0 ≤ (x9_2 : Int) := of_decide_eq_true (by first | (with_reducible assumption) | assumption); have q110 : x9_2 < (l1.length : Int) := of_decide_eq_true (by first | (with_reducible assumption) | assumption); obtain ⟨ad110, e110, hx110_0⟩ := Kd.at_int HR1.out x9_2 p110 q110; obtain rfl : ad108 = ad110 := (by injection e110); replace p110 := eq_true p110; replace q110 := eq_true q110)))
                                        go_ret2
                                        try simp only [beq_nil_isEmpty, bytesLess_gtr]
                                        exact ⟨by first | rfl | (simp; done) | (simp [*]; done), by repeat (first | exact Drawn0.refl _ | apply Drawn0.step)⟩
                                      · rw [if_neg c17] at H
                                        have c17b0 : decide ((rd l1 x9_2) ≤ 4) = false := decide_eq_false c17
                                        clear c17
                                        have H' := Aside0.mk H
                                        clear H
                                        have p105 : 0 ≤ (x10_3 : Int) := of_decide_eq_true (by first | (with_reducible assumption) | assumption)
                                        have q105 : x10_3 < (l0.length : Int) := of_decide_eq_true (by first | (with_reducible assumption) | assumption)
                                        obtain ⟨ad105, A105_0, c105_0, e105, hx105_0, hl105_0, hi105_0⟩ := at_L1 HR0.out x10_3 p105 q105
                                        cases e105
                                        have HR105_0 := Aside0.mk hi105_0
                                        have HC105_0 := Aside0.mk hl105_0
                                        clear hi105_0 hl105_0
                                        replace p105 := eq_true p105
                                        replace q105 := eq_true q105
                                        have p106 : 0 ≤ (x9_2 : Int) := of_decide_eq_true (by first | (with_reducible assumption) | assumption)
                                        have q106 : x9_2 < (l2.length : Int) := of_decide_eq_true (by first | (with_reducible assumption) | assumption)
                                        obtain ⟨ad106, A106_0, c106_0, e106, hx106_0, hl106_0, hi106_0⟩ := at_L1 HR2.out x9_2 p106 q106
                                        cases e106
                                        have HR106_0 := Aside0.mk hi106_0
                                        have HC106_0 := Aside0.mk hl106_0
                                        clear hi106_0 hl106_0
                                        replace p106 := eq_true p106
                                        replace q106 := eq_true q106
                                        go_wp2_with (first | (go_at_call 49; (with_reducible refine (rubricatorref20_same.calls k3 _ _ (rd_L1 l0 x10_3) _ _ (rd_L1 l2 x9_2) true _ ?side1 ?side2 ?side3 ?side4 A10.out).mono ?_); (case side1 => repeat (first | exact HR105_0.out | (with_reducible refine Kd.C_alloc ?_ _) | (with_reducible refine Kd.C_drewN ?_ _) | (with_reducible refine Kd.C_drew ?_))); (case side2 => exact HC105_0.out); (case side3 => repeat (first | exact HR106_0.out | (with_reducible refine Kd.C_alloc ?_ _) | (with_reducible refine Kd.C_drewN ?_ _) | (with_reducible refine Kd.C_drew ?_))); (case side4 => exact HC106_0.out); rintro e w' ⟨rfl, ⟨nd, rfl⟩⟩; (try first | exact ⟨rfl, _, World.drewN_drewN _ _ _⟩ | exact ⟨rfl, _, Eq.trans (World.drewN_drewN _ _ _) (congrArg (World.drewN _) (Nat.add_assoc _ _ _))⟩); have p108 : 0 ≤ (x9_2 : Int) := of_decide_eq_true (by first | (with_reducible assumption) | assumption); have q108 : x9_2 < (l1.length : Int) := of_decide_eq_true (by first | (with_reducible assumption) | assumption); obtain ⟨ad108, e108, hx108_0⟩ := Kd.at_int HR1.out x9_2 p108 q108; cases e108; replace p108 := eq_true p108; replace q108 := eq_true q108; have p109 : 0 ≤ (x9_2 : Int) := of_decide_eq_true (by first | (with_reducible assumption) | assumption); have q109 : x9_2 < (l1.length : Int) := of_decide_eq_true (by first | (with_reducible assumption) | assumption); obtain ⟨ad109, e109, hx109_0⟩ := Kd.at_int HR1.out x9_2 p109 q109; obtain rfl : ad108 = ad109 := (by injection e109); replace p109 := eq_true p109; replace q109 := eq_true q109; have p110 : 0 ≤ (x9_2 : Int) := of_decide_eq_true (by first | (with_reducible assumption) | assumption); have q110 : x9_2 < (l1.length : Int) := of_decide_eq_true (by first | (with_reducible assumption) | assumption); obtain ⟨ad110, e110, hx110_0⟩ := Kd.at_int HR1.out x9_2 p110 q110; obtain rfl : ad108 = ad110 := (by injection e110); replace p110 := eq_true p110; replace q110 := eq_true q110))
                                        repeat (go_quiet (first | (go_at_call 49; (with_reducible refine (rubricatorref20_same.calls k3 _ _ (rd_L1 l0 x10_3) _ _ (rd_L1 l2 x9_2) true _ ?side1 ?side2 ?side3 ?side4 A10.out).mono ?_); (case side1 => repeat (first | exact HR105_0.out | (with_reducible refine Kd.C_alloc ?_ _) | (with_reducible refine Kd.C_drewN ?_ _) | (with_reducible refine Kd.C_drew ?_))); (case side2 => exact HC105_0.out); (case side3 => repeat (first | exact HR106_0.out | (with_reducible refine Kd.C_alloc ?_ _) | (with_reducible refine Kd.C_drewN ?_ _) | (with_reducible refine Kd.C_drew ?_))); (case side4 => exact HC106_0.out); rintro e w' ⟨rfl, ⟨nd, rfl⟩⟩; (try first | exact ⟨rfl, _, World.drewN_drewN _ _ _⟩ | exact ⟨rfl, _, Eq.trans (World.drewN_drewN _ _ _) (congrArg (World.drewN _) (Nat.add_assoc _ _ _))⟩); have p108 : 0 ≤ (x9_2 : Int) := of_decide_eq_true (by first | (with_reducible assumption) | assumption); have q108 : x9_2 < (l1.length : Int) := of_decide_eq_true (by first | (with_reducible assumption) | assumption); obtain ⟨ad108, e108, hx108_0⟩ := Kd.at_int HR1.out x9_2 p108 q108; cases e108; replace p108 := eq_true p108; replace q108 := eq_true q108; have p109 : 0 ≤ (x9_2 : Int) := of_decide_eq_true (by first | (with_reducible assumption) | assumption); have q109 : x9_2 < (l1.length : Int) := of_decide_eq_true (by first | (with_reducible assumption) | assumption); obtain ⟨ad109, e109, hx109_0⟩ := Kd.at_int HR1.out x9_2 p109 q109; obtain rfl : ad108 = ad109 := (by injection e109); replace p109 := eq_true p109; replace q109 := eq_true q109; have p110 : 0 ≤ (x9_2 : Int) := of_decide_eq_true (by first | (with_reducible assumption) | assumption); have q110 : x9_2 < (l1.length : Int) := of_decide_eq_true (by first | (with_reducible assumption) | assumption); obtain ⟨ad110, e110, hx110_0⟩ := Kd.at_int HR1.out x9_2 p110 q110; obtain rfl : ad108 = ad110 := (by injection e110); replace p110 := eq_true p110; replace q110 := eq_true q110)); try go_wp2_with (first | (go_at_call 49; (with_reducible refine (rubricatorref20_same.calls k3 _ _ (rd_L1 l0 x10_3) _ _ (rd_L1 l2 x9_2) true _ ?side1 ?side2 ?side3 ?side4 A10.out).mono ?_); (case side1 => repeat (first | exact HR105_0.out | (with_reducible refine Kd.C_alloc ?_ _) | (with_reducible refine Kd.C_drewN ?_ _) | (with_reducible refine Kd.C_drew ?_))); (case side2 => exact HC105_0.out); (case side3 => repeat (first | exact HR106_0.out | (with_reducible refine Kd.C_alloc ?_ _) | (with_reducible refine Kd.C_drewN ?_ _) | (with_reducible refine Kd.C_drew ?_))); (case side4 => exact HC106_0.out); rintro e w' ⟨rfl, ⟨nd, rfl⟩⟩; (try first | exact ⟨rfl, _, World.drewN_drewN _ _ _⟩ | exact ⟨rfl, _, Eq.trans (World.drewN_drewN _ _ _) (congrArg (World.drewN _) (Nat.add_assoc _ _ _))⟩); have p108 : 0 ≤ (x9_2 : Int) := of_decide_eq_true (by first | (with_reducible assumption) | assumption); have q108 : x9_2 < (l1.length : Int) := of_decide_eq_true (by first | (with_reducible assumption) | assumption); obtain ⟨ad108, e108, hx108_0⟩ := Kd.at_int HR1.out x9_2 p108 q108; cases e108; replace p108 := eq_true p108; replace q108 := eq_true q108; have p109 : 0 ≤ (x9_2 : Int) := of_decide_eq_true (by first | (with_reducible assumption) | assumption); have q109 : x9_2 < (l1.length : Int) := of_decide_eq_true (by first | (with_reducible assumption) | assumption); obtain ⟨ad109, e109, hx109_0⟩ := Kd.at_int HR1.out x9_2 p109 q109; obtain rfl : ad108 = ad109 := (by injection e109); replace p109 := eq_true p109; replace q109 := eq_true q109; have p110 : 0 ≤ (x9_2 : Int) := of_decide_eq_true (by first | (with_reducible assumption) | assumption); have q110 : x9_2 < (l1.length : Int) := of_decide_eq_true (by first | (with_reducible assumption) | assumption); obtain ⟨ad110, e110, hx110_0⟩ := Kd.at_int HR1.out x9_2 p110 q110; obtain rfl : ad108 = ad110 := (by injection e110); replace p110 := eq_true p110; replace q110 := eq_true q110)))
                                        go_roundg k3
                                        case measure => have := HK1.out; have := HK2.out; have := HK3.out; omega
                                        case rel => exact ⟨(wrap64 (x10_3 + 1)), (by first | rfl | (simp; done) | (simp [*]; done) | (simp [wrap64]; done)), H', ⟨by have := HK1.out; have := HK2.out; have := HK3.out; omega⟩, by repeat (first | exact Drawn0.refl _ | apply Drawn0.step)⟩
                                    · rw [if_neg c16] at H
                                      have c16b0 : decide (1 ≤ (rd l1 x9_2)) = false := decide_eq_false c16
                                      clear c16
                                      have H' := Aside0.mk H
                                      clear H
                                      have p105 : 0 ≤ (x10_3 : Int) := of_decide_eq_true (by first | (with_reducible assumption) | assumption)
                                      have q105 : x10_3 < (l0.length : Int) := of_decide_eq_true (by first | (with_reducible assumption) | assumption)
                                      obtain ⟨ad105, A105_0, c105_0, e105, hx105_0, hl105_0, hi105_0⟩ := at_L1 HR0.out x10_3 p105 q105
                                      cases e105
                                      have HR105_0 := Aside0.mk hi105_0
                                      have HC105_0 := Aside0.mk hl105_0
                                      clear hi105_0 hl105_0
                                      replace p105 := eq_true p105
                                      replace q105 := eq_true q105
                                      have p106 : 0 ≤ (x9_2 : Int) := of_decide_eq_true (by first | (with_reducible assumption) | assumption)
                                      have q106 : x9_2 < (l2.length : Int) := of_decide_eq_true (by first | (with_reducible assumption) | assumption)
                                      obtain ⟨ad106, A106_0, c106_0, e106, hx106_0, hl106_0, hi106_0⟩ := at_L1 HR2.out x9_2 p106 q106
                                      cases e106
                                      have HR106_0 := Aside0.mk hi106_0
                                      have HC106_0 := Aside0.mk hl106_0
                                      clear hi106_0 hl106_0
                                      replace p106 := eq_true p106
                                      replace q106 := eq_true q106
                                      go_wp2_with (first | (go_at_call 49; (with_reducible refine (rubricatorref20_same.calls k3 _ _ (rd_L1 l0 x10_3) _ _ (rd_L1 l2 x9_2) true _ ?side1 ?side2 ?side3 ?side4 A10.out).mono ?_); (case side1 => repeat (first | exact HR105_0.out | (with_reducible refine Kd.C_alloc ?_ _) | (with_reducible refine Kd.C_drewN ?_ _) | (with_reducible refine Kd.C_drew ?_))); (case side2 => exact HC105_0.out); (case side3 => repeat (first | exact HR106_0.out | (with_reducible refine Kd.C_alloc ?_ _) | (with_reducible refine Kd.C_drewN ?_ _) | (with_reducible refine Kd.C_drew ?_))); (case side4 => exact HC106_0.out); rintro e w' ⟨rfl, ⟨nd, rfl⟩⟩; (try first | exact ⟨rfl, _, World.drewN_drewN _ _ _⟩ | exact ⟨rfl, _, Eq.trans (World.drewN_drewN _ _ _) (congrArg (World.drewN _) (Nat.add_assoc _ _ _))⟩); have p108 : 0 ≤ (x9_2 : Int) := of_decide_eq_true (by first | (with_reducible assumption) | assumption); have q108 : x9_2 < (l1.length : Int) := of_decide_eq_true (by first | (with_reducible assumption) | assumption); obtain ⟨ad108, e108, hx108_0⟩ := Kd.at_int HR1.out x9_2 p108 q108; cases e108; replace p108 := eq_true p108; replace q108 := eq_true q108; have p109 : 0 ≤ (x9_2 : Int) := of_decide_eq_true (by first | (with_reducible assumption) | assumption); have q109 : x9_2 < (l1.length : Int) := of_decide_eq_true (by first | (with_reducible assumption) | assumption); obtain ⟨ad109, e109, hx109_0⟩ := Kd.at_int HR1.out x9_2 p109 q109; obtain rfl : ad108 = ad109 := (by injection e109); replace p109 := eq_true p109; replace q109 := eq_true q109))
                                      repeat (go_quiet (first | (go_at_call 49; (with_reducible refine (rubricatorref20_same.calls k3 _ _ (rd_L1 l0 x10_3) _ _ (rd_L1 l2 x9_2) true _ ?side1 ?side2 ?side3 ?side4 A10.out).mono ?_); (case side1 => repeat (first | exact HR105_0.out | (with_reducible refine Kd.C_alloc ?_ _) | (with_reducible refine Kd.C_drewN ?_ _) | (with_reducible refine Kd.C_drew ?_))); (case side2 => exact HC105_0.out); (case side3 => repeat (first | exact HR106_0.out | (with_reducible refine Kd.C_alloc ?_ _) | (with_reducible refine Kd.C_drewN ?_ _) | (with_reducible refine Kd.C_drew ?_))); (case side4 => exact HC106_0.out); rintro e w' ⟨rfl, ⟨nd, rfl⟩⟩; (try first | exact ⟨rfl, _, World.drewN_drewN _ _ _⟩ | exact ⟨rfl, _, Eq.trans (World.drewN_drewN _ _ _) (congrArg (World.drewN _) (Nat.add_assoc _ _ _))⟩); have p108 : 0 ≤ (x9_2 : Int) := of_decide_eq_true (by first | (with_reducible assumption) | assumption); have q108 : x9_2 < (l1.length : Int) := of_decide_eq_true (by first | (with_reducible assumption) | assumption); obtain ⟨ad108, e108, hx108_0⟩ := Kd.at_int HR1.out x9_2 p108 q108; cases e108; replace p108 := eq_true p108; replace q108 := eq_true q108; have p109 : 0 ≤ (x9_2 : Int) := of_decide_eq_true (by first | (with_reducible assumption) | assumption); have q109 : x9_2 < (l1.length : Int) := of_decide_eq_true (by first | (with_reducible assumption) | assumption); obtain ⟨ad109, e109, hx109_0⟩ := Kd.at_int HR1.out x9_2 p109 q109; obtain rfl : ad108 = ad109 := (by injection e109); replace p109 := eq_true p109; replace q109 := eq_true q109)); try go_wp2_with (first | (go_at_call 49; (with_reducible refine (rubricatorref20_same.calls k3 _ _ (rd_L1 l0 x10_3) _ _ (rd_L1 l2 x9_2) true _ ?side1 ?side2 ?side3 ?side4 A10.out).mono ?_); (case side1 => repeat (first | exact HR105_0.out | (with_reducible refine Kd.C_alloc ?_ _) | (with_reducible refine Kd.C_drewN ?_ _) | (with_reducible refine Kd.C_drew ?_))); (case side2 => exact HC105_0.out); (case side3 => repeat (first | exact HR106_0.out | (with_reducible refine Kd.C_alloc ?_ _) | (with_reducible refine Kd.C_drewN ?_ _) | (with_reducible refine Kd.C_drew ?_))); (case side4 => exact HC106_0.out); rintro e w' ⟨rfl, ⟨nd, rfl⟩⟩; (try first | exact ⟨rfl, _, World.drewN_drewN _ _ _⟩ | exact ⟨rfl, _, Eq.trans (World.drewN_drewN _ _ _) (congrArg (World.drewN _) (Nat.add_assoc _ _ _))⟩); have p108 : 0 ≤ (x9_2 : Int) := of_decide_eq_true (by first | (with_reducible assumption) | assumption); have q108 : x9_2 < (l1.length : Int) := of_decide_eq_true (by first | (with_reducible assumption) | assumption); obtain ⟨ad108, e108, hx108_0⟩ := Kd.at_int HR1.out x9_2 p108 q108; cases e108; replace p108 := eq_true p108; replace q108 := eq_true q108; have p109 : 0 ≤ (x9_2 : Int) := of_decide_eq_true (by first | (with_reducible assumption) | assumption); have q109 : x9_2 < (l1.length : Int) := of_decide_eq_true (by first | (with_reducible assumption) | assumption); obtain ⟨ad109, e109, hx109_0⟩ := Kd.at_int HR1.out x9_2 p109 q109; obtain rfl : ad108 = ad109 := (by injection e109); replace p109 := eq_true p109; replace q109 := eq_true q109)))
                                      go_roundg k3
                                      case measure => have := HK1.out; have := HK2.out; have := HK3.out; omega
                                      case rel => exact ⟨(wrap64 (x10_3 + 1)), (by first | rfl | (simp; done) | (simp [*]; done) | (simp [wrap64]; done)), H', ⟨by have := HK1.out; have := HK2.out; have := HK3.out; omega⟩, by repeat (first | exact Drawn0.refl _ | apply Drawn0.step)⟩
                                  · rw [if_neg c15] at H
                                    have c15b0 : (x8_1 == 1) = false := beq_eq_false_iff_ne.mpr c15
                                    have c15b1 : (x8_1 != 1) = true := bne_iff_ne.mpr c15
                                    have H' := Aside0.mk H
                                    clear H
                                    have p105 : 0 ≤ (x10_3 : Int) := of_decide_eq_true (by first | (with_reducible assumption) | assumption)
                                    have q105 : x10_3 < (l0.length : Int) := of_decide_eq_true (by first | (with_reducible assumption) | assumption)
                                    obtain ⟨ad105, A105_0, c105_0, e105, hx105_0, hl105_0, hi105_0⟩ := at_L1 HR0.out x10_3 p105 q105
                                    cases e105
                                    have HR105_0 := Aside0.mk hi105_0
                                    have HC105_0 := Aside0.mk hl105_0
                                    clear hi105_0 hl105_0
                                    replace p105 := eq_true p105
                                    replace q105 := eq_true q105
                                    have p106 : 0 ≤ (x9_2 : Int) := of_decide_eq_true (by first | (with_reducible assumption) | assumption)
                                    have q106 : x9_2 < (l2.length : Int) := of_decide_eq_true (by first | (with_reducible assumption) | assumption)
                                    obtain ⟨ad106, A106_0, c106_0, e106, hx106_0, hl106_0, hi106_0⟩ := at_L1 HR2.out x9_2 p106 q106
                                    cases e106
                                    have HR106_0 := Aside0.mk hi106_0
                                    have HC106_0 := Aside0.mk hl106_0
                                    clear hi106_0 hl106_0
                                    replace p106 := eq_true p106
                                    replace q106 := eq_true q106
                                    go_wp2_with (first | (go_at_call 49; (with_reducible refine (rubricatorref20_same.calls k3 _ _ (rd_L1 l0 x10_3) _ _ (rd_L1 l2 x9_2) true _ ?side1 ?side2 ?side3 ?side4 A10.out).mono ?_); (case side1 => repeat (first | exact HR105_0.out | (with_reducible refine Kd.C_alloc ?_ _) | (with_reducible refine Kd.C_drewN ?_ _) | (with_reducible refine Kd.C_drew ?_))); (case side2 => exact HC105_0.out); (case side3 => repeat (first | exact HR106_0.out | (with_reducible refine Kd.C_alloc ?_ _) | (with_reducible refine Kd.C_drewN ?_ _) | (with_reducible refine Kd.C_drew ?_))); (case side4 => exact HC106_0.out); rintro e w' ⟨rfl, ⟨nd, rfl⟩⟩; (try first | exact ⟨rfl, _, World.drewN_drewN _ _ _⟩ | exact ⟨rfl, _, Eq.trans (World.drewN_drewN _ _ _) (congrArg (World.drewN _) (Nat.add_assoc _ _ _))⟩); have p108 : 0 ≤ (x9_2 : Int) := of_decide_eq_true (by first | (with_reducible assumption) | assumption); have q108 : x9_2 < (l1.length : Int) := of_decide_eq_true (by first | (with_reducible assumption) | assumption); obtain ⟨ad108, e108, hx108_0⟩ := Kd.at_int HR1.out x9_2 p108 q108; cases e108; replace p108 := eq_true p108; replace q108 := eq_true q108))
                                    repeat (go_quiet (first | (go_at_call 49; (with_reducible refine (rubricatorref20_same.calls k3 _ _ (rd_L1 l0 x10_3) _ _ (rd_L1 l2 x9_2) true _ ?side1 ?side2 ?side3 ?side4 A10.out).mono ?_); (case side1 => repeat (first | exact HR105_0.out | (with_reducible refine Kd.C_alloc ?_ _) | (with_reducible refine Kd.C_drewN ?_ _) | (with_reducible refine Kd.C_drew ?_))); (case side2 => exact HC105_0.out); (case side3 => repeat (first | exact HR106_0.out | (with_reducible refine Kd.C_alloc ?_ _) | (with_reducible refine Kd.C_drewN ?_ _) | (with_reducible refine Kd.C_drew ?_))); (case side4 => exact HC106_0.out); rintro e w' ⟨rfl, ⟨nd, rfl⟩⟩; (try first | exact ⟨rfl, _, World.drewN_drewN _ _ _⟩ | exact ⟨rfl, _, Eq.trans (World.drewN_drewN _ _ _) (congrArg (World.drewN _) (Nat.add_assoc _ _ _))⟩); have p108 : 0 ≤ (x9_2 : Int) := of_decide_eq_true (by first | (with_reducible assumption) | assumption); have q108 : x9_2 < (l1.length : Int) := of_decide_eq_true (by first | (with_reducible assumption) | assumption); obtain ⟨ad108, e108, hx108_0⟩ := Kd.at_int HR1.out x9_2 p108 q108; cases e108; replace p108 := eq_true p108; replace q108 := eq_true q108)); try go_wp2_with (first | (go_at_call 49; (with_reducible refine (rubricatorref20_same.calls k3 _ _ (rd_L1 l0 x10_3) _ _ (rd_L1 l2 x9_2) true _ ?side1 ?side2 ?side3 ?side4 A10.out).mono ?_); (case side1 => repeat (first | exact HR105_0.out | (with_reducible refine Kd.C_alloc ?_ _) | (with_reducible refine Kd.C_drewN ?_ _) | (with_reducible refine Kd.C_drew ?_))); (case side2 => exact HC105_0.out); (case side3 => repeat (first | exact HR106_0.out | (with_reducible refine Kd.C_alloc ?_ _) | (with_reducible refine Kd.C_drewN ?_ _) | (with_reducible refine Kd.C_drew ?_))); (case side4 => exact HC106_0.out); rintro e w' ⟨rfl, ⟨nd, rfl⟩⟩; (try first | exact ⟨rfl, _, World.drewN_drewN _ _ _⟩ | exact ⟨rfl, _, Eq.trans (World.drewN_drewN _ _ _) (congrArg (World.drewN _) (Nat.add_assoc _ _ _))⟩); have p108 : 0 ≤ (x9_2 : Int) := of_decide_eq_true (by first | (with_reducible assumption) | assumption); have q108 : x9_2 < (l1.length : Int) := of_decide_eq_true (by first | (with_reducible assumption) | assumption); obtain ⟨ad108, e108, hx108_0⟩ := Kd.at_int HR1.out x9_2 p108 q108; cases e108; replace p108 := eq_true p108; replace q108 := eq_true q108)))
                                    go_roundg k3
                                    case measure => have := HK1.out; have := HK2.out; have := HK3.out; omega
                                    case rel => exact ⟨(wrap64 (x10_3 + 1)), (by first | rfl | (simp; done) | (simp [*]; done) | (simp [wrap64]; done)), H', ⟨by have := HK1.out; have := HK2.out; have := HK3.out; omega⟩, by repeat (first | exact Drawn0.refl _ | apply Drawn0.step)⟩
                              · rw [if_neg c13] at H
                                exact absurd H (by simp)
                            · rw [if_neg c12] at H
                              have c12b0 : (x8_1 == 0) = false := beq_eq_false_iff_ne.mpr c12
                              have c12b1 : (x8_1 != 0) = true := bne_iff_ne.mpr c12
                              by_cases c18 : x8_1 = 1
                              · rw [if_pos c18] at H
                                have c18b0 : (x8_1 == 1) = true := beq_iff_eq.mpr c18
                                have c18b1 : (x8_1 != 1) = false := bne_eq_false_iff_eq.mpr c18
                                clear c18
                                by_cases c19 : x9_2 < (l1.length : Int)
                                · rw [if_pos c19] at H
                                  have c19b0 : decide (x9_2 < (l1.length : Int)) = true := decide_eq_true c19
                                  clear c19
                                  by_cases c20 : (rd l1 x9_2) ≥ 1
                                  · rw [if_pos c20] at H
                                    have c20b0 : decide (1 ≤ (rd l1 x9_2)) = true := decide_eq_true c20
                                    clear c20
                                    by_cases c21 : (rd l1 x9_2) ≤ 4
                                    · rw [if_pos c21] at H
                                      have c21b0 : decide ((rd l1 x9_2) ≤ 4) = true := decide_eq_true c21
                                      clear c21
                                      simp only [Option.some.injEq, Prod.mk.injEq] at H
                                      obtain ⟨rfl, rfl⟩ := H
                                      have p105 : 0 ≤ (x10_3 : Int) := of_decide_eq_true (by first | (with_reducible assumption) | assumption)
                                      have q105 : x10_3 < (l0.length : Int) := of_decide_eq_true (by first | (with_reducible assumption) | assumption)
                                      obtain ⟨ad105, A105_0, c105_0, e105, hx105_0, hl105_0, hi105_0⟩ := at_L1 HR0.out x10_3 p105 q105
                                      cases e105
                                      have HR105_0 := Aside0.mk hi105_0
                                      have HC105_0 := Aside0.mk hl105_0
                                      clear hi105_0 hl105_0
                                      replace p105 := eq_true p105
                                      replace q105 := eq_true q105
                                      have p106 : 0 ≤ (x9_2 : Int) := of_decide_eq_true (by first | (with_reducible assumption) | assumption)
                                      have q106 : x9_2 < (l2.length : Int) := of_decide_eq_true (by first | (with_reducible assumption) | assumption)
                                      obtain ⟨ad106, A106_0, c106_0, e106, hx106_0, hl106_0, hi106_0⟩ := at_L1 HR2.out x9_2 p106 q106
                                      cases e106
                                      have HR106_0 := Aside0.mk hi106_0
                                      have HC106_0 := Aside0.mk hl106_0
                                      clear hi106_0 hl106_0
                                      replace p106 := eq_true p106
                                      replace q106 := eq_true q106
                                      go_wp2_with (first | (go_at_call 49; (with_reducible refine (rubricatorref20_same.calls k3 _ _ (rd_L1 l0 x10_3) _ _ (rd_L1 l2 x9_2) true _ ?side1 ?side2 ?side3 ?side4 A10.out).mono ?_); (case side1 => repeat (first | exact HR105_0.out | (with_reducible refine Kd.C_alloc ?_ _) | (with_reducible refine Kd.C_drewN ?_ _) | (with_reducible refine Kd.C_drew ?_))); (case side2 => exact HC105_0.out); (case side3 => repeat (first | exact HR106_0.out | (with_reducible refine Kd.C_alloc ?_ _) | (with_reducible refine Kd.C_drewN ?_ _) | (with_reducible refine Kd.C_drew ?_))); (case side4 => exact HC106_0.out); rintro e w' ⟨rfl, ⟨nd, rfl⟩⟩; (try first | exact ⟨rfl, _, World.drewN_drewN _ _ _⟩ | exact ⟨rfl, _, Eq.trans (World.drewN_drewN _ _ _) (congrArg (World.drewN _) (Nat.add_assoc _ _ _))⟩); have p111 : 0 ≤ (x9_2 : Int) := of_decide_eq_true (by first | (with_reducible assumption) | assumption); have q111 : x9_2 < (l1.length : Int) := of_decide_eq_true (by first | (with_reducible assumption) | assumption); obtain ⟨ad111, e111, hx111_0⟩ := Kd.at_int HR1.out x9_2 p111 q111; cases e111; replace p111 := eq_true p111; replace q111 := eq_true q111; have p112 : 0 ≤ (x9_2 : Int) := of_decide_eq_true (by first | (with_reducible assumption) | assumption); have q112 : x9_2 < (l1.length : Int) := of_decide_eq_true (by first | (with_reducible assumption) | assumption); obtain ⟨ad112, e112, hx112_0⟩ := Kd.at_int HR1.out x9_2 p112 q112; obtain rfl : ad111 = ad112 := (by injection e112); replace p112 := eq_true p112; replace q112 := eq_true q112))
                                      repeat (go_quiet (first | (go_at_call 49; (with_reducible refine (rubricatorref20_same.calls k3 _ _ (rd_L1 l0 x10_3) _ _ (rd_L1 l2 x9_2) true _ ?side1 ?side2 ?side3 ?side4 A10.out).mono ?_); (case side1 => repeat (first | exact HR105_0.out | (with_reducible refine Kd.C_alloc ?_ _) | (with_reducible refine Kd.C_drewN ?_ _) | (with_reducible refine Kd.C_drew ?_))); (case side2 => exact HC105_0.out); (case side3 => repeat (first | exact HR106_0.out | (with_reducible refine Kd.C_alloc ?_ _) | (with_reducible refine Kd.C_drewN ?_ _) | (with_reducible refine Kd.C_drew ?_))); (case side4 => exact HC106_0.out); rintro e w' ⟨rfl, ⟨nd, rfl⟩⟩; (try first | exact ⟨rfl, _, World.drewN_drewN _ _ _⟩ | exact ⟨rfl, _, Eq.trans (World.drewN_drewN _ _ _) (congrArg (World.drewN _) (Nat.add_assoc _ _ _))⟩); have p111 : 0 ≤ (x9_2 : Int) := of_decide_eq_true (by first | (with_reducible assumption) | assumption); have q111 : x9_2 < (l1.length : Int) := of_decide_eq_true (by first | (with_reducible assumption) | assumption); obtain ⟨ad111, e111, hx111_0⟩ := Kd.at_int HR1.out x9_2 p111 q111; cases e111; replace p111 := eq_true p111; replace q111 := eq_true q111; have p112 : 0 ≤ (x9_2 : Int) := of_decide_eq_true (by first | (with_reducible assumption) | assumption); have q112 : x9_2 < (l1.length : Int) := of_decide_eq_true (by first | (with_reducible assumption) | assumption); obtain ⟨ad112, e112, hx112_0⟩ := Kd.at_int HR1.out x9_2 p112 q112; obtain rfl : ad111 = ad112 := (by injection e112); replace p112 := eq_true p112; replace q112 := eq_true q112)); try go_wp2_with (first | (go_at_call 49; (with_reducible refine (rubricatorref20_same.calls k3 _ _ (rd_L1 l0 x10_3) _ _ (rd_L1 l2 x9_2) true _ ?side1 ?side2 ?side3 ?side4 A10.out).mono ?_); (case side1 => repeat (first | exact HR105_0.out | (with_reducible refine Kd.C_alloc ?_ _) | (with_reducible refine Kd.C_drewN ?_ _) | (with_reducible refine Kd.C_drew ?_))); (case side2 => exact HC105_0.out); (case side3 => repeat (first | exact HR106_0.out | (with_reducible refine Kd.C_alloc ?_ _) | (with_reducible refine Kd.C_drewN ?_ _) | (with_reducible refine Kd.C_drew ?_))); (case side4 => exact HC106_0.out); rintro e w' ⟨rfl, ⟨nd, rfl⟩⟩; (try first | exact ⟨rfl, _, World.drewN_drewN _ _ _⟩ | exact ⟨rfl, _, Eq.trans (World.drewN_drewN _ _ _) (congrArg (World.drewN _) (Nat.add_assoc _ _ _))⟩); have p111 : 0 ≤ (x9_2 : Int) := of_decide_eq_true (by first | (with_reducible assumption) | assumption); have q111 : x9_2 < (l1.length : Int) := of_decide_eq_true (by first | (with_reducible assumption) | assumption); obtain ⟨ad111, e111, hx111_0⟩ := Kd.at_int HR1.out x9_2 p111 q111; cases e111; replace p111 := eq_true p111; replace q111 := eq_true q111; have p112 : 0 ≤ (x9_2 : Int) := of_decide_eq_true (by first | (with_reducible assumption) | assumption); have q112 : x9_2 < (l1.length : Int) := of_decide_eq_true (by first | (with_reducible assumption) | assumption); obtain ⟨ad112, e112, hx112_0⟩ := Kd.at_int HR1.out x9_2 p112 q112; obtain rfl : ad111 = ad112 := (by injection e112); replace p112 := eq_true p112; replace q112 := eq_true q112)))
                                      go_ret2
                                      try simp only [beq_nil_isEmpty, bytesLess_gtr]
                                      exact ⟨by first | rfl | (simp; done) | (simp [*]; done), by repeat (first | exact Drawn0.refl _ | apply Drawn0.step)⟩
                                    · rw [if_neg c21] at H
                                      have c21b0 : decide ((rd l1 x9_2) ≤ 4) = false := decide_eq_false c21
                                      clear c21
                                      have H' := Aside0.mk H
                                      clear H
                                      have p105 : 0 ≤ (x10_3 : Int) := of_decide_eq_true (by first | (with_reducible assumption) | assumption)
                                      have q105 : x10_3 < (l0.length : Int) := of_decide_eq_true (by first | (with_reducible assumption) | assumption)
                                      obtain ⟨ad105, A105_0, c105_0, e105, hx105_0, hl105_0, hi105_0⟩ := at_L1 HR0.out x10_3 p105 q105
                                      cases e105
                                      have HR105_0 := Aside0.mk hi105_0
                                      have HC105_0 := Aside0.mk hl105_0
                                      clear hi105_0 hl105_0
                                      replace p105 := eq_true p105
                                      replace q105 := eq_true q105
                                      have p106 : 0 ≤ (x9_2 : Int) := of_decide_eq_true (by first | (with_reducible assumption) | assumption)
                                      have q106 : x9_2 < (l2.length : Int) := of_decide_eq_true (by first | (with_reducible assumption) | assumption)
                                      obtain ⟨ad106, A106_0, c106_0, e106, hx106_0, hl106_0, hi106_0⟩ := at_L1 HR2.out x9_2 p106 q106
                                      cases e106
                                      have HR106_0 := Aside0.mk hi106_0
                                      have HC106_0 := Aside0.mk hl106_0
                                      clear hi106_0 hl106_0
                                      replace p106 := eq_true p106
                                      replace q106 := eq_true q106
                                      go_wp2_with (first | (go_at_call 49; (with_reducible refine (rubricatorref20_same.calls k3 _ _ (rd_L1 l0 x10_3) _ _ (rd_L1 l2 x9_2) true _ ?side1 ?side2 ?side3 ?side4 A10.out).mono ?_); (case side1 => repeat (first | exact HR105_0.out | (with_reducible refine Kd.C_alloc ?_ _) | (with_reducible refine Kd.C_drewN ?_ _) | (with_reducible refine Kd.C_drew ?_))); (case side2 => exact HC105_0.out); (case side3 => repeat (first | exact HR106_0.out | (with_reducible refine Kd.C_alloc ?_ _) | (with_reducible refine Kd.C_drewN ?_ _) | (with_reducible refine Kd.C_drew ?_))); (case side4 => exact HC106_0.out); rintro e w' ⟨rfl, ⟨nd, rfl⟩⟩; (try first | exact ⟨rfl, _, World.drewN_drewN _ _ _⟩ | exact ⟨rfl, _, Eq.trans (World.drewN_drewN _ _ _) (congrArg (World.drewN _) (Nat.add_assoc _ _ _))⟩); have p111 : 0 ≤ (x9_2 : Int) := of_decide_eq_true (by first | (with_reducible assumption) | assumption); have q111 : x9_2 < (l1.length : Int) := of_decide_eq_true (by first | (with_reducible assumption) | assumption); obtain ⟨ad111, e111, hx111_0⟩ := Kd.at_int HR1.out x9_2 p111 q111; cases e111; replace p111 := eq_true p111; replace q111 := eq_true q111; have p112 : 0 ≤ (x9_2 : Int) := of_decide_eq_true (by first | (with_reducible assumption) | assumption); have q112 : x9_2 < (l1.length : Int) := of_decide_eq_true (by first | (with_reducible assumption) | assumption); obtain ⟨ad112, e112, hx112_0⟩ := Kd.at_int HR1.out x9_2 p112 q112; obtain rfl : ad111 = ad112 := (by injection e112); replace p112 := eq_true p112; replace q112 := eq_true q112))
                                      repeat (go_quiet (first | (go_at_call 49; (with_reducible refine (rubricatorref20_same.calls k3 _ _ (rd_L1 l0 x10_3) _ _ (rd_L1 l2 x9_2) true _ ?side1 ?side2 ?side3 ?side4 A10.out).mono ?_); (case side1 => repeat (first | exact HR105_0.out | (with_reducible refine Kd.C_alloc ?_ _) | (with_reducible refine Kd.C_drewN ?_ _) | (with_reducible refine Kd.C_drew ?_))); (case side2 => exact HC105_0.out); (case side3 => repeat (first | exact HR106_0.out | (with_reducible refine Kd.C_alloc ?_ _) | (with_reducible refine Kd.C_drewN ?_ _) | (with_reducible refine Kd.C_drew ?_))); (case side4 => exact HC106_0.out); rintro e w' ⟨rfl, ⟨nd, rfl⟩⟩; (try first | exact ⟨rfl, _, World.drewN_drewN _ _ _⟩ | exact ⟨rfl, _, Eq.trans (World.drewN_drewN _ _ _) (congrArg (World.drewN _) (Nat.add_assoc _ _ _))⟩); have p111 : 0 ≤ (x9_2 : Int) := of_decide_eq_true (by first | (with_reducible assumption) | assumption); have q111 : x9_2 < (l1.length : Int) := of_decide_eq_true (by first | (with_reducible assumption) | assumption); obtain ⟨ad111, e111, hx111_0⟩ := Kd.at_int HR1.out x9_2 p111 q111; cases e111; replace p111 := eq_true p111; replace q111 := eq_true q111; have p112 : 0 ≤ (x9_2 : Int) := of_decide_eq_true (by first | (with_reducible assumption) | assumption); have q112 : x9_2 < (l1.length : Int) := of_decide_eq_true (by first | (with_reducible assumption) | assumption); obtain ⟨ad112, e112, hx112_0⟩ := Kd.at_int HR1.out x9_2 p112 q112; obtain rfl : ad111 = ad112 := (by injection e112); replace p112 := eq_true p112; replace q112 := eq_true q112)); try go_wp2_with (first | (go_at_call 49; (with_reducible refine (rubricatorref20_same.calls k3 _ _ (rd_L1 l0 x10_3) _ _ (rd_L1 l2 x9_2) true _ ?side1 ?side2 ?side3 ?side4 A10.out).mono ?_); (case side1 => repeat (first | exact HR105_0.out | (with_reducible refine Kd.C_alloc ?_ _) | (with_reducible refine Kd.C_drewN ?_ _) | (with_reducible refine Kd.C_drew ?_))); (case side2 => exact HC105_0.out); (case side3 => repeat (first | exact HR106_0.out | (with_reducible refine Kd.C_alloc ?_ _) | (with_reducible refine Kd.C_drewN ?_ _) | (with_reducible refine Kd.C_drew ?_))); (case side4 => exact HC106_0.out); rintro e w' ⟨rfl, ⟨nd, rfl⟩⟩; (try first | exact ⟨rfl, _, World.drewN_drewN _ _ _⟩ | exact ⟨rfl, _, Eq.trans (World.drewN_drewN _ _ _) (congrArg (World.drewN _) (Nat.add_assoc _ _ _))⟩); have p111 : 0 ≤ (x9_2 : Int) := of_decide_eq_true (by first | (with_reducible assumption) | assumption); have q111 : x9_2 < (l1.length : Int) := of_decide_eq_true (by first | (with_reducible assumption) | assumption); obtain ⟨ad111, e111, hx111_0⟩ := Kd.at_int HR1.out x9_2 p111 q111; cases e111; replace p111 := eq_true p111; replace q111 := eq_true q111; have p112 : 0 ≤ (x9_2 : Int) := of_decide_eq_true (by first | (with_reducible assumption) | assumption); have q112 : x9_2 < (l1.length : Int) := of_decide_eq_true (by first | (with_reducible assumption) | assumption); obtain ⟨ad112, e112, hx112_0⟩ := Kd.at_int HR1.out x9_2 p112 q112; obtain rfl : ad111 = ad112 := (by injection e112); replace p112 := eq_true p112; replace q112 := eq_true q112)))
                                      go_roundg k3
                                      case measure => have := HK1.out; have := HK2.out; have := HK3.out; omega
                                      case rel => exact ⟨(wrap64 (x10_3 + 1)), (by first | rfl | (simp; done) | (simp [*]; done) | (simp [wrap64]; done)), H', ⟨by have := HK1.out; have := HK2.out; have := HK3.out; omega⟩, by repeat (first | exact Drawn0.refl _ | apply Drawn0.step)⟩
                                  · rw [if_neg c20] at H
                                    have c20b0 : decide (1 ≤ (rd l1 x9_2)) = false := decide_eq_false c20
                                    clear c20
                                    have H' := Aside0.mk H
                                    clear H
                                    have p105 : 0 ≤ (x10_3 : Int) := of_decide_eq_true (by first | (with_reducible assumption) | assumption)
                                    have q105 : x10_3 < (l0.length : Int) := of_decide_eq_true (by first | (with_reducible assumption) | assumption)
                                    obtain ⟨ad105, A105_0, c105_0, e105, hx105_0, hl105_0, hi105_0⟩ := at_L1 HR0.out x10_3 p105 q105
                                    cases e105
                                    have HR105_0 := Aside0.mk hi105_0
                                    have HC105_0 := Aside0.mk hl105_0
                                    clear hi105_0 hl105_0
                                    replace p105 := eq_true p105
                                    replace q105 := eq_true q105
                                    have p106 : 0 ≤ (x9_2 : Int) := of_decide_eq_true (by first | (with_reducible assumption) | assumption)
                                    have q106 : x9_2 < (l2.length : Int) := of_decide_eq_true (by first | (with_reducible assumption) | assumption)
                                    obtain ⟨ad106, A106_0, c106_0, e106, hx106_0, hl106_0, hi106_0⟩ := at_L1 HR2.out x9_2 p106 q106
                                    cases e106
                                    have HR106_0 := Aside0.mk hi106_0
                                    have HC106_0 := Aside0.mk hl106_0
                                    clear hi106_0 hl106_0
                                    replace p106 := eq_true p106
                                    replace q106 := eq_true q106
                                    go_wp2_with (first | (go_at_call 49; (with_reducible refine (rubricatorref20_same.calls k3 _ _ (rd_L1 l0 x10_3) _ _ (rd_L1 l2 x9_2) true _ ?side1 ?side2 ?side3 ?side4 A10.out).mono ?_); (case side1 => repeat (first | exact HR105_0.out | (with_reducible refine Kd.C_alloc ?_ _) | (with_reducible refine Kd.C_drewN ?_ _) | (with_reducible refine Kd.C_drew ?_))); (case side2 => exact HC105_0.out); (case side3 => repeat (first | exact HR106_0.out | (with_reducible refine Kd.C_alloc ?_ _) | (with_reducible refine Kd.C_drewN ?_ _) | (with_reducible refine Kd.C_drew ?_))); (case side4 => exact HC106_0.out); rintro e w' ⟨rfl, ⟨nd, rfl⟩⟩; (try first | exact ⟨rfl, _, World.drewN_drewN _ _ _⟩ | exact ⟨rfl, _, Eq.trans (World.drewN_drewN _ _ _) (congrArg (World.drewN _) (Nat.add_assoc _ _ _))⟩); have p111 : 0 ≤ (x9_2 : Int) := of_decide_eq_true (by first | (with_reducible assumption) | assumption); have q111 : x9_2 < (l1.length : Int) := of_decide_eq_true (by first | (with_reducible assumption) | assumption); obtain ⟨ad111, e111, hx111_0⟩ := Kd.at_int HR1.out x9_2 p111 q111; cases e111; replace p111 := eq_true p111; replace q111 := eq_true q111))
                                    repeat (go_quiet (first | (go_at_call 49; (with_reducible refine (rubricatorref20_same.calls k3 _ _ (rd_L1 l0 x10_3) _ _ (rd_L1 l2 x9_2) true _ ?side1 ?side2 ?side3 ?side4 A10.out).mono ?_); (case side1 => repeat (first | exact HR105_0.out | (with_reducible refine Kd.C_alloc ?_ _) | (with_reducible refine Kd.C_drewN ?_ _) | (with_reducible refine Kd.C_drew ?_))); (case side2 => exact HC105_0.out); (case side3 => repeat (first | exact HR106_0.out | (with_reducible refine Kd.C_alloc ?_ _) | (with_reducible refine Kd.C_drewN ?_ _) | (with_reducible refine Kd.C_drew ?_))); (case side4 => exact HC106_0.out); rintro e w' ⟨rfl, ⟨nd, rfl⟩⟩; (try first | exact ⟨rfl, _, World.drewN_drewN _ _ _⟩ | exact ⟨rfl, _, Eq.trans (World.drewN_drewN _ _ _) (congrArg (World.drewN _) (Nat.add_assoc _ _ _))⟩); have p111 : 0 ≤ (x9_2 : Int) := of_decide_eq_true (by first | (with_reducible assumption) | assumption); have q111 : x9_2 < (l1.length : Int) := of_decide_eq_true (by first | (with_reducible assumption) | assumption); obtain ⟨ad111, e111, hx111_0⟩ := Kd.at_int HR1.out x9_2 p111 q111; cases e111; replace p111 := eq_true p111; replace q111 := eq_true q111)); try go_wp2_with (first | (go_at_call 49; (with_reducible refine (rubricatorref20_same.calls k3 _ _ (rd_L1 l0 x10_3) _ _ (rd_L1 l2 x9_2) true _ ?side1 ?side2 ?side3 ?side4 A10.out).mono ?_); (case side1 => repeat (first | exact HR105_0.out | (with_reducible refine Kd.C_alloc ?_ _) | (with_reducible refine Kd.C_drewN ?_ _) | (with_reducible refine Kd.C_drew ?_))); (case side2 => exact HC105_0.out); (case side3 => repeat (first | exact HR106_0.out | (with_reducible refine Kd.C_alloc ?_ _) | (with_reducible refine Kd.C_drewN ?_ _) | (with_reducible refine Kd.C_drew ?_))); (case side4 => exact HC106_0.out); rintro e w' ⟨rfl, ⟨nd, rfl⟩⟩; (try first | exact ⟨rfl, _, World.drewN_drewN _ _ _⟩ | exact ⟨rfl, _, Eq.trans (World.drewN_drewN _ _ _) (congrArg (World.drewN _) (Nat.add_assoc _ _ _))⟩); have p111 : 0 ≤ (x9_2 : Int) := of_decide_eq_true (by first | (with_reducible assumption) | assumption); have q111 : x9_2 < (l1.length : Int) := of_decide_eq_true (by first | (with_reducible assumption) | assumption); obtain ⟨ad111, e111, hx111_0⟩ := Kd.at_int HR1.out x9_2 p111 q111; cases e111; replace p111 := eq_true p111; replace q111 := eq_true q111)))
                                    go_roundg k3
                                    case measure => have := HK1.out; have := HK2.out; have := HK3.out; omega
                                    case rel => exact ⟨(wrap64 (x10_3 + 1)), (by first | rfl | (simp; done) | (simp [*]; done) | (simp [wrap64]; done)), H', ⟨by have := HK1.out; have := HK2.out; have := HK3.out; omega⟩, by repeat (first | exact Drawn0.refl _ | apply Drawn0.step)⟩
                                · rw [if_neg c19] at H
                                  exact absurd H (by simp)
                              · rw [if_neg c18] at H
                                have c18b0 : (x8_1 == 1) = false := beq_eq_false_iff_ne.mpr c18
                                have c18b1 : (x8_1 != 1) = true := bne_iff_ne.mpr c18
                                have H' := Aside0.mk H
                                clear H
                                have p105 : 0 ≤ (x10_3 : Int) := of_decide_eq_true (by first | (with_reducible assumption) | assumption)
                                have q105 : x10_3 < (l0.length : Int) := of_decide_eq_true (by first | (with_reducible assumption) | assumption)
                                obtain ⟨ad105, A105_0, c105_0, e105, hx105_0, hl105_0, hi105_0⟩ := at_L1 HR0.out x10_3 p105 q105
                                cases e105
                                have HR105_0 := Aside0.mk hi105_0
                                have HC105_0 := Aside0.mk hl105_0
                                clear hi105_0 hl105_0
                                replace p105 := eq_true p105
                                replace q105 := eq_true q105
                                have p106 : 0 ≤ (x9_2 : Int) := of_decide_eq_true (by first | (with_reducible assumption) | assumption)
                                have q106 : x9_2 < (l2.length : Int) := of_decide_eq_true (by first | (with_reducible assumption) | assumption)
                                obtain ⟨ad106, A106_0, c106_0, e106, hx106_0, hl106_0, hi106_0⟩ := at_L1 HR2.out x9_2 p106 q106
                                cases e106
                                have HR106_0 := Aside0.mk hi106_0
                                have HC106_0 := Aside0.mk hl106_0
                                clear hi106_0 hl106_0
                                replace p106 := eq_true p106
                                replace q106 := eq_true q106
                                go_wp2_with (first | (go_at_call 49; (with_reducible refine (rubricatorref20_same.calls k3 _ _ (rd_L1 l0 x10_3) _ _ (rd_L1 l2 x9_2) true _ ?side1 ?side2 ?side3 ?side4 A10.out).mono ?_); (case side1 => repeat (first | exact HR105_0.out | (with_reducible refine Kd.C_alloc ?_ _) | (with_reducible refine Kd.C_drewN ?_ _) | (with_reducible refine Kd.C_drew ?_))); (case side2 => exact HC105_0.out); (case side3 => repeat (first | exact HR106_0.out | (with_reducible refine Kd.C_alloc ?_ _) | (with_reducible refine Kd.C_drewN ?_ _) | (with_reducible refine Kd.C_drew ?_))); (case side4 => exact HC106_0.out); rintro e w' ⟨rfl, ⟨nd, rfl⟩⟩; (try first | exact ⟨rfl, _, World.drewN_drewN _ _ _⟩ | exact ⟨rfl, _, Eq.trans (World.drewN_drewN _ _ _) (congrArg (World.drewN _) (Nat.add_assoc _ _ _))⟩)))
                                repeat (go_quiet (first | (go_at_call 49; (with_reducible refine (rubricatorref20_same.calls k3 _ _ (rd_L1 l0 x10_3) _ _ (rd_L1 l2 x9_2) true _ ?side1 ?side2 ?side3 ?side4 A10.out).mono ?_); (case side1 => repeat (first | exact HR105_0.out | (with_reducible refine Kd.C_alloc ?_ _) | (with_reducible refine Kd.C_drewN ?_ _) | (with_reducible refine Kd.C_drew ?_))); (case side2 => exact HC105_0.out); (case side3 => repeat (first | exact HR106_0.out | (with_reducible refine Kd.C_alloc ?_ _) | (with_reducible refine Kd.C_drewN ?_ _) | (with_reducible refine Kd.C_drew ?_))); (case side4 => exact HC106_0.out); rintro e w' ⟨rfl, ⟨nd, rfl⟩⟩; (try first | exact ⟨rfl, _, World.drewN_drewN _ _ _⟩ | exact ⟨rfl, _, Eq.trans (World.drewN_drewN _ _ _) (congrArg (World.drewN _) (Nat.add_assoc _ _ _))⟩))); try go_wp2_with (first | (go_at_call 49; (with_reducible refine (rubricatorref20_same.calls k3 _ _ (rd_L1 l0 x10_3) _ _ (rd_L1 l2 x9_2) true _ ?side1 ?side2 ?side3 ?side4 A10.out).mono ?_); (case side1 => repeat (first | exact HR105_0.out | (with_reducible refine Kd.C_alloc ?_ _) | (with_reducible refine Kd.C_drewN ?_ _) | (with_reducible refine Kd.C_drew ?_))); (case side2 => exact HC105_0.out); (case side3 => repeat (first | exact HR106_0.out | (with_reducible refine Kd.C_alloc ?_ _) | (with_reducible refine Kd.C_drewN ?_ _) | (with_reducible refine Kd.C_drew ?_))); (case side4 => exact HC106_0.out); rintro e w' ⟨rfl, ⟨nd, rfl⟩⟩; (try first | exact ⟨rfl, _, World.drewN_drewN _ _ _⟩ | exact ⟨rfl, _, Eq.trans (World.drewN_drewN _ _ _) (congrArg (World.drewN _) (Nat.add_assoc _ _ _))⟩))))
                                go_roundg k3
                                case measure => have := HK1.out; have := HK2.out; have := HK3.out; omega
                                case rel => exact ⟨(wrap64 (x10_3 + 1)), (by first | rfl | (simp; done) | (simp [*]; done) | (simp [wrap64]; done)), H', ⟨by have := HK1.out; have := HK2.out; have := HK3.out; omega⟩, by repeat (first | exact Drawn0.refl _ | apply Drawn0.step)⟩
                          · replace c11 := Bool.eq_false_iff.mpr c11
                            subst c11
                            have H1 : (rubricatorref20_Choose.l2 k3 l0 l1 l2 x8_1 x9_2 (wrap64 (x10_3 + 1))) = some (r1, r2) := by rw [if_neg (show ¬ (false = true) by decide)] at H; exact H
                            clear H
                            have H := H1
                            clear H1
                            have H' := Aside0.mk H
                            clear H
                            have p105 : 0 ≤ (x10_3 : Int) := of_decide_eq_true (by first | (with_reducible assumption) | assumption)
                            have q105 : x10_3 < (l0.length : Int) := of_decide_eq_true (by first | (with_reducible assumption) | assumption)
                            obtain ⟨ad105, A105_0, c105_0, e105, hx105_0, hl105_0, hi105_0⟩ := at_L1 HR0.out x10_3 p105 q105
                            cases e105
                            have HR105_0 := Aside0.mk hi105_0
                            have HC105_0 := Aside0.mk hl105_0
                            clear hi105_0 hl105_0
                            replace p105 := eq_true p105
                            replace q105 := eq_true q105
                            have p106 : 0 ≤ (x9_2 : Int) := of_decide_eq_true (by first | (with_reducible assumption) | assumption)
                            have q106 : x9_2 < (l2.length : Int) := of_decide_eq_true (by first | (with_reducible assumption) | assumption)
                            obtain ⟨ad106, A106_0, c106_0, e106, hx106_0, hl106_0, hi106_0⟩ := at_L1 HR2.out x9_2 p106 q106
                            cases e106
                            have HR106_0 := Aside0.mk hi106_0
                            have HC106_0 := Aside0.mk hl106_0
                            clear hi106_0 hl106_0
                            replace p106 := eq_true p106
                            replace q106 := eq_true q106
                            go_wp2_with (first | (go_at_call 49; (with_reducible refine (rubricatorref20_same.calls k3 _ _ (rd_L1 l0 x10_3) _ _ (rd_L1 l2 x9_2) false _ ?side1 ?side2 ?side3 ?side4 A10.out).mono ?_); (case side1 => repeat (first | exact HR105_0.out | (with_reducible refine Kd.C_alloc ?_ _) | (with_reducible refine Kd.C_drewN ?_ _) | (with_reducible refine Kd.C_drew ?_))); (case side2 => exact HC105_0.out); (case side3 => repeat (first | exact HR106_0.out | (with_reducible refine Kd.C_alloc ?_ _) | (with_reducible refine Kd.C_drewN ?_ _) | (with_reducible refine Kd.C_drew ?_))); (case side4 => exact HC106_0.out); rintro e w' ⟨rfl, ⟨nd, rfl⟩⟩; (try first | exact ⟨rfl, _, World.drewN_drewN _ _ _⟩ | exact ⟨rfl, _, Eq.trans (World.drewN_drewN _ _ _) (congrArg (World.drewN _) (Nat.add_assoc _ _ _))⟩)))
                            repeat (go_quiet (first | (go_at_call 49; (with_reducible refine (rubricatorref20_same.calls k3 _ _ (rd_L1 l0 x10_3) _ _ (rd_L1 l2 x9_2) false _ ?side1 ?side2 ?side3 ?side4 A10.out).mono ?_); (case side1 => repeat (first | exact HR105_0.out | (with_reducible refine Kd.C_alloc ?_ _) | (with_reducible refine Kd.C_drewN ?_ _) | (with_reducible refine Kd.C_drew ?_))); (case side2 => exact HC105_0.out); (case side3 => repeat (first | exact HR106_0.out | (with_reducible refine Kd.C_alloc ?_ _) | (with_reducible refine Kd.C_drewN ?_ _) | (with_reducible refine Kd.C_drew ?_))); (case side4 => exact HC106_0.out); rintro e w' ⟨rfl, ⟨nd, rfl⟩⟩; (try first | exact ⟨rfl, _, World.drewN_drewN _ _ _⟩ | exact ⟨rfl, _, Eq.trans (World.drewN_drewN _ _ _) (congrArg (World.drewN _) (Nat.add_assoc _ _ _))⟩))); try go_wp2_with (first | (go_at_call 49; (with_reducible refine (rubricatorref20_same.calls k3 _ _ (rd_L1 l0 x10_3) _ _ (rd_L1 l2 x9_2) false _ ?side1 ?side2 ?side3 ?side4 A10.out).mono ?_); (case side1 => repeat (first | exact HR105_0.out | (with_reducible refine Kd.C_alloc ?_ _) | (with_reducible refine Kd.C_drewN ?_ _) | (with_reducible refine Kd.C_drew ?_))); (case side2 => exact HC105_0.out); (case side3 => repeat (first | exact HR106_0.out | (with_reducible refine Kd.C_alloc ?_ _) | (with_reducible refine Kd.C_drewN ?_ _) | (with_reducible refine Kd.C_drew ?_))); (case side4 => exact HC106_0.out); rintro e w' ⟨rfl, ⟨nd, rfl⟩⟩; (try first | exact ⟨rfl, _, World.drewN_drewN _ _ _⟩ | exact ⟨rfl, _, Eq.trans (World.drewN_drewN _ _ _) (congrArg (World.drewN _) (Nat.add_assoc _ _ _))⟩))))
                            go_roundg k3
                            case measure => have := HK1.out; have := HK2.out; have := HK3.out; omega
                            case rel => exact ⟨(wrap64 (x10_3 + 1)), (by first | rfl | (simp; done) | (simp [*]; done) | (simp [wrap64]; done)), H', ⟨by have := HK1.out; have := HK2.out; have := HK3.out; omega⟩, by repeat (first | exact Drawn0.refl _ | apply Drawn0.step)⟩
                        · rw [if_neg c9] at H
                          exact absurd H (by simp)
                      · rw [if_neg c8] at H
                        exact absurd H (by simp)
                    · rw [if_neg c7] at H
                      exact absurd H (by simp)
                  · rw [if_neg c6] at H
                    have c6b0 : decide (x10_3 < (l0.length : Int)) = false := decide_eq_false c6
                    clear c6
                    have H' := Aside0.mk H
                    clear H
                    go_wp2
                    repeat (go_quiet (fail); try go_wp2)
                    go_roundg k3
                    case measure => have := HK1.out; have := HK2.out; have := HK3.out; omega
                    case rel => exact ⟨(wrap64 (x9_2 + 1)), (by first | rfl | (simp; done) | (simp [*]; done) | (simp [wrap64]; done)), H', ⟨by have := HK1.out; have := HK2.out; have := HK3.out; omega⟩, by repeat (first | exact Drawn0.refl _ | apply Drawn0.step)⟩
            · rw [if_neg c5] at H
              have c5b0 : decide (x9_2 < (l1.length : Int)) = false := decide_eq_false c5
              clear c5
              have H' := Aside0.mk H
              clear H
              go_wp2
              repeat (go_quiet (fail); try go_wp2)
              go_roundg k2
              case measure => have := HK1.out; have := HK2.out; omega
              case rel => exact ⟨(wrap64 (x8_1 + 1)), (by first | rfl | (simp; done) | (simp [*]; done) | (simp [wrap64]; done)), H', ⟨by have := HK1.out; have := HK2.out; omega⟩, by repeat (first | exact Drawn0.refl _ | apply Drawn0.step)⟩
      · rw [if_neg c4] at H
        have c4b0 : decide (x8_1 < 2) = false := decide_eq_false c4
        clear c4
        simp only [Option.some.injEq, Prod.mk.injEq] at H
        obtain ⟨rfl, rfl⟩ := H
        go_wp2
        repeat (go_quiet (fail); try go_wp2)
        go_ret2
        try simp only [beq_nil_isEmpty, bytesLess_gtr]
        exact ⟨by first | rfl | (simp; done) | (simp [*]; done), by repeat (first | exact Drawn0.refl _ | apply Drawn0.step)⟩
end Go.Proofs.YtapcpndplnkfjaaGreatDoor
namespace Go.Proofs.YtapcpndplnkfjaaGreatDoor
open Go.RowKit Go.Proofs.YtapcpndplnkfjaaGreatDoorW.PrintWords Go.Proofs.YtapcpndplnkfjaaGreatDoorW.PrintLast Go.Proofs.YtapcpndplnkfjaaGreatDoorW.PrintMore
set_option linter.unusedVariables false
set_option linter.unusedSimpArgs false
namespace Js
theorem toList_inj (a b : ByteArray) : a.toList = b.toList ↔ a = b := by
  rw [ByteArray.toList_eq, ByteArray.toList_eq]
  exact ⟨fun h => ByteArray.ext (Array.toList_inj.1 h), fun h => by rw [h]⟩
theorem eq_l0 (a b : List ByteArray) (hab : a.length = b.length) (hl : a.length ≤ 9223372036854775807) (n : Nat) : ∀ i k, i + n = a.length → n < k →
    slices_Equal_string_string.l0 k a b (a.length : Int) (i : Int) = some (decide (a.drop i = b.drop i)) := by
  induction n with
  | zero =>
    intro i k hi hk
    obtain ⟨k, rfl⟩ : ∃ m, k = m + 1 := ⟨k - 1, by omega⟩
    simp only [slices_Equal_string_string.l0]
    rw [if_neg (by omega), List.drop_of_length_le (by omega), List.drop_of_length_le (by omega)]
    rfl
  | succ n ih =>
    intro i k hi hk
    obtain ⟨k, rfl⟩ : ∃ m, k = m + 1 := ⟨k - 1, by omega⟩
    have h1 : i < a.length := by omega
    have h2 : i < b.length := by omega
    have hw : wrap64 ((i : Int) + 1) = ((i + 1 : Nat) : Int) := by unfold wrap64; omega
    simp only [slices_Equal_string_string.l0]
    have hra : rdOf ByteArray.empty a (i : Int) = a[i] := by simp [rdOf, h1]
    have hrb : rdOf ByteArray.empty b (i : Int) = b[i] := by simp [rdOf, h2]
    rw [if_pos (by omega), if_pos (by omega), if_pos (by omega), if_pos (by omega), hra, hrb, hw]
    have hda : a.drop i = a[i] :: a.drop (i + 1) := List.drop_eq_getElem_cons h1
    have hdb : b.drop i = b[i] :: b.drop (i + 1) := List.drop_eq_getElem_cons h2
    rw [hda, hdb]
    by_cases h : a[i] = b[i]
    · rw [if_pos (by rw [h]), ih (i + 1) k (by omega) (by omega)]
      congr 1
      rw [decide_eq_decide]
      exact ⟨fun e => by rw [h, e], fun e => (List.cons.inj e).2⟩
    · rw [if_neg (fun e => h ((toList_inj _ _).1 e))]
      congr 1
      symm
      rw [decide_eq_false_iff_not]
      intro e
      exact h (List.cons.inj e).1
theorem equal_calls (A B : Option Addr) (c d : Nat) (a b : List ByteArray) (w : World) (ha : Kd.C Kd.string w A a.length a) (hc : a.length ≤ c) (hb : Kd.C Kd.string w B b.length b) (hd : b.length ≤ d) :
    Calls Tryz.prog 48 #[.slice A a.length c, .slice B b.length d] w fun e w' => e = .returned (.bool (decide (a = b))) ∧ Drawn0 w w' := by
  refine slices_Equal_string_string.calls (a.length + 1) A c a B d b _ w ha hc hb hd ?_
  unfold slices_Equal_string_string.f
  by_cases h : a.length = b.length
  · rw [if_pos (by omega)]
    have := eq_l0 a b h ha.2.1 a.length 0 (a.length + 1) (by omega) (by omega)
    simpa using this
  · rw [if_neg (by omega)]
    congr 1
    symm
    rw [decide_eq_false_iff_not]
    intro e
    rw [e] at h
    exact h rfl
set_option maxRecDepth 100000 in
theorem way_one (ws s : List ByteArray) (A S : Option Addr) (c d : Nat) (g : Nat) (w : World) (hA : Kd.C Kd.string w A ws.length ws) (hc : ws.length ≤ c) (hg : w.cell? ⟨g, 1, none⟩ = some (.slice S s.length d)) (hS : Kd.C Kd.string w S s.length s) (hd : s.length ≤ d) :
    Calls Tryz.prog 47 #[.slice A ws.length c, .pointer (some ⟨g, 0, none⟩)] w fun e w' => e = .returned (.bool (decide (ws = s))) ∧ Drawn0 w w' := by
  have HE := Lib.hid (equal_calls A S c d ws s w hA hc hS hd)
  clear hA hS
  go_enter Tryz.func47, Tryz.ntmps47
  go_wp2_with fail
  refine HE.out.mono ?_
  rintro E w1 ⟨rfl, hw⟩
  go_wp2_with fail
  go_ret
  exact ⟨rfl, hw⟩
def wayFrom (s : List ByteArray) : List (List ByteArray) → Nat → Int
  | [], _ => -1
  | w :: t, i => if w = s then (i : Int) else wayFrom s t (i + 1)
theorem drawn_trans {a b c : World} (h : Drawn0 a b) (k : Drawn0 b c) : Drawn0 a c := by
  obtain ⟨⟨n, rfl⟩⟩ := h; obtain ⟨⟨m, rfl⟩⟩ := k; exact ⟨⟨n + m, by rw [World.drewN_drewN]⟩⟩
theorem drawn_below {a b : World} (h : Drawn0 a b) : Below a.heap.size a b := by
  obtain ⟨⟨n, rfl⟩⟩ := h; exact pw_below_drewN (Below.refl _ _) _
theorem row_at {w : World} {A : Option Addr} {l : List (List ByteArray)} (h : Kd.C (Kd.slice 9 Kd.string) w A l.length l) (k : Nat) (hk : k < l.length) :
    ∃ ad A' c', A = some ad ∧ w.cell? (ad.add k) = some (.slice A' (l.getD k []).length c') ∧ (l.getD k []).length ≤ c' ∧ Kd.C Kd.string w A' (l.getD k []).length (l.getD k []) := by
  obtain ⟨ad, c, e, hs, ⟨A', c', rfl, hl, hc⟩, hcell⟩ := ReadsRow.get_ h [] (k : Int) (by omega) (by omega)
  refine ⟨ad, A', c', e, ?_, by simpa using hl, by simpa using hc⟩
  have := hcell 0 _ rfl
  simpa [Kd.slice] using this
set_option maxRecDepth 100000 in
set_option maxHeartbeats 4000000 in
theorem idx_calls (ways : List (List ByteArray)) (s : List ByteArray) (A S : Option Addr) (c d : Nat) (g : Nat) (w : World) (hA : Kd.C (Kd.slice 9 Kd.string) w A ways.length ways) (hg : w.cell? ⟨g, 1, none⟩ = some (.slice S s.length d)) (hS : Kd.C Kd.string w S s.length s) (hd : s.length ≤ d) (hgl : g < w.heap.size) :
    Calls Tryz.prog 46 #[.slice A ways.length c, .func (.func 47) #[] #[.pointer (some ⟨g, 0, none⟩)]] w fun e w' => e = .returned (.int .i64 (wayFrom s ways 0)) ∧ Drawn0 w w' := by
  have hn : ways.length ≤ 9223372036854775807 := hA.2.1
  have HA := Lib.hid hA
  have HG := Lib.hid (And.intro hg hgl)
  have HS := Lib.hid hS
  have HD := Lib.hid hd
  clear hA hg hS hd hgl
  go_enter Tryz.func46, Tryz.ntmps46
  go_wp2_with fail
  go_loopw [8] (fun vi wr => ∃ k : Nat, k ≤ ways.length ∧ vi = .int .i64 k ∧ Hid (Drawn0 w wr) ∧ Hid (wayFrom s ways 0 = wayFrom s (ways.drop k) k)) (fun vi _ => ways.length - (intOf vi).toNat)
  case atStart => exact ⟨0, by omega, rfl, Lib.hid ⟨⟨0, rfl⟩⟩, Lib.hid rfl⟩
  case round =>
    obtain ⟨k, hk, rfl, HW, HE⟩ := hrel
    have hb := drawn_below HW.out
    by_cases hkl : k < ways.length
    · obtain ⟨ad, A', c', rfl, hc, hlc, hC⟩ := row_at HA.out k hkl
      have hc' := pw_cell_below hb hc
      have HO := Lib.hid (way_one (ways.getD k []) s A' S c' d g wr (Kd.C_below hC hb) hlc (pw_cell_below hb HG.out.1) (Kd.C_below HS.out hb) HD.out)
      have hdr : ways.drop k = ways.getD k [] :: ways.drop (k + 1) := by rw [List.drop_eq_getElem_cons hkl, List.getD_eq_getElem?_getD, List.getElem?_eq_getElem hkl]; rfl
      have HDR := Lib.hid hdr
      clear hb hc hC hdr
      obtain ⟨R, hR⟩ : ∃ R, R = ways.getD k [] := ⟨_, rfl⟩
      rw [← hR] at hc' hlc HO HDR
      have HRR := Lib.hid hR
      clear hR
      go_wp2_with fail
      refine HO.out.mono ?_
      rintro E w2 ⟨rfl, hw⟩
      have HW2 := Lib.hid (drawn_trans HW.out hw)
      clear hw
      by_cases he : R = s
      · have hF : wayFrom s ways 0 = (k : Int) := by rw [HE.out, HDR.out]; simp only [wayFrom]; rw [if_pos he]
        have HF := Lib.hid hF
        rw [decide_eq_true he]
        clear he hF
        go_wp2_with fail
        go_ret
        rw [HF.out]
        exact ⟨rfl, HW2.out⟩
      · have hF : wayFrom s ways 0 = wayFrom s (ways.drop (k + 1)) (k + 1) := by rw [HE.out, HDR.out]; simp only [wayFrom]; rw [if_neg he]
        have HF := Lib.hid hF
        rw [decide_eq_false he]
        clear he hF
        go_wp2_with fail
        exact ⟨⟨k + 1, by omega, by simp, HW2, HF⟩, by simp [intOf]; omega⟩
    · have : k = ways.length := by omega
      subst this
      have hF : wayFrom s ways 0 = -1 := by rw [HE.out, List.drop_length]; rfl
      have HF := Lib.hid hF
      clear hF hb
      go_wp2_with fail
      go_ret
      rw [HF.out]
      exact ⟨rfl, HW.out⟩
structure Must where
  op : Int
  steps : List ByteArray
  v : S28
structure OkMust (m : Must) : Prop where
  k : 0 ≤ m.v.f0 ∧ m.v.f0 ≤ 5
  n : okNum m.v.f2
  t : m.v.f3.data.toList.length ≤ 400000
set_option maxRecDepth 100000 in
theorem way_calls (m : Must) (ways : List (List ByteArray)) (A S V B : Option Addr) (c d vn vc bn bc gw : Nat) (w : World) (hA : Kd.C (Kd.slice 9 Kd.string) w A ways.length ways) (hg : w.cell? ⟨gw, 0, none⟩ = some (.slice A ways.length c)) (hgl : gw < w.heap.size) (hS : Kd.C Kd.string w S m.steps.length m.steps) (hd : m.steps.length ≤ d) :
    Calls Tryz.prog 45 #[.agg #[.int .i64 m.op, .slice S m.steps.length d, .int .i64 m.v.f0, .bool m.v.f1, .bool m.v.f2.f0, .string m.v.f2.f1, .int .i64 m.v.f2.f2, .string m.v.f3, .slice V vn vc, .slice B bn bc], .pointer (some ⟨gw, 0, none⟩)] w fun e w' => e = .returned (.int .i64 (wayFrom m.steps ways 0)) ∧ Below w.heap.size w w' := by
  have hal := fun o => below_alloc (Below.refl w.heap.size w) o
  have HI := Lib.hid (fun o (h1 : (w.alloc o).cell? ⟨w.heap.size, 1, none⟩ = some (.slice S m.steps.length d)) => idx_calls ways m.steps A S c d w.heap.size (w.alloc o) (Kd.C_below hA (hal o)) h1 (Kd.C_below hS (hal o)) hd (by simp))
  have HA := Lib.hid hal
  clear hA hS hal
  go_enter Tryz.func45, Tryz.ntmps45
  go_wp2_with fail
  refine (HI.out _ ?_).mono ?_
  · go_simp
  rintro E w1 ⟨rfl, hw⟩
  have HB := Lib.hid ((HA.out _).trans ((drawn_below hw).mono (HA.out _).size))
  clear hw
  go_wp2_with fail
  go_ret
  exact ⟨rfl, HB.out⟩
end Js
end Go.Proofs.YtapcpndplnkfjaaGreatDoor
namespace Go.Proofs.YtapcpndplnkfjaaGreatDoor
open Go.RowKit Go.Proofs.YtapcpndplnkfjaaGreatDoorW.PrintWords Go.Proofs.YtapcpndplnkfjaaGreatDoorW.PrintLast Go.Proofs.YtapcpndplnkfjaaGreatDoorW.PrintMore
set_option linter.unusedVariables false
set_option linter.unusedSimpArgs false
namespace Js
def MR (w : World) (m : Must) (cs : List Value) : Prop := ∃ S d V vn vc B bn bc, cs = [.int .i64 m.op, .slice S m.steps.length d, .int .i64 m.v.f0, .bool m.v.f1, .bool m.v.f2.f0, .string m.v.f2.f1, .int .i64 m.v.f2.f2, .string m.v.f3, .slice V vn vc, .slice B bn bc] ∧ m.steps.length ≤ d ∧ Kd.C Kd.string w S m.steps.length m.steps
theorem MR.below {w w' : World} {m : Must} {cs : List Value} (h : MR w m cs) (hb : Below w.heap.size w w') : MR w' m cs := by
  obtain ⟨S, d, V, vn, vc, B, bn, bc, h1, h2, h3⟩ := h
  exact ⟨S, d, V, vn, vc, B, bn, bc, h1, h2, Kd.C_below h3 hb⟩
def must0 : Must := ⟨0, [], z28⟩
def MC (w : World) (A : Option Addr) (n : Nat) (ms : List Must) : Prop := ReadsRow (MR w) 10 w A n ms
theorem MC.below {w w' : World} {A : Option Addr} {n : Nat} {ms : List Must} (h : MC w A n ms) (hb : Below w.heap.size w w') : MC w' A n ms := ReadsRow.imp_ h hb (fun _ _ hp => MR.below hp hb)
theorem must_at {w : World} {A : Option Addr} {ms : List Must} (h : MC w A ms.length ms) (i : Nat) (hi : i < ms.length) : ∃ ad S d V vn vc B bn bc, A = some ad ∧ w.cell? (ad.add (i * 10)) = some (.int .i64 (ms.getD i must0).op) ∧
    w.cell? ⟨(ad.add (i * 10)).block, (ad.add (i * 10)).off + 1, none⟩ = some (.slice S (ms.getD i must0).steps.length d) ∧ w.cell? ⟨(ad.add (i * 10)).block, (ad.add (i * 10)).off + 2, none⟩ = some (.int .i64 (ms.getD i must0).v.f0) ∧
    w.cell? ⟨(ad.add (i * 10)).block, (ad.add (i * 10)).off + 3, none⟩ = some (.bool (ms.getD i must0).v.f1) ∧ w.cell? ⟨(ad.add (i * 10)).block, (ad.add (i * 10)).off + 4, none⟩ = some (.bool (ms.getD i must0).v.f2.f0) ∧
    w.cell? ⟨(ad.add (i * 10)).block, (ad.add (i * 10)).off + 5, none⟩ = some (.string (ms.getD i must0).v.f2.f1) ∧ w.cell? ⟨(ad.add (i * 10)).block, (ad.add (i * 10)).off + 6, none⟩ = some (.int .i64 (ms.getD i must0).v.f2.f2) ∧
    w.cell? ⟨(ad.add (i * 10)).block, (ad.add (i * 10)).off + 7, none⟩ = some (.string (ms.getD i must0).v.f3) ∧ w.cell? ⟨(ad.add (i * 10)).block, (ad.add (i * 10)).off + 8, none⟩ = some (.slice V vn vc) ∧
    w.cell? ⟨(ad.add (i * 10)).block, (ad.add (i * 10)).off + 9, none⟩ = some (.slice B bn bc) ∧ (ms.getD i must0).steps.length ≤ d ∧ Kd.C Kd.string w S (ms.getD i must0).steps.length (ms.getD i must0).steps := by
  obtain ⟨ad, c, e, _, ⟨S, d, V, vn, vc, B, bn, bc, rfl, h1, h2⟩, hc0⟩ := ReadsRow.get_ h must0 (i : Int) (by omega) (by omega)
  simp only [Int.toNat_natCast] at h1 h2 hc0
  exact ⟨ad, S, d, V, vn, vc, B, bn, bc, e, hc0 0 _ rfl, by rw [← add_field _ _ 1 (by omega)]; exact hc0 1 _ rfl, by rw [← add_field _ _ 2 (by omega)]; exact hc0 2 _ rfl, by rw [← add_field _ _ 3 (by omega)]; exact hc0 3 _ rfl, by rw [← add_field _ _ 4 (by omega)]; exact hc0 4 _ rfl, by rw [← add_field _ _ 5 (by omega)]; exact hc0 5 _ rfl, by rw [← add_field _ _ 6 (by omega)]; exact hc0 6 _ rfl, by rw [← add_field _ _ 7 (by omega)]; exact hc0 7 _ rfl, by rw [← add_field _ _ 8 (by omega)]; exact hc0 8 _ rfl, by rw [← add_field _ _ 9 (by omega)]; exact hc0 9 _ rfl, h1, h2⟩
def pick (ways : List (List ByteArray)) (q : Bool) (m : Must) : Option (Int × List Int × List Int) :=
  if (boundsL m.op m.v).2.2 = true ∧ 0 ≤ wayFrom m.steps ways 0 ∧ (q == (m.op == 0)) = true then some (wayFrom m.steps ways 0, (boundsL m.op m.v).1, (boundsL m.op m.v).2.1) else none
def firstOf (ways : List (List ByteArray)) (q : Bool) : List Must → Option (Int × List Int × List Int)
  | [] => none
  | m :: t => match pick ways q m with | some r => some r | none => firstOf ways q t
def chooseL (ways : List (List ByteArray)) (ms : List Must) : Option (Int × List Int × List Int) :=
  match firstOf ways true ms with | some r => some r | none => firstOf ways false ms
def spanOf (r : Option (Int × List Int × List Int)) : Int × List Int × List Int × Bool := match r with | some (i, a, b) => (i, a, b, true) | none => (0, [], [], false)
structure ChI (A : Option Addr) (n c : Nat) (w wr : World) : Prop where
  b0 : wr.heap[w.heap.size]? = some (.cells #[.slice A n c] 56 (0, 0))
  b1 : wr.heap[w.heap.size + 1]? = some (.cells #[.int .i64 0, .slice none 0 0, .slice none 0 0] 60 (0, 0))
  b2 : wr.heap[w.heap.size + 1 + 1]? = some (.cells #[.bool true, .bool false] 4 (0, 0))
  bel : Below w.heap.size w wr
theorem ChI.below {A : Option Addr} {n c : Nat} {w wr w' : World} (h : ChI A n c w wr) (hb : Below wr.heap.size wr w') : ChI A n c w w' :=
  ⟨thru h.b0 hb, thru h.b1 hb, thru h.b2 hb, h.bel.trans (hb.mono h.bel.size)⟩
theorem ChI.start (A : Option Addr) (n c : Nat) (w : World) : ChI A n c w (((w.alloc (.cells #[.slice A n c] 56)).alloc (.cells #[.int .i64 0, .slice none 0 0, .slice none 0 0] 60)).alloc (.cells #[.bool true, .bool false] 4)) := by
  have e1 : ∀ o, (w.alloc o).heap.size = w.heap.size + 1 := fun o => by simp
  have e2 : ∀ o p, ((w.alloc o).alloc p).heap.size = w.heap.size + 1 + 1 := fun o p => by simp
  exact ⟨blk_alloc (blk_alloc (blk_new w _) _) _, blk_alloc (by have := blk_new (w.alloc (.cells #[.slice A n c] 56)) (.cells #[.int .i64 0, .slice none 0 0, .slice none 0 0] 60); rwa [e1] at this) _,
    by have := blk_new ((w.alloc (.cells #[.slice A n c] 56)).alloc (.cells #[.int .i64 0, .slice none 0 0, .slice none 0 0] 60)) (.cells #[.bool true, .bool false] 4); rwa [e2] at this,
    below_alloc (below_alloc (below_alloc (Below.refl _ _) _) _) _⟩
set_option maxRecDepth 100000 in
set_option maxHeartbeats 8000000 in
theorem choose_calls (ways : List (List ByteArray)) (ms : List Must) (hms : ∀ m ∈ ms, OkMust m) (A M : Option Addr) (c d : Nat) (w : World) (hT : KTabs w) (hA : Kd.C (Kd.slice 9 Kd.string) w A ways.length ways) (hM : MC w M ms.length ms) :
    Calls Tryz.prog 26 #[.slice A ways.length c, .slice M ms.length d] w fun e w' => ∃ v1 v2 : Value, e = .returned (.tuple #[.agg #[.int .i64 (spanOf (chooseL ways ms)).1, v1, v2], .bool (spanOf (chooseL ways ms)).2.2.2]) ∧
      Kd.R (Kd.int .u8) 5 w' w.heap.size (fun _ => True) v1 (spanOf (chooseL ways ms)).2.1 ∧ Kd.R (Kd.int .u8) 5 w' w.heap.size (fun _ => True) v2 (spanOf (chooseL ways ms)).2.2.1 ∧ Below w.heap.size w w' := by
  have hn : ms.length ≤ 9223372036854775807 := hM.2.1
  have HT := Lib.hid hT
  have HA := Lib.hid hA
  have HM := Lib.hid hM
  have HMS := Lib.hid hms
  clear hT hA hM hms
  go_enter Tryz.func26, Tryz.ntmps26
  go_wp2_with fail
  go_loopw [18] (fun vi wr => ∃ k : Nat, k ≤ 2 ∧ vi = .int .i64 k ∧ Hid (ChI A ways.length c w wr) ∧ Hid (chooseL ways ms = if k = 0 then chooseL ways ms else if k = 1 then firstOf ways false ms else none)) (fun vi _ => 2 - (intOf vi).toNat)
  case atStart => exact ⟨0, by omega, rfl, Lib.hid (ChI.start _ _ _ _), Lib.hid rfl⟩
  case round =>
    obtain ⟨k, hk, rfl, HI, HE⟩ := hrel
    by_cases hkl : k < 2
    case neg =>
      have : k = 2 := by omega
      subst this
      have HF : Hid (chooseL ways ms = none) := Lib.hid HE.out
      go_wp2_with (refine row_event rfl 60 (.tmp 4) (.tmp 55) rfl (w.heap.size + 1) _ rfl rfl 60 _ HI.out.b1 (by kernel_rfl) rfl rfl ?_; intro w6 hr6 hk6)
      refine bodyPost_ret (results_list (rs := [.cell 4 60, .tmp 5]) rfl (by simp) (.cell (w.heap.size + 1) 60 _ (0, 0) _ rfl hr6 Tryz.underlying60 rfl (by kernel_rfl) (.tmp .nil))) rfl ?_
      rw [HF.out]
      exact ⟨_, _, rfl, Kd.R_nil _ _ _ _ _, Kd.R_nil _ _ _ _ _, HI.out.bel.grown hk6 HI.out.bel.size (fun i e => by injection e with e; omega)⟩
    case pos =>
    obtain ⟨q, hq⟩ : ∃ q, q = decide (k = 0) := ⟨_, rfl⟩
    have hc : wr.cell? ⟨w.heap.size + 1 + 1, k, none⟩ = some (.bool q) := by
      rw [hq]
      have : k = 0 ∨ k = 1 := by omega
      rcases this with rfl | rfl
      · exact (blk_cell HI.out.b2 0).trans rfl
      · exact (blk_cell HI.out.b2 1).trans rfl
    have HE2 : Hid ((firstOf ways q ms = none → chooseL ways ms = if k + 1 = 0 then chooseL ways ms else if k + 1 = 1 then firstOf ways false ms else none) ∧ (∀ r, firstOf ways q ms = some r → chooseL ways ms = some r)) := Lib.hid (by
      have : k = 0 ∨ k = 1 := by omega
      rcases this with rfl | rfl
      · have hq : q = true := hq
        subst hq
        exact ⟨fun h => by unfold chooseL; rw [h]; rfl, fun r h => by unfold chooseL; rw [h]⟩
      · have hq : q = false := hq
        subst hq
        have h1 : chooseL ways ms = firstOf ways false ms := HE.out
        exact ⟨fun h => by rw [h1, h]; rfl, fun r h => by rw [h1, h]⟩)
    have hkd : decide ((k : Int) < 2) = true := by simp; omega
    clear hq HE
    go_wp2_with fail
    clear hkd
    clear hc
    obtain ⟨wo, hwo⟩ : ∃ wo : World, wo = wr := ⟨_, rfl⟩
    go_loopw [24] (fun vi w4 => ∃ j : Nat, j ≤ ms.length ∧ vi = .int .i64 j ∧ Hid (ChI A ways.length c w w4) ∧ Hid (firstOf ways q ms = firstOf ways q (ms.drop j))) (fun vi _ => ms.length - (intOf vi).toNat)
    case atStart => exact ⟨0, by omega, rfl, HI, Lib.hid rfl⟩
    case round =>
      clear HI hwo
      obtain ⟨j, hj, rfl, HI, HF⟩ := hrel
      by_cases hjl : j < ms.length
      case neg =>
        have : j = ms.length := by omega
        subst this
        have hnone : firstOf ways q ms = none := by rw [HF.out, List.drop_length]; rfl
        have HN := Lib.hid (HE2.out.1 hnone)
        clear hnone HF
        go_wp2_with fail
        exact ⟨⟨k + 1, by omega, by simp, HI, HN⟩, by simp [intOf]; omega⟩
      obtain ⟨ad, S, sd, V, vn, vc, B, bn, bc, rfl, q0, q1, q2, q3, q4, q5, q6, q7, q8, q9, hsd, hS⟩ := must_at (HM.out.below HI.out.bel) j hjl
      have hdr : ms.drop j = ms.getD j must0 :: ms.drop (j + 1) := by rw [List.drop_eq_getElem_cons hjl, List.getD_eq_getElem?_getD, List.getElem?_eq_getElem hjl]; rfl
      have hmem : ms.getD j must0 ∈ ms := by rw [List.getD_eq_getElem?_getD, List.getElem?_eq_getElem hjl]; exact List.getElem_mem hjl
      have HO := Lib.hid (HMS.out _ hmem)
      obtain ⟨m, hm⟩ : ∃ m, m = ms.getD j must0 := ⟨_, rfl⟩
      rw [← hm] at q0 q1 q2 q3 q4 q5 q6 q7 hsd hS hdr HO
      have HDR := Lib.hid hdr
      have HS := Lib.hid hS
      have HMM := Lib.hid hm
      clear hdr hmem hm hS
      go_wp2_with fail
      have HAL := Lib.hid (HI.out.below (below_alloc (Below.refl wr.heap.size wr) (.cells #[.int .i64 m.op, .slice S m.steps.length sd, .int .i64 m.v.f0, .bool m.v.f1, .bool m.v.f2.f0, .string m.v.f2.f1, .int .i64 m.v.f2.f2, .string m.v.f3, .slice V vn vc, .slice B bn bc] 50)))
      refine (bounds_calls m.op m.v HO.out.k HO.out.n HO.out.t S V B _ _ _ _ _ _ _ (HT.out.below HAL.out.bel)).mono ?_
      rintro E w5 ⟨v1, v2, rfl, hR1, hR2, hB⟩
      have HI5 := Lib.hid (HAL.out.below hB)
      obtain ⟨hkt, hlt⟩ := kept hB
      obtain ⟨p0, p1, p2, p3, p4, p5, p6, p7, p8, p9⟩ := ten hkt
      have hS5 := Kd.C_below HS.out ((below_alloc (Below.refl _ _) _).trans (hB.mono (below_alloc (Below.refl _ _) _).size))
      have HWY := Lib.hid (way_calls m ways A S V B c sd vn vc bn bc w.heap.size w5 (Kd.C_below HA.out HI5.out.bel) ((blk_cell HI5.out.b0 0).trans rfl) (blk_lt HI5.out.b0) hS5 hsd)
      have HR1 := Lib.hid (Kd.R_lower (base' := wr.heap.size) hR1 (by simp))
      have HR2 := Lib.hid (Kd.R_lower (base' := wr.heap.size) hR2 (by simp))
      have HLW := Lib.hid (blk_lt HI.out.b2)
      have HKT := Lib.hid hkt
      obtain ⟨A1, c1, rfl⟩ := Kd.R_slice hR1
      obtain ⟨A2, c2, rfl⟩ := Kd.R_slice hR2
      have HPK : Hid (pick ways q m = if (boundsL m.op m.v).2.2 = true ∧ 0 ≤ wayFrom m.steps ways 0 ∧ (q == (m.op == 0)) = true then some (wayFrom m.steps ways 0, (boundsL m.op m.v).1, (boundsL m.op m.v).2.1) else none) := Lib.hid rfl
      clear hB hR1 hR2 hkt hS5 q0 q1 q2 q3 q4 q5 q6 q7 q8 q9 HI HS hsd HAL
      obtain ⟨b, hb⟩ : ∃ b, b = (boundsL m.op m.v).2.2 := ⟨_, rfl⟩
      obtain ⟨L1, hL1⟩ : ∃ L, L = (boundsL m.op m.v).1 := ⟨_, rfl⟩
      obtain ⟨L2, hL2⟩ : ∃ L, L = (boundsL m.op m.v).2.1 := ⟨_, rfl⟩
      obtain ⟨i, hi⟩ : ∃ i, i = wayFrom m.steps ways 0 := ⟨_, rfl⟩
      rw [← hb, ← hL1, ← hL2, ← hi] at HPK
      rw [← hL1] at HR1 ⊢
      rw [← hL2] at HR2 ⊢
      rw [← hb]
      rw [← hi] at HWY
      clear hb hL1 hL2 hi
      go_wp2_with fail
      refine HWY.out.mono ?_
      rintro E w6 ⟨rfl, hB⟩
      have HI6 := Lib.hid (HI5.out.below hB)
      have hkt := thru HKT.out hB
      have p0 : w6.cell? ⟨wr.heap.size, 0, none⟩ = some (.int .i64 m.op) := (blk_cell hkt 0).trans rfl
      have HR1 := Lib.hid (Kd.R_below HR1.out hB)
      have HR2 := Lib.hid (Kd.R_below HR2.out hB)
      clear hkt hB HKT HWY p1 p2 p3 p4 p5 p6 p7 p8 p9
      by_cases hpk : b = true ∧ 0 ≤ i ∧ (q == (m.op == 0)) = true
      · obtain ⟨rfl, hi0, hq⟩ := hpk
        have hch : chooseL ways ms = some (i, L1, L2) := HE2.out.2 _ (by rw [HF.out, HDR.out]; unfold firstOf; rw [HPK.out, if_pos ⟨rfl, hi0, hq⟩])
        have HCH := Lib.hid hch
        clear hch
        go_wp2_with (refine row_event rfl 60 (.tmp 4) (.tmp 52) rfl (w.heap.size + 1) #[.int .i64 i, .slice A1 L1.length c1, .slice A2 L2.length c2] rfl rfl 60 _ HI6.out.b1 (by kernel_rfl) rfl rfl ?_; intro w7 hr7 hk7)
        refine bodyPost_ret (results_list (rs := [.cell 4 60, .tmp 5]) rfl (by simp) (.cell (w.heap.size + 1) 60 _ (0, 0) _ rfl hr7 Tryz.underlying60 rfl (by kernel_rfl) (.tmp .nil))) rfl ?_
        rw [HCH.out]
        have mv : ∀ {v : Value} {L : List Int}, Kd.R (Kd.int .u8) 5 w6 wr.heap.size (fun _ => True) v L → Kd.R (Kd.int .u8) 5 w7 w.heap.size (fun _ => True) v L := fun h =>
          Kd.R_lower (Kd.R_mono (Kd.R_grown (Kd.R_bound h) hk7 (fun k hk e => by have := HLW.out; have := hk.2.1; injection e with e; omega)) (fun _ _ => trivial)) (by have := HLW.out; omega)
        exact ⟨_, _, rfl, mv HR1.out, mv HR2.out, HI6.out.bel.grown hk7 HI6.out.bel.size (fun i e => by injection e with e; omega)⟩
      · have hnx : firstOf ways q ms = firstOf ways q (ms.drop (j + 1)) := by
          rw [HF.out, HDR.out]
          conv => lhs; unfold firstOf
          rw [HPK.out, if_neg hpk]
        have HNX := Lib.hid hnx
        clear hnx
        by_cases hb : b = true
        · subst hb
          by_cases hi0 : 0 ≤ i
          · have hq : (q == (m.op == 0)) = false := by
              rw [Bool.eq_false_iff]; exact fun h => hpk ⟨rfl, hi0, h⟩
            clear hpk
            go_wp2_with fail
            go_roundw
            case rel => exact ⟨j + 1, by omega, by simp, HI6, HNX⟩
            case measure => simp [intOf]; omega
          · have hi1 : i < 0 := by omega
            have hi2 : decide (0 ≤ i) = false := by simpa using hi0
            clear hpk hi0
            go_wp2_with fail
            go_roundw
            case rel => exact ⟨j + 1, by omega, by simp, HI6, HNX⟩
            case measure => simp [intOf]; omega
        · have hb : b = false := by simpa using hb
          subst hb
          clear hpk
          go_wp2_with fail
          go_roundw
          case rel => exact ⟨j + 1, by omega, by simp, HI6, HNX⟩
          case measure => simp [intOf]; omega
end Js
end Go.Proofs.YtapcpndplnkfjaaGreatDoor
namespace Go.Proofs.YtapcpndplnkfjaaGreatDoor
open Go.RowKit Go.Proofs.YtapcpndplnkfjaaGreatDoorW.PrintWords Go.Proofs.YtapcpndplnkfjaaGreatDoorW.PrintLast Go.Proofs.YtapcpndplnkfjaaGreatDoorW.PrintMore
set_option linter.unusedVariables false
set_option linter.unusedSimpArgs false
namespace Js
theorem reads_blk {α : Type} {R : α → List Value → Prop} {size : Nat} {w : World} {g : Nat} {cells : Array Value} {t : TypeId} (h : w.heap[g]? = some (.cells cells t (0, 0))) (ps : List α) (hn : ps.length ≤ 9223372036854775807)
    (hr : ∀ j p, ps[j]? = some p → ∃ c, c.length = size ∧ R p c ∧ ∀ i u, c[i]? = some u → cells[j * size + i]? = some u) : ReadsRow R size w (some ⟨g, 0, none⟩) ps.length ps :=
  ⟨rfl, hn, fun _ => ⟨_, rfl, fun j p hj => by
    obtain ⟨c, h1, h2, h3⟩ := hr j p hj
    refine ⟨c, h1, h2, fun i u hu => ?_⟩
    have e : (⟨g, 0, none⟩ : Addr).add (j * size + i) = ⟨g, j * size + i, none⟩ := by simp [Addr.add]; omega
    rw [e]
    exact (blk_cell h _).trans (h3 i u hu)⟩⟩
theorem str_blk {w : World} {g : Nat} {x : ByteArray} {t : TypeId} (h : w.heap[g]? = some (.cells #[.string x] t (0, 0))) : Kd.C Kd.string w (some ⟨g, 0, none⟩) 1 [x] :=
  reads_blk h [x] (by show 1 ≤ _; omega) (fun j p hj => by
    match j, hj with
    | 0, hj => simp at hj; subst hj; exact ⟨[.string x], rfl, rfl, fun i u hu => by match i, hu with | 0, hu => simpa using hu⟩)
theorem u8_blk {w : World} {g : Nat} {xs : List Int} {cells : Array Value} {t : TypeId} (h : w.heap[g]? = some (.cells cells t (0, 0))) (hc : cells.toList = xs.map (Value.int .u8)) (hn : xs.length ≤ 9223372036854775807) : Kd.C (Kd.int .u8) w (some ⟨g, 0, none⟩) xs.length xs :=
  reads_blk h xs hn (fun j p hj => ⟨[.int .u8 p], rfl, rfl, fun i u hu => by
    match i, hu with
    | 0, hu =>
      obtain rfl : Value.int .u8 p = u := by simpa using hu
      show cells[j * 1 + 0]? = some (Value.int .u8 p)
      rw [← Array.getElem?_toList, hc, Nat.mul_one, Nat.add_zero, List.getElem?_map, hj]; rfl⟩)
def m7 : Must := ⟨2, [⟨#[97]⟩], ⟨2, false, ⟨false, ⟨#[55]⟩, 0⟩, ⟨#[]⟩, [], []⟩⟩
theorem ok7 : OkMust m7 := ⟨by decide, okNum7, by decide⟩
theorem bounds7 : boundsL m7.op m7.v = ([4], [4, 2, 7, 209, 8, 1], true) := by decide +kernel
theorem choose7 : spanOf (chooseL [[⟨#[98]⟩], [⟨#[97]⟩]] [m7]) = (1, [4], [4, 2, 7, 209, 8, 1], true) := by decide +kernel
set_option maxRecDepth 100000 in
set_option maxHeartbeats 8000000 in
theorem awake20_calls (w : World) (hT : KTabs w) : Calls Tryz.prog 21 #[] w fun e w' => e = .returned (.bool true) ∧ Below w.heap.size w w' := by
  have HT := Lib.hid hT
  clear hT
  go_enter Tryz.func21, Tryz.ntmps21
  go_wp2_with fail
  refine (jparse [55] w HT.out.t _ _ p7).mono ?_
  rintro E w1 ⟨A, n, c, B, m, c', rfl, hJ, hB⟩
  have HB := Lib.hid hB
  clear hJ hB
  go_wp2_with fail
  have e2 : ∀ o p q, (((w1.alloc o).alloc p).alloc q).heap.size = w1.heap.size + 3 := fun o p q => by simp
  have hst : ∀ o q, (((w1.alloc o).alloc (.cells #[.string ⟨#[97]⟩] 9)).alloc q).heap[w1.heap.size + 1]? = some (.cells #[.string ⟨#[97]⟩] 9 (0, 0)) := fun o q => by
    have := blk_new (w1.alloc o) (.cells #[.string ⟨#[97]⟩] 9)
    have e1 : (w1.alloc o).heap.size = w1.heap.size + 1 := by simp
    rw [e1] at this
    exact blk_alloc this q
  have hte : ∀ o p q, (((w1.alloc o).alloc p).alloc q).heap[w1.heap.size + 1 + 1]? = some q := fun o p q => by
    have := heap_alloc_new ((w1.alloc o).alloc p) q
    have e1 : ((w1.alloc o).alloc p).heap.size = w1.heap.size + 1 + 1 := by simp
    rwa [e1] at this
  have hB3 : ∀ o p q, Below w.heap.size w (((w1.alloc o).alloc p).alloc q) := fun o p q => below_alloc (below_alloc (below_alloc HB.out _) _) _
  have HST := Lib.hid hst
  have HTE := Lib.hid hte
  have HB3 := Lib.hid hB3
  have HE2 := Lib.hid e2
  clear hst hte hB3 e2
  refine (bounds_calls m7.op m7.v ok7.k ok7.n ok7.t (some ⟨w1.heap.size + 1, 0, none⟩) A B 1 1 n m c c' _ (HT.out.below (HB3.out _ _ _))).mono ?_
  rintro E w2 ⟨v1, v2, rfl, hR1, hR2, hB⟩
  rw [bounds7] at hR1 hR2 ⊢
  have hkt := thru (HTE.out _ _ _) hB
  have HS2 := Lib.hid (thru (HST.out _ _) hB)
  obtain ⟨p0, p1, p2, p3, p4, p5, p6, p7, p8, p9⟩ := ten hkt
  have HKT := Lib.hid hkt
  have HB2 := Lib.hid ((HB3.out _ _ _).trans (hB.mono (HB3.out _ _ _).size))
  have hlt2 : w1.heap.size + 1 + 1 < w2.heap.size := blk_lt hkt
  have hlt3 : w1.heap.size + 1 + 1 < w2.heap.size + 1 := by omega
  have hlt4 : w1.heap.size + 1 + 1 < w2.heap.size + 1 + 1 := by omega
  obtain ⟨A1, c1, rfl, hl1, hC1⟩ := Kd.R_reads hR1
  obtain ⟨A2, c2, rfl, hl2, hC2⟩ := Kd.R_reads hR2
  have HC := Lib.hid (And.intro hC1 hC2)
  clear hB hkt hR1 hR2 hC1 hC2 HST HTE HB3 HE2
  go_wp2_with fail
  have d1 : ∀ a, (w2.alloc a).heap.size = w2.heap.size + 1 := fun a => by simp
  have d2 : ∀ a b, ((w2.alloc a).alloc b).heap.size = w2.heap.size + 1 + 1 := fun a b => by simp
  have d3 : ∀ a b c, (((w2.alloc a).alloc b).alloc c).heap.size = w2.heap.size + 1 + 1 + 1 := fun a b c => by simp
  have hb4 : ∀ a b c d, Below w2.heap.size w2 ((((w2.alloc a).alloc b).alloc c).alloc d) := fun a b c d => below_alloc (below_alloc (below_alloc (below_alloc (Below.refl _ _) _) _) _) _
  have k0 : ∀ a b c d, ((((w2.alloc a).alloc b).alloc c).alloc d).heap[w2.heap.size]? = some a := fun a b c d => blk_alloc (blk_alloc (blk_alloc (heap_alloc_new w2 a) _) _) _
  have k1' : ∀ a b c d, ((((w2.alloc a).alloc b).alloc c).alloc d).heap[w2.heap.size + 1]? = some b := fun a b c d => blk_alloc (blk_alloc (by have := heap_alloc_new (w2.alloc a) b; rwa [d1] at this) _) _
  have k2' : ∀ a b c d, ((((w2.alloc a).alloc b).alloc c).alloc d).heap[w2.heap.size + 1 + 1]? = some c := fun a b c d => blk_alloc (by have := heap_alloc_new ((w2.alloc a).alloc b) c; rwa [d2] at this) _
  have k3 : ∀ a b c d, ((((w2.alloc a).alloc b).alloc c).alloc d).heap[w2.heap.size + 1 + 1 + 1]? = some d := fun a b c d => by have := heap_alloc_new (((w2.alloc a).alloc b).alloc c) d; rwa [d3] at this
  have hA : Kd.C (Kd.slice 9 Kd.string) _ (some ⟨w2.heap.size + 1 + 1, 0, none⟩) [[(⟨#[98]⟩ : ByteArray)], [⟨#[97]⟩]].length [[⟨#[98]⟩], [⟨#[97]⟩]] := reads_blk (k2' (.cells #[.string ⟨#[98]⟩] 9) (.cells #[.string ⟨#[97]⟩] 9) (.cells #[.slice (some ⟨w2.heap.size, 0, none⟩) 1 1, .slice (some ⟨w2.heap.size + 1, 0, none⟩) 1 1] 26) (.cells #[.int .i64 2, .slice (some ⟨w1.heap.size + 1, 0, none⟩) 1 1, .int .i64 2, .bool false, .bool false, .string ⟨#[55]⟩, .int .i64 0, .string ⟨#[]⟩, .slice A n c, .slice B m c'] 50)) _ (by decide) (fun j p hj => by
    match j, hj with
    | 0, hj => simp at hj; subst hj; exact ⟨[.slice (some ⟨w2.heap.size, 0, none⟩) 1 1], rfl, ⟨_, _, rfl, Nat.le_refl _, str_blk (k0 _ _ _ _)⟩, fun i u hu => by match i, hu with | 0, hu => simpa using hu⟩
    | 1, hj => simp at hj; subst hj; exact ⟨[.slice (some ⟨w2.heap.size + 1, 0, none⟩) 1 1], rfl, ⟨_, _, rfl, Nat.le_refl _, str_blk (k1' _ _ _ _)⟩, fun i u hu => by match i, hu with | 0, hu => exact hu⟩)
  have hM : MC _ (some ⟨w2.heap.size + 1 + 1 + 1, 0, none⟩) [m7].length [m7] := reads_blk (k3 (.cells #[.string ⟨#[98]⟩] 9) (.cells #[.string ⟨#[97]⟩] 9) (.cells #[.slice (some ⟨w2.heap.size, 0, none⟩) 1 1, .slice (some ⟨w2.heap.size + 1, 0, none⟩) 1 1] 26) (.cells #[.int .i64 2, .slice (some ⟨w1.heap.size + 1, 0, none⟩) 1 1, .int .i64 2, .bool false, .bool false, .string ⟨#[55]⟩, .int .i64 0, .string ⟨#[]⟩, .slice A n c, .slice B m c'] 50)) _ (by decide) (fun j p hj => by
    match j, hj with
    | 0, hj =>
      simp at hj; subst hj
      exact ⟨[.int .i64 2, .slice (some ⟨w1.heap.size + 1, 0, none⟩) 1 1, .int .i64 2, .bool false, .bool false, .string ⟨#[55]⟩, .int .i64 0, .string ⟨#[]⟩, .slice A n c, .slice B m c'], rfl,
        ⟨some ⟨w1.heap.size + 1, 0, none⟩, 1, A, n, c, B, m, c', rfl, Nat.le_refl _, str_blk (thru HS2.out (hb4 _ _ _ _))⟩, fun i u hu => by simpa using hu⟩)
  refine (choose_calls [[⟨#[98]⟩], [⟨#[97]⟩]] [m7] (fun q hq => by simp at hq; subst hq; exact ok7) _ _ 2 1 _ (HT.out.below (HB2.out.trans ((hb4 _ _ _ _).mono HB2.out.size))) hA hM).mono ?_
  rintro E w3 ⟨v3, v4, rfl, hR3, hR4, hB⟩
  rw [choose7] at hR3 hR4 ⊢
  have hB24 := (hb4 (.cells #[.string ⟨#[98]⟩] 9) (.cells #[.string ⟨#[97]⟩] 9) (.cells #[.slice (some ⟨w2.heap.size, 0, none⟩) 1 1, .slice (some ⟨w2.heap.size + 1, 0, none⟩) 1 1] 26) (.cells #[.int .i64 2, .slice (some ⟨w1.heap.size + 1, 0, none⟩) 1 1, .int .i64 2, .bool false, .bool false, .string ⟨#[55]⟩, .int .i64 0, .string ⟨#[]⟩, .slice A n c, .slice B m c'] 50)).trans (hB.mono (hb4 _ _ _ _).size)
  have HC3 := Lib.hid (And.intro (Kd.C_below HC.out.1 hB24) (Kd.C_below HC.out.2 hB24))
  have HB3 := Lib.hid (HB2.out.trans (hB24.mono HB2.out.size))
  obtain ⟨A3, c3, rfl, hl3, hC3⟩ := Kd.R_reads hR3
  obtain ⟨A4, c4, rfl, hl4, hC4⟩ := Kd.R_reads hR4
  have HC4 := Lib.hid hC4
  clear d1 d2 d3 hb4 k0 k1' k2' k3 hA hM hR3 hR4 hB hB24 hC3 hC4 p0 p1 p2 p3 p4 p5 p6 p7 p8 p9 hlt2 hlt3 hlt4 HC HS2 HKT
  go_wp2_with fail
  have e3 : ∀ a, (w3.alloc a).heap.size = w3.heap.size + 1 := fun a => by simp
  have hk1 : ∀ a b, ((w3.alloc a).alloc b).heap[w3.heap.size + 1]? = some b := fun a b => by have := heap_alloc_new (w3.alloc a) b; rwa [e3] at this
  have hbb : ∀ a b, Below w3.heap.size w3 ((w3.alloc a).alloc b) := fun a b => below_alloc (below_alloc (Below.refl _ _) _) _
  refine (behind_calls (some ⟨w3.heap.size + 1, 0, none⟩) 2 [1, 255] _ (u8_blk (hk1 _ (.cells #[.int .u8 1, .int .u8 255] 5)) rfl (by decide)) (Nat.le_refl _) (by decide)).mono ?_
  rintro E w4 ⟨v, rfl, hR, hB⟩
  rw [show behindL [1, 255] = [2] by decide +kernel] at hR
  obtain ⟨A5, c5, rfl, hl5, hC5⟩ := Kd.R_reads hR
  have hb4 := (hbb (.cells #[.int .i64 1, .slice A3 1 c3, .slice A4 6 c4] 60) (.cells #[.int .u8 1, .int .u8 255] 5)).trans (hB.mono (hbb _ _).size)
  have hks : w4.heap[w3.heap.size]? = some (.cells #[.int .i64 1, .slice A3 1 c3, .slice A4 6 c4] 60 (0, 0)) := thru (blk_alloc (heap_alloc_new w3 _) _) hB
  have HKS := Lib.hid hks
  have HC6 := Lib.hid (And.intro (Kd.C_below HC3.out.1 hb4) (And.intro (Kd.C_below HC3.out.2 hb4) (Kd.C_below HC4.out hb4)))
  have HB4 := Lib.hid (HB3.out.trans (hb4.mono HB3.out.size))
  have hst : (convert 38 9 (.slice A5 1 c5)).run Tryz.prog w4 = .ok (.string ⟨#[2]⟩) w4 := (str_run w4 A5 1 c5 _ hC5).trans (by rw [show strOfNums [2] = ⟨#[2]⟩ by kernel_rfl])
  clear hbb hk1 e3 hB hR hb4 hks hC5 HC3 HC4
  go_wp2_with fail
  clear hst
  refine (behind_calls (some ⟨w4.heap.size, 0, none⟩) 1 [255] _ (u8_blk (heap_alloc_new w4 (.cells #[.int .u8 255] 5)) rfl (by decide)) (Nat.le_refl _) (by decide)).mono ?_
  rintro E w5 ⟨v, rfl, hR, hB⟩
  rw [show behindL [255] = [] by decide +kernel] at hR
  obtain ⟨A6, c6, rfl, hl6, hC6⟩ := Kd.R_reads hR
  have hb5 := (below_alloc (Below.refl w4.heap.size w4) (.cells #[.int .u8 255] 5)).trans (hB.mono (below_alloc (Below.refl _ _) _).size)
  have hks := thru HKS.out hb5
  have p0 : w5.cell? ⟨w3.heap.size, 0, none⟩ = some (.int .i64 1) := (blk_cell hks 0).trans rfl
  have p2 : w5.cell? ⟨w3.heap.size, 2, none⟩ = some (.slice A4 6 c4) := (blk_cell hks 2).trans rfl
  have hs1 : (convert 38 9 (.slice A1 1 c1)).run Tryz.prog w5 = .ok (.string ⟨#[4]⟩) w5 := (str_run w5 A1 1 c1 _ (Kd.C_below HC6.out.1 hb5)).trans (by rw [show strOfNums [4] = ⟨#[4]⟩ by kernel_rfl])
  have hs2 : (convert 38 9 (.slice A2 6 c2)).run Tryz.prog w5 = .ok (.string ⟨#[4, 2, 7, 209, 8, 1]⟩) w5 := (str_run w5 A2 6 c2 _ (Kd.C_below HC6.out.2.1 hb5)).trans (by rw [show strOfNums [4, 2, 7, 209, 8, 1] = ⟨#[4, 2, 7, 209, 8, 1]⟩ by kernel_rfl])
  have hs3 : (convert 38 9 (.slice A4 6 c4)).run Tryz.prog w5 = .ok (.string ⟨#[4, 2, 7, 209, 8, 1]⟩) w5 := (str_run w5 A4 6 c4 _ (Kd.C_below HC6.out.2.2 hb5)).trans (by rw [show strOfNums [4, 2, 7, 209, 8, 1] = ⟨#[4, 2, 7, 209, 8, 1]⟩ by kernel_rfl])
  have HB5 := Lib.hid (HB4.out.trans (hb5.mono HB4.out.size))
  clear hB hR hb5 hks hC6 HC6
  go_wp2_with fail
  go_ret
  exact ⟨rfl, HB5.out⟩
end Js
end Go.Proofs.YtapcpndplnkfjaaGreatDoor
namespace Go.Proofs.YtapcpndplnkfjaaGreatDoor
open Go.RowKit Go.Proofs.YtapcpndplnkfjaaGreatDoorW.PrintWords Go.Proofs.YtapcpndplnkfjaaGreatDoorW.PrintLast Go.Proofs.YtapcpndplnkfjaaGreatDoorW.PrintMore
set_option linter.unusedVariables false
set_option linter.unusedSimpArgs false
namespace Js
def v5 : S28 := ⟨2, false, ⟨false, ⟨#[53]⟩, 0⟩, ⟨#[]⟩, [], []⟩
def musts : List Int → List (List ByteArray) → List Must
  | o :: t, s :: u => ⟨o, s, v5⟩ :: musts t u
  | [], _ => []
  | _ :: _, [] => []
def okOp (q : Bool) (o : Int) : Bool := if q then o == 0 else decide (1 ≤ o) && decide (o ≤ 4)
def refFrom (ways : List (List ByteArray)) (q : Bool) : List Int → List (List ByteArray) → Nat → Option (Nat × Int × Int)
  | o :: t, s :: u, j => if 0 ≤ wayFrom s ways 0 ∧ okOp q o = true then some (j, wayFrom s ways 0, o) else refFrom ways q t u (j + 1)
  | [], _, _ => none
  | _ :: _, [], _ => none
def refC (ways : List (List ByteArray)) (ops : List Int) (steps : List (List ByteArray)) : Option (Nat × Int × Int) :=
  match refFrom ways true ops steps 0 with | some r => some r | none => refFrom ways false ops steps 0
theorem key5 : (keyL v5).2 = 0 := by decide +kernel
theorem bounds5 (o : Int) : (boundsL o v5).2.2 = (decide (0 ≤ o) && decide (o ≤ 4)) := by
  unfold boundsL
  rw [if_neg (by rw [key5]; decide)]
  split
  · next h => subst h; rfl
  split
  · next h => subst h; rfl
  split
  · next h => subst h; rfl
  split
  · next h => subst h; rfl
  split
  · next h => subst h; rfl
  · show false = _
    symm
    rw [Bool.and_eq_false_iff, decide_eq_false_iff_not, decide_eq_false_iff_not]
    omega
theorem pick5 (ways : List (List ByteArray)) (q : Bool) (o : Int) (s : List ByteArray) : pick ways q ⟨o, s, v5⟩ = if 0 ≤ wayFrom s ways 0 ∧ okOp q o = true then some (wayFrom s ways 0, (boundsL o v5).1, (boundsL o v5).2.1) else none := by
  unfold pick
  show (if (boundsL o v5).2.2 = true ∧ 0 ≤ wayFrom s ways 0 ∧ (q == (o == 0)) = true then _ else _) = _
  congr 1
  rw [bounds5, eq_iff_iff]
  cases q with
  | true => simp [okOp]; omega
  | false =>
    simp [okOp]
    omega
def spanR (r : Nat × Int × Int) : Int × List Int × List Int := (r.2.1, (boundsL r.2.2 v5).1, (boundsL r.2.2 v5).2.1)
theorem first5 (ways : List (List ByteArray)) (q : Bool) : ∀ ops steps j, firstOf ways q (musts ops steps) = (refFrom ways q ops steps j).map spanR
  | [], _, _ => rfl
  | _ :: _, [], _ => rfl
  | o :: t, s :: u, j => by
    unfold musts firstOf refFrom
    rw [pick5]
    by_cases h : 0 ≤ wayFrom s ways 0 ∧ okOp q o = true
    · rw [if_pos h, if_pos h]; rfl
    · rw [if_neg h, if_neg h]
      exact first5 ways q t u (j + 1)
theorem choose5 (ways : List (List ByteArray)) (ops : List Int) (steps : List (List ByteArray)) : chooseL ways (musts ops steps) = (refC ways ops steps).map spanR := by
  unfold chooseL refC
  rw [first5 ways true ops steps 0, first5 ways false ops steps 0]
  cases refFrom ways true ops steps 0 <;> rfl
theorem refFrom_at (ways : List (List ByteArray)) (q : Bool) : ∀ ops steps j a wy o, refFrom ways q ops steps j = some (a, wy, o) → j ≤ a ∧ a - j < ops.length ∧ (musts ops steps).getD (a - j) must0 = ⟨o, steps.getD (a - j) [], v5⟩ ∧ 0 ≤ wy ∧ (boundsL o v5).2.2 = true
  | [], _, _, _, _, _, h => by simp [refFrom] at h
  | _ :: _, [], _, _, _, _, h => by simp [refFrom] at h
  | o' :: t, s :: u, j, a, wy, o, h => by
    unfold refFrom at h
    split at h
    · next hc =>
      obtain ⟨rfl, rfl, rfl⟩ : j = a ∧ wayFrom s ways 0 = wy ∧ o' = o := by simpa using h
      refine ⟨Nat.le_refl _, by simp, by simp [musts], hc.1, ?_⟩
      rw [bounds5]
      have := hc.2
      cases q with
      | true => simp [okOp] at this; subst this; rfl
      | false => simp [okOp] at this; simp; omega
    · obtain ⟨h1, h2, h3, h4, h5⟩ := refFrom_at ways q t u (j + 1) a wy o h
      refine ⟨by omega, by simp; omega, ?_, h4, h5⟩
      obtain ⟨k, hk⟩ : ∃ k, a - j = k + 1 := ⟨a - j - 1, by omega⟩
      have hk2 : a - (j + 1) = k := by omega
      rw [hk2] at h3
      rw [hk]
      simpa [musts] using h3
theorem refC_at {ways : List (List ByteArray)} {ops : List Int} {steps : List (List ByteArray)} {a : Nat} {wy o : Int} (h : refC ways ops steps = some (a, wy, o)) : a < ops.length ∧ (musts ops steps).getD a must0 = ⟨o, steps.getD a [], v5⟩ ∧ 0 ≤ wy ∧ (boundsL o v5).2.2 = true := by
  have : ∃ q, refFrom ways q ops steps 0 = some (a, wy, o) := by
    unfold refC at h
    cases h1 : refFrom ways true ops steps 0 with
    | some r => rw [h1] at h; exact ⟨true, by rw [h1]; exact h⟩
    | none => rw [h1] at h; exact ⟨false, h⟩
  obtain ⟨q, h⟩ := this
  obtain ⟨_, h1, h2, h3, h4⟩ := refFrom_at ways q ops steps 0 a wy o h
  exact ⟨h1, h2, h3, h4⟩
theorem musts_len : ∀ ops steps, ops.length ≤ steps.length → (musts ops steps).length = ops.length
  | [], _, _ => rfl
  | _ :: _, [], h => by simp at h
  | o :: t, s :: u, h => by simp [musts]; exact musts_len t u (by simpa using h)
theorem musts_mem : ∀ ops steps m, m ∈ musts ops steps → m.v = v5
  | [], _, m, h => by simp [musts] at h
  | _ :: _, [], m, h => by simp [musts] at h
  | o :: t, s :: u, m, h => by
    rcases List.mem_cons.1 (show m ∈ ⟨o, s, v5⟩ :: musts t u from h) with rfl | h
    · rfl
    · exact musts_mem t u m h
theorem musts_take : ∀ (ops : List Int) (steps : List (List ByteArray)) (k : Nat) (h : k < ops.length) (h2 : k < steps.length), musts (ops.take (k + 1)) (steps.take (k + 1)) = musts (ops.take k) (steps.take k) ++ [⟨ops.getD k 0, steps.getD k [], v5⟩]
  | [], _, _, h, _ => by simp at h
  | _ :: _, [], _, _, h => by simp at h
  | o :: t, s :: u, 0, _, _ => by simp [musts]
  | o :: t, s :: u, k + 1, h, h2 => by
    have := musts_take t u k (by simpa using h) (by simpa using h2)
    simpa [musts] using this
def Ev {α : Type} (f : Nat → Option α) (r : α) : Prop := ∃ K, ∀ k, K ≤ k → f k = some r
theorem same_l0 (a b : List ByteArray) (hab : a.length = b.length) (hl : a.length ≤ 9223372036854775807) (n : Nat) : ∀ i k, i + n = a.length → n < k →
    rubricatorref20_same.l0 k a b (i : Int) = some (decide (a.drop i = b.drop i)) := by
  induction n with
  | zero =>
    intro i k hi hk
    obtain ⟨k, rfl⟩ : ∃ m, k = m + 1 := ⟨k - 1, by omega⟩
    simp only [rubricatorref20_same.l0]
    rw [if_neg (by omega), List.drop_of_length_le (by omega), List.drop_of_length_le (by omega)]
    rfl
  | succ n ih =>
    intro i k hi hk
    obtain ⟨k, rfl⟩ : ∃ m, k = m + 1 := ⟨k - 1, by omega⟩
    have h1 : i < a.length := by omega
    have h2 : i < b.length := by omega
    have hw : wrap64 ((i : Int) + 1) = ((i + 1 : Nat) : Int) := by unfold wrap64; omega
    simp only [rubricatorref20_same.l0]
    have hra : rdOf ByteArray.empty a (i : Int) = a[i] := by simp [rdOf, h1]
    have hrb : rdOf ByteArray.empty b (i : Int) = b[i] := by simp [rdOf, h2]
    rw [if_pos (by omega), if_pos (by omega), if_pos (by omega), hra, hrb, hw]
    have hda : a.drop i = a[i] :: a.drop (i + 1) := List.drop_eq_getElem_cons h1
    have hdb : b.drop i = b[i] :: b.drop (i + 1) := List.drop_eq_getElem_cons h2
    rw [hda, hdb]
    by_cases h : a[i] = b[i]
    · rw [if_pos (by rw [h]), ih (i + 1) k (by omega) (by omega)]
      congr 1
      rw [decide_eq_decide]
      exact ⟨fun e => by rw [h, e], fun e => (List.cons.inj e).2⟩
    · rw [if_neg (fun e => h ((toList_inj _ _).1 e))]
      congr 1
      symm
      rw [decide_eq_false_iff_not]
      intro e
      exact h (List.cons.inj e).1
theorem same_f (a b : List ByteArray) (hl : a.length ≤ 9223372036854775807) (k : Nat) (hk : a.length < k) : rubricatorref20_same.f k a b = some (decide (a = b)) := by
  unfold rubricatorref20_same.f
  by_cases h : a.length = b.length
  · rw [if_pos (by omega)]
    have := same_l0 a b h hl a.length 0 k (by omega) hk
    simpa using this
  · rw [if_neg (by omega)]
    congr 1
    symm
    rw [decide_eq_false_iff_not]
    intro e
    rw [e] at h
    exact h rfl
section
variable (ways : List (List ByteArray)) (ops : List Int) (steps : List (List ByteArray)) (hws : ∀ x ∈ ways, x.length ≤ 9223372036854775807) (hwl : ways.length ≤ 10) (hol : ops.length ≤ 20) (hsl : ops.length ≤ steps.length) (r : Int × Int)
def rndOf (q : Bool) : Int := if q then 0 else 1
include hws hwl hol hsl in
theorem l2_ev (q : Bool) (j : Nat) (hj : j < ops.length) (s : List ByteArray) (hs : s = steps.getD j []) (o : Int) (ho : o = ops.getD j 0)
    (hit : 0 ≤ wayFrom s ways 0 → okOp q o = true → r = ((j : Int), wayFrom s ways 0))
    (miss : ¬ (0 ≤ wayFrom s ways 0 ∧ okOp q o = true) → Ev (fun k => rubricatorref20_Choose.l1 k ways ops steps (rndOf q) ((j + 1 : Nat) : Int)) r) :
    ∀ n i, i + n = ways.length → (wayFrom s ways 0 = wayFrom s (ways.drop i) i ∨ okOp q o = false) → Ev (fun k => rubricatorref20_Choose.l2 k ways ops steps (rndOf q) (j : Int) (i : Int)) r := by
  intro n
  induction n with
  | zero =>
    intro i hi hd
    have hne : ¬ (0 ≤ wayFrom s ways 0 ∧ okOp q o = true) := by
      rintro ⟨h1, h2⟩
      rcases hd with hd | hd
      · rw [List.drop_of_length_le (by omega)] at hd
        rw [hd] at h1
        simp only [wayFrom] at h1
        omega
      · rw [hd] at h2; simp at h2
    obtain ⟨K, hK⟩ := miss hne
    refine ⟨K + 1, fun k hk => ?_⟩
    obtain ⟨k, rfl⟩ : ∃ m, k = m + 1 := ⟨k - 1, by omega⟩
    show rubricatorref20_Choose.l2 (k + 1) ways ops steps (rndOf q) (j : Int) (i : Int) = some r
    simp only [rubricatorref20_Choose.l2]
    rw [if_neg (by omega)]
    have hw : wrap64 ((j : Int) + 1) = ((j + 1 : Nat) : Int) := by unfold wrap64; omega
    rw [hw]
    exact hK k (by omega)
  | succ n ih =>
    intro i hi hd
    have h1 : i < ways.length := by omega
    have hw : wrap64 ((i : Int) + 1) = ((i + 1 : Nat) : Int) := by unfold wrap64; omega
    have hra : rd_L1 ways (i : Int) = ways[i] := by simp [rd_L1, h1]
    have hrb : rd_L1 steps (j : Int) = s := by rw [hs]; simp [rd_L1]
    have hro : Go.Proofs.YtapcpndplnkfjaaGreatDoorW.PrintWords.rd ops (j : Int) = o := by rw [ho]; simp [Go.Proofs.YtapcpndplnkfjaaGreatDoorW.PrintWords.rd]
    have hda : ways.drop i = ways[i] :: ways.drop (i + 1) := List.drop_eq_getElem_cons h1
    have hmem : ways[i].length ≤ 9223372036854775807 := hws _ (List.getElem_mem h1)
    by_cases h : ways[i] = s
    · by_cases hop : okOp q o = true
      · have hwy : wayFrom s ways 0 = (i : Int) := by
          rcases hd with hd | hd
          · rw [hd, hda]; simp only [wayFrom]; rw [if_pos h]
          · rw [hd] at hop; simp at hop
        have hr := hit (by rw [hwy]; omega) hop
        rw [hwy] at hr
        refine ⟨ways[i].length + 2, fun k hk => ?_⟩
        obtain ⟨k, rfl⟩ : ∃ m, k = m + 1 := ⟨k - 1, by omega⟩
        show rubricatorref20_Choose.l2 (k + 1) ways ops steps (rndOf q) (j : Int) (i : Int) = some r
        simp only [rubricatorref20_Choose.l2]
        rw [if_pos (by omega), if_pos (by omega), if_pos (by omega), if_pos (by omega), hra, hrb, hro, same_f _ _ hmem k (by omega), h]
        simp only [decide_true, Option.bind_some, if_true]
        rw [hr]
        cases q with
        | true =>
          have : o = 0 := by simpa [okOp] using hop
          rw [if_pos (by rfl), if_pos (by omega), if_pos this]
        | false =>
          have : 1 ≤ o ∧ o ≤ 4 := by simpa [okOp] using hop
          rw [if_neg (by decide), if_pos (by rfl), if_pos (by omega), if_pos (by omega), if_pos (by omega)]
      · have hop : okOp q o = false := by simpa using hop
        obtain ⟨K, hK⟩ := ih (i + 1) (by omega) (.inr hop)
        refine ⟨K + ways[i].length + 2, fun k hk => ?_⟩
        obtain ⟨k, rfl⟩ : ∃ m, k = m + 1 := ⟨k - 1, by omega⟩
        have hK := hK k (by omega)
        show rubricatorref20_Choose.l2 (k + 1) ways ops steps (rndOf q) (j : Int) (i : Int) = some r
        simp only [rubricatorref20_Choose.l2]
        rw [if_pos (by omega), if_pos (by omega), if_pos (by omega), if_pos (by omega), hra, hrb, hro, same_f _ _ hmem k (by omega), h, hw]
        simp only [decide_true, Option.bind_some, if_true]
        cases q with
        | true =>
          have : ¬ o = 0 := by simpa [okOp] using hop
          rw [if_pos (by rfl), if_pos (by omega), if_neg this, if_neg (by decide)]
          exact hK
        | false =>
          have : ¬ (1 ≤ o ∧ o ≤ 4) := by simpa [okOp] using hop
          rw [if_neg (by decide), if_pos (by rfl), if_pos (by omega)]
          by_cases h2 : o ≥ 1
          · rw [if_pos h2, if_neg (by omega)]; exact hK
          · rw [if_neg h2]; exact hK
    · have hd' : wayFrom s ways 0 = wayFrom s (ways.drop (i + 1)) (i + 1) ∨ okOp q o = false := by
        rcases hd with hd | hd
        · left; rw [hd, hda]; simp only [wayFrom]; rw [if_neg h]
        · exact .inr hd
      obtain ⟨K, hK⟩ := ih (i + 1) (by omega) hd'
      refine ⟨K + ways[i].length + 2, fun k hk => ?_⟩
      obtain ⟨k, rfl⟩ : ∃ m, k = m + 1 := ⟨k - 1, by omega⟩
      have hK := hK k (by omega)
      show rubricatorref20_Choose.l2 (k + 1) ways ops steps (rndOf q) (j : Int) (i : Int) = some r
      simp only [rubricatorref20_Choose.l2]
      rw [if_pos (by omega), if_pos (by omega), if_pos (by omega), if_pos (by omega), hra, hrb, hro, same_f _ _ hmem k (by omega), hw]
      simp only [h, decide_false, Option.bind_some]
      rw [if_neg (by simp)]
      exact hK
include hws hwl hol hsl in
theorem l1_ev (q : Bool) (last : refFrom ways q ops steps 0 = none → Ev (fun k => rubricatorref20_Choose.l0 k ways ops steps (rndOf q + 1)) r) (hit : ∀ a wy o, refFrom ways q ops steps 0 = some (a, wy, o) → r = ((a : Int), wy)) :
    ∀ n j, j + n = ops.length → refFrom ways q ops steps 0 = refFrom ways q (ops.drop j) (steps.drop j) j → Ev (fun k => rubricatorref20_Choose.l1 k ways ops steps (rndOf q) (j : Int)) r := by
  intro n
  induction n with
  | zero =>
    intro j hj hd
    rw [List.drop_of_length_le (by omega)] at hd
    obtain ⟨K, hK⟩ := last hd
    refine ⟨K + 1, fun k hk => ?_⟩
    obtain ⟨k, rfl⟩ : ∃ m, k = m + 1 := ⟨k - 1, by omega⟩
    show rubricatorref20_Choose.l1 (k + 1) ways ops steps (rndOf q) (j : Int) = some r
    simp only [rubricatorref20_Choose.l1]
    rw [if_neg (by omega), show wrap64 (rndOf q + 1) = rndOf q + 1 by cases q <;> simp [rndOf, wrap64]]
    exact hK k (by omega)
  | succ n ih =>
    intro j hj hd
    have h1 : j < ops.length := by omega
    have h2 : j < steps.length := by omega
    have hda : ops.drop j = ops.getD j 0 :: ops.drop (j + 1) := by rw [List.drop_eq_getElem_cons h1]; simp [h1]
    have hdb : steps.drop j = steps.getD j [] :: steps.drop (j + 1) := by rw [List.drop_eq_getElem_cons h2]; simp [h2]
    have hd2 : refFrom ways q ops steps 0 = if 0 ≤ wayFrom (steps.getD j []) ways 0 ∧ okOp q (ops.getD j 0) = true then some (j, wayFrom (steps.getD j []) ways 0, ops.getD j 0) else refFrom ways q (ops.drop (j + 1)) (steps.drop (j + 1)) (j + 1) := by
      rw [hd, hda, hdb]; rfl
    have := l2_ev ways ops steps hws hwl hol hsl r q j h1 (steps.getD j []) rfl (ops.getD j 0) rfl (fun h3 h4 => hit j _ _ (by rw [hd2, if_pos ⟨h3, h4⟩])) (fun h3 => ih (j + 1) (by omega) (by rw [hd2, if_neg h3])) ways.length 0 (by omega) (.inl rfl)
    obtain ⟨K, hK⟩ := this
    refine ⟨K + 1, fun k hk => ?_⟩
    obtain ⟨k, rfl⟩ : ∃ m, k = m + 1 := ⟨k - 1, by omega⟩
    show rubricatorref20_Choose.l1 (k + 1) ways ops steps (rndOf q) (j : Int) = some r
    simp only [rubricatorref20_Choose.l1]
    rw [if_pos (by omega)]
    exact hK k (by omega)
end
def refR (ways : List (List ByteArray)) (ops : List Int) (steps : List (List ByteArray)) : Int × Int :=
  match refC ways ops steps with | some (a, wy, _) => ((a : Int), wy) | none => (-1, -1)
theorem ref_ev (ways : List (List ByteArray)) (ops : List Int) (steps : List (List ByteArray)) (hws : ∀ x ∈ ways, x.length ≤ 9223372036854775807) (hwl : ways.length ≤ 10) (hol : ops.length ≤ 20) (hsl : ops.length ≤ steps.length) :
    ∃ k, rubricatorref20_Choose.f k ways ops steps = some (refR ways ops steps) := by
  have h2 : refFrom ways true ops steps 0 = none → refFrom ways false ops steps 0 = none → Ev (fun k => rubricatorref20_Choose.l0 k ways ops steps 2) (refR ways ops steps) := fun e1 e2 => ⟨1, fun k hk => by
    obtain ⟨k, rfl⟩ : ∃ m, k = m + 1 := ⟨k - 1, by omega⟩
    show rubricatorref20_Choose.l0 (k + 1) ways ops steps 2 = _
    simp only [rubricatorref20_Choose.l0]
    rw [if_neg (by decide)]
    unfold refR refC
    rw [e1, e2]⟩
  have h1 : refFrom ways true ops steps 0 = none → Ev (fun k => rubricatorref20_Choose.l0 k ways ops steps 1) (refR ways ops steps) := fun e1 => by
    obtain ⟨K, hK⟩ := l1_ev ways ops steps hws hwl hol hsl (refR ways ops steps) false (fun e2 => h2 e1 e2) (fun a wy o e2 => by unfold refR refC; rw [e1, e2]) ops.length 0 (by omega) rfl
    refine ⟨K + 1, fun k hk => ?_⟩
    obtain ⟨k, rfl⟩ : ∃ m, k = m + 1 := ⟨k - 1, by omega⟩
    show rubricatorref20_Choose.l0 (k + 1) ways ops steps 1 = _
    simp only [rubricatorref20_Choose.l0]
    rw [if_pos (by decide)]
    exact hK k (by omega)
  obtain ⟨K, hK⟩ := l1_ev ways ops steps hws hwl hol hsl (refR ways ops steps) true (fun e => h1 e) (fun a wy o e => by unfold refR refC; rw [e]) ops.length 0 (by omega) rfl
  refine ⟨K + 1, ?_⟩
  show rubricatorref20_Choose.l0 (K + 1) ways ops steps 0 = _
  simp only [rubricatorref20_Choose.l0]
  rw [if_pos (by decide)]
  exact hK K (by omega)
end Js
end Go.Proofs.YtapcpndplnkfjaaGreatDoor
namespace Go.Proofs.YtapcpndplnkfjaaGreatDoor
open Go.RowKit Go.Proofs.YtapcpndplnkfjaaGreatDoorW.PrintWords Go.Proofs.YtapcpndplnkfjaaGreatDoorW.PrintLast Go.Proofs.YtapcpndplnkfjaaGreatDoorW.PrintMore
set_option linter.unusedVariables false
set_option linter.unusedSimpArgs false
namespace Js
theorem p5 : pv [53] = (⟨2, false, ⟨false, ⟨#[53]⟩, 0⟩, ⟨#[]⟩, [], []⟩, 0) := by kernel_rfl
theorem okNum5 : okNum ⟨false, ⟨#[53]⟩, 0⟩ := ⟨by decide, by decide, by decide, by decide⟩
theorem ok5v : (0 ≤ v5.f0 ∧ v5.f0 ≤ 5) ∧ v5.f3.data.toList.length ≤ 400000 := by decide
theorem ok5 (m : Must) (h : m.v = v5) : OkMust m := by
  obtain ⟨o, s, v⟩ := m
  obtain rfl : v = v5 := h
  exact ⟨ok5v.1, okNum5, ok5v.2⟩
def kM (w : World) : Kd Must where
  sz := 10
  E := []
  K := fun _ m cs => MR w m cs
  M := fun _ _ _ m cs => MR w m cs
  K_len := by
    rintro _ m cs ⟨S, d, V, vn, vc, B, bn, bc, rfl, _⟩
    rfl
  K_one := by
    rintro _ m cs ⟨S, d, V, vn, vc, B, bn, bc, rfl, _⟩ u hu
    simp only [List.mem_cons, List.not_mem_nil, or_false] at hu
    rcases hu with rfl | rfl | rfl | rfl | rfl | rfl | rfl | rfl | rfl | rfl <;> rfl
  K_below := fun _ h => h
  K_of_M := fun h => h
  M_mono := fun _ h => h
  M_bound := fun h => h
  M_move := fun _ h => h
  M_lower := fun _ h => h
def z50 : Value := .agg #[.int .i64 0, .slice none 0 0, .int .i64 0, .bool false, .bool false, .string ⟨#[]⟩, .int .i64 0, .string ⟨#[]⟩, .slice none 0 0, .slice none 0 0]
theorem info50 : (Tryz.prog.info? 50).map (fun i => (i.zero, i.size, i.bytes)) = some (some z50, 10, 144) := by kernel_rfl
theorem kM_MC {w wr : World} {A : Option Addr} {n : Nat} {ms : List Must} (h : Kd.C (kM w) wr A n ms) (hb : Below w.heap.size w wr) : MC wr A n ms := ReadsRow.imp_ h (Below.refl _ _) (fun _ _ hp => MR.below hp hb)
theorem int_at {w : World} {A : Option Addr} {l : List Int} (h : Kd.C (Kd.int .i64) w A l.length l) (k : Nat) (hk : k < l.length) : ∃ ad, A = some ad ∧ w.cell? (ad.add k) = some (.int .i64 (l.getD k 0)) := by
  obtain ⟨ad, c, e, hs, hr, hcell⟩ := ReadsRow.get_ h (0 : Int) (k : Int) (by omega) (by omega)
  refine ⟨ad, e, ?_⟩
  obtain rfl : c = [.int .i64 (l.getD k 0)] := hr
  have := hcell 0 _ rfl
  simpa [Kd.int, Kd.scalar] using this
theorem musts_all : ∀ (ops : List Int) (steps : List (List ByteArray)), musts ops (steps.take ops.length) = musts ops steps
  | [], _ => rfl
  | _ :: _, [] => rfl
  | o :: t, s :: u => by
    have := musts_all t u
    simpa [musts] using this
set_option maxRecDepth 100000 in
set_option maxHeartbeats 1000000 in
theorem chooses_main (ways : List (List ByteArray)) (ops : List Int) (steps : List (List ByteArray)) (hwl : ways.length ≤ 10) (hol : ops.length ≤ 20) (hsl : ops.length ≤ steps.length) (hws : ∀ x ∈ ways, x.length ≤ 9223372036854775807)
    (A B S : Option Addr) (c d e : Nat) (w : World) (hT : KTabs w) (hA : Kd.C (Kd.slice 9 Kd.string) w A ways.length ways) (hc : ways.length ≤ c) (hB : Kd.C (Kd.int .i64) w B ops.length ops) (hd : ops.length ≤ d) (hS : Kd.C (Kd.slice 9 Kd.string) w S steps.length steps) (he : steps.length ≤ e) :
    Calls Tryz.prog 6 #[.slice A ways.length c, .slice B ops.length d, .slice S steps.length e] w fun E w' => E = .returned (.bool true) ∧ Below w.heap.size w w' := by
  have HT := Lib.hid hT
  have HA := Lib.hid hA
  have HOB := Lib.hid hB
  have HOS := Lib.hid hS
  have HWS := Lib.hid hws
  have HCD := Lib.hid (And.intro hc (And.intro hd he))
  clear hT hA hB hS hws hc hd he
  go_enter Tryz.func6, Tryz.ntmps6
  go_wp2_with fail
  refine (awake20_calls _ HT.out).mono ?_
  rintro E w1 ⟨rfl, hB⟩
  have HB := Lib.hid hB
  clear hB
  go_wp2_with fail
  refine (jparse [53] w1 (HT.out.below HB.out).t _ _ p5).mono ?_
  rintro E w2 ⟨VA, vn, vc, VB, bn, bc, rfl, hJ, hB⟩
  have HB2 := Lib.hid (HB.out.trans (hB.mono HB.out.size))
  clear hJ hB HB
  go_wp2_with fail
  have hv := blk_new w2 (.cells #[.int .i64 2, .bool false, .bool false, .string ⟨#[53]⟩, .int .i64 0, .string ⟨#[]⟩, .slice VA vn vc, .slice VB bn bc] 28)
  have hsz : (w2.alloc (.cells #[.int .i64 2, .bool false, .bool false, .string ⟨#[53]⟩, .int .i64 0, .string ⟨#[]⟩, .slice VA vn vc, .slice VB bn bc] 28)).heap.size = w2.heap.size + 1 := by simp
  have hb3 := below_alloc HB2.out (.cells #[.int .i64 2, .bool false, .bool false, .string ⟨#[53]⟩, .int .i64 0, .string ⟨#[]⟩, .slice VA vn vc, .slice VB bn bc] 28)
  obtain ⟨g, hg⟩ : ∃ g, g = w2.heap.size := ⟨_, rfl⟩
  rw [← hg] at hv hsz ⊢
  clear hg
  obtain ⟨w3, hw3⟩ : ∃ w3, w3 = w2.alloc (.cells #[.int .i64 2, .bool false, .bool false, .string ⟨#[53]⟩, .int .i64 0, .string ⟨#[]⟩, .slice VA vn vc, .slice VB bn bc] 28) := ⟨_, rfl⟩
  rw [← hw3] at hv hsz hb3 ⊢
  have HV := Lib.hid hv
  have HB3 := Lib.hid hb3
  clear hv hb3 hw3 HB2
  go_loopw [8, 11] (fun v8 vi wr => ∃ (k : Nat) (u : Value), k ≤ ops.length ∧ u = v8 ∧ vi = .int .i64 k ∧ Hid (Kd.R (kM w) 50 wr w3.heap.size (fun _ => True) u (musts (ops.take k) (steps.take k))) ∧ Hid (Below w3.heap.size w3 wr)) (fun v8 vi _ => ops.length - (intOf vi).toNat)
  case atStart => exact ⟨0, _, by omega, rfl, rfl, Lib.hid (Kd.R_nil _ _ _ _ _), Lib.hid (Below.refl _ _)⟩
  case round =>
    obtain ⟨k, v8, hk, hu, rfl, HR, HBr⟩ := hrel
    subst hu
    by_cases hkl : k < ops.length
    · have hks : k < steps.length := by omega
      obtain ⟨ao, rfl, hco⟩ := int_at HOB.out k hkl
      obtain ⟨ax, S', d', rfl, hcs, hd', hCS⟩ := row_at HOS.out k hks
      have hMt := musts_take ops steps k hkl hks
      have hMl := musts_len (ops.take k) (steps.take k) (by simp; omega)
      obtain ⟨o, ho⟩ : ∃ o, o = ops.getD k 0 := ⟨_, rfl⟩
      obtain ⟨s, hs⟩ : ∃ s, s = steps.getD k [] := ⟨_, rfl⟩
      rw [← ho] at hco hMt
      rw [← hs] at hcs hd' hCS hMt
      have HMT := Lib.hid hMt
      have HMR : Hid (MR w ⟨o, s, v5⟩ [.int .i64 o, .slice S' s.length d', .int .i64 2, .bool false, .bool false, .string ⟨#[53]⟩, .int .i64 0, .string ⟨#[]⟩, .slice VA vn vc, .slice VB bn bc]) := Lib.hid ⟨S', d', VA, vn, vc, VB, bn, bc, rfl, hd', hCS⟩
      have hbw := HB3.out.trans (HBr.out.mono HB3.out.size)
      have hall : ∀ w' : World, Below w3.heap.size w3 w' → w'.cell? (ao.add k) = some (.int .i64 o) ∧ w'.cell? (ax.add k) = some (.slice S' s.length d') ∧ w'.cell? ⟨g, 0, none⟩ = some (.int .i64 2) ∧ w'.cell? ⟨g, 1, none⟩ = some (.bool false) ∧ w'.cell? ⟨g, 2, none⟩ = some (.bool false) ∧ w'.cell? ⟨g, 3, none⟩ = some (.string ⟨#[53]⟩) ∧ w'.cell? ⟨g, 4, none⟩ = some (.int .i64 0) ∧ w'.cell? ⟨g, 5, none⟩ = some (.string ⟨#[]⟩) ∧ w'.cell? ⟨g, 6, none⟩ = some (.slice VA vn vc) ∧ w'.cell? ⟨g, 7, none⟩ = some (.slice VB bn bc) := fun w' hb => by
        have h1 := HB3.out.trans (hb.mono HB3.out.size)
        have h2 := thru HV.out hb
        exact ⟨pw_cell_below h1 hco, pw_cell_below h1 hcs, (blk_cell h2 0).trans rfl, (blk_cell h2 1).trans rfl, (blk_cell h2 2).trans rfl, (blk_cell h2 3).trans rfl, (blk_cell h2 4).trans rfl, (blk_cell h2 5).trans rfl, (blk_cell h2 6).trans rfl, (blk_cell h2 7).trans rfl⟩
      have HLn : Hid (((musts (ops.take k) (steps.take k)).length + 1) * 144 ≤ 140737488355328) := Lib.hid (by rw [hMl]; simp; omega)
      have HSB : Hid (∀ w' : World, Below w3.heap.size w3 w' → _) := Lib.hid hall
      have hst := hall _ (below_drew1 HBr.out)
      have hRd := Kd.R_drew HR.out
      have hBd := below_drew1 HBr.out
      clear hall hco hcs hCS hMt hMl HR hbw ho hs
      go_upto_region 11 with fail
      refine start_ (n := 14) (S := fun w' => w'.cell? (ao.add k) = some (.int .i64 o) ∧ w'.cell? (ax.add k) = some (.slice S' s.length d') ∧ w'.cell? ⟨g, 0, none⟩ = some (.int .i64 2) ∧ w'.cell? ⟨g, 1, none⟩ = some (.bool false) ∧ w'.cell? ⟨g, 2, none⟩ = some (.bool false) ∧ w'.cell? ⟨g, 3, none⟩ = some (.string ⟨#[53]⟩) ∧ w'.cell? ⟨g, 4, none⟩ = some (.int .i64 0) ∧ w'.cell? ⟨g, 5, none⟩ = some (.string ⟨#[]⟩) ∧ w'.cell? ⟨g, 6, none⟩ = some (.slice VA vn vc) ∧ w'.cell? ⟨g, 7, none⟩ = some (.slice VB bn bc)) (ds := []) #[false, false, false, false, false, false, false, false, false, false, false, false, false, false] (by kernel_rfl) rfl rfl hst (fun hHeld => ?_)
      generalize wr.drew = wd at hRd hBd hHeld ⊢
      have HRd := Lib.hid hRd
      have HBd := Lib.hid hBd
      have HSA : Hid (∀ o', _) := Lib.hid (fun o' => HSB.out (wd.alloc o') (below_alloc hBd _))
      clear hRd hBd hst
      refine pure_ (i := 0) (N := some 47) (v := ?_) (a' := ?_) #[true, false, false, false, false, false, false, false, false, false, false, false, false, false] rfl rfl (by kernel_rfl) (fun _ _ _ h => h) (Or.inl ⟨by rfl, ?_⟩) ?_ ?_
      rotate_left
      · intro w'
        go_simp
        with_reducible rfl
      rotate_left
      · simp only [Act.put, List.setIfInBounds_toArray, List.set_cons_zero, List.set_cons_succ, i64_w, i32_w]
        rfl
      refine pure_ (i := 1) (N := some 48) (v := ?_) (a' := ?_) #[true, true, false, false, false, false, false, false, false, false, false, false, false, false] rfl rfl (by kernel_rfl) (fun _ _ _ h => h) (Or.inl ⟨by rfl, ?_⟩) ?_ ?_
      rotate_left
      · intro w'
        go_simp
        with_reducible rfl
      rotate_left
      · simp only [Act.put, List.setIfInBounds_toArray, List.set_cons_zero, List.set_cons_succ, i64_w, i32_w]
        rfl
      refine pure_ (i := 2) (N := some 49) (v := ?_) (a' := ?_) #[true, true, true, false, false, false, false, false, false, false, false, false, false, false] rfl rfl (by kernel_rfl) (fun _ _ _ h => h) (Or.inl ⟨by rfl, ?_⟩) ?_ ?_
      rotate_left
      · intro w'
        go_simp
        with_reducible rfl
      rotate_left
      · simp only [Act.put, List.setIfInBounds_toArray, List.set_cons_zero, List.set_cons_succ, i64_w, i32_w]
        rfl
      refine pure_ (i := 3) (N := some 50) (v := ?_) (a' := ?_) #[true, true, true, true, false, false, false, false, false, false, false, false, false, false] rfl rfl (by kernel_rfl) (fun _ _ _ h => h) (Or.inl ⟨by rfl, ?_⟩) ?_ ?_
      rotate_left
      · intro w'
        go_simp
        with_reducible rfl
      rotate_left
      · simp only [Act.put, List.setIfInBounds_toArray, List.set_cons_zero, List.set_cons_succ, i64_w, i32_w]
        rfl
      refine take_ (i := 4) (N := some 51) (v := ?_) (a' := ?_) #[true, true, true, true, true, false, false, false, false, false, false, false, false, false] rfl rfl (by kernel_rfl) (fun _ _ _ h => h) (Or.inl ⟨by rfl, ?_⟩) hHeld ?_ ?_
      rotate_left
      · rintro w' ⟨s0, s1, s2, s3, s4, s5, s6, s7, s8, s9⟩
        go_simp
        with_reducible rfl
      rotate_left
      · simp only [Act.put, List.setIfInBounds_toArray, List.set_cons_zero, List.set_cons_succ, i64_w, i32_w]
        rfl
      refine pure_ (i := 5) (N := some 52) (v := ?_) (a' := ?_) #[true, true, true, true, true, true, false, false, false, false, false, false, false, false] rfl rfl (by kernel_rfl) (fun _ _ _ h => h) (Or.inl ⟨by rfl, ?_⟩) ?_ ?_
      rotate_left
      · intro w'
        go_simp
        with_reducible rfl
      rotate_left
      · simp only [Act.put, List.setIfInBounds_toArray, List.set_cons_zero, List.set_cons_succ, i64_w, i32_w]
        rfl
      refine pure_ (i := 6) (N := some 53) (v := ?_) (a' := ?_) #[true, true, true, true, true, true, true, false, false, false, false, false, false, false] rfl rfl (by kernel_rfl) (fun _ _ _ h => h) (Or.inl ⟨by rfl, ?_⟩) ?_ ?_
      rotate_left
      · intro w'
        go_simp
        with_reducible rfl
      rotate_left
      · simp only [Act.put, List.setIfInBounds_toArray, List.set_cons_zero, List.set_cons_succ, i64_w, i32_w]
        rfl
      refine pure_ (i := 7) (N := some 54) (v := ?_) (a' := ?_) #[true, true, true, true, true, true, true, true, false, false, false, false, false, false] rfl rfl (by kernel_rfl) (fun _ _ _ h => h) (Or.inl ⟨by rfl, ?_⟩) ?_ ?_
      rotate_left
      · intro w'
        go_simp
        with_reducible rfl
      rotate_left
      · simp only [Act.put, List.setIfInBounds_toArray, List.set_cons_zero, List.set_cons_succ, i64_w, i32_w]
        rfl
      refine take_ (i := 8) (N := some 55) (v := ?_) (a' := ?_) #[true, true, true, true, true, true, true, true, true, false, false, false, false, false] rfl rfl (by kernel_rfl) (fun _ _ _ h => h) (Or.inl ⟨by rfl, ?_⟩) hHeld ?_ ?_
      rotate_left
      · rintro w' ⟨s0, s1, s2, s3, s4, s5, s6, s7, s8, s9⟩
        go_simp
        with_reducible rfl
      rotate_left
      · simp only [Act.put, List.setIfInBounds_toArray, List.set_cons_zero, List.set_cons_succ, i64_w, i32_w]
        rfl
      refine take_ (i := 9) (N := some 56) (v := ?_) (a' := ?_) #[true, true, true, true, true, true, true, true, true, true, false, false, false, false] rfl rfl (by kernel_rfl) (fun _ _ _ h => h) (Or.inl ⟨by rfl, ?_⟩) hHeld ?_ ?_
      rotate_left
      · rintro w' ⟨s0, s1, s2, s3, s4, s5, s6, s7, s8, s9⟩
        go_simp
        with_reducible rfl
      rotate_left
      · simp only [Act.put, List.setIfInBounds_toArray, List.set_cons_zero, List.set_cons_succ, i64_w, i32_w]
        rfl
      refine pure_ (i := 10) (N := some 57) (v := ?_) (a' := ?_) #[true, true, true, true, true, true, true, true, true, true, true, false, false, false] rfl rfl (by kernel_rfl) (fun _ _ _ h => h) (Or.inl ⟨by rfl, ?_⟩) ?_ ?_
      rotate_left
      · intro w'
        go_simp
        with_reducible rfl
      rotate_left
      · simp only [Act.put, List.setIfInBounds_toArray, List.set_cons_zero, List.set_cons_succ, i64_w, i32_w]
        rfl
      refine one_ (i := 11) (N := some 58) #[true, true, true, true, true, true, true, true, true, true, true, true, false, false] rfl rfl (by kernel_rfl) (by decide) (fun K hK => ?_)
      refine value_ (v := .slice (some ⟨wd.heap.size, 0, none⟩) 1 1) (w1 := wd.alloc (.cells #[.int .i64 o, .slice S' s.length d', .int .i64 2, .bool false, .bool false, .string ⟨#[53]⟩, .int .i64 0, .string ⟨#[]⟩, .slice VA vn vc, .slice VB bn bc] 50)) (by rfl) rfl ?_ ?_
      · go_simp
      refine hK.out _ _ (HSA.out _) (fun hHeld => ?_)
      clear hK K
      refine norm_ (a' := ?_) ?_ ?_
      rotate_left
      · show Act.put _ (some 58) _ = _
        simp only [Act.put, List.setIfInBounds_toArray, List.set_cons_zero, List.set_cons_succ, i64_w, i32_w]
        rfl
      refine one_ (i := 12) (N := some 59) #[true, true, true, true, true, true, true, true, true, true, true, true, true, false] rfl rfl (by kernel_rfl) (by decide) (fun K hK => ?_)
      refine Kd.R_append_step (kM w) (w0 := w3) w3.heap.size (by rfl) (.tmp 47) (.tmp 58) 58 50 z50 144 rfl Tryz.underlying58 info50 rfl (by show 0 < 10; decide) (by decide) v8 _ ⟨o, s, v5⟩ [.int .i64 o, .slice S' s.length d', .int .i64 2, .bool false, .bool false, .string ⟨#[53]⟩, .int .i64 0, .string ⟨#[]⟩, .slice VA vn vc, .slice VB bn bc] (fun _ => True) (fun _ => False) rfl rfl HMR.out (fun _ hk => hk.elim) (fun k hk => trivial) HRd.out HBd.out HBd.out.size HLn.out ?_
      intro v9 wa hR1 hBa hga hat
      refine hK.out _ _ (HSB.out _ hBa) (fun hHeld => ?_)
      clear hK K
      refine norm_ (a' := ?_) ?_ ?_
      rotate_left
      · show Act.put _ (some 59) _ = _
        simp only [Act.put, List.setIfInBounds_toArray, List.set_cons_zero, List.set_cons_succ, i64_w, i32_w]
        rfl
      refine pure_ (i := 13) (N := some 8) (v := ?_) (a' := ?_) #[true, true, true, true, true, true, true, true, true, true, true, true, true, true] rfl rfl (by kernel_rfl) (fun _ _ _ h => h) (Or.inl ⟨by rfl, ?_⟩) ?_ ?_
      rotate_left
      · intro w'
        go_simp
        with_reducible rfl
      rotate_left
      · simp only [Act.put, List.setIfInBounds_toArray, List.set_cons_zero, List.set_cons_succ, i64_w, i32_w]
        rfl
      refine done_ (by kernel_rfl) ?_
      go_wp2_with fail
      refine ⟨⟨k + 1, _, by omega, rfl, by simp, Lib.hid (by rw [HMT.out]; exact hR1), Lib.hid hBa⟩, by simp [intOf]; omega⟩
    · have : k = ops.length := by omega
      subst this
      have HR := Lib.hid (show Kd.R (kM w) 50 wr w3.heap.size (fun _ => True) v8 (musts ops steps) by have := HR.out; rwa [List.take_length, musts_all] at this)
      obtain ⟨A8, c8, rfl, hl8, hC8⟩ := Kd.R_reads HR.out
      have hbw := HB3.out.trans (HBr.out.mono HB3.out.size)
      have HM := Lib.hid (kM_MC hC8 hbw)
      have HBW := Lib.hid hbw
      have HML := Lib.hid (musts_len ops steps hsl)
      clear hC8 hbw HBr HB3 HV HR
      obtain ⟨kf, hkf⟩ := ref_ev ways ops steps HWS.out hwl hol hsl
      have HKF := Lib.hid hkf
      have HCH := Lib.hid (choose5 ways ops steps)
      clear hkf
      go_wp2_with fail
      refine (choose_calls ways (musts ops steps) (fun m hm => ok5 m (musts_mem _ _ _ hm)) A (A8) c c8 wr (HT.out.below HBW.out) (Kd.C_below HA.out HBW.out) HM.out).mono ?_
      rintro E w4 ⟨v1, v2, rfl, hR1, hR2, hB⟩
      have HB4 := Lib.hid (HBW.out.trans (hB.mono HBW.out.size))
      have HM4 := Lib.hid (MC.below HM.out hB)
      rw [HCH.out] at hR1 hR2 ⊢
      obtain ⟨A1, c1, rfl, hl1, hC1⟩ := Kd.R_reads hR1
      obtain ⟨A2, c2, rfl, hl2, hC2⟩ := Kd.R_reads hR2
      have HC := Lib.hid (And.intro hC1 hC2)
      clear hB hR1 hR2 hC1 hC2 HBW HM HCH
      have hal := fun o => below_alloc HB4.out o
      have HAL := Lib.hid hal
      have hbn := fun o => blk_new w4 o
      have HBN := Lib.hid hbn
      clear hal hbn
      cases hrc : refC ways ops steps with
      | none =>
        rw [hrc] at HC hl1 hl2
        have HKF2 : Hid (rubricatorref20_Choose.f kf ways ops steps = some (-1, -1)) := Lib.hid (by rw [HKF.out]; unfold refR; rw [hrc])
        have hl1 : (0 : Nat) ≤ c1 := hl1
        rw [show spanOf (Option.map spanR none) = (0, [], [], false) from rfl]
        go_wp2_with fail
        refine (rubricatorref20_Choose.calls kf A c ways B d ops S e steps _ _ _ (Kd.C_below HA.out (HAL.out _)) HCD.out.1 (Kd.C_below HOB.out (HAL.out _)) HCD.out.2.1 (Kd.C_below HOS.out (HAL.out _)) HCD.out.2.2 HKF2.out).mono ?_
        rintro E w5 ⟨rfl, hD⟩
        have hb5 := drawn_below hD
        have hk := thru (HBN.out (.cells #[.int .i64 0, .slice A1 0 c1, .slice A2 0 c2] 60)) hb5
        have p0 : w5.cell? ⟨w4.heap.size, 0, none⟩ = some (.int .i64 0) := (blk_cell hk 0).trans rfl
        have p1 : w5.cell? ⟨w4.heap.size, 1, none⟩ = some (.slice A1 0 c1) := (blk_cell hk 1).trans rfl
        have p2 : w5.cell? ⟨w4.heap.size, 2, none⟩ = some (.slice A2 0 c2) := (blk_cell hk 2).trans rfl
        have HB5 := Lib.hid ((HAL.out _).trans (hb5.mono (HAL.out _).size))
        clear hD hb5 hk
        go_wp2_with fail
        go_ret
        exact ⟨rfl, HB5.out⟩
      | some q =>
        obtain ⟨a, wy, o⟩ := q
        obtain ⟨ha, hmu, hwy, hbo⟩ := refC_at hrc
        rw [hrc] at HC hl1 hl2
        have HKF2 : Hid (rubricatorref20_Choose.f kf ways ops steps = some ((a : Int), wy)) := Lib.hid (by rw [HKF.out]; unfold refR; rw [hrc])
        obtain ⟨L1, hL1⟩ : ∃ L, L = (boundsL o v5).1 := ⟨_, rfl⟩
        obtain ⟨L2, hL2⟩ : ∃ L, L = (boundsL o v5).2.1 := ⟨_, rfl⟩
        have HC : Hid (Kd.C (Kd.int .u8) w4 A1 L1.length L1 ∧ Kd.C (Kd.int .u8) w4 A2 L2.length L2) := Lib.hid (by rw [hL1, hL2]; exact HC.out)
        rw [show spanOf (Option.map spanR (some (a, wy, o))) = (wy, L1, L2, true) by rw [hL1, hL2]; rfl]
        have HL1 := Lib.hid hL1
        have HL2 := Lib.hid hL2
        clear hL1 hL2
        go_wp2_with fail
        refine (rubricatorref20_Choose.calls kf A c ways B d ops S e steps _ _ _ (Kd.C_below HA.out (HAL.out _)) HCD.out.1 (Kd.C_below HOB.out (HAL.out _)) HCD.out.2.1 (Kd.C_below HOS.out (HAL.out _)) HCD.out.2.2 HKF2.out).mono ?_
        rintro E w5 ⟨rfl, hD⟩
        have hb5 := drawn_below hD
        have HK5 := Lib.hid (thru (HBN.out (.cells #[.int .i64 wy, .slice A1 L1.length c1, .slice A2 L2.length c2] 60)) hb5)
        have hb45 := (below_alloc (Below.refl w4.heap.size w4) (.cells #[.int .i64 wy, .slice A1 L1.length c1, .slice A2 L2.length c2] 60)).trans (hb5.mono (by simp))
        have HB5 := Lib.hid (HB4.out.trans (hb45.mono HB4.out.size))
        obtain ⟨ad, S', sd, V, vn', vc', BB, bn', bc', rfl, q0, q1, q2, q3, q4, q5, q6, q7, q8, q9, hsd, hS⟩ := must_at (MC.below HM4.out hb45) a (by rw [HML.out]; exact ha)
        rw [hmu] at q0 q1 q2 q3 q4 q5 q6 q7 hsd hS
        have hja : a < (musts ops steps).length := by rw [HML.out]; exact ha
        have HC5 := Lib.hid (And.intro (Kd.C_below HC.out.1 hb45) (Kd.C_below HC.out.2 hb45))
        obtain ⟨s, hs⟩ : ∃ s, s = steps.getD a [] := ⟨_, rfl⟩
        rw [← hs] at q1 hmu hsd hS
        clear hD hb5 hb45 hs hS HC HM4 HKF HKF2 HAL HBN
        go_wp2_with fail
        refine (bounds_calls o v5 ok5v.1 okNum5 ok5v.2 S' V BB _ _ _ _ _ _ _ (HT.out.below HB5.out)).mono ?_
        rintro E w6 ⟨v6, v7, rfl, hR1, hR2, hB⟩
        rw [← HL1.out] at hR1
        rw [← HL2.out] at hR2
        rw [hbo]
        obtain ⟨A6, c6, rfl, hl6, hC6⟩ := Kd.R_reads hR1
        obtain ⟨A7, c7, rfl, hl7, hC7⟩ := Kd.R_reads hR2
        have hk := thru HK5.out hB
        have p0 : w6.cell? ⟨w4.heap.size, 0, none⟩ = some (.int .i64 wy) := (blk_cell hk 0).trans rfl
        have p1 : w6.cell? ⟨w4.heap.size, 1, none⟩ = some (.slice A1 L1.length c1) := (blk_cell hk 1).trans rfl
        have p2 : w6.cell? ⟨w4.heap.size, 2, none⟩ = some (.slice A2 L2.length c2) := (blk_cell hk 2).trans rfl
        have s1 : (convert 38 9 (.slice A1 L1.length c1)).run Tryz.prog w6 = .ok (.string (strOfNums L1)) w6 := str_run w6 A1 _ c1 _ (Kd.C_below HC5.out.1 hB)
        have s2 : (convert 38 9 (.slice A2 L2.length c2)).run Tryz.prog w6 = .ok (.string (strOfNums L2)) w6 := str_run w6 A2 _ c2 _ (Kd.C_below HC5.out.2 hB)
        have s6 : (convert 38 9 (.slice A6 L1.length c6)).run Tryz.prog w6 = .ok (.string (strOfNums L1)) w6 := str_run w6 A6 _ c6 _ hC6
        have s7 : (convert 38 9 (.slice A7 L2.length c7)).run Tryz.prog w6 = .ok (.string (strOfNums L2)) w6 := str_run w6 A7 _ c7 _ hC7
        have HB6 := Lib.hid (HB5.out.trans (hB.mono HB5.out.size))
        obtain ⟨X1, hX1⟩ : ∃ X, X = strOfNums L1 := ⟨_, rfl⟩
        obtain ⟨X2, hX2⟩ : ∃ X, X = strOfNums L2 := ⟨_, rfl⟩
        rw [← hX1] at s1 s6
        rw [← hX2] at s2 s7
        clear hB hR1 hR2 hC6 hC7 hk hX1 hX2 q0 q1 q2 q3 q4 q5 q6 q7 q8 q9
        go_wp2_with fail
        go_ret
        exact ⟨rfl, HB6.out⟩
end Js
end Go.Proofs.YtapcpndplnkfjaaGreatDoor
namespace Go.Proofs.YtapcpndplnkfjaaGreatDoor
open Go.RowKit Go.Proofs.YtapcpndplnkfjaaGreatDoorW.PrintWords Go.Proofs.YtapcpndplnkfjaaGreatDoorW.PrintLast Go.Proofs.YtapcpndplnkfjaaGreatDoorW.PrintMore
set_option linter.unusedVariables false
set_option linter.unusedSimpArgs false
namespace Js
end Js
end Go.Proofs.YtapcpndplnkfjaaGreatDoor
namespace Go.Proofs.YtapcpndplnkfjaaGreatDoor
open Go.RowKit Go.Proofs.YtapcpndplnkfjaaGreatDoorW.PrintWords Go.Proofs.YtapcpndplnkfjaaGreatDoorW.PrintLast Go.Proofs.YtapcpndplnkfjaaGreatDoorW.PrintMore
open Go.ChangeShapes Go.WideShapes
set_option linter.unusedVariables false
set_option linter.unusedSimpArgs false
namespace Js
set_option maxRecDepth 100000 in
set_option maxHeartbeats 1000000 in
theorem chooses_long (n m p : Nat) (h : 10 < n ∨ 20 < m ∨ p < m) (hn : n ≤ 9223372036854775807) (hm : m ≤ 9223372036854775807) (hp : p ≤ 9223372036854775807) (A B S : Option Addr) (c d e : Nat) (w : World) (hT : KTabs w) :
    Calls Tryz.prog 6 #[.slice A n c, .slice B m d, .slice S p e] w fun E w' => E = .returned (.bool true) ∧ Below w.heap.size w w' := by
  have HT := Lib.hid hT
  clear hT
  by_cases h1 : 10 < n
  · have h1' : (10 : Int) < (n : Int) := by omega
    clear h
    go_enter Tryz.func6, Tryz.ntmps6
    go_wp2_with fail
    refine (awake20_calls _ HT.out).mono ?_
    rintro E w1 ⟨rfl, hB⟩
    go_wp2_with fail
    go_ret
    exact ⟨rfl, hB⟩
  · by_cases h2 : 20 < m
    · have h1' : (n : Int) ≤ 10 := by omega
      have h2' : (20 : Int) < (m : Int) := by omega
      clear h
      go_enter Tryz.func6, Tryz.ntmps6
      go_wp2_with fail
      refine (awake20_calls _ HT.out).mono ?_
      rintro E w1 ⟨rfl, hB⟩
      go_wp2_with fail
      go_ret
      exact ⟨rfl, hB⟩
    · have h1' : (n : Int) ≤ 10 := by omega
      have h2' : (m : Int) ≤ 20 := by omega
      have h3 : (p : Int) < (m : Int) := by omega
      clear h
      go_enter Tryz.func6, Tryz.ntmps6
      go_wp2_with fail
      refine (awake20_calls _ HT.out).mono ?_
      rintro E w1 ⟨rfl, hB⟩
      go_wp2_with fail
      go_ret
      exact ⟨rfl, hB⟩
theorem rows_C {H : Type} {enc : TypeId × Value → H} {w : World} {fuel : Nat} {a : Option Addr} {len cap : Nat} {x : DataW H × List MemPlace} (h : DataW.trod enc Tryz.prog w 0 (fun _ => true) true fuel 56 [.slice a len cap] = some x) :
    ∃ l : List (List ByteArray), l.length = len ∧ len ≤ cap ∧ Kd.C (Kd.slice 9 Kd.string) w a l.length l ∧ ∀ y ∈ l, y.length ≤ 9223372036854775807 := by
  rcases Go.Deep.open_slice1 Tryz.underlying56 (by kernel_rfl) h with ⟨hcs, _⟩ | ⟨ad, len', cap', m, n, V, D, Pl, hcs, hb, hl, hm, hmm, _, hx⟩
  · simp at hcs
    obtain ⟨rfl, rfl, rfl⟩ := hcs
    exact ⟨[], rfl, Nat.le_refl _, ⟨rfl, by decide, fun h => absurd h (by decide)⟩, fun y hy => by simp at hy⟩
  · simp at hcs
    obtain ⟨rfl, rfl, rfl⟩ := hcs
    simp only [if_true] at hmm
    subst hmm
    have each : ∀ r, r < m → ∃ y : List ByteArray, (∃ A' c', V r = .slice A' y.length c' ∧ y.length ≤ c' ∧ Kd.C Kd.string w A' y.length y) ∧ y.length ≤ 9223372036854775807 := by
      intro r hr
      rcases open_strings Tryz.underlying26 Tryz.underlying9 (by kernel_rfl) (hx r hr).2 with ⟨hv, _⟩ | ⟨a', len', cap', ss, hv, _, hl', hm', hz, _, hcell, _⟩
      · exact ⟨[], ⟨none, 0, by simpa using hv, Nat.le_refl _, ⟨rfl, by decide, fun h => absurd h (by decide)⟩⟩, by decide⟩
      · simp only [if_true] at hz
        have hlen : (ss.take len').length = len' := by rw [List.length_take]; omega
        unfold maxLen at hm'
        refine ⟨ss.take len', ⟨some a', cap', by rw [hlen]; simpa using hv, by omega, ⟨rfl, by omega, fun _ => ⟨a', rfl, fun j p hj => ⟨[.string p], rfl, rfl, fun i u hu => ?_⟩⟩⟩⟩, by omega⟩
        have hjl : j < len' := by have := (List.getElem?_eq_some_iff.1 hj).1; omega
        match i, hu with
        | 0, hu =>
          obtain rfl : Value.string p = u := by simpa using hu
          have := hcell j (by omega)
          rw [List.getElem?_take, if_pos hjl] at hj
          rw [List.getD_eq_getElem?_getD, hj] at this
          show w.cell? (a'.add (j * 1 + 0)) = some (.string p)
          rw [Nat.mul_one, Nat.add_zero]
          exact this
    obtain ⟨y, hy⟩ := Go.Deep.choose_lt each
    unfold maxLen at hm
    refine ⟨(List.range len).map y, by simp, hl, ⟨rfl, by simp; omega, fun _ => ⟨ad, rfl, fun j p hj => ?_⟩⟩, fun z hz => ?_⟩
    · have hjl : j < len := by have := (List.getElem?_eq_some_iff.1 hj).1; simpa using this
      obtain rfl : y j = p := by simpa [hjl] using hj
      obtain ⟨⟨A', c', h1, h2, h3⟩, _⟩ := hy j (by omega)
      refine ⟨[V j], rfl, ⟨A', c', by rw [h1], h2, h3⟩, fun i u hu => ?_⟩
      match i, hu with
      | 0, hu =>
        obtain rfl : V j = u := by simpa using hu
        have := (hx j (by omega)).1
        show w.cell? (ad.add (j * 1 + 0)) = some (V j)
        rw [Nat.mul_one, Nat.add_zero]
        exact this
    · obtain ⟨j, hj, rfl⟩ := List.mem_map.1 hz
      have := List.mem_range.1 hj
      exact (hy j (by omega)).2
theorem nums_C {w : World} {a : Option Addr} {len cap : Nat} {zs : List Int} (h : (a = none ∧ len = 0 ∧ cap = 0 ∧ zs = []) ∨ ∃ x, a = some x ∧ len ≤ cap ∧ cap ≤ maxLen ∧ zs.length = cap ∧ (∀ i, i < zs.length → w.cell? (x.add i) = some (.int .i64 (zs.getD i 0))) ∧ ∀ n ∈ zs, (Lit.int .i64 n).wf = true) :
    Kd.C (Kd.int .i64) w a (zs.take len).length (zs.take len) ∧ (zs.take len).length = len ∧ len ≤ cap := by
  rcases h with ⟨rfl, rfl, rfl, rfl⟩ | ⟨x, rfl, h1, h2, h3, h4, h5⟩
  · exact ⟨⟨rfl, by decide, fun h => absurd h (by decide)⟩, rfl, Nat.le_refl _⟩
  · have hl : (zs.take len).length = len := by rw [List.length_take]; omega
    unfold maxLen at h2
    refine ⟨⟨rfl, by omega, fun _ => ⟨x, rfl, fun j p hj => ?_⟩⟩, hl, h1⟩
    refine ⟨[.int .i64 p], rfl, rfl, fun i u hu => ?_⟩
    have hjl : j < len := by have := (List.getElem?_eq_some_iff.1 hj).1; omega
    match i, hu with
    | 0, hu =>
      obtain rfl : Value.int .i64 p = u := by simpa using hu
      have := h4 j (by omega)
      rw [List.getElem?_take, if_pos hjl] at hj
      rw [List.getD_eq_getElem?_getD, hj] at this
      show w.cell? (x.add (j * 1 + 0)) = some (.int .i64 p)
      rw [Nat.mul_one, Nat.add_zero]
      exact this
theorem PlanChooses_calls {w : World} {a0 a1 a2 : Option Addr} {len0 cap0 len1 cap1 len2 cap2 : Nat} {z1 : List Int} {l0 l2 : List (List ByteArray)} (hT : KTabs w)
    (h0 : l0.length = len0 ∧ len0 ≤ cap0 ∧ Kd.C (Kd.slice 9 Kd.string) w a0 l0.length l0 ∧ ∀ y ∈ l0, y.length ≤ 9223372036854775807)
    (h1 : (a1 = none ∧ len1 = 0 ∧ cap1 = 0 ∧ z1 = []) ∨ ∃ x, a1 = some x ∧ len1 ≤ cap1 ∧ cap1 ≤ maxLen ∧ z1.length = cap1 ∧ (∀ i, i < z1.length → w.cell? (x.add i) = some (.int .i64 (z1.getD i 0))) ∧ ∀ n ∈ z1, (Lit.int .i64 n).wf = true)
    (h2 : l2.length = len2 ∧ len2 ≤ cap2 ∧ Kd.C (Kd.slice 9 Kd.string) w a2 l2.length l2 ∧ ∀ y ∈ l2, y.length ≤ 9223372036854775807) :
    Calls Tryz.prog 6 #[.slice a0 len0 cap0, .slice a1 len1 cap1, .slice a2 len2 cap2] w fun e w' => e = .returned (.bool true) ∧ Below w.heap.size w w' := by
  obtain ⟨rfl, hc0, hC0, hy0⟩ := h0
  obtain ⟨rfl, hc2, hC2, hy2⟩ := h2
  obtain ⟨hC1, hl1, hc1⟩ := nums_C h1
  have hb1 := hC1.2.1
  by_cases h : 10 < l0.length ∨ 20 < len1 ∨ l2.length < len1
  · exact chooses_long l0.length len1 l2.length h hC0.2.1 (by omega) hC2.2.1 a0 a1 a2 cap0 cap1 cap2 w hT
  · have := chooses_main l0 (z1.take len1) l2 (by omega) (by omega) (by omega) hy0 a0 a1 a2 cap0 cap1 cap2 w hT hC0 hc0 hC1 (by omega) hC2 hc2
    rwa [hl1] at this
end Js
end Go.Proofs.YtapcpndplnkfjaaGreatDoor
