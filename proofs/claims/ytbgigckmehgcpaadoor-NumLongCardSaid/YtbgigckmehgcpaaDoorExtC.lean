/- num.Parse: its contract. -/
import Derived.Test.YtbgigckmehgcpaaDoorExtB
namespace Go.Proofs.YtbgigckmehgcpaaDoor
open Go.RowKit Go.Proofs.YtbgigckmehgcpaaDoorW.PrintWords Pa
theorem alloc_size (W : World) (o : Obj) : (W.alloc o).heap.size = W.heap.size + 1 := by
  show (W.heap.push o).size = _
  simp
theorem blk_new' (W : World) (o : Obj) (n : Nat) (h : n = W.heap.size) : (W.alloc o).heap[n]? = some o := by subst h; exact blk_new W o
theorem PS.start (w : World) (s : ByteArray) : PS w ((((((((((w.alloc (.cells #[.bool false, .string ⟨#[]⟩, .int .i64 0] 24)).alloc (.cells #[.string s, .bool false] 48)).alloc
    (.cells #[.pointer (some ⟨w.heap.size + 1, 0, none⟩)] 46)).alloc (.cells #[.string ⟨#[]⟩] 9)).alloc (.cells #[.string ⟨#[]⟩] 9)).alloc (.cells #[.string ⟨#[]⟩] 9)).alloc (.cells #[.bool false] 4)).alloc (.cells #[.bool false] 4)).alloc
    (.cells #[
    .func (.func 21) #[] #[.pointer (some ⟨w.heap.size + 1 + 1, 0, none⟩), .pointer (some ⟨w.heap.size + 1 + 1 + 1 + 1 + 1 + 1, 0, none⟩)],
    .func (.func 23) #[] #[.pointer (some ⟨w.heap.size + 1 + 1, 0, none⟩), .pointer (some ⟨w.heap.size + 1 + 1 + 1, 0, none⟩)],
    .func (.func 25) #[] #[.pointer (some ⟨w.heap.size + 1 + 1, 0, none⟩), .pointer (some ⟨w.heap.size + 1 + 1 + 1 + 1, 0, none⟩)],
    .func (.func 26) #[] #[.pointer (some ⟨w.heap.size + 1 + 1, 0, none⟩), .pointer (some ⟨w.heap.size + 1 + 1 + 1 + 1 + 1 + 1 + 1, 0, none⟩), .pointer (some ⟨w.heap.size + 1 + 1 + 1 + 1 + 1, 0, none⟩)]] 1)))
    s false ⟨#[]⟩ ⟨#[]⟩ ⟨#[]⟩ false false := by
  constructor
  all_goals repeat (first | exact Below.refl _ _ | (refine blk_new' _ _ _ ?_; simp only [alloc_size]; done) | refine blk_alloc ?_ _ | apply below_alloc)
theorem sgR_len (s l : List UInt8) : (sgR s l).length ≤ s.length := by
  cases s with
  | nil => exact Nat.le_refl _
  | cons c t => simp only [sgR]; split <;> simp
def num_Parse.f (a0 : ByteArray) : Option (Bool × ByteArray × Int × Int) :=
  if a0.size ≤ 1000000000000000000 then
    some ((NumP.parse a0.data.toList).1.1, ofL (NumP.parse a0.data.toList).1.2.1, (NumP.parse a0.data.toList).1.2.2, (NumP.parse a0.data.toList).2)
  else none
theorem sg_minus (s : List UInt8) : sgR s [45] = NumP.dropSign s ∧ (!(sgT s [45]).isEmpty) = NumP.down s := by
  cases s with
  | nil => simp [sgR, sgT, NumP.dropSign, NumP.down]
  | cons c t => by_cases e : c = 45 <;> simp [sgR, sgT, NumP.dropSign, NumP.down, e]
theorem ofL_app (a b : List UInt8) : ofL a ++ ofL b = ofL (a ++ b) := by
  apply ByteArray.ext; apply Array.ext'; simp [ofL, ByteArray.data_append]
theorem trimRight_zero (l : List UInt8) : Lib.trimRightS l [48] = NumP.rstrip l := by
  unfold Lib.trimRightS NumP.rstrip
  congr 2; funext c
  rw [Bool.eq_iff_iff]; simp [NumP.isZ]
theorem form_f (d : Bool) (D : List UInt8) (e : Int) (hD : D.length ≤ 4000000000000000000) (he : -4000000000000000000 ≤ e ∧ e ≤ 4000000000000000000) :
    num_form.f d (ofL D) e = some ((NumP.form d D e).1, ofL (NumP.form d D e).2.1, (NumP.form d D e).2.2) := by
  have e1 : strings_TrimLeft.f (ofL D) ⟨#[48]⟩ = some (ofL (NumP.lstrip D)) := by
    unfold strings_TrimLeft.f
    rw [if_pos (by decide), ofL_data]
    show some (ofL (Lib.trimLeftS D [48])) = _
    rw [trimLeft_zero]
  have hl : (NumP.lstrip D).length ≤ D.length := (List.dropWhile_suffix NumP.isZ).length_le
  have e2 : strings_TrimRight.f (ofL (NumP.lstrip D)) ⟨#[48]⟩ = some (ofL (NumP.rstrip (NumP.lstrip D))) := by
    unfold strings_TrimRight.f
    rw [if_pos ⟨⟨by decide, by rw [ofL_size]; omega⟩, by decide⟩, ofL_data]
    show some (ofL (Lib.trimRightS (NumP.lstrip D) [48])) = _
    rw [trimRight_zero]
  have hr : (NumP.rstrip (NumP.lstrip D)).length ≤ (NumP.lstrip D).length := by
    unfold NumP.rstrip
    rw [List.length_reverse]
    exact Nat.le_trans (List.dropWhile_suffix NumP.isZ).length_le (by simp)
  unfold num_form.f NumP.form
  rw [e1]; simp only [Option.bind_some]; rw [e2]; simp only [Option.bind_some, ofL_toList, ofL_size]
  by_cases h : NumP.rstrip (NumP.lstrip D) = []
  · rw [if_pos h, if_pos h]; rfl
  · rw [if_neg h, if_neg h]
    have : wrap64 (wrap64 (e + ((NumP.lstrip D).length : Int)) - ((NumP.rstrip (NumP.lstrip D)).length : Int)) = e + ((NumP.lstrip D).length : Int) - ((NumP.rstrip (NumP.lstrip D)).length : Int) := by unfold wrap64; omega
    rw [this]
theorem bt_ofL (l : List UInt8) (i : Nat) (h : i < l.length) : bt (ofL l) i = ((l[i]'h).toNat : Int) := by
  have : ((i : Int).toNat) = i := by omega
  unfold bt
  rw [dif_pos (by rw [ofL_size, this]; exact h)]
  simp [ofL, ByteArray.getElem_eq_getElem_data, this]
theorem all_drop {p : UInt8 → Bool} : ∀ (l : List UInt8), l.all p = (l.dropWhile p).isEmpty
  | [] => rfl
  | c :: t => by
    by_cases h : p c = true
    · simp [h, all_drop t]
    · simp [h]
theorem head_byte (c d : UInt8) : ((c.toNat : Int) = (d.toNat : Int)) ↔ c = d := by
  rw [Int.natCast_inj, UInt8.toNat_inj]
theorem right_f (d : Bool) (D : List UInt8) (e : Int) (hD : D.length ≤ 4000000000000000000) : num_Right.f d (ofL D) e = some (NumP.right (d, D, e)) := by
  unfold num_Right.f NumP.right
  rw [ofL_toList]
  by_cases h0 : D = []
  · subst h0
    rw [if_pos rfl, if_pos rfl]; simp
  · rw [if_neg h0, if_neg h0, run_f D (by omega)]
    simp only [Option.bind_some, ofL_toList]
    cases hR : D.dropWhile NumP.isD with
    | cons x y =>
      rw [if_neg (by simp)]
      have : D.all NumP.isD = false := by rw [all_drop, hR]; rfl
      rw [this]; simp
    | nil =>
      have hall : D.all NumP.isD = true := by rw [all_drop, hR]; rfl
      have htw : D.takeWhile NumP.isD = D := by
        have := List.takeWhile_append_dropWhile (p := NumP.isD) (l := D)
        rw [hR, List.append_nil] at this; exact this
      have hpos : 0 < D.length := by cases D with | nil => exact absurd rfl h0 | cons _ _ => simp
      have hw : wrap64 ((D.length : Int) - 1) = ((D.length - 1 : Nat) : Int) := by unfold wrap64; omega
      rw [if_pos rfl, htw, ofL_size, if_pos (by omega), hw]
      have hb0 : bt (ofL D) 0 = ((D[0]'hpos).toNat : Int) := bt_ofL D 0 hpos
      have hb1 := bt_ofL D (D.length - 1) (by omega)
      have q0 : D.head? = some D[0] := by cases D with | nil => exact absurd rfl h0 | cons _ _ => rfl
      have q1 : D.getLast? = some (D[D.length - 1]'(by omega)) := by rw [List.getLast?_eq_getElem?]; exact List.getElem?_eq_getElem _
      rw [hall, q0, q1, hb0, hb1]
      have h48 : (48 : Int) = ((48 : UInt8).toNat : Int) := rfl
      rw [h48]
      by_cases e0 : D[0] = 48
      · rw [if_pos ((head_byte _ _).2 e0), e0]; simp
      · rw [if_neg (fun z => e0 ((head_byte _ _).1 z)), if_pos (by omega), if_pos (by omega)]
        by_cases e1 : D[D.length - 1]'(by omega) = 48
        · rw [if_pos ((head_byte _ _).2 e1), e1]; simp
        · rw [if_neg (fun z => e1 ((head_byte _ _).1 z))]
          by_cases e2 : (D.length : Int) ≤ 40
          · rw [if_pos e2]
            by_cases e3 : e ≥ -999
            · rw [if_pos e3]
              have : decide (D.length ≤ 40) = true := by simp; omega
              simp [e0, e1, this, show -999 ≤ e from e3]
            · rw [if_neg e3]
              have : ¬ (-999 ≤ e) := e3
              simp [this]
          · rw [if_neg e2]
            have : ¬ D.length ≤ 40 := by omega
            simp [this]
theorem PS.below_ {w0 W W' : World} {s : ByteArray} {bad : Bool} {wh pa ex : ByteArray} {dn ls : Bool} (h : PS w0 W s bad wh pa ex dn ls) (hb : Below W.heap.size W W') : PS w0 W' s bad wh pa ex dn ls :=
  ⟨blk_below h.h0 hb, blk_below h.h1 hb, blk_below h.h2 hb, blk_below h.h3 hb, blk_below h.h4 hb, blk_below h.h5 hb, blk_below h.h6 hb, blk_below h.h7 hb, blk_below h.h8 hb, below_step h.below hb⟩
theorem expP_dig (l : List UInt8) : (NumP.expP l).all NumP.isD = true := by
  unfold NumP.expP; split
  · exact NumP.takeWhile_all _ _
  · rfl
theorem pow_bd (l : List UInt8) (h : l.all NumP.isD = true) : 0 ≤ NumP.pow l ∧ NumP.pow l ≤ 1099511627776 := by
  unfold NumP.pow
  split
  · omega
  · rename_i hl
    have hd := dropAll NumP.isZ NumP.isD _ h
    have := val_bd (NumP.lstrip l) hd (NumP.lstrip l).length (Nat.le_refl _)
    rw [List.take_length] at this
    have h2 := pow_le (NumP.lstrip l).length (by omega)
    omega
set_option maxRecDepth 100000 in
set_option maxHeartbeats 2000000 in
theorem num_Parse.bad_ (s : List UInt8) (w : World) (hs : s.length ≤ 1000000000000000000) (hok : NumP.ok s = false) :
    Calls Tryd.prog 11 #[.string (ofL s)] w fun e w' => e = .returned (.tuple #[.agg #[.bool false, .string ⟨#[]⟩, .int .i64 0], .int .i64 11]) ∧ Below w.heap.size w w' := by
  have hmf : ∀ (fn : Fn) (first cap : Array Value) (w : World), (Instr.makeFunc fn first cap).run Tryd.prog w = .ok (.func fn first cap) w := fun _ _ _ _ => rfl
  obtain ⟨m1, m2⟩ := sg_minus s
  go_enter Tryd.func11, Tryd.ntmps11
  go_wp2_with fail
  have HS := Lib.hid (PS.start w (ofL s))
  refine wp_loop_rounds 5 ?_
  rw [rounds_succ]
  generalize World.alloc _ _ = W0 at HS ⊢
  have k0 := blk_cell HS.out.h8 0
  simp at k0
  go_wp2_with fail
  refine (step1 w W0 s false _ _ _ _ _ HS.out).mono ?_
  rintro e W1 ⟨rfl, h1⟩
  have H1 := Lib.hid h1
  clear h1 k0
  have k1 := blk_cell H1.out.h8 1
  simp at k1
  go_wp2_with fail
  rw [rounds_succ]
  go_wp2_with fail
  have hl1 : (sgR s [45]).length ≤ s.length := sgR_len s _
  refine (step2 w W1 (sgR s [45]) false _ _ _ _ _ (by omega) H1.out).mono ?_
  rintro e W2 ⟨rfl, h2⟩
  have H2 := Lib.hid h2
  clear h2 k1
  have k2 := blk_cell H2.out.h8 2
  simp at k2
  go_wp2_with fail
  rw [rounds_succ]
  go_wp2_with fail
  have hl2 : ((sgR s [45]).dropWhile NumP.isD).length ≤ s.length := Nat.le_trans (List.dropWhile_suffix NumP.isD).length_le hl1
  refine (step3 w W2 _ _ _ _ _ _ (by omega) H2.out).mono ?_
  rintro e W3 ⟨rfl, h3⟩
  have H3 := Lib.hid h3
  clear h3 k2
  have k3 := blk_cell H3.out.h8 3
  simp at k3
  go_wp2_with fail
  rw [rounds_succ]
  go_wp2_with fail
  have hl3 : (NumP.dotR ((sgR s [45]).dropWhile NumP.isD)).length ≤ s.length := by
    refine Nat.le_trans ?_ hl2
    unfold NumP.dotR; split
    · have := (List.dropWhile_suffix (l := ((sgR s [45]).dropWhile NumP.isD).tail) NumP.isD).length_le
      have := List.length_tail (l := (sgR s [45]).dropWhile NumP.isD)
      omega
    · exact Nat.le_refl _
  refine (step4 w W3 _ _ _ _ _ (by omega) H3.out).mono ?_
  rintro e W4 ⟨rfl, h4⟩
  have H4 := Lib.hid h4
  clear h4 k3 HS H1 H2 H3 hl1 hl2 hl3
  go_wp2_with fail
  rw [rounds_succ]
  rw [m1, m2] at H4
  have hbad : (((false || NumP.wholeB ((NumP.dropSign s).takeWhile NumP.isD)) || NumP.dotB ((NumP.dropSign s).dropWhile NumP.isD)) || NumP.expB (NumP.dotR ((NumP.dropSign s).dropWhile NumP.isD))) = NumP.bad s := by
    rw [Bool.false_or]; rfl
  rw [hbad] at H4
  change Hid (PS w W4 (ofL (NumP.rest3 s)) _ _ _ _ _ _) at H4
  clear m1 m2 hbad
  have hE := Lib.hid (ofL_toList (NumP.rest3 s))
  unfold NumP.ok at hok
  generalize NumP.bad s = b at *
  generalize NumP.rest3 s = z at *
  have c2 : W4.cell? ⟨w.heap.size + 1 + 1, 0, none⟩ = some (.pointer (some ⟨w.heap.size + 1, 0, none⟩)) := cell_of_one H4.out.h2
  have c10 := blk_cell H4.out.h1 0
  have c11 := blk_cell H4.out.h1 1
  simp at c10 c11
  have c00 := blk_cell H4.out.h0 0
  have c01 := blk_cell H4.out.h0 1
  have c02 := blk_cell H4.out.h0 2
  have f00 := blk_frozen H4.out.h0 0
  have f01 := blk_frozen H4.out.h0 1
  have f02 := blk_frozen H4.out.h0 2
  simp at c00 c01 c02
  cases b with
  | true =>
    go_wp2
    refine bodyPost_ret (v := .tuple #[.agg #[.bool false, .string ⟨#[]⟩, .int .i64 0], .int .i64 11]) (by simp [results, Tryd.results11, go_sem, c00, c01, c02]) rfl ⟨rfl, ?_⟩
    exact ((H4.out.below.setCell (by simp) _).setCell (by simp) _).setCell (by simp) _
  | false =>
    have hz : (ofL z).toList.isEmpty = false := by rw [hE.out]; simpa using hok
    go_wp2
    refine bodyPost_ret (v := .tuple #[.agg #[.bool false, .string ⟨#[]⟩, .int .i64 0], .int .i64 11]) (by simp [results, Tryd.results11, go_sem, c00, c01, c02]) rfl ⟨rfl, ?_⟩
    exact ((H4.out.below.setCell (by simp) _).setCell (by simp) _).setCell (by simp) _
end Go.Proofs.YtbgigckmehgcpaaDoor
