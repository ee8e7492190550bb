/- num.Parse: what it answers to any text: the four steps, each by its contract. -/
import Derived.Test.YtbgigckmehgcpaaDoorExtP
import Derived.Test.YtbgigckmehgcpaaDoorPax
import Derived.OneCell
import Derived.StillTailTactics
namespace Go.Proofs.YtbgigckmehgcpaaDoor
open Go.RowKit Go.Proofs.YtbgigckmehgcpaaDoorW.PrintWords Pa
/-- What the call's own blocks hold. -/
structure PS (w0 W : World) (s : ByteArray) (bad : Bool) (wh pa ex : ByteArray) (dn ls : Bool) : Prop where
  h0 : W.heap[w0.heap.size]? = some (.cells #[.bool false, .string ⟨#[]⟩, .int .i64 0] 24 (0, 0))
  h1 : W.heap[w0.heap.size + 1]? = some (.cells #[.string s, .bool bad] 48 (0, 0))
  h2 : W.heap[w0.heap.size + 2]? = some (.cells #[.pointer (some ⟨w0.heap.size + 1, 0, none⟩)] 46 (0, 0))
  h3 : W.heap[w0.heap.size + 3]? = some (.cells #[.string wh] 9 (0, 0))
  h4 : W.heap[w0.heap.size + 4]? = some (.cells #[.string pa] 9 (0, 0))
  h5 : W.heap[w0.heap.size + 5]? = some (.cells #[.string ex] 9 (0, 0))
  h6 : W.heap[w0.heap.size + 6]? = some (.cells #[.bool dn] 4 (0, 0))
  h7 : W.heap[w0.heap.size + 7]? = some (.cells #[.bool ls] 4 (0, 0))
  h8 : W.heap[w0.heap.size + 8]? = some (.cells #[
    .func (.func 21) #[] #[.pointer (some ⟨w0.heap.size + 2, 0, none⟩), .pointer (some ⟨w0.heap.size + 6, 0, none⟩)],
    .func (.func 23) #[] #[.pointer (some ⟨w0.heap.size + 2, 0, none⟩), .pointer (some ⟨w0.heap.size + 3, 0, none⟩)],
    .func (.func 25) #[] #[.pointer (some ⟨w0.heap.size + 2, 0, none⟩), .pointer (some ⟨w0.heap.size + 4, 0, none⟩)],
    .func (.func 26) #[] #[.pointer (some ⟨w0.heap.size + 2, 0, none⟩), .pointer (some ⟨w0.heap.size + 7, 0, none⟩), .pointer (some ⟨w0.heap.size + 5, 0, none⟩)]] 1 (0, 0))
  below : Below w0.heap.size w0 W
theorem keep_at {W W' : World} {g i : Nat} {o : Obj} (hk : KeepBut W W' g none) (h : W.heap[i]? = some o) (hi : i ≠ g) : W'.heap[i]? = some o :=
  (hk.2 i (blk_lt h) hi (by simp)).trans h
theorem PS.reader {w0 W W' : World} {s s' : ByteArray} {bad bad' : Bool} {wh pa ex : ByteArray} {dn ls : Bool} (h : PS w0 W s bad wh pa ex dn ls)
    (hk : KeepBut W W' (w0.heap.size + 1) none) (hn : IsS48 w0 W' (w0.heap.size + 1) s' bad') (hb : Below w0.heap.size w0 W') : PS w0 W' s' bad' wh pa ex dn ls :=
  ⟨keep_at hk h.h0 (by omega), hn.1, keep_at hk h.h2 (by omega), keep_at hk h.h3 (by omega), keep_at hk h.h4 (by omega), keep_at hk h.h5 (by omega), keep_at hk h.h6 (by omega), keep_at hk h.h7 (by omega), keep_at hk h.h8 (by omega), hb⟩
theorem PS.drewN {w0 W : World} {s : ByteArray} {bad : Bool} {wh pa ex : ByteArray} {dn ls : Bool} (h : PS w0 W s bad wh pa ex dn ls) (n : Nat) : PS w0 (W.drewN n) s bad wh pa ex dn ls :=
  ⟨h.h0, h.h1, h.h2, h.h3, h.h4, h.h5, h.h6, h.h7, h.h8, pw_below_drewN h.below n⟩
theorem PS.drew {w0 W : World} {s : ByteArray} {bad : Bool} {wh pa ex : ByteArray} {dn ls : Bool} (h : PS w0 W s bad wh pa ex dn ls) : PS w0 W.drew s bad wh pa ex dn ls :=
  ⟨h.h0, h.h1, h.h2, h.h3, h.h4, h.h5, h.h6, h.h7, h.h8, below_drew h.below⟩
theorem PS.set3 {w0 W : World} {s : ByteArray} {bad : Bool} {wh pa ex : ByteArray} {dn ls : Bool} (h : PS w0 W s bad wh pa ex dn ls) (x : ByteArray) :
    PS w0 (W.setCell ⟨w0.heap.size + 3, 0, none⟩ (.string x)) s bad x pa ex dn ls :=
  ⟨blk_far h.h0 (by simp) _, blk_far h.h1 (by simp) _, blk_far h.h2 (by simp) _, one_setCell h.h3, blk_far h.h4 (by simp) _, blk_far h.h5 (by simp) _, blk_far h.h6 (by simp) _, blk_far h.h7 (by simp) _, blk_far h.h8 (by simp) _, h.below.setCell (by simp) _⟩
theorem PS.set4 {w0 W : World} {s : ByteArray} {bad : Bool} {wh pa ex : ByteArray} {dn ls : Bool} (h : PS w0 W s bad wh pa ex dn ls) (x : ByteArray) :
    PS w0 (W.setCell ⟨w0.heap.size + 4, 0, none⟩ (.string x)) s bad wh x ex dn ls :=
  ⟨blk_far h.h0 (by simp) _, blk_far h.h1 (by simp) _, blk_far h.h2 (by simp) _, blk_far h.h3 (by simp) _, one_setCell h.h4, blk_far h.h5 (by simp) _, blk_far h.h6 (by simp) _, blk_far h.h7 (by simp) _, blk_far h.h8 (by simp) _, h.below.setCell (by simp) _⟩
theorem PS.set5 {w0 W : World} {s : ByteArray} {bad : Bool} {wh pa ex : ByteArray} {dn ls : Bool} (h : PS w0 W s bad wh pa ex dn ls) (x : ByteArray) :
    PS w0 (W.setCell ⟨w0.heap.size + 5, 0, none⟩ (.string x)) s bad wh pa x dn ls :=
  ⟨blk_far h.h0 (by simp) _, blk_far h.h1 (by simp) _, blk_far h.h2 (by simp) _, blk_far h.h3 (by simp) _, blk_far h.h4 (by simp) _, one_setCell h.h5, blk_far h.h6 (by simp) _, blk_far h.h7 (by simp) _, blk_far h.h8 (by simp) _, h.below.setCell (by simp) _⟩
theorem PS.set6 {w0 W : World} {s : ByteArray} {bad : Bool} {wh pa ex : ByteArray} {dn ls : Bool} (h : PS w0 W s bad wh pa ex dn ls) (x : Bool) :
    PS w0 (W.setCell ⟨w0.heap.size + 6, 0, none⟩ (.bool x)) s bad wh pa ex x ls :=
  ⟨blk_far h.h0 (by simp) _, blk_far h.h1 (by simp) _, blk_far h.h2 (by simp) _, blk_far h.h3 (by simp) _, blk_far h.h4 (by simp) _, blk_far h.h5 (by simp) _, one_setCell h.h6, blk_far h.h7 (by simp) _, blk_far h.h8 (by simp) _, h.below.setCell (by simp) _⟩
theorem PS.set7 {w0 W : World} {s : ByteArray} {bad : Bool} {wh pa ex : ByteArray} {dn ls : Bool} (h : PS w0 W s bad wh pa ex dn ls) (x : Bool) :
    PS w0 (W.setCell ⟨w0.heap.size + 7, 0, none⟩ (.bool x)) s bad wh pa ex dn x :=
  ⟨blk_far h.h0 (by simp) _, blk_far h.h1 (by simp) _, blk_far h.h2 (by simp) _, blk_far h.h3 (by simp) _, blk_far h.h4 (by simp) _, blk_far h.h5 (by simp) _, blk_far h.h6 (by simp) _, one_setCell h.h7, blk_far h.h8 (by simp) _, h.below.setCell (by simp) _⟩
theorem PS.setBad {w0 W : World} {s : ByteArray} {bad : Bool} {wh pa ex : ByteArray} {dn ls : Bool} (h : PS w0 W s bad wh pa ex dn ls) (x : Bool) :
    PS w0 (W.setCell ⟨w0.heap.size + 1, 1, none⟩ (.bool x)) s x wh pa ex dn ls :=
  ⟨blk_far h.h0 (by simp) _, by have := blk_set h.h1 1 (.bool x); simpa using this, blk_far h.h2 (by simp) _, blk_far h.h3 (by simp) _, blk_far h.h4 (by simp) _, blk_far h.h5 (by simp) _, blk_far h.h6 (by simp) _, blk_far h.h7 (by simp) _, blk_far h.h8 (by simp) _, h.below.setCell (by simp) _⟩
theorem PS.isS {w0 W : World} {s : ByteArray} {bad : Bool} {wh pa ex : ByteArray} {dn ls : Bool} (h : PS w0 W s bad wh pa ex dn ls) : IsS48 w0 W (w0.heap.size + 1) s bad := ⟨h.h1, by omega⟩

def ofL (l : List UInt8) : ByteArray := ⟨l.toArray⟩
/-- sign at a text: what it takes off -/
def sgT (s l : List UInt8) : List UInt8 := match s with | [] => [] | c :: _ => if l.contains c then [c] else []
def sgR (s l : List UInt8) : List UInt8 := match s with | [] => [] | c :: t => if l.contains c then t else s
theorem idx_iff (l : List UInt8) (c : UInt8) : 0 ≤ Lib.indexByte l c ↔ l.contains c = true := by
  induction l with
  | nil => simp [Lib.indexByte]
  | cons b t ih =>
    have hg := Lib.indexByte_ge t c
    simp only [Lib.indexByte, List.contains_cons]
    by_cases e : b = c
    · subst e; simp
    · have e1 : (b == c) = false := by simpa using e
      have e2 : (c == b) = false := by simpa using fun h => e h.symm
      rw [e1, e2, Bool.false_or, ← ih]
      by_cases z : Lib.indexByte t c = -1
      · rw [z]; decide
      · have z1 : (Lib.indexByte t c == -1) = false := by simpa using z
        simp only [z1, if_false, Bool.false_eq_true]
        omega
theorem idx_contains (l : List UInt8) (c : UInt8) : decide (0 ≤ Lib.indexByte l c) = l.contains c := by
  rw [Bool.eq_iff_iff, decide_eq_true_eq]; exact idx_iff l c
theorem ofL_toList (l : List UInt8) : (ofL l).toList = l := by rw [ByteArray.toList_eq]; rfl
theorem ofL_size (l : List UInt8) : (ofL l).size = l.length := by simp [ofL, ByteArray.size]
theorem ofL_data (l : List UInt8) : (ofL l).data.toList = l := rfl
theorem ofL_ext (l : List UInt8) (a b : Nat) : (ofL l).extract a b = ofL ((l.take b).drop a) := by
  apply ByteArray.ext
  apply Array.ext'
  simp [ofL, List.drop_take]
theorem sign_f (s l : List UInt8) (bad : Bool) : num_reader_sign.f (ofL s) bad (ofL l) = some (ofL (sgT s l), ofL (sgR s l), bad) := by
  unfold num_reader_sign.f
  cases s with
  | nil => rw [if_pos (ofL_toList [])]; rfl
  | cons c t =>
    rw [if_neg (by rw [ofL_toList]; simp), if_pos (by omega), if_pos (by rw [ofL_size]; simp; omega)]
    have e1 : (ofL (c :: t)).extract 0 1 = ofL [c] := by rw [ofL_ext]; rfl
    have e2 : (ofL (c :: t)).extract 1 (ofL (c :: t)).size = ofL t := by rw [ofL_ext, ofL_size]; simp
    rw [e1, e2]
    have e3 : strings_Contains.f (ofL l) (ofL [c]) = some (l.contains c) := by
      show some _ = _
      rw [idx_contains]; rfl
    rw [e3]
    simp only [Option.bind_some, sgT, sgR]
    by_cases h : l.contains c = true
    · simp only [h, if_true]
    · simp only [h]; rfl
theorem trimLeft_dig (l : List UInt8) : Lib.trimLeftS l [48, 49, 50, 51, 52, 53, 54, 55, 56, 57] = l.dropWhile NumP.isD := by
  unfold Lib.trimLeftS
  congr 1; funext c
  rw [Bool.eq_iff_iff]; simp [NumP.isD, ← UInt8.toNat_inj]; omega
theorem run_f (s : List UInt8) (hs : s.length ≤ 9223372036854775807) : num_run.f (ofL s) = some (ofL (s.takeWhile NumP.isD), ofL (s.dropWhile NumP.isD)) := by
  unfold num_run.f
  have e : strings_TrimLeft.f (ofL s) ⟨#[48, 49, 50, 51, 52, 53, 54, 55, 56, 57]⟩ = some (ofL (s.dropWhile NumP.isD)) := by
    unfold strings_TrimLeft.f
    rw [if_pos (by decide), ofL_data]
    show some (ofL (Lib.trimLeftS s [48, 49, 50, 51, 52, 53, 54, 55, 56, 57])) = _
    rw [trimLeft_dig]
  rw [e]
  simp only [Option.bind_some, ofL_size]
  have hl : (s.takeWhile NumP.isD).length + (s.dropWhile NumP.isD).length = s.length := by rw [← List.length_append, List.takeWhile_append_dropWhile]
  have hw : wrap64 ((s.length : Int) - ((s.dropWhile NumP.isD).length : Int)) = ((s.takeWhile NumP.isD).length : Int) := by unfold wrap64; omega
  rw [hw, if_pos (by omega), if_pos (by omega), ofL_ext]
  congr 3
  have ht : ((s.takeWhile NumP.isD).length : Int).toNat = (s.takeWhile NumP.isD).length := by omega
  rw [ht, List.drop_zero]
  exact (List.prefix_iff_eq_take.1 (List.takeWhile_prefix NumP.isD)).symm
theorem digits_f (s : List UInt8) (bad : Bool) (hs : s.length ≤ 9223372036854775807) : num_reader_digits.f (ofL s) bad = some (ofL (s.takeWhile NumP.isD), ofL (s.dropWhile NumP.isD), bad || (s.takeWhile NumP.isD).isEmpty) := by
  unfold num_reader_digits.f
  rw [run_f s hs]
  simp only [Option.bind_some, ofL_toList, beq_nil_isEmpty]
  cases bad <;> rfl
set_option maxRecDepth 100000 in
set_option maxHeartbeats 1000000 in
theorem step1 (w0 W : World) (s : List UInt8) (bad : Bool) (wh pa ex : ByteArray) (dn ls : Bool) (h : PS w0 W (ofL s) bad wh pa ex dn ls) :
    Calls Tryd.prog 21 #[.pointer (some ⟨w0.heap.size + 2, 0, none⟩), .pointer (some ⟨w0.heap.size + 6, 0, none⟩)] W fun e w' => e = .returned (.tuple #[]) ∧ PS w0 w' (ofL (sgR s [45])) bad wh pa ex (!(sgT s [45]).isEmpty) ls := by
  have HS := Lib.hid h
  have c2 := cell_of_one h.h2
  clear h
  go_enter Tryd.func21, Tryd.ntmps21
  go_wp2_with fail
  refine (num_reader_sign.calls _ _ _ _ _ _ _ w0 W HS.out.isS HS.out.below (sign_f s [45] bad)).mono ?_
  rintro e w1 ⟨rfl, hI, hB, hK⟩
  have H1 := Lib.hid (HS.out.reader hK hI hB)
  clear hI hB hK
  have f6 := free_of_one H1.out.h6
  have c6 := cell_of_one H1.out.h6
  go_wp2
  go_end0
  refine ⟨rfl, ?_⟩
  rw [ofL_toList]
  exact H1.out.set6 _
/-- the ways through the second step's test -/
theorem whole_ways (bad : Bool) (t : List UInt8) :
    ((bad || t.isEmpty) = true ∧ (bad || NumP.wholeB t) = true) ∨
    ((bad || t.isEmpty) = false ∧ t.length ≤ 1 ∧ (bad || NumP.wholeB t) = false) ∨
    ((bad || t.isEmpty) = false ∧ 1 < t.length ∧ ∃ c u, t = c :: u ∧ (bad || NumP.wholeB t) = (c == 48)) := by
  cases bad with
  | true => left; simp
  | false =>
    cases t with
    | nil => left; simp [NumP.wholeB]
    | cons c u =>
      right
      by_cases h : 1 < (c :: u).length
      · right; refine ⟨rfl, h, c, u, rfl, ?_⟩
        simp only [NumP.wholeB, h, decide_true, List.isEmpty_cons, Bool.true_and, Bool.false_or, List.head?_cons]
        rfl
      · left; exact ⟨rfl, by omega, by simp only [NumP.wholeB, h, decide_false, List.isEmpty_cons, Bool.false_and, Bool.false_or]⟩
set_option maxRecDepth 100000 in
set_option maxHeartbeats 1000000 in
theorem step2 (w0 W : World) (s : List UInt8) (bad : Bool) (wh pa ex : ByteArray) (dn ls : Bool) (hl : s.length ≤ 9223372036854775807) (h : PS w0 W (ofL s) bad wh pa ex dn ls) :
    Calls Tryd.prog 23 #[.pointer (some ⟨w0.heap.size + 2, 0, none⟩), .pointer (some ⟨w0.heap.size + 3, 0, none⟩)] W fun e w' => e = .returned (.tuple #[]) ∧
      PS w0 w' (ofL (s.dropWhile NumP.isD)) (bad || NumP.wholeB (s.takeWhile NumP.isD)) (ofL (s.takeWhile NumP.isD)) pa ex dn ls := by
  have HS := Lib.hid h
  have c2 := cell_of_one h.h2
  clear h
  have hdg := Lib.hid (digits_f s bad hl)
  have hway := whole_ways bad (s.takeWhile NumP.isD)
  have htl : (s.takeWhile NumP.isD).length ≤ 9223372036854775807 := by have := (List.takeWhile_prefix (l := s) NumP.isD).length_le; omega
  generalize s.takeWhile NumP.isD = t at *
  generalize (bad || NumP.wholeB t) = fin at *
  generalize (bad || t.isEmpty) = b1 at *
  generalize hB : ofL t = T at *
  have hsz : (T.size : Int) = t.length := by rw [← hB, ofL_size]
  rcases hway with ⟨rfl, rfl⟩ | ⟨rfl, hle, rfl⟩ | ⟨rfl, hlt, c, u, hcu, rfl⟩
  · clear hB hsz
    go_enter Tryd.func23, Tryd.ntmps23
    go_wp2_with fail
    refine (num_reader_digits.calls _ _ _ _ _ _ w0 W HS.out.isS HS.out.below hdg.out).mono ?_
    rintro e w1 ⟨rfl, hI, hB, hK⟩
    have H1 := Lib.hid (HS.out.reader hK hI hB)
    clear hI hB hK c2
    have f3 := free_of_one H1.out.h3
    have c3 := cell_of_one H1.out.h3
    go_wp2
    have H2 := Lib.hid (H1.out.set3 T)
    generalize w1.setCell { block := w0.heap.size + 3, off := 0 } (Value.string T) = W2 at H2 ⊢
    clear c3 f3
    have c2 := cell_of_one H2.out.h2
    have c10 := blk_cell H2.out.h1 0
    have c11 := blk_cell H2.out.h1 1
    have f11 := blk_frozen H2.out.h1 1
    have c3 := cell_of_one H2.out.h3
    simp at c10 c11
    go_region
    go_wp2
    go_end0
    exact ⟨rfl, (H2.out.setBad _).drew⟩
  · have hle' : decide (1 < (T.size : Int)) = false := by simp; omega
    clear hB hsz
    go_enter Tryd.func23, Tryd.ntmps23
    go_wp2_with fail
    refine (num_reader_digits.calls _ _ _ _ _ _ w0 W HS.out.isS HS.out.below hdg.out).mono ?_
    rintro e w1 ⟨rfl, hI, hB, hK⟩
    have H1 := Lib.hid (HS.out.reader hK hI hB)
    clear hI hB hK c2
    have f3 := free_of_one H1.out.h3
    have c3 := cell_of_one H1.out.h3
    go_wp2
    have H2 := Lib.hid (H1.out.set3 T)
    generalize w1.setCell { block := w0.heap.size + 3, off := 0 } (Value.string T) = W2 at H2 ⊢
    clear c3 f3
    have c2 := cell_of_one H2.out.h2
    have c10 := blk_cell H2.out.h1 0
    have c11 := blk_cell H2.out.h1 1
    have f11 := blk_frozen H2.out.h1 1
    have c3 := cell_of_one H2.out.h3
    simp at c10 c11
    go_region
    go_wp2
    go_end0
    exact ⟨rfl, (H2.out.setBad _).drew⟩
  · have hle' : decide (1 < (T.size : Int)) = true := by simp; omega
    have h0 : 0 < T.size := by omega
    have hx : ∀ h : 0 < T.size, ((T[0]'h).toNat : Int) = (c.toNat : Int) := by
      subst hcu; subst hB
      intro h; simp [ofL, ByteArray.getElem_eq_getElem_data]
    have hc : (c == 48) = ((c.toNat : Int) == 48) := by
      rw [Bool.eq_iff_iff]; simp [← UInt8.toNat_inj]; omega
    rw [hc]
    generalize (c.toNat : Int) = n at *
    clear hB hsz hcu hc
    replace h0 := eq_true h0
    go_enter Tryd.func23, Tryd.ntmps23
    go_wp2_with fail
    refine (num_reader_digits.calls _ _ _ _ _ _ w0 W HS.out.isS HS.out.below hdg.out).mono ?_
    rintro e w1 ⟨rfl, hI, hB, hK⟩
    have H1 := Lib.hid (HS.out.reader hK hI hB)
    clear hI hB hK c2
    have f3 := free_of_one H1.out.h3
    have c3 := cell_of_one H1.out.h3
    go_wp2
    have H2 := Lib.hid (H1.out.set3 T)
    generalize w1.setCell { block := w0.heap.size + 3, off := 0 } (Value.string T) = W2 at H2 ⊢
    clear c3 f3
    have c2 := cell_of_one H2.out.h2
    have c10 := blk_cell H2.out.h1 0
    have c11 := blk_cell H2.out.h1 1
    have f11 := blk_frozen H2.out.h1 1
    have c3 := cell_of_one H2.out.h3
    simp at c10 c11
    go_region
    go_wp2
    go_end0
    exact ⟨rfl, (H2.out.setBad _).drew⟩
theorem ofL_emp (l : List UInt8) : (ofL l).toList.isEmpty = l.isEmpty := by rw [ofL_toList]
theorem sg_dot (s : List UInt8) : (s.head? = some 46 ∧ sgT s [46] = [46] ∧ sgR s [46] = s.tail) ∨ (s.head? ≠ some 46 ∧ sgT s [46] = [] ∧ sgR s [46] = s) := by
  cases s with
  | nil => right; simp [sgT, sgR]
  | cons c t =>
    by_cases e : c = 46
    · subst e; left; simp [sgT, sgR]
    · right; simp [sgT, sgR, e]
theorem sg_e (s : List UInt8) : (NumP.isE s = true ∧ sgT s [101, 69] ≠ [] ∧ sgR s [101, 69] = s.tail) ∨ (NumP.isE s = false ∧ sgT s [101, 69] = [] ∧ sgR s [101, 69] = s) := by
  cases s with
  | nil => right; simp [sgT, sgR, NumP.isE]
  | cons c t =>
    by_cases e : c = 101 ∨ c = 69
    · left; rcases e with rfl | rfl <;> simp [sgT, sgR, NumP.isE]
    · right; obtain ⟨a, b⟩ := not_or.1 e; simp [sgT, sgR, NumP.isE, a, b]
theorem sg_s (s : List UInt8) : ((sgT s [43, 45]) == [45]) = (s.head? == some 45) ∧ sgR s [43, 45] = (if NumP.isS s then s.tail else s) := by
  cases s with
  | nil => simp [sgT, sgR, NumP.isS]
  | cons c t =>
    by_cases e : c = 43
    · subst e; simp [sgT, sgR, NumP.isS]
    · by_cases e' : c = 45
      · subst e'; simp [sgT, sgR, NumP.isS]
      · simp [sgT, sgR, NumP.isS, e, e']
set_option maxRecDepth 100000 in
set_option maxHeartbeats 1000000 in
theorem step3 (w0 W : World) (s : List UInt8) (bad : Bool) (wh ex : ByteArray) (dn ls : Bool) (hl : s.length ≤ 9223372036854775807) (h : PS w0 W (ofL s) bad wh (ofL []) ex dn ls) :
    Calls Tryd.prog 25 #[.pointer (some ⟨w0.heap.size + 2, 0, none⟩), .pointer (some ⟨w0.heap.size + 4, 0, none⟩)] W fun e w' => e = .returned (.tuple #[]) ∧
      PS w0 w' (ofL (NumP.dotR s)) (bad || NumP.dotB s) wh (ofL (NumP.dotP s)) ex dn ls := by
  have HS := Lib.hid h
  have c2 := cell_of_one h.h2
  clear h
  have hsg := Lib.hid (sign_f s [46] bad)
  rcases sg_dot s with ⟨hh, e1, e2⟩ | ⟨hh, e1, e2⟩
  · rw [e2] at hsg
    have hP : NumP.dotP s = s.tail.takeWhile NumP.isD := by simp [NumP.dotP, hh]
    have hR : NumP.dotR s = s.tail.dropWhile NumP.isD := by simp [NumP.dotR, hh]
    have hB : NumP.dotB s = (s.tail.takeWhile NumP.isD).isEmpty := by simp [NumP.dotB, NumP.dotP, hh]
    rw [hP, hR, hB]
    have hdg := Lib.hid (digits_f s.tail bad (by have := List.length_tail (l := s); omega))
    have hne : (ofL (sgT s [46])).toList.isEmpty = false := by rw [ofL_toList, e1]; rfl
    clear hP hR hB hh e1 e2
    generalize ofL (sgT s [46]) = P at *
    generalize s.tail.takeWhile NumP.isD = t at *
    generalize s.tail.dropWhile NumP.isD = u at *
    generalize ofL [] = Z at *
    generalize ofL t = T at *
    generalize (bad || t.isEmpty) = b1 at *
    go_enter Tryd.func25, Tryd.ntmps25
    go_wp2_with fail
    refine (num_reader_sign.calls _ _ _ _ _ _ _ w0 W HS.out.isS HS.out.below hsg.out).mono ?_
    rintro e w1 ⟨rfl, hI, hB, hK⟩
    have H1 := Lib.hid (HS.out.reader hK hI hB)
    clear hI hB hK c2
    have c2 := cell_of_one H1.out.h2
    go_wp2_with fail
    refine (num_reader_digits.calls _ _ _ _ _ _ w0 w1 H1.out.isS H1.out.below hdg.out).mono ?_
    rintro e w2 ⟨rfl, hI, hB, hK⟩
    have H2 := Lib.hid (H1.out.reader hK hI hB)
    clear hI hB hK c2
    have f3 := free_of_one H2.out.h4
    have c3 := cell_of_one H2.out.h4
    go_wp2
    go_end0
    exact ⟨rfl, H2.out.set4 _⟩
  · rw [e1, e2] at hsg
    have hP : NumP.dotP s = [] := by simp [NumP.dotP, hh]
    have hR : NumP.dotR s = s := by simp [NumP.dotR, hh]
    have hB : (bad || NumP.dotB s) = bad := by simp [NumP.dotB, hh]
    rw [hP, hR, hB]
    clear hP hR hB hh e1 e2
    have hne : (ofL []).toList.isEmpty = true := by rw [ofL_toList]; rfl
    generalize ofL [] = Z at *
    go_enter Tryd.func25, Tryd.ntmps25
    go_wp2_with fail
    refine (num_reader_sign.calls _ _ _ _ _ _ _ w0 W HS.out.isS HS.out.below hsg.out).mono ?_
    rintro e w1 ⟨rfl, hI, hB, hK⟩
    have H1 := Lib.hid (HS.out.reader hK hI hB)
    clear hI hB hK c2
    go_wp2
    go_end0
    exact ⟨rfl, H1.out⟩
set_option maxRecDepth 100000 in
set_option maxHeartbeats 1000000 in
theorem step4 (w0 W : World) (s : List UInt8) (bad : Bool) (wh pa : ByteArray) (dn : Bool) (hl : s.length ≤ 9223372036854775807) (h : PS w0 W (ofL s) bad wh pa (ofL []) dn false) :
    Calls Tryd.prog 26 #[.pointer (some ⟨w0.heap.size + 2, 0, none⟩), .pointer (some ⟨w0.heap.size + 7, 0, none⟩), .pointer (some ⟨w0.heap.size + 5, 0, none⟩)] W fun e w' => e = .returned (.tuple #[]) ∧
      PS w0 w' (ofL (NumP.expR s)) (bad || NumP.expB s) wh pa (ofL (NumP.expP s)) dn (NumP.expL s) := by
  have HS := Lib.hid h
  have c2 := cell_of_one h.h2
  clear h
  have hsg := Lib.hid (sign_f s [101, 69] bad)
  rcases sg_e s with ⟨hh, e1, e2⟩ | ⟨hh, e1, e2⟩
  · rw [e2] at hsg
    have hsg2 := Lib.hid (sign_f s.tail [43, 45] bad)
    obtain ⟨q1, q2⟩ := sg_s s.tail
    rw [q2] at hsg2
    change Hid (_ = some (_, ofL (NumP.expT s), _)) at hsg2
    have hP : NumP.expP s = (NumP.expT s).takeWhile NumP.isD := by simp [NumP.expP, hh]
    have hR : NumP.expR s = (NumP.expT s).dropWhile NumP.isD := by simp [NumP.expR, hh]
    have hB : NumP.expB s = ((NumP.expT s).takeWhile NumP.isD).isEmpty := by simp [NumP.expB, NumP.expP, hh]
    have hL : NumP.expL s = ((sgT s.tail [43, 45]) == [45]) := by rw [q1]; simp [NumP.expL, hh]
    rw [hP, hR, hB, hL]
    have hdg := Lib.hid (digits_f (NumP.expT s) bad (by
      have := List.length_tail (l := s); have := List.length_tail (l := s.tail)
      unfold NumP.expT; split <;> omega))
    clear hP hR hB hL hh e2 q1 q2
    have hne : (ofL (sgT s [101, 69])).toList.isEmpty = false := by rw [ofL_toList]; simpa using e1
    have hls : ((ofL (sgT s.tail [43, 45])).toList == [45]) = ((sgT s.tail [43, 45]) == [45]) := by rw [ofL_toList]
    clear e1
    generalize ofL (sgT s [101, 69]) = P at *
    generalize sgT s.tail [43, 45] = q at *
    generalize (NumP.expT s).takeWhile NumP.isD = t at *
    generalize (NumP.expT s).dropWhile NumP.isD = u at *
    generalize ofL [] = Z at *
    generalize ofL t = T at *
    generalize ofL q = Q at *
    generalize (bad || t.isEmpty) = b1 at *
    generalize hl2 : (q == [45]) = less at *
    have HLS := Lib.hid hls
    clear hls hl2
    go_enter Tryd.func26, Tryd.ntmps26
    go_wp2_with fail
    refine (num_reader_sign.calls _ _ _ _ _ _ _ w0 W HS.out.isS HS.out.below hsg.out).mono ?_
    rintro e w1 ⟨rfl, hI, hB, hK⟩
    have H1 := Lib.hid (HS.out.reader hK hI hB)
    clear hI hB hK c2
    have c2 := cell_of_one H1.out.h2
    go_wp2_with fail
    refine (num_reader_sign.calls _ _ _ _ _ _ _ w0 w1 H1.out.isS H1.out.below hsg2.out).mono ?_
    rintro e w2 ⟨rfl, hI, hB, hK⟩
    have H2 := Lib.hid (H1.out.reader hK hI hB)
    clear hI hB hK c2
    have f7 := free_of_one H2.out.h7
    have c7 := cell_of_one H2.out.h7
    have c2 := cell_of_one H2.out.h2
    go_wp2_with fail
    have H3 := Lib.hid (H2.out.set7 (Q.toList == [45]))
    generalize w2.setCell { block := w0.heap.size + 7, off := 0 } (Value.bool (Q.toList == [45])) = w3 at H3 ⊢
    clear c7 f7 c2
    rw [HLS.out] at H3
    refine (num_reader_digits.calls _ _ _ _ _ _ w0 w3 H3.out.isS H3.out.below hdg.out).mono ?_
    rintro e w4 ⟨rfl, hI, hB, hK⟩
    have H4 := Lib.hid (H3.out.reader hK hI hB)
    clear hI hB hK
    have f5 := free_of_one H4.out.h5
    have c5 := cell_of_one H4.out.h5
    go_wp2
    go_end0
    exact ⟨rfl, H4.out.set5 _⟩
  · rw [e1, e2] at hsg
    have hP : NumP.expP s = [] := by simp [NumP.expP, hh]
    have hR : NumP.expR s = s := by simp [NumP.expR, hh]
    have hB : (bad || NumP.expB s) = bad := by simp [NumP.expB, hh]
    have hL : NumP.expL s = false := by simp [NumP.expL, hh]
    rw [hP, hR, hB, hL]
    clear hP hR hB hL hh e1 e2
    have hne : (ofL []).toList.isEmpty = true := by rw [ofL_toList]; rfl
    generalize ofL [] = Z at *
    go_enter Tryd.func26, Tryd.ntmps26
    go_wp2_with fail
    refine (num_reader_sign.calls _ _ _ _ _ _ _ w0 W HS.out.isS HS.out.below hsg.out).mono ?_
    rintro e w1 ⟨rfl, hI, hB, hK⟩
    have H1 := Lib.hid (HS.out.reader hK hI hB)
    clear hI hB hK c2
    go_wp2
    go_end0
    exact ⟨rfl, H1.out⟩
end Go.Proofs.YtbgigckmehgcpaaDoor
