/- A text with a sign more ahead, behind, or within its exponent is no number's. -/
import Derived.Test.YtbgigckmehgcpaaDoorNumB
import Derived.Test.YtbgigckmehgcpaaDoorPrx15
import Derived.DataShut
namespace Go.Proofs.YtbgigckmehgcpaaDoor
open Go.RowKit Go.Proofs.YtbgigckmehgcpaaDoorW.PrintWords Pr
/-- the signs of a number's text -/
def sigs (c : UInt8) : Bool := NumP.isD c || c == 45 || c == 46 || c == 101 || c == 69 || c == 43
theorem is_sigs {l : List UInt8} {d : Bool} {W P : List UInt8} {less : Bool} {E : List UInt8} (h : NumP.Is l d W P less E) : l.all sigs = true := by
  obtain ⟨x, hx, rfl⟩ := h.text
  have dig : ∀ L : List UInt8, L.all NumP.isD = true → L.all sigs = true := fun L hL => by
    rw [List.all_eq_true] at *
    intro c hc; simp [sigs, hL c hc]
  rw [List.all_append, List.all_append, List.all_append]
  have h1 : (NumP.sgn d).all sigs = true := by cases d <;> decide
  have h2 : (NumP.dot P).all sigs = true := by
    unfold NumP.dot; split
    · rfl
    · rw [List.all_cons, dig P h.pd]; rfl
  have h3 : x.all sigs = true := by
    rcases hx.out with ⟨rfl, -, -⟩ | ⟨c, g, hc, hg, -, hE, rfl⟩
    · rfl
    · rw [List.cons_append, List.all_cons, List.all_append, dig E hE]
      rcases hc with rfl | rfl <;> rcases hg with ⟨rfl, -⟩ | ⟨rfl, -⟩ | ⟨rfl, -⟩ <;> rfl
  rw [h1, dig W h.wd, h2, h3]; rfl
theorem bad_of {l : List UInt8} (h : ∀ d W P less E, ¬ NumP.Is l d W P less E) : (NumP.parse l).2 = 11 := by
  cases hok : NumP.ok l with
  | true => exact absurd (NumP.Is.of_ok hok) (h _ _ _ _ _)
  | false => unfold NumP.parse; rw [if_neg (by rw [hok]; simp)]
theorem ok_of {l : List UInt8} (h : (NumP.parse l).2 = 0) : NumP.ok l = true := by
  cases hok : NumP.ok l with
  | true => rfl
  | false => unfold NumP.parse at h; rw [if_neg (by rw [hok]; simp)] at h; simp at h
/-- the first sign is a digit, or a '-' and then a digit -/
theorem is_head {l : List UInt8} {d : Bool} {W P : List UInt8} {less : Bool} {E : List UInt8} (h : NumP.Is l d W P less E) : ∃ c t, l = NumP.sgn d ++ c :: t ∧ NumP.isD c = true := by
  obtain ⟨x, -, rfl⟩ := h.text
  obtain ⟨c, t, rfl⟩ : ∃ c t, W = c :: t := by
    have := h.w0
    cases W with | nil => exact absurd rfl this | cons c t => exact ⟨c, t, rfl⟩
  have hd := h.wd
  simp only [List.all_cons, Bool.and_eq_true] at hd
  exact ⟨c, t ++ (NumP.dot P ++ x), by simp, hd.1⟩
theorem not_head {l : List UInt8} {z : UInt8} (hz : NumP.isD z = false) (h45 : z ≠ 45) : ∀ d W P less E, ¬ NumP.Is (z :: l) d W P less E := by
  intro d W P less E h
  obtain ⟨c, t, e, hc⟩ := is_head h
  cases d with
  | true => simp [NumP.sgn] at e; exact h45 e.1
  | false =>
    simp [NumP.sgn] at e
    rw [← e.1, hz] at hc; cases hc
/-- the last sign is a digit -/
theorem is_last {l : List UInt8} {d : Bool} {W P : List UInt8} {less : Bool} {E : List UInt8} (h : NumP.Is l d W P less E) : ∃ c, l.getLast? = some c ∧ NumP.isD c = true := by
  obtain ⟨x, hx, rfl⟩ := h.text
  have dl : ∀ L : List UInt8, L ≠ [] → L.all NumP.isD = true → ∃ c, L.getLast? = some c ∧ NumP.isD c = true := fun L h0 hL => by
    refine ⟨L.getLast h0, List.getLast?_eq_some_getLast h0, List.all_eq_true.1 hL _ (List.getLast_mem h0)⟩
  have app : ∀ A B : List UInt8, (∃ c, B.getLast? = some c ∧ NumP.isD c = true) → ∃ c, (A ++ B).getLast? = some c ∧ NumP.isD c = true := fun A B ⟨c, hc, hd⟩ => by
    refine ⟨c, ?_, hd⟩
    rw [List.getLast?_append, hc]; rfl
  apply app
  rcases hx.out with ⟨rfl, -, -⟩ | ⟨c, g, -, -, hE0, hE, rfl⟩
  · rw [List.append_nil]
    unfold NumP.dot
    cases hP : P with
    | nil => simpa using dl W h.w0 h.wd
    | cons p q =>
      have := h.pd
      rw [hP] at this
      apply app
      show ∃ c, (46 :: p :: q).getLast? = some c ∧ _
      exact app [46] (p :: q) (dl _ (by simp) this)
  · apply app; apply app; exact app (c :: g) E (dl E hE0 hE)
theorem not_last {l : List UInt8} {z : UInt8} (hz : NumP.isD z = false) : ∀ d W P less E, ¬ NumP.Is (l ++ [z]) d W P less E := by
  intro d W P less E h
  obtain ⟨c, e, hc⟩ := is_last h
  simp at e
  rw [← e, hz] at hc; cases hc
theorem NumGrammar : rubricatorlaw14_NumGrammar.Pure := by
  intro a0 a1 hsz hw
  rw [← ofL_of a0]
  generalize a0.data.toList = s
  apply Ev.rounds
  have hw' : 0 ≤ a1 ∧ a1 ≤ 255 := by
    have := (Lit.wf_int_iff .u8 a1).1 hw
    exact this
  by_cases hs : (s.length : Int) > 60
  · refine Ev.congr (fun k => ?_) (Ev.now _)
    unfold rubricatorlaw14_NumGrammar.f rubricatorlaw14_awake.f
    simp only [Option.bind_some, if_true, ofL_size]
    rw [if_pos hs]
  · obtain ⟨c, hc⟩ : ∃ c : UInt8, a1 = (c.toNat : Int) := ⟨UInt8.ofNat a1.toNat, by simp; omega⟩
    have hstr : strOfNums [a1] = ofL [c] := by
      subst hc
      simp [strOfNums, ofL]
    have hp := parse_f s (by omega)
    -- which way it goes
    obtain ⟨b, hb, hbf⟩ : ∃ b : Bool, (∀ k, rubricatorlaw14_NumGrammar.f k (ofL s) a1 = rubricatorlaw14_NumGrammar.j0 k (ofL s) (ofL [c]) b) ∧ (b = false → (NumP.parse s).2 = 0 ∧ sigs c = false) := by
      have hun : ∀ k, rubricatorlaw14_NumGrammar.f k (ofL s) a1 = (if (NumP.parse s).2 = 0 then (if a1 ≥ 48 then (if a1 ≤ 57 then (rubricatorlaw14_NumGrammar.j0 k (ofL s) (ofL [c]) true) else (if a1 = 45 then (rubricatorlaw14_NumGrammar.j0 k (ofL s) (ofL [c]) true) else (if a1 = 46 then (rubricatorlaw14_NumGrammar.j0 k (ofL s) (ofL [c]) true) else (if a1 = 101 then (rubricatorlaw14_NumGrammar.j0 k (ofL s) (ofL [c]) true) else (if a1 = 69 then (rubricatorlaw14_NumGrammar.j0 k (ofL s) (ofL [c]) true) else (rubricatorlaw14_NumGrammar.j0 k (ofL s) (ofL [c]) (a1 == 43))))))) else (if a1 = 45 then (rubricatorlaw14_NumGrammar.j0 k (ofL s) (ofL [c]) true) else (if a1 = 46 then (rubricatorlaw14_NumGrammar.j0 k (ofL s) (ofL [c]) true) else (if a1 = 101 then (rubricatorlaw14_NumGrammar.j0 k (ofL s) (ofL [c]) true) else (if a1 = 69 then (rubricatorlaw14_NumGrammar.j0 k (ofL s) (ofL [c]) true) else (rubricatorlaw14_NumGrammar.j0 k (ofL s) (ofL [c]) (a1 == 43))))))) else (rubricatorlaw14_NumGrammar.j0 k (ofL s) (ofL [c]) true)) := fun k => by
        unfold rubricatorlaw14_NumGrammar.f rubricatorlaw14_awake.f
        simp only [Option.bind_some, if_true, ofL_size, hstr]
        rw [if_neg hs, hp]; rfl
      by_cases h0 : (NumP.parse s).2 = 0
      · by_cases h : a1 = 45 ∨ a1 = 46 ∨ a1 = 101 ∨ a1 = 69 ∨ (a1 ≥ 48 ∧ a1 ≤ 57)
        · refine ⟨true, fun k => ?_, fun z => by cases z⟩
          rw [hun k, if_pos h0]
          rcases h with h | h | h | h | ⟨h, h'⟩
          · subst h; rfl
          · subst h; rfl
          · subst h; rfl
          · subst h; rfl
          · rw [if_pos h, if_pos h']
        · simp only [not_or] at h
          obtain ⟨n1, n2, n3, n4, n5⟩ := h
          refine ⟨a1 == 43, fun k => ?_, fun z => ⟨h0, ?_⟩⟩
          · rw [hun k, if_pos h0]
            by_cases h48 : a1 ≥ 48
            · rw [if_pos h48, if_neg (fun z => n5 ⟨h48, z⟩), if_neg n1, if_neg n2, if_neg n3, if_neg n4]
            · rw [if_neg h48, if_neg n1, if_neg n2, if_neg n3, if_neg n4]
          · have n6 : a1 ≠ 43 := by simpa using z
            rw [hc] at n1 n2 n3 n4 n5 n6
            have hd : NumP.isD c = false := by simp only [NumP.isD, decide_eq_false_iff_not]; omega
            have ne : ∀ z : UInt8, (c.toNat : Int) ≠ (z.toNat : Int) → (c == z) = false := fun z h => by
              rw [beq_eq_false_iff_ne]; rintro rfl; exact h rfl
            unfold sigs
            rw [hd, ne 45 n1, ne 46 n2, ne 101 n3, ne 69 n4, ne 43 n6]; rfl
      · exact ⟨true, fun k => by rw [hun k, if_neg h0], fun z => by cases z⟩
    refine Ev.congr hb ?_
    cases b with
    | true => exact Ev.step (f := fun _ => some true) (fun k => by simp only [rubricatorlaw14_NumGrammar.j0, if_true]) (Ev.now _)
    | false =>
      obtain ⟨hok, hsg⟩ := hbf rfl
      have hni : ∀ l : List UInt8, c ∈ l → ∀ d W P less E, ¬ NumP.Is l d W P less E := fun l hl d W P less E h => by
        have := List.all_eq_true.1 (is_sigs h) c hl
        rw [hsg] at this; cases this
      have q1 := bad_of (hni ([c] ++ s) (by simp))
      have q2 := bad_of (hni (s ++ [c]) (by simp))
      have q3 := bad_of (not_head (l := s) (z := 43) (by decide) (by decide))
      have q4 := bad_of (not_last (l := s) (z := 101) (by decide))
      have q5 := bad_of (not_head (l := s) (z := 46) (by decide) (by decide))
      refine Ev.step (f := fun _ => some true) (fun k => ?_) (Ev.now _)
      simp only [rubricatorlaw14_NumGrammar.j0]
      have h43 : (⟨#[43]⟩ : ByteArray) = ofL [43] := rfl
      have h101 : (⟨#[101]⟩ : ByteArray) = ofL [101] := rfl
      have h46 : (⟨#[46]⟩ : ByteArray) = ofL [46] := rfl
      rw [if_neg (by simp), h43, h101, h46]
      simp only [ofL_app, ofL_size]
      rw [if_pos (by simp; omega), parse_f _ (by simp; omega), parse_f _ (by simp; omega), parse_f _ (by simp; omega), parse_f _ (by simp; omega), parse_f _ (by simp; omega)]
      simp only [Option.bind_some]
      rw [if_pos (by first | omega | (simp; omega)), if_pos (by first | omega | (simp; omega)), if_pos (by first | omega | (simp; omega)), q1, q2, show [43] ++ s = 43 :: s from rfl, q3, q4, show [46] ++ s = 46 :: s from rfl, q5]
      rfl
end Go.Proofs.YtbgigckmehgcpaaDoor
