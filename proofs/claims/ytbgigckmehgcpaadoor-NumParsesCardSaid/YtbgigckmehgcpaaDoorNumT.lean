/- A number's own text: the code's, the reference's, the lists'. -/
import Derived.Test.YtbgigckmehgcpaaDoorNumR
import Derived.Test.YtbgigckmehgcpaaDoorPrx7
import Derived.Test.YtbgigckmehgcpaaDoorPrx8
import Derived.Lib.ItoaLen
namespace Go.Proofs.YtbgigckmehgcpaaDoor
open Go.RowKit Go.Proofs.YtbgigckmehgcpaaDoorW.PrintWords Pr
def NumP.text (n : NumP.NumV) : List UInt8 := if n.2.1 = [] then [48] else NumP.sgn n.1 ++ n.2.1 ++ (if n.2.2 = 0 then [] else 101 :: Lib.itoa n.2.2)
theorem itoa_f (e : Int) (h : -1000000 ≤ e ∧ e ≤ 1000000) : strconv_Itoa_29.f e = some (ofL (Lib.itoa e)) := by
  unfold strconv_Itoa_29.f; rw [if_pos (by omega)]; rfl
theorem itoa_len (e : Int) (h : -1000000 ≤ e ∧ e ≤ 1000000) : (Lib.itoa e).length ≤ 21 := Lib.itoa_length_le e (by omega) (by omega)
theorem text_f (d : Bool) (D : List UInt8) (e : Int) (hD : D.length ≤ 1000000) (he : -1000000 ≤ e ∧ e ≤ 1000000) : num_Text.f d (ofL D) e = some (ofL (NumP.text (d, D, e))) := by
  unfold num_Text.f NumP.text
  have hl := itoa_len e he
  have h45 : (⟨#[45]⟩ : ByteArray) = ofL [45] := rfl
  have h101 : (⟨#[101]⟩ : ByteArray) = ofL [101] := rfl
  by_cases h0 : D = []
  · subst h0; rw [if_pos (ofL_toList []), if_pos rfl]; rfl
  · rw [if_neg (by rw [ofL_toList]; exact h0), if_neg h0]
    simp only [h45, h101, ofL_app, itoa_f e he, Option.bind_some, ofL_size]
    cases d with
    | true =>
      rw [if_pos rfl, if_pos (by omega)]
      by_cases he0 : e = 0
      · rw [if_pos he0, if_pos he0]; simp [NumP.sgn]
      · rw [if_neg he0, if_neg he0, if_pos (by omega), if_pos (by simp; omega)]; simp [NumP.sgn]
    | false =>
      rw [if_neg (by simp)]
      by_cases he0 : e = 0
      · rw [if_pos he0, if_pos he0]; simp [NumP.sgn]
      · rw [if_neg he0, if_neg he0, if_pos (by omega), if_pos (by simp; omega)]; simp [NumP.sgn]
theorem digit_piece : ∀ i : Fin 10, ((⟨#[48, 49, 50, 51, 52, 53, 54, 55, 56, 57]⟩ : ByteArray).extract i.val (i.val + 1)) = ofL [UInt8.ofNat (48 + i.val)] := by decide +kernel
theorem small_step (k u : Nat) (acc : List UInt8) (hu : u ≤ 1000000000000) (ha : acc.length ≤ 1000000) :
    rubricatorref14_small.l0 (k + 1) (u : Int) (ofL acc) = if u / 10 = 0 then some (ofL (UInt8.ofNat (48 + u % 10) :: acc)) else rubricatorref14_small.l0 k ((u / 10 : Nat) : Int) (ofL (UInt8.ofNat (48 + u % 10) :: acc)) := by
  have hm : Int.tmod (u : Int) 10 = ((u % 10 : Nat) : Int) := by rw [Int.tmod_eq_emod_of_nonneg (by omega)]; omega
  have hd : Int.tdiv (u : Int) 10 = ((u / 10 : Nat) : Int) := by rw [Int.tdiv_eq_ediv_of_nonneg (by omega)]; omega
  have hw : wrap64 (((u % 10 : Nat) : Int) + 1) = ((u % 10 + 1 : Nat) : Int) := by unfold wrap64; omega
  have hw2 : wrap64 ((u / 10 : Nat) : Int) = ((u / 10 : Nat) : Int) := by unfold wrap64; omega
  have hp : ((⟨#[48, 49, 50, 51, 52, 53, 54, 55, 56, 57]⟩ : ByteArray).extract (((u % 10 : Nat) : Int)).toNat (((u % 10 + 1 : Nat) : Int)).toNat) = ofL [UInt8.ofNat (48 + u % 10)] := by
    have := digit_piece ⟨u % 10, by omega⟩
    rw [show (((u % 10 : Nat) : Int)).toNat = u % 10 by omega, show (((u % 10 + 1 : Nat) : Int)).toNat = u % 10 + 1 by omega]
    exact this
  simp only [rubricatorref14_small.l0]
  rw [hm, hd, hw, hw2, hp, if_pos (by omega), if_pos (by omega), if_pos (by omega), if_pos (by rw [ofL_size, ofL_size]; simp; omega), ofL_app]
  by_cases h : u / 10 = 0
  · rw [if_pos (by omega), if_pos h]; rfl
  · rw [if_neg (by omega), if_neg h]; rfl
theorem small_l0 (u : Nat) : ∀ (acc : List UInt8), u ≤ 1000000000000 → acc.length + Lib.nDigits u ≤ 1000000 →
    Ev (fun k => rubricatorref14_small.l0 k (u : Int) (ofL acc)) (ofL (Lib.decDigits u ++ acc)) := by
  induction u using Nat.strongRecOn with
  | _ u ih =>
    intro acc hu ha
    have hn := Lib.nDigits_pos u
    by_cases h : u < 10
    · refine Ev.step (f := fun _ => some (ofL (Lib.decDigits u ++ acc))) (fun k => ?_) (Ev.now _)
      rw [small_step k u acc hu (by omega), if_pos (by omega), Lib.decDigits_one h, Nat.mod_eq_of_lt h]; rfl
    · have hnd := Lib.nDigits_big h
      have hdd : Lib.decDigits u = Lib.decDigits (u / 10) ++ [UInt8.ofNat (48 + u % 10)] := by rw [Lib.decDigits, dif_neg h]
      rw [hdd, List.append_assoc]
      refine Ev.step (fun k => ?_) (ih (u / 10) (by omega) (UInt8.ofNat (48 + u % 10) :: acc) (by omega) (by rw [List.length_cons]; omega))
      rw [small_step k u acc hu (by omega), if_neg (by omega)]
theorem small_ev (e : Int) (he : -1000000 ≤ e ∧ e ≤ 1000000) : Ev (fun k => rubricatorref14_small.f k e) (ofL (Lib.itoa e)) := by
  have hnd : ∀ u : Nat, u ≤ 1000000 → Lib.nDigits u ≤ 20 := fun u hu => Lib.nDigits_le20 u (by omega)
  have pos : ∀ u : Nat, u ≤ 1000000 → Ev (fun k => rubricatorref14_small.f k (u : Int)) (ofL (Lib.decDigits u)) := fun u hu => by
    have := small_l0 u [] (by omega) (by have := hnd u hu; simp; omega)
    rw [List.append_nil] at this
    refine Ev.step (fun k => ?_) this
    simp only [rubricatorref14_small.f]
    rw [if_neg (by omega)]; rfl
  unfold Lib.itoa
  by_cases h : e < 0
  · rw [if_pos h]
    have hn := pos e.natAbs (by omega)
    refine Ev.step (f := fun k => (rubricatorref14_small.f k ((e.natAbs : Nat) : Int)).bind fun t => if 1 + t.size ≤ 9223372036854775807 then some (⟨#[45]⟩ ++ t) else none) (fun k => ?_) (Ev.bind hn ?_)
    · simp only [rubricatorref14_small.f]
      rw [if_pos h, show wrap64 (-e) = ((e.natAbs : Nat) : Int) by unfold wrap64; omega]
    · refine Ev.congr (fun k => ?_) (Ev.now _)
      have h2 := Lib.decDigits_length e.natAbs
      have h3 := hnd e.natAbs (by omega)
      rw [ofL_size, if_pos (by omega)]
      exact congrArg some (ofL_app [45] _)
  · rw [if_neg h]
    have := pos e.toNat (by omega)
    rw [show ((e.toNat : Nat) : Int) = e by omega] at this
    exact this
theorem rtext_ev (d : Bool) (D : List UInt8) (e : Int) (hD : D.length ≤ 1000000) (he : -1000000 ≤ e ∧ e ≤ 1000000) : Ev (fun k => rubricatorref14_Text.f k d (ofL D) e) (ofL (NumP.text (d, D, e))) := by
  have hl := itoa_len e he
  have h45 : (⟨#[45]⟩ : ByteArray) = ofL [45] := rfl
  have h101 : (⟨#[101]⟩ : ByteArray) = ofL [101] := rfl
  have hs := small_ev e he
  unfold NumP.text
  by_cases h0 : D = []
  · subst h0
    refine Ev.congr (fun k => ?_) (Ev.now _)
    unfold rubricatorref14_Text.f
    rw [if_pos (ofL_toList []), if_pos rfl]; rfl
  · rw [if_neg h0]
    by_cases he0 : e = 0
    · refine Ev.congr (fun k => ?_) (Ev.now _)
      unfold rubricatorref14_Text.f
      rw [if_neg (by rw [ofL_toList]; exact h0)]
      simp only [h45, h101, ofL_app, ofL_size, if_pos he0]
      cases d with
      | true => rw [if_pos rfl, if_pos (by omega)]; simp [NumP.sgn]
      | false => rw [if_neg (by simp)]; simp [NumP.sgn]
    · rw [if_neg he0]
      cases d with
      | true =>
        refine Ev.congr (f := fun k => (rubricatorref14_small.f k e).bind fun t => if 1 + t.size ≤ 9223372036854775807 then (if (ofL (45 :: D)).size + (ofL [101] ++ t).size ≤ 9223372036854775807 then some (ofL (45 :: D) ++ (ofL [101] ++ t)) else none) else none) (fun k => ?_) (Ev.bind hs (Ev.congr (fun k => ?_) (Ev.now _)))
        · unfold rubricatorref14_Text.f
          rw [if_neg (by rw [ofL_toList]; exact h0), if_pos rfl, if_pos (by rw [ofL_size]; omega), if_neg he0, h45, h101, ofL_app]; rfl
        · simp only [ofL_app, ofL_size]
          rw [if_pos (by omega), if_pos (by simp; omega)]; simp [NumP.sgn]
      | false =>
        refine Ev.congr (f := fun k => (rubricatorref14_small.f k e).bind fun t => if 1 + t.size ≤ 9223372036854775807 then (if (ofL D).size + (ofL [101] ++ t).size ≤ 9223372036854775807 then some (ofL D ++ (ofL [101] ++ t)) else none) else none) (fun k => ?_) (Ev.bind hs (Ev.congr (fun k => ?_) (Ev.now _)))
        · unfold rubricatorref14_Text.f
          rw [if_neg (by rw [ofL_toList]; exact h0), if_neg (by simp), if_neg he0, h101]
        · simp only [ofL_app, ofL_size]
          rw [if_pos (by omega), if_pos (by simp; omega)]; simp [NumP.sgn]
theorem right_bd {d : Bool} {D : List UInt8} {e : Int} (h : NumP.right (d, D, e) = true) : D.length ≤ 40 ∧ -999 ≤ e ∧ e ≤ 999 := by
  unfold NumP.right at h
  by_cases h0 : D = []
  · subst h0
    rw [if_pos rfl] at h
    simp only [Bool.and_eq_true, beq_iff_eq] at h
    exact ⟨by decide, by omega, by omega⟩
  · rw [if_neg h0] at h
    simp only [Bool.and_eq_true, decide_eq_true_eq] at h
    exact ⟨h.1.1.2, h.1.2, h.2⟩
theorem NumParses : rubricatorlaw14_NumParses.Pure := by
  intro a0 hsz
  rw [← ofL_of a0]
  have hl : a0.data.toList.length = a0.size := (by show a0.data.toList.length = a0.data.size; exact Array.length_toList)
  generalize a0.data.toList = s at *
  apply Ev.rounds
  by_cases hs : (s.length : Int) > 300
  · refine Ev.congr (fun k => ?_) (Ev.now _)
    unfold rubricatorlaw14_NumParses.f rubricatorlaw14_awake.f
    simp only [Option.bind_some, if_true, ofL_size]
    rw [if_pos hs]
  · have hp : num_Parse.f (ofL s) = some ((NumP.parse s).1.1, ofL (NumP.parse s).1.2.1, (NumP.parse s).1.2.2, (NumP.parse s).2) := by
      unfold num_Parse.f; rw [if_pos (by rw [ofL_size]; omega)]; rfl
    have hr := parse_ev s (by omega)
    have hR : (NumP.parse s).2 = 0 → NumP.right (NumP.parse s).1 = true := by
      unfold NumP.parse
      split
      · split
        · rename_i h; exact fun _ => h
        · intro h; cases h
      · intro h; cases h
    generalize NumP.parse s = r at *
    obtain ⟨⟨d, D, e⟩, c⟩ := r
    simp only at hp hr hR
    refine Ev.congr (f := fun k => (rubricatorref14_Parse.f k (ofL s)).bind fun bt => if c = bt.2.2.2 then rubricatorlaw14_NumParses.j0 k c (!(d == bt.1) || (!((ofL D).toList == bt.2.1.toList) || (!(e == bt.2.2.1)))) d (ofL D) e bt.1 bt.2.1 bt.2.2.1 else rubricatorlaw14_NumParses.j0 k c true d (ofL D) e bt.1 bt.2.1 bt.2.2.1) (fun k => ?_) (Ev.bind hr ?_)
    · unfold rubricatorlaw14_NumParses.f rubricatorlaw14_awake.f rubricatorlaw14_of.f
      simp only [Option.bind_some, if_true, ofL_size]
      rw [if_neg hs, hp]
      simp only [Option.bind_some]
    · simp only [if_true, beq_self_eq_true, Bool.not_true, Bool.or_self]
      by_cases hc : c = 0
      · obtain ⟨b1, b2, b3⟩ := right_bd (hR hc)
        refine Ev.step (f := fun k => (rubricatorref14_Text.f k d (ofL D) e).bind fun t => if (ofL (NumP.text (d, D, e))).toList = t.toList then some true else some false) (fun k => ?_) (Ev.bind (rtext_ev d D e (by omega) (by omega)) ?_)
        · simp only [rubricatorlaw14_NumParses.j0]
          rw [if_neg (by simp), if_pos hc, text_f d D e (by omega) (by omega)]
          simp only [Option.bind_some]
          have hrf : Pr.num_Right.f d (ofL D) e = some true := by rw [← hR hc]; exact right_f d D e (by omega)
          rw [hrf]; rfl
        · rw [if_pos rfl]; exact Ev.now _
      · refine Ev.step (f := fun _ => some true) (fun k => ?_) (Ev.now _)
        simp only [rubricatorlaw14_NumParses.j0]
        rw [if_neg (by simp), if_neg hc]
end Go.Proofs.YtbgigckmehgcpaaDoor
