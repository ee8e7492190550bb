/- The text of any number that may be is parsed as it. -/
import Derived.Test.YtbgigckmehgcpaaDoorNumB
import Derived.Test.YtbgigckmehgcpaaDoorPrx12
namespace Go.Proofs.YtbgigckmehgcpaaDoor
open Go.RowKit Go.Proofs.YtbgigckmehgcpaaDoorW.PrintWords Pr
theorem NumBack (d : Bool) (b : ByteArray) (e : Int) : ∃ k, rubricatorlaw14_NumBack.f k d b e = some true := by
  rw [← ofL_of b]
  generalize b.data.toList = D
  apply Ev.rounds
  by_cases hl : (D.length : Int) > 60
  · refine Ev.congr (f := fun k => rubricatorlaw14_NumBack.j0 k true d (ofL D) e) (fun k => ?_) (Ev.step (f := fun _ => some true) (fun k => by simp only [rubricatorlaw14_NumBack.j0, if_true]) (Ev.now _))
    unfold rubricatorlaw14_NumBack.f rubricatorlaw14_awake.f
    simp only [Option.bind_some, if_true, ofL_size]
    rw [if_pos hl]
  · have hr : num_Right.f d (ofL D) e = some (NumP.right (d, D, e)) := right_f d D e (by omega)
    refine Ev.congr (f := fun k => rubricatorlaw14_NumBack.j0 k (!(NumP.right (d, D, e))) d (ofL D) e) (fun k => ?_) ?_
    · unfold rubricatorlaw14_NumBack.f rubricatorlaw14_awake.f
      simp only [Option.bind_some, if_true, ofL_size]
      rw [if_neg hl, hr]; simp only [Option.bind_some]
    · cases hR : NumP.right (d, D, e) with
      | false => exact Ev.step (f := fun _ => some true) (fun k => by simp only [rubricatorlaw14_NumBack.j0]; rfl) (Ev.now _)
      | true =>
        obtain ⟨b1, b2, b3⟩ := right_bd' hR
        have ht := text_f' d D e (by omega) (by omega)
        have htl : (NumP.text (d, D, e)).length ≤ 1000 := by
          have := Lib.itoa_length_le e (by omega) (by omega)
          unfold NumP.text NumP.sgn
          split
          · simp
          · cases d <;> simp <;> split <;> simp <;> omega
        have hp := parse_f (NumP.text (d, D, e)) (by omega)
        rw [parse_text _ hR] at hp
        have hc := compare_ev (d, D, e) (d, D, e) (by simp only; omega) (by simp only; omega)
        rw [cmpP_self] at hc
        refine Ev.step (f := fun k => (num_Compare.f k d (ofL D) e d (ofL D) e).bind fun t => some (t == 0)) (fun k => ?_) (Ev.bind hc (Ev.now _))
        simp only [rubricatorlaw14_NumBack.j0]
        rw [if_neg (by simp), ht]; simp only [Option.bind_some]; rw [hp]; simp only [Option.bind_some, beq_self_eq_true, Bool.and_self, if_true]
end Go.Proofs.YtbgigckmehgcpaaDoor
