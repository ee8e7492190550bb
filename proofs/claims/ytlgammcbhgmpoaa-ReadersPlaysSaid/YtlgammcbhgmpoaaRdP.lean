/- What ReadersPlays wants besides: the methods at no table; the reference's slots are the table's, with what is gone struck. -/
import Derived.Test.YtlgammcbhgmpoaaRdQ
namespace Go.Proofs.Ytlgammcbhgmpoaa
open Go.RowKit
def norm (f : Nat → Sl) : Nat → Sl := fun k => if (f k).is = true then f k else ⟨false, 0, (f k).turn, false⟩
theorem norm_is (f : Nat → Sl) (k : Nat) : (norm f k).is = (f k).is := by
  unfold norm; split <;> simp_all
theorem norm_turn (f : Nat → Sl) (k : Nat) : (norm f k).turn = (f k).turn := by
  unfold norm; split <;> rfl
theorem norm_on (f : Nat → Sl) (k : Nat) (h : (f k).is = true) : norm f k = f k := by
  unfold norm; rw [if_pos h]
theorem norm_zs : norm zs = zs := by funext k; simp [norm, zs]
theorem norm_begun (f : Nat → Sl) (i x : Nat) : norm (begun f i x) = begun (norm f) i x := by
  funext k
  unfold begun
  rw [norm_turn]
  by_cases e : k = i
  · subst e; simp [norm, up]
  · simp [norm, up, e]
theorem norm_ended (f : Nat → Sl) (i : Nat) : norm (ended f i) = up (norm f) i ⟨false, 0, (norm f i).turn, false⟩ := by
  funext k
  rw [norm_turn]
  unfold ended
  by_cases e : k = i
  · subst e; simp [norm, up]
  · simp [norm, up, e]
theorem norm_dead (f : Nat → Sl) (i : Nat) (h : (f i).is = true) : norm (deadened f i) = deadened (norm f) i := by
  funext k
  unfold deadened
  rw [norm_on f i h]
  by_cases e : k = i
  · subst e; simp [norm, up, h]
  · simp [norm, up, e]
theorem norm_clr (f : Nat → Sl) (n : Nat) : norm (clr f n) = clrR (norm f) n := by
  funext k
  unfold clr clrR
  cases h : (f k).is
  · simp [norm, h]
  · by_cases hd : k < n ∧ (f k).dead = true
    · simp [norm, h, hd.1, hd.2]
    · have e : ¬ (k < n ∧ (f k).is = true ∧ (f k).dead = true) := fun q => hd ⟨q.1, q.2.2⟩
      rw [norm_on f k h, if_neg e]
      simp only [norm]
      rw [if_neg e, if_pos h]
theorem norm_clrN (f : Nat → Sl) (n : Nat) : clrN (norm f) n = clrN f n := by
  induction n with
  | zero => rfl
  | succ n ih =>
    rw [clrN, clrN, ih]
    cases h : (f n).is
    · simp [norm, h]
    · rw [norm_on f n h, h]
theorem norm_live (f : Nat → Sl) (n : Nat) : live (norm f) n = live f n := by
  induction n with
  | zero => rfl
  | succ n ih => rw [live, live, ih, norm_is]
theorem norm_oldest (f : Nat → Sl) (x n : Nat) : oldest (norm f) x n = oldest f x n := by
  induction n with
  | zero => rfl
  | succ n ih =>
    rw [oldest, oldest, ih]
    cases h : (f n).is
    · simp [norm, h]
    · rw [norm_on f n h, h]
theorem norm_gd (f : Nat → Sl) (n : Nat) (s t : Int) : Gd (norm f) n s t ↔ Gd f n s t := by
  unfold Gd
  constructor
  · rintro ⟨i, h1, h2, h3, h4⟩
    exact ⟨i, h1, h2, by rw [← norm_is]; exact h3, by rw [← norm_turn]; exact h4⟩
  · rintro ⟨i, h1, h2, h3, h4⟩
    exact ⟨i, h1, h2, by rw [norm_is]; exact h3, by rw [norm_turn]; exact h4⟩
theorem first_free (f : Nat → Sl) (n : Nat) : ∃ i, i ≤ n ∧ (∀ j, j < i → (f j).is = true) ∧ (i < n → (f i).is = false) := by
  induction n with
  | zero => exact ⟨0, Nat.le_refl _, fun j h => absurd h (Nat.not_lt_zero _), fun h => absurd h (Nat.not_lt_zero _)⟩
  | succ n ih =>
    obtain ⟨i, h1, h2, h3⟩ := ih
    by_cases e : i < n
    · exact ⟨i, by omega, h2, fun _ => h3 e⟩
    · obtain rfl : i = n := by omega
      cases h : (f i).is
      · exact ⟨i, by omega, h2, fun _ => h⟩
      · refine ⟨i + 1, Nat.le_refl _, fun j hj => ?_, fun h => absurd h (Nat.lt_irrefl _)⟩
        by_cases e2 : j = i
        · subst e2; exact h
        · exact h2 j (by omega)
set_option maxHeartbeats 400000 in
theorem good_nil (s t : Int) (w : World) : Calls Try.prog 39 #[.pointer none, .agg #[.int .i64 s, .int .u64 t]] w fun e w' => e = .returned (.pointer none) ∧ Below w.heap.size w w' := by
  go_enter Try.func39, Try.ntmps39
  go_wp2
  go_quiet (fail)
  go_wp2
  go_ret
  exact ⟨rfl, dN ((Below.refl _ _).alloc (Nat.le_refl _) _) _⟩
theorem txn_nil (s t : Int) (w : World) : Calls Try.prog 27 #[.pointer none, .agg #[.int .i64 s, .int .u64 t]] w fun e w' => e = .returned (.tuple #[.int .u64 0, .int .i64 25]) ∧ Below w.heap.size w w' := by
  go_enter Try.func27, Try.ntmps27
  go_wp2_with fail
  refine (good_nil s t _).mono ?_
  rintro e w1 ⟨rfl, hb⟩
  have HB := Lib.hid (((Below.refl _ _).alloc (Nat.le_refl _) _).trans (hb.mono (by simp)) : Below w.heap.size w w1)
  clear hb
  go_simp
  go_wp2_with fail
  go_ret2
  exact ⟨rfl, HB.out⟩
theorem end_nil (s t : Int) (w : World) : Calls Try.prog 21 #[.pointer none, .agg #[.int .i64 s, .int .u64 t]] w fun e w' => e = .returned (.int .i64 25) ∧ Below w.heap.size w w' := by
  go_enter Try.func21, Try.ntmps21
  go_wp2_with fail
  refine (good_nil s t _).mono ?_
  rintro e w1 ⟨rfl, hb⟩
  have HB := Lib.hid (((Below.refl _ _).alloc (Nat.le_refl _) _).trans (hb.mono (by simp)) : Below w.heap.size w w1)
  clear hb
  go_simp
  go_wp2_with fail
  go_ret
  exact ⟨rfl, HB.out⟩
theorem dead_nil (s : Int) (w : World) : Calls Try.prog 23 #[.pointer none, .int .i64 s] w fun e w' => e = .returned (.bool false) ∧ Below w.heap.size w w' := by
  go_enter Try.func23, Try.ntmps23
  go_wp2
  go_ret
  exact ⟨rfl, Below.refl _ _⟩
end Go.Proofs.Ytlgammcbhgmpoaa
