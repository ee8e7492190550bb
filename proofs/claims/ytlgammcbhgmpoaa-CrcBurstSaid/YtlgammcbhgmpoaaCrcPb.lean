/- Plain laws: the bits of bytes, one bit turned, a burst of them. No program in sight. -/
import Derived.Test.YtlgammcbhgmpoaaCrcPm
namespace Go.Proofs.Ytlgammcbhgmpoaa.Crcp

theorem bitsN_at (n : Nat) : ∀ (c i : Nat), i < n → (bitsN n c)[i]? = some (c.testBit i) := by
  induction n with
  | zero => intro c i h; omega
  | succ n ih =>
    intro c i h
    cases i with
    | zero => simp [bitsN, Nat.testBit_zero]; by_cases e : c % 2 = 1 <;> simp [e]
    | succ i => rw [bitsN, List.getElem?_cons_succ, ih (c / 2) i (by omega), Nat.testBit_succ]
theorem bits8_len (l : List Nat) : (bits8 l).length = 8 * l.length := by
  induction l with
  | nil => rfl
  | cons c l ih =>
    have : bits8 (c :: l) = bitsN 8 c ++ bits8 l := by simp [bits8]
    rw [this, List.length_append, bitsN_len, ih, List.length_cons]; omega
theorem bits8_at (l : List Nat) : ∀ p, p < 8 * l.length → (bits8 l)[p]? = some ((l.getD (p / 8) 0).testBit (p % 8)) := by
  induction l with
  | nil => intro p h; simp at h
  | cons c l ih =>
    intro p h
    have e : bits8 (c :: l) = bitsN 8 c ++ bits8 l := by simp [bits8]
    rw [e]
    by_cases hp : p < 8
    · rw [List.getElem?_append_left (by rw [bitsN_len]; exact hp), bitsN_at 8 c p hp]
      rw [show p / 8 = 0 by omega, show p % 8 = p by omega]; simp
    · rw [List.getElem?_append_right (by rw [bitsN_len]; omega), bitsN_len, ih (p - 8) (by rw [List.length_cons] at h; omega)]
      rw [show p / 8 = (p - 8) / 8 + 1 by omega, show p % 8 = (p - 8) % 8 by omega]; simp
def flip (l : List Nat) (p : Nat) : List Nat := l.set (p / 8) (l.getD (p / 8) 0 ^^^ 2 ^ (p % 8))
def flips (l : List Nat) (k u : Nat) : Nat → List Nat
  | 0 => l
  | i + 1 => if u.testBit i = true then flip (flips l k u i) (k + i) else flips l k u i
theorem flip_len (l : List Nat) (p : Nat) : (flip l p).length = l.length := by simp [flip]
theorem flips_len (l : List Nat) (k u i : Nat) : (flips l k u i).length = l.length := by
  induction i with
  | zero => rfl
  | succ i ih => rw [flips]; split
                 · rw [flip_len, ih]
                 · exact ih
theorem flip_at (l : List Nat) (p q r : Nat) (hp : p < 8 * l.length) (hr : r < 8) :
    ((flip l p).getD q 0).testBit r = ((l.getD q 0).testBit r ^^ decide (8 * q + r = p)) := by
  unfold flip
  rw [List.getD_eq_getElem?_getD, List.getElem?_set]
  by_cases hq : p / 8 = q
  · rw [if_pos hq, if_pos (by omega)]
    simp only [Option.getD_some]
    rw [Nat.testBit_xor, Nat.testBit_two_pow, ← hq]
    congr 1
    by_cases e : p % 8 = r
    · have : 8 * (p / 8) + r = p := by omega
      simp [e, this]
    · have : ¬ 8 * (p / 8) + r = p := by omega
      simp [e, this]
  · rw [if_neg hq, ← List.getD_eq_getElem?_getD]
    have : ¬ 8 * q + r = p := by omega
    simp [this]
theorem flips_at (l : List Nat) (k u q r : Nat) (hr : r < 8) : ∀ i, k + i ≤ 8 * l.length →
    ((flips l k u i).getD q 0).testBit r = ((l.getD q 0).testBit r ^^ (decide (k ≤ 8 * q + r) && decide (8 * q + r < k + i) && u.testBit (8 * q + r - k))) := by
  intro i
  induction i with
  | zero =>
    intro _
    have : (decide (k ≤ 8 * q + r) && decide (8 * q + r < k + 0)) = false := by simp
    rw [flips, this]; simp
  | succ i ih =>
    intro h
    have ih := ih (by omega)
    rw [flips]
    by_cases hu : u.testBit i = true
    · rw [if_pos hu, flip_at _ _ _ _ (by rw [flips_len]; omega) hr, ih]
      by_cases e : 8 * q + r = k + i
      · rw [e]
        simp [hu]
      · have h1 : decide (8 * q + r < k + (i + 1)) = decide (8 * q + r < k + i) := by
          by_cases g : 8 * q + r < k + i <;> simp [g] <;> omega
        rw [h1]; simp [e]
    · rw [if_neg hu, ih]
      by_cases e : 8 * q + r = k + i
      · rw [e]
        have : u.testBit i = false := by simpa using hu
        simp [this]
      · have h1 : decide (8 * q + r < k + (i + 1)) = decide (8 * q + r < k + i) := by
          by_cases g : 8 * q + r < k + i <;> simp [g] <;> omega
        rw [h1]
theorem flips_bits (l : List Nat) (k u : Nat) (h : k + 32 ≤ 8 * l.length) :
    bits8 (flips l k u 32) = xorB (bits8 l) (List.replicate k false ++ (bitsN 32 u ++ List.replicate (8 * l.length - 32 - k) false)) := by
  have hl : (List.replicate k false ++ (bitsN 32 u ++ List.replicate (8 * l.length - 32 - k) false)).length = 8 * l.length := by
    simp [bitsN_len]; omega
  apply List.ext_getElem?
  intro p
  by_cases hp : p < 8 * l.length
  · rw [bits8_at _ p (by rw [flips_len]; exact hp), flips_at l k u _ _ (Nat.mod_lt _ (by omega)) 32 h]
    rw [show 8 * (p / 8) + p % 8 = p by omega]
    unfold xorB
    rw [List.getElem?_zipWith, bits8_at l p hp]
    have hx : (List.replicate k false ++ (bitsN 32 u ++ List.replicate (8 * l.length - 32 - k) false))[p]? = some (decide (k ≤ p) && decide (p < k + 32) && u.testBit (p - k)) := by
      by_cases h1 : p < k
      · rw [List.getElem?_append_left (by simpa using h1), List.getElem?_replicate, if_pos h1]
        simp; omega
      · rw [List.getElem?_append_right (by simp; omega)]
        simp only [List.length_replicate]
        by_cases h2 : p - k < 32
        · rw [List.getElem?_append_left (by rw [bitsN_len]; exact h2), bitsN_at 32 u _ h2]
          have h3 : k ≤ p := by omega
          have h4 : p < k + 32 := by omega
          simp [h3, h4]
        · rw [List.getElem?_append_right (by rw [bitsN_len]; omega), bitsN_len, List.getElem?_replicate, if_pos (by omega)]
          have h4 : ¬ p < k + 32 := by omega
          simp [h4]
    rw [hx]
  · rw [List.getElem?_eq_none (by rw [bits8_len, flips_len]; omega), List.getElem?_eq_none]
    unfold xorB
    rw [List.length_zipWith, bits8_len, hl]; omega
theorem flip_256 (l : List Nat) (p : Nat) (h : ∀ x ∈ l, x < 256) : ∀ x ∈ flip l p, x < 256 := by
  intro x hx
  rcases List.mem_or_eq_of_mem_set hx with h1 | h1
  · exact h x h1
  · rw [h1]
    refine Nat.xor_lt_two_pow (n := 8) ?_ (Nat.pow_lt_pow_right (by omega) (Nat.mod_lt _ (by omega)))
    rw [List.getD_eq_getElem?_getD]
    rcases Nat.lt_or_ge (p / 8) l.length with g | g
    · rw [List.getElem?_eq_getElem g]; exact h _ (List.getElem_mem _)
    · rw [List.getElem?_eq_none g]; simp
theorem flips_256 (l : List Nat) (k u i : Nat) (h : ∀ x ∈ l, x < 256) : ∀ x ∈ flips l k u i, x < 256 := by
  induction i with
  | zero => exact h
  | succ i ih => rw [flips]; split
                 · exact flip_256 _ _ ih
                 · exact ih
theorem burst_run (l : List Nat) (k u : Nat) (hu : u < 4294967296) (h : k + 32 ≤ 8 * l.length) (h2 : ∀ x ∈ l, x < 256) (s : BitVec 32) :
    run (flips l k u 32) s = run l s ↔ u = 0 := by
  rw [run_bits _ _ (flips_256 l k u 32 h2), run_bits _ _ h2, flips_bits l k u h]
  have e := bitrun_xor (bits8 l) (List.replicate k false ++ (bitsN 32 u ++ List.replicate (8 * l.length - 32 - k) false)) (by simp [bits8_len, bitsN_len]; omega) s 0#32
  rw [BitVec.xor_zero] at e
  rw [e, ← burst_bits k (8 * l.length - 32 - k) u hu]
  generalize bitrun (List.replicate k false ++ (bitsN 32 u ++ List.replicate (8 * l.length - 32 - k) false)) 0#32 = d
  generalize bitrun (bits8 l) s = x
  constructor
  · intro q
    have : x ^^^ (x ^^^ d) = x ^^^ x := by rw [q]
    rw [← BitVec.xor_assoc, BitVec.xor_self, BitVec.zero_xor] at this
    exact this
  · intro q; rw [q]; simp
end Go.Proofs.Ytlgammcbhgmpoaa.Crcp
