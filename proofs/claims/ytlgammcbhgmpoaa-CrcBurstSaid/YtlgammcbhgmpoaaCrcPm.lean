/- More plain laws of the sum of bytes: bits in a row; the sum behind its bytes; a nought more; a burst. No program in sight. -/
import Derived.Test.YtlgammcbhgmpoaaCrcPl
namespace Go.Proofs.Ytlgammcbhgmpoaa.Crcp

def one (b : Bool) : BitVec 32 := if b then 1#32 else 0#32
def bitrun (bs : List Bool) (s : BitVec 32) : BitVec 32 := bs.foldl (fun s b => step (s ^^^ one b)) s
def bitsN : Nat → Nat → List Bool
  | 0, _ => []
  | n + 1, c => (c % 2 == 1) :: bitsN n (c / 2)
theorem bitsN_len (n : Nat) : ∀ c, (bitsN n c).length = n := by
  induction n with
  | zero => intro c; rfl
  | succ n ih => intro c; simp [bitsN, ih]
theorem bitrun_cons (b : Bool) (bs : List Bool) (s : BitVec 32) : bitrun (b :: bs) s = bitrun bs (step (s ^^^ one b)) := rfl
theorem bitrun_app (a b : List Bool) (s : BitVec 32) : bitrun (a ++ b) s = bitrun b (bitrun a s) := by simp [bitrun]
theorem step_split (s : BitVec 32) (c : Nat) (hc : c < 4294967296) : step (s ^^^ BitVec.ofNat 32 c) = step (s ^^^ one (c % 2 == 1)) ^^^ BitVec.ofNat 32 (c / 2) := by
  have e : BitVec.ofNat 32 c = one (c % 2 == 1) ^^^ BitVec.ofNat 32 (2 * (c / 2)) := by
    unfold one
    apply BitVec.eq_of_getLsbD_eq
    intro i hi
    rw [BitVec.getLsbD_xor, BitVec.getLsbD_ofNat, BitVec.getLsbD_ofNat]
    cases i with
    | zero =>
      by_cases h : c % 2 = 1
      · simp [h, Nat.testBit_zero]
      · simp [h, Nat.testBit_zero]
    | succ i =>
      have h1 : (2 * (c / 2)).testBit (i + 1) = c.testBit (i + 1) := by
        rw [Nat.testBit_succ, Nat.testBit_succ]; congr 1; omega
      rw [h1]
      by_cases h : c % 2 = 1
      · have : (1#32).getLsbD (i + 1) = false := by
          rw [BitVec.getLsbD_ofNat, Nat.testBit_succ]; simp
        simp [h, this]
      · simp [h]
  have l : step (BitVec.ofNat 32 (2 * (c / 2))) = BitVec.ofNat 32 (c / 2) := by
    rw [step_low]
    · apply BitVec.eq_of_toNat_eq
      rw [BitVec.toNat_ushiftRight, Nat.shiftRight_eq_div_pow, BitVec.toNat_ofNat, BitVec.toNat_ofNat, Nat.mod_eq_of_lt (by omega), Nat.mod_eq_of_lt (by omega)]
      omega
    · rw [BitVec.getLsbD_ofNat, Nat.testBit_zero]; simp
  rw [e, ← BitVec.xor_assoc, step_xor, l]
theorem bitrun_bitsN (n : Nat) : ∀ (c : Nat) (s : BitVec 32), c < 2 ^ n → c < 4294967296 → bitrun (bitsN n c) s = steps n (s ^^^ BitVec.ofNat 32 c) := by
  induction n with
  | zero => intro c s h _; have : c = 0 := by simpa using h
            subst this; simp [bitsN, bitrun, steps]
  | succ n ih =>
    intro c s h h2
    rw [bitsN, bitrun_cons, ih (c / 2) _ (by rw [Nat.pow_succ] at h; omega) (by omega), ← step_split s c h2]
    rfl
theorem byte_bits (s : BitVec 32) (c : Nat) (h : c < 256) : byte s c = bitrun (bitsN 8 c) s := by
  rw [bitrun_bitsN 8 c s (by omega) (by omega)]; rfl
def bits8 (l : List Nat) : List Bool := l.flatMap (bitsN 8)
theorem run_bits (l : List Nat) : ∀ s, (∀ x ∈ l, x < 256) → run l s = bitrun (bits8 l) s := by
  induction l with
  | nil => intro s _; rfl
  | cons c l ih =>
    intro s h
    rw [run_cons, ih _ (fun x hx => h x (List.mem_cons_of_mem _ hx)), byte_bits s c (h c (List.mem_cons_self ..))]
    simp [bits8, bitrun_app]
theorem bitsN_app (m n : Nat) : ∀ c, bitsN (m + n) c = bitsN m c ++ bitsN n (c / 2 ^ m) := by
  induction m with
  | zero => intro c; simp [bitsN]
  | succ m ih =>
    intro c
    rw [show m + 1 + n = (m + n) + 1 by omega, bitsN, bitsN, ih, Nat.div_div_eq_div_mul, show 2 * 2 ^ m = 2 ^ (m + 1) by rw [Nat.pow_succ]; omega]; rfl
theorem bitsN_mod (n : Nat) : ∀ c, bitsN n (c % 2 ^ n) = bitsN n c := by
  induction n with
  | zero => intro c; rfl
  | succ n ih =>
    intro c
    rw [bitsN, bitsN, ← ih (c / 2)]
    have h1 : c % 2 ^ (n + 1) % 2 = c % 2 := by
      rw [Nat.pow_succ, Nat.mul_comm]; exact Nat.mod_mul_right_mod c 2 (2 ^ n)
    have h2 : c % 2 ^ (n + 1) / 2 = c / 2 % 2 ^ n := by
      rw [Nat.pow_succ, Nat.mul_comm, Nat.mod_mul_right_div_self]
    rw [h1, h2]
/-- four bytes, the lowest first -/
theorem bits_le (x : Nat) : bits8 [x % 256, x / 256 % 256, x / 65536 % 256, x / 16777216 % 256] = bitsN 32 x := by
  have e : bitsN 32 x = bitsN 8 x ++ (bitsN 8 (x / 256) ++ (bitsN 8 (x / 65536) ++ bitsN 8 (x / 16777216))) := by
    rw [show 32 = 8 + (8 + (8 + 8)) from rfl, bitsN_app, bitsN_app, bitsN_app, Nat.div_div_eq_div_mul, Nat.div_div_eq_div_mul]
  rw [e]
  have m : ∀ c, bitsN 8 (c % 256) = bitsN 8 c := fun c => bitsN_mod 8 c
  simp [bits8, m]
theorem ends (b : List Nat) (_h : ∀ x ∈ b, x < 256) (x : Nat) (hx : x = (~~~ run b (BitVec.allOnes 32)).toNat) :
    run (b ++ [x % 256, x / 256 % 256, x / 65536 % 256, x / 16777216 % 256]) (BitVec.allOnes 32) = steps 32 (BitVec.allOnes 32) := by
  rw [run_app]
  generalize run b (BitVec.allOnes 32) = s at *
  have hlt : x < 4294967296 := by rw [hx]; exact (~~~ s).isLt
  rw [run_bits _ _ (by intro y hy; simp at hy; omega), bits_le, bitrun_bitsN 32 x s (by omega) hlt]
  congr 1
  have e : BitVec.ofNat 32 x = ~~~ s := by rw [hx]; exact BitVec.eq_of_toNat_eq (by simp only [BitVec.toNat_ofNat]; exact Nat.mod_eq_of_lt (~~~ s).isLt)
  rw [e]
  apply BitVec.eq_of_getLsbD_eq
  intro i hi
  rw [BitVec.getLsbD_xor, BitVec.getLsbD_not, BitVec.getLsbD_allOnes]
  simp [hi]
/-- linear, and nothing at each single bit: nothing -/
theorem lin_zero (f : BitVec 32 → BitVec 32) (hf : ∀ x y, f (x ^^^ y) = f x ^^^ f y) (hb : ∀ i : Fin 32, f (BitVec.twoPow 32 i.val) = 0#32) : ∀ x, f x = 0#32 := by
  have h0 : f 0#32 = 0#32 := by have := hf 0#32 0#32; simpa using this
  have key : ∀ n, n ≤ 32 → ∀ x : BitVec 32, (∀ i, n ≤ i → x.getLsbD i = false) → f x = 0#32 := by
    intro n
    induction n with
    | zero =>
      intro _ x h
      have : x = 0#32 := by apply BitVec.eq_of_getLsbD_eq; intro i _; rw [h i (Nat.zero_le _)]; simp
      rw [this]; exact h0
    | succ n ih =>
      intro hn x h
      by_cases hx : x.getLsbD n = true
      · have e : x = (x ^^^ BitVec.twoPow 32 n) ^^^ BitVec.twoPow 32 n := by rw [BitVec.xor_assoc]; simp
        have hz : f (x ^^^ BitVec.twoPow 32 n) = 0#32 := by
          apply ih (by omega)
          intro i hi
          rw [BitVec.getLsbD_xor, BitVec.getLsbD_twoPow]
          by_cases he : n = i
          · subst he; rw [hx]; simp; omega
          · rw [h i (by omega)]; simp [he]
        rw [e, hf, hz, hb ⟨n, by omega⟩]; simp
      · apply ih (by omega)
        intro i hi
        by_cases he : n = i
        · subst he; simpa using hx
        · exact h i (by omega)
  intro x
  exact key 32 (Nat.le_refl _) x (fun i hi => BitVec.getLsbD_of_ge x i hi)
def J : List Nat := [1, 2, 3, 4, 11, 12, 14, 16, 18, 19, 21, 24, 25, 27, 28, 29, 31]
def back (y : BitVec 32) : BitVec 32 := J.foldr (fun j z => steps j y ^^^ z) 0#32
theorem foldr_xor (l : List Nat) (x y : BitVec 32) : l.foldr (fun j z => steps j (x ^^^ y) ^^^ z) 0#32 = l.foldr (fun j z => steps j x ^^^ z) 0#32 ^^^ l.foldr (fun j z => steps j y ^^^ z) 0#32 := by
  induction l with
  | nil => simp
  | cons j l ih => simp only [List.foldr_cons]; rw [ih, steps_xor]; ac_rfl
theorem back_is (x : BitVec 32) : back (steps 8 x ^^^ x) ^^^ x = 0#32 := by
  refine lin_zero (fun x => back (steps 8 x ^^^ x) ^^^ x) ?_ (by decide +kernel) x
  intro x y
  show back (steps 8 (x ^^^ y) ^^^ (x ^^^ y)) ^^^ (x ^^^ y) = _
  rw [steps_xor, show steps 8 x ^^^ steps 8 y ^^^ (x ^^^ y) = (steps 8 x ^^^ x) ^^^ (steps 8 y ^^^ y) by ac_rfl]
  unfold back
  rw [foldr_xor]; ac_rfl
theorem fixed (x : BitVec 32) (h : steps 8 x = x) : x = 0#32 := by
  have := back_is x
  rw [h] at this
  have hb : back (x ^^^ x) = 0#32 := by
    rw [BitVec.xor_self]; decide +kernel
  rw [hb] at this
  simpa using this
theorem steps_inj (n : Nat) (x y : BitVec 32) (h : steps n x = steps n y) : x = y := by
  have : steps n (x ^^^ y) = 0#32 := by rw [steps_xor, h]; simp
  have := steps_inj0 n _ this
  have e : x = (x ^^^ y) ^^^ y := by rw [BitVec.xor_assoc]; simp
  rw [e, this]; simp
/-- a nought more changes the sum unless the state is none -/
theorem nought (n : Nat) (s : BitVec 32) : run (List.replicate n 0) s = run (List.replicate (n + 1) 0) s ↔ s = 0#32 := by
  rw [run_zeros, run_zeros]
  constructor
  · intro h
    rw [show 8 * (n + 1) = 8 + 8 * n by omega, steps_add] at h
    exact fixed s (steps_inj _ _ _ h).symm
  · intro h; subst h; rw [steps_zero, steps_zero]
/-- bits in which two rows differ -/
def xorB (a b : List Bool) : List Bool := List.zipWith (fun x y => x ^^ y) a b
theorem one_xor (a b : Bool) : one (a ^^ b) = one a ^^^ one b := by cases a <;> cases b <;> decide
theorem bitrun_xor : ∀ (a b : List Bool), a.length = b.length → ∀ x y, bitrun (xorB a b) (x ^^^ y) = bitrun a x ^^^ bitrun b y := by
  intro a
  induction a with
  | nil => intro b h x y; cases b with
    | nil => rfl
    | cons _ _ => simp at h
  | cons c a ih =>
    intro b h x y
    cases b with
    | nil => simp at h
    | cons d b =>
      simp only [xorB, List.zipWith_cons_cons, bitrun_cons]
      have := ih b (by simpa using h) (step (x ^^^ one c)) (step (y ^^^ one d))
      rw [← this, one_xor, ← step_xor]
      congr 2
      ac_rfl
theorem bitrun_falses (n : Nat) : ∀ s, bitrun (List.replicate n false) s = steps n s := by
  induction n with
  | zero => intro s; rfl
  | succ n ih => intro s; rw [List.replicate_succ, bitrun_cons, ih]; simp [one, steps]
theorem burst_bits (k m u : Nat) (hu : u < 4294967296) : bitrun (List.replicate k false ++ (bitsN 32 u ++ List.replicate m false)) 0#32 = 0#32 ↔ u = 0 := by
  rw [bitrun_app, bitrun_app, bitrun_falses, bitrun_falses, steps_zero, bitrun_bitsN 32 u _ (by omega) hu]
  constructor
  · intro h
    have := steps_inj0 _ _ (steps_inj0 _ _ h)
    rw [BitVec.zero_xor] at this
    have := congrArg BitVec.toNat this
    simp at this; omega
  · intro h; subst h; simp [steps_zero]
end Go.Proofs.Ytlgammcbhgmpoaa.Crcp
