/- Plain laws of the sum of bytes: bit by bit, and four bits at once; no program in sight. -/
namespace Go.Proofs.Ytlgammcbhgmpoaa.Crcp

/-- one bit's step -/
def step (x : BitVec 32) : BitVec 32 := (x >>> 1) ^^^ (if x.getLsbD 0 then 0xEDB88320#32 else 0#32)

def steps : Nat → BitVec 32 → BitVec 32
  | 0, x => x
  | n + 1, x => steps n (step x)

theorem step_xor (x y : BitVec 32) : step (x ^^^ y) = step x ^^^ step y := by
  unfold step
  rw [BitVec.ushiftRight_xor_distrib, BitVec.getLsbD_xor]
  generalize 0xEDB88320#32 = k
  generalize x >>> 1 = a
  generalize y >>> 1 = b
  have e : a ^^^ k ^^^ (b ^^^ k) = a ^^^ b := by
    have : a ^^^ k ^^^ (b ^^^ k) = a ^^^ b ^^^ (k ^^^ k) := by ac_rfl
    rw [this]; simp
  cases x.getLsbD 0 <;> cases y.getLsbD 0 <;> simp
  · ac_rfl
  · ac_rfl
  · exact e.symm
theorem steps_xor (n : Nat) : ∀ (x y : BitVec 32), steps n (x ^^^ y) = steps n x ^^^ steps n y := by
  induction n with
  | zero => intro x y; rfl
  | succ n ih => intro x y; simp only [steps]; rw [step_xor, ih]
theorem steps_add (m n : Nat) : ∀ x, steps (m + n) x = steps n (steps m x) := by
  induction m with
  | zero => intro x; simp [steps]
  | succ m ih => intro x; rw [show m + 1 + n = (m + n) + 1 from by omega]; simp only [steps]; exact ih _
theorem step_zero : step 0#32 = 0#32 := by decide
theorem steps_zero (n : Nat) : steps n 0#32 = 0#32 := by
  induction n with
  | zero => rfl
  | succ n ih => simp only [steps, step_zero]; exact ih
theorem step_inj0 (x : BitVec 32) (h : step x = 0#32) : x = 0#32 := by
  unfold step at h
  have h31 : ((x >>> 1) ^^^ (if x.getLsbD 0 then 0xEDB88320#32 else 0#32)).getLsbD 31 = false := by rw [h]; decide
  rw [BitVec.getLsbD_xor, BitVec.getLsbD_ushiftRight] at h31
  have hx : x.getLsbD (1 + 31) = false := BitVec.getLsbD_of_ge x _ (by omega)
  rw [hx] at h31
  have h0 : x.getLsbD 0 = false := by
    cases hb : x.getLsbD 0 with
    | false => rfl
    | true => rw [hb] at h31; revert h31; decide
  rw [h0] at h
  simp at h
  apply BitVec.eq_of_getLsbD_eq
  intro i hi
  by_cases hz : i = 0
  · subst hz; rw [h0]; simp
  · have : (x >>> 1).getLsbD (i - 1) = false := by rw [h]; simp
    rw [BitVec.getLsbD_ushiftRight] at this
    rw [show 1 + (i - 1) = i from by omega] at this
    rw [this]; simp
theorem steps_inj0 (n : Nat) : ∀ x, steps n x = 0#32 → x = 0#32 := by
  induction n with
  | zero => intro x h; exact h
  | succ n ih => intro x h; exact step_inj0 x (ih _ h)

/-- a row of bytes, byte by byte -/
def byte (x : BitVec 32) (c : Nat) : BitVec 32 := steps 8 (x ^^^ BitVec.ofNat 32 c)
def run (l : List Nat) (x : BitVec 32) : BitVec 32 := l.foldl byte x

theorem run_app (a b : List Nat) (x : BitVec 32) : run (a ++ b) x = run b (run a x) := by simp [run]
theorem run_nil (x : BitVec 32) : run [] x = x := rfl
theorem run_cons (c : Nat) (l : List Nat) (x : BitVec 32) : run (c :: l) x = run l (byte x c) := rfl

/-- four bits at once: steps 4 shifts where the low four bits are none -/
theorem step_low (x : BitVec 32) (h : x.getLsbD 0 = false) : step x = x >>> 1 := by unfold step; rw [h]; simp
theorem steps4 (x : BitVec 32) : steps 4 x = (x >>> 4) ^^^ steps 4 (x &&& 15#32) := by
  have e : x = (x &&& 0xFFFFFFF0#32) ^^^ (x &&& 15#32) := by
    apply BitVec.eq_of_getLsbD_eq
    intro i hi
    rw [BitVec.getLsbD_xor, BitVec.getLsbD_and, BitVec.getLsbD_and]
    have : (0xFFFFFFF0#32).getLsbD i = !(15#32).getLsbD i := by
      have : ∀ i : Fin 32, (0xFFFFFFF0#32).getLsbD i.val = !(15#32).getLsbD i.val := by decide
      exact this ⟨i, hi⟩
    rw [this]
    cases x.getLsbD i <;> cases (15#32).getLsbD i <;> rfl
  have hs : steps 4 (x &&& 0xFFFFFFF0#32) = x >>> 4 := by
    have b : ∀ j, j < 4 → (x &&& 0xFFFFFFF0#32).getLsbD j = false := by
      intro j hj
      rw [BitVec.getLsbD_and]
      have : ∀ i : Fin 4, (0xFFFFFFF0#32).getLsbD i.val = false := by decide
      rw [this ⟨j, hj⟩]; simp
    simp only [steps]
    generalize hz : x &&& 0xFFFFFFF0#32 = z at b
    rw [step_low z (b 0 (by omega))]
    rw [step_low (z >>> 1) (by rw [BitVec.getLsbD_ushiftRight]; exact b 1 (by omega))]
    rw [← BitVec.shiftRight_add, step_low (z >>> (1 + 1)) (by rw [BitVec.getLsbD_ushiftRight]; exact b 2 (by omega))]
    rw [← BitVec.shiftRight_add, step_low (z >>> (1 + 1 + 1)) (by rw [BitVec.getLsbD_ushiftRight]; exact b 3 (by omega))]
    rw [← BitVec.shiftRight_add, ← hz]
    apply BitVec.eq_of_getLsbD_eq
    intro i hi
    rw [BitVec.getLsbD_ushiftRight, BitVec.getLsbD_ushiftRight, BitVec.getLsbD_and]
    by_cases h : 1 + 1 + 1 + 1 + i < 32
    · have : ∀ i : Fin 28, (0xFFFFFFF0#32).getLsbD (1 + 1 + 1 + 1 + i.val) = true := by decide
      rw [this ⟨i, by omega⟩]; simp
    · rw [BitVec.getLsbD_of_ge x _ (by omega)]; simp
  conv => lhs; rw [e]
  rw [steps_xor, hs]

/-- rows of one length, xor one another -/
def xors (a b : List Nat) : List Nat := List.zipWith (fun x y => x ^^^ y) a b
theorem ofNat_xor (a b : Nat) : BitVec.ofNat 32 (a ^^^ b) = BitVec.ofNat 32 a ^^^ BitVec.ofNat 32 b := by
  apply BitVec.eq_of_toNat_eq; simp [BitVec.toNat_xor]
theorem run_xors : ∀ (a b : List Nat), a.length = b.length → ∀ x y, run (xors a b) (x ^^^ y) = run a x ^^^ run b y := by
  intro a
  induction a with
  | nil => intro b h x y; cases b with
    | nil => rfl
    | cons _ _ => simp at h
  | cons c a ih =>
    intro b h x y
    cases b with
    | nil => simp at h
    | cons d b =>
      simp only [xors, List.zipWith_cons_cons, run_cons]
      have := ih b (by simpa using h) (byte x c) (byte y d)
      rw [← this]
      congr 1
      unfold byte
      rw [ofNat_xor, ← steps_xor]
      congr 1
      ac_rfl
theorem run_zeros (n : Nat) : ∀ x, run (List.replicate n 0) x = steps (8 * n) x := by
  induction n with
  | zero => intro x; rfl
  | succ n ih => intro x; rw [List.replicate_succ, run_cons, ih]; unfold byte; rw [show 8 * (n + 1) = 8 + 8 * n from by omega, steps_add]; simp
end Go.Proofs.Ytlgammcbhgmpoaa.Crcp
