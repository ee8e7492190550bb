/- The walks over the methods of the readers' table that find a reader. -/
import Derived.Test.YtlgammcbhgmpoaaRdT
namespace Go.Proofs.Ytlgammcbhgmpoaa
open Go.RowKit
def oldest (f : Nat → Sl) (x : Nat) : Nat → Nat
  | 0 => x
  | n + 1 => if (f n).is = true then min (oldest f x n) (f n).txn else oldest f x n
theorem oldest_lt (f : Nat → Sl) (x : Nat) (hx : x < 18446744073709551616) (n : Nat) : oldest f x n < 18446744073709551616 := by
  induction n with
  | zero => exact hx
  | succ n ih => simp only [oldest]; split <;> omega
theorem oldest_nil (x : Int) (w : World) : Calls Try.prog 29 #[.pointer none, .int .u64 x] w fun e w' => e = .returned (.int .u64 x) ∧ w = w' := by
  go_enter Try.func29, Try.ntmps29
  go_wp2_with (go_at_call 41; refine (slots_nil _).mono ?_; rintro e w' ⟨rfl, rfl⟩)
  go_loop [1, 9] (fun n i => i = .int .i64 0 ∧ n = .int .u64 x) (fun _ i => 0)
  case atStart => exact ⟨rfl, rfl⟩
  case round =>
    obtain ⟨rfl, rfl⟩ := hrel
    go_wp2
    go_ret
    exact ⟨rfl, rfl⟩
theorem live_nil (w : World) : Calls Try.prog 31 #[.pointer none] w fun e w' => e = .returned (.int .i64 0) ∧ w = w' := by
  go_enter Try.func31, Try.ntmps31
  go_wp2_with (go_at_call 41; refine (slots_nil _).mono ?_; rintro e w' ⟨rfl, rfl⟩)
  go_loop [3, 7] (fun n i => i = .int .i64 0 ∧ n = .int .i64 0) (fun _ i => 0)
  case atStart => exact ⟨rfl, rfl⟩
  case round =>
    obtain ⟨rfl, rfl⟩ := hrel
    go_wp2
    go_ret
    exact ⟨rfl, rfl⟩
set_option maxHeartbeats 400000 in
theorem oldest_any (B many : Nat) (f : Nat → Sl) (x : Nat) (w : World) (h : Tb w B many f) : Calls Try.prog 29 #[.pointer (some ⟨B, 0, none⟩), .int .u64 (x : Int)] w fun e w' => e = .returned (.int .u64 (oldest f x many : Nat)) ∧ w = w' := by
  have H := Lib.hid h
  have hm : (many : Int) ≤ 126 := by have := h.2.1; omega
  clear h
  go_enter Try.func29, Try.ntmps29
  go_wp2_with (go_at_call 41; refine (slots_any _ _ f _ H.out).mono ?_; rintro e w' ⟨rfl, rfl⟩)
  go_loop [1, 9] (fun n i => ∃ k : Nat, k ≤ many ∧ i = .int .i64 k ∧ n = .int .u64 (oldest f x k : Nat)) (fun _ i => many - (intOf i).toNat)
  case atStart => exact ⟨0, by omega, rfl, rfl⟩
  case round =>
    obtain ⟨k, hk, rfl, rfl⟩ := hrel
    by_cases hlt : k < many
    · have hls : oldest f x (k + 1) = if (f k).is = true then min (oldest f x k) (f k).txn else oldest f x k := rfl
      have HLS := Lib.hid hls
      clear hls
      generalize oldest f x k = n at *
      cases hb : (f k).is
      · have HBL := Lib.hid (bload ⟨B, 1 + k * 4, none⟩ false w (by rw [← hb]; exact H.out.is k (by omega)))
        have HLB := Lib.hid hb
        clear hb
        go_wp2_with (go_at_call 40; refine HBL.out.mono ?_; rintro e w' ⟨rfl, rfl⟩)
        go_round
        case rel => exact ⟨k + 1, by omega, by go_num, by rw [HLS.out, HLB.out]; rfl⟩
        case measure => simp [intOf]; omega
      · have HBL := Lib.hid (bload ⟨B, 1 + k * 4, none⟩ true w (by rw [← hb]; exact H.out.is k (by omega)))
        have HUL := Lib.hid (uload ⟨B, 1 + k * 4 + 1, none⟩ _ w (H.out.txn k (by omega)))
        have HLB := Lib.hid hb
        clear hb
        generalize (f k).txn = t at *
        obtain ⟨m, hm1⟩ : ∃ m, m = min n t := ⟨_, rfl⟩
        have hmin : ∀ ts ty w, Sem.run Try.prog (Builtin.min_ ts ty #[.int .u64 (n : Int), .int .u64 (t : Int)]) w = .ok (.int .u64 (m : Int)) w := by
          intro ts ty w
          rw [run_min_int2]
          congr 2
          split <;> omega
        have HM := Lib.hid hm1
        clear hm1
        go_wp2_with (first | (go_at_call 40; refine HBL.out.mono ?_; rintro e w' ⟨rfl, rfl⟩) | (go_at_call 42; refine HUL.out.mono ?_; rintro e w' ⟨rfl, rfl⟩))

        go_round
        case rel => exact ⟨k + 1, by omega, by go_num, by rw [HLS.out, HLB.out, HM.out]; rfl⟩
        case measure => simp [intOf]; omega
    · obtain rfl : k = many := by omega
      go_wp2
      go_ret
      exact ⟨rfl, rfl⟩


theorem dN {B : Nat} {a w : World} (h : Below B a w) (n : Nat) : Below B a (w.drewN n) := ⟨h.os, h.tape, h.output, h.size, h.block⟩
set_option maxHeartbeats 400000 in
theorem good_low (B many : Nat) (f : Nat → Sl) (s t : Int) (w : World) (h : Tb w B many f) (hs : s < 0) :
    Calls Try.prog 39 #[.pointer (some ⟨B, 0, none⟩), .agg #[.int .i64 s, .int .u64 t]] w fun e w' => e = .returned (.pointer none) ∧ Below w.heap.size w w' := by
  have q1 : decide (s < 0) = true := by simpa using hs
  have hm := h.many
  have hB := h.lt
  have H := Lib.hid h
  clear h hs
  go_enter Try.func39, Try.ntmps39
  go_wp2
  go_quiet (fail)
  go_wp2
  go_ret
  exact ⟨rfl, dN ((Below.refl _ _).alloc (Nat.le_refl _) _) _⟩
set_option maxHeartbeats 400000 in
theorem good_high (B many : Nat) (f : Nat → Sl) (s t : Int) (w : World) (h : Tb w B many f) (hs : 0 ≤ s) (hs2 : (many : Int) ≤ s) :
    Calls Try.prog 39 #[.pointer (some ⟨B, 0, none⟩), .agg #[.int .i64 s, .int .u64 t]] w fun e w' => e = .returned (.pointer none) ∧ Below w.heap.size w w' := by
  have q1 : decide (s < 0) = false := by simp; omega
  have q2 : decide ((many : Int) ≤ s) = true := by simpa using hs2
  have hm := h.many
  have hB := h.lt
  have H := Lib.hid h
  clear h hs
  go_enter Try.func39, Try.ntmps39
  go_wp2
  go_quiet (fail)
  go_wp2
  go_ret
  exact ⟨rfl, dN ((Below.refl _ _).alloc (Nat.le_refl _) _) _⟩
set_option maxRecDepth 100000 in
set_option maxHeartbeats 400000 in
theorem good_off (B many : Nat) (f : Nat → Sl) (i : Nat) (t : Int) (w : World) (h : Tb w B many f) (hi : i < many) (his : (f i).is = false) :
    Calls Try.prog 39 #[.pointer (some ⟨B, 0, none⟩), .agg #[.int .i64 (i : Int), .int .u64 t]] w fun e w' => e = .returned (.pointer none) ∧ Below w.heap.size w w' := by
  have q1 : decide ((i : Int) < 0) = false := by simp
  have q2 : decide (many ≤ i) = false := by simp; omega
  have hm := h.many
  have hB := h.lt
  have H := Lib.hid h
  have q3 : (i : Int) < 126 := by have := h.2.1; omega
  have q4 : i < 126 := by have := h.2.1; omega
  have hcell : w.cell? ⟨B, 1 + i * 4, none⟩ = some (.int .u32 (bi false)) := by rw [← his]; exact h.is i q4
  have hcA : ∀ (A : Array Value), (w.alloc (.cells A 47)).cell? ⟨B, 1 + i * 4, none⟩ = some (.int .u32 (bi false)) := fun A =>
    (((Below.refl w.heap.size w).alloc (Nat.le_refl _) (.cells A 47)).cell (p := ⟨B, 1 + i * 4, none⟩) hB).trans hcell
  have hqq : ∀ (A : Array Value) (n1 n2 : Nat), Calls Try.prog 40 #[.pointer (some ⟨B, 1 + i * 4, none⟩)] ((w.alloc (.cells A 47)).drewN (n1 + n2)) fun e w'' => e = .returned (.bool false) ∧ ∃ n, w'' = (w.alloc (.cells A 47)).drewN (n1 + n) := fun A n1 n2 =>
    (bload ⟨B, 1 + i * 4, none⟩ false ((w.alloc (.cells A 47)).drewN (n1 + n2)) (hcA A)).mono fun _ _ ⟨a, b⟩ => ⟨a, n2, b.symm⟩
  have HQ := Lib.hid hqq
  have HI := Lib.hid hi
  have HIS := Lib.hid his
  clear h hcA hqq hcell hi his
  go_enter Try.func39, Try.ntmps39
  go_wp2
  go_quiet (fail)
  go_wp2
  go_quiet (fail)
  go_wp2
  go_quiet ((go_at_call 40; exact HQ.out _ _ _))
  go_wp2
  go_ret
  exact ⟨rfl, dN (dN (dN ((Below.refl _ _).alloc (Nat.le_refl _) _) _) _) _⟩
set_option maxRecDepth 100000 in
set_option maxHeartbeats 400000 in
theorem good_ne (B many : Nat) (f : Nat → Sl) (i : Nat) (t : Int) (w : World) (h : Tb w B many f) (hi : i < many) (his : (f i).is = true) (ht : ¬ ((f i).turn : Int) = t) :
    Calls Try.prog 39 #[.pointer (some ⟨B, 0, none⟩), .agg #[.int .i64 (i : Int), .int .u64 t]] w fun e w' => e = .returned (.pointer none) ∧ Below w.heap.size w w' := by
  have q1 : decide ((i : Int) < 0) = false := by simp
  have q2 : decide (many ≤ i) = false := by simp; omega
  have hm := h.many
  have hB := h.lt
  have H := Lib.hid h
  have q3 : (i : Int) < 126 := by have := h.2.1; omega
  have q4 : i < 126 := by have := h.2.1; omega
  have hcell : w.cell? ⟨B, 1 + i * 4, none⟩ = some (.int .u32 (bi true)) := by rw [← his]; exact h.is i q4
  have hcA : ∀ (A : Array Value), (w.alloc (.cells A 47)).cell? ⟨B, 1 + i * 4, none⟩ = some (.int .u32 (bi true)) := fun A =>
    (((Below.refl w.heap.size w).alloc (Nat.le_refl _) (.cells A 47)).cell (p := ⟨B, 1 + i * 4, none⟩) hB).trans hcell
  have hqq : ∀ (A : Array Value) (n1 n2 : Nat), Calls Try.prog 40 #[.pointer (some ⟨B, 1 + i * 4, none⟩)] ((w.alloc (.cells A 47)).drewN (n1 + n2)) fun e w'' => e = .returned (.bool true) ∧ ∃ n, w'' = (w.alloc (.cells A 47)).drewN (n1 + n) := fun A n1 n2 =>
    (bload ⟨B, 1 + i * 4, none⟩ true ((w.alloc (.cells A 47)).drewN (n1 + n2)) (hcA A)).mono fun _ _ ⟨a, b⟩ => ⟨a, n2, b.symm⟩
  have HQ := Lib.hid hqq
  have hqt : ∀ (A : Array Value) (n1 n2 : Nat), Calls Try.prog 42 #[.pointer (some ⟨B, 1 + i * 4 + 2, none⟩)] ((w.alloc (.cells A 47)).drewN (n1 + n2)) fun e w'' => e = .returned (.int .u64 ((f i).turn : Int)) ∧ ∃ n, w'' = (w.alloc (.cells A 47)).drewN (n1 + n) := fun A n1 n2 =>
    (uload ⟨B, 1 + i * 4 + 2, none⟩ _ ((w.alloc (.cells A 47)).drewN (n1 + n2)) ((((Below.refl w.heap.size w).alloc (Nat.le_refl _) (.cells A 47)).cell (p := ⟨B, 1 + i * 4 + 2, none⟩) hB).trans (h.turn i q4))).mono fun _ _ ⟨a, b⟩ => ⟨a, n2, b.symm⟩
  have HQT := Lib.hid hqt
  have HI := Lib.hid hi
  have HIS := Lib.hid his
  clear h hcA hqq hqt hcell hi his
  have hte : (((f i).turn : Int) == t) = false := beq_eq_false_iff_ne.2 ht
  clear ht
  generalize (f i).turn = tu at *
  go_enter Try.func39, Try.ntmps39
  go_wp2
  go_quiet (fail)
  go_wp2
  go_quiet (fail)
  go_wp2
  go_quiet ((first | (go_at_call 40; exact HQ.out _ _ _) | (go_at_call 42; exact HQT.out _ _ _)))
  go_wp2
  go_ret
  exact ⟨rfl, dN (dN (dN ((Below.refl _ _).alloc (Nat.le_refl _) _) _) _) _⟩
set_option maxRecDepth 100000 in
set_option maxHeartbeats 400000 in
theorem good_yes (B many : Nat) (f : Nat → Sl) (i : Nat) (t : Int) (w : World) (h : Tb w B many f) (hi : i < many) (his : (f i).is = true) (ht : ((f i).turn : Int) = t) :
    Calls Try.prog 39 #[.pointer (some ⟨B, 0, none⟩), .agg #[.int .i64 (i : Int), .int .u64 t]] w fun e w' => e = .returned (.pointer (some ⟨B, 1 + i * 4, none⟩)) ∧ Below w.heap.size w w' := by
  have q1 : decide ((i : Int) < 0) = false := by simp
  have q2 : decide (many ≤ i) = false := by simp; omega
  have hm := h.many
  have hB := h.lt
  have H := Lib.hid h
  have q3 : (i : Int) < 126 := by have := h.2.1; omega
  have q4 : i < 126 := by have := h.2.1; omega
  have hcell : w.cell? ⟨B, 1 + i * 4, none⟩ = some (.int .u32 (bi true)) := by rw [← his]; exact h.is i q4
  have hcA : ∀ (A : Array Value), (w.alloc (.cells A 47)).cell? ⟨B, 1 + i * 4, none⟩ = some (.int .u32 (bi true)) := fun A =>
    (((Below.refl w.heap.size w).alloc (Nat.le_refl _) (.cells A 47)).cell (p := ⟨B, 1 + i * 4, none⟩) hB).trans hcell
  have hqq : ∀ (A : Array Value) (n1 n2 : Nat), Calls Try.prog 40 #[.pointer (some ⟨B, 1 + i * 4, none⟩)] ((w.alloc (.cells A 47)).drewN (n1 + n2)) fun e w'' => e = .returned (.bool true) ∧ ∃ n, w'' = (w.alloc (.cells A 47)).drewN (n1 + n) := fun A n1 n2 =>
    (bload ⟨B, 1 + i * 4, none⟩ true ((w.alloc (.cells A 47)).drewN (n1 + n2)) (hcA A)).mono fun _ _ ⟨a, b⟩ => ⟨a, n2, b.symm⟩
  have HQ := Lib.hid hqq
  have hqt : ∀ (A : Array Value) (n1 n2 : Nat), Calls Try.prog 42 #[.pointer (some ⟨B, 1 + i * 4 + 2, none⟩)] ((w.alloc (.cells A 47)).drewN (n1 + n2)) fun e w'' => e = .returned (.int .u64 ((f i).turn : Int)) ∧ ∃ n, w'' = (w.alloc (.cells A 47)).drewN (n1 + n) := fun A n1 n2 =>
    (uload ⟨B, 1 + i * 4 + 2, none⟩ _ ((w.alloc (.cells A 47)).drewN (n1 + n2)) ((((Below.refl w.heap.size w).alloc (Nat.le_refl _) (.cells A 47)).cell (p := ⟨B, 1 + i * 4 + 2, none⟩) hB).trans (h.turn i q4))).mono fun _ _ ⟨a, b⟩ => ⟨a, n2, b.symm⟩
  have HQT := Lib.hid hqt
  have HI := Lib.hid hi
  have HIS := Lib.hid his
  clear h hcA hqq hqt hcell hi his
  subst ht
  generalize (f i).turn = tu at *
  go_enter Try.func39, Try.ntmps39
  go_wp2
  go_quiet (fail)
  go_wp2
  go_quiet (fail)
  go_wp2
  go_quiet ((first | (go_at_call 40; exact HQ.out _ _ _) | (go_at_call 42; exact HQT.out _ _ _)))
  go_wp2
  go_ret
  exact ⟨rfl, dN (dN (dN ((Below.refl _ _).alloc (Nat.le_refl _) _) _) _) _⟩
end Go.Proofs.Ytlgammcbhgmpoaa
