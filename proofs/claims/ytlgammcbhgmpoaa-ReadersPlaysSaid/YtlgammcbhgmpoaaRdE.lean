/- The walks over Txn, End, Dead, Clear, Begin. -/
import Derived.Test.YtlgammcbhgmpoaaRdG
namespace Go.Proofs.Ytlgammcbhgmpoaa
open Go.RowKit
/-- is a handle good? -/
def Gd (f : Nat → Sl) (many : Nat) (s t : Int) : Prop := ∃ i : Nat, s = (i : Int) ∧ i < many ∧ (f i).is = true ∧ ((f i).turn : Int) = t
theorem good_no (B many : Nat) (f : Nat → Sl) (s t : Int) (w : World) (h : Tb w B many f) (hg : ¬ Gd f many s t) :
    Calls Try.prog 39 #[.pointer (some ⟨B, 0, none⟩), .agg #[.int .i64 s, .int .u64 t]] w fun e w' => e = .returned (.pointer none) ∧ Below w.heap.size w w' := by
  by_cases h1 : s < 0
  · exact good_low B many f s t w h h1
  · by_cases h2 : (many : Int) ≤ s
    · exact good_high B many f s t w h (by omega) h2
    · obtain ⟨i, rfl⟩ : ∃ i : Nat, s = (i : Int) := ⟨s.toNat, by omega⟩
      cases h3 : (f i).is
      · exact good_off B many f i t w h (by omega) h3
      · by_cases h4 : ((f i).turn : Int) = t
        · exact absurd ⟨i, rfl, by omega, h3, h4⟩ hg
        · exact good_ne B many f i t w h (by omega) h3 h4
set_option maxHeartbeats 400000 in
theorem txn_no (B many : Nat) (f : Nat → Sl) (s t : Int) (w : World) (h : Tb w B many f) (hg : ¬ Gd f many s t) :
    Calls Try.prog 27 #[.pointer (some ⟨B, 0, none⟩), .agg #[.int .i64 s, .int .u64 t]] w fun e w' => e = .returned (.tuple #[.int .u64 0, .int .i64 25]) ∧ Below w.heap.size w w' := by
  have H := Lib.hid h
  have HG := Lib.hid hg
  clear h hg
  go_enter Try.func27, Try.ntmps27
  go_wp2_with fail
  refine (good_no B many f s t _ (H.out.below ((Below.refl _ _).alloc (Nat.le_refl _) _)) HG.out).mono ?_
  rintro e w1 ⟨rfl, hb⟩
  have HB := Lib.hid (((Below.refl _ _).alloc (Nat.le_refl _) _).trans (hb.mono (by simp)) : Below w.heap.size w w1)
  clear hb
  go_simp
  go_wp2_with fail
  go_ret2
  exact ⟨rfl, HB.out⟩
set_option maxHeartbeats 400000 in
theorem txn_yes (B many : Nat) (f : Nat → Sl) (i : Nat) (w : World) (h : Tb w B many f) (hi : i < many) (his : (f i).is = true) :
    Calls Try.prog 27 #[.pointer (some ⟨B, 0, none⟩), .agg #[.int .i64 (i : Int), .int .u64 ((f i).turn : Int)]] w fun e w' => e = .returned (.tuple #[.int .u64 ((f i).txn : Int), .int .i64 0]) ∧ Below w.heap.size w w' := by
  have H := Lib.hid h
  have HI := Lib.hid hi
  have HIS := Lib.hid his
  have Hq : Hid (i < 126) := Lib.hid (by have := h.2.1; omega)
  clear h hi his
  go_enter Try.func27, Try.ntmps27
  go_wp2_with fail
  refine (good_yes B many f i _ _ (H.out.below ((Below.refl _ _).alloc (Nat.le_refl _) _)) HI.out HIS.out rfl).mono ?_
  rintro e w1 ⟨rfl, hb⟩
  have HB := Lib.hid (((Below.refl _ _).alloc (Nat.le_refl _) _).trans (hb.mono (by simp)) : Below w.heap.size w w1)
  clear hb
  go_simp
  go_wp2_with fail
  refine (uload ⟨B, 1 + i * 4 + 1, none⟩ _ _ ((H.out.below HB.out).txn i Hq.out)).mono ?_
  rintro e w2 ⟨rfl, rfl⟩
  go_simp
  go_wp2_with fail
  go_ret2
  exact ⟨rfl, HB.out⟩
set_option maxHeartbeats 400000 in
theorem end_no (B many : Nat) (f : Nat → Sl) (s t : Int) (w : World) (h : Tb w B many f) (hg : ¬ Gd f many s t) :
    Calls Try.prog 21 #[.pointer (some ⟨B, 0, none⟩), .agg #[.int .i64 s, .int .u64 t]] w fun e w' => e = .returned (.int .i64 25) ∧ Below w.heap.size w w' := by
  have H := Lib.hid h
  have HG := Lib.hid hg
  clear h hg
  go_enter Try.func21, Try.ntmps21
  go_wp2_with fail
  refine (good_no B many f s t _ (H.out.below ((Below.refl _ _).alloc (Nat.le_refl _) _)) HG.out).mono ?_
  rintro e w1 ⟨rfl, hb⟩
  have HB := Lib.hid (((Below.refl _ _).alloc (Nat.le_refl _) _).trans (hb.mono (by simp)) : Below w.heap.size w w1)
  clear hb
  go_simp
  go_wp2_with fail
  go_ret
  exact ⟨rfl, HB.out⟩
def ended (f : Nat → Sl) (i : Nat) : Nat → Sl := up f i { f i with is := false }
set_option maxHeartbeats 400000 in
theorem end_yes (B many : Nat) (f : Nat → Sl) (i : Nat) (w : World) (h : Tb w B many f) (hi : i < many) (his : (f i).is = true) :
    Calls Try.prog 21 #[.pointer (some ⟨B, 0, none⟩), .agg #[.int .i64 (i : Int), .int .u64 ((f i).turn : Int)]] w fun e w' => e = .returned (.int .i64 0) ∧ Tb w' B many (ended f i) ∧ Kp B w w' := by
  have H := Lib.hid h
  have HI := Lib.hid hi
  have HIS := Lib.hid his
  have Hq : Hid (i < 126) := Lib.hid (by have := h.2.1; omega)
  clear h hi his
  go_enter Try.func21, Try.ntmps21
  go_wp2_with fail
  refine (good_yes B many f i _ _ (H.out.below ((Below.refl _ _).alloc (Nat.le_refl _) _)) HI.out HIS.out rfl).mono ?_
  rintro e w1 ⟨rfl, hb⟩
  have HB := Lib.hid (((Below.refl _ _).alloc (Nat.le_refl _) _).trans (hb.mono (by simp)) : Below w.heap.size w w1)
  clear hb
  have HT := Lib.hid (H.out.below HB.out)
  go_simp
  go_wp2_with fail
  refine (bstore ⟨B, 1 + i * 4, none⟩ _ false _ (HT.out.is i Hq.out) (HT.out.free _)).mono ?_
  rintro e w2 ⟨rfl, rfl⟩
  go_simp
  go_wp2_with fail
  go_ret
  exact ⟨rfl, HT.out.setIs i Hq.out false, ((Kp.of_below HB.out).trans (Kp.set B _ _ _)).drew⟩

def deadened (f : Nat → Sl) (i : Nat) : Nat → Sl := up f i { f i with dead := true }
set_option maxRecDepth 100000 in
set_option maxHeartbeats 400000 in
theorem dead_low (B many : Nat) (f : Nat → Sl) (s : Int) (w : World) (h : Tb w B many f) (hs : s < 0 ∨ (many : Int) ≤ s) :
    Calls Try.prog 23 #[.pointer (some ⟨B, 0, none⟩), .int .i64 s] w fun e w' => e = .returned (.bool false) ∧ Below w.heap.size w w' := by
  have hm := h.many
  by_cases h1 : s < 0
  · have q1 : decide (s < 0) = true := by simpa using h1
    clear h hs h1
    go_enter Try.func23, Try.ntmps23
    go_wp2
    go_ret
    exact ⟨rfl, Below.refl _ _⟩
  · have q1 : decide (s < 0) = false := by simpa using h1
    have q2 : decide ((many : Int) ≤ s) = true := by simp; omega
    clear h hs h1
    go_enter Try.func23, Try.ntmps23
    go_wp2
    go_ret
    exact ⟨rfl, Below.refl _ _⟩
set_option maxRecDepth 100000 in
set_option maxHeartbeats 400000 in
theorem dead_off (B many : Nat) (f : Nat → Sl) (i : Nat) (w : World) (h : Tb w B many f) (hi : i < many) (his : (f i).is = false) :
    Calls Try.prog 23 #[.pointer (some ⟨B, 0, none⟩), .int .i64 (i : Int)] w fun e w' => e = .returned (.bool false) ∧ Below w.heap.size w w' := by
  have hm := h.many
  have q1 : decide ((i : Int) < 0) = false := by simp
  have q2 : decide (many ≤ i) = false := by simp; omega
  have q3 : (i : Int) < 126 := by have := h.2.1; omega
  have q4 : i < 126 := by have := h.2.1; omega
  have HQ := Lib.hid (bload ⟨B, 1 + i * 4, none⟩ false w (by rw [← his]; exact h.is i q4))
  clear h hi his
  go_enter Try.func23, Try.ntmps23
  go_wp2_with (go_at_call 40; refine HQ.out.mono ?_; rintro e w' ⟨rfl, rfl⟩)
  go_ret
  exact ⟨rfl, Below.refl _ _⟩
set_option maxRecDepth 100000 in
set_option maxHeartbeats 400000 in
theorem dead_yes (B many : Nat) (f : Nat → Sl) (i : Nat) (w : World) (h : Tb w B many f) (hi : i < many) (his : (f i).is = true) :
    Calls Try.prog 23 #[.pointer (some ⟨B, 0, none⟩), .int .i64 (i : Int)] w fun e w' => e = .returned (.bool true) ∧ Tb w' B many (deadened f i) ∧ Kp B w w' := by
  have hm := h.many
  have H := Lib.hid h
  have q1 : decide ((i : Int) < 0) = false := by simp
  have q2 : decide (many ≤ i) = false := by simp; omega
  have q3 : (i : Int) < 126 := by have := h.2.1; omega
  have q4 : i < 126 := by have := h.2.1; omega
  have HQ := Lib.hid (bload ⟨B, 1 + i * 4, none⟩ true w (by rw [← his]; exact h.is i q4))
  clear h hi his
  go_enter Try.func23, Try.ntmps23
  go_wp2_with (first | (go_at_call 40; refine HQ.out.mono ?_; rintro e w' ⟨rfl, rfl⟩) | (go_at_call 36; refine (bstore ⟨B, 1 + i * 4 + 3, none⟩ _ true _ (H.out.dead i q4) (H.out.free _)).mono ?_; rintro e w' ⟨rfl, rfl⟩))
  go_ret
  exact ⟨rfl, H.out.setDead i q4 true, (Kp.set B _ _ _).drew⟩
def clr (f : Nat → Sl) (k : Nat) : Nat → Sl := fun j => if j < k ∧ (f j).is = true ∧ (f j).dead = true then { f j with is := false } else f j
def clrN (f : Nat → Sl) : Nat → Nat
  | 0 => 0
  | n + 1 => clrN f n + if (f n).is = true ∧ (f n).dead = true then 1 else 0
theorem clrN_le (f : Nat → Sl) (n : Nat) : clrN f n ≤ n := by
  induction n with
  | zero => exact Nat.le_refl _
  | succ n ih => simp only [clrN]; split <;> omega
theorem clr_zero (f : Nat → Sl) : clr f 0 = f := by funext j; simp [clr]
theorem clr_at (f : Nat → Sl) (k : Nat) : clr f k k = f k := by simp [clr]
theorem clr_skip (f : Nat → Sl) (k : Nat) (h : ¬ ((f k).is = true ∧ (f k).dead = true)) : clr f (k + 1) = clr f k := by
  funext j
  unfold clr
  by_cases e : j = k
  · subst e; rw [if_neg (fun q => h q.2), if_neg (fun q => h q.2)]
  · by_cases g : j < k
    · simp [g, show j < k + 1 by omega]
    · simp [g, show ¬ j < k + 1 by omega]
theorem clr_hit (f : Nat → Sl) (k : Nat) (h : (f k).is = true ∧ (f k).dead = true) : up (clr f k) k { clr f k k with is := false } = clr f (k + 1) := by
  funext j
  rw [clr_at]
  unfold up
  by_cases e : j = k
  · subst e; rw [if_pos rfl]; simp [clr, h]
  · rw [if_neg e]
    unfold clr
    by_cases g : j < k
    · simp [g, show j < k + 1 by omega]
    · simp [g, show ¬ j < k + 1 by omega]
theorem clear_nil (w : World) : Calls Try.prog 25 #[.pointer none] w fun e w' => e = .returned (.int .i64 0) ∧ w = w' := by
  go_enter Try.func25, Try.ntmps25
  go_wp2_with (go_at_call 41; refine (slots_nil _).mono ?_; rintro e w' ⟨rfl, rfl⟩)
  go_loop [3, 8] (fun n i => i = .int .i64 0 ∧ n = .int .i64 0) (fun _ i => 0)
  case atStart => exact ⟨rfl, rfl⟩
  case round =>
    obtain ⟨rfl, rfl⟩ := hrel
    go_wp2
    go_ret
    exact ⟨rfl, rfl⟩
set_option maxRecDepth 100000 in
set_option maxHeartbeats 1000000 in
theorem clear_any (B many : Nat) (f : Nat → Sl) (w : World) (h : Tb w B many f) :
    Calls Try.prog 25 #[.pointer (some ⟨B, 0, none⟩)] w fun e w' => e = .returned (.int .i64 (clrN f many : Nat)) ∧ Tb w' B many (clr f many) ∧ Kp B w w' := by
  have H := Lib.hid h
  have hm : (many : Int) ≤ 126 := by have := h.2.1; omega
  clear h
  go_enter Try.func25, Try.ntmps25
  go_wp2_with (go_at_call 41; refine (slots_any _ _ f _ H.out).mono ?_; rintro e w' ⟨rfl, rfl⟩)
  go_loopw [3, 8] (fun n i wr => ∃ k : Nat, k ≤ many ∧ i = .int .i64 k ∧ n = .int .i64 (clrN f k : Nat) ∧ Tb wr B many (clr f k) ∧ Kp B w wr) (fun _ i _ => many - (intOf i).toNat)
  case atStart => exact ⟨0, by omega, rfl, rfl, by rw [clr_zero]; exact H.out, Kp.refl _ _⟩
  case round =>
    obtain ⟨k, hk, rfl, rfl, ht, hkp⟩ := hrel
    have HT := Lib.hid ht
    have HK := Lib.hid hkp
    clear ht hkp
    by_cases hlt : k < many
    · have q4 : k < 126 := by omega
      have hlb : ((clrN f k : Nat) : Int) ≤ 126 := by have := clrN_le f k; omega
      have HLS : Hid (clrN f (k + 1) = clrN f k + if (f k).is = true ∧ (f k).dead = true then 1 else 0) := Lib.hid rfl
      generalize clrN f k = n at *
      cases hb : (f k).is
      · have HBL := Lib.hid (bload ⟨B, 1 + k * 4, none⟩ false wr (by rw [← hb, ← clr_at f k]; exact HT.out.is k q4))
        have HLB := Lib.hid hb
        clear hb
        go_wp2_with (go_at_call 40; refine HBL.out.mono ?_; rintro e w' ⟨rfl, rfl⟩)
        go_roundw
        case rel => exact ⟨k + 1, by omega, by go_num, by rw [HLS.out, HLB.out]; rfl, by rw [clr_skip f k (by rw [HLB.out]; simp)]; exact HT.out, HK.out⟩
        case measure => simp [intOf]; omega
      · have HBL := Lib.hid (bload ⟨B, 1 + k * 4, none⟩ true wr (by rw [← hb, ← clr_at f k]; exact HT.out.is k q4))
        have HLB := Lib.hid hb
        clear hb
        cases hd : (f k).dead
        · have HDL := Lib.hid (bload ⟨B, 1 + k * 4 + 3, none⟩ false wr (by rw [← hd, ← clr_at f k]; exact HT.out.dead k q4))
          have HLD := Lib.hid hd
          clear hd
          go_wp2_with fail
          refine HBL.out.mono ?_
          rintro e w' ⟨rfl, rfl⟩
          go_simp
          go_wp2_with fail
          refine HDL.out.mono ?_
          rintro e w' ⟨rfl, rfl⟩
          go_simp
          go_wp2_with fail
          go_roundw
          case rel => exact ⟨k + 1, by omega, by go_num, by rw [HLS.out, HLB.out, HLD.out]; rfl, by rw [clr_skip f k (by rw [HLB.out, HLD.out]; simp)]; exact HT.out, HK.out⟩
          case measure => simp [intOf]; omega
        · have HDL := Lib.hid (bload ⟨B, 1 + k * 4 + 3, none⟩ true wr (by rw [← hd, ← clr_at f k]; exact HT.out.dead k q4))
          have HLD := Lib.hid hd
          clear hd
          have HST := Lib.hid (bstore ⟨B, 1 + k * 4, none⟩ _ false wr (HT.out.is k q4) (HT.out.free _))
          go_wp2_with fail
          refine HBL.out.mono ?_
          rintro e w' ⟨rfl, rfl⟩
          go_simp
          go_wp2_with fail
          refine HDL.out.mono ?_
          rintro e w' ⟨rfl, rfl⟩
          go_simp
          go_wp2_with (go_at_call 36; refine HST.out.mono ?_; rintro e w' ⟨rfl, rfl⟩)
          go_roundw
          case rel => exact ⟨k + 1, by omega, by go_num, by rw [HLS.out, HLB.out, HLD.out]; go_num, by rw [← clr_hit f k ⟨HLB.out, HLD.out⟩]; exact HT.out.setIs k q4 false, (HK.out.trans (Kp.set B _ _ _)).drew⟩
          case measure => simp [intOf]; omega
    · obtain rfl : k = many := by omega
      go_wp2
      go_ret
      exact ⟨rfl, HT.out, HK.out⟩
end Go.Proofs.Ytlgammcbhgmpoaa
