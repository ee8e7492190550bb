/- The readers' table: how it lies in memory, and the walks over its methods. -/
import Derived.Test.YtlgammcbhgmpoaaRdA
import Derived.Deep.CutBlock
import Derived.Laws.Rows
namespace Go.Proofs.Ytlgammcbhgmpoaa
open Go.RowKit
structure Sl where
  is : Bool
  txn : Nat
  turn : Nat
  dead : Bool
def tcell (many : Nat) (f : Nat → Sl) (j : Nat) : Value :=
  if j = 0 then .int .i64 (many : Int) else
  if (j - 1) % 4 = 0 then .int .u32 (bi (f ((j - 1) / 4)).is) else
  if (j - 1) % 4 = 1 then .int .u64 ((f ((j - 1) / 4)).txn : Int) else
  if (j - 1) % 4 = 2 then .int .u64 ((f ((j - 1) / 4)).turn : Int) else
  .int .u32 (bi (f ((j - 1) / 4)).dead)
def tA (many : Nat) (f : Nat → Sl) : Array Value := ((List.range 505).map (tcell many f)).toArray
theorem tA_size (many : Nat) (f : Nat → Sl) : (tA many f).size = 505 := by simp [tA]
theorem tA_at (many : Nat) (f : Nat → Sl) (j : Nat) (h : j < 505) : (tA many f)[j]? = some (tcell many f j) := by simp [tA, h]
/-- the table lies in block B -/
def Tb (w : World) (B many : Nat) (f : Nat → Sl) : Prop :=
  w.heap[B]? = some (.cells (tA many f) 89 (0, 0)) ∧ many ≤ 126 ∧ ∀ i, (f i).txn < 18446744073709551616 ∧ (f i).turn < 18446744073709551616
def up (f : Nat → Sl) (i : Nat) (s : Sl) : Nat → Sl := fun k => if k = i then s else f k
theorem Tb.many {w : World} {B many : Nat} {f : Nat → Sl} (h : Tb w B many f) : w.cell? ⟨B, 0, none⟩ = some (.int .i64 (many : Int)) := by
  rw [cell_of_row w B 0 _ _ _ h.1, tA_at _ _ _ (by omega)]; rfl
theorem Tb.is {w : World} {B many : Nat} {f : Nat → Sl} (h : Tb w B many f) (i : Nat) (hi : i < 126) : w.cell? ⟨B, 1 + i * 4, none⟩ = some (.int .u32 (bi (f i).is)) := by
  rw [cell_of_row w B _ _ _ _ h.1, tA_at _ _ _ (by omega)]
  simp [tcell]
theorem Tb.txn {w : World} {B many : Nat} {f : Nat → Sl} (h : Tb w B many f) (i : Nat) (hi : i < 126) : w.cell? ⟨B, 1 + i * 4 + 1, none⟩ = some (.int .u64 ((f i).txn : Int)) := by
  rw [cell_of_row w B _ _ _ _ h.1, tA_at _ _ _ (by omega)]
  simp only [tcell]
  rw [if_neg (by omega), show (1 + i * 4 + 1 - 1) % 4 = 1 by omega, show (1 + i * 4 + 1 - 1) / 4 = i by omega]; simp
theorem Tb.turn {w : World} {B many : Nat} {f : Nat → Sl} (h : Tb w B many f) (i : Nat) (hi : i < 126) : w.cell? ⟨B, 1 + i * 4 + 2, none⟩ = some (.int .u64 ((f i).turn : Int)) := by
  rw [cell_of_row w B _ _ _ _ h.1, tA_at _ _ _ (by omega)]
  simp only [tcell]
  rw [if_neg (by omega), show (1 + i * 4 + 2 - 1) % 4 = 2 by omega, show (1 + i * 4 + 2 - 1) / 4 = i by omega]; simp
theorem Tb.dead {w : World} {B many : Nat} {f : Nat → Sl} (h : Tb w B many f) (i : Nat) (hi : i < 126) : w.cell? ⟨B, 1 + i * 4 + 3, none⟩ = some (.int .u32 (bi (f i).dead)) := by
  rw [cell_of_row w B _ _ _ _ h.1, tA_at _ _ _ (by omega)]
  simp only [tcell]
  rw [if_neg (by omega), show (1 + i * 4 + 3 - 1) % 4 = 3 by omega, show (1 + i * 4 + 3 - 1) / 4 = i by omega]; simp
theorem Tb.free {w : World} {B many : Nat} {f : Nat → Sl} (h : Tb w B many f) (j : Nat) : w.frozen? ⟨B, j, none⟩ = false := by
  simp [World.frozen?, h.1]
def live (f : Nat → Sl) : Nat → Nat
  | 0 => 0
  | n + 1 => live f n + if (f n).is = true then 1 else 0
theorem live_le (f : Nat → Sl) (n : Nat) : live f n ≤ n := by
  induction n with
  | zero => exact Nat.le_refl _
  | succ n ih => simp only [live]; split <;> omega
/-- block B alone may have turned, besides new blocks -/
def Kp (B : Nat) (w w' : World) : Prop := w.grownBy w' (some B)
theorem Kp.of_below {B : Nat} {w w' : World} (h : Below w.heap.size w w') : Kp B w w' := ⟨h.os, h.tape, h.output, h.size, fun k hk _ => h.block k hk⟩
theorem Kp.refl (B : Nat) (w : World) : Kp B w w := Kp.of_below (Below.refl _ _)
theorem Kp.trans {B : Nat} {a b c : World} (h : Kp B a b) (k : Kp B b c) : Kp B a c :=
  ⟨k.os.trans h.os, k.tape.trans h.tape, k.output.trans h.output, Nat.le_trans h.size k.size, fun i hi hn => (k.block i (Nat.lt_of_lt_of_le hi h.size) hn).trans (h.block i hi hn)⟩
theorem Kp.drew {B : Nat} {a b : World} (h : Kp B a b) : Kp B a b.drew := ⟨h.os, h.tape, h.output, h.size, h.block⟩
theorem Kp.set (B j : Nat) (w : World) (v : Value) : Kp B w (w.setCell ⟨B, j, none⟩ v) :=
  ⟨rfl, rfl, rfl, by simp [World.setCell], fun k _ hn => Below.heap_setCell _ _ _ _ (fun e => hn (by rw [e]))⟩
theorem Kp.below {B B0 : Nat} {w0 w w' : World} (h : Below B0 w0 w) (k : Kp B w w') (hB : B0 ≤ B) (hs : B0 ≤ w.heap.size) : Below B0 w0 w' :=
  h.grown k hs (fun j hj => by cases hj; exact hB)
theorem Tb.lt {w : World} {B many : Nat} {f : Nat → Sl} (h : Tb w B many f) : B < w.heap.size := (Array.getElem?_eq_some_iff.1 h.1).1
theorem Tb.below {w w' : World} {B many : Nat} {f : Nat → Sl} (h : Tb w B many f) (hb : Below w.heap.size w w') : Tb w' B many f := by
  refine ⟨?_, h.2⟩
  rw [hb.block B h.lt]; exact h.1
theorem Tb.drew {w : World} {B many : Nat} {f : Nat → Sl} (h : Tb w B many f) : Tb w.drew B many f := h
theorem set_blk {w : World} {B i : Nat} {A : Array Value} {T : TypeId} {fr : Nat × Nat} (h : w.heap[B]? = some (.cells A T fr)) (v : Value) : (w.setCell ⟨B, i, none⟩ v).heap[B]? = some (.cells (A.setIfInBounds i v) T fr) := by
  simp [World.setCell, Array.getElem?_modify, h]
theorem tA_set (many : Nat) (f : Nat → Sl) (i c : Nat) (_hi : i < 126) (_hc : c < 4) (s : Sl) (v : Value) (hv : tcell many (up f i s) (1 + i * 4 + c) = v) (ho : ∀ d, d < 4 → d ≠ c → tcell many (up f i s) (1 + i * 4 + d) = tcell many f (1 + i * 4 + d)) :
    (tA many f).setIfInBounds (1 + i * 4 + c) v = tA many (up f i s) := by
  apply Array.ext
  · simp [tA]
  · intro j h1 h2
    rw [Array.getElem_setIfInBounds (by rw [tA_size]; simpa [tA_size] using h2)]
    simp only [tA, List.getElem_toArray, List.getElem_map, List.getElem_range]
    by_cases e : 1 + i * 4 + c = j
    · rw [if_pos e, ← e, hv]
    · rw [if_neg e]
      by_cases h0 : j = 0
      · subst h0; rfl
      · by_cases hq : (j - 1) / 4 = i
        · have := ho ((j - 1) % 4) (Nat.mod_lt _ (by omega)) (by omega)
          rw [show 1 + i * 4 + (j - 1) % 4 = j by omega] at this
          exact this.symm
        · simp [tcell, up, hq]
theorem tcell0 (many : Nat) (f : Nat → Sl) (i : Nat) : tcell many f (1 + i * 4 + 0) = .int .u32 (bi (f i).is) := by
  simp only [tcell]; rw [if_neg (by omega), show (1 + i * 4 + 0 - 1) % 4 = 0 by omega, show (1 + i * 4 + 0 - 1) / 4 = i by omega]; simp
theorem tcell1 (many : Nat) (f : Nat → Sl) (i : Nat) : tcell many f (1 + i * 4 + 1) = .int .u64 ((f i).txn : Int) := by
  simp only [tcell]; rw [if_neg (by omega), show (1 + i * 4 + 1 - 1) % 4 = 1 by omega, show (1 + i * 4 + 1 - 1) / 4 = i by omega]; simp
theorem tcell2 (many : Nat) (f : Nat → Sl) (i : Nat) : tcell many f (1 + i * 4 + 2) = .int .u64 ((f i).turn : Int) := by
  simp only [tcell]; rw [if_neg (by omega), show (1 + i * 4 + 2 - 1) % 4 = 2 by omega, show (1 + i * 4 + 2 - 1) / 4 = i by omega]; simp
theorem tcell3 (many : Nat) (f : Nat → Sl) (i : Nat) : tcell many f (1 + i * 4 + 3) = .int .u32 (bi (f i).dead) := by
  simp only [tcell]; rw [if_neg (by omega), show (1 + i * 4 + 3 - 1) % 4 = 3 by omega, show (1 + i * 4 + 3 - 1) / 4 = i by omega]; simp
theorem up_same (f : Nat → Sl) (i : Nat) (s : Sl) : up f i s i = s := by simp [up]
theorem Tb.set {w : World} {B many : Nat} {f : Nat → Sl} (h : Tb w B many f) (i c : Nat) (hi : i < 126) (hc : c < 4) (s : Sl) (v : Value) (hs : s.txn < 18446744073709551616 ∧ s.turn < 18446744073709551616)
    (hv : tcell many (up f i s) (1 + i * 4 + c) = v) (ho : ∀ d, d < 4 → d ≠ c → tcell many (up f i s) (1 + i * 4 + d) = tcell many f (1 + i * 4 + d)) : Tb (w.setCell ⟨B, 1 + i * 4 + c, none⟩ v) B many (up f i s) := by
  refine ⟨?_, h.2.1, fun k => ?_⟩
  · rw [set_blk h.1, tA_set many f i c hi hc s v hv ho]
  · by_cases e : k = i
    · subst e; rw [up_same]; exact hs
    · simp only [up, if_neg e]; exact h.2.2 k
theorem Tb.setIs {w : World} {B many : Nat} {f : Nat → Sl} (h : Tb w B many f) (i : Nat) (hi : i < 126) (b : Bool) : Tb (w.setCell ⟨B, 1 + i * 4, none⟩ (.int .u32 (bi b))) B many (up f i { f i with is := b }) := by
  refine h.set i 0 hi (by omega) _ _ (h.2.2 i) (by rw [tcell0, up_same]) (fun d hd hn => ?_)
  match d with
  | 0 => omega
  | 1 => rw [tcell1, tcell1, up_same]
  | 2 => rw [tcell2, tcell2, up_same]
  | 3 => rw [tcell3, tcell3, up_same]
  | d + 4 => omega
theorem Tb.setTxn {w : World} {B many : Nat} {f : Nat → Sl} (h : Tb w B many f) (i : Nat) (hi : i < 126) (x : Nat) (hx : x < 18446744073709551616) : Tb (w.setCell ⟨B, 1 + i * 4 + 1, none⟩ (.int .u64 (x : Int))) B many (up f i { f i with txn := x }) := by
  refine h.set i 1 hi (by omega) _ _ ⟨hx, (h.2.2 i).2⟩ (by rw [tcell1, up_same]) (fun d hd hn => ?_)
  match d with
  | 0 => rw [tcell0, tcell0, up_same]
  | 1 => omega
  | 2 => rw [tcell2, tcell2, up_same]
  | 3 => rw [tcell3, tcell3, up_same]
  | d + 4 => omega
theorem Tb.setTurn {w : World} {B many : Nat} {f : Nat → Sl} (h : Tb w B many f) (i : Nat) (hi : i < 126) (x : Nat) (hx : x < 18446744073709551616) : Tb (w.setCell ⟨B, 1 + i * 4 + 2, none⟩ (.int .u64 (x : Int))) B many (up f i { f i with turn := x }) := by
  refine h.set i 2 hi (by omega) _ _ ⟨(h.2.2 i).1, hx⟩ (by rw [tcell2, up_same]) (fun d hd hn => ?_)
  match d with
  | 0 => rw [tcell0, tcell0, up_same]
  | 1 => rw [tcell1, tcell1, up_same]
  | 2 => omega
  | 3 => rw [tcell3, tcell3, up_same]
  | d + 4 => omega
theorem Tb.setDead {w : World} {B many : Nat} {f : Nat → Sl} (h : Tb w B many f) (i : Nat) (hi : i < 126) (b : Bool) : Tb (w.setCell ⟨B, 1 + i * 4 + 3, none⟩ (.int .u32 (bi b))) B many (up f i { f i with dead := b }) := by
  refine h.set i 3 hi (by omega) _ _ (h.2.2 i) (by rw [tcell3, up_same]) (fun d hd hn => ?_)
  match d with
  | 0 => rw [tcell0, tcell0, up_same]
  | 1 => rw [tcell1, tcell1, up_same]
  | 2 => rw [tcell2, tcell2, up_same]
  | 3 => omega
  | d + 4 => omega
theorem slots_any (B many : Nat) (f : Nat → Sl) (w : World) (h : Tb w B many f) : Calls Try.prog 41 #[.pointer (some ⟨B, 0, none⟩)] w fun e w' => e = .returned (.int .i64 (many : Int)) ∧ w = w' := by
  have hm := h.many
  go_enter Try.func41, Try.ntmps41
  go_wp2
  go_ret
  exact ⟨rfl, rfl⟩
theorem slots_nil (w : World) : Calls Try.prog 41 #[.pointer none] w fun e w' => e = .returned (.int .i64 0) ∧ w = w' := by
  go_enter Try.func41, Try.ntmps41
  go_wp2
  go_ret
  exact ⟨rfl, rfl⟩
def zs : Nat → Sl := fun _ => ⟨false, 0, 0, false⟩
theorem zero89 (w : World) : Sem.run Try.prog (zeroValue 89) w = .ok (.agg (tA 0 zs)) w := by kernel_rfl
theorem tA_many (n : Nat) (f : Nat → Sl) : (tA 0 f).setIfInBounds 0 (.int .i64 (n : Int)) = tA n f := by
  apply Array.ext
  · simp [tA]
  · intro i h1 h2
    rw [Array.getElem_setIfInBounds (by rw [tA_size]; simpa [tA_size] using h2)]
    simp only [tA, List.getElem_toArray, List.getElem_map, List.getElem_range]
    by_cases e : i = 0
    · subst e; rfl
    · rw [if_neg (by omega)]; simp [tcell, e]
theorem tA_ne (n : Nat) (f : Nat → Sl) : ¬ tA n f = #[] := by
  intro h
  have := congrArg Array.size h
  rw [tA_size] at this; simp at this
theorem build89 (n : Nat) (w : World) : Sem.run Try.prog (Instr.build 89 #[(0, .int .i64 (n : Int))]) w = .ok (.agg (tA n zs)) w := by
  have h1 := zero89
  have h2 := tA_many n zs
  have h3 := tA_ne 0 zs
  go_simp
set_option maxRecDepth 100000 in
set_option maxHeartbeats 400000 in
theorem new_yes (n : Nat) (h1 : 1 ≤ n) (h2 : n ≤ 126) (w : World) : Calls Try.prog 17 #[.int .i64 (n : Int)] w fun e w' => e = .returned (.tuple #[.pointer (some ⟨w.heap.size, 0, none⟩), .int .i64 0]) ∧ w.alloc (.cells (tA n zs) 89) = w' := by
  have q1 : decide ((n : Int) < 1) = false := by simp; omega
  have q2 : decide (126 < (n : Int)) = false := by simp; omega
  have g1 := zero89
  have g2 := tA_many n zs
  have g3 := tA_ne 0 zs
  have H := Lib.hid (And.intro h1 h2)
  clear h1 h2
  go_enter Try.func17, Try.ntmps17
  go_wp2
  go_ret2
  exact ⟨rfl, rfl⟩

theorem new_no (n : Int) (h : n < 1 ∨ 126 < n) (w : World) : Calls Try.prog 17 #[.int .i64 n] w fun e w' => e = .returned (.tuple #[.pointer none, .int .i64 1]) ∧ w = w' := by
  rcases h with h | h
  · have q1 : decide (n < 1) = true := by simpa using h
    clear h
    go_enter Try.func17, Try.ntmps17
    go_wp2
    go_ret2
    exact ⟨rfl, rfl⟩
  · have q1 : decide (n < 1) = false := by simp; omega
    have q2 : decide (126 < n) = true := by simpa using h
    clear h
    go_enter Try.func17, Try.ntmps17
    go_wp2
    go_ret2
    exact ⟨rfl, rfl⟩
set_option maxHeartbeats 400000 in
theorem live_any (B many : Nat) (f : Nat → Sl) (w : World) (h : Tb w B many f) : Calls Try.prog 31 #[.pointer (some ⟨B, 0, none⟩)] w fun e w' => e = .returned (.int .i64 (live f many : Nat)) ∧ w = w' := by
  have H := Lib.hid h
  have hm : (many : Int) ≤ 126 := by have := h.2.1; omega
  clear h
  go_enter Try.func31, Try.ntmps31
  go_wp2_with (go_at_call 41; refine (slots_any _ _ f _ H.out).mono ?_; rintro e w' ⟨rfl, rfl⟩)
  go_loop [3, 7] (fun n i => ∃ k : Nat, k ≤ many ∧ i = .int .i64 k ∧ n = .int .i64 (live f k : Nat)) (fun _ i => many - (intOf i).toNat)
  case atStart => exact ⟨0, by omega, rfl, rfl⟩
  case round =>
    obtain ⟨k, hk, rfl, rfl⟩ := hrel
    by_cases hlt : k < many
    · have hlb : ((live f k : Nat) : Int) ≤ 126 := by have := live_le f k; omega
      have hls : live f (k + 1) = live f k + if (f k).is = true then 1 else 0 := rfl
      have HLS := Lib.hid hls
      clear hls
      generalize live f k = n at *
      cases hb : (f k).is
      · have hbl := bload ⟨B, 1 + k * 4, none⟩ false w (by rw [← hb]; exact H.out.is k (by omega))
        have HBL := Lib.hid hbl
        have HLB := Lib.hid hb
        clear hbl hb
        go_wp2_with (go_at_call 40; refine HBL.out.mono ?_; rintro e w' ⟨rfl, rfl⟩)
        go_round
        case rel => exact ⟨k + 1, by omega, by go_num, by rw [HLS.out, HLB.out]; rfl⟩
        case measure => simp [intOf]; omega
      · have hbl := bload ⟨B, 1 + k * 4, none⟩ true w (by rw [← hb]; exact H.out.is k (by omega))
        have HBL := Lib.hid hbl
        have HLB := Lib.hid hb
        clear hbl hb
        go_wp2_with (go_at_call 40; refine HBL.out.mono ?_; rintro e w' ⟨rfl, rfl⟩)
        go_round
        case rel => exact ⟨k + 1, by omega, by go_num, by rw [HLS.out, HLB.out]; go_num⟩
        case measure => simp [intOf]; omega
    · obtain rfl : k = many := by omega
      go_wp2
      go_ret
      exact ⟨rfl, rfl⟩
end Go.Proofs.Ytlgammcbhgmpoaa
