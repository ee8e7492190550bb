/- The walk over ReadersPlays. -/
import Derived.Test.YtlgammcbhgmpoaaRdP
import Derived.Deep.LoopGhost
import Derived.Deep.CutBlock
import Derived.Deep.DeepCutAuto
namespace Go.Proofs.Ytlgammcbhgmpoaa
open Go.RowKit
/-- what is done came in -/
def Acts (w : World) (a : Option Addr) (n : Nat) (K A : Nat → Int) (X T : Nat → Nat) : Prop :=
  ∀ i, i < n → ∃ b off, a = some ⟨b, off, none⟩ ∧ b < w.heap.size ∧ w.cell? ⟨b, off + i * 4, none⟩ = some (.int .i64 (K i)) ∧ w.cell? ⟨b, off + i * 4 + 1, none⟩ = some (.int .i64 (A i)) ∧
    w.cell? ⟨b, off + i * 4 + 2, none⟩ = some (.int .u64 (X i : Int)) ∧ w.cell? ⟨b, off + i * 4 + 3, none⟩ = some (.int .u64 (T i : Int))
set_option maxRecDepth 100000 in
set_option maxHeartbeats 2000000 in
theorem walk8_nil (z : Int) (a : Option Addr) (len cap : Nat) (w : World) (hz : z < 1 ∨ 126 < z) :
    Calls Try.prog 8 #[.int .i64 z, .slice a len cap] w fun e w' => e = .returned (.bool true) ∧ Below w.heap.size w w' := by
  have HZ := Lib.hid hz
  clear hz
  go_enter Try.func8, Try.ntmps8
  go_wp2_with fail
  refine (awake9 w).mono ?_
  rintro e w1 ⟨rfl, hb1⟩
  have HB1 := Lib.hid hb1
  clear hb1
  go_simp
  go_wp2_with (first | (go_at_call 17; refine (new_no z HZ.out _).mono ?_; rintro e w2 ⟨rfl, rfl⟩) | (go_at_call 18; refine (new18_no z _ HZ.out).mono ?_; rintro e w2 ⟨rfl, rfl⟩))
  go_loop [11] (fun s => s = .int .i64 0) (fun _ => 0)
  case atStart => rfl
  case round =>
    obtain rfl := hrel
    by_cases hl : 0 < len
    · have hli : (0 : Int) < len := by omega
      clear hl
      go_wp2_with (first | (go_at_call 19; refine (begin_nil _ _).mono ?_; rintro e wt1 ⟨rfl, ht1⟩) | (go_at_call 27; refine (txn_nil _ _ _).mono ?_; rintro e wt2 ⟨rfl, ht2⟩) | (go_at_call 21; refine (end_nil _ _ _).mono ?_; rintro e wt3 ⟨rfl, ht3⟩) | (go_at_call 23; refine (dead_nil _ _).mono ?_; rintro e wt4 ⟨rfl, ht4⟩) | (go_at_call 25; refine (clear_nil _).mono ?_; rintro e wt5 ⟨rfl, rfl⟩) | (go_at_call 31; refine (live_nil _).mono ?_; rintro e wt6 ⟨rfl, rfl⟩) | (go_at_call 29; refine (oldest_nil _ _).mono ?_; rintro e wt7 ⟨rfl, rfl⟩))
      go_ret
      have hs0 := HB1.out.size
      have hs1 := ht1.size
      have hs2 := ht2.size
      have hs3 := ht3.size
      simp at hs2
      exact ⟨rfl, ((((HB1.out.trans (ht1.mono hs0)).alloc (by omega) _).trans (ht2.mono (by simp; omega))).trans (ht3.mono (by omega))).trans (ht4.mono (by omega))⟩
    · obtain rfl : len = 0 := by omega
      go_wp2_with (first | (go_at_call 19; refine (begin_nil _ _).mono ?_; rintro e wt1 ⟨rfl, ht1⟩) | (go_at_call 27; refine (txn_nil _ _ _).mono ?_; rintro e wt2 ⟨rfl, ht2⟩) | (go_at_call 21; refine (end_nil _ _ _).mono ?_; rintro e wt3 ⟨rfl, ht3⟩) | (go_at_call 23; refine (dead_nil _ _).mono ?_; rintro e wt4 ⟨rfl, ht4⟩) | (go_at_call 25; refine (clear_nil _).mono ?_; rintro e wt5 ⟨rfl, rfl⟩) | (go_at_call 31; refine (live_nil _).mono ?_; rintro e wt6 ⟨rfl, rfl⟩) | (go_at_call 29; refine (oldest_nil _ _).mono ?_; rintro e wt7 ⟨rfl, rfl⟩))
      go_ret
      have hs0 := HB1.out.size
      have hs1 := ht1.size
      have hs2 := ht2.size
      have hs3 := ht3.size
      simp at hs2
      exact ⟨rfl, ((((HB1.out.trans (ht1.mono hs0)).alloc (by omega) _).trans (ht2.mono (by simp; omega))).trans (ht3.mono (by omega))).trans (ht4.mono (by omega))⟩

end Go.Proofs.Ytlgammcbhgmpoaa
