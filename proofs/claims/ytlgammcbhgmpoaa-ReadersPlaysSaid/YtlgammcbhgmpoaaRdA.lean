/- The walks over sync/atomic's methods that readers uses. -/
import Derived.Test.YtlgammcbhgmpoaaRows
import Derived.WalkKit
import Derived.WalkSpells
import Derived.WalkLawsBesides
import Derived.Lib.Hide
import Derived.Laws.LoneSync
import Derived.RegionCalls
import Derived.Deep.QuietTactic
import Derived.BigQuiet
import Derived.Deep.RegionHeld3
namespace Go.Proofs.Ytlgammcbhgmpoaa
open Go.RowKit
def bi (b : Bool) : Int := if b = true then 1 else 0
theorem b32_any (b : Bool) (w : World) : Calls Try.prog 44 #[.bool b] w fun e w' => e = .returned (.int .u32 (bi b)) ∧ w = w' := by
  cases b
  · go_enter Try.func44, Try.ntmps44
    go_wp2
    go_ret
    exact ⟨rfl, rfl⟩
  · go_enter Try.func44, Try.ntmps44
    go_wp2
    go_ret
    exact ⟨rfl, rfl⟩
theorem bload (p : Addr) (b : Bool) (w : World) (hc : w.cell? p = some (.int .u32 (bi b))) : Calls Try.prog 40 #[.pointer (some p)] w fun e w' => e = .returned (.bool b) ∧ w = w' := by
  have hl := run_call_load (P := Try.prog) Try.func48 (by kernel_rfl) (by kernel_rfl) (by kernel_rfl) .u32 (by kernel_rfl) hc
  clear hc
  cases b
  · change _ = Result.ok (Next.value (.int .u32 0)) w at hl
    go_enter Try.func40, Try.ntmps40
    go_wp2
    go_ret
    exact ⟨rfl, rfl⟩
  · change _ = Result.ok (Next.value (.int .u32 1)) w at hl
    go_enter Try.func40, Try.ntmps40
    go_wp2
    go_ret
    exact ⟨rfl, rfl⟩
theorem uload (p : Addr) (x : Int) (w : World) (hc : w.cell? p = some (.int .u64 x)) : Calls Try.prog 42 #[.pointer (some p)] w fun e w' => e = .returned (.int .u64 x) ∧ w = w' := by
  have hl := run_call_load (P := Try.prog) Try.func49 (by kernel_rfl) (by kernel_rfl) (by kernel_rfl) .u64 (by kernel_rfl) hc
  clear hc
  go_enter Try.func42, Try.ntmps42
  go_wp2
  go_ret
  exact ⟨rfl, rfl⟩
theorem ustore (p : Addr) (x y : Int) (w : World) (hc : w.cell? p = some (.int .u64 x)) (hz : w.frozen? p = false) : Calls Try.prog 35 #[.pointer (some p), .int .u64 y] w fun e w' => e = .returned (.tuple #[]) ∧ w.setCell p (.int .u64 y) = w' := by
  have hl := run_call_store (P := Try.prog) Try.func45 (by kernel_rfl) (by kernel_rfl) (by kernel_rfl) (by kernel_rfl) (k := .u64) (y := y) hc hz
  clear hc hz
  go_enter Try.func35, Try.ntmps35
  go_wp2
  go_end0
  exact ⟨rfl, rfl⟩
theorem uadd (p : Addr) (x : Nat) (w : World) (_hx : x < 18446744073709551616) (hc : w.cell? p = some (.int .u64 (x : Int))) (hz : w.frozen? p = false) :
    Calls Try.prog 37 #[.pointer (some p), .int .u64 1] w fun e w' => e = .returned (.int .u64 (((x + 1) % 18446744073709551616 : Nat) : Int)) ∧ w.setCell p (.int .u64 (((x + 1) % 18446744073709551616 : Nat) : Int)) = w' := by
  have hs : (Op.intArith .add .u64 (x : Int) 1).run Try.prog w = .ok (.int .u64 (((x + 1) % 18446744073709551616 : Nat) : Int)) w := by
    have h1 : (((x + 1) % 18446744073709551616 : Nat) : Int) = IntKind.u64.wrap ((x : Int) + 1) := by
      rw [IntKind.wrap_u64]; omega
    rw [h1]
    simp [go_sem]
  have hl := run_call_add (P := Try.prog) Try.func47 (by kernel_rfl) (by kernel_rfl) (by kernel_rfl) .u64 (by kernel_rfl) hc hz hs
  generalize (((x + 1) % 18446744073709551616 : Nat) : Int) = y at *
  clear hc hz hs
  go_enter Try.func37, Try.ntmps37
  go_wp2
  go_ret
  exact ⟨rfl, rfl⟩
theorem bstore (p : Addr) (x : Int) (b : Bool) (w : World) (hc : w.cell? p = some (.int .u32 x)) (hz : w.frozen? p = false) : Calls Try.prog 36 #[.pointer (some p), .bool b] w fun e w' => e = .returned (.tuple #[]) ∧ (w.setCell p (.int .u32 (bi b))).drew = w' := by
  have hl : ∀ w', w'.cell? p = some (.int .u32 x) → w'.frozen? p = false → Sem.run Try.prog (callFunc 46 #[.pointer (some p), .int .u32 (bi b)]) w' = Result.ok (Next.value (.tuple #[])) (w'.setCell p (.int .u32 (bi b))) := fun w' hc hz =>
    run_call_store (P := Try.prog) Try.func46 (by kernel_rfl) (by kernel_rfl) (by kernel_rfl) (by kernel_rfl) (k := .u32) (y := bi b) hc hz
  generalize hbi : bi b = n at *
  have HB := Lib.hid hbi
  clear hbi
  have hb : ∀ w', Calls Try.prog 44 #[.bool b] w' fun e w'' => e = .returned (.int .u32 n) ∧ w' = w'' := fun w' => by rw [← HB.out]; exact b32_any b w'
  have Hb := Lib.hid hb
  clear hb
  go_enter Try.func36, Try.ntmps36
  go_wp2
  go_region_with (go_at_call 44; refine (Hb.out _).mono ?_; rintro e w' ⟨rfl, rfl⟩)
  go_wp2
  go_end0
  exact ⟨rfl, rfl⟩
theorem bcas_hit (p : Addr) (w : World) (hc : w.cell? p = some (.int .u32 0)) (hz : w.frozen? p = false) :
    Calls Try.prog 34 #[.pointer (some p), .bool false, .bool true] w fun e w' => e = .returned (.bool true) ∧ (w.setCell p (.int .u32 1)).drew = w' := by
  have hl : ∀ w', w'.cell? p = some (.int .u32 0) → w'.frozen? p = false → Sem.run Try.prog (callFunc 43 #[.pointer (some p), .int .u32 0, .int .u32 1]) w' = Result.ok (Next.value (.bool true)) (w'.setCell p (.int .u32 1)) := fun w' hc hz =>
    run_call_cas_hit (P := Try.prog) Try.func43 (by kernel_rfl) (by kernel_rfl) (by kernel_rfl) .u32 (by kernel_rfl) hc hz
  have hb0 : bi false = 0 := rfl
  have hb1 : bi true = 1 := rfl
  go_enter Try.func34, Try.ntmps34
  go_wp2
  go_region_with (go_at_call 44; refine (b32_any _ _).mono ?_; rintro e w' ⟨rfl, rfl⟩)
  all_goals
    go_wp2
    go_ret
    exact ⟨rfl, rfl⟩
theorem bcas_miss (p : Addr) (w : World) (hc : w.cell? p = some (.int .u32 1)) (hz : w.frozen? p = false) :
    Calls Try.prog 34 #[.pointer (some p), .bool false, .bool true] w fun e w' => e = .returned (.bool false) ∧ w.drew = w' := by
  have hl : ∀ w', w'.cell? p = some (.int .u32 1) → w'.frozen? p = false → Sem.run Try.prog (callFunc 43 #[.pointer (some p), .int .u32 0, .int .u32 1]) w' = Result.ok (Next.value (.bool false)) w' := fun w' hc hz =>
    run_call_cas_miss (P := Try.prog) Try.func43 (by kernel_rfl) (by kernel_rfl) (by kernel_rfl) .u32 (by kernel_rfl) hc hz (by decide)
  have hb0 : bi false = 0 := rfl
  have hb1 : bi true = 1 := rfl
  go_enter Try.func34, Try.ntmps34
  go_wp2
  go_region_with (go_at_call 44; refine (b32_any _ _).mono ?_; rintro e w' ⟨rfl, rfl⟩)
  all_goals
    go_wp2
    go_ret
    exact ⟨rfl, rfl⟩
end Go.Proofs.Ytlgammcbhgmpoaa
