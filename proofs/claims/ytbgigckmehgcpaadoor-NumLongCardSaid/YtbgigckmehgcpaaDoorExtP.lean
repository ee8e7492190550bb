/- num.power at digits: its number. -/
import Derived.Test.YtbgigckmehgcpaaDoorExtA
import Derived.Test.YtbgigckmehgcpaaDoorNumP
import Derived.WalkKit
import Derived.Laws.RangeAny
import Derived.LoopTactic
namespace Go.Proofs.YtbgigckmehgcpaaDoor
open Go.RowKit Go.Proofs.YtbgigckmehgcpaaDoorW.PrintWords
theorem trimLeft_zero (l : List UInt8) : Lib.trimLeftS l [48] = NumP.lstrip l := by
  unfold Lib.trimLeftS NumP.lstrip
  congr 1; funext c
  rw [Bool.eq_iff_iff]; simp [NumP.isZ]
theorem ret_i64 {a b : Int} (h : a = b) : Ending.returned (.int .i64 a) = .returned (.int .i64 b) := by rw [h]
theorem val_take (l : List UInt8) (k : Nat) (h : k < l.length) : NumP.val (l.take (k + 1)) = 10 * NumP.val (l.take k) + ((l[k].toNat : Int) - 48) := by
  unfold NumP.val; rw [List.take_succ_eq_append_getElem h, List.foldl_append]; rfl
theorem val_bd (l : List UInt8) (hd : l.all NumP.isD = true) : ∀ k, k ≤ l.length → 0 ≤ NumP.val (l.take k) ∧ NumP.val (l.take k) < 10 ^ k
  | 0, _ => by simp [NumP.val]
  | k + 1, h => by
    have ih := val_bd l hd k (by omega)
    rw [val_take l k (by omega)]
    have hc : NumP.isD l[k] = true := List.all_eq_true.1 hd _ (List.getElem_mem _)
    simp only [NumP.isD, decide_eq_true_eq] at hc
    have : (10 : Int) ^ (k + 1) = 10 * 10 ^ k := by rw [Int.pow_succ]; omega
    omega
theorem pow_le (k : Nat) (h : k ≤ 10) : (10 : Int) ^ k ≤ 10000000000 := by
  match k, h with
  | 0, _ => decide
  | 1, _ => decide
  | 2, _ => decide
  | 3, _ => decide
  | 4, _ => decide
  | 5, _ => decide
  | 6, _ => decide
  | 7, _ => decide
  | 8, _ => decide
  | 9, _ => decide
  | 10, _ => decide
def num_power.f (a0 : ByteArray) : Option Int := if a0.data.toList.all NumP.isD = true then some (NumP.pow a0.data.toList) else none
theorem dropAll (p q : UInt8 → Bool) (l : List UInt8) (h : l.all q = true) : (l.dropWhile p).all q = true := by
  rw [List.all_eq_true] at *
  intro c hc
  exact h c ((List.dropWhile_sublist p).subset hc)
set_option maxRecDepth 100000 in
set_option maxHeartbeats 1000000 in
theorem num_power.calls (a0 : ByteArray) (r : Int) (w : World) (h : num_power.f a0 = some r) :
    Calls Tryd.prog 27 #[.string a0] w fun e w' => e = .returned (.int .i64 r) ∧ Below w.heap.size w w' := by
  unfold num_power.f at h
  split at h
  case isFalse => exact absurd h (by simp)
  rename_i hd
  obtain rfl := Option.some.inj h
  clear h
  have hT : strings_TrimLeft.f a0 ⟨#[48]⟩ = some ⟨(NumP.lstrip a0.data.toList).toArray⟩ := by
    unfold strings_TrimLeft.f
    rw [if_pos (by decide), trimLeft_zero]
  have hzd := dropAll NumP.isZ NumP.isD _ hd
  change (NumP.lstrip a0.data.toList).all NumP.isD = true at hzd
  unfold NumP.pow
  generalize NumP.lstrip a0.data.toList = z at *
  by_cases hlen : z.length > 10
  · rw [if_pos hlen]
    go_enter Tryd.func27, Tryd.ntmps27
    go_wp2_with fail
    refine (strings_TrimLeft.calls _ _ _ _ hT).mono ?_
    rintro e w1 ⟨rfl, hb⟩
    have HT := Lib.hid hT
    clear hT
    have hs : ((10 : Int) < ((⟨z.toArray⟩ : ByteArray).size : Int)) = True := by simp [ByteArray.size]; omega
    go_wp2
    go_ret
    exact ⟨rfl, hb⟩
  · rw [if_neg hlen]
    have hnl : z.length ≤ 10 := by omega
    clear hlen
    go_enter Tryd.func27, Tryd.ntmps27
    go_wp2_with fail
    refine (strings_TrimLeft.calls _ _ _ _ hT).mono ?_
    rintro e w1 ⟨rfl, hb⟩
    have HT := Lib.hid hT
    clear hT
    obtain ⟨s, hs⟩ : ∃ s : ByteArray, s = ⟨z.toArray⟩ := ⟨_, rfl⟩
    have hz : z = s.data.toList := by rw [hs]
    have hsz : s.size = z.length := by rw [hs]; simp [ByteArray.size]
    rw [← hs]
    subst hz
    clear hs HT
    have hle : (s.size : Int) ≤ 10 := by omega
    have HSZ := Lib.hid hsz
    clear hsz
    go_wp2
    go_loopw [3] (fun n w' => ∃ k : Nat, k ≤ s.size ∧ w' = w1.iter s k ∧ n = .int .i64 (NumP.val (s.data.toList.take k))) (fun _ w' => s.size - w'.iterPos w1.heap.size)
    case atStart => exact ⟨0, Nat.zero_le _, rfl, rfl⟩
    case round =>
      obtain ⟨k, hk, rfl, rfl⟩ := hrel
      have hb1 := val_bd s.data.toList hzd k (by have := HSZ.out; omega)
      have hp1 := pow_le k (by omega)
      have v0 : 0 ≤ NumP.val (s.data.toList.take k) := hb1.1
      have v1 : NumP.val (s.data.toList.take k) ≤ 10000000000 := by omega
      clear hb1 hp1
      by_cases hp : k < s.size
      · have hd1 : NumP.isD s[k] = true := List.all_eq_true.1 hzd _ (by exact List.getElem_mem (l := s.data.toList) (n := k) (by simpa using hp))
        simp only [NumP.isD, decide_eq_true_eq] at hd1
        have HV := Lib.hid (val_take s.data.toList k (by have := HSZ.out; omega))
        have hnx : ∀ ty, (Instr.next (.pointer (some ⟨w1.heap.size, 0, none⟩)) true ty).run Tryd.prog (w1.iter s k) = _ := fun ty => run_next_ascii w1 s k ty hp (by omega)
        have hc0 : 48 ≤ ((s[k]'hp).toNat : Int) := by omega
        have hc1 : ((s[k]'hp).toNat : Int) ≤ 57 := by omega
        clear hd1
        go_wp2
        go_roundw
        case rel => exact ⟨k + 1, by omega, rfl, by rw [HV.out]; simp; go_num⟩
        case measure => simp; omega
      · have hnx : ∀ ty, (Instr.next (.pointer (some ⟨w1.heap.size, 0, none⟩)) true ty).run Tryd.prog (w1.iter s k) = _ := fun ty => run_next_end w1 s k ty hp
        go_wp2
        go_ret
        refine ⟨?_, below_alloc hb _⟩
        rw [List.take_of_length_le (by have := HSZ.out; omega)]; rfl
end Go.Proofs.YtbgigckmehgcpaaDoor
