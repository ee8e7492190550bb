/- The statement ReadersSlots: as many readers begin as there are slots; one more does not; one that ended leaves its slot, the lowest such first; for every input. -/
import Derived.Test.YtlgammcbhgmpoaaRows
import Derived.WalkKit
import Derived.ProofKit
import Derived.OpenShut
import Derived.ShutString
import Derived.ChangeOld
import Derived.Below
import Derived.Test.YtlgammcbhgmpoaaRdL
import Derived.Deep.OwnRows
import Derived.Deep.RegionHeld3
namespace Go.Proofs.Ytlgammcbhgmpoaa.readersSlots
open Go.ChangeShapes Go.WideShapes Go.ChangeAt Go.RowKit
open Go.ChangeMaps (open_string shut_string)
set_option linter.unusedVariables false

theorem own : ownKnob Try.prog.godebug = none := by kernel_rfl
theorem laidOut : laidOutB Try.prog = true := by kernel_rfl

/-- WHAT THE WALK IS TOLD OF A SLICE OF INTEGERS THAT CAME IN: it is nil; or it leads to a row of 'cap' cells, the numbers 'zs' (the first 'len' are its elements, the rest its spare room), each fitting its kind. -/
def IsRow (k : IntKind) (w : World) (a : Option Addr) (len cap : Nat) (zs : List Int) : Prop :=
  (a = none ∧ len = 0 ∧ cap = 0 ∧ zs = []) ∨
  ∃ x, a = some x ∧ len ≤ cap ∧ cap ≤ maxLen ∧ zs.length = cap ∧ (∀ i, i < zs.length → w.cell? (x.add i) = some (.int k (zs.getD i 0))) ∧ ∀ n ∈ zs, (Lit.int k n).wf = true

theorem own_shape {w : World} {base : Nat} {e : TypeId} {size : Nat} {v : Value} {n : Nat} {xs : List Value} (h : w.ownsRow base e size v n xs) : ∃ a cap, v = .slice a n cap ∧ (0 < n → ∃ g, a = some ⟨g, 0, none⟩) := by
  rcases h.2 with ⟨rfl, rfl⟩ | ⟨g, cap, cur, rfl, _⟩
  · exact ⟨none, 0, rfl, fun h => absurd h (Nat.lt_irrefl _)⟩
  · exact ⟨_, cap, rfl, fun _ => ⟨g, rfl⟩⟩
/-- which slots have been let go by the first bytes -/
def frees (y : Nat → Nat) (n : Nat) : Nat → Nat → Bool
  | 0 => fun _ => false
  | j + 1 => fun i => frees y n j i || (y j % n == i)
def slotsT (fr : Nat → Bool) (n : Nat) : Nat → Sl := fun i => if i < n then ⟨!fr i, 5, 1, false⟩ else ⟨false, 0, 0, false⟩
def againT (fr : Nat → Bool) (n k : Nat) : Nat → Sl := fun i => if i < n then (if i < k ∧ fr i = true then ⟨true, 6, 2, false⟩ else ⟨!fr i, 5, 1, false⟩) else ⟨false, 0, 0, false⟩
theorem slotsT_zero (n : Nat) (y : Nat → Nat) : slotsT (frees y n 0) n = filled (fun _ => 5) n := by
  funext i; simp [slotsT, frees, filled]
theorem slotsT_at (fr : Nat → Bool) (n i : Nat) (h : i < n) : slotsT fr n i = ⟨!fr i, 5, 1, false⟩ := by simp [slotsT, h]
theorem slotsT_end (y : Nat → Nat) (n j : Nat) (hk : y j % n < n) : ended (slotsT (frees y n j) n) (y j % n) = slotsT (frees y n (j + 1)) n := by
  funext i
  unfold ended up
  by_cases e : i = y j % n
  · subst e; simp [slotsT, hk, frees]
  · rw [if_neg e]
    have : (y j % n == i) = false := beq_eq_false_iff_ne.2 (fun q => e q.symm)
    simp [slotsT, frees, this]
theorem frees_same (y : Nat → Nat) (n j : Nat) (h : frees y n j (y j % n) = true) : frees y n (j + 1) = frees y n j := by
  funext i
  simp only [frees]
  by_cases e : y j % n = i
  · subst e; rw [h]; simp
  · rw [beq_eq_false_iff_ne.2 e]; simp
theorem againT_zero (fr : Nat → Bool) (n : Nat) : againT fr n 0 = slotsT fr n := by
  funext i; simp [againT, slotsT]
theorem againT_skip (fr : Nat → Bool) (n k : Nat) (h : fr k = false) : againT fr n (k + 1) = againT fr n k := by
  funext i
  unfold againT
  by_cases e : i = k
  · subst e; simp [h]
  · by_cases q : i < k
    · simp [q, show i < k + 1 by omega]
    · simp [q, show ¬ i < k + 1 by omega]
theorem againT_hit (fr : Nat → Bool) (n k : Nat) (hk : k < n) (h : fr k = true) : begun (againT fr n k) k 6 = againT fr n (k + 1) := by
  funext i
  unfold begun up
  by_cases e : i = k
  · subst e; simp [againT, hk, h]
  · rw [if_neg e]
    unfold againT
    by_cases q : i < k
    · simp [q, show i < k + 1 by omega]
    · simp [q, show ¬ i < k + 1 by omega]
theorem againT_low (fr : Nat → Bool) (n k j : Nat) (hj : j < k) (hn : j < n) : (againT fr n k j).is = true := by
  unfold againT
  rw [if_pos hn]
  cases h : fr j
  · simp
  · simp [hj]
theorem againT_free (fr : Nat → Bool) (n k : Nat) (hk : k < n) (h : fr k = true) : againT fr n k k = ⟨false, 5, 1, false⟩ := by
  simp [againT, hk, h]
theorem live_all (f : Nat → Sl) (n : Nat) (h : ∀ i, i < n → (f i).is = true) : live f n = n := by
  induction n with
  | zero => rfl
  | succ n ih => rw [live, ih (fun i hi => h i (by omega)), h n (by omega)]; rfl
def fvals (fr : Nat → Bool) (n : Nat) : List Value := (List.range n).map fun i => Value.bool (fr i)
theorem fvals_at (fr : Nat → Bool) (n i : Nat) (h : i < n) : (fvals fr n)[i]? = some (.bool (fr i)) := by simp [fvals, h]
theorem fvals_set (y : Nat → Nat) (n j : Nat) (hk : y j % n < n) : (fvals (frees y n j) n).set (y j % n) (.bool true) = fvals (frees y n (j + 1)) n := by
  apply List.ext_getElem
  · simp [fvals]
  · intro i h1 h2
    rw [List.getElem_set]
    by_cases e : y j % n = i
    · rw [if_pos e]; simp [fvals, frees, e]
    · rw [if_neg e]
      have : (y j % n == i) = false := beq_eq_false_iff_ne.2 e
      simp [fvals, frees, this]
theorem made_zero (n : Nat) (z : Value) : madeCells #[z] n = (List.replicate n z).toArray := by
  unfold madeCells
  apply Array.ext
  · simp
  · intro i h1 h2
    simp [Nat.mod_one]
theorem made_own (w : World) (base n : Nat) (y : Nat → Nat) (hb : base ≤ w.heap.size) (hn : n ≤ maxLen) :
    (w.alloc (.cells (madeCells #[.bool false] n) 4)).ownsRow base 4 1 (.slice (some ⟨w.heap.size, 0, none⟩) n n) n (fvals (frees y n 0) n) := by
  refine ⟨by simp [fvals], .inr ⟨w.heap.size, n, madeCells #[.bool false] n, rfl, hb, ?_, Nat.le_refl _, hn, by simp [made_zero], ?_⟩⟩
  · show (w.heap.push _)[w.heap.size]? = _
    simp
  · rw [made_zero]
    apply List.ext_getElem
    · simp [fvals]
    · intro i h1 h2; simp [fvals, frees]
theorem kp_cell {B : Nat} {w w' : World} (h : Kp B w w') {b o : Nat} (hne : b ≠ B) (hb : b < w.heap.size) : w'.cell? ⟨b, o, none⟩ = w.cell? ⟨b, o, none⟩ :=
  World.cell?_of_block (h.block b hb (by simpa using hne))
set_option maxRecDepth 100000 in
set_option maxHeartbeats 4000000 in
theorem walk11 (m : Int) (a1 : Option Addr) (n1 cap1 : Nat) (y : Nat → Nat) (w : World)
    (hy : Uns .u8 w a1 n1 y) (by1 : ∀ i, y i < 256) :
    Calls Try.prog 11 #[.int .i64 m, .slice a1 n1 cap1] w fun e w' => e = .returned (.bool true) ∧ Below w.heap.size w w' := by
  have HY := Lib.hid hy
  have BY := Lib.hid by1
  clear hy by1
  by_cases h1 : m < 1
  · have q1 : decide (m < 1) = true := by simpa using h1
    have HN := Lib.hid (new_no m (.inl h1))
    clear h1
    go_enter Try.func11, Try.ntmps11
    go_wp2_with (first | (go_at_call 16; refine (awake9 _).mono ?_; rintro e w1 ⟨rfl, hb⟩) | (go_at_call 17; refine (HN.out _).mono ?_; rintro e w2 ⟨rfl, rfl⟩))
    go_ret
    exact ⟨rfl, hb⟩
  · by_cases h2 : 126 < m
    · have q1 : decide (m < 1) = false := by simpa using h1
      have q2 : decide (126 < m) = true := by simpa using h2
      have HN := Lib.hid (new_no m (.inr h2))
      clear h1 h2
      go_enter Try.func11, Try.ntmps11
      go_wp2_with (first | (go_at_call 16; refine (awake9 _).mono ?_; rintro e w1 ⟨rfl, hb⟩) | (go_at_call 17; refine (HN.out _).mono ?_; rintro e w2 ⟨rfl, rfl⟩))
      go_ret
      exact ⟨rfl, hb⟩
    · obtain ⟨n, rfl⟩ : ∃ n : Nat, m = (n : Int) := ⟨m.toNat, by omega⟩
      have N := Lib.hid (show 1 ≤ n ∧ n ≤ 126 by omega)
      have hnN : (n : Int) ≤ 1000 := by omega
      have hnP : (0 : Int) < (n : Int) := by omega
      obtain ⟨i0, hi, hz0, hz1, hz2⟩ := info_parts info47
      have HI := Lib.hid (And.intro hi (And.intro hz0 (And.intro hz1 hz2)))
      clear h1 h2 hi hz0 hz1 hz2
      go_enter Try.func11, Try.ntmps11
      go_wp2_with fail
      refine (awake9 _).mono ?_
      rintro e w1 ⟨rfl, hb1⟩
      have HB1 := Lib.hid hb1
      clear hb1
      go_simp
      go_wp2_with fail
      refine (new_tb n (by have := N.out; omega) (by have := N.out; omega) _ rfl _).mono ?_
      rintro e w2 ⟨rfl, ht2, hb2⟩
      have HT2 := Lib.hid ht2
      have HB2 := Lib.hid hb2
      clear ht2 hb2
      go_simp
      generalize hBB : w1.heap.size = B at *
      have HBB := Lib.hid hBB
      clear hBB
      go_wp2_with fail
      go_loopw [8, 9] (fun l i wr => ∃ k : Nat, k ≤ n ∧ i = .int .i64 k ∧ Tb wr B n (filled (fun _ => 5) k) ∧ Below B w1 wr ∧ wr.ownsRow (B + 1) 47 2 l k (hv k)) (fun _ i _ => n - (intOf i).toNat)
      case atStart => exact ⟨0, Nat.zero_le _, rfl, by rw [filled_zero]; exact HT2.out, HB2.out, World.ownsRow_nil _ _ _ _⟩
      case round =>
        obtain ⟨k, hk, rfl, ht, hb, ho⟩ := hrel
        have HT := Lib.hid ht
        have HB := Lib.hid hb
        have HO := Lib.hid ho
        clear ht hb ho
        by_cases hlt : k < n
        · have hkn : k < 126 := by have := N.out; omega
          have hkN : (k : Int) ≤ 126 := by omega
          go_wp2_with fail
          refine (beginY B n (filled (fun _ => 5) k) 5 k 5 (k : Int) 1 wr HT.out rfl rfl (by omega) hlt (fun j hj => by rw [filled_low _ k j hj]) (by rw [filled_high _ k k (Nat.le_refl _)]) (by rw [filled_high _ k k (Nat.le_refl _)]; decide)).mono ?_
          rintro e w3 ⟨rfl, ht3, hk3⟩
          rw [filled_succ (fun _ => 5) k] at ht3
          have HT3 := Lib.hid ht3
          have HB3 := Lib.hid (kpB HB.out hk3 HT.out)
          have HO3 := Lib.hid (own_kp HO.out hk3 (Nat.lt_succ_self B))
          clear ht3 hk3
          go_simp
          go_wp2_with (at_builtin; refine wpList_append_own _ rfl _ _ 42 rfl (B + 1) 47 i0 (.agg #[.int .i64 0, .int .u64 0]) 2 16 Try.underlying42 HI.out.1 HI.out.2.1 HI.out.2.2.1 HI.out.2.2.2 rfl (by decide) _ k (hv k) rfl ((HO3.out.alloc _).alloc _) ⟨w3.heap.size + 1, 0, none⟩ 1 1 [.int .i64 (k : Int), .int .u64 1] rfl rfl ?c2 ?c3 ?c4 ?c5 ?c6 ?_)
          case c2 => exact handle_new _ _ _ _
          case c3 => exact handle_one _ _
          case c4 => simp [maxLen]; omega
          case c5 => omega
          case c6 => have := HT3.out.lt; simp; omega
          intro v' w4 hown hgrow hnil
          obtain ⟨ht4, hb4⟩ := push_facts HT3.out HB3.out (Nat.le_refl _) HO3.out hgrow
          have HT4 := Lib.hid ht4
          have HB4 := Lib.hid hb4
          have HO4 : Hid (w4.ownsRow (B + 1) 47 2 v' (k + 1) (hv (k + 1))) := Lib.hid hown
          clear ht4 hb4 hown hgrow hnil
          go_wp2
          go_roundw
          case rel => exact ⟨k + 1, by omega, by go_num, HT4.out, HB4.out, HO4.out⟩
          case measure => simp [intOf]; omega
        · obtain rfl : k = n := by omega
          obtain ⟨la, lcap, hlv, hla⟩ := own_shape HO.out
          subst hlv
          obtain ⟨gb, hgb⟩ := hla (by have := N.out; omega)
          subst hgb
          go_wp2_with fail
          refine (beginN B k (filled (fun _ => 5) k) 5 5 wr HT.out rfl (by omega) (fun j hj => by rw [filled_low _ k j hj])).mono ?_
          rintro e w3 ⟨rfl, ht3, hk3⟩
          have HT3 := Lib.hid ht3
          have HB3 := Lib.hid (kpB HB.out hk3 HT.out)
          have HO3 := Lib.hid (own_kp HO.out hk3 (Nat.lt_succ_self B))
          clear ht3 hk3 HT HB HO hlt hk
          by_cases h40 : 40 < n1
          · have q4 : decide ((40 : Int) < n1) = true := by simp; omega
            go_simp
            go_wp2_with fail
            go_ret
            exact ⟨rfl, HB1.out.trans (Below.mono (blB HB3.out ((Below.refl _ _).alloc (Nat.le_refl _) _) HT3.out) (by have := HB1.out.size; have := HBB.out; omega))⟩
          · have q4 : decide ((40 : Int) < n1) = false := by simp; omega
            have h40I : (n1 : Int) ≤ 50 := by omega
            clear h40
            have hmk := fun w => run_make_row' (P := Try.prog) 72 4 (.bool false) 1 Try.underlying72 (by kernel_rfl) rfl .i64 .i64 k (by have := N.out; omega) (by have := N.out; omega) w
            go_simp
            go_wp2_with fail
            have hlt3 := HT3.out.lt
            have hgl := (HO3.out.lt gb rfl)
            have HF0 : Hid (((w3.alloc (.cells #[.int .i64 0, .int .u64 0] 47)).alloc (.cells (madeCells #[.bool false] k) 4)).ownsRow (B + 1) 4 1 (.slice (some ⟨w3.heap.size + 1, 0, none⟩) k k) k (fvals (frees y k 0) k)) := by
              have := made_own (w3.alloc (.cells #[.int .i64 0, .int .u64 0] 47)) (B + 1) k y (by simp; omega) (by have := N.out; simp [maxLen]; omega)
              simp at this
              exact Lib.hid this
            have hnew : Below w3.heap.size w3 ((w3.alloc (.cells #[.int .i64 0, .int .u64 0] 47)).alloc (.cells (madeCells #[.bool false] k) 4)) := ((Below.refl _ _).alloc (Nat.le_refl _) _).alloc (by simp) _
            have HT0 : Hid (Tb ((w3.alloc (.cells #[.int .i64 0, .int .u64 0] 47)).alloc (.cells (madeCells #[.bool false] k) 4)) B k (slotsT (frees y k 0) k)) := Lib.hid (by rw [slotsT_zero]; exact HT3.out.below hnew)
            have HBB0 : Hid (Below B w1 ((w3.alloc (.cells #[.int .i64 0, .int .u64 0] 47)).alloc (.cells (madeCells #[.bool false] k) 4))) := Lib.hid (blB HB3.out hnew HT3.out)
            have HL0 : Hid (((w3.alloc (.cells #[.int .i64 0, .int .u64 0] 47)).alloc (.cells (madeCells #[.bool false] k) 4)).ownsRow (B + 1) 47 2 (.slice (some ⟨gb, 0, none⟩) k lcap) k (hv k)) := Lib.hid (own_below HO3.out hnew)
            have hne : gb ≠ w3.heap.size + 1 := by omega
            generalize (w3.alloc (.cells #[.int .i64 0, .int .u64 0] 47)).alloc (.cells (madeCells #[.bool false] k) 4) = W0 at *
            generalize w3.heap.size + 1 = fb at *
            have HNE := Lib.hid hne
            clear hmk hlt3 hgl hnew hne HT3 HB3 HO3
            go_loopw [15] (fun i wr => ∃ j : Nat, j ≤ n1 ∧ i = .int .i64 j ∧ Tb wr B k (slotsT (frees y k j) k) ∧ Below B w1 wr ∧ wr.ownsRow (B + 1) 47 2 (.slice (some ⟨gb, 0, none⟩) k lcap) k (hv k) ∧ wr.ownsRow (B + 1) 4 1 (.slice (some ⟨fb, 0, none⟩) k k) k (fvals (frees y k j) k)) (fun i _ => n1 - (intOf i).toNat)
            case atStart => exact ⟨0, Nat.zero_le _, rfl, HT0.out, HBB0.out, HL0.out, HF0.out⟩
            case round =>
              obtain ⟨j, hj, rfl, ht, hb, ho, hf⟩ := hrel
              have HT := Lib.hid ht
              have HB := Lib.hid hb
              have HL := Lib.hid ho
              have HF := Lib.hid hf
              clear ht hb ho hf
              by_cases hlt : j < n1
              · obtain ⟨b1, o1, rfl, hb1, hc1⟩ := HY.out j hlt
                have f1 : wr.cell? ⟨b1, o1 + j, none⟩ = some (.int .u8 (y j : Int)) := (HB.out.cell (p := ⟨b1, o1 + j, none⟩) (show b1 < B by have := HB1.out.size; have := HBB.out; omega)).trans ((HB1.out.cell (p := ⟨b1, o1 + j, none⟩) hb1).trans hc1)
                clear hc1
                obtain ⟨kk, hkk⟩ : ∃ kk, kk = y j % k := ⟨_, rfl⟩
                have hkkl : kk < k := by rw [hkk]; exact Nat.mod_lt _ (by have := N.out; omega)
                have hkI : (y j : Int) % (k : Int) = (kk : Int) := by rw [hkk]; simp
                have hkT : (y j : Int).tmod (k : Int) = (kk : Int) := by rw [Int.tmod_eq_emod_of_nonneg (by omega)]; exact hkI
                have hkkI : (kk : Int) < (k : Int) := by omega
                have hyb : (y j : Int) < 256 := by have := BY.out j; omega
                have hkk0 : (0 : Int) ≤ (kk : Int) := by omega
                have HKK := Lib.hid hkk
                clear hkk
                have c0 := HL.out.cellAt (kk * 2) (by omega)
                have c1 := HL.out.cellAt (kk * 2 + 1) (by omega)
                have c2 := HF.out.cellAt kk (by omega)
                rw [(hv_at k kk hkkl).1] at c0
                rw [(hv_at k kk hkkl).2] at c1
                rw [fvals_at (frees y k j) k kk hkkl] at c2
                cases hfr : frees y k j kk
                · rw [hfr] at c2
                  have HFR := Lib.hid hfr
                  clear hfr
                  go_wp2_with fail
                  have hg1 := HL.out.lt gb rfl
                  have hg2 := HF.out.lt fb rfl
                  have HG1 : Hid (gb ≠ B ∧ gb < wr.drew.heap.size) := Lib.hid ⟨by omega, hg1.2⟩
                  have HG2 : Hid (fb ≠ B ∧ fb < wr.drew.heap.size) := Lib.hid ⟨by omega, hg2.2⟩
                  have HEND := Lib.hid (endY B k (slotsT (frees y k j) k) kk (kk : Int) 1 wr.drew HT.out.drew rfl hkkl (by rw [slotsT_at _ _ _ hkkl, HFR.out]; rfl) (by rw [slotsT_at _ _ _ hkkl]; rfl))
                  clear hg1 hg2
                  go_region_held3 (fun w' => w'.cell? ⟨gb, kk * 2, none⟩ = some (.int .i64 (kk : Int)) ∧ w'.cell? ⟨gb, kk * 2 + 1, none⟩ = some (.int .u64 1) ∧ w'.cell? ⟨fb, kk, none⟩ = some (.bool false))
                    (first | go_keep | (exact ⟨c0, c1, c2⟩) | (exact ⟨(kp_cell hk5 HG1.out.1 HG1.out.2).trans c0, (kp_cell hk5 HG1.out.1 HG1.out.2).trans c1, (kp_cell hk5 HG2.out.1 HG2.out.2).trans c2⟩))
                    (first | (go_at_call 21; refine HEND.out.mono ?_; rintro e w5 ⟨rfl, ht5, hk5⟩))
                  rw [HKK.out, slotsT_end y k j (by rw [← HKK.out]; exact hkkl)] at ht5
                  have HT5 := Lib.hid ht5
                  have HB5 := Lib.hid (kpB HB.out.drew hk5 HT.out.drew)
                  have HL5 := Lib.hid (own_kp HL.out.drew hk5 (Nat.lt_succ_self B))
                  have HF5 := Lib.hid (own_kp HF.out.drew hk5 (Nat.lt_succ_self B))
                  have d2 := HF5.out.cellAt kk (by omega)
                  rw [fvals_at (frees y k j) k kk hkkl, HFR.out] at d2
                  have z2 := HF5.out.frozenAt kk
                  clear ht5 hk5 c0 c1 c2
                  go_wp2
                  go_roundw
                  case rel =>
                    have hfb := HF5.out.lt fb rfl
                    refine ⟨j + 1, by omega, by go_num, HT5.out.setOther (by show fb ≠ B; omega) _, HB5.out.setCell (by show B ≤ fb; omega) _, ?_, ?_⟩
                    · exact HL5.out.kept (HF5.out.stored kk (.bool true)).2 (.inr (by simp [Value.ownBlock]; exact HNE.out))
                    · have := (HF5.out.stored kk (.bool true)).1
                      rw [HKK.out, fvals_set y k j (by rw [← HKK.out]; exact hkkl)] at this
                      rw [HKK.out]; exact this
                  case measure => simp [intOf]; omega
                · rw [hfr] at c2
                  have HFR := Lib.hid hfr
                  clear hfr
                  go_wp2_with fail
                  have hg1 := HL.out.lt gb rfl
                  have hg2 := HF.out.lt fb rfl
                  have HEND := Lib.hid (end_no B k (slotsT (frees y k j) k) (kk : Int) 1 wr.drew HT.out.drew (by
                    rintro ⟨i, h1, h2, h3, h4⟩
                    obtain rfl : kk = i := by omega
                    rw [slotsT_at _ _ _ hkkl, HFR.out] at h3
                    simp at h3))
                  have HS1 := Lib.hid hg1.2
                  have HS2 := Lib.hid hg2.2
                  clear hg1 hg2
                  go_region_held3 (fun w' => w'.cell? ⟨gb, kk * 2, none⟩ = some (.int .i64 (kk : Int)) ∧ w'.cell? ⟨gb, kk * 2 + 1, none⟩ = some (.int .u64 1) ∧ w'.cell? ⟨fb, kk, none⟩ = some (.bool true))
                    (first | go_keep | (exact ⟨c0, c1, c2⟩) | (exact ⟨(hk5.cell (p := ⟨gb, kk * 2, none⟩) HS1.out).trans c0, (hk5.cell (p := ⟨gb, kk * 2 + 1, none⟩) HS1.out).trans c1, (hk5.cell (p := ⟨fb, kk, none⟩) HS2.out).trans c2⟩))
                    (first | (go_at_call 21; refine HEND.out.mono ?_; rintro e w5 ⟨rfl, hk5⟩))
                  have HT5 := Lib.hid (HT.out.drew.below hk5)
                  have HB5 := Lib.hid (blB HB.out.drew hk5 HT.out.drew)
                  have HL5 := Lib.hid (own_below HL.out.drew hk5)
                  have HF5 := Lib.hid (own_below HF.out.drew hk5)
                  have d2 := HF5.out.cellAt kk (by omega)
                  rw [fvals_at (frees y k j) k kk hkkl, HFR.out] at d2
                  have z2 := HF5.out.frozenAt kk
                  clear hk5 c0 c1 c2
                  go_wp2
                  go_roundw
                  case rel =>
                    have hfb := HF5.out.lt fb rfl
                    refine ⟨j + 1, by omega, by go_num, (by rw [frees_same y k j (by rw [← HKK.out]; exact HFR.out)]; exact HT5.out.setOther (by show fb ≠ B; omega) _), HB5.out.setCell (by show B ≤ fb; omega) _, ?_, ?_⟩
                    · exact HL5.out.kept (HF5.out.stored kk (.bool true)).2 (.inr (by simp [Value.ownBlock]; exact HNE.out))
                    · have := (HF5.out.stored kk (.bool true)).1
                      rw [HKK.out, fvals_set y k j (by rw [← HKK.out]; exact hkkl)] at this
                      rw [HKK.out]; exact this
                  case measure => simp [intOf]; omega
              · obtain rfl : j = n1 := by omega
                generalize frees y k j = fr at *
                have HA0 : Hid (Tb wr B k (againT fr k 0)) := Lib.hid (by rw [againT_zero]; exact HT.out)
                have HB0 := HB
                have HF0' := HF
                obtain ⟨wf, rfl⟩ : ∃ wf : World, wf = wr := ⟨_, rfl⟩
                clear HT HB HL HF hlt hj
                go_wp2_with fail
                go_loopw [17] (fun i wr => ∃ j : Nat, j ≤ k ∧ i = .int .i64 j ∧ Tb wr B k (againT fr k j) ∧ Below B w1 wr ∧ wr.ownsRow (B + 1) 4 1 (.slice (some ⟨fb, 0, none⟩) k k) k (fvals fr k)) (fun i _ => k - (intOf i).toNat)
                case atStart => exact ⟨0, Nat.zero_le _, rfl, HA0.out, HB0.out, HF0'.out⟩
                case round =>
                  obtain ⟨j, hj, rfl, ht, hb, hf⟩ := hrel
                  have HT := Lib.hid ht
                  have HB := Lib.hid hb
                  have HF := Lib.hid hf
                  clear ht hb hf
                  by_cases hlt : j < k
                  · have c2 := HF.out.cellAt j (by omega)
                    rw [fvals_at fr k j hlt] at c2
                    have hjN : (j : Int) ≤ 1000 := by omega
                    cases hfr : fr j
                    · rw [hfr] at c2
                      have HFR := Lib.hid hfr
                      clear hfr
                      go_wp2
                      go_roundw
                      case rel => exact ⟨j + 1, by omega, by go_num, by rw [againT_skip fr k j HFR.out]; exact HT.out, HB.out, HF.out⟩
                      case measure => simp [intOf]; omega
                    · rw [hfr] at c2
                      have HFR := Lib.hid hfr
                      clear hfr
                      go_wp2_with fail
                      refine (beginY B k (againT fr k j) 6 j 6 (j : Int) 2 wr HT.out rfl rfl (by omega) hlt (fun i hi => againT_low fr k j i hi (by omega)) (by rw [againT_free fr k j hlt HFR.out]) (by rw [againT_free fr k j hlt HFR.out]; decide)).mono ?_
                      rintro e w5 ⟨rfl, ht5, hk5⟩
                      rw [againT_hit fr k j hlt HFR.out] at ht5
                      have HT5 := Lib.hid ht5
                      have HB5 := Lib.hid (kpB HB.out hk5 HT.out)
                      have HF5 := Lib.hid (own_kp HF.out hk5 (Nat.lt_succ_self B))
                      clear ht5 hk5 c2
                      go_simp
                      go_wp2
                      go_roundw
                      case rel => exact ⟨j + 1, by omega, by go_num, HT5.out.below ((Below.refl _ _).alloc (Nat.le_refl _) _), blB HB5.out ((Below.refl _ _).alloc (Nat.le_refl _) _) HT5.out, HF5.out.alloc _⟩
                      case measure => simp [intOf]; omega
                  · obtain rfl : j = k := by omega
                    have hla := live_all (againT fr j j) j (fun i hi => againT_low fr j j i hi hi)
                    have HLA := Lib.hid hla
                    clear hla
                    go_wp2_with fail
                    refine (liveN B j _ (j : Int) wr HT.out (congrArg _ HLA.out)).mono ?_
                    rintro e w9 ⟨rfl, rfl⟩
                    go_simp
                    go_wp2_with fail
                    go_ret
                    exact ⟨rfl, HB1.out.trans (HB.out.mono (by have := HB1.out.size; have := HBB.out; omega))⟩
/-! ### STEP 1: THE WALK: the Go text returns true, AND WRITES NOTHING THAT WAS THERE: 'Below w.heap.size w w'' (Derived/Below.lean: '.refl', '.alloc', '.drew', '.setCell' at a new block, '.trans'). Open each 'IsRow' by 'rcases' AHEAD of 'go_enter'; part every test ahead of the walk. -/
theorem walk (a0 : Int) (a1 : Option Addr) (len1 cap1 : Nat) (z1 : List Int) (w : World) (w0 : (Lit.int .i64 a0).wf = true) (w1 : IsRow .u8 w a1 len1 cap1 z1) :
    Calls Try.prog 11 #[.int .i64 a0, .slice a1 len1 cap1] w fun e w' => e = .returned (.bool true) ∧ Below w.heap.size w w' := by
  obtain ⟨g, hg, bg⟩ := row_u8 w1
  exact walk11 a0 a1 len1 cap1 g w hg bg

/-! ### THE ROW's STEP: WRITTEN OUT: LEAVE IT -/
set_option maxRecDepth 100000 in
theorem lifted (os : Os) (started : os.Started) (H : Type) (enc : TypeId × Value → H) :
    ReturnsInHanded {} Try.checked os 11 .any (Rows.readersSlotsSpec.pre6 enc Try.prog Try.f11 Rows.readersSlotsRow.domain false) (Rows.readersSlotsSpec.post enc Try.prog Try.f11 false true false false) := by
  refine returnsInHanded_of_change (C := Try.checked) own started (by kernel_rfl) Try.func11
    (ChangeSpec.witness6 (enc := enc) (C := Try.checked) false ⟨#[], #[.int .i64 0, .slice none 0 0], []⟩ 8 (by kernel_rfl) (by kernel_rfl) (by kernel_rfl) (by kernel_rfl)) ?_
  intro W base args ds gs before hval0 hW hcnd _
  have hval : ∀ (j : Nat) t v, Try.f11.params[j]? = some t → args[j]? = some v → Value.okWide Try.prog W .any base t v := hval0
  have hW' := hW
  obtain ⟨p, q, hA0, hV, rfl, hfz, hnd⟩ := hW
  have hA : DataW.TrodAll enc Try.prog W 0 (fun _ => true) true Try.f11.params.toList args.toList ds p := hA0
  rw [Try.params11] at hA hval
  obtain ⟨v0, vs0, d0, ds0, p0, q0, hargs, rfl, rfl, h0, r0⟩ := trodAll_cons hA
  obtain ⟨v1, vs1, d1, ds1, p1, q1, rfl, rfl, rfl, h1, r1⟩ := trodAll_cons r0
  obtain ⟨rfl, rfl, rfl⟩ := trodAll_nil r1
  obtain rfl : args = #[v0, v1] := by cases args; simp_all
  obtain ⟨rfl, rfl⟩ := trodVars_none hV
  obtain ⟨a0, rfl, rfl, rfl, w0⟩ := open_int Try.underlying3 (hval 0 3 v0 rfl rfl) h0
  obtain ⟨a1, len1, cap1, rfl⟩ := okWide_slice Try.underlying22 (hval 1 22 v1 rfl rfl)
  have k1 := h1
  have lt1 : ∀ x ∈ p1, x.block < W.heap.size := by obtain ⟨m, hm⟩ := k1; exact DataW.trod_lt m _ _ _ hm
  obtain ⟨z1, w1⟩ : ∃ zs, IsRow .u8 W a1 len1 cap1 zs := by
    obtain ⟨fuel, hf⟩ := h1
    rcases open_ints Try.underlying22 Try.underlying5 (by kernel_rfl) hf with ⟨hcs, _⟩ | ⟨x, l, c, zs, hcs, _, hl, hm, hz, _, hcell, hwz⟩
    · simp [Value.cells] at hcs
      obtain ⟨rfl, rfl, rfl⟩ := hcs
      exact ⟨[], .inl ⟨rfl, rfl, rfl, rfl⟩⟩
    · simp [Value.cells] at hcs
      obtain ⟨rfl, rfl, rfl⟩ := hcs
      exact ⟨zs, .inr ⟨_, rfl, hl, hm, by simpa using hz, hcell, hwz⟩⟩
  clear hA0 hval0
  refine (walk a0 a1 len1 cap1 z1 W w0 w1).mono fun e W' ⟨he, bel⟩ => ?_
  subst he
  exact ⟨_, rfl, _, _, _, [], _, [], hW', trodAll_mk1 (shut_bool Try.underlying4 _), (trodAll_cons_mk (shut_int Try.underlying3 w0) (trodAll_cons_mk (Below.trod laidOut (by kernel_rfl) (of_decide_eq_true (by kernel_rfl)) k1 bel lt1) trodAll_mk0)), rfl, bel.frame _, fun h => by cases h⟩

theorem over : Rows.readersSlotsRow.holds Try.pinned (OpenSpec.ofChange Rows.readersSlotsSpec) :=
  OpenClaim.holds_of_wide 11 Try.f11 rfl rfl rfl rfl rfl rfl rfl ⟨rfl, rfl, rfl, rfl, rfl⟩ rfl rfl rfl rfl rfl (by kernel_rfl) Try.func11 (by kernel_rfl)
    (of_decide_eq_true (by kernel_rfl)) (by unfold Func.isWrapper; first | (rw [if_pos (by decide +kernel)]; kernel_rfl) | (rw [if_neg (by decide +kernel)]; exact ⟨rfl, rfl⟩))
    (fun os started H enc _ => lifted os started H enc)

/-- ████ THE STATEMENT ████ -/
theorem proved : Rows.ReadersSlotsSaid := over
#print axioms proved
end Go.Proofs.Ytlgammcbhgmpoaa.readersSlots
