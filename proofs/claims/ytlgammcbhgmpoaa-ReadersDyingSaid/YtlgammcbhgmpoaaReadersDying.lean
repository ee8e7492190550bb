/- The statement ReadersDying: a reader that is declared dead reads on, and is the oldest one, until it is cleared; for every input. -/
import Derived.Test.YtlgammcbhgmpoaaRows
import Derived.WalkKit
import Derived.ProofKit
import Derived.OpenShut
import Derived.ShutString
import Derived.ChangeOld
import Derived.Below
import Derived.Test.YtlgammcbhgmpoaaRdL
namespace Go.Proofs.Ytlgammcbhgmpoaa.readersDying
open Go.ChangeShapes Go.WideShapes Go.ChangeAt Go.RowKit
open Go.ChangeMaps (open_string shut_string)
set_option linter.unusedVariables false

theorem own : ownKnob Try.prog.godebug = none := by kernel_rfl
theorem laidOut : laidOutB Try.prog = true := by kernel_rfl

/-- WHAT THE WALK IS TOLD OF A SLICE OF INTEGERS THAT CAME IN: it is nil; or it leads to a row of 'cap' cells, the numbers 'zs' (the first 'len' are its elements, the rest its spare room), each fitting its kind. -/
def IsRow (k : IntKind) (w : World) (a : Option Addr) (len cap : Nat) (zs : List Int) : Prop :=
  (a = none ∧ len = 0 ∧ cap = 0 ∧ zs = []) ∨
  ∃ x, a = some x ∧ len ≤ cap ∧ cap ≤ maxLen ∧ zs.length = cap ∧ (∀ i, i < zs.length → w.cell? (x.add i) = some (.int k (zs.getD i 0))) ∧ ∀ n ∈ zs, (Lit.int k n).wf = true

/-- of n slots that were filled those of an odd byte have ended, of the first k -/
def mixed (x g : Nat → Nat) (n k : Nat) : Nat → Sl := fun i => if i < n then ⟨!(decide (i < k) && (g i % 2 == 1)), x i, 1, false⟩ else ⟨false, 0, 0, false⟩
theorem mixed_zero (x g : Nat → Nat) (n : Nat) : mixed x g n 0 = filled x n := by
  funext i; simp [mixed, filled]
theorem mixed_skip (x g : Nat → Nat) (n k : Nat) (h : ¬ g k % 2 = 1) : mixed x g n (k + 1) = mixed x g n k := by
  funext i
  unfold mixed
  have hf : (g k % 2 == 1) = false := beq_eq_false_iff_ne.2 h
  by_cases e : i = k
  · subst e; simp [hf]
  · by_cases q : i < k
    · simp [q, show i < k + 1 by omega]
    · simp [q, show ¬ i < k + 1 by omega]
theorem mixed_hit (x g : Nat → Nat) (n k : Nat) (hk : k < n) (h : g k % 2 = 1) : ended (mixed x g n k) k = mixed x g n (k + 1) := by
  funext i
  unfold ended up
  by_cases e : i = k
  · subst e; simp [mixed, hk, h]
  · rw [if_neg e]
    unfold mixed
    by_cases q : i < k
    · simp [q, show i < k + 1 by omega]
    · simp [q, show ¬ i < k + 1 by omega]
theorem mixed_at (x g : Nat → Nat) (n k i : Nat) (hi : i < n) (hk : k ≤ i) : mixed x g n k i = ⟨true, x i, 1, false⟩ := by
  simp [mixed, hi, show ¬ i < k by omega]
theorem mixed_done (x g : Nat → Nat) (n i : Nat) (hi : i < n) : mixed x g n n i = ⟨!(g i % 2 == 1), x i, 1, false⟩ := by
  simp [mixed, hi]
theorem own_shape {w : World} {base : Nat} {e : TypeId} {size : Nat} {v : Value} {n : Nat} {xs : List Value} (h : w.ownsRow base e size v n xs) : ∃ a cap, v = .slice a n cap ∧ (0 < n → ∃ g, a = some ⟨g, 0, none⟩) := by
  rcases h.2 with ⟨rfl, rfl⟩ | ⟨g, cap, cur, rfl, _⟩
  · exact ⟨none, 0, rfl, fun h => absurd h (Nat.lt_irrefl _)⟩
  · exact ⟨_, cap, rfl, fun _ => ⟨g, rfl⟩⟩
theorem byte_odd (b : Nat) (hb : b < 256) : ((bits .and .u8 (b : Int) 1 == 1) : Bool) = (b % 2 == 1) := by
  have h := u8_and_nat b 1 hb (by decide)
  have h2 : bits .and .u8 (b : Int) 1 = ((b &&& 1 : Nat) : Int) := h
  rw [h2, Nat.and_one_is_mod]
  by_cases e : b % 2 = 1
  · rw [e]; rfl
  · rw [show b % 2 = 0 by omega]; rfl

theorem byte_even (b : Nat) (hb : b < 256) : ((bits .and .u8 (b : Int) 1 == 0) : Bool) = !(b % 2 == 1) := by
  have h := u8_and_nat b 1 hb (by decide)
  have h2 : bits .and .u8 (b : Int) 1 = ((b &&& 1 : Nat) : Int) := h
  rw [h2, Nat.and_one_is_mod]
  by_cases e : b % 2 = 1
  · rw [e]; rfl
  · rw [show b % 2 = 0 by omega]; rfl
def MX : Nat := 18446744073709551615
theorem mx_int : (18446744073709551615 : Int) = (MX : Int) := rfl
theorem mx_lt : MX < 18446744073709551616 := by unfold MX; omega
/-- how many of the first k bytes are odd -/
def cnt (g : Nat → Nat) : Nat → Nat
  | 0 => 0
  | k + 1 => cnt g k + if (g k % 2 == 1) = true then 1 else 0
theorem cnt_le (g : Nat → Nat) (k : Nat) : cnt g k ≤ k := by
  induction k with
  | zero => exact Nat.le_refl _
  | succ k ih => simp only [cnt]; split <;> omega
/-- of n slots that were filled those of an odd byte are dead, of the first k -/
def dying (x g : Nat → Nat) (n k : Nat) : Nat → Sl := fun i => if i < n then ⟨true, x i, 1, decide (i < k) && (g i % 2 == 1)⟩ else ⟨false, 0, 0, false⟩
theorem dying_zero (x g : Nat → Nat) (n : Nat) : dying x g n 0 = filled x n := by
  funext i; simp [dying, filled]
theorem dying_at (x g : Nat → Nat) (n k i : Nat) (hi : i < n) : dying x g n k i = ⟨true, x i, 1, decide (i < k) && (g i % 2 == 1)⟩ := by simp [dying, hi]
theorem dying_skip (x g : Nat → Nat) (n k : Nat) (h : ¬ g k % 2 = 1) : dying x g n (k + 1) = dying x g n k := by
  funext i
  unfold dying
  have hf : (g k % 2 == 1) = false := beq_eq_false_iff_ne.2 h
  by_cases e : i = k
  · subst e; simp [hf]
  · by_cases q : i < k
    · simp [q, show i < k + 1 by omega]
    · simp [q, show ¬ i < k + 1 by omega]
theorem dying_hit (x g : Nat → Nat) (n k : Nat) (hk : k < n) (h : g k % 2 = 1) : deadened (dying x g n k) k = dying x g n (k + 1) := by
  funext i
  unfold deadened up
  by_cases e : i = k
  · subst e; simp [dying, hk, h]
  · rw [if_neg e]
    unfold dying
    by_cases q : i < k
    · simp [q, show i < k + 1 by omega]
    · simp [q, show ¬ i < k + 1 by omega]
theorem oldest_congr (f f' : Nat → Sl) (x n : Nat) (h : ∀ i, i < n → (f i).is = (f' i).is ∧ (f i).txn = (f' i).txn) : oldest f x n = oldest f' x n := by
  induction n with
  | zero => rfl
  | succ n ih => rw [oldest, oldest, ih (fun i hi => h i (by omega)), (h n (by omega)).1, (h n (by omega)).2]
theorem live_congr (f f' : Nat → Sl) (n : Nat) (h : ∀ i, i < n → (f i).is = (f' i).is) : live f n = live f' n := by
  induction n with
  | zero => rfl
  | succ n ih => rw [live, live, ih (fun i hi => h i (by omega)), h n (by omega)]
theorem clrN_dying (x g : Nat → Nat) (n : Nat) : ∀ k, k ≤ n → clrN (dying x g n n) k = cnt g k := by
  intro k
  induction k with
  | zero => intro _; rfl
  | succ k ih =>
    intro hk
    rw [clrN, cnt, ih (by omega), dying_at x g n n k (by omega)]
    simp [show k < n by omega]
theorem clr_dying_is (x g : Nat → Nat) (n i : Nat) (hi : i < n) : (clr (dying x g n n) n i).is = (mixed x g n n i).is ∧ (clr (dying x g n n) n i).txn = (mixed x g n n i).txn ∧ ((clr (dying x g n n) n i).is && (clr (dying x g n n) n i).dead) = false := by
  rw [mixed_done x g n i hi]
  unfold clr
  rw [dying_at x g n n i hi]
  cases h : (g i % 2 == 1) <;> simp [hi]
theorem clrN_none (f : Nat → Sl) (n : Nat) (h : ∀ i, i < n → ((f i).is && (f i).dead) = false) : ∀ k, k ≤ n → clrN f k = 0 := by
  intro k
  induction k with
  | zero => intro _; rfl
  | succ k ih =>
    intro hk
    rw [clrN, ih (by omega)]
    have := h k (by omega)
    cases h1 : (f k).is <;> cases h2 : (f k).dead <;> simp_all
theorem clr_none (f : Nat → Sl) (n : Nat) (h : ∀ i, i < n → ((f i).is && (f i).dead) = false) : clr f n = f := by
  funext i
  unfold clr
  rw [if_neg]
  rintro ⟨h1, h2, h3⟩
  have := h i h1
  rw [h2, h3] at this; simp at this
theorem live_mixed (x g : Nat → Nat) (n : Nat) : ∀ k, k ≤ n → live (mixed x g n n) k + cnt g k = k := by
  intro k
  induction k with
  | zero => intro _; rfl
  | succ k ih =>
    intro hk
    have := ih (by omega)
    rw [live, cnt, mixed_done x g n k (by omega)]
    cases h : (g k % 2 == 1) <;> simp <;> omega
set_option maxRecDepth 100000 in
set_option maxHeartbeats 4000000 in
theorem walk12 (a0 : Option Addr) (n0 cap0 : Nat) (x : Nat → Nat) (a1 : Option Addr) (n1 cap1 : Nat) (g : Nat → Nat) (w : World)
    (hx : Uns .u64 w a0 n0 x) (hg : Uns .u8 w a1 n1 g) (bx : ∀ i, x i < 18446744073709551616) (bg : ∀ i, g i < 256) :
    Calls Try.prog 12 #[.slice a0 n0 cap0, .slice a1 n1 cap1] w fun e w' => e = .returned (.bool true) ∧ Below w.heap.size w w' := by
  have HX := Lib.hid hx
  have HG := Lib.hid hg
  have BX := Lib.hid bx
  have BG := Lib.hid bg
  clear hx hg bx bg
  by_cases h1 : 100 < n0
  · have q1 : decide ((100 : Int) < n0) = true := by simp; omega
    go_enter Try.func12, Try.ntmps12
    go_wp2_with (go_at_call 16; refine (awake9 _).mono ?_; rintro e w1 ⟨rfl, hb⟩)
    go_ret
    exact ⟨rfl, hb⟩
  · have q1 : decide ((100 : Int) < n0) = false := by simp; omega
    by_cases h2 : n1 < n0
    · have q2 : decide (n1 < n0) = true := by simpa using h2
      clear h1 h2
      go_enter Try.func12, Try.ntmps12
      go_wp2_with (go_at_call 16; refine (awake9 _).mono ?_; rintro e w1 ⟨rfl, hb⟩)
      go_ret
      exact ⟨rfl, hb⟩
    · have q2 : decide (n1 < n0) = false := by simpa using h2
      by_cases h3 : n0 = 0
      · subst h3
        clear h1 h2
        go_enter Try.func12, Try.ntmps12
        go_wp2_with (go_at_call 16; refine (awake9 _).mono ?_; rintro e w1 ⟨rfl, hb⟩)
        go_ret
        exact ⟨rfl, hb⟩
      · have q3 : ((n0 : Int) == 0) = false := by rw [beq_eq_false_iff_ne]; omega
        have N := Lib.hid (show n0 ≤ 100 ∧ n0 ≤ n1 ∧ 1 ≤ n0 by omega)
        obtain ⟨i0, hi, hz0, hz1, hz2⟩ := info_parts info47
        have HI := Lib.hid (And.intro hi (And.intro hz0 (And.intro hz1 hz2)))
        clear h1 h2 h3 hi hz0 hz1 hz2
        go_enter Try.func12, Try.ntmps12
        go_wp2_with fail
        refine (awake9 _).mono ?_
        rintro e w1 ⟨rfl, hb1⟩
        have HB1 := Lib.hid hb1
        clear hb1
        go_simp
        go_wp2_with fail
        refine (new_tb n0 (by have := N.out; omega) (by have := N.out; omega) _ rfl _).mono ?_
        rintro e w2 ⟨rfl, ht2, hb2⟩
        have HT2 := Lib.hid ht2
        have HB2 := Lib.hid hb2
        clear ht2 hb2
        go_simp
        generalize hBB : w1.heap.size = B at *
        have HBB := Lib.hid hBB
        clear hBB q1 q2 q3
        go_wp2_with fail
        rw [mx_int]
        go_loopw [8, 9, 10, 11, 12] (fun ol lf cn l i wr => ∃ k : Nat, k ≤ n0 ∧ i = .int .i64 k ∧ ol = .int .u64 (oldest (filled x n0) MX k : Nat) ∧ lf = .int .u64 (oldest (mixed x g n0 n0) MX k : Nat) ∧ cn = .int .i64 (cnt g k : Nat) ∧ Tb wr B n0 (filled x k) ∧ Below B w1 wr ∧ wr.ownsRow (B + 1) 47 2 l k (hv k)) (fun _ _ _ _ i _ => n0 - (intOf i).toNat)
        case atStart => exact ⟨0, Nat.zero_le _, rfl, rfl, rfl, rfl, by rw [filled_zero]; exact HT2.out, HB2.out, World.ownsRow_nil _ _ _ _⟩
        case round =>
          obtain ⟨k, hk, rfl, rfl, rfl, rfl, ht, hb, ho⟩ := hrel
          have HT := Lib.hid ht
          have HB := Lib.hid hb
          have HO := Lib.hid ho
          clear ht hb ho
          by_cases hlt : k < n0
          · have hkn : k < 126 := by have := N.out; omega
            have hkN : (k : Int) ≤ 126 := by omega
            obtain ⟨b0, o0, rfl, hb0, hc0⟩ := HX.out k hlt
            have f0 : wr.cell? ⟨b0, o0 + k, none⟩ = some (.int .u64 (x k : Int)) := (HB.out.cell (p := ⟨b0, o0 + k, none⟩) (show b0 < B by have := HB1.out.size; have := HBB.out; omega)).trans ((HB1.out.cell (p := ⟨b0, o0 + k, none⟩) hb0).trans hc0)
            obtain ⟨b1, o1, rfl, hb1, hc1⟩ := HG.out k (by have := N.out; omega)
            have hblt0 : b0 < B := by have := HB1.out.size; have := HBB.out; omega
            have hblt1 : b1 < B := by have := HB1.out.size; have := HBB.out; omega
            have F0 := Lib.hid f0
            have F1 : Hid (wr.cell? ⟨b1, o1 + k, none⟩ = some (.int .u8 (g k : Int))) := Lib.hid ((HB.out.cell (p := ⟨b1, o1 + k, none⟩) hblt1).trans ((HB1.out.cell (p := ⟨b1, o1 + k, none⟩) hb1).trans hc1))
            have f2 : (k : Int) < (n1 : Int) := by have := N.out; omega
            have f3 : k < n1 := by have := N.out; omega
            have hod := byte_even (g k) (BG.out k)
            have hol : oldest (filled x n0) MX (k + 1) = min (oldest (filled x n0) MX k) (x k) := by
              rw [oldest, filled_low x n0 k hlt]; rfl
            have hlf : oldest (mixed x g n0 n0) MX (k + 1) = if (!(g k % 2 == 1)) = true then min (oldest (mixed x g n0 n0) MX k) (x k) else oldest (mixed x g n0 n0) MX k := by
              rw [oldest, mixed_done x g n0 k hlt]
            have hcn : cnt g (k + 1) = cnt g k + if (g k % 2 == 1) = true then 1 else 0 := rfl
            have hcb : ((cnt g k : Nat) : Int) ≤ 126 := by have := cnt_le g k; omega
            have HOL := Lib.hid hol
            have HLF := Lib.hid hlf
            have HCN := Lib.hid hcn
            generalize oldest (filled x n0) MX k = ol at *
            generalize oldest (mixed x g n0 n0) MX k = lf at *
            generalize cnt g k = cn at *
            clear hol hlf hcn hc0 hc1
            obtain ⟨ol', hol'⟩ : ∃ m, m = min ol (x k) := ⟨_, rfl⟩
            obtain ⟨lf', hlf'⟩ : ∃ m, m = min lf (x k) := ⟨_, rfl⟩
            have hm1 : ∀ ts ty w, Sem.run Try.prog (Builtin.min_ ts ty #[.int .u64 (ol : Int), .int .u64 (x k : Int)]) w = .ok (.int .u64 (ol' : Int)) w := by
              intro ts ty w
              rw [run_min_int2]
              congr 2
              split <;> omega
            have hm2 : ∀ ts ty w, Sem.run Try.prog (Builtin.min_ ts ty #[.int .u64 (lf : Int), .int .u64 (x k : Int)]) w = .ok (.int .u64 (lf' : Int)) w := by
              intro ts ty w
              rw [run_min_int2]
              congr 2
              split <;> omega
            have HOL' := Lib.hid hol'
            have HLF' := Lib.hid hlf'
            clear hol' hlf'
            go_wp2_with fail
            refine (beginY B n0 (filled x k) (x k) k _ (k : Int) 1 wr HT.out rfl rfl (BX.out k) hlt (fun j hj => by rw [filled_low x k j hj]) (by rw [filled_high x k k (Nat.le_refl _)]) (by rw [filled_high x k k (Nat.le_refl _)]; decide)).mono ?_
            rintro e w3 ⟨rfl, ht3, hk3⟩
            rw [filled_succ] at ht3
            have HT3 := Lib.hid ht3
            have HB3 := Lib.hid (kpB HB.out hk3 HT.out)
            have HO3 := Lib.hid (own_kp HO.out hk3 (Nat.lt_succ_self B))
            clear ht3 hk3 f0
            go_simp
            go_wp2_with (at_builtin; refine wpList_append_own _ rfl _ _ 42 rfl (B + 1) 47 i0 (.agg #[.int .i64 0, .int .u64 0]) 2 16 Try.underlying42 HI.out.1 HI.out.2.1 HI.out.2.2.1 HI.out.2.2.2 rfl (by decide) _ k (hv k) rfl ((HO3.out.alloc _).alloc _) ⟨w3.heap.size + 1, 0, none⟩ 1 1 [.int .i64 (k : Int), .int .u64 1] rfl rfl ?c2 ?c3 ?c4 ?c5 ?c6 ?_)
            case c2 => exact handle_new _ _ _ _
            case c3 => exact handle_one _ _
            case c4 => simp [maxLen]; omega
            case c5 => omega
            case c6 => have := HT3.out.lt; simp; omega
            intro v' w4 hown hgrow hnil
            obtain ⟨ht4, hb4⟩ := push_facts HT3.out HB3.out (Nat.le_refl _) HO3.out hgrow
            have HT4 := Lib.hid ht4
            have HB4 := Lib.hid hb4
            have HO4 : Hid (w4.ownsRow (B + 1) 47 2 v' (k + 1) (hv (k + 1))) := Lib.hid hown
            have f0 : w4.cell? ⟨b0, o0 + k, none⟩ = some (.int .u64 (x k : Int)) := (HB4.out.cell (p := ⟨b0, o0 + k, none⟩) hblt0).trans ((HB.out.cell (p := ⟨b0, o0 + k, none⟩) hblt0).symm.trans F0.out)
            have f1 : w4.cell? ⟨b1, o1 + k, none⟩ = some (.int .u8 (g k : Int)) := (HB4.out.cell (p := ⟨b1, o1 + k, none⟩) hblt1).trans ((HB.out.cell (p := ⟨b1, o1 + k, none⟩) hblt1).symm.trans F1.out)
            clear ht4 hb4 hown hgrow hnil
            by_cases he : g k % 2 = 1
            · have he2 : (g k % 2 == 1) = true := beq_iff_eq.2 he
              rw [he2] at hod
              have HE := Lib.hid he2
              clear he2
              go_wp2
              go_roundw
              case rel => exact ⟨k + 1, by omega, by go_num, by rw [HOL.out, HOL'.out], by rw [HLF.out, HE.out]; rfl, by rw [HCN.out, HE.out]; go_num, HT4.out, HB4.out, HO4.out⟩
              case measure => simp [intOf]; omega
            · have he2 : (g k % 2 == 1) = false := beq_eq_false_iff_ne.2 he
              rw [he2] at hod
              have HE := Lib.hid he2
              clear he2
              go_wp2
              go_roundw
              case rel => exact ⟨k + 1, by omega, by go_num, by rw [HOL.out, HOL'.out], by rw [HLF.out, HE.out, HLF'.out]; rfl, by rw [HCN.out, HE.out]; rfl, HT4.out, HB4.out, HO4.out⟩
              case measure => simp [intOf]; omega
          · obtain rfl : k = n0 := by omega
            obtain ⟨la, lcap, hlv, hla⟩ := own_shape HO.out
            subst hlv
            have HLA := Lib.hid hla
            have hkN : (k : Int) ≤ 126 := by have := N.out; omega
            have HT0 : Hid (Tb wr B k (dying x g k 0)) := Lib.hid (by rw [dying_zero]; exact HT.out)
            have HBB2 := HB
            have HOO := HO
            have hcle := cnt_le g k
            obtain ⟨ol, hol⟩ : ∃ z, z = oldest (filled x k) MX k := ⟨_, rfl⟩
            obtain ⟨lf, hlf⟩ : ∃ z, z = oldest (mixed x g k k) MX k := ⟨_, rfl⟩
            obtain ⟨cn, hcn⟩ : ∃ z, z = cnt g k := ⟨_, rfl⟩
            rw [← hol, ← hlf, ← hcn]
            rw [← hcn] at hcle
            have HOL := Lib.hid hol
            have HLF := Lib.hid hlf
            have HCN := Lib.hid hcn
            clear HT HB HO hlt hk hla hol hlf hcn
            obtain ⟨wf, rfl⟩ : ∃ wf : World, wf = wr := ⟨_, rfl⟩
            go_wp2_with fail
            go_loopw [15] (fun i wr => ∃ j : Nat, j ≤ k ∧ i = .int .i64 j ∧ Tb wr B k (dying x g k j) ∧ Below B w1 wr ∧ wr.ownsRow (B + 1) 47 2 (.slice la k lcap) k (hv k)) (fun i _ => k - (intOf i).toNat)
            case atStart => exact ⟨0, Nat.zero_le _, rfl, HT0.out, HBB2.out, HOO.out⟩
            case round =>
              obtain ⟨j, hj, rfl, ht, hb, ho⟩ := hrel
              have HT := Lib.hid ht
              have HB := Lib.hid hb
              have HO := Lib.hid ho
              clear ht hb ho
              by_cases hlt : j < k
              · have hj126 : j < 126 := by have := N.out; omega
                obtain ⟨gb, hgb⟩ := HLA.out (by omega)
                subst hgb
                obtain ⟨b1, o1, rfl, hb1, hc1⟩ := HG.out j (by have := N.out; omega)
                obtain ⟨b0, o0, rfl, hb0, hc0⟩ := HX.out j hlt
                have hblt0 : b0 < B := by have := HB1.out.size; have := HBB.out; omega
                have hblt1 : b1 < B := by have := HB1.out.size; have := HBB.out; omega
                have f1 : wr.cell? ⟨b1, o1 + j, none⟩ = some (.int .u8 (g j : Int)) := (HB.out.cell (p := ⟨b1, o1 + j, none⟩) hblt1).trans ((HB1.out.cell (p := ⟨b1, o1 + j, none⟩) hb1).trans hc1)
                have F0 : Hid (wr.cell? ⟨b0, o0 + j, none⟩ = some (.int .u64 (x j : Int))) := Lib.hid ((HB.out.cell (p := ⟨b0, o0 + j, none⟩) hblt0).trans ((HB1.out.cell (p := ⟨b0, o0 + j, none⟩) hb0).trans hc0))
                have f2 : (j : Int) < (n1 : Int) := by have := N.out; omega
                have f3 : j < n1 := by have := N.out; omega
                have hod := byte_odd (g j) (BG.out j)
                clear hc0 hc1
                by_cases he : g j % 2 = 1
                · rw [beq_iff_eq.2 he] at hod
                  go_wp2_with fail
                  refine (dead_yes B k (dying x g k j) j wr HT.out hlt (by rw [dying_at x g k j j hlt])).mono ?_
                  rintro e w5 ⟨rfl, ht5, hk5⟩
                  rw [dying_hit x g k j hlt he] at ht5
                  have HT5 := Lib.hid ht5
                  have HB5 := Lib.hid (kpB HB.out hk5 HT.out)
                  have HO5 := Lib.hid (own_kp HO.out hk5 (Nat.lt_succ_self B))
                  clear ht5 hk5 f1
                  have c0 := HO5.out.cellAt (j * 2) (by omega)
                  have c1 := HO5.out.cellAt (j * 2 + 1) (by omega)
                  rw [(hv_at k j hlt).1] at c0
                  rw [(hv_at k j hlt).2] at c1
                  go_simp
                  go_wp2_with fail
                  refine (txnY B k (dying x g k (j + 1)) j (j : Int) 1 (x j : Int) w5 HT5.out rfl hlt (by rw [dying_at x g k (j + 1) j hlt]) (by rw [dying_at x g k (j + 1) j hlt]; rfl) (by rw [dying_at x g k (j + 1) j hlt])).mono ?_
                  rintro e w6 ⟨rfl, hb6⟩
                  have HT6 := Lib.hid (HT5.out.below hb6)
                  have HB6 := Lib.hid (blB HB5.out hb6 HT5.out)
                  have HO6 := Lib.hid (own_below HO5.out hb6)
                  clear hb6 c0 c1
                  have f0 : w6.cell? ⟨b0, o0 + j, none⟩ = some (.int .u64 (x j : Int)) := (HB6.out.cell (p := ⟨b0, o0 + j, none⟩) hblt0).trans ((HB.out.cell (p := ⟨b0, o0 + j, none⟩) hblt0).symm.trans F0.out)
                  go_simp
                  go_wp2
                  go_roundw
                  case rel => exact ⟨j + 1, by omega, by go_num, HT6.out, HB6.out, HO6.out⟩
                  case measure => simp [intOf]; omega
                · rw [beq_eq_false_iff_ne.2 he] at hod
                  have c0 := HO.out.cellAt (j * 2) (by omega)
                  have c1 := HO.out.cellAt (j * 2 + 1) (by omega)
                  rw [(hv_at k j hlt).1] at c0
                  rw [(hv_at k j hlt).2] at c1
                  go_wp2_with fail
                  refine (txnY B k (dying x g k j) j (j : Int) 1 (x j : Int) wr HT.out rfl hlt (by rw [dying_at x g k j j hlt]) (by rw [dying_at x g k j j hlt]; rfl) (by rw [dying_at x g k j j hlt])).mono ?_
                  rintro e w6 ⟨rfl, hb6⟩
                  have HT6 := Lib.hid (HT.out.below hb6)
                  have HB6 := Lib.hid (blB HB.out hb6 HT.out)
                  have HO6 := Lib.hid (own_below HO.out hb6)
                  clear hb6 c0 c1 f1
                  have f0 : w6.cell? ⟨b0, o0 + j, none⟩ = some (.int .u64 (x j : Int)) := (HB6.out.cell (p := ⟨b0, o0 + j, none⟩) hblt0).trans ((HB.out.cell (p := ⟨b0, o0 + j, none⟩) hblt0).symm.trans F0.out)
                  go_simp
                  go_wp2
                  go_roundw
                  case rel => exact ⟨j + 1, by omega, by go_num, by rw [dying_skip x g k j he]; exact HT6.out, HB6.out, HO6.out⟩
                  case measure => simp [intOf]; omega
              · obtain rfl : j = k := by omega
                have e1 : oldest (dying x g j j) MX j = ol := by
                  rw [HOL.out]; exact oldest_congr _ _ _ _ (fun i hi => by rw [dying_at x g j j i hi, filled_low x j i hi]; exact ⟨rfl, rfl⟩)
                have e2 : clrN (dying x g j j) j = cn := by rw [HCN.out]; exact clrN_dying x g j j (Nat.le_refl _)
                have hnn : ∀ i, i < j → ((clr (dying x g j j) j i).is && (clr (dying x g j j) j i).dead) = false := fun i hi => (clr_dying_is x g j i hi).2.2
                have e3 : clrN (clr (dying x g j j) j) j = 0 := clrN_none _ j hnn j (Nat.le_refl _)
                have e4 := clr_none _ j hnn
                have e5 : oldest (clr (dying x g j j) j) MX j = lf := by
                  rw [HLF.out]; exact oldest_congr _ _ _ _ (fun i hi => ⟨(clr_dying_is x g j i hi).1, (clr_dying_is x g j i hi).2.1⟩)
                have e6 : live (clr (dying x g j j) j) j + cn = j := by
                  rw [HCN.out, live_congr _ (mixed x g j j) j (fun i hi => (clr_dying_is x g j i hi).1)]; exact live_mixed x g j j (Nat.le_refl _)
                have E1 := Lib.hid e1
                have E2 := Lib.hid e2
                have E3 := Lib.hid e3
                have E4 := Lib.hid e4
                have E5 := Lib.hid e5
                have E6 := Lib.hid e6
                clear e1 e2 hnn e3 e4 e5 e6
                have hcb : (cn : Int) ≤ 126 := by omega
                go_wp2_with fail
                refine (oldestN B j (dying x g j j) MX _ (ol : Int) wr HT.out mx_int (congrArg _ E1.out)).mono ?_
                rintro e wr' ⟨rfl, rfl⟩
                go_simp
                go_wp2_with fail
                refine (clearN B j (dying x g j j) (cn : Int) wr HT.out (congrArg _ E2.out)).mono ?_
                rintro e w7 ⟨rfl, ht7, hk7⟩
                have HT7 := Lib.hid ht7
                have HB7 := Lib.hid (kpB HB.out hk7 HT.out)
                clear ht7 hk7
                go_simp
                go_wp2_with fail
                refine (clearN B j _ 0 w7 HT7.out (congrArg _ E3.out)).mono ?_
                rintro e w8 ⟨rfl, ht8, hk8⟩
                rw [E4.out] at ht8
                have HT8 := Lib.hid ht8
                have HB8 := Lib.hid (kpB HB7.out hk8 HT7.out)
                clear ht8 hk8
                go_simp
                go_wp2_with fail
                refine (oldestN B j _ MX _ (lf : Int) w8 HT8.out mx_int (congrArg _ E5.out)).mono ?_
                rintro e w8' ⟨rfl, rfl⟩
                go_simp
                go_wp2_with fail
                refine (liveN B j _ ((j : Int) - (cn : Int)) w8 HT8.out (by have := E6.out; omega)).mono ?_
                rintro e w8' ⟨rfl, rfl⟩
                go_simp
                go_wp2_with fail
                go_ret
                exact ⟨rfl, HB1.out.trans (HB8.out.mono (by have := HB1.out.size; have := HBB.out; omega))⟩
/-! ### STEP 1: THE WALK: the Go text returns true, AND WRITES NOTHING THAT WAS THERE: 'Below w.heap.size w w'' (Derived/Below.lean: '.refl', '.alloc', '.drew', '.setCell' at a new block, '.trans'). Open each 'IsRow' by 'rcases' AHEAD of 'go_enter'; part every test ahead of the walk. -/
theorem walk (a0 : Option Addr) (len0 cap0 : Nat) (z0 : List Int) (a1 : Option Addr) (len1 cap1 : Nat) (z1 : List Int) (w : World) (w0 : IsRow .u64 w a0 len0 cap0 z0) (w1 : IsRow .u8 w a1 len1 cap1 z1) :
    Calls Try.prog 12 #[.slice a0 len0 cap0, .slice a1 len1 cap1] w fun e w' => e = .returned (.bool true) ∧ Below w.heap.size w w' := by
  obtain ⟨x, hx, bx⟩ := row_u64 w0
  obtain ⟨g, hg, bg⟩ := row_u8 w1
  exact walk12 a0 len0 cap0 x a1 len1 cap1 g w hx hg bx bg

/-! ### THE ROW's STEP: WRITTEN OUT: LEAVE IT -/
set_option maxRecDepth 100000 in
theorem lifted (os : Os) (started : os.Started) (H : Type) (enc : TypeId × Value → H) :
    ReturnsInHanded {} Try.checked os 12 .any (Rows.readersDyingSpec.pre6 enc Try.prog Try.f12 Rows.readersDyingRow.domain false) (Rows.readersDyingSpec.post enc Try.prog Try.f12 false true false false) := by
  refine returnsInHanded_of_change (C := Try.checked) own started (by kernel_rfl) Try.func12
    (ChangeSpec.witness6 (enc := enc) (C := Try.checked) false ⟨#[], #[.slice none 0 0, .slice none 0 0], []⟩ 8 (by kernel_rfl) (by kernel_rfl) (by kernel_rfl) (by kernel_rfl)) ?_
  intro W base args ds gs before hval0 hW hcnd _
  have hval : ∀ (j : Nat) t v, Try.f12.params[j]? = some t → args[j]? = some v → Value.okWide Try.prog W .any base t v := hval0
  have hW' := hW
  obtain ⟨p, q, hA0, hV, rfl, hfz, hnd⟩ := hW
  have hA : DataW.TrodAll enc Try.prog W 0 (fun _ => true) true Try.f12.params.toList args.toList ds p := hA0
  rw [Try.params12] at hA hval
  obtain ⟨v0, vs0, d0, ds0, p0, q0, hargs, rfl, rfl, h0, r0⟩ := trodAll_cons hA
  obtain ⟨v1, vs1, d1, ds1, p1, q1, rfl, rfl, rfl, h1, r1⟩ := trodAll_cons r0
  obtain ⟨rfl, rfl, rfl⟩ := trodAll_nil r1
  obtain rfl : args = #[v0, v1] := by cases args; simp_all
  obtain ⟨rfl, rfl⟩ := trodVars_none hV
  obtain ⟨a0, len0, cap0, rfl⟩ := okWide_slice Try.underlying69 (hval 0 69 v0 rfl rfl)
  have k0 := h0
  have lt0 : ∀ x ∈ p0, x.block < W.heap.size := by obtain ⟨m, hm⟩ := k0; exact DataW.trod_lt m _ _ _ hm
  obtain ⟨z0, w0⟩ : ∃ zs, IsRow .u64 W a0 len0 cap0 zs := by
    obtain ⟨fuel, hf⟩ := h0
    rcases open_ints Try.underlying69 Try.underlying43 (by kernel_rfl) hf with ⟨hcs, _⟩ | ⟨x, l, c, zs, hcs, _, hl, hm, hz, _, hcell, hwz⟩
    · simp [Value.cells] at hcs
      obtain ⟨rfl, rfl, rfl⟩ := hcs
      exact ⟨[], .inl ⟨rfl, rfl, rfl, rfl⟩⟩
    · simp [Value.cells] at hcs
      obtain ⟨rfl, rfl, rfl⟩ := hcs
      exact ⟨zs, .inr ⟨_, rfl, hl, hm, by simpa using hz, hcell, hwz⟩⟩
  obtain ⟨a1, len1, cap1, rfl⟩ := okWide_slice Try.underlying22 (hval 1 22 v1 rfl rfl)
  have k1 := h1
  have lt1 : ∀ x ∈ p1, x.block < W.heap.size := by obtain ⟨m, hm⟩ := k1; exact DataW.trod_lt m _ _ _ hm
  obtain ⟨z1, w1⟩ : ∃ zs, IsRow .u8 W a1 len1 cap1 zs := by
    obtain ⟨fuel, hf⟩ := h1
    rcases open_ints Try.underlying22 Try.underlying5 (by kernel_rfl) hf with ⟨hcs, _⟩ | ⟨x, l, c, zs, hcs, _, hl, hm, hz, _, hcell, hwz⟩
    · simp [Value.cells] at hcs
      obtain ⟨rfl, rfl, rfl⟩ := hcs
      exact ⟨[], .inl ⟨rfl, rfl, rfl, rfl⟩⟩
    · simp [Value.cells] at hcs
      obtain ⟨rfl, rfl, rfl⟩ := hcs
      exact ⟨zs, .inr ⟨_, rfl, hl, hm, by simpa using hz, hcell, hwz⟩⟩
  clear hA0 hval0
  refine (walk a0 len0 cap0 z0 a1 len1 cap1 z1 W w0 w1).mono fun e W' ⟨he, bel⟩ => ?_
  subst he
  exact ⟨_, rfl, _, _, _, [], _, [], hW', trodAll_mk1 (shut_bool Try.underlying4 _), (trodAll_cons_mk (Below.trod laidOut (by kernel_rfl) (of_decide_eq_true (by kernel_rfl)) k0 bel lt0) (trodAll_cons_mk (Below.trod laidOut (by kernel_rfl) (of_decide_eq_true (by kernel_rfl)) k1 bel lt1) trodAll_mk0)), rfl, bel.frame _, fun h => by cases h⟩

theorem over : Rows.readersDyingRow.holds Try.pinned (OpenSpec.ofChange Rows.readersDyingSpec) :=
  OpenClaim.holds_of_wide 12 Try.f12 rfl rfl rfl rfl rfl rfl rfl ⟨rfl, rfl, rfl, rfl, rfl⟩ rfl rfl rfl rfl rfl (by kernel_rfl) Try.func12 (by kernel_rfl)
    (of_decide_eq_true (by kernel_rfl)) (by unfold Func.isWrapper; first | (rw [if_pos (by decide +kernel)]; kernel_rfl) | (rw [if_neg (by decide +kernel)]; exact ⟨rfl, rfl⟩))
    (fun os started H enc _ => lifted os started H enc)

/-- ████ THE STATEMENT ████ -/
theorem proved : Rows.ReadersDyingSaid := over
#print axioms proved
end Go.Proofs.Ytlgammcbhgmpoaa.readersDying
