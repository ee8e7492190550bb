/- The statement ReadersGone: a handle that was ended, or whose reader was declared dead and cleared, is never good again, whoever begins there; for every input. -/
import Derived.Test.YtlgammcbhgmpoaaRows
import Derived.WalkKit
import Derived.ProofKit
import Derived.OpenShut
import Derived.ShutString
import Derived.ChangeOld
import Derived.Below
import Derived.Test.YtlgammcbhgmpoaaRdL
namespace Go.Proofs.Ytlgammcbhgmpoaa.readersGone
open Go.ChangeShapes Go.WideShapes Go.ChangeAt Go.RowKit
open Go.ChangeMaps (open_string shut_string)
set_option linter.unusedVariables false

theorem own : ownKnob Try.prog.godebug = none := by kernel_rfl
theorem laidOut : laidOutB Try.prog = true := by kernel_rfl

/-- WHAT THE WALK IS TOLD OF A SLICE OF INTEGERS THAT CAME IN: it is nil; or it leads to a row of 'cap' cells, the numbers 'zs' (the first 'len' are its elements, the rest its spare room), each fitting its kind. -/
def IsRow (k : IntKind) (w : World) (a : Option Addr) (len cap : Nat) (zs : List Int) : Prop :=
  (a = none ∧ len = 0 ∧ cap = 0 ∧ zs = []) ∨
  ∃ x, a = some x ∧ len ≤ cap ∧ cap ≤ maxLen ∧ zs.length = cap ∧ (∀ i, i < zs.length → w.cell? (x.add i) = some (.int k (zs.getD i 0))) ∧ ∀ n ∈ zs, (Lit.int k n).wf = true

theorem own_shape {w : World} {base : Nat} {e : TypeId} {size : Nat} {v : Value} {n : Nat} {xs : List Value} (h : w.ownsRow base e size v n xs) : ∃ a cap, v = .slice a n cap ∧ (0 < n → ∃ g, a = some ⟨g, 0, none⟩) := by
  rcases h.2 with ⟨rfl, rfl⟩ | ⟨g, cap, cur, rfl, _⟩
  · exact ⟨none, 0, rfl, fun h => absurd h (Nat.lt_irrefl _)⟩
  · exact ⟨_, cap, rfl, fun _ => ⟨g, rfl⟩⟩

/-- of n readers one is gone, and its slot has been used so often -/
def OneGone (n k t : Nat) (f : Nat → Sl) : Prop := (∀ i, i < n → i ≠ k → (f i).is = true) ∧ (f k).is = false ∧ (f k).turn = t
theorem gone_live (n k t : Nat) (f : Nat → Sl) (h : OneGone n k t f) (hk : k < n) : ∀ m, m ≤ n → live f m + (if k < m then 1 else 0) = m := by
  intro m
  induction m with
  | zero => intro _; simp [live]
  | succ m ih =>
    intro hm
    have := ih (by omega)
    rw [live]
    by_cases e : m = k
    · subst e; rw [h.2.1]; simp at this ⊢; omega
    · rw [h.1 m (by omega) e]
      by_cases g : k < m
      · simp [g, show k < m + 1 by omega] at this ⊢; omega
      · simp [g, show ¬ k < m + 1 by omega] at this ⊢; omega
theorem gone_end (x : Nat → Nat) (n k : Nat) : OneGone n k 1 (ended (filled x n) k) ∨ ¬ k < n := by
  by_cases hk : k < n
  · left
    refine ⟨fun i hi hne => ?_, ?_, ?_⟩
    · simp [ended, up, hne, filled, hi]
    · simp [ended, up]
    · simp [ended, up, filled, hk]
  · exact .inr hk
theorem gone_clear (x : Nat → Nat) (n k : Nat) (hk : k < n) : OneGone n k 1 (clr (deadened (filled x n) k) n) ∧ clrN (deadened (filled x n) k) n = 1 := by
  have hd : ∀ i, i < n → deadened (filled x n) k i = ⟨true, x i, 1, i == k⟩ := by
    intro i hi
    unfold deadened up
    by_cases e : i = k
    · subst e; simp [filled, hi]
    · simp [e, filled, hi]
  constructor
  · refine ⟨fun i hi hne => ?_, ?_, ?_⟩
    · simp [clr, hd i hi, hne]
    · simp [clr, hd k hk, hk]
    · simp [clr, hd k hk, hk]
  · have key : ∀ m, m ≤ n → clrN (deadened (filled x n) k) m = if k < m then 1 else 0 := by
      intro m
      induction m with
      | zero => intro _; rfl
      | succ m ih =>
        intro hm
        rw [clrN, ih (by omega), hd m (by omega)]
        by_cases e : m = k
        · subst e; simp
        · by_cases g : k < m
          · simp [g, e, show k < m + 1 by omega]
          · simp [g, e, show ¬ k < m + 1 by omega]
    rw [key n (Nat.le_refl _), if_pos hk]
theorem gone_again (n k t x : Nat) (f : Nat → Sl) (h : OneGone n k t f) (ht : t < 1000) : OneGone n k (t + 1) (ended (begun f k x) k) := by
  refine ⟨fun i hi hne => ?_, ?_, ?_⟩
  · simp [ended, begun, up, hne]; exact h.1 i hi hne
  · simp [ended, up]
  · simp [ended, begun, up, h.2.2]; omega
set_option maxRecDepth 100000 in
set_option maxHeartbeats 4000000 in
theorem walk9 (m s : Nat) (d : Bool) (a3 : Option Addr) (n3 cap3 : Nat) (x : Nat → Nat) (w : World)
    (hx : Uns .u64 w a3 n3 x) (bx : ∀ i, x i < 18446744073709551616) (hm : m < 256) (hs : s < 256) :
    Calls Try.prog 9 #[.int .u8 (m : Int), .int .u8 (s : Int), .bool d, .slice a3 n3 cap3] w fun e w' => e = .returned (.bool true) ∧ Below w.heap.size w w' := by
  have HX := Lib.hid hx
  have BX := Lib.hid bx
  clear hx bx
  by_cases h40 : 40 < n3
  · have q1 : decide ((40 : Int) < n3) = true := by simp; omega
    clear h40
    go_enter Try.func9, Try.ntmps9
    go_wp2_with (go_at_call 16; refine (awake9 _).mono ?_; rintro e w1 ⟨rfl, hb⟩)
    go_ret
    exact ⟨rfl, hb⟩
  · have q1 : decide ((40 : Int) < n3) = false := by simp; omega
    have H40 := Lib.hid h40
    obtain ⟨n, hn⟩ : ∃ n, n = m % 20 + 1 := ⟨_, rfl⟩
    obtain ⟨m20, hm20⟩ : ∃ z, z = m % 20 := ⟨_, rfl⟩
    have hmI : (m : Int) % 20 = (m20 : Int) := by rw [hm20]; simp
    have hnI : (m20 : Int) + 1 = (n : Int) := by omega
    have hm20b : (m20 : Int) < 20 := by omega
    obtain ⟨k, hk⟩ : ∃ k, k = s % n := ⟨_, rfl⟩
    have hkn : k < n := by rw [hk]; exact Nat.mod_lt _ (by omega)
    have hsI : (s : Int) % (n : Int) = (k : Int) := by rw [hk]; simp
    have hsb : (s : Int) < 256 := by omega
    have N := Lib.hid (show 1 ≤ n ∧ n ≤ 20 by omega)
    have hnN : (n : Int) ≤ 1000 := by omega
    have hnP : (0 : Int) < (n : Int) := by omega
    have HK := Lib.hid hkn
    obtain ⟨i0, hi, hz0, hz1, hz2⟩ := info_parts info47
    have HI := Lib.hid (And.intro hi (And.intro hz0 (And.intro hz1 hz2)))
    clear h40 hn hm20 hk hkn hm hs hi hz0 hz1 hz2
    go_enter Try.func9, Try.ntmps9
    go_wp2_with fail
    refine (awake9 _).mono ?_
    rintro e w1 ⟨rfl, hb1⟩
    have HB1 := Lib.hid hb1
    clear hb1
    go_simp
    go_wp2_with fail
    refine (new_tb n (by have := N.out; omega) (by have := N.out; omega) _ rfl _).mono ?_
    rintro e w2 ⟨rfl, ht2, hb2⟩
    have HT2 := Lib.hid ht2
    have HB2 := Lib.hid hb2
    clear ht2 hb2 hmI hnI q1
    go_simp
    generalize hBB : w1.heap.size = B at *
    have HBB := Lib.hid hBB
    clear hBB
    go_wp2_with fail
    go_loopw [13, 14] (fun l i wr => ∃ k : Nat, k ≤ n ∧ i = .int .i64 k ∧ Tb wr B n (filled (fun i => i) k) ∧ Below B w1 wr ∧ wr.ownsRow (B + 1) 47 2 l k (hv k)) (fun _ i _ => n - (intOf i).toNat)
    case atStart => exact ⟨0, Nat.zero_le _, rfl, by rw [filled_zero]; exact HT2.out, HB2.out, World.ownsRow_nil _ _ _ _⟩
    case round =>
      obtain ⟨q, hq, rfl, ht, hb, ho⟩ := hrel
      have HT := Lib.hid ht
      have HB := Lib.hid hb
      have HO := Lib.hid ho
      clear ht hb ho
      by_cases hlt : q < n
      · have hqn : q < 126 := by have := N.out; omega
        have hqN : (q : Int) ≤ 126 := by omega
        go_wp2_with fail
        refine (beginY B n (filled (fun i => i) q) q q _ (q : Int) 1 wr HT.out rfl rfl (by omega) hlt (fun j hj => by rw [filled_low _ q j hj]) (by rw [filled_high _ q q (Nat.le_refl _)]) (by rw [filled_high _ q q (Nat.le_refl _)]; decide)).mono ?_
        rintro e w3 ⟨rfl, ht3, hk3⟩
        rw [filled_succ (fun i => i) q] at ht3
        have HT3 := Lib.hid ht3
        have HB3 := Lib.hid (kpB HB.out hk3 HT.out)
        have HO3 := Lib.hid (own_kp HO.out hk3 (Nat.lt_succ_self B))
        clear ht3 hk3
        go_simp
        go_wp2_with (at_builtin; refine wpList_append_own _ rfl _ _ 42 rfl (B + 1) 47 i0 (.agg #[.int .i64 0, .int .u64 0]) 2 16 Try.underlying42 HI.out.1 HI.out.2.1 HI.out.2.2.1 HI.out.2.2.2 rfl (by decide) _ q (hv q) rfl ((HO3.out.alloc _).alloc _) ⟨w3.heap.size + 1, 0, none⟩ 1 1 [.int .i64 (q : Int), .int .u64 1] rfl rfl ?c2 ?c3 ?c4 ?c5 ?c6 ?_)
        case c2 => exact handle_new _ _ _ _
        case c3 => exact handle_one _ _
        case c4 => simp [maxLen]; omega
        case c5 => omega
        case c6 => have := HT3.out.lt; simp; omega
        intro v' w4 hown hgrow hnil
        obtain ⟨ht4, hb4⟩ := push_facts HT3.out HB3.out (Nat.le_refl _) HO3.out hgrow
        have HT4 := Lib.hid ht4
        have HB4 := Lib.hid hb4
        have HO4 : Hid (w4.ownsRow (B + 1) 47 2 v' (q + 1) (hv (q + 1))) := Lib.hid hown
        clear ht4 hb4 hown hgrow hnil
        go_wp2
        go_roundw
        case rel => exact ⟨q + 1, by omega, by go_num, HT4.out, HB4.out, HO4.out⟩
        case measure => simp [intOf]; omega
      · obtain rfl : q = n := by omega
        obtain ⟨la, lcap, hlv, hla⟩ := own_shape HO.out
        subst hlv
        obtain ⟨gb, hgb⟩ := hla (by have := N.out; omega)
        subst hgb
        clear hlt hq hla
        obtain ⟨wf, rfl⟩ : ∃ wf : World, wf = wr := ⟨_, rfl⟩
        have hsT : (s : Int).tmod (q : Int) = (k : Int) := by rw [Int.tmod_eq_emod_of_nonneg (by omega)]; exact hsI
        have hkI2 : (k : Int) < (q : Int) := by have := HK.out; omega
        cases d
        · have c0 := HO.out.cellAt (k * 2) (by have := HK.out; omega)
          have c1 := HO.out.cellAt (k * 2 + 1) (by have := HK.out; omega)
          rw [(hv_at q k HK.out).1] at c0
          rw [(hv_at q k HK.out).2] at c1
          have hkI3 : k < q := HK.out
          go_wp2_with fail
          refine (endY B q (filled (fun i => i) q) k (k : Int) 1 wf HT.out rfl HK.out (by rw [filled_low _ q k HK.out]) (by rw [filled_low _ q k HK.out]; rfl)).mono ?_
          rintro e w5 ⟨rfl, ht5, hk5⟩
          have HT5 := Lib.hid ht5
          have HB5 := Lib.hid (kpB HB.out hk5 HT.out)
          have HO5 := Lib.hid (own_kp HO.out hk5 (Nat.lt_succ_self B))
          have hone := (gone_end (fun i => i) q k).resolve_right (fun h => h HK.out)
          clear ht5 hk5 c0 c1 hsI hsT hsb
          go_simp
          have HG1 := Lib.hid hone
          have HLcells := HO5
          obtain ⟨j0, hj0⟩ : ∃ j : Nat, j = 0 := ⟨_, rfl⟩
          go_wp2_with fail
          go_loopw [18] (fun i wr => ∃ j : Nat, j ≤ n3 ∧ i = .int .i64 j ∧ (∃ f, Tb wr B q f ∧ OneGone q k (j + 1) f) ∧ Below B w1 wr ∧ wr.ownsRow (B + 1) 47 2 (.slice (some ⟨gb, 0, none⟩) q lcap) q (hv q)) (fun i _ => n3 - (intOf i).toNat)
          case atStart => exact ⟨0, Nat.zero_le _, rfl, ⟨_, HT5.out, HG1.out⟩, HB5.out, HO5.out⟩
          case round =>
            obtain ⟨j, hj, rfl, ⟨f, ht, hone⟩, hb, ho⟩ := hrel
            have HT := Lib.hid ht
            have HB := Lib.hid hb
            have HO := Lib.hid ho
            have HG := Lib.hid hone
            clear ht hb ho hone
            by_cases hlt : j < n3
            · have hj40 : j < 41 := by have := H40.out; omega
              have hj40I : (j : Int) < 1000 := by omega
              obtain ⟨b0, o0, rfl, hb0, hc0⟩ := HX.out j hlt
              have hblt0 : b0 < B := by have := HB1.out.size; have := HBB.out; omega
              have F0 : Hid (wr.cell? ⟨b0, o0 + j, none⟩ = some (.int .u64 (x j : Int))) := Lib.hid ((HB.out.cell (p := ⟨b0, o0 + j, none⟩) hblt0).trans ((HB1.out.cell (p := ⟨b0, o0 + j, none⟩) hb0).trans hc0))
              have c0 := HO.out.cellAt (k * 2) (by have := HK.out; omega)
              have c1 := HO.out.cellAt (k * 2 + 1) (by have := HK.out; omega)
              rw [(hv_at q k HK.out).1] at c0
              rw [(hv_at q k HK.out).2] at c1
              have hngd : ¬ Gd f q (k : Int) 1 := by
                rintro ⟨i, h1, h2, h3, h4⟩
                obtain rfl : k = i := by omega
                rw [HG.out.2.1] at h3; cases h3
              have HNG := Lib.hid hngd
              have hkI2 : (k : Int) < (q : Int) := by have := HK.out; omega
              have hkI3 : k < q := HK.out
              clear hc0 hngd
              go_wp2_with fail
              refine (txn_no B q f (k : Int) 1 wr HT.out HNG.out).mono ?_
              rintro e w6 ⟨rfl, hb6⟩
              have HT6 := Lib.hid (HT.out.below hb6)
              have HB6 := Lib.hid (blB HB.out hb6 HT.out)
              have HO6 := Lib.hid (own_below HO.out hb6)
              clear hb6 c0 c1
              have c0 := HO6.out.cellAt (k * 2) (by omega)
              have c1 := HO6.out.cellAt (k * 2 + 1) (by omega)
              rw [(hv_at q k HK.out).1] at c0
              rw [(hv_at q k HK.out).2] at c1
              go_simp
              go_wp2_with fail
              refine (end_no B q f (k : Int) 1 w6 HT6.out HNG.out).mono ?_
              rintro e w7 ⟨rfl, hb7⟩
              have HT7 := Lib.hid (HT6.out.below hb7)
              have HB7 := Lib.hid (blB HB6.out hb7 HT6.out)
              have HO7 := Lib.hid (own_below HO6.out hb7)
              clear hb7 c0 c1
              have f0 : w7.cell? ⟨b0, o0 + j, none⟩ = some (.int .u64 (x j : Int)) := (HB7.out.cell (p := ⟨b0, o0 + j, none⟩) hblt0).trans ((HB.out.cell (p := ⟨b0, o0 + j, none⟩) hblt0).symm.trans F0.out)
              go_simp
              go_wp2_with fail
              have hturn : ((((f k).turn + 1) % 18446744073709551616 : Nat) : Int) = (j : Int) + 2 := by rw [HG.out.2.2]; omega
              refine (beginY B q f (x j) k _ (k : Int) ((j : Int) + 2) w7 HT7.out rfl rfl (BX.out j) HK.out (fun i hi => HG.out.1 i (by have := HK.out; omega) (by omega)) HG.out.2.1 hturn).mono ?_
              rintro e w8 ⟨rfl, ht8, hk8⟩
              have HT8 := Lib.hid ht8
              have HB8 := Lib.hid (kpB HB7.out hk8 HT7.out)
              have HO8 := Lib.hid (own_kp HO7.out hk8 (Nat.lt_succ_self B))
              have HTU := Lib.hid hturn
              clear ht8 hk8 f0 hturn
              go_simp
              go_wp2_with fail
              have hvh := Hv.new w8 (k : Int) ((j : Int) + 2)
              have hnew : Below w8.heap.size w8 (w8.alloc (.cells #[.int .i64 (k : Int), .int .u64 ((j : Int) + 2)] 47)) := (Below.refl _ _).alloc (Nat.le_refl _) _
              have HT9 := Lib.hid (HT8.out.below hnew)
              have HB9 := Lib.hid (blB HB8.out hnew HT8.out)
              have HO9 := Lib.hid (own_below HO8.out hnew)
              have hhb : B < w8.heap.size := HT8.out.lt
              generalize w8.alloc (.cells #[.int .i64 (k : Int), .int .u64 ((j : Int) + 2)] 47) = w9 at *
              generalize w8.heap.size = hbk at *
              have HVH := Lib.hid hvh
              clear hvh hnew
              have d0 := HVH.out.c0
              have d1 := HVH.out.c1
              refine (txnY B q (begun f k (x j)) k (k : Int) ((j : Int) + 2) (x j : Int) w9 HT9.out rfl HK.out (by simp [begun, up]) (by rw [← HTU.out]; simp [begun, up]) (by simp [begun, up])).mono ?_
              rintro e w10 ⟨rfl, hb10⟩
              have HT10 := Lib.hid (HT9.out.below hb10)
              have HB10 := Lib.hid (blB HB9.out hb10 HT9.out)
              have HO10 := Lib.hid (own_below HO9.out hb10)
              have HV10 := Lib.hid (HVH.out.below hb10)
              clear hb10 d0 d1
              have d0 := HV10.out.c0
              have d1 := HV10.out.c1
              have f0 : w10.cell? ⟨b0, o0 + j, none⟩ = some (.int .u64 (x j : Int)) := (HB10.out.cell (p := ⟨b0, o0 + j, none⟩) hblt0).trans ((HB.out.cell (p := ⟨b0, o0 + j, none⟩) hblt0).symm.trans F0.out)
              go_simp
              go_wp2_with fail
              refine (endY B q (begun f k (x j)) k (k : Int) ((j : Int) + 2) w10 HT10.out rfl HK.out (by simp [begun, up]) (by rw [← HTU.out]; simp [begun, up])).mono ?_
              rintro e w11 ⟨rfl, ht11, hk11⟩
              have HT11 := Lib.hid ht11
              have HB11 := Lib.hid (kpB HB10.out hk11 HT10.out)
              have HO11 := Lib.hid (own_kp HO10.out hk11 (Nat.lt_succ_self B))
              clear ht11 hk11 d0 d1 f0
              go_simp
              go_wp2
              go_roundw
              case rel => exact ⟨j + 1, by omega, by go_num, ⟨_, HT11.out, gone_again q k (j + 1) (x j) f HG.out (by omega)⟩, HB11.out, HO11.out⟩
              case measure => simp [intOf]; omega
            · obtain rfl : j = n3 := by omega
              have hlv2 := gone_live q k (j + 1) f HG.out HK.out q (Nat.le_refl _)
              rw [if_pos HK.out] at hlv2
              have HLV := Lib.hid hlv2
              clear hlv2
              go_wp2_with fail
              refine (liveN B q f ((q : Int) - 1) wr HT.out (by have := HLV.out; omega)).mono ?_
              rintro e w6 ⟨rfl, rfl⟩
              go_simp
              go_wp2_with fail
              go_ret
              exact ⟨rfl, HB1.out.trans (HB.out.mono (by have := HB1.out.size; have := HBB.out; omega))⟩
        · go_wp2_with fail
          refine (dead_yes B q (filled (fun i => i) q) k wf HT.out HK.out (by rw [filled_low _ q k HK.out])).mono ?_
          rintro e w4 ⟨rfl, ht4, hk4⟩
          have HT4 := Lib.hid ht4
          have HB4 := Lib.hid (kpB HB.out hk4 HT.out)
          have HO4 := Lib.hid (own_kp HO.out hk4 (Nat.lt_succ_self B))
          obtain ⟨hone, hcn⟩ := gone_clear (fun i => i) q k HK.out
          have HCN := Lib.hid hcn
          have HON := Lib.hid hone
          clear ht4 hk4 hcn hone
          go_simp
          go_wp2_with fail
          refine (clearN B q _ 1 w4 HT4.out (congrArg _ HCN.out)).mono ?_
          rintro e w5 ⟨rfl, ht5, hk5⟩
          have HT5 := Lib.hid ht5
          have HB5 := Lib.hid (kpB HB4.out hk5 HT4.out)
          have HO5 := Lib.hid (own_kp HO4.out hk5 (Nat.lt_succ_self B))
          have hone := HON.out
          clear ht5 hk5 hsI hsT hsb
          go_simp
          have HG1 := Lib.hid hone
          have HLcells := HO5
          obtain ⟨j0, hj0⟩ : ∃ j : Nat, j = 0 := ⟨_, rfl⟩
          go_wp2_with fail
          go_loopw [18] (fun i wr => ∃ j : Nat, j ≤ n3 ∧ i = .int .i64 j ∧ (∃ f, Tb wr B q f ∧ OneGone q k (j + 1) f) ∧ Below B w1 wr ∧ wr.ownsRow (B + 1) 47 2 (.slice (some ⟨gb, 0, none⟩) q lcap) q (hv q)) (fun i _ => n3 - (intOf i).toNat)
          case atStart => exact ⟨0, Nat.zero_le _, rfl, ⟨_, HT5.out, HG1.out⟩, HB5.out, HO5.out⟩
          case round =>
            obtain ⟨j, hj, rfl, ⟨f, ht, hone⟩, hb, ho⟩ := hrel
            have HT := Lib.hid ht
            have HB := Lib.hid hb
            have HO := Lib.hid ho
            have HG := Lib.hid hone
            clear ht hb ho hone
            by_cases hlt : j < n3
            · have hj40 : j < 41 := by have := H40.out; omega
              have hj40I : (j : Int) < 1000 := by omega
              obtain ⟨b0, o0, rfl, hb0, hc0⟩ := HX.out j hlt
              have hblt0 : b0 < B := by have := HB1.out.size; have := HBB.out; omega
              have F0 : Hid (wr.cell? ⟨b0, o0 + j, none⟩ = some (.int .u64 (x j : Int))) := Lib.hid ((HB.out.cell (p := ⟨b0, o0 + j, none⟩) hblt0).trans ((HB1.out.cell (p := ⟨b0, o0 + j, none⟩) hb0).trans hc0))
              have c0 := HO.out.cellAt (k * 2) (by have := HK.out; omega)
              have c1 := HO.out.cellAt (k * 2 + 1) (by have := HK.out; omega)
              rw [(hv_at q k HK.out).1] at c0
              rw [(hv_at q k HK.out).2] at c1
              have hngd : ¬ Gd f q (k : Int) 1 := by
                rintro ⟨i, h1, h2, h3, h4⟩
                obtain rfl : k = i := by omega
                rw [HG.out.2.1] at h3; cases h3
              have HNG := Lib.hid hngd
              have hkI2 : (k : Int) < (q : Int) := by have := HK.out; omega
              have hkI3 : k < q := HK.out
              clear hc0 hngd
              go_wp2_with fail
              refine (txn_no B q f (k : Int) 1 wr HT.out HNG.out).mono ?_
              rintro e w6 ⟨rfl, hb6⟩
              have HT6 := Lib.hid (HT.out.below hb6)
              have HB6 := Lib.hid (blB HB.out hb6 HT.out)
              have HO6 := Lib.hid (own_below HO.out hb6)
              clear hb6 c0 c1
              have c0 := HO6.out.cellAt (k * 2) (by omega)
              have c1 := HO6.out.cellAt (k * 2 + 1) (by omega)
              rw [(hv_at q k HK.out).1] at c0
              rw [(hv_at q k HK.out).2] at c1
              go_simp
              go_wp2_with fail
              refine (end_no B q f (k : Int) 1 w6 HT6.out HNG.out).mono ?_
              rintro e w7 ⟨rfl, hb7⟩
              have HT7 := Lib.hid (HT6.out.below hb7)
              have HB7 := Lib.hid (blB HB6.out hb7 HT6.out)
              have HO7 := Lib.hid (own_below HO6.out hb7)
              clear hb7 c0 c1
              have f0 : w7.cell? ⟨b0, o0 + j, none⟩ = some (.int .u64 (x j : Int)) := (HB7.out.cell (p := ⟨b0, o0 + j, none⟩) hblt0).trans ((HB.out.cell (p := ⟨b0, o0 + j, none⟩) hblt0).symm.trans F0.out)
              go_simp
              go_wp2_with fail
              have hturn : ((((f k).turn + 1) % 18446744073709551616 : Nat) : Int) = (j : Int) + 2 := by rw [HG.out.2.2]; omega
              refine (beginY B q f (x j) k _ (k : Int) ((j : Int) + 2) w7 HT7.out rfl rfl (BX.out j) HK.out (fun i hi => HG.out.1 i (by have := HK.out; omega) (by omega)) HG.out.2.1 hturn).mono ?_
              rintro e w8 ⟨rfl, ht8, hk8⟩
              have HT8 := Lib.hid ht8
              have HB8 := Lib.hid (kpB HB7.out hk8 HT7.out)
              have HO8 := Lib.hid (own_kp HO7.out hk8 (Nat.lt_succ_self B))
              have HTU := Lib.hid hturn
              clear ht8 hk8 f0 hturn
              go_simp
              go_wp2_with fail
              have hvh := Hv.new w8 (k : Int) ((j : Int) + 2)
              have hnew : Below w8.heap.size w8 (w8.alloc (.cells #[.int .i64 (k : Int), .int .u64 ((j : Int) + 2)] 47)) := (Below.refl _ _).alloc (Nat.le_refl _) _
              have HT9 := Lib.hid (HT8.out.below hnew)
              have HB9 := Lib.hid (blB HB8.out hnew HT8.out)
              have HO9 := Lib.hid (own_below HO8.out hnew)
              have hhb : B < w8.heap.size := HT8.out.lt
              generalize w8.alloc (.cells #[.int .i64 (k : Int), .int .u64 ((j : Int) + 2)] 47) = w9 at *
              generalize w8.heap.size = hbk at *
              have HVH := Lib.hid hvh
              clear hvh hnew
              have d0 := HVH.out.c0
              have d1 := HVH.out.c1
              refine (txnY B q (begun f k (x j)) k (k : Int) ((j : Int) + 2) (x j : Int) w9 HT9.out rfl HK.out (by simp [begun, up]) (by rw [← HTU.out]; simp [begun, up]) (by simp [begun, up])).mono ?_
              rintro e w10 ⟨rfl, hb10⟩
              have HT10 := Lib.hid (HT9.out.below hb10)
              have HB10 := Lib.hid (blB HB9.out hb10 HT9.out)
              have HO10 := Lib.hid (own_below HO9.out hb10)
              have HV10 := Lib.hid (HVH.out.below hb10)
              clear hb10 d0 d1
              have d0 := HV10.out.c0
              have d1 := HV10.out.c1
              have f0 : w10.cell? ⟨b0, o0 + j, none⟩ = some (.int .u64 (x j : Int)) := (HB10.out.cell (p := ⟨b0, o0 + j, none⟩) hblt0).trans ((HB.out.cell (p := ⟨b0, o0 + j, none⟩) hblt0).symm.trans F0.out)
              go_simp
              go_wp2_with fail
              refine (endY B q (begun f k (x j)) k (k : Int) ((j : Int) + 2) w10 HT10.out rfl HK.out (by simp [begun, up]) (by rw [← HTU.out]; simp [begun, up])).mono ?_
              rintro e w11 ⟨rfl, ht11, hk11⟩
              have HT11 := Lib.hid ht11
              have HB11 := Lib.hid (kpB HB10.out hk11 HT10.out)
              have HO11 := Lib.hid (own_kp HO10.out hk11 (Nat.lt_succ_self B))
              clear ht11 hk11 d0 d1 f0
              go_simp
              go_wp2
              go_roundw
              case rel => exact ⟨j + 1, by omega, by go_num, ⟨_, HT11.out, gone_again q k (j + 1) (x j) f HG.out (by omega)⟩, HB11.out, HO11.out⟩
              case measure => simp [intOf]; omega
            · obtain rfl : j = n3 := by omega
              have hlv2 := gone_live q k (j + 1) f HG.out HK.out q (Nat.le_refl _)
              rw [if_pos HK.out] at hlv2
              have HLV := Lib.hid hlv2
              clear hlv2
              go_wp2_with fail
              refine (liveN B q f ((q : Int) - 1) wr HT.out (by have := HLV.out; omega)).mono ?_
              rintro e w6 ⟨rfl, rfl⟩
              go_simp
              go_wp2_with fail
              go_ret
              exact ⟨rfl, HB1.out.trans (HB.out.mono (by have := HB1.out.size; have := HBB.out; omega))⟩
/-! ### STEP 1: THE WALK: the Go text returns true, AND WRITES NOTHING THAT WAS THERE: 'Below w.heap.size w w'' (Derived/Below.lean: '.refl', '.alloc', '.drew', '.setCell' at a new block, '.trans'). Open each 'IsRow' by 'rcases' AHEAD of 'go_enter'; part every test ahead of the walk. -/
theorem walk (a0 : Int) (a1 : Int) (a2 : Bool) (a3 : Option Addr) (len3 cap3 : Nat) (z3 : List Int) (w : World) (w0 : (Lit.int .u8 a0).wf = true) (w1 : (Lit.int .u8 a1).wf = true) (w3 : IsRow .u64 w a3 len3 cap3 z3) :
    Calls Try.prog 9 #[.int .u8 a0, .int .u8 a1, .bool a2, .slice a3 len3 cap3] w fun e w' => e = .returned (.bool true) ∧ Below w.heap.size w w' := by
  obtain ⟨x, hx, bx⟩ := row_u64 w3
  have h0 : 0 ≤ a0 ∧ a0 < 256 := by simp [Lit.wf, IntKind.min, IntKind.max, IntKind.bits, IntKind.signed] at w0; omega
  have h1 : 0 ≤ a1 ∧ a1 < 256 := by simp [Lit.wf, IntKind.min, IntKind.max, IntKind.bits, IntKind.signed] at w1; omega
  obtain ⟨m, rfl⟩ : ∃ n : Nat, a0 = (n : Int) := ⟨a0.toNat, by omega⟩
  obtain ⟨s, rfl⟩ : ∃ n : Nat, a1 = (n : Int) := ⟨a1.toNat, by omega⟩
  exact walk9 m s a2 a3 len3 cap3 x w hx bx (by omega) (by omega)

/-! ### THE ROW's STEP: WRITTEN OUT: LEAVE IT -/
set_option maxRecDepth 100000 in
theorem lifted (os : Os) (started : os.Started) (H : Type) (enc : TypeId × Value → H) :
    ReturnsInHanded {} Try.checked os 9 .any (Rows.readersGoneSpec.pre6 enc Try.prog Try.f9 Rows.readersGoneRow.domain false) (Rows.readersGoneSpec.post enc Try.prog Try.f9 false true false false) := by
  refine returnsInHanded_of_change (C := Try.checked) own started (by kernel_rfl) Try.func9
    (ChangeSpec.witness6 (enc := enc) (C := Try.checked) false ⟨#[], #[.int .u8 0, .int .u8 0, .bool false, .slice none 0 0], []⟩ 8 (by kernel_rfl) (by kernel_rfl) (by kernel_rfl) (by kernel_rfl)) ?_
  intro W base args ds gs before hval0 hW hcnd _
  have hval : ∀ (j : Nat) t v, Try.f9.params[j]? = some t → args[j]? = some v → Value.okWide Try.prog W .any base t v := hval0
  have hW' := hW
  obtain ⟨p, q, hA0, hV, rfl, hfz, hnd⟩ := hW
  have hA : DataW.TrodAll enc Try.prog W 0 (fun _ => true) true Try.f9.params.toList args.toList ds p := hA0
  rw [Try.params9] at hA hval
  obtain ⟨v0, vs0, d0, ds0, p0, q0, hargs, rfl, rfl, h0, r0⟩ := trodAll_cons hA
  obtain ⟨v1, vs1, d1, ds1, p1, q1, rfl, rfl, rfl, h1, r1⟩ := trodAll_cons r0
  obtain ⟨v2, vs2, d2, ds2, p2, q2, rfl, rfl, rfl, h2, r2⟩ := trodAll_cons r1
  obtain ⟨v3, vs3, d3, ds3, p3, q3, rfl, rfl, rfl, h3, r3⟩ := trodAll_cons r2
  obtain ⟨rfl, rfl, rfl⟩ := trodAll_nil r3
  obtain rfl : args = #[v0, v1, v2, v3] := by cases args; simp_all
  obtain ⟨rfl, rfl⟩ := trodVars_none hV
  obtain ⟨a0, rfl, rfl, rfl, w0⟩ := open_int Try.underlying5 (hval 0 5 v0 rfl rfl) h0
  obtain ⟨a1, rfl, rfl, rfl, w1⟩ := open_int Try.underlying5 (hval 1 5 v1 rfl rfl) h1
  obtain ⟨a2, rfl, rfl, rfl⟩ := open_bool Try.underlying4 (hval 2 4 v2 rfl rfl) h2
  obtain ⟨a3, len3, cap3, rfl⟩ := okWide_slice Try.underlying69 (hval 3 69 v3 rfl rfl)
  have k3 := h3
  have lt3 : ∀ x ∈ p3, x.block < W.heap.size := by obtain ⟨m, hm⟩ := k3; exact DataW.trod_lt m _ _ _ hm
  obtain ⟨z3, w3⟩ : ∃ zs, IsRow .u64 W a3 len3 cap3 zs := by
    obtain ⟨fuel, hf⟩ := h3
    rcases open_ints Try.underlying69 Try.underlying43 (by kernel_rfl) hf with ⟨hcs, _⟩ | ⟨x, l, c, zs, hcs, _, hl, hm, hz, _, hcell, hwz⟩
    · simp [Value.cells] at hcs
      obtain ⟨rfl, rfl, rfl⟩ := hcs
      exact ⟨[], .inl ⟨rfl, rfl, rfl, rfl⟩⟩
    · simp [Value.cells] at hcs
      obtain ⟨rfl, rfl, rfl⟩ := hcs
      exact ⟨zs, .inr ⟨_, rfl, hl, hm, by simpa using hz, hcell, hwz⟩⟩
  clear hA0 hval0
  refine (walk a0 a1 a2 a3 len3 cap3 z3 W w0 w1 w3).mono fun e W' ⟨he, bel⟩ => ?_
  subst he
  exact ⟨_, rfl, _, _, _, [], _, [], hW', trodAll_mk1 (shut_bool Try.underlying4 _), (trodAll_cons_mk (shut_int Try.underlying5 w0) (trodAll_cons_mk (shut_int Try.underlying5 w1) (trodAll_cons_mk (shut_bool Try.underlying4 _) (trodAll_cons_mk (Below.trod laidOut (by kernel_rfl) (of_decide_eq_true (by kernel_rfl)) k3 bel lt3) trodAll_mk0)))), rfl, bel.frame _, fun h => by cases h⟩

theorem over : Rows.readersGoneRow.holds Try.pinned (OpenSpec.ofChange Rows.readersGoneSpec) :=
  OpenClaim.holds_of_wide 9 Try.f9 rfl rfl rfl rfl rfl rfl rfl ⟨rfl, rfl, rfl, rfl, rfl⟩ rfl rfl rfl rfl rfl (by kernel_rfl) Try.func9 (by kernel_rfl)
    (of_decide_eq_true (by kernel_rfl)) (by unfold Func.isWrapper; first | (rw [if_pos (by decide +kernel)]; kernel_rfl) | (rw [if_neg (by decide +kernel)]; exact ⟨rfl, rfl⟩))
    (fun os started H enc _ => lifted os started H enc)

/-- ████ THE STATEMENT ████ -/
theorem proved : Rows.ReadersGoneSaid := over
#print axioms proved
end Go.Proofs.Ytlgammcbhgmpoaa.readersGone
