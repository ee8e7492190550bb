/- The statement ReadersOldest: the oldest change is the least of what is read, and of what is told, whoever comes and goes; for every input. -/
import Derived.Test.YtlgammcbhgmpoaaRows
import Derived.WalkKit
import Derived.ProofKit
import Derived.OpenShut
import Derived.ShutString
import Derived.ChangeOld
import Derived.Below
import Derived.Test.YtlgammcbhgmpoaaRdL
namespace Go.Proofs.Ytlgammcbhgmpoaa.readersOldest
open Go.ChangeShapes Go.WideShapes Go.ChangeAt Go.RowKit
open Go.ChangeMaps (open_string shut_string)
set_option linter.unusedVariables false

theorem own : ownKnob Try.prog.godebug = none := by kernel_rfl
theorem laidOut : laidOutB Try.prog = true := by kernel_rfl

/-- WHAT THE WALK IS TOLD OF A SLICE OF INTEGERS THAT CAME IN: it is nil; or it leads to a row of 'cap' cells, the numbers 'zs' (the first 'len' are its elements, the rest its spare room), each fitting its kind. -/
def IsRow (k : IntKind) (w : World) (a : Option Addr) (len cap : Nat) (zs : List Int) : Prop :=
  (a = none ∧ len = 0 ∧ cap = 0 ∧ zs = []) ∨
  ∃ x, a = some x ∧ len ≤ cap ∧ cap ≤ maxLen ∧ zs.length = cap ∧ (∀ i, i < zs.length → w.cell? (x.add i) = some (.int k (zs.getD i 0))) ∧ ∀ n ∈ zs, (Lit.int k n).wf = true

/-- of n slots that were filled those of an odd byte have ended, of the first k -/
def mixed (x g : Nat → Nat) (n k : Nat) : Nat → Sl := fun i => if i < n then ⟨!(decide (i < k) && (g i % 2 == 1)), x i, 1, false⟩ else ⟨false, 0, 0, false⟩
theorem mixed_zero (x g : Nat → Nat) (n : Nat) : mixed x g n 0 = filled x n := by
  funext i; simp [mixed, filled]
theorem mixed_skip (x g : Nat → Nat) (n k : Nat) (h : ¬ g k % 2 = 1) : mixed x g n (k + 1) = mixed x g n k := by
  funext i
  unfold mixed
  have hf : (g k % 2 == 1) = false := beq_eq_false_iff_ne.2 h
  by_cases e : i = k
  · subst e; simp [hf]
  · by_cases q : i < k
    · simp [q, show i < k + 1 by omega]
    · simp [q, show ¬ i < k + 1 by omega]
theorem mixed_hit (x g : Nat → Nat) (n k : Nat) (hk : k < n) (h : g k % 2 = 1) : ended (mixed x g n k) k = mixed x g n (k + 1) := by
  funext i
  unfold ended up
  by_cases e : i = k
  · subst e; simp [mixed, hk, h]
  · rw [if_neg e]
    unfold mixed
    by_cases q : i < k
    · simp [q, show i < k + 1 by omega]
    · simp [q, show ¬ i < k + 1 by omega]
theorem mixed_at (x g : Nat → Nat) (n k i : Nat) (hi : i < n) (hk : k ≤ i) : mixed x g n k i = ⟨true, x i, 1, false⟩ := by
  simp [mixed, hi, show ¬ i < k by omega]
theorem mixed_done (x g : Nat → Nat) (n i : Nat) (hi : i < n) : mixed x g n n i = ⟨!(g i % 2 == 1), x i, 1, false⟩ := by
  simp [mixed, hi]
theorem own_shape {w : World} {base : Nat} {e : TypeId} {size : Nat} {v : Value} {n : Nat} {xs : List Value} (h : w.ownsRow base e size v n xs) : ∃ a cap, v = .slice a n cap ∧ (0 < n → ∃ g, a = some ⟨g, 0, none⟩) := by
  rcases h.2 with ⟨rfl, rfl⟩ | ⟨g, cap, cur, rfl, _⟩
  · exact ⟨none, 0, rfl, fun h => absurd h (Nat.lt_irrefl _)⟩
  · exact ⟨_, cap, rfl, fun _ => ⟨g, rfl⟩⟩
theorem byte_odd (b : Nat) (hb : b < 256) : ((bits .and .u8 (b : Int) 1 == 1) : Bool) = (b % 2 == 1) := by
  have h := u8_and_nat b 1 hb (by decide)
  have h2 : bits .and .u8 (b : Int) 1 = ((b &&& 1 : Nat) : Int) := h
  rw [h2, Nat.and_one_is_mod]
  by_cases e : b % 2 = 1
  · rw [e]; rfl
  · rw [show b % 2 = 0 by omega]; rfl
set_option maxRecDepth 100000 in
set_option maxHeartbeats 2000000 in
theorem walk10 (a0 : Option Addr) (n0 cap0 : Nat) (x : Nat → Nat) (a1 : Option Addr) (n1 cap1 : Nat) (g : Nat → Nat) (now : Nat) (w : World)
    (hx : Uns .u64 w a0 n0 x) (hg : Uns .u8 w a1 n1 g) (bx : ∀ i, x i < 18446744073709551616) (bg : ∀ i, g i < 256) (bn : now < 18446744073709551616) :
    Calls Try.prog 10 #[.slice a0 n0 cap0, .slice a1 n1 cap1, .int .u64 (now : Int)] w fun e w' => e = .returned (.bool true) ∧ Below w.heap.size w w' := by
  have HX := Lib.hid hx
  have HG := Lib.hid hg
  have BX := Lib.hid bx
  have BG := Lib.hid bg
  have BN := Lib.hid bn
  clear hx hg bx bg bn
  by_cases h1 : 126 < n0
  · have q1 : decide ((126 : Int) < n0) = true := by simp; omega
    go_enter Try.func10, Try.ntmps10
    go_wp2_with (go_at_call 16; refine (awake9 _).mono ?_; rintro e w1 ⟨rfl, hb⟩)
    go_ret
    exact ⟨rfl, hb⟩
  · have q1 : decide ((126 : Int) < n0) = false := by simp; omega
    by_cases h2 : n1 < n0
    · have q2 : decide (n1 < n0) = true := by simpa using h2
      clear h1 h2
      go_enter Try.func10, Try.ntmps10
      go_wp2_with (go_at_call 16; refine (awake9 _).mono ?_; rintro e w1 ⟨rfl, hb⟩)
      go_ret
      exact ⟨rfl, hb⟩
    · have q2 : decide (n1 < n0) = false := by simpa using h2
      have N := Lib.hid (show n0 ≤ 126 ∧ n0 ≤ n1 by omega)
      obtain ⟨i0, hi, hz0, hz1, hz2⟩ := info_parts info47
      have HI := Lib.hid (And.intro hi (And.intro hz0 (And.intro hz1 hz2)))
      clear h1 h2 hi hz0 hz1 hz2
      go_enter Try.func10, Try.ntmps10
      go_wp2_with fail
      refine (awake9 _).mono ?_
      rintro e w1 ⟨rfl, hb1⟩
      have HB1 := Lib.hid hb1
      clear hb1
      go_simp
      go_wp2_with fail
      refine (new_tb 126 (by omega) (by omega) 126 rfl _).mono ?_
      rintro e w2 ⟨rfl, ht2, hb2⟩
      have HT2 := Lib.hid ht2
      have HB2 := Lib.hid hb2
      clear ht2 hb2
      go_simp
      generalize hBB : w1.heap.size = B at *
      have HBB := Lib.hid hBB
      clear hBB q1 q2
      go_wp2_with fail
      go_loopw [10, 11] (fun l i wr => ∃ k : Nat, k ≤ n0 ∧ i = .int .i64 k ∧ Tb wr B 126 (filled x k) ∧ Below B w1 wr ∧ wr.ownsRow (B + 1) 47 2 l k (hv k)) (fun _ i _ => n0 - (intOf i).toNat)
      case atStart => exact ⟨0, Nat.zero_le _, rfl, by rw [filled_zero]; exact HT2.out, HB2.out, World.ownsRow_nil _ _ _ _⟩
      case round =>
        obtain ⟨k, hk, rfl, ht, hb, ho⟩ := hrel
        have HT := Lib.hid ht
        have HB := Lib.hid hb
        have HO := Lib.hid ho
        clear ht hb ho
        by_cases hlt : k < n0
        · obtain ⟨b0, o0, rfl, hb0, hc0⟩ := HX.out k hlt
          have f0 : wr.cell? ⟨b0, o0 + k, none⟩ = some (.int .u64 (x k : Int)) := (HB.out.cell (p := ⟨b0, o0 + k, none⟩) (show b0 < B by have := HB1.out.size; have := HBB.out; omega)).trans ((HB1.out.cell (p := ⟨b0, o0 + k, none⟩) hb0).trans hc0)
          have hkN : (k : Int) ≤ 126 := by have := N.out; omega
          have hk126 : k < 126 := by have := N.out; omega
          clear hc0
          go_wp2_with fail
          refine (beginY B 126 (filled x k) (x k) k _ (k : Int) 1 wr HT.out rfl rfl (BX.out k) (by omega) (fun j hj => by rw [filled_low x k j hj]) (by rw [filled_high x k k (Nat.le_refl _)]) (by rw [filled_high x k k (Nat.le_refl _)]; decide)).mono ?_
          rintro e w3 ⟨rfl, ht3, hk3⟩
          rw [filled_succ] at ht3
          have HT3 := Lib.hid ht3
          have HB3 := Lib.hid (kpB HB.out hk3 HT.out)
          have HO3 := Lib.hid (own_kp HO.out hk3 (Nat.lt_succ_self B))
          clear ht3 hk3
          go_simp
          go_wp2_with (at_builtin; refine wpList_append_own _ rfl _ _ 42 rfl (B + 1) 47 i0 (.agg #[.int .i64 0, .int .u64 0]) 2 16 Try.underlying42 HI.out.1 HI.out.2.1 HI.out.2.2.1 HI.out.2.2.2 rfl (by decide) _ k (hv k) rfl ((HO3.out.alloc _).alloc _) ⟨w3.heap.size + 1, 0, none⟩ 1 1 [.int .i64 (k : Int), .int .u64 1] rfl rfl ?c2 ?c3 ?c4 ?c5 ?c6 ?_)
          case c2 => exact handle_new _ _ _ _
          case c3 => exact handle_one _ _
          case c4 => simp [maxLen]; omega
          case c5 => omega
          case c6 => have := HT3.out.lt; simp; omega
          intro v' w4 hown hgrow hnil
          obtain ⟨ht4, hb4⟩ := push_facts HT3.out HB3.out (Nat.le_refl _) HO3.out hgrow
          have HT4 := Lib.hid ht4
          have HB4 := Lib.hid hb4
          have HO4 : Hid (w4.ownsRow (B + 1) 47 2 v' (k + 1) (hv (k + 1))) := Lib.hid hown
          clear ht4 hb4 hown hgrow hnil
          go_wp2
          go_roundw
          case rel => exact ⟨k + 1, by omega, by go_num, HT4.out, HB4.out, HO4.out⟩
          case measure => simp [intOf]; omega
        · obtain rfl : k = n0 := by omega
          go_wp2_with fail
          obtain ⟨la, lcap, hlv, hla⟩ := own_shape HO.out
          subst hlv
          have HLA := Lib.hid hla
          clear hla
          have hkN : (k : Int) ≤ 126 := by have := N.out; omega
          have HT0 : Hid (Tb wr B 126 (mixed x g k 0)) := Lib.hid (by rw [mixed_zero]; exact HT.out)
          have HBB2 := HB
          have HOO := HO
          clear HT HB HO hlt hk
          obtain ⟨wf, rfl⟩ : ∃ wf : World, wf = wr := ⟨_, rfl⟩
          go_loopw [14, 15, 16] (fun wa ma i wr => ∃ j : Nat, j ≤ k ∧ i = .int .i64 j ∧ wa = .int .u64 (oldest (mixed x g k k) now j : Nat) ∧ ma = .int .i64 (live (mixed x g k k) j : Nat) ∧ Tb wr B 126 (mixed x g k j) ∧ Below B w1 wr ∧ wr.ownsRow (B + 1) 47 2 (.slice la k lcap) k (hv k)) (fun _ _ i _ => k - (intOf i).toNat)
          case atStart => exact ⟨0, Nat.zero_le _, rfl, rfl, rfl, HT0.out, HBB2.out, HOO.out⟩
          case round =>
            obtain ⟨j, hj, rfl, rfl, rfl, ht, hb, ho⟩ := hrel
            have HT := Lib.hid ht
            have HB := Lib.hid hb
            have HO := Lib.hid ho
            clear ht hb ho
            by_cases hlt : j < k
            · have hj126 : j < 126 := by have := N.out; omega
              obtain ⟨gb, hgb⟩ := HLA.out (by omega)
              subst hgb
              obtain ⟨b1, o1, rfl, hb1, hc1⟩ := HG.out j (by have := N.out; omega)
              have f1 : wr.cell? ⟨b1, o1 + j, none⟩ = some (.int .u8 (g j : Int)) := (HB.out.cell (p := ⟨b1, o1 + j, none⟩) (show b1 < B by have := HB1.out.size; have := HBB.out; omega)).trans ((HB1.out.cell (p := ⟨b1, o1 + j, none⟩) hb1).trans hc1)
              have f2 : (j : Int) < (n1 : Int) := by have := N.out; omega
              have f3 : j < n1 := by have := N.out; omega
              have hod := byte_odd (g j) (BG.out j)
              have hls : live (mixed x g k k) (j + 1) = live (mixed x g k k) j + if (mixed x g k k j).is = true then 1 else 0 := rfl
              have hos : oldest (mixed x g k k) now (j + 1) = if (mixed x g k k j).is = true then min (oldest (mixed x g k k) now j) (mixed x g k k j).txn else oldest (mixed x g k k) now j := rfl
              rw [mixed_done x g k j hlt] at hls hos
              have hlb : ((live (mixed x g k k) j : Nat) : Int) ≤ 126 := by have := live_le (mixed x g k k) j; omega
              have HLS := Lib.hid hls
              have HOS := Lib.hid hos
              generalize live (mixed x g k k) j = ma at *
              generalize oldest (mixed x g k k) now j = wa at *
              clear hls hos hc1
              by_cases he : g j % 2 = 1
              · rw [beq_iff_eq.2 he] at hod
                have c0 := HO.out.cellAt (j * 2) (by omega)
                have c1 := HO.out.cellAt (j * 2 + 1) (by omega)
                rw [(hv_at k j hlt).1] at c0
                rw [(hv_at k j hlt).2] at c1
                go_wp2_with fail
                refine (endY B 126 (mixed x g k j) j (j : Int) 1 wr HT.out rfl hj126 (by rw [mixed_at x g k j j hlt (Nat.le_refl _)]) (by rw [mixed_at x g k j j hlt (Nat.le_refl _)]; rfl)).mono ?_
                rintro e w5 ⟨rfl, ht5, hk5⟩
                rw [mixed_hit x g k j hlt he] at ht5
                have HT5 := Lib.hid ht5
                have HB5 := Lib.hid (kpB HB.out hk5 HT.out)
                have HO5 := Lib.hid (own_kp HO.out hk5 (Nat.lt_succ_self B))
                have he2 : (g j % 2 == 1) = true := beq_iff_eq.2 he
                have HE2 := Lib.hid he2
                clear ht5 hk5 c0 c1 he2
                go_simp
                go_wp2
                go_roundw
                case rel => exact ⟨j + 1, by omega, by go_num, by rw [HOS.out, HE2.out]; rfl, by rw [HLS.out, HE2.out]; rfl, HT5.out, HB5.out, HO5.out⟩
                case measure => simp [intOf]; omega
              · have hef : (g j % 2 == 1) = false := beq_eq_false_iff_ne.2 he
                rw [hef] at hod
                have HEF := Lib.hid hef
                obtain ⟨b0, o0, rfl, hb0, hc0⟩ := HX.out j hlt
                have f0 : wr.cell? ⟨b0, o0 + j, none⟩ = some (.int .u64 (x j : Int)) := (HB.out.cell (p := ⟨b0, o0 + j, none⟩) (show b0 < B by have := HB1.out.size; have := HBB.out; omega)).trans ((HB1.out.cell (p := ⟨b0, o0 + j, none⟩) hb0).trans hc0)
                obtain ⟨mn, hmn⟩ : ∃ m, m = min wa (x j) := ⟨_, rfl⟩
                have hmin : ∀ ts ty w, Sem.run Try.prog (Builtin.min_ ts ty #[.int .u64 (wa : Int), .int .u64 (x j : Int)]) w = .ok (.int .u64 (mn : Int)) w := by
                  intro ts ty w
                  rw [run_min_int2]
                  congr 2
                  split <;> omega
                have HMN := Lib.hid hmn
                clear hef hc0 hmn
                go_wp2_with fail
                go_roundw
                case rel => exact ⟨j + 1, by omega, by go_num, by rw [HOS.out, HEF.out, HMN.out]; rfl, by rw [HLS.out, HEF.out]; go_num, by rw [mixed_skip x g k j he]; exact HT.out, HB.out, HO.out⟩
                case measure => simp [intOf]; omega
            · obtain rfl : j = k := by omega
              have hp : ∀ i, j ≤ i → (mixed x g j j i).is = false := by
                intro i hi
                simp [mixed, show ¬ i < j by omega]
              have hlp := live_past (mixed x g j j) j hp 126 (by have := N.out; omega)
              have hop := oldest_past (mixed x g j j) now j hp 126 (by have := N.out; omega)
              have HLP := Lib.hid hlp
              have HOP := Lib.hid hop
              clear hp hlp hop
              generalize hma : live (mixed x g j j) j = ma at *
              generalize hwa : oldest (mixed x g j j) now j = wa at *
              clear hma hwa
              go_wp2_with fail
              refine (oldestN B 126 (mixed x g j j) now _ (wa : Int) wr HT.out rfl (congrArg _ HOP.out)).mono ?_
              rintro e wr' ⟨rfl, rfl⟩
              go_simp
              go_wp2_with fail
              refine (liveN B 126 (mixed x g j j) (ma : Int) wr HT.out (congrArg _ HLP.out)).mono ?_
              rintro e wr' ⟨rfl, rfl⟩
              go_simp
              go_wp2_with fail
              go_ret
              exact ⟨rfl, HB1.out.trans (HB.out.mono (by have := HB1.out.size; have := HBB.out; omega))⟩
/-! ### STEP 1: THE WALK: the Go text returns true, AND WRITES NOTHING THAT WAS THERE: 'Below w.heap.size w w'' (Derived/Below.lean: '.refl', '.alloc', '.drew', '.setCell' at a new block, '.trans'). Open each 'IsRow' by 'rcases' AHEAD of 'go_enter'; part every test ahead of the walk. -/
theorem walk (a0 : Option Addr) (len0 cap0 : Nat) (z0 : List Int) (a1 : Option Addr) (len1 cap1 : Nat) (z1 : List Int) (a2 : Int) (w : World) (w0 : IsRow .u64 w a0 len0 cap0 z0) (w1 : IsRow .u8 w a1 len1 cap1 z1) (w2 : (Lit.int .u64 a2).wf = true) :
    Calls Try.prog 10 #[.slice a0 len0 cap0, .slice a1 len1 cap1, .int .u64 a2] w fun e w' => e = .returned (.bool true) ∧ Below w.heap.size w w' := by
  obtain ⟨x, hx, bx⟩ := row_u64 w0
  obtain ⟨g, hg, bg⟩ := row_u8 w1
  have h2 : 0 ≤ a2 ∧ a2 < 18446744073709551616 := by simp [Lit.wf, IntKind.min, IntKind.max, IntKind.bits, IntKind.signed] at w2; omega
  obtain ⟨n, rfl⟩ : ∃ n : Nat, a2 = (n : Int) := ⟨a2.toNat, by omega⟩
  exact walk10 a0 len0 cap0 x a1 len1 cap1 g n w hx hg bx bg (by omega)

/-! ### THE ROW's STEP: WRITTEN OUT: LEAVE IT -/
set_option maxRecDepth 100000 in
theorem lifted (os : Os) (started : os.Started) (H : Type) (enc : TypeId × Value → H) :
    ReturnsInHanded {} Try.checked os 10 .any (Rows.readersOldestSpec.pre6 enc Try.prog Try.f10 Rows.readersOldestRow.domain false) (Rows.readersOldestSpec.post enc Try.prog Try.f10 false true false false) := by
  refine returnsInHanded_of_change (C := Try.checked) own started (by kernel_rfl) Try.func10
    (ChangeSpec.witness6 (enc := enc) (C := Try.checked) false ⟨#[], #[.slice none 0 0, .slice none 0 0, .int .u64 0], []⟩ 8 (by kernel_rfl) (by kernel_rfl) (by kernel_rfl) (by kernel_rfl)) ?_
  intro W base args ds gs before hval0 hW hcnd _
  have hval : ∀ (j : Nat) t v, Try.f10.params[j]? = some t → args[j]? = some v → Value.okWide Try.prog W .any base t v := hval0
  have hW' := hW
  obtain ⟨p, q, hA0, hV, rfl, hfz, hnd⟩ := hW
  have hA : DataW.TrodAll enc Try.prog W 0 (fun _ => true) true Try.f10.params.toList args.toList ds p := hA0
  rw [Try.params10] at hA hval
  obtain ⟨v0, vs0, d0, ds0, p0, q0, hargs, rfl, rfl, h0, r0⟩ := trodAll_cons hA
  obtain ⟨v1, vs1, d1, ds1, p1, q1, rfl, rfl, rfl, h1, r1⟩ := trodAll_cons r0
  obtain ⟨v2, vs2, d2, ds2, p2, q2, rfl, rfl, rfl, h2, r2⟩ := trodAll_cons r1
  obtain ⟨rfl, rfl, rfl⟩ := trodAll_nil r2
  obtain rfl : args = #[v0, v1, v2] := by cases args; simp_all
  obtain ⟨rfl, rfl⟩ := trodVars_none hV
  obtain ⟨a0, len0, cap0, rfl⟩ := okWide_slice Try.underlying69 (hval 0 69 v0 rfl rfl)
  have k0 := h0
  have lt0 : ∀ x ∈ p0, x.block < W.heap.size := by obtain ⟨m, hm⟩ := k0; exact DataW.trod_lt m _ _ _ hm
  obtain ⟨z0, w0⟩ : ∃ zs, IsRow .u64 W a0 len0 cap0 zs := by
    obtain ⟨fuel, hf⟩ := h0
    rcases open_ints Try.underlying69 Try.underlying43 (by kernel_rfl) hf with ⟨hcs, _⟩ | ⟨x, l, c, zs, hcs, _, hl, hm, hz, _, hcell, hwz⟩
    · simp [Value.cells] at hcs
      obtain ⟨rfl, rfl, rfl⟩ := hcs
      exact ⟨[], .inl ⟨rfl, rfl, rfl, rfl⟩⟩
    · simp [Value.cells] at hcs
      obtain ⟨rfl, rfl, rfl⟩ := hcs
      exact ⟨zs, .inr ⟨_, rfl, hl, hm, by simpa using hz, hcell, hwz⟩⟩
  obtain ⟨a1, len1, cap1, rfl⟩ := okWide_slice Try.underlying22 (hval 1 22 v1 rfl rfl)
  have k1 := h1
  have lt1 : ∀ x ∈ p1, x.block < W.heap.size := by obtain ⟨m, hm⟩ := k1; exact DataW.trod_lt m _ _ _ hm
  obtain ⟨z1, w1⟩ : ∃ zs, IsRow .u8 W a1 len1 cap1 zs := by
    obtain ⟨fuel, hf⟩ := h1
    rcases open_ints Try.underlying22 Try.underlying5 (by kernel_rfl) hf with ⟨hcs, _⟩ | ⟨x, l, c, zs, hcs, _, hl, hm, hz, _, hcell, hwz⟩
    · simp [Value.cells] at hcs
      obtain ⟨rfl, rfl, rfl⟩ := hcs
      exact ⟨[], .inl ⟨rfl, rfl, rfl, rfl⟩⟩
    · simp [Value.cells] at hcs
      obtain ⟨rfl, rfl, rfl⟩ := hcs
      exact ⟨zs, .inr ⟨_, rfl, hl, hm, by simpa using hz, hcell, hwz⟩⟩
  obtain ⟨a2, rfl, rfl, rfl, w2⟩ := open_int Try.underlying43 (hval 2 43 v2 rfl rfl) h2
  clear hA0 hval0
  refine (walk a0 len0 cap0 z0 a1 len1 cap1 z1 a2 W w0 w1 w2).mono fun e W' ⟨he, bel⟩ => ?_
  subst he
  exact ⟨_, rfl, _, _, _, [], _, [], hW', trodAll_mk1 (shut_bool Try.underlying4 _), (trodAll_cons_mk (Below.trod laidOut (by kernel_rfl) (of_decide_eq_true (by kernel_rfl)) k0 bel lt0) (trodAll_cons_mk (Below.trod laidOut (by kernel_rfl) (of_decide_eq_true (by kernel_rfl)) k1 bel lt1) (trodAll_cons_mk (shut_int Try.underlying43 w2) trodAll_mk0))), rfl, bel.frame _, fun h => by cases h⟩

theorem over : Rows.readersOldestRow.holds Try.pinned (OpenSpec.ofChange Rows.readersOldestSpec) :=
  OpenClaim.holds_of_wide 10 Try.f10 rfl rfl rfl rfl rfl rfl rfl ⟨rfl, rfl, rfl, rfl, rfl⟩ rfl rfl rfl rfl rfl (by kernel_rfl) Try.func10 (by kernel_rfl)
    (of_decide_eq_true (by kernel_rfl)) (by unfold Func.isWrapper; first | (rw [if_pos (by decide +kernel)]; kernel_rfl) | (rw [if_neg (by decide +kernel)]; exact ⟨rfl, rfl⟩))
    (fun os started H enc _ => lifted os started H enc)

/-- ████ THE STATEMENT ████ -/
theorem proved : Rows.ReadersOldestSaid := over
#print axioms proved
end Go.Proofs.Ytlgammcbhgmpoaa.readersOldest
