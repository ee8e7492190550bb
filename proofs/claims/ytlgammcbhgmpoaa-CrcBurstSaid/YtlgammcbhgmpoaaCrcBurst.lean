/- The statement CrcBurst: bytes that differ in up to 32 bits on end have different sums; for every input. -/
import Derived.Test.YtlgammcbhgmpoaaRows
import Derived.WalkKit
import Derived.ProofKit
import Derived.OpenShut
import Derived.ShutString
import Derived.ChangeOld
import Derived.Below
import Derived.Test.YtlgammcbhgmpoaaCrcL
import Derived.Test.YtlgammcbhgmpoaaCrcPb
import Derived.Deep.OwnRows
import Derived.OwnWalk
namespace Go.Proofs.Ytlgammcbhgmpoaa.crcBurst
open Go.ChangeShapes Go.WideShapes Go.ChangeAt Go.RowKit
open Go.ChangeMaps (open_string shut_string)
set_option linter.unusedVariables false

theorem own : ownKnob Try.prog.godebug = none := by kernel_rfl
theorem laidOut : laidOutB Try.prog = true := by kernel_rfl

/-- WHAT THE WALK IS TOLD OF A SLICE OF INTEGERS THAT CAME IN: it is nil; or it leads to a row of 'cap' cells, the numbers 'zs' (the first 'len' are its elements, the rest its spare room), each fitting its kind. -/
def IsRow (k : IntKind) (w : World) (a : Option Addr) (len cap : Nat) (zs : List Int) : Prop :=
  (a = none ∧ len = 0 ∧ cap = 0 ∧ zs = []) ∨
  ∃ x, a = some x ∧ len ≤ cap ∧ cap ≤ maxLen ∧ zs.length = cap ∧ (∀ i, i < zs.length → w.cell? (x.add i) = some (.int k (zs.getD i 0))) ∧ ∀ n ∈ zs, (Lit.int k n).wf = true

theorem crc_run (ls : List (List Nat)) : crc ls = (~~~ Crcp.run ls.flatten (BitVec.allOnes 32)).toNat := rfl
theorem crc_lt (ls : List (List Nat)) : crc ls < 4294967296 := (~~~ Crcp.run ls.flatten (BitVec.allOnes 32)).isLt
def vals (l : List Nat) : List Value := l.map fun (x : Nat) => Value.int .u8 (x : Int)
theorem info5 : (Try.prog.info? 5).map (fun i => (i.zero, i.size, i.bytes)) = some (some (.int .u8 0), 1, 1) := by kernel_rfl
theorem burst_crc (l : List Nat) (k u : Nat) (hu : u < 4294967296) (h : k + 32 ≤ 8 * l.length) (h2 : ∀ x ∈ l, x < 256) : crc [Crcp.flips l k u 32] = crc [l] ↔ u = 0 := by
  rw [← Crcp.burst_run l k u hu h h2 (BitVec.allOnes 32)]
  simp only [crc_run, List.flatten_cons, List.flatten_nil, List.append_nil]
  constructor
  · intro h
    have := BitVec.eq_of_toNat_eq h
    simpa using this
  · intro h; rw [h]
theorem getD_256 {l : List Nat} (h : ∀ x ∈ l, x < 256) (i : Nat) : l.getD i 0 < 256 := by
  rw [List.getD_eq_getElem?_getD]
  rcases Nat.lt_or_ge i l.length with g | g
  · rw [List.getElem?_eq_getElem g]; exact h _ (List.getElem_mem _)
  · rw [List.getElem?_eq_none g]; simp
theorem flip_val (x r : Nat) (hx : x < 256) (hr : r < 8) : bits BinOp.xor .u8 (x : Int) (2 ^ r % 256) = ((x ^^^ 2 ^ r : Nat) : Int) := by
  have h2 : 2 ^ r < 256 := Nat.pow_lt_pow_right (n := 8) (by omega) hr
  have e0 : ((2 : Int) ^ r) = ((2 ^ r : Nat) : Int) := by push_cast; rfl
  have e : ((2 : Int) ^ r % 256) = ((2 ^ r : Nat) : Int) := by
    rw [e0]; generalize 2 ^ r = z at h2; omega
  rw [e]; exact u8_xor_nat x (2 ^ r) hx h2
theorem owned_bts {w : World} {B g n cap : Nat} {l : List Nat} (h : w.ownsRow B 5 1 (.slice (some ⟨g, 0, none⟩) n cap) n (vals l)) (hl : l.length = n) (h2 : ∀ x ∈ l, x < 256) (hc : n ≤ cap) (hm : n ≤ maxLen) : Bts w (.slice (some ⟨g, 0, none⟩) n cap) l := by
  subst hl
  refine ⟨hm, h2, _, _, rfl, hc, fun hne => ⟨g, 0, rfl, ?_, fun i hi => ?_⟩⟩
  · exact (h.lt g rfl).2
  · rw [Nat.zero_add, h.cellAt i (by omega)]
    simp [vals, hi]
theorem bit_test (u i : Nat) (hu : u < 4294967296) : ((bits .and .u32 ((u : Int) / 2 ^ i) 1 == 1) : Bool) = u.testBit i := by
  have e : (u : Int) / 2 ^ i = ((u / 2 ^ i : Nat) : Int) := by push_cast; rfl
  have hlt : u / 2 ^ i < 4294967296 := Nat.lt_of_le_of_lt (Nat.div_le_self _ _) hu
  have h1 := u32_and_nat (u / 2 ^ i) 1 hlt (by decide)
  rw [e]
  have h2 : bits .and .u32 ((u / 2 ^ i : Nat) : Int) 1 = (((u / 2 ^ i) &&& 1 : Nat) : Int) := h1
  rw [h2, Nat.and_one_is_mod, Nat.testBit_eq_decide_div_mod_eq]
  by_cases h : u / 2 ^ i % 2 = 1
  · rw [h]; simp
  · have : u / 2 ^ i % 2 = 0 := by omega
    rw [this]; simp
set_option maxRecDepth 100000 in
set_option maxHeartbeats 1000000 in
theorem walk4 (a0 : Option Addr) (n0 cap0 : Nat) (l : List Nat) (at1 u : Nat) (w : World) (hB : Bts w (.slice a0 n0 cap0) l) (hn : n0 ≤ cap0) (hat : at1 < 65536) (hu : u < 4294967296) :
    Calls Try.prog 4 #[.slice a0 n0 cap0, .int .u16 at1, .int .u32 u] w fun e w' => e = .returned (.bool true) ∧ Below w.heap.size w w' := by
  have HB := Lib.hid hB
  clear hB
  by_cases h4 : n0 < 4
  · have h4I : decide ((n0 : Int) < 4) = true := by simp; omega
    go_enter Try.func4, Try.ntmps4
    go_wp2_with (go_at_call 13; refine (awake_any _).mono ?_; rintro e w1 ⟨rfl, hb⟩)
    go_ret
    exact ⟨rfl, hb⟩
  · have h4I : decide ((n0 : Int) < 4) = false := by simp; omega
    by_cases h3 : 300 < n0
    · have h3I : decide ((300 : Int) < n0) = true := by simp; omega
      clear h4 h3
      go_enter Try.func4, Try.ntmps4
      go_wp2_with (go_at_call 13; refine (awake_any _).mono ?_; rintro e w1 ⟨rfl, hb⟩)
      go_ret
      exact ⟨rfl, hb⟩
    · have h3I : decide ((300 : Int) < n0) = false := by simp; omega
      obtain ⟨b, off, rfl, hb0, hc0⟩ : ∃ b off, a0 = some ⟨b, off, none⟩ ∧ b < w.heap.size ∧ ∀ i, i < n0 → w.cell? ⟨b, off + i, none⟩ = some (.int .u8 (l.getD i 0 : Nat)) := by
        have hl := HB.out.len
        obtain ⟨q1, q2, a', cap', hv, q3, q4⟩ := HB.out
        simp only [Value.slice.injEq] at hv
        obtain ⟨rfl, _, rfl⟩ := hv
        obtain ⟨b, off, rfl, hb, hc⟩ := q4 (by intro e; subst e; simp at hl; omega)
        exact ⟨b, off, rfl, hb, fun i hi => hc i (by omega)⟩
      obtain ⟨k, hk⟩ : ∃ k, k = at1 % (8 * n0 - 31) := ⟨_, rfl⟩
      have hkl : k + 32 ≤ 8 * n0 := by have := Nat.mod_lt at1 (show 8 * n0 - 31 > 0 by omega); omega
      have hkI : (at1 : Int) % (8 * (n0 : Int) - 31) = (k : Int) := by
        rw [hk, show (8 * (n0 : Int) - 31) = ((8 * n0 - 31 : Nat) : Int) by omega]; simp
      have hN : Hid (4 ≤ n0 ∧ n0 ≤ 300) := Lib.hid ⟨by omega, by omega⟩
      have HK := Lib.hid hkl
      have HC0 := Lib.hid hc0
      have nb1 : (n0 : Int) ≤ 1000 := by omega
      have nb2 : (3 : Int) ≤ (n0 : Int) := by omega
      obtain ⟨i0, hi, hz0, hz1, hz2⟩ := info_parts info5
      clear h4 h3 hk hkl hc0
      go_enter Try.func4, Try.ntmps4
      go_wp2_with fail
      refine (awake_any _).mono ?_
      rintro e w1 ⟨rfl, hb⟩
      have HBW := Lib.hid hb
      clear hb
      go_simp
      go_wp2_with (at_builtin; refine wpList_append_own _ rfl _ _ 22 rfl w1.heap.size 5 i0 (.int .u8 0) 1 1 Try.underlying22 hi hz0 hz1 hz2 rfl (by decide) (.slice none 0 0) 0 [] rfl (World.ownsRow_nil _ _ _ _) ⟨b, off, none⟩ n0 cap0 (vals l) rfl ?c1 ?c2 ?c3 ?c4 ?c5 ?c6 ?_)
      case c1 => simp [vals, HB.out.len]
      case c2 =>
        intro j x hj
        have hjl : j < l.length := by
          have := (List.getElem?_eq_some_iff.1 hj).1
          simpa [vals] using this
        have hjn : j < n0 := by have := HB.out.len; omega
        have hc := (HBW.out.cell (p := ⟨b, off + j, none⟩) hb0).trans (HC0.out j hjn)
        rw [add_at, hc]
        simp [vals, List.getElem?_eq_getElem hjl] at hj
        rw [← hj]; simp [List.getElem?_eq_getElem hjl]
      case c3 =>
        intro x hx
        obtain ⟨y, _, rfl⟩ := List.mem_map.1 hx
        rfl
      case c4 => have := hN.out; simp [maxLen]; omega
      case c5 => have := hN.out; omega
      case c6 => exact Nat.le_refl _
      intro v' w2 hown hgrow hnil
      have hex : ∃ g cap, v' = .slice (some ⟨g, 0, none⟩) n0 cap ∧ w1.heap.size ≤ g ∧ n0 ≤ cap := by
        rcases hown.2 with ⟨h1, h2⟩ | ⟨g, cap, cur, h1, h2, h3, h4, h5, h6, h7⟩
        · have := hN.out; omega
        · exact ⟨g, cap, h1, h2, by omega⟩
      obtain ⟨g, cap, hv', hg, hcap⟩ := hex
      rw [hv'] at hown ⊢
      have HOWN := Lib.hid hown
      have HB2 : Hid (Below w1.heap.size w1 w2) := Lib.hid ((Below.refl _ _).grown hgrow (Nat.le_refl _) (by intro k hk; simp [Value.ownBlock] at hk))
      clear hown hgrow hnil hv'
      have HHI := Lib.hid hi
      clear hi hz0 hz1 hz2 h4I h3I
      go_wp2
      go_loopw [10] (fun s wr => ∃ i : Nat, i ≤ 32 ∧ s = .int .i64 i ∧ Below w1.heap.size w1 wr ∧ wr.ownsRow w1.heap.size 5 1 (.slice (some ⟨g, 0, none⟩) n0 cap) n0 (vals (Crcp.flips l k u i))) (fun s _ => 32 - (intOf s).toNat)
      case atStart => exact ⟨0, Nat.zero_le _, rfl, HB2.out, HOWN.out⟩
      case round =>
        obtain ⟨i, hi, rfl, hbr, hor⟩ := hrel
        have HBR := Lib.hid hbr
        have HOR := Lib.hid hor
        clear hbr hor
        by_cases hlt : i < 32
        · have hbt := bit_test u i hu
          have kb : (k : Int) ≤ 3000 := by have := HK.out; have := hN.out; omega
          obtain ⟨q, hq⟩ : ∃ q, q = (k + i) / 8 := ⟨_, rfl⟩
          obtain ⟨r, hr⟩ : ∃ r, r = (k + i) % 8 := ⟨_, rfl⟩
          have hqI : ((k : Int) + (i : Int)) / 8 = (q : Int) := by omega
          have hrI : ((k : Int) + (i : Int)) % 8 = (r : Int) := by omega
          have hqn : (q : Int) < (n0 : Int) := by have := HK.out; omega
          have hqn2 : q < n0 := by omega
          have hr8 : r < 8 := by omega
          have HQ := Lib.hid (And.intro hq hr)
          clear hq hr
          by_cases hbit : u.testBit i = true
          · rw [hbit] at hbt
            have hcell := HOR.out.cellAt q (by omega)
            have hll : (Crcp.flips l k u i).length = n0 := by rw [Crcp.flips_len]; exact HB.out.len
            have hx : (vals (Crcp.flips l k u i))[q]? = some (.int .u8 (((Crcp.flips l k u i).getD q 0 : Nat) : Int)) := by
              simp [vals, hll, hqn2]
            rw [hx] at hcell
            generalize hxn : (Crcp.flips l k u i).getD q 0 = x at hcell
            have HXN := Lib.hid hxn
            clear hxn hx hll
            have hfree := HOR.out.frozenAt q
            go_wp2
            go_roundw
            case rel =>
              have hst := HOR.out.stored q (.int .u8 (bits BinOp.xor .u8 (x : Int) (2 ^ r % 256)))
              refine ⟨i + 1, by omega, by go_num, HBR.out.setCell hg _, ?_⟩
              have e : (vals (Crcp.flips l k u i)).set q (.int .u8 (bits BinOp.xor .u8 (x : Int) (2 ^ r % 256))) = vals (Crcp.flips l k u (i + 1)) := by
                rw [Crcp.flips, if_pos hbit]
                unfold Crcp.flip vals
                rw [← HQ.out.1, ← HQ.out.2, HXN.out, List.map_set]
                congr 2
                exact flip_val x r (by rw [← HXN.out]; exact getD_256 (Crcp.flips_256 l k u i HB.out.2.1) q) hr8
              rw [← e]
              exact hst.1
            case measure => simp [intOf]; omega
          · have hbit' : u.testBit i = false := by simpa using hbit
            rw [hbit'] at hbt
            go_wp2
            go_roundw
            case rel => exact ⟨i + 1, by omega, by go_num, HBR.out, by rw [Crcp.flips, if_neg hbit]; exact HOR.out⟩
            case measure => simp [intOf]; omega
        · obtain rfl : i = 32 := by omega
          obtain ⟨r1, hr1⟩ : ∃ r, crc [l] = r := ⟨_, rfl⟩
          obtain ⟨r2, hr2⟩ : ∃ r, crc [Crcp.flips l k u 32] = r := ⟨_, rfl⟩
          have hq := burst_crc l k u hu (by rw [HB.out.len]; exact HK.out) HB.out.2.1
          rw [hr1, hr2] at hq
          have hsame : (((r2 : Int) == (r1 : Int)) == ((u : Int) == 0)) = true := by
            by_cases e : u = 0
            · have := hq.2 e; subst this; subst e; simp
            · have e2 : ¬ r2 = r1 := fun z => e (hq.1 z)
              have e3 : ¬ (r2 : Int) = r1 := by omega
              have e4 : ¬ (u : Int) = 0 := by omega
              rw [beq_eq_false_iff_ne.2 e3, beq_eq_false_iff_ne.2 e4]; rfl
          have HR1 := Lib.hid hr1
          have HR2 := Lib.hid hr2
          have HD : Hid (Bts wr (.slice (some ⟨g, 0, none⟩) n0 cap) (Crcp.flips l k u 32)) := Lib.hid (owned_bts HOR.out (by rw [Crcp.flips_len]; exact HB.out.len) (Crcp.flips_256 _ _ _ _ HB.out.2.1) hcap (by have := hN.out; simp [maxLen]; omega))
          have HBR2 := Lib.hid (HBW.out.trans (HBR.out.mono HBW.out.size))
          clear hq hr1 hr2
          go_wp2_with fail
          refine (of_is _ [Crcp.flips l k u 32] (r2 : Int) _ (congrArg _ HR2.out) (rws1 HD.out)).mono ?_
          rintro e w3 ⟨rfl, hb3⟩
          have HB3 := Lib.hid (((Below.refl _ _).alloc (Nat.le_refl _) _).trans (hb3.mono (by simp)) : Below wr.heap.size wr w3)
          clear hb3
          go_simp
          go_wp2_with fail
          refine (of_is _ [l] (r1 : Int) _ (congrArg _ HR1.out) (rws1 (HB.out.below (HBR2.out.trans (HB3.out.mono HBR2.out.size))))).mono ?_
          rintro e w4 ⟨rfl, hb4⟩
          have HB4 := Lib.hid (((Below.refl _ _).alloc (Nat.le_refl _) _).trans (hb4.mono (by simp)) : Below w3.heap.size w3 w4)
          clear hb4
          go_simp
          go_wp2_with fail
          go_ret
          exact ⟨rfl, (HBR2.out.trans (HB3.out.mono HBR2.out.size)).trans (HB4.out.mono (HBR2.out.trans (HB3.out.mono HBR2.out.size)).size)⟩
/-! ### STEP 1: THE WALK: the Go text returns true, AND WRITES NOTHING THAT WAS THERE: 'Below w.heap.size w w'' (Derived/Below.lean: '.refl', '.alloc', '.drew', '.setCell' at a new block, '.trans'). Open each 'IsRow' by 'rcases' AHEAD of 'go_enter'; part every test ahead of the walk. -/
theorem walk (a0 : Option Addr) (len0 cap0 : Nat) (z0 : List Int) (a1 : Int) (a2 : Int) (w : World) (w0 : IsRow .u8 w a0 len0 cap0 z0) (w1 : (Lit.int .u16 a1).wf = true) (w2 : (Lit.int .u32 a2).wf = true) :
    Calls Try.prog 4 #[.slice a0 len0 cap0, .int .u16 a1, .int .u32 a2] w fun e w' => e = .returned (.bool true) ∧ Below w.heap.size w w' := by
  obtain ⟨l, hl, hB, hn, hcap, hsh⟩ := row_bts w0
  have hr : 0 ≤ a1 ∧ a1 < 65536 := by simp [Lit.wf, IntKind.min, IntKind.max, IntKind.bits, IntKind.signed] at w1; omega
  have hr2 : 0 ≤ a2 ∧ a2 < 4294967296 := by simp [Lit.wf, IntKind.min, IntKind.max, IntKind.bits, IntKind.signed] at w2; omega
  obtain ⟨n, rfl⟩ : ∃ n : Nat, a1 = (n : Int) := ⟨a1.toNat, by omega⟩
  obtain ⟨u, rfl⟩ : ∃ n : Nat, a2 = (n : Int) := ⟨a2.toNat, by omega⟩
  exact walk4 a0 len0 cap0 l n u w hB hn (by omega) (by omega)

/-! ### THE ROW's STEP: WRITTEN OUT: LEAVE IT -/
set_option maxRecDepth 100000 in
theorem lifted (os : Os) (started : os.Started) (H : Type) (enc : TypeId × Value → H) :
    ReturnsInHanded {} Try.checked os 4 .any (Rows.crcBurstSpec.pre6 enc Try.prog Try.f4 Rows.crcBurstRow.domain false) (Rows.crcBurstSpec.post enc Try.prog Try.f4 false true false false) := by
  refine returnsInHanded_of_change (C := Try.checked) own started (by kernel_rfl) Try.func4
    (ChangeSpec.witness6 (enc := enc) (C := Try.checked) false ⟨#[], #[.slice none 0 0, .int .u16 0, .int .u32 0], []⟩ 8 (by kernel_rfl) (by kernel_rfl) (by kernel_rfl) (by kernel_rfl)) ?_
  intro W base args ds gs before hval0 hW hcnd _
  have hval : ∀ (j : Nat) t v, Try.f4.params[j]? = some t → args[j]? = some v → Value.okWide Try.prog W .any base t v := hval0
  have hW' := hW
  obtain ⟨p, q, hA0, hV, rfl, hfz, hnd⟩ := hW
  have hA : DataW.TrodAll enc Try.prog W 0 (fun _ => true) true Try.f4.params.toList args.toList ds p := hA0
  rw [Try.params4] at hA hval
  obtain ⟨v0, vs0, d0, ds0, p0, q0, hargs, rfl, rfl, h0, r0⟩ := trodAll_cons hA
  obtain ⟨v1, vs1, d1, ds1, p1, q1, rfl, rfl, rfl, h1, r1⟩ := trodAll_cons r0
  obtain ⟨v2, vs2, d2, ds2, p2, q2, rfl, rfl, rfl, h2, r2⟩ := trodAll_cons r1
  obtain ⟨rfl, rfl, rfl⟩ := trodAll_nil r2
  obtain rfl : args = #[v0, v1, v2] := by cases args; simp_all
  obtain ⟨rfl, rfl⟩ := trodVars_none hV
  obtain ⟨a0, len0, cap0, rfl⟩ := okWide_slice Try.underlying22 (hval 0 22 v0 rfl rfl)
  have k0 := h0
  have lt0 : ∀ x ∈ p0, x.block < W.heap.size := by obtain ⟨m, hm⟩ := k0; exact DataW.trod_lt m _ _ _ hm
  obtain ⟨z0, w0⟩ : ∃ zs, IsRow .u8 W a0 len0 cap0 zs := by
    obtain ⟨fuel, hf⟩ := h0
    rcases open_ints Try.underlying22 Try.underlying5 (by kernel_rfl) hf with ⟨hcs, _⟩ | ⟨x, l, c, zs, hcs, _, hl, hm, hz, _, hcell, hwz⟩
    · simp [Value.cells] at hcs
      obtain ⟨rfl, rfl, rfl⟩ := hcs
      exact ⟨[], .inl ⟨rfl, rfl, rfl, rfl⟩⟩
    · simp [Value.cells] at hcs
      obtain ⟨rfl, rfl, rfl⟩ := hcs
      exact ⟨zs, .inr ⟨_, rfl, hl, hm, by simpa using hz, hcell, hwz⟩⟩
  obtain ⟨a1, rfl, rfl, rfl, w1⟩ := open_int Try.underlying23 (hval 1 23 v1 rfl rfl) h1
  obtain ⟨a2, rfl, rfl, rfl, w2⟩ := open_int Try.underlying25 (hval 2 25 v2 rfl rfl) h2
  clear hA0 hval0
  refine (walk a0 len0 cap0 z0 a1 a2 W w0 w1 w2).mono fun e W' ⟨he, bel⟩ => ?_
  subst he
  exact ⟨_, rfl, _, _, _, [], _, [], hW', trodAll_mk1 (shut_bool Try.underlying4 _), (trodAll_cons_mk (Below.trod laidOut (by kernel_rfl) (of_decide_eq_true (by kernel_rfl)) k0 bel lt0) (trodAll_cons_mk (shut_int Try.underlying23 w1) (trodAll_cons_mk (shut_int Try.underlying25 w2) trodAll_mk0))), rfl, bel.frame _, fun h => by cases h⟩

theorem over : Rows.crcBurstRow.holds Try.pinned (OpenSpec.ofChange Rows.crcBurstSpec) :=
  OpenClaim.holds_of_wide 4 Try.f4 rfl rfl rfl rfl rfl rfl rfl ⟨rfl, rfl, rfl, rfl, rfl⟩ rfl rfl rfl rfl rfl (by kernel_rfl) Try.func4 (by kernel_rfl)
    (of_decide_eq_true (by kernel_rfl)) (by unfold Func.isWrapper; first | (rw [if_pos (by decide +kernel)]; kernel_rfl) | (rw [if_neg (by decide +kernel)]; exact ⟨rfl, rfl⟩))
    (fun os started H enc _ => lifted os started H enc)

/-- ████ THE STATEMENT ████ -/
theorem proved : Rows.CrcBurstSaid := over
#print axioms proved
end Go.Proofs.Ytlgammcbhgmpoaa.crcBurst
