/- The statement CrcEnds: bytes with their sum behind them, its lowest byte first, always have one and the same sum; for every input. -/
import Derived.Test.YtlgammcbhgmpoaaRows
import Derived.WalkKit
import Derived.ProofKit
import Derived.OpenShut
import Derived.ShutString
import Derived.ChangeOld
import Derived.Below
import Derived.Test.YtlgammcbhgmpoaaCrcL
import Derived.Test.YtlgammcbhgmpoaaCrcPm
namespace Go.Proofs.Ytlgammcbhgmpoaa.crcEnds
open Go.ChangeShapes Go.WideShapes Go.ChangeAt Go.RowKit
open Go.ChangeMaps (open_string shut_string)
set_option linter.unusedVariables false

theorem own : ownKnob Try.prog.godebug = none := by kernel_rfl
theorem laidOut : laidOutB Try.prog = true := by kernel_rfl

/-- WHAT THE WALK IS TOLD OF A SLICE OF INTEGERS THAT CAME IN: it is nil; or it leads to a row of 'cap' cells, the numbers 'zs' (the first 'len' are its elements, the rest its spare room), each fitting its kind. -/
def IsRow (k : IntKind) (w : World) (a : Option Addr) (len cap : Nat) (zs : List Int) : Prop :=
  (a = none ∧ len = 0 ∧ cap = 0 ∧ zs = []) ∨
  ∃ x, a = some x ∧ len ≤ cap ∧ cap ≤ maxLen ∧ zs.length = cap ∧ (∀ i, i < zs.length → w.cell? (x.add i) = some (.int k (zs.getD i 0))) ∧ ∀ n ∈ zs, (Lit.int k n).wf = true

theorem rws2b {w : World} {u v : Value} {T : TypeId} {l m : List Nat} (b : Nat) (hb : b = w.heap.size) (h : Bts w u l) (h2 : Bts w v m) : Rws (w.alloc (.cells #[u, v] T)) (.slice (some ⟨b, 0, none⟩) 2 2) [l, m] := by
  subst hb; exact rws2 h h2
theorem rws1b {w : World} {u : Value} {T : TypeId} {l : List Nat} (b : Nat) (hb : b = w.heap.size) (h : Bts w u l) : Rws (w.alloc (.cells #[u] T)) (.slice (some ⟨b, 0, none⟩) 1 1) [l] := by
  subst hb; exact rws1 h
theorem crc_run (ls : List (List Nat)) : crc ls = (~~~ Crcp.run ls.flatten (BitVec.allOnes 32)).toNat := rfl
theorem crc_lt (ls : List (List Nat)) : crc ls < 4294967296 := (~~~ Crcp.run ls.flatten (BitVec.allOnes 32)).isLt
theorem ends_crc (l : List Nat) (h : ∀ x ∈ l, x < 256) (n : Nat) (hn : crc [l] = n) :
    crc [l, [n % 256, n / 256 % 256, n / 65536 % 256, n / 16777216 % 256]] = 558161692 := by
  have e := Crcp.ends l h n (by rw [← hn, crc_run]; simp)
  rw [crc_run]
  simp only [List.flatten_cons, List.flatten_nil, List.append_nil]
  rw [e]; decide +kernel
set_option maxRecDepth 100000 in
set_option maxHeartbeats 400000 in
theorem walk6 (a0 : Option Addr) (n0 cap0 : Nat) (l : List Nat) (w : World) (hB : Bts w (.slice a0 n0 cap0) l) (hn : n0 ≤ cap0) (hcap : cap0 ≤ maxLen) :
    Calls Try.prog 6 #[.slice a0 n0 cap0] w fun e w' => e = .returned (.bool true) ∧ Below w.heap.size w w' := by
  unfold maxLen at hcap
  have HB := Lib.hid hB
  clear hB
  by_cases h5 : 500 < n0
  · have h5I : decide ((500 : Int) < n0) = true := by simp; omega
    go_enter Try.func6, Try.ntmps6
    go_wp2_with (go_at_call 13; refine (awake_any _).mono ?_; rintro e w1 ⟨rfl, hb⟩)
    go_ret
    exact ⟨rfl, hb⟩
  · have h5I : decide ((500 : Int) < n0) = false := by simp; omega
    obtain ⟨n1, hn1⟩ : ∃ n1, crc [l] = n1 := ⟨_, rfl⟩
    have hlt : (n1 : Int) < 4294967296 := by have := crc_lt [l]; omega
    have HN1 := Lib.hid hn1
    clear hn1 h5 hn hcap
    go_enter Try.func6, Try.ntmps6
    go_wp2_with (go_at_call 13; refine (awake_any _).mono ?_; rintro e w1 ⟨rfl, hb⟩)
    have HBW := Lib.hid hb
    have HB1 := Lib.hid (HB.out.below hb)
    clear hb
    refine (of_is _ [l] (n1 : Int) _ (congrArg _ HN1.out) (rws1 HB1.out)).mono ?_
    rintro e w2 ⟨rfl, hb2⟩
    have HB2 := Lib.hid hb2
    clear hb2
    go_simp
    go_wp2_with fail
    refine (of_is _ [l, [n1 % 256, n1 / 256 % 256, n1 / 65536 % 256, n1 / 16777216 % 256]] (558161692 : Int) _ (by rw [ends_crc l HB1.out.2.1 n1 HN1.out]; rfl) ?_).mono ?_
    · have hb2 : Below w1.heap.size w1 w2 := ((Below.refl _ _).alloc (Nat.le_refl _) _).trans (HB2.out.mono (by simp))
      refine rws2b _ (by simp) (HB1.out.below (hb2.alloc hb2.size _)) (Bts.lit _ (blk1 _ _) ?_ ?_ (by simp [maxLen]) 4 (by simp))
      · have hq : n1 / 16777216 % 256 = n1 / 16777216 := by omega
        rw [hq]; simp
      · intro x hx; simp at hx; omega
    · rintro e w3 ⟨rfl, hb3⟩
      go_simp
      go_wp2_with fail
      go_ret
      have hb2 : Below w1.heap.size w1 w2 := ((Below.refl _ _).alloc (Nat.le_refl _) _).trans (HB2.out.mono (by simp))
      have hs2 := hb2.size
      have hb3' : Below w1.heap.size w1 w3 := ((hb2.alloc hs2 _).alloc (by simp; omega) _).trans (hb3.mono (by simp; omega))
      exact ⟨rfl, HBW.out.trans (hb3'.mono HBW.out.size)⟩
/-! ### STEP 1: THE WALK: the Go text returns true, AND WRITES NOTHING THAT WAS THERE: 'Below w.heap.size w w'' (Derived/Below.lean: '.refl', '.alloc', '.drew', '.setCell' at a new block, '.trans'). Open each 'IsRow' by 'rcases' AHEAD of 'go_enter'; part every test ahead of the walk. -/
theorem walk (a0 : Option Addr) (len0 cap0 : Nat) (z0 : List Int) (w : World) (w0 : IsRow .u8 w a0 len0 cap0 z0) :
    Calls Try.prog 6 #[.slice a0 len0 cap0] w fun e w' => e = .returned (.bool true) ∧ Below w.heap.size w w' := by
  obtain ⟨l, hl, hB, hn, hcap, hsh⟩ := row_bts w0
  exact walk6 a0 len0 cap0 l w hB hn hcap

/-! ### THE ROW's STEP: WRITTEN OUT: LEAVE IT -/
set_option maxRecDepth 100000 in
theorem lifted (os : Os) (started : os.Started) (H : Type) (enc : TypeId × Value → H) :
    ReturnsInHanded {} Try.checked os 6 .any (Rows.crcEndsSpec.pre6 enc Try.prog Try.f6 Rows.crcEndsRow.domain false) (Rows.crcEndsSpec.post enc Try.prog Try.f6 false true false false) := by
  refine returnsInHanded_of_change (C := Try.checked) own started (by kernel_rfl) Try.func6
    (ChangeSpec.witness6 (enc := enc) (C := Try.checked) false ⟨#[], #[.slice none 0 0], []⟩ 8 (by kernel_rfl) (by kernel_rfl) (by kernel_rfl) (by kernel_rfl)) ?_
  intro W base args ds gs before hval0 hW hcnd _
  have hval : ∀ (j : Nat) t v, Try.f6.params[j]? = some t → args[j]? = some v → Value.okWide Try.prog W .any base t v := hval0
  have hW' := hW
  obtain ⟨p, q, hA0, hV, rfl, hfz, hnd⟩ := hW
  have hA : DataW.TrodAll enc Try.prog W 0 (fun _ => true) true Try.f6.params.toList args.toList ds p := hA0
  rw [Try.params6] at hA hval
  obtain ⟨v0, vs0, d0, ds0, p0, q0, hargs, rfl, rfl, h0, r0⟩ := trodAll_cons hA
  obtain ⟨rfl, rfl, rfl⟩ := trodAll_nil r0
  obtain rfl : args = #[v0] := by cases args; simp_all
  obtain ⟨rfl, rfl⟩ := trodVars_none hV
  obtain ⟨a0, len0, cap0, rfl⟩ := okWide_slice Try.underlying22 (hval 0 22 v0 rfl rfl)
  have k0 := h0
  have lt0 : ∀ x ∈ p0, x.block < W.heap.size := by obtain ⟨m, hm⟩ := k0; exact DataW.trod_lt m _ _ _ hm
  obtain ⟨z0, w0⟩ : ∃ zs, IsRow .u8 W a0 len0 cap0 zs := by
    obtain ⟨fuel, hf⟩ := h0
    rcases open_ints Try.underlying22 Try.underlying5 (by kernel_rfl) hf with ⟨hcs, _⟩ | ⟨x, l, c, zs, hcs, _, hl, hm, hz, _, hcell, hwz⟩
    · simp [Value.cells] at hcs
      obtain ⟨rfl, rfl, rfl⟩ := hcs
      exact ⟨[], .inl ⟨rfl, rfl, rfl, rfl⟩⟩
    · simp [Value.cells] at hcs
      obtain ⟨rfl, rfl, rfl⟩ := hcs
      exact ⟨zs, .inr ⟨_, rfl, hl, hm, by simpa using hz, hcell, hwz⟩⟩
  clear hA0 hval0
  refine (walk a0 len0 cap0 z0 W w0).mono fun e W' ⟨he, bel⟩ => ?_
  subst he
  exact ⟨_, rfl, _, _, _, [], _, [], hW', trodAll_mk1 (shut_bool Try.underlying4 _), (trodAll_cons_mk (Below.trod laidOut (by kernel_rfl) (of_decide_eq_true (by kernel_rfl)) k0 bel lt0) trodAll_mk0), rfl, bel.frame _, fun h => by cases h⟩

theorem over : Rows.crcEndsRow.holds Try.pinned (OpenSpec.ofChange Rows.crcEndsSpec) :=
  OpenClaim.holds_of_wide 6 Try.f6 rfl rfl rfl rfl rfl rfl rfl ⟨rfl, rfl, rfl, rfl, rfl⟩ rfl rfl rfl rfl rfl (by kernel_rfl) Try.func6 (by kernel_rfl)
    (of_decide_eq_true (by kernel_rfl)) (by unfold Func.isWrapper; first | (rw [if_pos (by decide +kernel)]; kernel_rfl) | (rw [if_neg (by decide +kernel)]; exact ⟨rfl, rfl⟩))
    (fun os started H enc _ => lifted os started H enc)

/-- ████ THE STATEMENT ████ -/
theorem proved : Rows.CrcEndsSaid := over
#print axioms proved
end Go.Proofs.Ytlgammcbhgmpoaa.crcEnds
