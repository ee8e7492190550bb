/- The statement CrcOf: the sum of any bytes, however they are cut, is the document's; for every input. -/
import Derived.Test.YtlgammcbhgmpoaaRows
import Derived.WalkKit
import Derived.ProofKit
import Derived.OpenShut
import Derived.ShutString
import Derived.ChangeOld
import Derived.Below
import Derived.Test.YtlgammcbhgmpoaaCrcL
namespace Go.Proofs.Ytlgammcbhgmpoaa.crcOf
open Go.ChangeShapes Go.WideShapes Go.ChangeAt Go.RowKit
open Go.ChangeMaps (open_string shut_string)
set_option linter.unusedVariables false

theorem own : ownKnob Try.prog.godebug = none := by kernel_rfl
theorem laidOut : laidOutB Try.prog = true := by kernel_rfl

/-- WHAT THE WALK IS TOLD OF A SLICE OF INTEGERS THAT CAME IN: it is nil; or it leads to a row of 'cap' cells, the numbers 'zs' (the first 'len' are its elements, the rest its spare room), each fitting its kind. -/
def IsRow (k : IntKind) (w : World) (a : Option Addr) (len cap : Nat) (zs : List Int) : Prop :=
  (a = none ∧ len = 0 ∧ cap = 0 ∧ zs = []) ∨
  ∃ x, a = some x ∧ len ≤ cap ∧ cap ≤ maxLen ∧ zs.length = cap ∧ (∀ i, i < zs.length → w.cell? (x.add i) = some (.int k (zs.getD i 0))) ∧ ∀ n ∈ zs, (Lit.int k n).wf = true

set_option maxRecDepth 100000 in
set_option maxHeartbeats 400000 in
theorem walk3 (a0 : Option Addr) (n0 cap0 : Nat) (l : List Nat) (at1 : Nat) (w : World) (hB : Bts w (.slice a0 n0 cap0) l) (hn : n0 ≤ cap0) (hcap : cap0 ≤ maxLen) (hsh : Shp a0 n0 cap0) (hat : at1 < 65536) :
    Calls Try.prog 3 #[.slice a0 n0 cap0, .int .u16 at1] w fun e w' => e = .returned (.bool true) ∧ Below w.heap.size w w' := by
  unfold maxLen at hcap
  have hnM : n0 ≤ 2^63 - 1 := by omega
  have hatI : (at1 : Int) < 65536 := by omega
  have HB := Lib.hid hB
  clear hB
  by_cases h5 : 500 < n0
  · have h5I : (500 : Int) < n0 := by omega
    go_enter Try.func3, Try.ntmps3
    go_wp2_with (go_at_call 13; refine (awake_any _).mono ?_; rintro e w1 ⟨rfl, hb⟩)
    go_ret
    exact ⟨rfl, hb⟩
  · have h5I : decide ((500 : Int) < n0) = false := by simp; omega
    have hn1 : (n0 : Int) ≤ 1000 := by omega
    clear hnM hcap
    have h5N : n0 ≤ 500 := by omega
    obtain ⟨k, hk⟩ : ∃ k, k = at1 % (n0 + 1) := ⟨_, rfl⟩
    have hkn : k ≤ n0 := by have := Nat.mod_lt at1 (show n0 + 1 > 0 by omega); omega
    have hkI : (at1 : Int) % ((n0 : Int) + 1) = (k : Int) := by rw [hk]; push_cast; rfl
    have hkT : (at1 : Int).tmod ((n0 : Int) + 1) = (k : Int) := by rw [Int.tmod_eq_emod_of_nonneg (by omega)]; exact hkI
    clear hk
    have H5 := Lib.hid h5N
    clear h5 h5N
    go_enter Try.func3, Try.ntmps3
    go_wp2_with fail
    refine (awake_any _).mono ?_
    rintro e w1 ⟨rfl, hb⟩
    have hcv := conv_bts (HB.out.below hb)
    go_simp
    go_wp2_with fail
    obtain ⟨n1, hn1⟩ : ∃ n1, crc [l] = n1 := ⟨_, rfl⟩
    have HN1 := Lib.hid hn1
    clear hn1
    refine (ref_bts l n1 _ HB.out.2.1 HB.out.1 HN1.out).mono ?_
    rintro e w1 ⟨rfl, rfl⟩
    have HB1 := Lib.hid (HB.out.below hb)
    have HBW := Lib.hid hb
    clear hb hcv
    go_wp2_with fail
    have hs2 : ((crc [l.take k, l.drop k] : Nat) : Int) = (n1 : Int) := by rw [← HN1.out]; exact congrArg _ (crc_flat _ _ (by simp))
    have HS2 := Lib.hid hs2
    clear hs2
    rcases hsh with ⟨rfl, rfl, rfl⟩ | ⟨x, rfl, rfl, rfl⟩ | ⟨b, off, rfl, hpos⟩
    · obtain rfl : k = 0 := by omega
      obtain rfl : l = [] := by have := HB.out.len; exact List.eq_nil_of_length_eq_zero this
      clear h5I hn1 hkI hkT hatI hat H5
      go_region_held3 (fun w' => Below w1.heap.size w1 w') (first | assumption | exact (Below.refl _ _).drew | exact Below.alloc ‹_› (Below.size ‹_›) _ | exact Below.trans ‹Below w1.heap.size w1 _› (Below.mono ‹_› (Below.size ‹_›)) | go_keep) (first | (go_at_call 15; refine (of_is _ [[]] (n1 : Int) _ (congrArg _ HN1.out) ?_).mono ?_; (exact (rws1 (Bts.empty _ _ _)).drew); rintro e w' ⟨rfl, hb'⟩) | (go_at_call 15; refine (of_is _ [[], []] (n1 : Int) _ HS2.out ?_).mono ?_; (exact rws2 (Bts.empty _ _ _) (Bts.empty _ _ _)); rintro e w'' ⟨rfl, hb''⟩))
      go_wp2_with fail
      go_ret
      exact ⟨rfl, HBW.out.trans (Below.mono ‹Below w1.heap.size w1 _› HBW.out.size)⟩
    · obtain rfl : k = 0 := by omega
      obtain rfl : l = [] := by have := HB.out.len; exact List.eq_nil_of_length_eq_zero this
      clear h5I hn1 hkI hkT hatI hat H5
      go_region_held3 (fun w' => Below w1.heap.size w1 w') (first | assumption | exact (Below.refl _ _).drew | exact Below.alloc ‹_› (Below.size ‹_›) _ | exact Below.trans ‹Below w1.heap.size w1 _› (Below.mono ‹_› (Below.size ‹_›)) | go_keep) (first | (go_at_call 15; refine (of_is _ [[]] (n1 : Int) _ (congrArg _ HN1.out) ?_).mono ?_; (exact (rws1 (Bts.empty _ _ _)).drew); rintro e w' ⟨rfl, hb'⟩) | (go_at_call 15; refine (of_is _ [[], []] (n1 : Int) _ HS2.out ?_).mono ?_; (exact rws2 (Bts.empty _ _ _) (Bts.empty _ _ _)); rintro e w'' ⟨rfl, hb''⟩))
      go_wp2_with fail
      go_ret
      exact ⟨rfl, HBW.out.trans (Below.mono ‹Below w1.heap.size w1 _› HBW.out.size)⟩
    · have f1 : (0 : Int) ≤ (k : Int) := by omega
      have f2 : (k : Int) ≤ (cap0 : Int) := by omega
      have f3 : (k : Int) ≤ (n0 : Int) := by omega
      have f4 : (n0 : Int) ≤ (cap0 : Int) := by omega
      by_cases hkc : k = cap0
      · subst hkc
        have hdr : [] = l.drop k := by rw [List.drop_of_length_le (by rw [HB.out.len]; omega)]
        have HDR := Lib.hid hdr
        clear hdr
        clear h5I hn1 hkI hkT hatI hat H5
        go_region_held3 (fun w' => Below w1.heap.size w1 w') (first | assumption | exact (Below.refl _ _).drew | exact Below.alloc ‹_› (Below.size ‹_›) _ | exact Below.trans ‹Below w1.heap.size w1 _› (Below.mono ‹_› (Below.size ‹_›)) | go_keep) (first | (go_at_call 15; refine (of_is _ [l] (n1 : Int) _ (congrArg _ HN1.out) ?_).mono ?_; (exact (rws1 HB1.out).drew); rintro e w' ⟨rfl, hb'⟩) | (go_at_call 15; refine (of_is _ [l.take k, l.drop k] (n1 : Int) _ HS2.out ?_).mono ?_; (exact rws2 ((HB1.out.below ((((Below.refl _ _).alloc (Nat.le_refl _) _).drew).trans (hb'.mono (by simp)))).take k hkn) (HDR.out ▸ Bts.empty _ _ _)); rintro e w'' ⟨rfl, hb''⟩))
        go_wp2_with fail
        go_ret
        exact ⟨rfl, HBW.out.trans (Below.mono ‹Below w1.heap.size w1 _› HBW.out.size)⟩
      · have hkc2 : k < cap0 := by omega
        clear h5I hn1 hkI hkT hatI hat H5
        go_region_held3 (fun w' => Below w1.heap.size w1 w') (first | assumption | exact (Below.refl _ _).drew | exact Below.alloc ‹_› (Below.size ‹_›) _ | exact Below.trans ‹Below w1.heap.size w1 _› (Below.mono ‹_› (Below.size ‹_›)) | go_keep) (first | (go_at_call 15; refine (of_is _ [l] (n1 : Int) _ (congrArg _ HN1.out) ?_).mono ?_; (exact (rws1 HB1.out).drew); rintro e w' ⟨rfl, hb'⟩) | (go_at_call 15; refine (of_is _ [l.take k, l.drop k] (n1 : Int) _ HS2.out ?_).mono ?_; (exact rws2 ((HB1.out.below ((((Below.refl _ _).alloc (Nat.le_refl _) _).drew).trans (hb'.mono (by simp)))).take k hkn) ((HB1.out.below ((((Below.refl _ _).alloc (Nat.le_refl _) _).drew).trans (hb'.mono (by simp)))).drop_if k hkn hn)); rintro e w'' ⟨rfl, hb''⟩))
        go_wp2_with fail
        go_ret
        exact ⟨rfl, HBW.out.trans (Below.mono ‹Below w1.heap.size w1 _› HBW.out.size)⟩
/-! ### STEP 1: THE WALK: the Go text returns true, AND WRITES NOTHING THAT WAS THERE: 'Below w.heap.size w w'' (Derived/Below.lean: '.refl', '.alloc', '.drew', '.setCell' at a new block, '.trans'). Open each 'IsRow' by 'rcases' AHEAD of 'go_enter'; part every test ahead of the walk. -/
theorem walk (a0 : Option Addr) (len0 cap0 : Nat) (z0 : List Int) (a1 : Int) (w : World) (w0 : IsRow .u8 w a0 len0 cap0 z0) (w1 : (Lit.int .u16 a1).wf = true) :
    Calls Try.prog 3 #[.slice a0 len0 cap0, .int .u16 a1] w fun e w' => e = .returned (.bool true) ∧ Below w.heap.size w w' := by
  obtain ⟨l, hl, hB, hn, hcap, hsh⟩ := row_bts w0
  obtain ⟨n, rfl⟩ : ∃ n : Nat, a1 = (n : Int) := ⟨a1.toNat, by simp [Lit.wf, IntKind.min, IntKind.max, IntKind.bits, IntKind.signed] at w1; omega⟩
  exact walk3 a0 len0 cap0 l n w hB hn hcap hsh (by simp [Lit.wf, IntKind.min, IntKind.max, IntKind.bits, IntKind.signed] at w1; omega)

/-! ### THE ROW's STEP: WRITTEN OUT: LEAVE IT -/
set_option maxRecDepth 100000 in
theorem lifted (os : Os) (started : os.Started) (H : Type) (enc : TypeId × Value → H) :
    ReturnsInHanded {} Try.checked os 3 .any (Rows.crcOfSpec.pre6 enc Try.prog Try.f3 Rows.crcOfRow.domain false) (Rows.crcOfSpec.post enc Try.prog Try.f3 false true false false) := by
  refine returnsInHanded_of_change (C := Try.checked) own started (by kernel_rfl) Try.func3
    (ChangeSpec.witness6 (enc := enc) (C := Try.checked) false ⟨#[], #[.slice none 0 0, .int .u16 0], []⟩ 8 (by kernel_rfl) (by kernel_rfl) (by kernel_rfl) (by kernel_rfl)) ?_
  intro W base args ds gs before hval0 hW hcnd _
  have hval : ∀ (j : Nat) t v, Try.f3.params[j]? = some t → args[j]? = some v → Value.okWide Try.prog W .any base t v := hval0
  have hW' := hW
  obtain ⟨p, q, hA0, hV, rfl, hfz, hnd⟩ := hW
  have hA : DataW.TrodAll enc Try.prog W 0 (fun _ => true) true Try.f3.params.toList args.toList ds p := hA0
  rw [Try.params3] at hA hval
  obtain ⟨v0, vs0, d0, ds0, p0, q0, hargs, rfl, rfl, h0, r0⟩ := trodAll_cons hA
  obtain ⟨v1, vs1, d1, ds1, p1, q1, rfl, rfl, rfl, h1, r1⟩ := trodAll_cons r0
  obtain ⟨rfl, rfl, rfl⟩ := trodAll_nil r1
  obtain rfl : args = #[v0, v1] := by cases args; simp_all
  obtain ⟨rfl, rfl⟩ := trodVars_none hV
  obtain ⟨a0, len0, cap0, rfl⟩ := okWide_slice Try.underlying22 (hval 0 22 v0 rfl rfl)
  have k0 := h0
  have lt0 : ∀ x ∈ p0, x.block < W.heap.size := by obtain ⟨m, hm⟩ := k0; exact DataW.trod_lt m _ _ _ hm
  obtain ⟨z0, w0⟩ : ∃ zs, IsRow .u8 W a0 len0 cap0 zs := by
    obtain ⟨fuel, hf⟩ := h0
    rcases open_ints Try.underlying22 Try.underlying5 (by kernel_rfl) hf with ⟨hcs, _⟩ | ⟨x, l, c, zs, hcs, _, hl, hm, hz, _, hcell, hwz⟩
    · simp [Value.cells] at hcs
      obtain ⟨rfl, rfl, rfl⟩ := hcs
      exact ⟨[], .inl ⟨rfl, rfl, rfl, rfl⟩⟩
    · simp [Value.cells] at hcs
      obtain ⟨rfl, rfl, rfl⟩ := hcs
      exact ⟨zs, .inr ⟨_, rfl, hl, hm, by simpa using hz, hcell, hwz⟩⟩
  obtain ⟨a1, rfl, rfl, rfl, w1⟩ := open_int Try.underlying23 (hval 1 23 v1 rfl rfl) h1
  clear hA0 hval0
  refine (walk a0 len0 cap0 z0 a1 W w0 w1).mono fun e W' ⟨he, bel⟩ => ?_
  subst he
  exact ⟨_, rfl, _, _, _, [], _, [], hW', trodAll_mk1 (shut_bool Try.underlying4 _), (trodAll_cons_mk (Below.trod laidOut (by kernel_rfl) (of_decide_eq_true (by kernel_rfl)) k0 bel lt0) (trodAll_cons_mk (shut_int Try.underlying23 w1) trodAll_mk0)), rfl, bel.frame _, fun h => by cases h⟩

theorem over : Rows.crcOfRow.holds Try.pinned (OpenSpec.ofChange Rows.crcOfSpec) :=
  OpenClaim.holds_of_wide 3 Try.f3 rfl rfl rfl rfl rfl rfl rfl ⟨rfl, rfl, rfl, rfl, rfl⟩ rfl rfl rfl rfl rfl (by kernel_rfl) Try.func3 (by kernel_rfl)
    (of_decide_eq_true (by kernel_rfl)) (by unfold Func.isWrapper; first | (rw [if_pos (by decide +kernel)]; kernel_rfl) | (rw [if_neg (by decide +kernel)]; exact ⟨rfl, rfl⟩))
    (fun os started H enc _ => lifted os started H enc)

/-- ████ THE STATEMENT ████ -/
theorem proved : Rows.CrcOfSaid := over
#print axioms proved
end Go.Proofs.Ytlgammcbhgmpoaa.crcOf
