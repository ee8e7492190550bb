/- The statement CrcNoughts: rows that are empty change nothing; a nought more behind does, unless the sum is 4294967295; for every input. -/
import Derived.Test.YtlgammcbhgmpoaaRows
import Derived.WalkKit
import Derived.ProofKit
import Derived.OpenShut
import Derived.ShutString
import Derived.ChangeOld
import Derived.Below
import Derived.Test.YtlgammcbhgmpoaaCrcL
import Derived.Test.YtlgammcbhgmpoaaCrcPm
import Derived.Deep.OwnRows
namespace Go.Proofs.Ytlgammcbhgmpoaa.crcNoughts
open Go.ChangeShapes Go.WideShapes Go.ChangeAt Go.RowKit
open Go.ChangeMaps (open_string shut_string)
set_option linter.unusedVariables false

theorem own : ownKnob Try.prog.godebug = none := by kernel_rfl
theorem laidOut : laidOutB Try.prog = true := by kernel_rfl

/-- WHAT THE WALK IS TOLD OF A SLICE OF INTEGERS THAT CAME IN: it is nil; or it leads to a row of 'cap' cells, the numbers 'zs' (the first 'len' are its elements, the rest its spare room), each fitting its kind. -/
def IsRow (k : IntKind) (w : World) (a : Option Addr) (len cap : Nat) (zs : List Int) : Prop :=
  (a = none ∧ len = 0 ∧ cap = 0 ∧ zs = []) ∨
  ∃ x, a = some x ∧ len ≤ cap ∧ cap ≤ maxLen ∧ zs.length = cap ∧ (∀ i, i < zs.length → w.cell? (x.add i) = some (.int k (zs.getD i 0))) ∧ ∀ n ∈ zs, (Lit.int k n).wf = true

theorem crc_run (ls : List (List Nat)) : crc ls = (~~~ Crcp.run ls.flatten (BitVec.allOnes 32)).toNat := rfl
theorem crc_lt (ls : List (List Nat)) : crc ls < 4294967296 := (~~~ Crcp.run ls.flatten (BitVec.allOnes 32)).isLt
theorem rws1b {w : World} {u : Value} {T : TypeId} {l : List Nat} (b : Nat) (hb : b = w.heap.size) (h : Bts w u l) : Rws (w.alloc (.cells #[u] T)) (.slice (some ⟨b, 0, none⟩) 1 1) [l] := by
  subst hb; exact rws1 h
theorem rws2b {w : World} {u v : Value} {T : TypeId} {l m : List Nat} (b : Nat) (hb : b = w.heap.size) (h : Bts w u l) (h2 : Bts w v m) : Rws (w.alloc (.cells #[u, v] T)) (.slice (some ⟨b, 0, none⟩) 2 2) [l, m] := by
  subst hb; exact rws2 h h2
theorem rws3c {w : World} {u v x : Value} {T : TypeId} {fr : Nat × Nat} {l m k : List Nat} (b : Nat) (hb : w.heap[b]? = some (.cells #[u, v, x] T fr)) (h : Bts w u l) (h2 : Bts w v m) (h3 : Bts w x k) : Rws w (.slice (some ⟨b, 0, none⟩) 3 3) [l, m, k] := by
  refine Rws.lit [l, m, k] hb rfl (fun i y hv => ?_) (by simp [maxLen]) 3 rfl
  match i with
  | 0 => simp at hv; subst hv; exact h
  | 1 => simp at hv; subst hv; exact h2
  | 2 => simp at hv; subst hv; exact h3
  | i + 3 => simp at hv
theorem blk_of {B b : Nat} {w w' : World} {o : Obj} (h : Below B w w') (hlt : b < B) (hb : w.heap[b]? = some o) : w'.heap[b]? = some o := (h.block b hlt).trans hb
theorem rws3d {w0 w : World} {u v x : Value} {T : TypeId} {fr : Nat × Nat} {l m k : List Nat} (b : Nat) (h : Bts w0 u l) (h2 : Bts w0 v m) (h3 : Bts w0 x k) (hw : Below w0.heap.size w0 w) (hb : w.heap[b]? = some (.cells #[u, v, x] T fr)) : Rws w (.slice (some ⟨b, 0, none⟩) 3 3) [l, m, k] :=
  rws3c b hb (h.below hw) (h2.below hw) (h3.below hw)
theorem made_zero (n : Nat) (z : Value) : madeCells #[z] n = (List.replicate n z).toArray := by
  unfold madeCells
  apply Array.ext
  · simp
  · intro i h1 h2
    simp [Nat.mod_one]
theorem hsl (m : Nat) (hm : m < 40) : ∃ sb : Nat, (0 < m → sb = 1) ∧ ∀ (w : World) (b : Nat), Sem.run Try.prog (Instr.slice 22 (.slice (some ⟨b, 0, none⟩) (m + 1) (m + 1)) (some (.int .i64 1)) none none) w = .ok (.slice (some ⟨b, sb, none⟩) m m) w := by
  by_cases h0 : m = 0
  · subst h0
    refine ⟨0, fun h => by omega, fun w b => ?_⟩
    go_simp
  · refine ⟨1, fun _ => rfl, fun w b => ?_⟩
    have : (0 : Int) < m := by omega
    go_simp
    intro h; omega
theorem made_bts {w : World} (b n : Nat) (hb : b = w.heap.size) (hn : n ≤ maxLen) : Bts (w.alloc (.cells (madeCells #[Value.int .u8 0] n) 5)) (.slice (some ⟨b, 0, none⟩) n n) (List.replicate n 0) := by
  subst hb
  refine Bts.lit _ (blk1 _ _) ?_ (by intro x hx; have := List.eq_of_mem_replicate hx; omega) (by simpa using hn) n (by simp)
  rw [made_zero]; simp
theorem not_inj {x y : BitVec 32} : (~~~ x).toNat = (~~~ y).toNat ↔ x = y := by
  constructor
  · intro h
    have := BitVec.eq_of_toNat_eq h
    simpa using this
  · intro h; rw [h]
theorem nought_crc (l : List Nat) (m : Nat) : crc [l, List.replicate m 0] = crc [l, List.replicate (m + 1) 0] ↔ crc [l] = 4294967295 := by
  simp only [crc_run, List.flatten_cons, List.flatten_nil, List.append_nil]
  rw [Crcp.run_app, Crcp.run_app, not_inj, Crcp.nought]
  generalize Crcp.run l (BitVec.allOnes 32) = s
  constructor
  · intro h; subst h; decide
  · intro h
    rw [BitVec.toNat_not] at h
    apply BitVec.eq_of_toNat_eq
    have := s.isLt
    show s.toNat = 0
    omega
set_option maxRecDepth 100000 in
set_option maxHeartbeats 400000 in
theorem walk7 (a0 : Option Addr) (n0 cap0 : Nat) (l : List Nat) (n : Nat) (w : World) (hB : Bts w (.slice a0 n0 cap0) l) (hn : n < 256) :
    Calls Try.prog 7 #[.slice a0 n0 cap0, .int .u8 n] w fun e w' => e = .returned (.bool true) ∧ Below w.heap.size w w' := by
  have HB := Lib.hid hB
  clear hB
  by_cases h5 : 300 < n0
  · have h5I : decide ((300 : Int) < n0) = true := by simp; omega
    go_enter Try.func7, Try.ntmps7
    go_wp2_with (go_at_call 13; refine (awake_any _).mono ?_; rintro e w1 ⟨rfl, hb⟩)
    go_ret
    exact ⟨rfl, hb⟩
  · have h5I : decide ((300 : Int) < n0) = false := by simp; omega
    obtain ⟨n1, hn1⟩ : ∃ n1, crc [l] = n1 := ⟨_, rfl⟩
    have HN1 := Lib.hid hn1
    obtain ⟨m, hm⟩ : ∃ m, m = n % 40 := ⟨_, rfl⟩
    have hmI : (n : Int) % 40 = (m : Int) := by omega
    have hml : (m : Int) < 40 := by omega
    have hmk := fun w => run_make_row' (P := Try.prog) 22 5 (.int .u8 0) 1 Try.underlying22 (by kernel_rfl) rfl .i64 .i64 (m + 1) (by omega) (by omega) w
    rw [show ((m + 1 : Nat) : Int) = (m : Int) + 1 from by omega] at hmk
    obtain ⟨sb, hsb, hslc⟩ := hsl m (by omega)
    have HSB := Lib.hid hsb
    obtain ⟨a1, ha1⟩ : ∃ a1, crc [l, List.replicate m 0] = a1 := ⟨_, rfl⟩
    obtain ⟨a2, ha2⟩ : ∃ a2, crc [l, List.replicate (m + 1) 0] = a2 := ⟨_, rfl⟩
    have hsame : (((a1 : Int) == (a2 : Int)) == ((n1 : Int) == 4294967295)) = true := by
      have h := nought_crc l m
      rw [ha1, ha2, hn1] at h
      by_cases e : n1 = 4294967295
      · have := h.2 e; subst this; subst e; simp
      · have e2 : ¬ a1 = a2 := fun q => e (h.1 q)
        have e3 : ¬ (a1 : Int) = a2 := by omega
        have e4 : ¬ (n1 : Int) = 4294967295 := by omega
        rw [beq_eq_false_iff_ne.2 e3, beq_eq_false_iff_ne.2 e4]; rfl
    have HA1 := Lib.hid ha1
    have HA2 := Lib.hid ha2
    clear hn1 h5 hn hm hsb ha1 ha2
    go_enter Try.func7, Try.ntmps7
    go_wp2_with (go_at_call 13; refine (awake_any _).mono ?_; rintro e w1 ⟨rfl, hb⟩)
    have HBW := Lib.hid hb
    have HB1 := Lib.hid (HB.out.below hb)
    clear hb
    refine (of_is _ [l] (n1 : Int) _ (congrArg _ HN1.out) (rws1 HB1.out)).mono ?_
    rintro e w2 ⟨rfl, hb2⟩
    have HB2 := Lib.hid (((Below.refl _ _).alloc (Nat.le_refl _) _).trans (hb2.mono (by simp)) : Below w1.heap.size w1 w2)
    clear hb2
    go_simp
    go_wp2_with fail
    have HZ : Hid (Bts (w2.alloc (Obj.cells (madeCells #[.int .u8 0] (m + 1)) 5)) (.slice (some ⟨w2.heap.size, 0, none⟩) (m + 1) (m + 1)) (List.replicate (m + 1) 0)) := made_bts _ _ rfl (by unfold maxLen; omega)
    have HS : Hid (Bts (w2.alloc (Obj.cells (madeCells #[.int .u8 0] (m + 1)) 5)) (.slice (some ⟨w2.heap.size, sb, none⟩) m m) (List.replicate m 0)) := by
      have := HZ.out.drop 1 (by omega) sb (fun h => by rw [HSB.out (by omega)])
      simp at this
      exact Lib.hid this
    have HB3 := Lib.hid (HB2.out.alloc HB2.out.size (Obj.cells (madeCells #[.int .u8 0] (m + 1)) 5))
    generalize hW3 : w2.alloc (Obj.cells (madeCells #[.int .u8 0] (m + 1)) 5) = w3 at *
    have hz3 : w3.heap.size = w2.heap.size + 1 := by rw [← hW3]; simp
    have HZ3 := Lib.hid hz3
    clear hW3 hz3
    refine (of_is _ [l, List.replicate m 0] (a1 : Int) _ (congrArg _ HA1.out) (rws2b _ HZ3.out.symm (HB1.out.below HB3.out) HS.out)).mono ?_
    rintro e w4 ⟨rfl, hb4⟩
    have HB4 := Lib.hid (((Below.refl _ _).alloc (Nat.le_refl _) _).trans (hb4.mono (by simp)) : Below w3.heap.size w3 w4)
    clear hb4
    go_simp
    go_wp2_with fail
    refine (of_is _ [l, List.replicate (m + 1) 0] (a2 : Int) _ (congrArg _ HA2.out) (rws2b _ rfl ((HB1.out.below HB3.out).below HB4.out) (HZ.out.below HB4.out))).mono ?_
    rintro e w5 ⟨rfl, hb5⟩
    have HB5 := Lib.hid (HB4.out.trans ((((Below.refl _ _).alloc (Nat.le_refl _) _).trans (hb5.mono (by simp)) : Below w4.heap.size w4 w5).mono HB4.out.size))
    clear hb5
    go_simp
    go_wp2_with fail
    have HL5 := Lib.hid ((HB1.out.below HB3.out).below HB5.out)
    have HZ5 := Lib.hid (HZ.out.below HB5.out)
    have HS5 := Lib.hid (HS.out.below HB5.out)
    have HW5 := Lib.hid (HBW.out.trans ((HB3.out.trans (HB5.out.mono HB3.out.size)).mono HBW.out.size))
    clear h5I hmI hml hmk
    have c1 : crc [[], l, []] = n1 := by rw [← HN1.out]; exact crc_flat _ _ (by simp)
    have c2 : crc [l, List.replicate (m + 1) 0, []] = a2 := by rw [← HA2.out]; exact crc_flat _ _ (by simp)
    have c3 : crc [l, List.replicate 1 0, List.replicate m 0] = a2 := by
      rw [← HA2.out]; exact crc_flat _ _ (by rw [Nat.add_comm, ← List.replicate_append_replicate]; simp)
    have C1 := Lib.hid c1
    have C2 := Lib.hid c2
    have C3 := Lib.hid c3
    clear c1 c2 c3
    have HO5 : Hid (Bts w5 (.slice (some ⟨w2.heap.size, 0, none⟩) 1 (m + 1)) (List.replicate 1 0)) := by
      have := HZ5.out.take 1 (by omega)
      exact Lib.hid (by simpa [List.take_replicate] using this)
    have f1 : (1 : Int) ≤ (m : Int) + 1 := by omega
    go_region_held3 (fun w' => Below w5.heap.size w5 w') (first | assumption | exact (Below.refl _ _).drew | exact Below.alloc ‹_› (Below.size ‹_›) _ | exact Below.trans ‹Below w5.heap.size w5 _› (Below.mono ‹_› (Below.size ‹_›)) | go_keep) (first
      | (go_at_call 15; refine (of_is _ [[], l, []] (n1 : Int) _ (congrArg _ C1.out) ?_).mono ?_; (refine rws3d (T := 22) (fr := (0, 0)) _ (Bts.nil w5) HL5.out (Bts.empty w5 (some ⟨w5.heap.size, 0, none⟩) 0) ?_ ?_; assumption; exact blk2 _ _ _); rintro e w' ⟨rfl, hbX⟩)
      | (go_at_call 15; refine (of_is _ [l, List.replicate (m + 1) 0, []] (a2 : Int) _ (congrArg _ C2.out) ?_).mono ?_; (refine rws3d (T := 22) (fr := (0, 0)) _ HL5.out HZ5.out (Bts.nil _) ?_ ?_; assumption; (first | exact blk1 _ _ | exact blkS _ (blk1 _ _) | exact blk2 _ _ _ | (refine blk_of hbX ?_ (blkS _ (blk1 _ _)); (simp <;> omega)) | (refine blk_of hbX ?_ (blk2 _ _ _); (simp <;> omega)))); rintro e wB ⟨rfl, hbX⟩)
      | (go_at_call 15; refine (of_is _ [l, List.replicate 1 0, List.replicate m 0] (a2 : Int) _ (congrArg _ C3.out) ?_).mono ?_; (refine rws3d (T := 22) (fr := (0, 0)) _ HL5.out HO5.out HS5.out ?_ ?_; assumption; (first | exact blk1 _ _ | exact blkS _ (blk1 _ _) | exact blk2 _ _ _ | (refine blk_of hbX ?_ (blkS _ (blk1 _ _)); (simp <;> omega)) | (refine blk_of hbX ?_ (blk2 _ _ _); (simp <;> omega)))); rintro e wC ⟨rfl, hbX⟩))
    all_goals
      go_wp2_with fail
      go_ret
      exact ⟨rfl, HW5.out.trans (Below.mono ‹Below w5.heap.size w5 _› HW5.out.size)⟩
/-! ### STEP 1: THE WALK: the Go text returns true, AND WRITES NOTHING THAT WAS THERE: 'Below w.heap.size w w'' (Derived/Below.lean: '.refl', '.alloc', '.drew', '.setCell' at a new block, '.trans'). Open each 'IsRow' by 'rcases' AHEAD of 'go_enter'; part every test ahead of the walk. -/
theorem walk (a0 : Option Addr) (len0 cap0 : Nat) (z0 : List Int) (a1 : Int) (w : World) (w0 : IsRow .u8 w a0 len0 cap0 z0) (w1 : (Lit.int .u8 a1).wf = true) :
    Calls Try.prog 7 #[.slice a0 len0 cap0, .int .u8 a1] w fun e w' => e = .returned (.bool true) ∧ Below w.heap.size w w' := by
  obtain ⟨l, hl, hB, hn, hcap, hsh⟩ := row_bts w0
  have hr : 0 ≤ a1 ∧ a1 < 256 := by simp [Lit.wf, IntKind.min, IntKind.max, IntKind.bits, IntKind.signed] at w1; omega
  obtain ⟨n, rfl⟩ : ∃ n : Nat, a1 = (n : Int) := ⟨a1.toNat, by omega⟩
  exact walk7 a0 len0 cap0 l n w hB (by omega)

/-! ### THE ROW's STEP: WRITTEN OUT: LEAVE IT -/
set_option maxRecDepth 100000 in
theorem lifted (os : Os) (started : os.Started) (H : Type) (enc : TypeId × Value → H) :
    ReturnsInHanded {} Try.checked os 7 .any (Rows.crcNoughtsSpec.pre6 enc Try.prog Try.f7 Rows.crcNoughtsRow.domain false) (Rows.crcNoughtsSpec.post enc Try.prog Try.f7 false true false false) := by
  refine returnsInHanded_of_change (C := Try.checked) own started (by kernel_rfl) Try.func7
    (ChangeSpec.witness6 (enc := enc) (C := Try.checked) false ⟨#[], #[.slice none 0 0, .int .u8 0], []⟩ 8 (by kernel_rfl) (by kernel_rfl) (by kernel_rfl) (by kernel_rfl)) ?_
  intro W base args ds gs before hval0 hW hcnd _
  have hval : ∀ (j : Nat) t v, Try.f7.params[j]? = some t → args[j]? = some v → Value.okWide Try.prog W .any base t v := hval0
  have hW' := hW
  obtain ⟨p, q, hA0, hV, rfl, hfz, hnd⟩ := hW
  have hA : DataW.TrodAll enc Try.prog W 0 (fun _ => true) true Try.f7.params.toList args.toList ds p := hA0
  rw [Try.params7] at hA hval
  obtain ⟨v0, vs0, d0, ds0, p0, q0, hargs, rfl, rfl, h0, r0⟩ := trodAll_cons hA
  obtain ⟨v1, vs1, d1, ds1, p1, q1, rfl, rfl, rfl, h1, r1⟩ := trodAll_cons r0
  obtain ⟨rfl, rfl, rfl⟩ := trodAll_nil r1
  obtain rfl : args = #[v0, v1] := by cases args; simp_all
  obtain ⟨rfl, rfl⟩ := trodVars_none hV
  obtain ⟨a0, len0, cap0, rfl⟩ := okWide_slice Try.underlying22 (hval 0 22 v0 rfl rfl)
  have k0 := h0
  have lt0 : ∀ x ∈ p0, x.block < W.heap.size := by obtain ⟨m, hm⟩ := k0; exact DataW.trod_lt m _ _ _ hm
  obtain ⟨z0, w0⟩ : ∃ zs, IsRow .u8 W a0 len0 cap0 zs := by
    obtain ⟨fuel, hf⟩ := h0
    rcases open_ints Try.underlying22 Try.underlying5 (by kernel_rfl) hf with ⟨hcs, _⟩ | ⟨x, l, c, zs, hcs, _, hl, hm, hz, _, hcell, hwz⟩
    · simp [Value.cells] at hcs
      obtain ⟨rfl, rfl, rfl⟩ := hcs
      exact ⟨[], .inl ⟨rfl, rfl, rfl, rfl⟩⟩
    · simp [Value.cells] at hcs
      obtain ⟨rfl, rfl, rfl⟩ := hcs
      exact ⟨zs, .inr ⟨_, rfl, hl, hm, by simpa using hz, hcell, hwz⟩⟩
  obtain ⟨a1, rfl, rfl, rfl, w1⟩ := open_int Try.underlying5 (hval 1 5 v1 rfl rfl) h1
  clear hA0 hval0
  refine (walk a0 len0 cap0 z0 a1 W w0 w1).mono fun e W' ⟨he, bel⟩ => ?_
  subst he
  exact ⟨_, rfl, _, _, _, [], _, [], hW', trodAll_mk1 (shut_bool Try.underlying4 _), (trodAll_cons_mk (Below.trod laidOut (by kernel_rfl) (of_decide_eq_true (by kernel_rfl)) k0 bel lt0) (trodAll_cons_mk (shut_int Try.underlying5 w1) trodAll_mk0)), rfl, bel.frame _, fun h => by cases h⟩

theorem over : Rows.crcNoughtsRow.holds Try.pinned (OpenSpec.ofChange Rows.crcNoughtsSpec) :=
  OpenClaim.holds_of_wide 7 Try.f7 rfl rfl rfl rfl rfl rfl rfl ⟨rfl, rfl, rfl, rfl, rfl⟩ rfl rfl rfl rfl rfl (by kernel_rfl) Try.func7 (by kernel_rfl)
    (of_decide_eq_true (by kernel_rfl)) (by unfold Func.isWrapper; first | (rw [if_pos (by decide +kernel)]; kernel_rfl) | (rw [if_neg (by decide +kernel)]; exact ⟨rfl, rfl⟩))
    (fun os started H enc _ => lifted os started H enc)

/-- ████ THE STATEMENT ████ -/
theorem proved : Rows.CrcNoughtsSaid := over
#print axioms proved
end Go.Proofs.Ytlgammcbhgmpoaa.crcNoughts
