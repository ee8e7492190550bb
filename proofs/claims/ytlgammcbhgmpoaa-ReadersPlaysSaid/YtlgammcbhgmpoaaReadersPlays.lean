/- The statement ReadersPlays: whoever begins, ends, is declared dead and cleared, what is told is the document's, step by step; for every input. -/
import Derived.Test.YtlgammcbhgmpoaaRows
import Derived.WalkKit
import Derived.ProofKit
import Derived.OpenShut
import Derived.ShutString
import Derived.ChangeOld
import Derived.ChangeSame
import Derived.Below
import Derived.Deep.Slices
import Derived.Deep.Fields
import Derived.Test.YtlgammcbhgmpoaaRdX
namespace Go.Proofs.Ytlgammcbhgmpoaa.readersPlays
open Go.ChangeShapes Go.WideShapes Go.ChangeAt Go.RowKit Go.Deep
set_option linter.unusedVariables false

theorem own : ownKnob Try.prog.godebug = none := by kernel_rfl
theorem laidOut : laidOutB Try.prog = true := by kernel_rfl
theorem wf_nat (n : Int) (h : (Lit.int .u64 n).wf = true) : ∃ x : Nat, n = (x : Int) ∧ x < 18446744073709551616 := by
  simp [Lit.wf, IntKind.min, IntKind.max, IntKind.bits, IntKind.signed] at h
  exact ⟨n.toNat, by omega, by omega⟩

section
variable {H : Type} {enc : TypeId × Value → H} {P : Program} {w : World} {base : Nat} {spare : Nat → Bool} {held : Bool}
theorem open_slice_fields {t e : TypeId} {fs : Array Field} {fuel : Nat} {cs : List Value} {x : DataW H × List MemPlace} (ht : P.underlying t = some (.slice e)) (he : P.underlying e = some (.struct fs))
    (hone : oneCellFields P fs = true) (hC : P.cellsOf e = fs.size) (h : DataW.trod enc P w base spare held fuel t cs = some x) :
    (cs = [.slice none 0 0] ∧ x = (.nil, [])) ∨
    ∃ (a : Addr) (len cap m : Nat) (D : Nat → DataW H) (Pl : Nat → List MemPlace), cs = [.slice (some a) len cap] ∧ base ≤ a.block ∧ len ≤ cap ∧ cap ≤ maxLen ∧ m = (if spare a.block then cap else len) ∧
      x = (.slice ((List.range len).map D) ((List.range (m - len)).map fun j => D (len + j)), MemPlace.row a (m * fs.size) ++ (List.range m).flatMap Pl) ∧
      ∀ i, i < m → ∃ (ys : List (DataW H × List MemPlace)) (n : Nat), D i = .agg (ys.map (·.1)) ∧ Pl i = ys.flatMap (·.2) ∧ ys.length = fs.size ∧
        ∀ (j : Nat) (f : Field), fs[j]? = some f → ∃ (v : Value) (y : DataW H × List MemPlace), w.cell? (a.add (i * fs.size + j)) = some v ∧ ys[j]? = some y ∧ DataW.trod enc P w base spare held n f.type [v] = some y := by
  rcases open_slice ht h with h0 | ⟨a, len, cap, m, n, D, Pl, hcs, hb, hl, hm, hmm, hx, hi⟩
  · exact .inl h0
  · refine .inr ⟨a, len, cap, m, D, Pl, hcs, hb, hl, hm, hmm, by rw [hC] at hx; exact hx, fun i him => ?_⟩
    obtain ⟨cs', hc, ht'⟩ := hi i him
    rw [hC] at hc
    obtain ⟨ys, n', hn', hy, hlen, hyl, hf⟩ := DataW.trod_struct he ht'
    obtain ⟨_, hcl, hat⟩ := World.cells?_some hc
    simp only [Prod.mk.injEq] at hy
    refine ⟨ys, n', hy.1, hy.2, hyl, fun j f hj => ?_⟩
    obtain ⟨ho, hk⟩ := hone_of hone j f hj
    have hjl : j < fs.size := (Array.getElem?_eq_some_iff.1 hj).1
    have hcell := hat j hjl
    have hv : cs'[j]? = some (cs'[j]'(by omega)) := List.getElem?_eq_getElem (by omega)
    have h1 := hf j f hj
    rw [ho, hk] at h1
    have hone' : (cs'.drop j).take 1 = [cs'[j]'(by omega)] := by
      rw [List.drop_eq_getElem_cons (by omega)]
      rfl
    rw [hone'] at h1
    have hys : ys[j]? = some (ys[j]'(by omega)) := List.getElem?_eq_getElem (by omega)
    refine ⟨_, _, ?_, hys, h1.trans hys⟩
    rw [← Go.Deep.add_add, hcell, hv]
end

theorem acts_of {H : Type} {enc : TypeId × Value → H} {w : World} {base fuel : Nat} {held : Bool} {cs : List Value} {x : DataW H × List MemPlace} (h : DataW.trod enc Try.prog w base (fun _ => true) held fuel 34 cs = some x) :
    ∃ (a : Option Addr) (len cap : Nat) (K A : Nat → Int) (X T : Nat → Nat), cs = [.slice a len cap] ∧ Acts w a len K A X T ∧ (∀ i, X i < 18446744073709551616) ∧ ∀ i, T i < 18446744073709551616 := by
  rcases open_slice_fields Try.underlying34 Try.underlying45 (by kernel_rfl) (by kernel_rfl) h with ⟨rfl, _⟩ | ⟨a, len, cap, m, D, Pl, rfl, hb, hl, hm, hmm, _, hi⟩
  · exact ⟨none, 0, 0, fun _ => 0, fun _ => 0, fun _ => 0, fun _ => 0, rfl, fun i hi => absurd hi (Nat.not_lt_zero _), fun _ => Nat.zero_lt_succ _, fun _ => Nat.zero_lt_succ _⟩
  · have hmc : m = cap := by simpa using hmm
    subst hmc
    have hall : ∀ i : Nat, ∃ q : Int × Int × Nat × Nat, (i < m → w.cell? (a.add (i * 4 + 0)) = some (.int .i64 q.1) ∧ w.cell? (a.add (i * 4 + 1)) = some (.int .i64 q.2.1) ∧ w.cell? (a.add (i * 4 + 2)) = some (.int .u64 (q.2.2.1 : Int)) ∧ w.cell? (a.add (i * 4 + 3)) = some (.int .u64 (q.2.2.2 : Int))) ∧ q.2.2.1 < 18446744073709551616 ∧ q.2.2.2 < 18446744073709551616 := by
      intro i
      by_cases him : i < m
      · obtain ⟨ys, n, _, _, _, hf⟩ := hi i him
        obtain ⟨v0, y0, c0, _, t0⟩ := hf 0 _ rfl
        obtain ⟨v1, y1, c1, _, t1⟩ := hf 1 _ rfl
        obtain ⟨v2, y2, c2, _, t2⟩ := hf 2 _ rfl
        obtain ⟨v3, y3, c3, _, t3⟩ := hf 3 _ rfl
        obtain ⟨n0, e0, _, _⟩ := DataW.trod_int Try.underlying3 t0
        obtain ⟨n1, e1, _, _⟩ := DataW.trod_int Try.underlying3 t1
        obtain ⟨n2, e2, _, w2⟩ := DataW.trod_int Try.underlying43 t2
        obtain ⟨n3, e3, _, w3⟩ := DataW.trod_int Try.underlying43 t3
        obtain ⟨x2, rfl, h2⟩ := wf_nat _ w2
        obtain ⟨x3, rfl, h3⟩ := wf_nat _ w3
        injection e0 with e0 _
        injection e1 with e1 _
        injection e2 with e2 _
        injection e3 with e3 _
        subst e0 e1 e2 e3
        exact ⟨(n0, n1, x2, x3), fun _ => ⟨c0, c1, c2, c3⟩, h2, h3⟩
      · exact ⟨(0, 0, 0, 0), fun h => absurd h him, by decide, by decide⟩
    obtain ⟨f, hf⟩ := Classical.axiomOfChoice hall
    refine ⟨some a, len, m, fun i => (f i).1, fun i => (f i).2.1, fun i => (f i).2.2.1, fun i => (f i).2.2.2, rfl, fun i hil => ?_, fun i => (hf i).2.1, fun i => (hf i).2.2⟩
    obtain ⟨c0, c1, c2, c3⟩ := (hf i).1 (by omega)
    obtain ⟨b, off, spot⟩ := a
    have hspot : spot = none := by simpa [Addr.add] using World.cell?_spot ((hf 0).1 (by omega)).1
    subst hspot
    rw [add_at9] at c0 c1 c2 c3
    exact ⟨b, off, rfl, World.block_lt_of_cell? w _ c0, c0, c1, c2, c3⟩

/-- THE WALK, for every number of slots -/
theorem walk (a0 : Int) (a1 : Option Addr) (len1 cap1 : Nat) (K A : Nat → Int) (X T : Nat → Nat) (w : World) (hA : Acts w a1 len1 K A X T) (hX : ∀ i, X i < 18446744073709551616) (hT : ∀ i, T i < 18446744073709551616) :
    Calls Try.prog 8 #[.int .i64 a0, .slice a1 len1 cap1] w fun e w' => e = .returned (.bool true) ∧ Below w.heap.size w w' := by
  by_cases h : a0 < 1 ∨ 126 < a0
  · exact walk8_nil a0 a1 len1 cap1 w h
  · exact walk8_tb a0.toNat a0 a1 len1 cap1 K A X T w (by omega) (by omega) (by omega) hA hX hT

/-! ### THE ROW's STEP: WRITTEN OUT: LEAVE IT -/
set_option maxRecDepth 100000 in
theorem lifted (os : Os) (started : os.Started) (H : Type) (enc : TypeId × Value → H) :
    ReturnsInHanded {} Try.checked os 8 .any (Rows.readersPlaysSpec.pre6 enc Try.prog Try.f8 Rows.readersPlaysRow.domain false) (Rows.readersPlaysSpec.post enc Try.prog Try.f8 false true false false) := by
  refine returnsInHanded_of_change (C := Try.checked) own started (by kernel_rfl) Try.func8
    (ChangeSpec.witness6 (enc := enc) (C := Try.checked) false ⟨#[], #[.int .i64 0, .slice none 0 0], []⟩ 8 (by kernel_rfl) (by kernel_rfl) (by kernel_rfl) (by kernel_rfl)) ?_
  intro W base args ds gs before hval0 hW hcnd _
  have hval : ∀ (j : Nat) t v, Try.f8.params[j]? = some t → args[j]? = some v → Value.okWide Try.prog W .any base t v := hval0
  have hW' := hW
  obtain ⟨p, q, hA0, hV, rfl, hfz, hnd⟩ := hW
  have hA : DataW.TrodAll enc Try.prog W 0 (fun _ => true) true Try.f8.params.toList args.toList ds p := hA0
  rw [Try.params8] at hA hval
  obtain ⟨v0, vs0, d0, ds0, p0, q0, hargs, rfl, rfl, h0, r0⟩ := trodAll_cons hA
  obtain ⟨v1, vs1, d1, ds1, p1, q1, rfl, rfl, rfl, h1, r1⟩ := trodAll_cons r0
  obtain ⟨rfl, rfl, rfl⟩ := trodAll_nil r1
  obtain rfl : args = #[v0, v1] := by cases args; simp_all
  obtain ⟨rfl, rfl⟩ := trodVars_none hV
  obtain ⟨a0, rfl, rfl, rfl, w0⟩ := open_int Try.underlying3 (hval 0 3 v0 rfl rfl) h0
  obtain ⟨a1, len1, cap1, rfl⟩ := okWide_slice Try.underlying34 (hval 1 34 v1 rfl rfl)
  have k1 := h1
  have lt1 : ∀ x ∈ p1, x.block < W.heap.size := by obtain ⟨m, hm⟩ := k1; exact DataW.trod_lt m _ _ _ hm
  obtain ⟨K, A, X, T, hA1, hX, hT⟩ : ∃ (K A : Nat → Int) (X T : Nat → Nat), Acts W a1 len1 K A X T ∧ (∀ i, X i < 18446744073709551616) ∧ ∀ i, T i < 18446744073709551616 := by
    obtain ⟨fuel, hf⟩ := h1
    obtain ⟨a, len, cap, K, A, X, T, hcs, r⟩ := acts_of hf
    simp [Value.cells] at hcs
    obtain ⟨rfl, rfl, rfl⟩ := hcs
    exact ⟨K, A, X, T, r⟩
  clear hA0 hval0
  refine (walk a0 a1 len1 cap1 K A X T W hA1 hX hT).mono fun e W' ⟨he, bel⟩ => ?_
  subst he
  exact ⟨_, rfl, _, _, _, [], _, [], hW', trodAll_mk1 (shut_bool Try.underlying4 _), (trodAll_cons_mk (shut_int Try.underlying3 w0) (trodAll_cons_mk (Below.trod laidOut (by kernel_rfl) (of_decide_eq_true (by kernel_rfl)) k1 bel lt1) trodAll_mk0)), rfl, bel.frame _, fun h => by cases h⟩

theorem over : Rows.readersPlaysRow.holds Try.pinned (OpenSpec.ofChange Rows.readersPlaysSpec) :=
  OpenClaim.holds_of_wide 8 Try.f8 rfl rfl rfl rfl rfl rfl rfl ⟨rfl, rfl, rfl, rfl, rfl⟩ rfl rfl rfl rfl rfl (by kernel_rfl) Try.func8 (by kernel_rfl)
    (of_decide_eq_true (by kernel_rfl)) (by unfold Func.isWrapper; first | (rw [if_pos (by decide +kernel)]; kernel_rfl) | (rw [if_neg (by decide +kernel)]; exact ⟨rfl, rfl⟩))
    (fun os started H enc _ => lifted os started H enc)

/-- ████ THE STATEMENT ████ -/
theorem proved : Rows.ReadersPlaysSaid := over
#print axioms proved
end Go.Proofs.Ytlgammcbhgmpoaa.readersPlays
