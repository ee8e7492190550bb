/- The statement CrcLinear: of three rows of one length the sum of all three, xor one another, is the sums, xor one another; for every input. -/
import Derived.Test.YtlgammcbhgmpoaaRows
import Derived.WalkKit
import Derived.ProofKit
import Derived.OpenShut
import Derived.ShutString
import Derived.ChangeOld
import Derived.Below
import Derived.Test.YtlgammcbhgmpoaaCrcL
import Derived.Test.YtlgammcbhgmpoaaCrcPm
import Derived.Deep.OwnRows
import Derived.RegionTactic
import Derived.Test.YtlgammcbhgmpoaaRg
namespace Go.Proofs.Ytlgammcbhgmpoaa.crcLinear
open Go.ChangeShapes Go.WideShapes Go.ChangeAt Go.RowKit
open Go.ChangeMaps (open_string shut_string)
set_option linter.unusedVariables false

theorem own : ownKnob Try.prog.godebug = none := by kernel_rfl
theorem laidOut : laidOutB Try.prog = true := by kernel_rfl

/-- WHAT THE WALK IS TOLD OF A SLICE OF INTEGERS THAT CAME IN: it is nil; or it leads to a row of 'cap' cells, the numbers 'zs' (the first 'len' are its elements, the rest its spare room), each fitting its kind. -/
def IsRow (k : IntKind) (w : World) (a : Option Addr) (len cap : Nat) (zs : List Int) : Prop :=
  (a = none ∧ len = 0 ∧ cap = 0 ∧ zs = []) ∨
  ∃ x, a = some x ∧ len ≤ cap ∧ cap ≤ maxLen ∧ zs.length = cap ∧ (∀ i, i < zs.length → w.cell? (x.add i) = some (.int k (zs.getD i 0))) ∧ ∀ n ∈ zs, (Lit.int k n).wf = true

theorem crc_run (ls : List (List Nat)) : crc ls = (~~~ Crcp.run ls.flatten (BitVec.allOnes 32)).toNat := rfl
theorem crc_lt (ls : List (List Nat)) : crc ls < 4294967296 := (~~~ Crcp.run ls.flatten (BitVec.allOnes 32)).isLt
theorem lin3 (a b c : List Nat) (h1 : a.length = b.length) (h2 : a.length = c.length) : crc [Crcp.xors (Crcp.xors a b) c] = crc [a] ^^^ crc [b] ^^^ crc [c] := by
  simp only [crc_run, List.flatten_cons, List.flatten_nil, List.append_nil]
  have e := Crcp.run_xors (Crcp.xors a b) c (by simp [Crcp.xors]; omega) (BitVec.allOnes 32 ^^^ BitVec.allOnes 32) (BitVec.allOnes 32)
  rw [Crcp.run_xors a b h1] at e
  have z : BitVec.allOnes 32 ^^^ BitVec.allOnes 32 ^^^ BitVec.allOnes 32 = BitVec.allOnes 32 := by decide
  rw [z] at e
  rw [e, ← BitVec.toNat_xor, ← BitVec.toNat_xor]
  congr 1
  generalize Crcp.run a (BitVec.allOnes 32) = x
  generalize Crcp.run b (BitVec.allOnes 32) = y
  generalize Crcp.run c (BitVec.allOnes 32) = t
  apply BitVec.eq_of_getLsbD_eq
  intro i hi
  simp only [BitVec.getLsbD_xor, BitVec.getLsbD_not]
  cases x.getLsbD i <;> cases y.getLsbD i <;> cases t.getLsbD i <;> simp [hi]
def x3 (a b c : List Nat) (j : Nat) : Nat := a.getD j 0 ^^^ b.getD j 0 ^^^ c.getD j 0
def dA (a b c : List Nat) (n i : Nat) : Array Value := ((List.range n).map fun j => if j < i then Value.int .u8 (x3 a b c j : Int) else Value.int .u8 0).toArray
theorem dA_size (a b c : List Nat) (n i : Nat) : (dA a b c n i).size = n := by simp [dA]
theorem dA_at (a b c : List Nat) (n i : Nat) (h : i < n) : (dA a b c n i)[i]? = some (.int .u8 0) := by unfold dA; simp [h]
theorem dA_set (a b c : List Nat) (n i : Nat) : (dA a b c n i).setIfInBounds i (.int .u8 (x3 a b c i : Int)) = dA a b c n (i + 1) := by
  apply Array.ext
  · simp [dA]
  · intro k h1 h2
    rw [Array.getElem_setIfInBounds (by rw [dA_size]; simpa [dA_size] using h2)]
    simp only [dA, List.getElem_toArray, List.getElem_map, List.getElem_range]
    by_cases e : i = k
    · subst e; simp
    · simp only [e, if_false]
      by_cases hi : k < i
      · simp [hi, show k < i + 1 from by omega]
      · simp [hi, show ¬ k < i + 1 from by omega]
theorem made_zero (n : Nat) (z : Value) : madeCells #[z] n = (List.replicate n z).toArray := by
  unfold madeCells
  apply Array.ext
  · simp
  · intro i h1 h2
    simp [Nat.mod_one]
theorem dA_zero (a b c : List Nat) (n : Nat) : madeCells #[Value.int .u8 0] n = dA a b c n 0 := by
  rw [made_zero]
  apply Array.ext
  · simp [dA]
  · intro k h1 h2
    simp [dA]
def dl (a b c : List Nat) (n : Nat) : List Nat := (List.range n).map (x3 a b c)
theorem dA_full (a b c : List Nat) (n : Nat) : dA a b c n n = ((dl a b c n).map fun (x : Nat) => Value.int .u8 (x : Int)).toArray := by
  apply Array.ext
  · simp [dA, dl]
  · intro k h1 h2
    have : k < n := by simpa [dA] using h1
    simp [dA, dl, this]
theorem dl_xors (a b c : List Nat) (n : Nat) (h1 : n ≤ a.length) (h2 : n ≤ b.length) (h3 : n ≤ c.length) : dl a b c n = Crcp.xors (Crcp.xors (a.take n) (b.take n)) (c.take n) := by
  apply List.ext_getElem
  · simp [dl, Crcp.xors]; omega
  · intro i g1 g2
    have : i < n := by simpa [dl] using g1
    simp [dl, Crcp.xors, x3, List.getElem?_eq_getElem (show i < a.length by omega), List.getElem?_eq_getElem (show i < b.length by omega), List.getElem?_eq_getElem (show i < c.length by omega)]
theorem xor_256 {a b : Nat} (h : a < 256) (k : b < 256) : a ^^^ b < 256 := Nat.xor_lt_two_pow (n := 8) h k
theorem getD_256 {l : List Nat} (h : ∀ x ∈ l, x < 256) (i : Nat) : l.getD i 0 < 256 := by
  rw [List.getD_eq_getElem?_getD]
  rcases Nat.lt_or_ge i l.length with g | g
  · rw [List.getElem?_eq_getElem g]; exact h _ (List.getElem_mem _)
  · rw [List.getElem?_eq_none g]; simp
theorem dl_256 (a b c : List Nat) (n : Nat) (h1 : ∀ x ∈ a, x < 256) (h2 : ∀ x ∈ b, x < 256) (h3 : ∀ x ∈ c, x < 256) : ∀ x ∈ dl a b c n, x < 256 := by
  intro x hx
  obtain ⟨j, _, rfl⟩ := List.mem_map.1 hx
  exact xor_256 (xor_256 (getD_256 h1 j) (getD_256 h2 j)) (getD_256 h3 j)
theorem free_blk {w : World} {B i : Nat} {A : Array Value} {T : TypeId} (h : w.heap[B]? = some (.cells A T (0, 0))) : w.frozen? ⟨B, i, none⟩ = false := by
  simp [World.frozen?, h]
theorem setCell_blk {w : World} {B i : Nat} {A : Array Value} {T : TypeId} {fr : Nat × Nat} (h : w.heap[B]? = some (.cells A T fr)) (v : Value) : (w.setCell ⟨B, i, none⟩ v).heap[B]? = some (.cells (A.setIfInBounds i v) T fr) := by
  simp [World.setCell, Array.getElem?_modify, h]
/-- the address of byte i of a slice that reads as l -/
theorem Bts.at {w : World} {a : Option Addr} {n cap : Nat} {l : List Nat} (h : Bts w (.slice a n cap) l) (i : Nat) (hi : i < n) :
    ∃ b off, a = some ⟨b, off, none⟩ ∧ b < w.heap.size ∧ w.cell? ⟨b, off + i, none⟩ = some (.int .u8 (l.getD i 0 : Nat)) := by
  have hl := h.len
  obtain ⟨h1, h2, a', cap', hv, h3, h4⟩ := h
  simp only [Value.slice.injEq] at hv
  obtain ⟨rfl, _, rfl⟩ := hv
  obtain ⟨b, off, rfl, hb, hc⟩ := h4 (by intro e; subst e; simp at hl; omega)
  exact ⟨b, off, rfl, hb, hc i (by omega)⟩
theorem Rws.below {w w' : World} {v : Value} {ls : List (List Nat)} (h : Rws w v ls) (hb : Below w.heap.size w w') : Rws w' v ls := by
  obtain ⟨h1, a, cap, rfl, h3, h4⟩ := h
  refine ⟨h1, a, cap, rfl, h3, fun hne => ?_⟩
  obtain ⟨b, off, rfl, hlt, hc⟩ := h4 hne
  refine ⟨b, off, rfl, by have := hb.size; omega, fun i hi => ?_⟩
  obtain ⟨u, hu, hu2⟩ := hc i hi
  exact ⟨u, by rw [hb.cell (p := ⟨b, off + i, Option.none⟩) hlt]; exact hu, hu2.below hb⟩
theorem run_pre (a : Option Addr) (n cap k : Nat) (sh : Shp a n cap) (hk : k ≤ n) (hn : n ≤ cap) : ∀ w, Sem.run Try.prog (Instr.slice 22 (.slice a n cap) none (some (.int .i64 (k : Int))) none) w = .ok (.slice a k cap) w := by
  intro w
  have f1 : (0 : Int) ≤ (k : Int) := by omega
  have f2 : (k : Int) ≤ (cap : Int) := by omega
  rcases sh with ⟨rfl, rfl, rfl⟩ | ⟨x, rfl, rfl, rfl⟩ | ⟨b, off, rfl, hpos⟩
  · obtain rfl : k = 0 := by omega
    go_simp
  · obtain rfl : k = 0 := by omega
    go_simp
  · go_simp
set_option maxRecDepth 100000 in
set_option maxHeartbeats 1000000 in
theorem walk5 (a0 : Option Addr) (n0 cap0 : Nat) (l0 : List Nat) (a1 : Option Addr) (n1 cap1 : Nat) (l1 : List Nat) (a2 : Option Addr) (n2 cap2 : Nat) (l2 : List Nat) (w : World)
    (h0 : Bts w (.slice a0 n0 cap0) l0) (h1 : Bts w (.slice a1 n1 cap1) l1) (h2 : Bts w (.slice a2 n2 cap2) l2)
    (c0 : n0 ≤ cap0) (c1 : n1 ≤ cap1) (c2 : n2 ≤ cap2) (s0 : Shp a0 n0 cap0) (s1 : Shp a1 n1 cap1) (s2 : Shp a2 n2 cap2) :
    Calls Try.prog 5 #[.slice a0 n0 cap0, .slice a1 n1 cap1, .slice a2 n2 cap2] w fun e w' => e = .returned (.bool true) ∧ Below w.heap.size w w' := by
  have H0 := Lib.hid h0
  have H1 := Lib.hid h1
  have H2 := Lib.hid h2
  clear h0 h1 h2
  obtain ⟨n, hn⟩ : ∃ n, n = min n0 (min n1 n2) := ⟨_, rfl⟩
  have hmin : ∀ ts t w, Sem.run Try.prog (Builtin.min_ ts t #[.int .i64 (n0 : Int), .int .i64 (n1 : Int), .int .i64 (n2 : Int)]) w = .ok (.int .i64 (n : Int)) w := by
    intro ts t w
    rw [run_min_int3]
    congr 2
    split <;> split at * <;> omega
  have g0 : n ≤ n0 := by omega
  have g1 : n ≤ n1 := by omega
  have g2 : n ≤ n2 := by omega
  clear hn
  by_cases h3 : 300 < n
  · have h3I : decide ((300 : Int) < n) = true := by simp; omega
    go_enter Try.func5, Try.ntmps5
    go_wp2_with (go_at_call 13; refine (awake_any _).mono ?_; rintro e w1 ⟨rfl, hb⟩)
    go_ret
    exact ⟨rfl, hb⟩
  · have h3I : decide ((300 : Int) < n) = false := by simp; omega
    have hmk := fun w => run_make_row' (P := Try.prog) 22 5 (.int .u8 0) 1 Try.underlying22 (by kernel_rfl) rfl .i64 .i64 n (by omega) (by omega) w
    have G := Lib.hid (And.intro g0 (And.intro g1 g2))
    have G3 : Hid (n ≤ 300) := Lib.hid (by omega)
    clear h3 g0 g1 g2
    go_enter Try.func5, Try.ntmps5
    go_wp2_with (go_at_call 13; refine (awake_any _).mono ?_; rintro e w1 ⟨rfl, hb⟩)
    have HBW := Lib.hid hb
    clear hb h3I hmin hmk
    go_loopw [10] (fun i wr => ∃ k : Nat, k ≤ n ∧ i = .int .i64 k ∧ Below w1.heap.size w1 wr ∧ wr.heap[w1.heap.size]? = some (.cells (dA l0 l1 l2 n k) 5 (0, 0))) (fun i _ => n - (intOf i).toNat)
    case atStart => exact ⟨0, Nat.zero_le _, rfl, (Below.refl _ _).alloc (Nat.le_refl _) _, by rw [← dA_zero]; exact blk1 _ _⟩
    case round =>
      obtain ⟨k, hk, rfl, hb, hblk⟩ := hrel
      have HB := Lib.hid hb
      have HBLK := Lib.hid hblk
      clear hb hblk
      by_cases hkn : k < n
      · obtain ⟨b0, o0, rfl, hb0, hc0⟩ := Bts.at H0.out k (by have := G.out; omega)
        obtain ⟨b1, o1, rfl, hb1, hc1⟩ := Bts.at H1.out k (by have := G.out; omega)
        obtain ⟨b2, o2, rfl, hb2, hc2⟩ := Bts.at H2.out k (by have := G.out; omega)
        have HBR := Lib.hid (HBW.out.trans (HB.out.mono HBW.out.size))
        have x0 := getD_256 H0.out.2.1 k
        have x1 := getD_256 H1.out.2.1 k
        have x2 := getD_256 H2.out.2.1 k
        have e1 := u8_xor_nat _ _ x0 x1
        have e2 := u8_xor_nat _ _ (xor_256 x0 x1) x2
        have hd : l0.getD k 0 ^^^ l1.getD k 0 ^^^ l2.getD k 0 = x3 l0 l1 l2 k := rfl
        generalize l0.getD k 0 = y0 at *
        generalize l1.getD k 0 = y1 at *
        generalize l2.getD k 0 = y2 at *
        generalize y0 ^^^ y1 = y01 at *
        generalize y01 ^^^ y2 = y012 at *
        have HD := Lib.hid hd
        have f0 := (HBR.out.cell (p := ⟨b0, o0 + k, none⟩) hb0).trans hc0
        have f1 := (HBR.out.cell (p := ⟨b1, o1 + k, none⟩) hb1).trans hc1
        have f2 := (HBR.out.cell (p := ⟨b2, o2 + k, none⟩) hb2).trans hc2
        have fd : wr.cell? ⟨w1.heap.size, k, none⟩ = some (.int .u8 0) := by rw [cell_of_row _ _ _ _ _ _ HBLK.out]; exact dA_at _ _ _ _ _ hkn
        have ff : wr.frozen? ⟨w1.heap.size, k, none⟩ = false := free_blk HBLK.out
        have q0 : (k : Int) < (n0 : Int) := by have := G.out; omega
        have q1 : (k : Int) < (n1 : Int) := by have := G.out; omega
        have q2 : (k : Int) < (n2 : Int) := by have := G.out; omega
        have kb : (k : Int) < 400 := by have := G3.out; omega
        have p0 : k < n0 := by omega
        have p1 : k < n1 := by omega
        have p2 : k < n2 := by omega
        clear hc0 hc1 hc2 hd x0 x1 x2
        go_wp2
        go_region
        go_wp2
        go_roundw
        case rel => exact ⟨k + 1, by omega, by go_num, (HB.out.setCell (Nat.le_refl _) _).drew, by
          have := setCell_blk (i := k) HBLK.out (.int .u8 (y012 : Int))
          rw [HD.out, dA_set] at this
          rw [HD.out]
          exact this⟩
        case measure => simp [intOf]; omega
      · obtain rfl : k = n := by omega
        have hcr := lin3 (l0.take k) (l1.take k) (l2.take k) (by simp; have := H0.out.len; have := H1.out.len; have := G.out; omega) (by simp; have := H0.out.len; have := H2.out.len; have := G.out; omega)
        rw [← dl_xors l0 l1 l2 k (by have := H0.out.len; have := G.out; omega) (by have := H1.out.len; have := G.out; omega) (by have := H2.out.len; have := G.out; omega)] at hcr
        obtain ⟨r0, hr0⟩ : ∃ r, crc [l0.take k] = r := ⟨_, rfl⟩
        obtain ⟨r1, hr1⟩ : ∃ r, crc [l1.take k] = r := ⟨_, rfl⟩
        obtain ⟨r2, hr2⟩ : ∃ r, crc [l2.take k] = r := ⟨_, rfl⟩
        have b0 := crc_lt [l0.take k]
        have b1 := crc_lt [l1.take k]
        have b2 := crc_lt [l2.take k]
        rw [hr0] at b0 hcr
        rw [hr1] at b1 hcr
        rw [hr2] at b2 hcr
        have e1 := u32_xor_nat _ _ b0 b1
        have b01 : r0 ^^^ r1 < 4294967296 := Nat.xor_lt_two_pow (n := 32) b0 b1
        have e2 := u32_xor_nat _ _ b01 b2
        generalize r0 ^^^ r1 = r01 at *
        generalize r01 ^^^ r2 = r012 at *
        have HD0 : Hid (Bts wr (.slice (some ⟨w1.heap.size, 0, none⟩) k k) (dl l0 l1 l2 k)) :=
          Bts.lit _ HBLK.out (dA_full l0 l1 l2 k) (dl_256 _ _ _ _ H0.out.2.1 H1.out.2.1 H2.out.2.1) (by have := G3.out; simp [dl, maxLen]; omega) k (by simp [dl])
        have HBR := Lib.hid (HBW.out.trans (HB.out.mono HBW.out.size))
        have HT0 := Lib.hid ((H0.out.below HBR.out).take k G.out.1)
        have HT1 := Lib.hid ((H1.out.below HBR.out).take k G.out.2.1)
        have HT2 := Lib.hid ((H2.out.below HBR.out).take k G.out.2.2)
        have HR := Lib.hid hcr
        have HR0 := Lib.hid hr0
        have HR1 := Lib.hid hr1
        have HR2 := Lib.hid hr2
        have k0 : (0 : Int) ≤ (k : Int) := by omega
        have k1 : (k : Int) ≤ (cap0 : Int) := by have := G.out; omega
        have k2 : (k : Int) ≤ (cap1 : Int) := by have := G.out; omega
        have k3 : (k : Int) ≤ (cap2 : Int) := by have := G.out; omega
        clear hcr hr0 hr1 hr2 b0 b1 b2 b01
        go_wp2_with fail
        have hs0 := run_pre a0 n0 cap0 k s0 G.out.1 c0
        have hs1 := run_pre a1 n1 cap1 k s1 G.out.2.1 c1
        have hs2 := run_pre a2 n2 cap2 k s2 G.out.2.2 c2
        have HDR : Hid (Below wr.heap.size wr wr.drew) := Lib.hid (Below.refl _ _).drew
        have HR12 := HR
        clear HR
        obtain ⟨Pr, hPr⟩ : ∃ Pr : Nat → Value → World → Prop, Pr = (fun j v wx => match j with
            | 0 => v = .slice (some ⟨w1.heap.size, 0, none⟩) k k
            | 1 => Rws wx v [dl l0 l1 l2 k]
            | 2 => v = .int .u32 (r012 : Int)
            | 3 => v = .slice a0 n0 cap0
            | 4 => v = .int .i64 (k : Int)
            | 5 => v = .slice a0 k cap0
            | 6 => Rws wx v [l0.take k]
            | 7 => v = .int .u32 (r0 : Int)
            | 8 => v = .slice a1 n1 cap1
            | 9 => v = .int .i64 (k : Int)
            | 10 => v = .slice a1 k cap1
            | 11 => Rws wx v [l1.take k]
            | 12 => v = .int .u32 (r1 : Int)
            | 13 => v = .int .u32 (r01 : Int)
            | 14 => v = .slice a2 n2 cap2
            | 15 => v = .int .i64 (k : Int)
            | 16 => v = .slice a2 k cap2
            | 17 => Rws wx v [l2.take k]
            | 18 => v = .int .u32 (r2 : Int)
            | 19 => v = .int .u32 (r012 : Int)
            | 20 => v = .bool true
            | 21 => v = .bool true
            | _ => True) := ⟨_, rfl⟩
        have T0 : Hid (Pr 0 = fun v wx => v = .slice (some ⟨w1.heap.size, 0, none⟩) k k) := Lib.hid ((congrFun hPr 0).trans rfl)
        have T1 : Hid (Pr 1 = fun v wx => Rws wx v [dl l0 l1 l2 k]) := Lib.hid ((congrFun hPr 1).trans rfl)
        have T2 : Hid (Pr 2 = fun v wx => v = .int .u32 (r012 : Int)) := Lib.hid ((congrFun hPr 2).trans rfl)
        have T3 : Hid (Pr 3 = fun v wx => v = .slice a0 n0 cap0) := Lib.hid ((congrFun hPr 3).trans rfl)
        have T4 : Hid (Pr 4 = fun v wx => v = .int .i64 (k : Int)) := Lib.hid ((congrFun hPr 4).trans rfl)
        have T5 : Hid (Pr 5 = fun v wx => v = .slice a0 k cap0) := Lib.hid ((congrFun hPr 5).trans rfl)
        have T6 : Hid (Pr 6 = fun v wx => Rws wx v [l0.take k]) := Lib.hid ((congrFun hPr 6).trans rfl)
        have T7 : Hid (Pr 7 = fun v wx => v = .int .u32 (r0 : Int)) := Lib.hid ((congrFun hPr 7).trans rfl)
        have T8 : Hid (Pr 8 = fun v wx => v = .slice a1 n1 cap1) := Lib.hid ((congrFun hPr 8).trans rfl)
        have T9 : Hid (Pr 9 = fun v wx => v = .int .i64 (k : Int)) := Lib.hid ((congrFun hPr 9).trans rfl)
        have T10 : Hid (Pr 10 = fun v wx => v = .slice a1 k cap1) := Lib.hid ((congrFun hPr 10).trans rfl)
        have T11 : Hid (Pr 11 = fun v wx => Rws wx v [l1.take k]) := Lib.hid ((congrFun hPr 11).trans rfl)
        have T12 : Hid (Pr 12 = fun v wx => v = .int .u32 (r1 : Int)) := Lib.hid ((congrFun hPr 12).trans rfl)
        have T13 : Hid (Pr 13 = fun v wx => v = .int .u32 (r01 : Int)) := Lib.hid ((congrFun hPr 13).trans rfl)
        have T14 : Hid (Pr 14 = fun v wx => v = .slice a2 n2 cap2) := Lib.hid ((congrFun hPr 14).trans rfl)
        have T15 : Hid (Pr 15 = fun v wx => v = .int .i64 (k : Int)) := Lib.hid ((congrFun hPr 15).trans rfl)
        have T16 : Hid (Pr 16 = fun v wx => v = .slice a2 k cap2) := Lib.hid ((congrFun hPr 16).trans rfl)
        have T17 : Hid (Pr 17 = fun v wx => Rws wx v [l2.take k]) := Lib.hid ((congrFun hPr 17).trans rfl)
        have T18 : Hid (Pr 18 = fun v wx => v = .int .u32 (r2 : Int)) := Lib.hid ((congrFun hPr 18).trans rfl)
        have T19 : Hid (Pr 19 = fun v wx => v = .int .u32 (r012 : Int)) := Lib.hid ((congrFun hPr 19).trans rfl)
        have T20 : Hid (Pr 20 = fun v wx => v = .bool true) := Lib.hid ((congrFun hPr 20).trans rfl)
        have T21 : Hid (Pr 21 = fun v wx => v = .bool true) := Lib.hid ((congrFun hPr 21).trans rfl)
        have HPr := Lib.hid hPr
        clear hPr
        refine wp_region_fill [47, 48, 49, 50, 51, 52, 53, 54, 55, 56, 57, 58, 59, 60, 61, 62, 63, 64, 65, 66, 67, 6] Pr (by kernel_rfl) (by kernel_rfl) (by kernel_rfl) ?_ ?_ ?_
        · intro j v wx wy h hb
          match j with
          | 0 => rw [T0.out] at h ⊢; exact h
          | 1 => rw [T1.out] at h ⊢; exact Rws.below h hb
          | 2 => rw [T2.out] at h ⊢; exact h
          | 3 => rw [T3.out] at h ⊢; exact h
          | 4 => rw [T4.out] at h ⊢; exact h
          | 5 => rw [T5.out] at h ⊢; exact h
          | 6 => rw [T6.out] at h ⊢; exact Rws.below h hb
          | 7 => rw [T7.out] at h ⊢; exact h
          | 8 => rw [T8.out] at h ⊢; exact h
          | 9 => rw [T9.out] at h ⊢; exact h
          | 10 => rw [T10.out] at h ⊢; exact h
          | 11 => rw [T11.out] at h ⊢; exact Rws.below h hb
          | 12 => rw [T12.out] at h ⊢; exact h
          | 13 => rw [T13.out] at h ⊢; exact h
          | 14 => rw [T14.out] at h ⊢; exact h
          | 15 => rw [T15.out] at h ⊢; exact h
          | 16 => rw [T16.out] at h ⊢; exact h
          | 17 => rw [T17.out] at h ⊢; exact Rws.below h hb
          | 18 => rw [T18.out] at h ⊢; exact h
          | 19 => rw [T19.out] at h ⊢; exact h
          | 20 => rw [T20.out] at h ⊢; exact h
          | 21 => rw [T21.out] at h ⊢; exact h
          | n + 22 => rw [HPr.out]; trivial
        · intro j o hj u wx hR hM
          have HR := Lib.hid hR
          clear hR
          match j, hj with
          | 0, hj =>
            simp only [List.getElem?_toArray, List.getElem?_cons_zero, List.getElem?_cons_succ, Option.some.injEq] at hj
            subst hj
            refine ⟨rfl, ?_⟩
            clear hM
            simp only [fill, List.foldl]
            go_simp
            refine ⟨Grow.refl _, .slice (some ⟨w1.heap.size, 0, none⟩) k k, ?_, by rw [T0.out]⟩
            simp only [fillA, fill, List.foldl, Act.put]; go_simp
          | 1, hj =>
            simp only [List.getElem?_toArray, List.getElem?_cons_zero, List.getElem?_cons_succ, Option.some.injEq] at hj
            subst hj
            have m47 := hM { on := 0, ground := Ground.data } (by simp) rfl _ 47 rfl rfl
            rw [T0.out] at m47
            have e47 : u 47 = .slice (some ⟨w1.heap.size, 0, none⟩) k k := m47
            clear m47
            refine ⟨rfl, ?_⟩
            clear hM
            simp only [fill, List.foldl]
            go_simp
            refine ⟨(Below.refl _ _).alloc (Nat.le_refl _) _, .slice (some ⟨wx.heap.size, 0, none⟩) 1 1, ?_, by rw [T1.out]; exact rws1 (HD0.out.below (HDR.out.trans (HR.out.mono HDR.out.size)))⟩
            simp only [fillA, fill, List.foldl, Act.put]; go_simp
          | 2, hj =>
            simp only [List.getElem?_toArray, List.getElem?_cons_zero, List.getElem?_cons_succ, Option.some.injEq] at hj
            subst hj
            have m48 := hM { on := 1, ground := Ground.data } (by simp) rfl _ 48 rfl rfl
            rw [T1.out] at m48
            have H48 := Lib.hid m48
            clear m48
            refine ⟨rfl, ?_⟩
            clear hM
            simp only [fill, List.foldl]
            go_simp
            refine (of_is _ [dl l0 l1 l2 k] (r012 : Int) _ (congrArg _ HR12.out) H48.out).mono ?_; rintro e wy ⟨rfl, hb⟩; refine ⟨hb, .int .u32 (r012 : Int), ?_, by rw [T2.out]⟩
            simp only [fillA, fill, List.foldl, Act.put]; go_simp
          | 3, hj =>
            simp only [List.getElem?_toArray, List.getElem?_cons_zero, List.getElem?_cons_succ, Option.some.injEq] at hj
            subst hj
            refine ⟨rfl, ?_⟩
            clear hM
            simp only [fill, List.foldl]
            go_simp
            refine ⟨Grow.refl _, .slice a0 n0 cap0, ?_, by rw [T3.out]⟩
            simp only [fillA, fill, List.foldl, Act.put]; go_simp
          | 4, hj =>
            simp only [List.getElem?_toArray, List.getElem?_cons_zero, List.getElem?_cons_succ, Option.some.injEq] at hj
            subst hj
            refine ⟨rfl, ?_⟩
            clear hM
            simp only [fill, List.foldl]
            go_simp
            refine ⟨Grow.refl _, .int .i64 (k : Int), ?_, by rw [T4.out]⟩
            simp only [fillA, fill, List.foldl, Act.put]; go_simp
          | 5, hj =>
            simp only [List.getElem?_toArray, List.getElem?_cons_zero, List.getElem?_cons_succ, Option.some.injEq] at hj
            subst hj
            have m50 := hM { on := 3, ground := Ground.data } (by simp) rfl _ 50 rfl rfl
            rw [T3.out] at m50
            have e50 : u 50 = .slice a0 n0 cap0 := m50
            clear m50
            have m51 := hM { on := 4, ground := Ground.data } (by simp) rfl _ 51 rfl rfl
            rw [T4.out] at m51
            have e51 : u 51 = .int .i64 (k : Int) := m51
            clear m51
            refine ⟨rfl, ?_⟩
            clear hM
            simp only [fill, List.foldl]
            go_simp
            refine ⟨Grow.refl _, .slice a0 k cap0, ?_, by rw [T5.out]⟩
            simp only [fillA, fill, List.foldl, Act.put]; go_simp
          | 6, hj =>
            simp only [List.getElem?_toArray, List.getElem?_cons_zero, List.getElem?_cons_succ, Option.some.injEq] at hj
            subst hj
            have m52 := hM { on := 5, ground := Ground.data } (by simp) rfl _ 52 rfl rfl
            rw [T5.out] at m52
            have e52 : u 52 = .slice a0 k cap0 := m52
            clear m52
            refine ⟨rfl, ?_⟩
            clear hM
            simp only [fill, List.foldl]
            go_simp
            refine ⟨(Below.refl _ _).alloc (Nat.le_refl _) _, .slice (some ⟨wx.heap.size, 0, none⟩) 1 1, ?_, by rw [T6.out]; exact rws1 (HT0.out.below (HDR.out.trans (HR.out.mono HDR.out.size)))⟩
            simp only [fillA, fill, List.foldl, Act.put]; go_simp
          | 7, hj =>
            simp only [List.getElem?_toArray, List.getElem?_cons_zero, List.getElem?_cons_succ, Option.some.injEq] at hj
            subst hj
            have m53 := hM { on := 6, ground := Ground.data } (by simp) rfl _ 53 rfl rfl
            rw [T6.out] at m53
            have H53 := Lib.hid m53
            clear m53
            refine ⟨rfl, ?_⟩
            clear hM
            simp only [fill, List.foldl]
            go_simp
            refine (of_is _ [l0.take k] (r0 : Int) _ (congrArg _ HR0.out) H53.out).mono ?_; rintro e wy ⟨rfl, hb⟩; refine ⟨hb, .int .u32 (r0 : Int), ?_, by rw [T7.out]⟩
            simp only [fillA, fill, List.foldl, Act.put]; go_simp
          | 8, hj =>
            simp only [List.getElem?_toArray, List.getElem?_cons_zero, List.getElem?_cons_succ, Option.some.injEq] at hj
            subst hj
            refine ⟨rfl, ?_⟩
            clear hM
            simp only [fill, List.foldl]
            go_simp
            refine ⟨Grow.refl _, .slice a1 n1 cap1, ?_, by rw [T8.out]⟩
            simp only [fillA, fill, List.foldl, Act.put]; go_simp
          | 9, hj =>
            simp only [List.getElem?_toArray, List.getElem?_cons_zero, List.getElem?_cons_succ, Option.some.injEq] at hj
            subst hj
            refine ⟨rfl, ?_⟩
            clear hM
            simp only [fill, List.foldl]
            go_simp
            refine ⟨Grow.refl _, .int .i64 (k : Int), ?_, by rw [T9.out]⟩
            simp only [fillA, fill, List.foldl, Act.put]; go_simp
          | 10, hj =>
            simp only [List.getElem?_toArray, List.getElem?_cons_zero, List.getElem?_cons_succ, Option.some.injEq] at hj
            subst hj
            have m55 := hM { on := 8, ground := Ground.data } (by simp) rfl _ 55 rfl rfl
            rw [T8.out] at m55
            have e55 : u 55 = .slice a1 n1 cap1 := m55
            clear m55
            have m56 := hM { on := 9, ground := Ground.data } (by simp) rfl _ 56 rfl rfl
            rw [T9.out] at m56
            have e56 : u 56 = .int .i64 (k : Int) := m56
            clear m56
            refine ⟨rfl, ?_⟩
            clear hM
            simp only [fill, List.foldl]
            go_simp
            refine ⟨Grow.refl _, .slice a1 k cap1, ?_, by rw [T10.out]⟩
            simp only [fillA, fill, List.foldl, Act.put]; go_simp
          | 11, hj =>
            simp only [List.getElem?_toArray, List.getElem?_cons_zero, List.getElem?_cons_succ, Option.some.injEq] at hj
            subst hj
            have m57 := hM { on := 10, ground := Ground.data } (by simp) rfl _ 57 rfl rfl
            rw [T10.out] at m57
            have e57 : u 57 = .slice a1 k cap1 := m57
            clear m57
            refine ⟨rfl, ?_⟩
            clear hM
            simp only [fill, List.foldl]
            go_simp
            refine ⟨(Below.refl _ _).alloc (Nat.le_refl _) _, .slice (some ⟨wx.heap.size, 0, none⟩) 1 1, ?_, by rw [T11.out]; exact rws1 (HT1.out.below (HDR.out.trans (HR.out.mono HDR.out.size)))⟩
            simp only [fillA, fill, List.foldl, Act.put]; go_simp
          | 12, hj =>
            simp only [List.getElem?_toArray, List.getElem?_cons_zero, List.getElem?_cons_succ, Option.some.injEq] at hj
            subst hj
            have m58 := hM { on := 11, ground := Ground.data } (by simp) rfl _ 58 rfl rfl
            rw [T11.out] at m58
            have H58 := Lib.hid m58
            clear m58
            refine ⟨rfl, ?_⟩
            clear hM
            simp only [fill, List.foldl]
            go_simp
            refine (of_is _ [l1.take k] (r1 : Int) _ (congrArg _ HR1.out) H58.out).mono ?_; rintro e wy ⟨rfl, hb⟩; refine ⟨hb, .int .u32 (r1 : Int), ?_, by rw [T12.out]⟩
            simp only [fillA, fill, List.foldl, Act.put]; go_simp
          | 13, hj =>
            simp only [List.getElem?_toArray, List.getElem?_cons_zero, List.getElem?_cons_succ, Option.some.injEq] at hj
            subst hj
            have m54 := hM { on := 7, ground := Ground.data } (by simp) rfl _ 54 rfl rfl
            rw [T7.out] at m54
            have e54 : u 54 = .int .u32 (r0 : Int) := m54
            clear m54
            have m59 := hM { on := 12, ground := Ground.data } (by simp) rfl _ 59 rfl rfl
            rw [T12.out] at m59
            have e59 : u 59 = .int .u32 (r1 : Int) := m59
            clear m59
            refine ⟨rfl, ?_⟩
            clear hM
            simp only [fill, List.foldl]
            go_simp
            refine ⟨Grow.refl _, .int .u32 (r01 : Int), ?_, by rw [T13.out]⟩
            simp only [fillA, fill, List.foldl, Act.put]; go_simp
          | 14, hj =>
            simp only [List.getElem?_toArray, List.getElem?_cons_zero, List.getElem?_cons_succ, Option.some.injEq] at hj
            subst hj
            refine ⟨rfl, ?_⟩
            clear hM
            simp only [fill, List.foldl]
            go_simp
            refine ⟨Grow.refl _, .slice a2 n2 cap2, ?_, by rw [T14.out]⟩
            simp only [fillA, fill, List.foldl, Act.put]; go_simp
          | 15, hj =>
            simp only [List.getElem?_toArray, List.getElem?_cons_zero, List.getElem?_cons_succ, Option.some.injEq] at hj
            subst hj
            refine ⟨rfl, ?_⟩
            clear hM
            simp only [fill, List.foldl]
            go_simp
            refine ⟨Grow.refl _, .int .i64 (k : Int), ?_, by rw [T15.out]⟩
            simp only [fillA, fill, List.foldl, Act.put]; go_simp
          | 16, hj =>
            simp only [List.getElem?_toArray, List.getElem?_cons_zero, List.getElem?_cons_succ, Option.some.injEq] at hj
            subst hj
            have m61 := hM { on := 14, ground := Ground.data } (by simp) rfl _ 61 rfl rfl
            rw [T14.out] at m61
            have e61 : u 61 = .slice a2 n2 cap2 := m61
            clear m61
            have m62 := hM { on := 15, ground := Ground.data } (by simp) rfl _ 62 rfl rfl
            rw [T15.out] at m62
            have e62 : u 62 = .int .i64 (k : Int) := m62
            clear m62
            refine ⟨rfl, ?_⟩
            clear hM
            simp only [fill, List.foldl]
            go_simp
            refine ⟨Grow.refl _, .slice a2 k cap2, ?_, by rw [T16.out]⟩
            simp only [fillA, fill, List.foldl, Act.put]; go_simp
          | 17, hj =>
            simp only [List.getElem?_toArray, List.getElem?_cons_zero, List.getElem?_cons_succ, Option.some.injEq] at hj
            subst hj
            have m63 := hM { on := 16, ground := Ground.data } (by simp) rfl _ 63 rfl rfl
            rw [T16.out] at m63
            have e63 : u 63 = .slice a2 k cap2 := m63
            clear m63
            refine ⟨rfl, ?_⟩
            clear hM
            simp only [fill, List.foldl]
            go_simp
            refine ⟨(Below.refl _ _).alloc (Nat.le_refl _) _, .slice (some ⟨wx.heap.size, 0, none⟩) 1 1, ?_, by rw [T17.out]; exact rws1 (HT2.out.below (HDR.out.trans (HR.out.mono HDR.out.size)))⟩
            simp only [fillA, fill, List.foldl, Act.put]; go_simp
          | 18, hj =>
            simp only [List.getElem?_toArray, List.getElem?_cons_zero, List.getElem?_cons_succ, Option.some.injEq] at hj
            subst hj
            have m64 := hM { on := 17, ground := Ground.data } (by simp) rfl _ 64 rfl rfl
            rw [T17.out] at m64
            have H64 := Lib.hid m64
            clear m64
            refine ⟨rfl, ?_⟩
            clear hM
            simp only [fill, List.foldl]
            go_simp
            refine (of_is _ [l2.take k] (r2 : Int) _ (congrArg _ HR2.out) H64.out).mono ?_; rintro e wy ⟨rfl, hb⟩; refine ⟨hb, .int .u32 (r2 : Int), ?_, by rw [T18.out]⟩
            simp only [fillA, fill, List.foldl, Act.put]; go_simp
          | 19, hj =>
            simp only [List.getElem?_toArray, List.getElem?_cons_zero, List.getElem?_cons_succ, Option.some.injEq] at hj
            subst hj
            have m60 := hM { on := 13, ground := Ground.data } (by simp) rfl _ 60 rfl rfl
            rw [T13.out] at m60
            have e60 : u 60 = .int .u32 (r01 : Int) := m60
            clear m60
            have m65 := hM { on := 18, ground := Ground.data } (by simp) rfl _ 65 rfl rfl
            rw [T18.out] at m65
            have e65 : u 65 = .int .u32 (r2 : Int) := m65
            clear m65
            refine ⟨rfl, ?_⟩
            clear hM
            simp only [fill, List.foldl]
            go_simp
            refine ⟨Grow.refl _, .int .u32 (r012 : Int), ?_, by rw [T19.out]⟩
            simp only [fillA, fill, List.foldl, Act.put]; go_simp
          | 20, hj =>
            simp only [List.getElem?_toArray, List.getElem?_cons_zero, List.getElem?_cons_succ, Option.some.injEq] at hj
            subst hj
            have m49 := hM { on := 2, ground := Ground.data } (by simp) rfl _ 49 rfl rfl
            rw [T2.out] at m49
            have e49 : u 49 = .int .u32 (r012 : Int) := m49
            clear m49
            have m66 := hM { on := 19, ground := Ground.data } (by simp) rfl _ 66 rfl rfl
            rw [T19.out] at m66
            have e66 : u 66 = .int .u32 (r012 : Int) := m66
            clear m66
            refine ⟨rfl, ?_⟩
            clear hM
            simp only [fill, List.foldl]
            go_simp
            refine ⟨Grow.refl _, .bool true, ?_, by rw [T20.out]⟩
            simp only [fillA, fill, List.foldl, Act.put]; go_simp
          | 21, hj =>
            simp only [List.getElem?_toArray, List.getElem?_cons_zero, List.getElem?_cons_succ, Option.some.injEq] at hj
            subst hj
            have m67 := hM { on := 20, ground := Ground.data } (by simp) rfl _ 67 rfl rfl
            rw [T20.out] at m67
            have e67 : u 67 = .bool true := m67
            clear m67
            refine ⟨rfl, ?_⟩
            clear hM
            simp only [fill, List.foldl]
            go_simp
            refine ⟨Grow.refl _, .bool true, ?_, by rw [T21.out]⟩
            simp only [fillA, fill, List.foldl, Act.put]; go_simp
          | n + 22, hj => simp at hj
        · intro u wx hR hP
          have e6 : u 6 = .bool true := by have := hP 21 _ 6 rfl rfl; rw [T21.out] at this; exact this
          simp only [fillA, fill, List.foldl]
          go_simp
          go_wp2_with fail
          go_ret
          exact ⟨rfl, HBR.out.trans ((HDR.out.trans (hR.mono HDR.out.size)).mono HBR.out.size)⟩
/-! ### STEP 1: THE WALK: the Go text returns true, AND WRITES NOTHING THAT WAS THERE: 'Below w.heap.size w w'' (Derived/Below.lean: '.refl', '.alloc', '.drew', '.setCell' at a new block, '.trans'). Open each 'IsRow' by 'rcases' AHEAD of 'go_enter'; part every test ahead of the walk. -/
theorem walk (a0 : Option Addr) (len0 cap0 : Nat) (z0 : List Int) (a1 : Option Addr) (len1 cap1 : Nat) (z1 : List Int) (a2 : Option Addr) (len2 cap2 : Nat) (z2 : List Int) (w : World) (w0 : IsRow .u8 w a0 len0 cap0 z0) (w1 : IsRow .u8 w a1 len1 cap1 z1) (w2 : IsRow .u8 w a2 len2 cap2 z2) :
    Calls Try.prog 5 #[.slice a0 len0 cap0, .slice a1 len1 cap1, .slice a2 len2 cap2] w fun e w' => e = .returned (.bool true) ∧ Below w.heap.size w w' := by
  obtain ⟨l0, _, hB0, hn0, hcap0, hsh0⟩ := row_bts w0
  obtain ⟨l1, _, hB1, hn1, hcap1, hsh1⟩ := row_bts w1
  obtain ⟨l2, _, hB2, hn2, hcap2, hsh2⟩ := row_bts w2
  exact walk5 a0 len0 cap0 l0 a1 len1 cap1 l1 a2 len2 cap2 l2 w hB0 hB1 hB2 hn0 hn1 hn2 hsh0 hsh1 hsh2

/-! ### THE ROW's STEP: WRITTEN OUT: LEAVE IT -/
set_option maxRecDepth 100000 in
theorem lifted (os : Os) (started : os.Started) (H : Type) (enc : TypeId × Value → H) :
    ReturnsInHanded {} Try.checked os 5 .any (Rows.crcLinearSpec.pre6 enc Try.prog Try.f5 Rows.crcLinearRow.domain false) (Rows.crcLinearSpec.post enc Try.prog Try.f5 false true false false) := by
  refine returnsInHanded_of_change (C := Try.checked) own started (by kernel_rfl) Try.func5
    (ChangeSpec.witness6 (enc := enc) (C := Try.checked) false ⟨#[], #[.slice none 0 0, .slice none 0 0, .slice none 0 0], []⟩ 8 (by kernel_rfl) (by kernel_rfl) (by kernel_rfl) (by kernel_rfl)) ?_
  intro W base args ds gs before hval0 hW hcnd _
  have hval : ∀ (j : Nat) t v, Try.f5.params[j]? = some t → args[j]? = some v → Value.okWide Try.prog W .any base t v := hval0
  have hW' := hW
  obtain ⟨p, q, hA0, hV, rfl, hfz, hnd⟩ := hW
  have hA : DataW.TrodAll enc Try.prog W 0 (fun _ => true) true Try.f5.params.toList args.toList ds p := hA0
  rw [Try.params5] at hA hval
  obtain ⟨v0, vs0, d0, ds0, p0, q0, hargs, rfl, rfl, h0, r0⟩ := trodAll_cons hA
  obtain ⟨v1, vs1, d1, ds1, p1, q1, rfl, rfl, rfl, h1, r1⟩ := trodAll_cons r0
  obtain ⟨v2, vs2, d2, ds2, p2, q2, rfl, rfl, rfl, h2, r2⟩ := trodAll_cons r1
  obtain ⟨rfl, rfl, rfl⟩ := trodAll_nil r2
  obtain rfl : args = #[v0, v1, v2] := by cases args; simp_all
  obtain ⟨rfl, rfl⟩ := trodVars_none hV
  obtain ⟨a0, len0, cap0, rfl⟩ := okWide_slice Try.underlying22 (hval 0 22 v0 rfl rfl)
  have k0 := h0
  have lt0 : ∀ x ∈ p0, x.block < W.heap.size := by obtain ⟨m, hm⟩ := k0; exact DataW.trod_lt m _ _ _ hm
  obtain ⟨z0, w0⟩ : ∃ zs, IsRow .u8 W a0 len0 cap0 zs := by
    obtain ⟨fuel, hf⟩ := h0
    rcases open_ints Try.underlying22 Try.underlying5 (by kernel_rfl) hf with ⟨hcs, _⟩ | ⟨x, l, c, zs, hcs, _, hl, hm, hz, _, hcell, hwz⟩
    · simp [Value.cells] at hcs
      obtain ⟨rfl, rfl, rfl⟩ := hcs
      exact ⟨[], .inl ⟨rfl, rfl, rfl, rfl⟩⟩
    · simp [Value.cells] at hcs
      obtain ⟨rfl, rfl, rfl⟩ := hcs
      exact ⟨zs, .inr ⟨_, rfl, hl, hm, by simpa using hz, hcell, hwz⟩⟩
  obtain ⟨a1, len1, cap1, rfl⟩ := okWide_slice Try.underlying22 (hval 1 22 v1 rfl rfl)
  have k1 := h1
  have lt1 : ∀ x ∈ p1, x.block < W.heap.size := by obtain ⟨m, hm⟩ := k1; exact DataW.trod_lt m _ _ _ hm
  obtain ⟨z1, w1⟩ : ∃ zs, IsRow .u8 W a1 len1 cap1 zs := by
    obtain ⟨fuel, hf⟩ := h1
    rcases open_ints Try.underlying22 Try.underlying5 (by kernel_rfl) hf with ⟨hcs, _⟩ | ⟨x, l, c, zs, hcs, _, hl, hm, hz, _, hcell, hwz⟩
    · simp [Value.cells] at hcs
      obtain ⟨rfl, rfl, rfl⟩ := hcs
      exact ⟨[], .inl ⟨rfl, rfl, rfl, rfl⟩⟩
    · simp [Value.cells] at hcs
      obtain ⟨rfl, rfl, rfl⟩ := hcs
      exact ⟨zs, .inr ⟨_, rfl, hl, hm, by simpa using hz, hcell, hwz⟩⟩
  obtain ⟨a2, len2, cap2, rfl⟩ := okWide_slice Try.underlying22 (hval 2 22 v2 rfl rfl)
  have k2 := h2
  have lt2 : ∀ x ∈ p2, x.block < W.heap.size := by obtain ⟨m, hm⟩ := k2; exact DataW.trod_lt m _ _ _ hm
  obtain ⟨z2, w2⟩ : ∃ zs, IsRow .u8 W a2 len2 cap2 zs := by
    obtain ⟨fuel, hf⟩ := h2
    rcases open_ints Try.underlying22 Try.underlying5 (by kernel_rfl) hf with ⟨hcs, _⟩ | ⟨x, l, c, zs, hcs, _, hl, hm, hz, _, hcell, hwz⟩
    · simp [Value.cells] at hcs
      obtain ⟨rfl, rfl, rfl⟩ := hcs
      exact ⟨[], .inl ⟨rfl, rfl, rfl, rfl⟩⟩
    · simp [Value.cells] at hcs
      obtain ⟨rfl, rfl, rfl⟩ := hcs
      exact ⟨zs, .inr ⟨_, rfl, hl, hm, by simpa using hz, hcell, hwz⟩⟩
  clear hA0 hval0
  refine (walk a0 len0 cap0 z0 a1 len1 cap1 z1 a2 len2 cap2 z2 W w0 w1 w2).mono fun e W' ⟨he, bel⟩ => ?_
  subst he
  exact ⟨_, rfl, _, _, _, [], _, [], hW', trodAll_mk1 (shut_bool Try.underlying4 _), (trodAll_cons_mk (Below.trod laidOut (by kernel_rfl) (of_decide_eq_true (by kernel_rfl)) k0 bel lt0) (trodAll_cons_mk (Below.trod laidOut (by kernel_rfl) (of_decide_eq_true (by kernel_rfl)) k1 bel lt1) (trodAll_cons_mk (Below.trod laidOut (by kernel_rfl) (of_decide_eq_true (by kernel_rfl)) k2 bel lt2) trodAll_mk0))), rfl, bel.frame _, fun h => by cases h⟩

theorem over : Rows.crcLinearRow.holds Try.pinned (OpenSpec.ofChange Rows.crcLinearSpec) :=
  OpenClaim.holds_of_wide 5 Try.f5 rfl rfl rfl rfl rfl rfl rfl ⟨rfl, rfl, rfl, rfl, rfl⟩ rfl rfl rfl rfl rfl (by kernel_rfl) Try.func5 (by kernel_rfl)
    (of_decide_eq_true (by kernel_rfl)) (by unfold Func.isWrapper; first | (rw [if_pos (by decide +kernel)]; kernel_rfl) | (rw [if_neg (by decide +kernel)]; exact ⟨rfl, rfl⟩))
    (fun os started H enc _ => lifted os started H enc)

/-- ████ THE STATEMENT ████ -/
theorem proved : Rows.CrcLinearSaid := over
#print axioms proved
end Go.Proofs.Ytlgammcbhgmpoaa.crcLinear
