/- The walks over crc.table, crc.Of, rubricatorref02.Of. -/
import Derived.Test.YtlgammcbhgmpoaaRows
import Derived.Test.YtlgammcbhgmpoaaCrcPl
import Derived.WalkKit
import Derived.WalkSpells
import Derived.WalkLawsBesides
import Derived.Lib.Hide
import Derived.Laws.BitsAllLaws
import Derived.Deep.RegionHeld3
import Derived.Lib.SlBytesConst
namespace Go.Proofs.Ytlgammcbhgmpoaa
open Go.RowKit

theorem x_and (x : BitVec 32) (n : Nat) (hn : n < 4294967296) : bits .and .u32 (x.toNat : Int) (n : Int) = ((x &&& BitVec.ofNat 32 n).toNat : Int) := by
  rw [u32_and_nat _ _ x.isLt hn, BitVec.toNat_and, BitVec.toNat_ofNat, Nat.mod_eq_of_lt (a := n) (by omega)]
theorem x_xor (x : BitVec 32) (n : Nat) (hn : n < 4294967296) : bits .xor .u32 (x.toNat : Int) (n : Int) = ((x ^^^ BitVec.ofNat 32 n).toNat : Int) := by
  rw [u32_xor_nat _ _ x.isLt hn, BitVec.toNat_xor, BitVec.toNat_ofNat, Nat.mod_eq_of_lt (a := n) (by omega)]
theorem x_shr1 (x : BitVec 32) : (x.toNat : Int) / (2 : Int) = ((x >>> 1).toNat : Int) := by
  rw [BitVec.toNat_ushiftRight, Nat.shiftRight_eq_div_pow]; norm_cast
theorem x_shr4 (x : BitVec 32) : (x.toNat : Int) / (16 : Int) = ((x >>> 4).toNat : Int) := by
  rw [BitVec.toNat_ushiftRight, Nat.shiftRight_eq_div_pow]; norm_cast
theorem x_and_lt (x : BitVec 32) : (x &&& 15#32).toNat < 16 := by
  rw [BitVec.toNat_and]; exact Nat.lt_of_le_of_lt Nat.and_le_right (by decide)
theorem x_low (x : BitVec 32) : (x &&& 1#32).toNat = if x.getLsbD 0 then 1 else 0 := by
  rw [BitVec.toNat_and, show (1#32).toNat = 1 from rfl, Nat.and_one_is_mod]
  have h : x.getLsbD 0 = x.toNat.testBit 0 := rfl
  rw [h, Nat.testBit_zero]
  by_cases e : x.toNat % 2 = 1
  · simp [e]
  · have : x.toNat % 2 = 0 := by omega
    simp [this]
/-- the table's step, as the walk spells it -/
theorem x_step (x : BitVec 32) : bits .xor .u32 ((x.toNat : Int) / 2) (bits .and .u32 (x.toNat : Int) 1 * 3988292384 % 4294967296) = ((Crcp.step x).toNat : Int) := by
  have h1 : bits .and .u32 (x.toNat : Int) 1 = ((x &&& 1#32).toNat : Int) := x_and x 1 (by decide)
  rw [h1, x_shr1, x_low]
  unfold Crcp.step
  cases hb : x.getLsbD 0
  · simp only [Bool.false_eq_true, if_false]
    have := x_xor (x >>> 1) 0 (by decide)
    exact this
  · simp only [if_true]
    have := x_xor (x >>> 1) 3988292384 (by decide)
    exact this
def tabv (i : Nat) : Nat := (Crcp.steps 4 (BitVec.ofNat 32 i)).toNat
def tabA (k : Nat) : Array Value := ((List.range 16).map fun i => if i < k then Value.int .u32 (tabv i : Int) else Value.int .u32 0).toArray
theorem tabA_size (k : Nat) : (tabA k).size = 16 := by simp [tabA]
theorem tabA_at (k : Nat) (h : k < 16) : (tabA k)[k]? = some (.int .u32 0) := by
  unfold tabA; simp [h]
theorem tabA_set (k : Nat) (_h : k < 16) : (tabA k).setIfInBounds k (.int .u32 (tabv k : Int)) = tabA (k + 1) := by
  apply Array.ext
  · simp [tabA]
  · intro i h1 h2
    rw [Array.getElem_setIfInBounds (by rw [tabA_size]; simpa [tabA_size] using h2)]
    · simp only [tabA, List.getElem_toArray, List.getElem_map, List.getElem_range]
      by_cases e : k = i
      · subst e; simp
      · simp only [e, if_false]
        by_cases hi : i < k
        · simp [hi, show i < k + 1 from by omega]
        · simp [hi, show ¬ i < k + 1 from by omega]
theorem tabA_zero : tabA 0 = #[Value.int IntKind.u32 0, Value.int IntKind.u32 0, Value.int IntKind.u32 0, Value.int IntKind.u32 0,
    Value.int IntKind.u32 0, Value.int IntKind.u32 0, Value.int IntKind.u32 0, Value.int IntKind.u32 0,
    Value.int IntKind.u32 0, Value.int IntKind.u32 0, Value.int IntKind.u32 0, Value.int IntKind.u32 0,
    Value.int IntKind.u32 0, Value.int IntKind.u32 0, Value.int IntKind.u32 0, Value.int IntKind.u32 0] := by
  simp [tabA, List.range, List.range.loop]
theorem tabA_full : tabA 16 = #[Value.int .u32 (tabv 0 : Int), Value.int .u32 (tabv 1 : Int), Value.int .u32 (tabv 2 : Int), Value.int .u32 (tabv 3 : Int),
    Value.int .u32 (tabv 4 : Int), Value.int .u32 (tabv 5 : Int), Value.int .u32 (tabv 6 : Int), Value.int .u32 (tabv 7 : Int),
    Value.int .u32 (tabv 8 : Int), Value.int .u32 (tabv 9 : Int), Value.int .u32 (tabv 10 : Int), Value.int .u32 (tabv 11 : Int),
    Value.int .u32 (tabv 12 : Int), Value.int .u32 (tabv 13 : Int), Value.int .u32 (tabv 14 : Int), Value.int .u32 (tabv 15 : Int)] := by
  simp [tabA, List.range, List.range.loop]
theorem tab_size : tabA 16 = (tabA 16) := rfl

set_option maxRecDepth 100000 in
set_option maxHeartbeats 400000 in
theorem table_any (w : World) :
    Calls Try.prog 33 #[] w fun e w' => e = .returned (.agg (tabA 16)) ∧ Below w.heap.size w w' := by
  go_enter Try.func33, Try.ntmps33
  go_wp2
  go_loopw [2, 3, 4, 5] (fun i x low k wr => ∃ k' : Nat, k' ≤ 16 ∧ k = .int .i64 k' ∧ wr = (w.alloc (.cells (tabA 0) 76)).alloc (.cells (tabA k') 76)) (fun _ _ _ i _ => 16 - (intOf i).toNat)
  case atStart => exact ⟨0, by omega, rfl, by rw [tabA_zero]⟩
  case round =>
    obtain ⟨k, hk, rfl, rfl⟩ := hrel
    by_cases hlt : k < 16
    · have hTk := tabA_at k hlt
      have hTs : k < (tabA k).size := by rw [tabA_size]; exact hlt
      go_wp2
      go_loop [3, 4, 10] (fun x low j => ∃ j' : Nat, j' ≤ 4 ∧ j = .int .i64 j' ∧ x = .int .u32 ((Crcp.steps j' (BitVec.ofNat 32 k)).toNat : Int)) (fun _ _ i => 4 - (intOf i).toNat)
      case atStart => exact ⟨0, by omega, rfl, by simp [Crcp.steps]; omega⟩
      case round =>
        obtain ⟨j, hj, rfl, rfl⟩ := hrel
        have hb0 := (Crcp.steps j (BitVec.ofNat 32 k)).isLt
        by_cases hjt : j < 4
        · generalize hn : (Crcp.steps j (BitVec.ofNat 32 k)).toNat = n at hb0
          have HN := Lib.hid hn
          clear hn
          go_wp2
          go_round
          case rel => exact ⟨j + 1, by omega, by go_num, by rw [← HN.out, x_step, Crcp.steps_add]; rfl⟩
          case measure => simp [intOf]; omega
        · obtain rfl : j = 4 := by omega
          have hs := tabA_set k hlt
          unfold tabv at hs
          have HS := Lib.hid hs
          clear hs
          go_wp2
          go_roundw
          case rel => exact ⟨k + 1, by omega, by go_num, by rw [HS.out]⟩
          case measure => simp [intOf]; omega
    · obtain rfl : k = 16 := by omega
      rw [tabA_full, tabA_zero]
      go_wp2
      exact bodyPost_ret (v := .agg #[Value.int .u32 (tabv 0 : Int), Value.int .u32 (tabv 1 : Int), Value.int .u32 (tabv 2 : Int), Value.int .u32 (tabv 3 : Int),
        Value.int .u32 (tabv 4 : Int), Value.int .u32 (tabv 5 : Int), Value.int .u32 (tabv 6 : Int), Value.int .u32 (tabv 7 : Int),
        Value.int .u32 (tabv 8 : Int), Value.int .u32 (tabv 9 : Int), Value.int .u32 (tabv 10 : Int), Value.int .u32 (tabv 11 : Int),
        Value.int .u32 (tabv 12 : Int), Value.int .u32 (tabv 13 : Int), Value.int .u32 (tabv 14 : Int), Value.int .u32 (tabv 15 : Int)]) (by simp [results, Try.results33, go_sem]) rfl
        ⟨by rw [tabA_full], ((Below.refl _ _).alloc (Nat.le_refl _) _).alloc (by simp) _⟩
/-- a value is a slice that reads as these bytes -/
def Bts (w : World) (v : Value) (l : List Nat) : Prop :=
  l.length ≤ maxLen ∧ (∀ x ∈ l, x < 256) ∧ ∃ a cap, v = .slice a l.length cap ∧ l.length ≤ cap ∧
    (l ≠ [] → ∃ b off, a = some ⟨b, off, none⟩ ∧ b < w.heap.size ∧ ∀ i, i < l.length → w.cell? ⟨b, off + i, none⟩ = some (.int .u8 (l.getD i 0 : Nat)))
/-- rows of bytes -/
def Rws (w : World) (v : Value) (ls : List (List Nat)) : Prop :=
  ls.length ≤ maxLen ∧ ∃ a cap, v = .slice a ls.length cap ∧ ls.length ≤ cap ∧
    (ls ≠ [] → ∃ b off, a = some ⟨b, off, none⟩ ∧ b < w.heap.size ∧ ∀ i, i < ls.length → ∃ u, w.cell? ⟨b, off + i, none⟩ = some u ∧ Bts w u (ls.getD i []))
def crc (ls : List (List Nat)) : Nat := (~~~ Crcp.run ls.flatten (BitVec.allOnes 32)).toNat
theorem table_lit (w : World) :
    Calls Try.prog 33 #[] w fun e w' => e = .returned (.agg #[Value.int .u32 (tabv 0 : Int), Value.int .u32 (tabv 1 : Int), Value.int .u32 (tabv 2 : Int), Value.int .u32 (tabv 3 : Int),
    Value.int .u32 (tabv 4 : Int), Value.int .u32 (tabv 5 : Int), Value.int .u32 (tabv 6 : Int), Value.int .u32 (tabv 7 : Int),
    Value.int .u32 (tabv 8 : Int), Value.int .u32 (tabv 9 : Int), Value.int .u32 (tabv 10 : Int), Value.int .u32 (tabv 11 : Int),
    Value.int .u32 (tabv 12 : Int), Value.int .u32 (tabv 13 : Int), Value.int .u32 (tabv 14 : Int), Value.int .u32 (tabv 15 : Int)]) ∧ Below w.heap.size w w' := by
  refine (table_any w).mono ?_
  rintro e w' ⟨rfl, hb⟩
  exact ⟨by rw [tabA_full], hb⟩

theorem run_snoc (l : List Nat) (c : Nat) (x : BitVec 32) : Crcp.run (l ++ [c]) x = Crcp.byte (Crcp.run l x) c := by simp [Crcp.run]
/-- one byte of crc.Of, as the walk spells it -/
theorem x_byte (x : BitVec 32) (c : Nat) (y z : BitVec 32) (hy : y = x ^^^ BitVec.ofNat 32 c) (hz : z = (y >>> 4) ^^^ BitVec.ofNat 32 (tabv (y &&& 15#32).toNat)) :
    Crcp.byte x c = (z >>> 4) ^^^ BitVec.ofNat 32 (tabv (z &&& 15#32).toNat) := by
  have t : ∀ q : BitVec 32, BitVec.ofNat 32 (tabv q.toNat) = Crcp.steps 4 q := by
    intro q; unfold tabv; simp
  rw [t] at *
  have e : z = Crcp.steps 4 y := by rw [hz, Crcp.steps4 y]
  unfold Crcp.byte
  rw [← hy, show 8 = 4 + 4 from rfl, Crcp.steps_add, ← e, Crcp.steps4 z]
theorem tabv_lt (i : Nat) : tabv i < 4294967296 := (Crcp.steps 4 (BitVec.ofNat 32 i)).isLt
theorem byte_facts (y0 : BitVec 32) (m0 c : Nat) (hm : y0.toNat = m0) (hc : c < 256) : ∃ q1 i1 s1 t1 q2 i2 s2 t2 q3 : Nat,
    bits .xor .u32 (m0 : Int) (c : Int) = (q1 : Int) ∧ bits .and .u32 (q1 : Int) 15 = (i1 : Int) ∧ i1 < 16 ∧ (q1 : Int) / (16 : Int) = (s1 : Int) ∧
    t1 = tabv i1 ∧ bits .xor .u32 (s1 : Int) (t1 : Int) = (q2 : Int) ∧ bits .and .u32 (q2 : Int) 15 = (i2 : Int) ∧ i2 < 16 ∧ (q2 : Int) / (16 : Int) = (s2 : Int) ∧
    t2 = tabv i2 ∧ bits .xor .u32 (s2 : Int) (t2 : Int) = (q3 : Int) ∧ q3 = (Crcp.byte y0 c).toNat ∧ (q1 : Int) < 4294967296 ∧ (q2 : Int) < 4294967296 := by
  subst hm
  obtain ⟨y, hy⟩ : ∃ y, y = y0 ^^^ BitVec.ofNat 32 c := ⟨_, rfl⟩
  obtain ⟨z, hz⟩ : ∃ z, z = (y >>> 4) ^^^ BitVec.ofNat 32 (tabv (y &&& 15#32).toNat) := ⟨_, rfl⟩
  refine ⟨y.toNat, (y &&& 15#32).toNat, (y >>> 4).toNat, _, z.toNat, (z &&& 15#32).toNat, (z >>> 4).toNat, _, _, ?_, x_and y 15 (by decide), x_and_lt y, x_shr4 y, rfl, ?_, x_and z 15 (by decide), x_and_lt z, x_shr4 z, rfl, ?_, rfl, ?_, ?_⟩
  · rw [hy]; exact x_xor y0 c (by omega)
  · rw [hz]; exact x_xor _ _ (tabv_lt _)
  · rw [x_byte y0 c y z hy hz]; exact x_xor _ _ (tabv_lt _)
  · have := y.isLt; omega
  · have := z.isLt; omega
theorem x_not (x0 : BitVec 32) (n0 : Nat) (h : x0.toNat = n0) : bits .xor .u32 IntKind.u32.max (n0 : Int) = (((~~~ x0).toNat : Nat) : Int) := by
  subst h
  rw [show IntKind.u32.max = ((4294967295 : Nat) : Int) from rfl, u32_xor_nat _ _ (by decide) x0.isLt]
  have e : (~~~ x0) = BitVec.allOnes 32 ^^^ x0 := (BitVec.allOnes_xor).symm
  rw [e, BitVec.toNat_xor]
  rfl
theorem take_flat (ls : List (List Nat)) (k : Nat) (h : k < ls.length) : (ls.take (k + 1)).flatten = (ls.take k).flatten ++ ls.getD k [] := by
  rw [List.take_succ_eq_append_getElem h, List.flatten_append, List.getD_eq_getElem?_getD, List.getElem?_eq_getElem h]; simp only [List.flatten_cons, List.flatten_nil, List.append_nil, Option.getD_some]
theorem crc_eq (ls : List (List Nat)) : 4294967295 - (Crcp.run ls.flatten (BitVec.allOnes 32)).toNat = crc ls := by
  unfold crc; rw [BitVec.toNat_not]
set_option maxRecDepth 100000 in
set_option maxHeartbeats 400000 in
theorem of_any (v : Value) (ls : List (List Nat)) (w : World) (h : Rws w v ls) :
    Calls Try.prog 15 #[v] w fun e w' => e = .returned (.int .u32 (crc ls : Nat)) ∧ Below w.heap.size w w' := by
  obtain ⟨hm, a, cap, rfl, hcap, hr⟩ := h
  have HR := Lib.hid hr; clear hr
  unfold maxLen at hm
  go_enter Try.func15, Try.ntmps15
  go_wp2_with (go_at_call 33; refine (table_lit _).mono ?_; rintro e w1 ⟨rfl, hb⟩)
  generalize hW : World.alloc w1 _ = W
  have hbW : Below w.heap.size w W := by rw [← hW]; exact hb.alloc hb.size _
  have hcW : ∀ i, i < 16 → W.cell? ⟨w1.heap.size, i, none⟩ = some (.int .u32 (tabv i : Nat)) := by
    intro i hi
    rw [← hW, ← tabA_full, World.cell?_alloc_new]
    simp [tabA, hi]
  have HC := Lib.hid hcW; clear hcW
  have HBW := Lib.hid hbW; clear hbW hb hW
  go_loop [4, 12] (fun x i => ∃ k : Nat, k ≤ ls.length ∧ i = .int .i64 k ∧ x = .int .u32 ((Crcp.run (ls.take k).flatten (BitVec.allOnes 32)).toNat : Nat)) (fun _ i => ls.length - (intOf i).toNat)
  case atStart => exact ⟨0, Nat.zero_le _, rfl, rfl⟩
  case round =>
    obtain ⟨k, hk, rfl, rfl⟩ := hrel
    generalize hx0 : Crcp.run (ls.take k).flatten (BitVec.allOnes 32) = x0
    generalize hx0n : x0.toNat = n0
    have HX0 := Lib.hid hx0; clear hx0
    have HX0n := Lib.hid hx0n; clear hx0n
    by_cases hlt : k < ls.length
    · obtain ⟨b, off, rfl, hbl, hcc⟩ := HR.out (by intro e; rw [e] at hlt; simp at hlt)
      obtain ⟨u, hu, hlm, hl256, ua, ucap, rfl, hucap, hur⟩ := hcc k hlt
      have hu' : W.cell? ⟨b, off + k, none⟩ = some (.slice ua (ls.getD k []).length ucap) := by rw [HBW.out.cell (p := ⟨b, off + k, none⟩) hbl]; exact hu
      generalize hl : ls.getD k [] = l at *
      have HL := Lib.hid hl; clear hl hu
      have HUR := Lib.hid hur; clear hur hcc
      have HL256 := Lib.hid hl256; clear hl256
      unfold maxLen at hlm
      go_wp2
      go_loop [4, 18] (fun x i => ∃ j : Nat, j ≤ l.length ∧ i = .int .i64 j ∧ x = .int .u32 ((Crcp.run (l.take j) x0).toNat : Nat)) (fun _ i => l.length - (intOf i).toNat)
      case atStart => exact ⟨0, Nat.zero_le _, rfl, by rw [← HX0n.out]; rfl⟩
      case round =>
        obtain ⟨j, hj, rfl, rfl⟩ := hrel
        generalize hy0 : Crcp.run (l.take j) x0 = y0
        generalize hy0n : y0.toNat = m0
        have HY0 := Lib.hid hy0; clear hy0
        have HY0n := Lib.hid hy0n; clear hy0n
        by_cases hjt : j < l.length
        · obtain ⟨b2, off2, rfl, hbl2, hc2⟩ := HUR.out (by intro e; rw [e] at hjt; simp at hjt)
          have hc : w.cell? ⟨b2, off2 + j, none⟩ = some (.int .u8 ((l.getD j 0 : Nat) : Int)) := hc2 j hjt
          have hc' : W.cell? ⟨b2, off2 + j, none⟩ = some (.int .u8 ((l.getD j 0 : Nat) : Int)) := by rw [HBW.out.cell (p := ⟨b2, off2 + j, none⟩) hbl2]; exact hc
          have hcl : l.getD j 0 < 256 := by rw [List.getD_eq_getElem?_getD, List.getElem?_eq_getElem hjt]; exact HL256.out _ (List.getElem_mem _)
          generalize hcn : l.getD j 0 = c at *
          have HCN := Lib.hid hcn
          clear hcn hc hc2
          have hcI : (c : Int) < 256 := by omega
          obtain ⟨q1, i1, s1, t1, q2, i2, s2, t2, q3, e1, e2, l1, e3, d1, e4, e5, l2, e6, d2, e7, d3, b1, b2q⟩ := byte_facts y0 m0 c HY0n.out hcl
          have hT1 : W.cell? ⟨w1.heap.size, i1, none⟩ = some (.int .u32 (t1 : Int)) := by rw [d1]; exact HC.out i1 l1
          have hT2 : W.cell? ⟨w1.heap.size, i2, none⟩ = some (.int .u32 (t2 : Int)) := by rw [d2]; exact HC.out i2 l2
          have D3 := Lib.hid d3
          clear d1 d2 d3
          have l1i : (i1 : Int) < 16 := by omega
          have l2i : (i2 : Int) < 16 := by omega
          go_wp2
          go_round
          case rel => exact ⟨j + 1, by omega, by go_num, by rw [D3.out, ← HY0.out, ← HCN.out, List.take_succ_eq_append_getElem hjt, run_snoc]; simp [List.getElem?_eq_getElem hjt]⟩
          case measure => simp [intOf]; omega
        · obtain rfl : j = l.length := by omega
          go_wp2
          go_round
          case rel => exact ⟨k + 1, by omega, by go_num, by rw [← HY0n.out, ← HY0.out, ← HX0.out, List.take_length, ← HL.out, take_flat ls k hlt, Crcp.run_app]⟩
          case measure => simp [intOf]; omega
    · obtain rfl : k = ls.length := by omega
      have hfin := x_not x0 n0 HX0n.out
      have hsg : IntKind.u32.signed = false := rfl
      go_wp2
      go_ret
      exact ⟨by rw [← HX0.out, List.take_length] at *; exact congrArg (fun q : Nat => Ending.returned (.int .u32 (q : Int))) (crc_eq ls), HBW.out⟩
theorem ref_step (x : BitVec 32) : Crcp.step x = if x.toNat % 2 = 1 then BitVec.ofNat 32 (x.toNat / 2) ^^^ 3988292384#32 else BitVec.ofNat 32 (x.toNat / 2) := by
  have e : x >>> 1 = BitVec.ofNat 32 (x.toNat / 2) := by
    apply BitVec.eq_of_toNat_eq
    rw [BitVec.toNat_ushiftRight, Nat.shiftRight_eq_div_pow, BitVec.toNat_ofNat, Nat.mod_eq_of_lt (by have := x.isLt; omega)]
  have h : x.getLsbD 0 = x.toNat.testBit 0 := rfl
  unfold Crcp.step
  rw [e, h, Nat.testBit_zero]
  by_cases g : x.toNat % 2 = 1 <;> simp [g]
theorem x_xor_mod (x0 : BitVec 32) (n0 c : Nat) (h : x0.toNat = n0) (hc : c < 256) : bits .xor .u32 (n0 : Int) ((c : Int) % 4294967296) = ((x0 ^^^ BitVec.ofNat 32 c).toNat : Int) := by
  rw [show ((c : Int) % 4294967296) = (c : Int) from by omega, ← h]; exact x_xor x0 c (by omega)
theorem ref_odd (y0 : BitVec 32) (m0 : Nat) (h : y0.toNat = m0) (ho : m0 % 2 = 1) : bits .xor .u32 ((m0 : Int) / 2) 3988292384 = ((Crcp.step y0).toNat : Int) := by
  rw [ref_step, h, if_pos ho]
  have hl := y0.isLt
  have e : ((BitVec.ofNat 32 (m0 / 2)).toNat : Int) = (m0 : Int) / 2 := by
    rw [BitVec.toNat_ofNat, Nat.mod_eq_of_lt (by omega)]; omega
  rw [← e]; exact x_xor _ _ (by decide)
theorem ref_even (y0 : BitVec 32) (m0 : Nat) (h : y0.toNat = m0) (ho : ¬ m0 % 2 = 1) : (m0 : Int) / 2 = ((Crcp.step y0).toNat : Int) := by
  rw [ref_step, h, if_neg ho]
  have hl := y0.isLt
  rw [BitVec.toNat_ofNat, Nat.mod_eq_of_lt (by omega)]; omega
theorem bytes_snoc (s : ByteArray) (k : Nat) (h : k < s.size) : (s.data.toList.map UInt8.toNat).take (k + 1) = (s.data.toList.map UInt8.toNat).take k ++ [s[k].toNat] := by
  rw [List.take_succ_eq_append_getElem (by simpa using h)]; simp; rfl
theorem int_u32 {a b : Int} (h : a = b) : Value.int .u32 a = Value.int .u32 b := by rw [h]
theorem ret_u32 {a b : Int} (h : a = b) : Ending.returned (.int .u32 a) = Ending.returned (.int .u32 b) := by rw [h]
set_option maxRecDepth 100000 in
set_option maxHeartbeats 400000 in
theorem ref_any (s : ByteArray) (w : World) (hs : s.size ≤ maxLen) :
    Calls Try.prog 14 #[.string s] w fun e w' => e = .returned (.int .u32 (crc [s.data.toList.map UInt8.toNat] : Nat)) ∧ w = w' := by
  unfold maxLen at hs
  go_enter Try.func14, Try.ntmps14
  go_wp2
  go_loop [3, 4] (fun x i => ∃ k : Nat, k ≤ s.size ∧ i = .int .i64 k ∧ x = .int .u32 ((Crcp.run ((s.data.toList.map UInt8.toNat).take k) (BitVec.allOnes 32)).toNat : Nat)) (fun _ i => s.size - (intOf i).toNat)
  case atStart => exact ⟨0, Nat.zero_le _, rfl, rfl⟩
  case round =>
    obtain ⟨k, hk, rfl, rfl⟩ := hrel
    generalize hx0 : Crcp.run ((s.data.toList.map UInt8.toNat).take k) (BitVec.allOnes 32) = x0
    have hl0 := x0.isLt
    generalize hx0n : x0.toNat = n0 at *
    have HX0 := Lib.hid hx0; clear hx0
    have HX0n := Lib.hid hx0n; clear hx0n
    by_cases hlt : k < s.size
    · go_wp2
      go_loop [3, 5, 6] (fun x j b => ∃ m : Nat, m ≤ 8 ∧ j = .int .i64 m ∧ x = .int .u32 ((Crcp.steps m (x0 ^^^ BitVec.ofNat 32 (s[k].toNat))).toNat : Nat)) (fun _ j _ => 8 - (intOf j).toNat)
      case atStart => exact ⟨0, by omega, rfl, int_u32 (by rw [x_xor_mod x0 n0 _ HX0n.out (UInt8.toNat_lt _)]; rfl)⟩
      case round =>
        obtain ⟨m, hm, rfl, rfl⟩ := hrel
        generalize hy0 : Crcp.steps m (x0 ^^^ BitVec.ofNat 32 (s[k].toNat)) = y0
        have hl1 := y0.isLt
        generalize hy0n : y0.toNat = m0 at *
        have HY0 := Lib.hid hy0; clear hy0
        have HY0n := Lib.hid hy0n; clear hy0n
        by_cases hmt : m < 8
        · by_cases hod : m0 % 2 = 1
          · have hodI : ((m0 : Int) % 2 == 1) = true := by rw [beq_iff_eq]; omega
            go_wp2
            go_round
            case rel => exact ⟨m + 1, by omega, by go_num, int_u32 (by rw [ref_odd y0 m0 HY0n.out hod, ← HY0.out, Crcp.steps_add]; rfl)⟩
            case measure => simp [intOf]; omega
          · have hodI : ((m0 : Int) % 2 == 1) = false := by rw [beq_eq_false_iff_ne]; omega
            go_wp2
            go_round
            case rel => exact ⟨m + 1, by omega, by go_num, int_u32 (by rw [ref_even y0 m0 HY0n.out hod, ← HY0.out, Crcp.steps_add]; rfl)⟩
            case measure => simp [intOf]; omega
        · obtain rfl : m = 8 := by omega
          go_wp2
          go_round
          case rel => exact ⟨k + 1, by omega, by go_num, int_u32 (by rw [← HY0n.out, ← HY0.out, ← HX0.out, bytes_snoc s k hlt, run_snoc]; rfl)⟩
          case measure => simp [intOf]; omega
    · obtain rfl : k = s.size := by omega
      go_wp2
      go_ret
      exact ⟨ret_u32 (by
        rw [← crc_eq, ← HX0n.out, ← HX0.out, List.take_of_length_le (by simp)]
        simp only [List.flatten_cons, List.flatten_nil, List.append_nil]
        have := (Crcp.run (s.data.toList.map UInt8.toNat) (BitVec.allOnes 32)).isLt
        omega), rfl⟩
theorem of_is (v : Value) (ls : List (List Nat)) (n : Int) (w : World) (hn : ((crc ls : Nat) : Int) = n) (h : Rws w v ls) :
    Calls Try.prog 15 #[v] w fun e w' => e = .returned (.int .u32 n) ∧ Below w.heap.size w w' := by
  subst hn; exact of_any v ls w h
theorem blk1 (w : World) (o : Obj) : (w.alloc o).heap[w.heap.size]? = some o := by
  show (w.heap.push o)[w.heap.size]? = _
  simp
theorem blkS {w : World} {o : Obj} {k : Nat} (p : Obj) (h : w.heap[k]? = some o) : (w.alloc p).heap[k]? = some o := by
  have hk : k < w.heap.size := (Array.getElem?_eq_some_iff.1 h).1
  rw [Below.heap_alloc _ _ _ hk]; exact h
theorem blk2 (w : World) (o p : Obj) : ((w.alloc o).alloc p).heap[w.heap.size + 1]? = some p := by
  have := blk1 (w.alloc o) p
  simpa using this
theorem blk3 (w : World) (o p q : Obj) : (((w.alloc o).alloc p).alloc q).heap[w.heap.size + 1 + 1]? = some q := by
  have := blk1 ((w.alloc o).alloc p) q
  simpa using this
theorem Bts.nil (w : World) : Bts w (.slice none 0 0) [] :=
  ⟨by simp, by simp, none, 0, rfl, by simp, fun h => absurd rfl h⟩
theorem Bts.lit {w : World} {b : Nat} {A : Array Value} {T : TypeId} {fr : Nat × Nat} (l : List Nat) (hb : w.heap[b]? = some (.cells A T fr))
    (hA : A = (l.map fun (x : Nat) => Value.int .u8 (x : Int)).toArray) (h : ∀ x ∈ l, x < 256) (hm : l.length ≤ maxLen) (n : Nat) (hn : n = l.length) : Bts w (.slice (some ⟨b, 0, none⟩) n n) l := by
  subst hn
  refine ⟨hm, h, _, _, rfl, Nat.le_refl _, fun _ => ⟨b, 0, rfl, ?_, ?_⟩⟩
  · exact (Array.getElem?_eq_some_iff.1 hb).1
  · intro i hi
    rw [cell_of_row w b (0 + i) A T fr hb, hA]
    simp [hi]
theorem Rws.lit {w : World} {b : Nat} {A : Array Value} {T : TypeId} {fr : Nat × Nat} (ls : List (List Nat)) (hb : w.heap[b]? = some (.cells A T fr))
    (hA : A.size = ls.length) (h : ∀ i u, A[i]? = some u → Bts w u (ls.getD i [])) (hm : ls.length ≤ maxLen) (n : Nat) (hn : n = ls.length) : Rws w (.slice (some ⟨b, 0, none⟩) n n) ls := by
  subst hn
  refine ⟨hm, _, _, rfl, Nat.le_refl _, fun _ => ⟨b, 0, rfl, ?_, ?_⟩⟩
  · exact (Array.getElem?_eq_some_iff.1 hb).1
  · intro i hi
    rw [cell_of_row w b (0 + i) A T fr hb]
    have h1 : A[0 + i]? = some A[i] := by simp [hA, hi]
    exact ⟨_, h1, h i _ (by simp)⟩
theorem Rws.none (w : World) : Rws w (.slice none 0 0) [] := ⟨by simp, _, _, rfl, by simp, fun h => absurd rfl h⟩
theorem crc_ex : ((crc [[49, 50, 51, 52, 53, 54, 55, 56, 57]] : Nat) : Int) = 3421780262 := by decide +kernel
theorem crc_ex3 : ((crc [[49, 50, 51, 52, 53], [], [54, 55, 56, 57]] : Nat) : Int) = 3421780262 := by decide +kernel
theorem crc_ex0 : ((crc [] : Nat) : Int) = 0 := by decide +kernel
set_option maxRecDepth 100000 in
set_option maxHeartbeats 400000 in
theorem awake_any (w : World) :
    Calls Try.prog 13 #[] w fun e w' => e = .returned (.bool true) ∧ Below w.heap.size w w' := by
  have kc := fun (w : World) (C : Array Value) (n c : Nat) => Lib.run_convert_bytes_const (P := Try.prog) w 22 5 C n c Try.underlying22 Try.underlying5
  have kc2 : ∀ (w : World) (A : Array Value) (T : TypeId) (fr : Nat × Nat) (C : Array Value) (n c : Nat),
      Sem.run Try.prog (convert 22 22 (.slice (some { block := w.heap.size + 1, off := 0 }) n c)) ((w.alloc (Obj.cells A T fr)).alloc (Obj.cells C 5)) =
      Result.ok (.slice (some { block := w.heap.size + 1, off := 0 }) n c) ((w.alloc (Obj.cells A T fr)).alloc (Obj.cells C 5 (C.size, C.size + 1))) := by
    intro w A T fr C n c
    have := kc (w.alloc (.cells A T fr)) C n c
    simpa using this
  go_enter Try.func13, Try.ntmps13
  go_wp2_with fail
  refine (of_is _ _ _ _ crc_ex ?_).mono ?_
  · refine Rws.lit _ (blk2 _ _ _) rfl ?_ (by decide) 1 rfl
    intro i u h
    cases i with
    | zero =>
      simp at h; subst h
      exact Bts.lit _ (blkS _ (blk1 _ _)) (by rfl) (by decide) (by decide) 9 rfl
    | succ i => simp at h
  · rintro e w1 ⟨rfl, hb1⟩
    have hb1' : Below w.heap.size w w1 := (((Below.refl _ _).alloc (Nat.le_refl _) _).alloc (by simp) _).trans (hb1.mono (by simp; omega))
    clear hb1
    have HB1 := Lib.hid hb1'
    clear hb1'
    go_wp2_with fail
    refine (of_is _ _ _ _ crc_ex3 ?_).mono ?_
    · refine Rws.lit _ (blk3 _ _ _ _) rfl ?_ (by decide) 3 rfl
      intro i u h
      match i with
      | 0 =>
        simp at h; subst h
        exact Bts.lit _ (blkS _ (blkS _ (blk1 _ _))) (by rfl) (by decide) (by decide) 5 rfl
      | 1 => simp at h; subst h; exact Bts.nil _
      | 2 =>
        simp at h; subst h
        exact Bts.lit _ (blkS _ (blk2 _ _ _)) (by rfl) (by decide) (by decide) 4 rfl
      | i + 3 => simp at h
    · rintro e w2 ⟨rfl, hb2⟩
      have hb2' : Below w.heap.size w w2 := ((((HB1.out).alloc HB1.out.size _).alloc (by have := HB1.out.size; simp; omega) _).alloc (by have := HB1.out.size; simp; omega) _).trans (hb2.mono (by have := HB1.out.size; simp; omega))
      clear hb2
      have HB2 := Lib.hid hb2'
      clear hb2'
      go_wp2_with fail
      refine (of_is _ _ _ _ crc_ex0 (Rws.none _)).mono ?_
      rintro e w3 ⟨rfl, hb3⟩
      have HB3 := Lib.hid ((HB2.out).trans (hb3.mono HB2.out.size))
      clear hb3
      go_wp2_with fail
      go_ret
      exact ⟨rfl, HB3.out⟩
end Go.Proofs.Ytlgammcbhgmpoaa
