/- What the statements about readers share: numbers that came in, a slice of handles of the call's own, a table that is filled. -/
import Derived.Test.YtlgammcbhgmpoaaRdW
import Derived.OwnWalk
namespace Go.Proofs.Ytlgammcbhgmpoaa
open Go.RowKit
theorem add_at9 (b off i : Nat) : (⟨b, off, none⟩ : Addr).add i = ⟨b, off + i, none⟩ := by
  unfold Addr.add; by_cases h : i = 0 <;> simp [h]
/-- numbers that came in -/
def Uns (kd : IntKind) (w : World) (a : Option Addr) (n : Nat) (x : Nat → Nat) : Prop :=
  ∀ i, i < n → ∃ b off, a = some ⟨b, off, none⟩ ∧ b < w.heap.size ∧ w.cell? ⟨b, off + i, none⟩ = some (.int kd (x i : Int))
theorem Uns.below {kd : IntKind} {w w' : World} {a : Option Addr} {n : Nat} {x : Nat → Nat} (h : Uns kd w a n x) (hb : Below w.heap.size w w') : Uns kd w' a n x := by
  intro i hi
  obtain ⟨b, off, ha, hlt, hc⟩ := h i hi
  exact ⟨b, off, ha, by have := hb.size; omega, (hb.cell (p := ⟨b, off + i, none⟩) hlt).trans hc⟩
theorem row_uns {kd : IntKind} {w : World} {a : Option Addr} {len cap : Nat} {zs : List Int} (h0 : ∀ n, (Lit.int kd n).wf = true → 0 ≤ n) (h : (a = none ∧ len = 0 ∧ cap = 0 ∧ zs = []) ∨
    ∃ x, a = some x ∧ len ≤ cap ∧ cap ≤ maxLen ∧ zs.length = cap ∧ (∀ i, i < zs.length → w.cell? (x.add i) = some (.int kd (zs.getD i 0))) ∧ ∀ n ∈ zs, (Lit.int kd n).wf = true) :
    Uns kd w a len (fun i => (zs.getD i 0).toNat) ∧ ∀ i, (Lit.int kd ((zs.getD i 0).toNat : Int)).wf = true ∨ zs.getD i 0 = 0 := by
  rcases h with ⟨rfl, rfl, rfl, rfl⟩ | ⟨x, rfl, h1, h2, h3, h4, h5⟩
  · exact ⟨fun i hi => by omega, fun i => .inr (by simp)⟩
  · have hb : ∀ i, i < zs.length → (Lit.int kd (zs.getD i 0)).wf = true ∧ 0 ≤ zs.getD i 0 := by
      intro i hi
      have e : zs.getD i 0 = zs[i] := by simp [List.getD_eq_getElem?_getD, List.getElem?_eq_getElem hi]
      rw [e]
      exact ⟨h5 _ (List.getElem_mem _), h0 _ (h5 _ (List.getElem_mem _))⟩
    refine ⟨fun i hi => ?_, fun i => ?_⟩
    · obtain ⟨b, off, spot⟩ := x
      have hc := h4 0 (by omega)
      have hspot : spot = none := by simpa [Addr.add] using World.cell?_spot hc
      subst hspot
      have hc2 := h4 i (by omega)
      refine ⟨b, off, rfl, World.block_lt_of_cell? w ⟨b, off, none⟩ (by simpa [Addr.add] using hc), ?_⟩
      rw [← add_at9, hc2]
      have := (hb i (by omega)).2
      rw [Int.toNat_of_nonneg this]
    · by_cases hi : i < zs.length
      · left; rw [Int.toNat_of_nonneg (hb i hi).2]; exact (hb i hi).1
      · right; simp [List.getD_eq_getElem?_getD, List.getElem?_eq_none (Nat.le_of_not_lt hi)]
theorem wf_u64 (n : Int) (h : (Lit.int .u64 n).wf = true) : 0 ≤ n := by
  simp [Lit.wf, IntKind.min, IntKind.max, IntKind.bits, IntKind.signed] at h; omega
theorem wf_u8 (n : Int) (h : (Lit.int .u8 n).wf = true) : 0 ≤ n := by
  simp [Lit.wf, IntKind.min, IntKind.max, IntKind.bits, IntKind.signed] at h; omega
theorem lt_u64 (n : Nat) (h : (Lit.int .u64 (n : Int)).wf = true) : n < 18446744073709551616 := by
  simp [Lit.wf, IntKind.min, IntKind.max, IntKind.bits, IntKind.signed] at h; omega
theorem lt_u8 (n : Nat) (h : (Lit.int .u8 (n : Int)).wf = true) : n < 256 := by
  simp [Lit.wf, IntKind.min, IntKind.max, IntKind.bits, IntKind.signed] at h; omega
theorem row_u64 {w : World} {a : Option Addr} {len cap : Nat} {zs : List Int} (h : (a = none ∧ len = 0 ∧ cap = 0 ∧ zs = []) ∨
    ∃ x, a = some x ∧ len ≤ cap ∧ cap ≤ maxLen ∧ zs.length = cap ∧ (∀ i, i < zs.length → w.cell? (x.add i) = some (.int .u64 (zs.getD i 0))) ∧ ∀ n ∈ zs, (Lit.int .u64 n).wf = true) :
    ∃ x, Uns .u64 w a len x ∧ ∀ i, x i < 18446744073709551616 := by
  obtain ⟨h1, h2⟩ := row_uns wf_u64 h
  refine ⟨_, h1, fun i => ?_⟩
  rcases h2 i with h | h
  · exact lt_u64 _ h
  · rw [h]; decide
theorem row_u8 {w : World} {a : Option Addr} {len cap : Nat} {zs : List Int} (h : (a = none ∧ len = 0 ∧ cap = 0 ∧ zs = []) ∨
    ∃ x, a = some x ∧ len ≤ cap ∧ cap ≤ maxLen ∧ zs.length = cap ∧ (∀ i, i < zs.length → w.cell? (x.add i) = some (.int .u8 (zs.getD i 0))) ∧ ∀ n ∈ zs, (Lit.int .u8 n).wf = true) :
    ∃ x, Uns .u8 w a len x ∧ ∀ i, x i < 256 := by
  obtain ⟨h1, h2⟩ := row_uns wf_u8 h
  refine ⟨_, h1, fun i => ?_⟩
  rcases h2 i with h | h
  · exact lt_u8 _ h
  · rw [h]; decide
/-- a slice of the call's own stays behind what turns another block -/
theorem own_kp {w w' : World} {base B : Nat} {e : TypeId} {size : Nat} {v : Value} {n : Nat} {xs : List Value} (h : w.ownsRow base e size v n xs) (k : Kp B w w') (hB : B < base) : w'.ownsRow base e size v n xs := by
  refine h.kept k ?_
  cases hv : v.ownBlock with
  | none => exact .inl rfl
  | some g => right; have := h.lt g hv; intro e; cases e; omega
theorem own_below {w w' : World} {base : Nat} {e : TypeId} {size : Nat} {v : Value} {n : Nat} {xs : List Value} (h : w.ownsRow base e size v n xs) (k : Below w.heap.size w w') : w'.ownsRow base e size v n xs := by
  refine h.kept (row := none) ⟨k.os, k.tape, k.output, k.size, fun i hi _ => k.block i hi⟩ ?_
  cases hv : v.ownBlock with
  | none => exact .inl rfl
  | some g => right; simp
theorem Tb.grown {w w' : World} {B many : Nat} {f : Nat → Sl} {row : Option Nat} (h : Tb w B many f) (g : w.grownBy w' row) (hr : row ≠ some B) : Tb w' B many f :=
  ⟨(g.block B h.lt (fun e => hr e.symm)).trans h.1, h.2⟩
theorem info47 : (Try.prog.info? 47).map (fun i => (i.zero, i.size, i.bytes)) = some (some (.agg #[.int .i64 0, .int .u64 0]), 2, 16) := by kernel_rfl
theorem two_new (w : World) (o p : Obj) : ((w.alloc o).alloc p).heap[w.heap.size + 1]? = some p := by
  show ((w.heap.push o).push p)[w.heap.size + 1]? = some p
  rw [Array.getElem?_push, if_pos (by simp)]
theorem handle_new (w : World) (o : Obj) (s t : Int) : ∀ j u, [Value.int .i64 s, Value.int .u64 t][j]? = some u → ((w.alloc o).alloc (.cells #[.int .i64 s, .int .u64 t] 47)).cell? ((⟨w.heap.size + 1, 0, none⟩ : Addr).add j) = some u := by
  intro j u hu
  rw [add_at9, cell_of_row _ _ _ _ _ _ (two_new w o _)]
  simpa using hu
theorem handle_one (s t : Int) : ∀ u ∈ [Value.int .i64 s, Value.int .u64 t], u.oneCell' = true := by
  intro u hu; simp at hu; rcases hu with rfl | rfl <;> rfl
/-- behind the append of a handle the table is as it was -/
theorem push_facts {w3 w4 wb w0 : World} {B B0 many k : Nat} {f : Nat → Sl} {o p : Obj} {v : Value} {xs : List Value} (ht : Tb w3 B many f) (hb : Below B0 w0 w3) (hB : B0 ≤ B) (ho : wb.ownsRow (B + 1) 47 2 v k xs)
    (hg : ((w3.alloc o).alloc p).grownBy w4 v.ownBlock) : Tb w4 B many f ∧ Below B0 w0 w4 := by
  have h1 : Below w3.heap.size w3 ((w3.alloc o).alloc p) := ((Below.refl _ _).alloc (Nat.le_refl _) _).alloc (by simp) _
  have hr : v.ownBlock ≠ some B := by
    intro e; have := ho.lt B e; omega
  refine ⟨(ht.below h1).grown hg hr, ?_⟩
  have hlt := ht.lt
  refine (hb.trans (h1.mono (by omega))).grown hg (by simp; omega) (fun j hj => ?_)
  have := ho.lt j hj; omega
/-- the first k handles of a table that was new -/
def hv : Nat → List Value
  | 0 => []
  | k + 1 => hv k ++ [.int .i64 (k : Int), .int .u64 1]
theorem hv_len (k : Nat) : (hv k).length = k * 2 := by
  induction k with
  | zero => rfl
  | succ k ih => simp [hv, ih]; omega
theorem hv_at (k i : Nat) (h : i < k) : (hv k)[i * 2]? = some (.int .i64 (i : Int)) ∧ (hv k)[i * 2 + 1]? = some (.int .u64 1) := by
  induction k with
  | zero => omega
  | succ k ih =>
    by_cases e : i = k
    · subst e
      rw [hv]
      constructor
      · rw [List.getElem?_append_right (by rw [hv_len]; exact Nat.le_refl _), hv_len, Nat.sub_self]; rfl
      · rw [List.getElem?_append_right (by rw [hv_len]; omega), hv_len, show i * 2 + 1 - i * 2 = 1 by omega]; rfl
    · have := ih (by omega)
      rw [hv, List.getElem?_append_left (by rw [hv_len]; omega), List.getElem?_append_left (by rw [hv_len]; omega)]
      exact this
/-- a table with its first k slots filled -/
def filled (x : Nat → Nat) (k : Nat) : Nat → Sl := fun i => if i < k then ⟨true, x i, 1, false⟩ else ⟨false, 0, 0, false⟩
theorem filled_zero (x : Nat → Nat) : filled x 0 = zs := by funext i; simp [filled, zs]
theorem filled_succ (x : Nat → Nat) (k : Nat) : begun (filled x k) k (x k) = filled x (k + 1) := by
  funext i
  unfold begun up
  by_cases e : i = k
  · subst e; simp [filled]
  · by_cases g : i < k
    · simp [filled, e, g, show i < k + 1 by omega]
    · simp [filled, e, g, show ¬ i < k + 1 by omega]
theorem filled_low (x : Nat → Nat) (k i : Nat) (h : i < k) : filled x k i = ⟨true, x i, 1, false⟩ := by simp [filled, h]
theorem filled_high (x : Nat → Nat) (k i : Nat) (h : k ≤ i) : filled x k i = ⟨false, 0, 0, false⟩ := by simp [filled, show ¬ i < k by omega]
/-- what lies behind the last reader counts nothing -/
theorem live_past (f : Nat → Sl) (n : Nat) (h : ∀ i, n ≤ i → (f i).is = false) : ∀ m, n ≤ m → live f m = live f n := by
  intro m
  induction m with
  | zero => intro hm; obtain rfl : n = 0 := by omega
            rfl
  | succ m ih =>
    intro hm
    by_cases e : n = m + 1
    · rw [e]
    · rw [live, h m (by omega), ih (by omega)]; simp
theorem oldest_past (f : Nat → Sl) (x n : Nat) (h : ∀ i, n ≤ i → (f i).is = false) : ∀ m, n ≤ m → oldest f x m = oldest f x n := by
  intro m
  induction m with
  | zero => intro hm; obtain rfl : n = 0 := by omega
            rfl
  | succ m ih =>
    intro hm
    by_cases e : n = m + 1
    · rw [e]
    · rw [oldest, h m (by omega), ih (by omega)]; simp
end Go.Proofs.Ytlgammcbhgmpoaa
