/- Slices of bytes that came in, their parts, their text; rows of them. -/
import Derived.Test.YtlgammcbhgmpoaaCrcW
namespace Go.Proofs.Ytlgammcbhgmpoaa
open Go.RowKit
/-- how a slice lies: nil, of no room, or in a block -/
def Shp (a : Option Addr) (len cap : Nat) : Prop :=
  (a = none ∧ len = 0 ∧ cap = 0) ∨ (∃ x, a = some x ∧ len = 0 ∧ cap = 0) ∨ ∃ b off, a = some ⟨b, off, none⟩ ∧ 0 < cap
theorem add_at (b off i : Nat) : (⟨b, off, none⟩ : Addr).add i = ⟨b, off + i, none⟩ := by
  unfold Addr.add; by_cases h : i = 0 <;> simp [h]
theorem row_bts {w : World} {a : Option Addr} {len cap : Nat} {zs : List Int} (h : (a = none ∧ len = 0 ∧ cap = 0 ∧ zs = []) ∨
    ∃ x, a = some x ∧ len ≤ cap ∧ cap ≤ maxLen ∧ zs.length = cap ∧ (∀ i, i < zs.length → w.cell? (x.add i) = some (.int .u8 (zs.getD i 0))) ∧ ∀ n ∈ zs, (Lit.int .u8 n).wf = true) :
    ∃ l : List Nat, l.length = len ∧ Bts w (.slice a len cap) l ∧ len ≤ cap ∧ cap ≤ maxLen ∧ Shp a len cap := by
  rcases h with ⟨rfl, rfl, rfl, rfl⟩ | ⟨x, rfl, h1, h2, h3, h4, h5⟩
  · exact ⟨[], rfl, Bts.nil w, Nat.le_refl _, by simp, .inl ⟨rfl, rfl, rfl⟩⟩
  · have hb : ∀ n ∈ zs, 0 ≤ n ∧ n < 256 := by
      intro n hn
      have := h5 n hn
      simp [Lit.wf, IntKind.min, IntKind.max, IntKind.bits, IntKind.signed] at this
      omega
    have hL : ((zs.take len).map Int.toNat).length = len := by simp; omega
    refine ⟨(zs.take len).map Int.toNat, hL, ⟨by rw [hL]; omega, ?_, some x, cap, by rw [hL], by rw [hL]; exact h1, ?_⟩, h1, h2, ?_⟩
    · intro y hy
      obtain ⟨n, hn, rfl⟩ := List.mem_map.1 hy
      have := hb n (List.mem_of_mem_take hn); omega
    · intro hne
      have hlen : 0 < len := by
        rcases Nat.eq_zero_or_pos len with h | h
        · subst h; simp at hne
        · exact h
      obtain ⟨b, off, spot⟩ := x
      have hc := h4 0 (by omega)
      have hspot : spot = none := by simpa [Addr.add] using World.cell?_spot hc
      subst hspot
      refine ⟨b, off, rfl, World.block_lt_of_cell? w ⟨b, off, none⟩ (by simpa [Addr.add] using hc), ?_⟩
      intro i hi
      rw [hL] at hi
      have := h4 i (by omega)
      rw [add_at] at this
      rw [this]
      have hz := hb zs[i] (List.getElem_mem _)
      simp [hi, List.getElem?_eq_getElem (show i < zs.length by omega)]
      omega

    · rcases Nat.eq_zero_or_pos cap with h | h
      · exact .inr (.inl ⟨x, rfl, by omega, h⟩)
      · obtain ⟨b, off, spot⟩ := x
        have hc := h4 0 (by omega)
        have hspot : spot = none := by simpa [Addr.add] using World.cell?_spot hc
        subst hspot
        exact .inr (.inr ⟨b, off, rfl, h⟩)
theorem Bts.len {w : World} {a : Option Addr} {n cap : Nat} {l : List Nat} (h : Bts w (.slice a n cap) l) : l.length = n := by
  obtain ⟨h1, h2, a', cap', hv, h3, h4⟩ := h
  simp only [Value.slice.injEq] at hv
  exact hv.2.1.symm
theorem Bts.take {w : World} {a : Option Addr} {n cap : Nat} {l : List Nat} (h : Bts w (.slice a n cap) l) (k : Nat) (hk : k ≤ n) : Bts w (.slice a k cap) (l.take k) := by
  obtain ⟨h1, h2, a', cap', hv, h3, h4⟩ := h
  simp only [Value.slice.injEq] at hv
  obtain ⟨rfl, rfl, rfl⟩ := hv
  have hL : (l.take k).length = k := by simp; omega
  refine ⟨by omega, fun x hx => h2 x (List.mem_of_mem_take hx), a, cap, by rw [hL], by omega, fun hne => ?_⟩
  obtain ⟨b, off, rfl, hb, hc⟩ := h4 (by intro e; subst e; simp at hne)
  refine ⟨b, off, rfl, hb, fun i hi => ?_⟩
  rw [hc i (by omega)]
  simp [show i < k by omega]
theorem Bts.drop {w : World} {b off : Nat} {n cap : Nat} {l : List Nat} (h : Bts w (.slice (some ⟨b, off, none⟩) n cap) l) (k : Nat) (hk : k ≤ n) (off' : Nat) (ho : k < n → off' = off + k) : Bts w (.slice (some ⟨b, off', none⟩) (n - k) (cap - k)) (l.drop k) := by
  obtain ⟨h1, h2, a', cap', hv, h3, h4⟩ := h
  simp only [Value.slice.injEq] at hv
  obtain ⟨rfl, rfl, rfl⟩ := hv
  refine ⟨by simp; omega, fun x hx => h2 x (List.mem_of_mem_drop hx), some ⟨b, off', none⟩, cap - k, by simp, by simp; omega, fun hne => ?_⟩
  have hlt : k < l.length := by
    rcases Nat.lt_or_ge k l.length with h | h
    · exact h
    · exact absurd (List.drop_eq_nil_of_le h) hne
  obtain ⟨b', off2, he, hb, hc⟩ := h4 (by intro e; subst e; simp at hlt)
  simp only [Option.some.injEq, Addr.mk.injEq, and_true] at he
  obtain ⟨rfl, rfl⟩ := he
  have := ho hlt; subst this
  refine ⟨b, _, rfl, hb, fun i hi => ?_⟩
  simp at hi
  rw [Nat.add_assoc, hc (k + i) (by omega)]
  simp
theorem Bts.below {w w' : World} {v : Value} {l : List Nat} (h : Bts w v l) (hb : Below w.heap.size w w') : Bts w' v l := by
  obtain ⟨h1, h2, a, cap, rfl, h3, h4⟩ := h
  refine ⟨h1, h2, a, cap, rfl, h3, fun hne => ?_⟩
  obtain ⟨b, off, rfl, hlt, hc⟩ := h4 hne
  exact ⟨b, off, rfl, by have := hb.size; omega, fun i hi => by rw [hb.cell (p := ⟨b, off + i, none⟩) hlt]; exact hc i hi⟩
def bstr (l : List Nat) : ByteArray := ⟨(l.map UInt8.ofNat).toArray⟩
theorem bstr_size (l : List Nat) : (bstr l).size = l.length := by simp [bstr, ByteArray.size]
theorem bstr_back (l : List Nat) (h : ∀ x ∈ l, x < 256) : (bstr l).data.toList.map UInt8.toNat = l := by
  simp only [bstr, List.map_map]
  conv => rhs; rw [← List.map_id l]
  apply List.map_congr_left
  intro x hx
  have := h x hx
  simp; omega
theorem conv_bts {w : World} {a : Option Addr} {n cap : Nat} {l : List Nat} (h : Bts w (.slice a n cap) l) : (convert 22 9 (.slice a n cap)).run Try.prog w = .ok (.string (bstr l)) w := by
  obtain ⟨h1, h2, a', cap', hv, h3, h4⟩ := h
  simp only [Value.slice.injEq] at hv
  obtain ⟨rfl, rfl, rfl⟩ := hv
  by_cases hne : l = []
  · subst hne
    show Sem.run Try.prog (convert 22 9 (.slice a 0 cap)) w = _
    rw [run_convert_bytes_string w 22 9 5 a 0 cap Try.underlying22 Try.underlying5 Try.underlying9]
    cases a <;> simp [Conv.bytesToString, loadCells, bstr] <;> rfl
  · obtain ⟨b, off, rfl, hb, hc⟩ := h4 hne
    have := run_convert_bytes_back (P := Try.prog) w 22 9 5 ⟨b, off, none⟩ cap (l.map UInt8.ofNat) Try.underlying22 Try.underlying5 Try.underlying9 (by
      intro j hj
      simp at hj
      rw [add_at, hc j hj]
      have := h2 l[j] (List.getElem_mem _)
      simp [List.getElem?_eq_getElem hj]; omega)
    simpa [bstr] using this
theorem rws1 {w : World} {u : Value} {T : TypeId} {l : List Nat} (h : Bts w u l) : Rws (w.alloc (.cells #[u] T)) (.slice (some ⟨w.heap.size, 0, none⟩) 1 1) [l] := by
  refine Rws.lit [l] (blk1 _ _) rfl (fun i v hv => ?_) (by simp [maxLen]) 1 rfl
  cases i with
  | zero => simp at hv; subst hv; exact h.below ((Below.refl _ _).alloc (Nat.le_refl _) _)
  | succ i => simp at hv
theorem rws2 {w : World} {u v : Value} {T : TypeId} {l m : List Nat} (h : Bts w u l) (h2 : Bts w v m) : Rws (w.alloc (.cells #[u, v] T)) (.slice (some ⟨w.heap.size, 0, none⟩) 2 2) [l, m] := by
  refine Rws.lit [l, m] (blk1 _ _) rfl (fun i x hv => ?_) (by simp [maxLen]) 2 rfl
  match i with
  | 0 => simp at hv; subst hv; exact h.below ((Below.refl _ _).alloc (Nat.le_refl _) _)
  | 1 => simp at hv; subst hv; exact h2.below ((Below.refl _ _).alloc (Nat.le_refl _) _)
  | i + 2 => simp at hv
theorem Rws.drew {w : World} {v : Value} {ls : List (List Nat)} (h : Rws w v ls) : Rws w.drew v ls := by
  obtain ⟨h1, a, cap, rfl, h3, h4⟩ := h
  have hb : Below w.heap.size w w.drew := (Below.refl _ _).drew
  refine ⟨h1, a, cap, rfl, h3, fun hne => ?_⟩
  obtain ⟨b, off, rfl, hlt, hc⟩ := h4 hne
  refine ⟨b, off, rfl, by have := hb.size; omega, fun i hi => ?_⟩
  obtain ⟨u, hu, hu2⟩ := hc i hi
  exact ⟨u, by rw [hb.cell (p := ⟨b, off + i, Option.none⟩) hlt]; exact hu, hu2.below hb⟩
theorem Bts.empty (w : World) (a : Option Addr) (c : Nat) : Bts w (.slice a 0 c) [] := ⟨by simp, by simp, a, c, rfl, by simp, fun h => absurd rfl h⟩
theorem Bts.drop_if {w : World} {b off : Nat} {n cap : Nat} {l : List Nat} (h : Bts w (.slice (some ⟨b, off, Option.none⟩) n cap) l) (k : Nat) (hk : k ≤ n) (hn : n ≤ cap) : Bts w (.slice (if cap = k then some ⟨b, off, Option.none⟩ else some ⟨b, off + k, Option.none⟩) (n - k) (cap - k)) (l.drop k) := by
  by_cases e : cap = k
  · rw [if_pos e]; exact h.drop k hk off (by omega)
  · rw [if_neg e]; exact h.drop k hk (off + k) (by omega)
theorem ref_bts (l : List Nat) (n : Nat) (w : World) (h : ∀ x ∈ l, x < 256) (hm : l.length ≤ maxLen) (hn : crc [l] = n) :
    Calls Try.prog 14 #[.string (bstr l)] w fun e w' => e = .returned (.int .u32 (n : Int)) ∧ w = w' := by
  subst hn
  have := ref_any (bstr l) w (by rw [bstr_size]; exact hm)
  rw [bstr_back l h] at this
  exact this
theorem crc_flat (a b : List (List Nat)) (h : a.flatten = b.flatten) : crc a = crc b := by unfold crc; rw [h]
end Go.Proofs.Ytlgammcbhgmpoaa
