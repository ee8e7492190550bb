/- The walk over Begin. -/
import Derived.Test.YtlgammcbhgmpoaaRdE
namespace Go.Proofs.Ytlgammcbhgmpoaa
open Go.RowKit
def begun (f : Nat → Sl) (i x : Nat) : Nat → Sl := up f i ⟨true, x, ((f i).turn + 1) % 18446744073709551616, false⟩
theorem Kp.setNew {B : Nat} {w a : World} (h : Kp B w a) {p : Addr} (hp : w.heap.size ≤ p.block) (v : Value) : Kp B w (a.setCell p v) :=
  ⟨h.os, h.tape, h.output, by simpa [World.setCell] using h.size, fun k hk hn => (Below.heap_setCell _ _ _ _ (by omega)).trans (h.block k hk hn)⟩
theorem Tb.setOther {w : World} {B many : Nat} {f : Nat → Sl} (h : Tb w B many f) {p : Addr} (hp : p.block ≠ B) (v : Value) : Tb (w.setCell p v) B many f :=
  ⟨(Below.heap_setCell _ _ _ _ (fun e => hp e.symm)).trans h.1, h.2⟩
theorem up_up (f : Nat → Sl) (i : Nat) (a b : Sl) : up (up f i a) i b = up f i b := by
  funext j; unfold up; by_cases e : j = i <;> simp [e]
/-- the result's cells, kept -/
theorem res_kept {B b : Nat} {w0 w' : World} {A : Array Value} {T : TypeId} (h : Kp B w0 w') (hb : w0.heap[b]? = some (.cells A T (0, 0))) (hne : b ≠ B) : w'.heap[b]? = some (.cells A T (0, 0)) :=
  (h.block b (Array.getElem?_eq_some_iff.1 hb).1 (by simpa using hne)).trans hb
theorem res_cells {w : World} {b : Nat} {u v : Value} {T : TypeId} (h : w.heap[b]? = some (.cells #[u, v] T (0, 0))) (x y : Value) :
    ((w.setCell ⟨b, 0, none⟩ x).setCell ⟨b, 1, none⟩ y).cell? ⟨b, 0, none⟩ = some x ∧ ((w.setCell ⟨b, 0, none⟩ x).setCell ⟨b, 1, none⟩ y).cell? ⟨b, 1, none⟩ = some y := by
  have h2 := set_blk (i := 1) (set_blk (i := 0) h x) y
  exact ⟨by rw [cell_of_row _ _ _ _ _ _ h2]; rfl, by rw [cell_of_row _ _ _ _ _ _ h2]; rfl⟩
theorem cast_turn (t : Nat) : (((t + 1) % 18446744073709551616 : Nat) : Int) = ((t : Int) + 1) % 18446744073709551616 := by omega
theorem begin_nil (x : Int) (w : World) : Calls Try.prog 19 #[.pointer none, .int .u64 x] w fun e w' => e = .returned (.tuple #[.agg #[.int .i64 0, .int .u64 0], .int .i64 1]) ∧ Below w.heap.size w w' := by
  go_enter Try.func19, Try.ntmps19
  go_wp2
  exact bodyPost_ret (v := .tuple #[.agg #[.int .i64 0, .int .u64 0], .int .i64 1]) (by simp [results, Try.results19, go_sem]) rfl ⟨rfl, (Below.refl _ _).alloc (Nat.le_refl _) _⟩
set_option maxRecDepth 100000 in
set_option maxHeartbeats 1000000 in
theorem begin_any (B many : Nat) (f : Nat → Sl) (x i : Nat) (w : World) (h : Tb w B many f) (hx : x < 18446744073709551616) (hi : i ≤ many) (hlow : ∀ j, j < i → (f j).is = true) (hfree : i < many → (f i).is = false) :
    Calls Try.prog 19 #[.pointer (some ⟨B, 0, none⟩), .int .u64 (x : Int)] w fun e w' =>
      e = .returned (if i < many then .tuple #[.agg #[.int .i64 (i : Int), .int .u64 ((((f i).turn + 1) % 18446744073709551616 : Nat) : Int)], .int .i64 0] else .tuple #[.agg #[.int .i64 0, .int .u64 0], .int .i64 22]) ∧
      Tb w' B many (if i < many then begun f i x else f) ∧ Kp B w w' := by
  have hB := h.lt
  have H := Lib.hid h
  have hm : (many : Int) ≤ 126 := by have := h.2.1; omega
  have hmc := h.many
  have HL := Lib.hid hlow
  have HF := Lib.hid hfree
  have HX := Lib.hid hx
  clear h hlow hfree hx
  go_enter Try.func19, Try.ntmps19
  go_wp2
  have H0 : Hid (Tb (w.alloc (.cells #[.int .i64 0, .int .u64 0] 47)) B many f) := Lib.hid (H.out.below ((Below.refl _ _).alloc (Nat.le_refl _) _))
  have HK0 : Hid (Kp B w (w.alloc (.cells #[.int .i64 0, .int .u64 0] 47))) := Lib.hid (Kp.of_below ((Below.refl _ _).alloc (Nat.le_refl _) _))
  have HR0 : Hid ((w.alloc (.cells #[.int .i64 0, .int .u64 0] 47)).heap[w.heap.size]? = some (.cells #[.int .i64 0, .int .u64 0] 47 (0, 0))) := Lib.hid (by show (w.heap.push _)[w.heap.size]? = _; simp)
  generalize w.alloc (.cells #[.int .i64 0, .int .u64 0] 47) = w0 at *
  go_loopw [15] (fun s wr => ∃ k : Nat, k ≤ i ∧ s = .int .i64 k ∧ Tb wr B many f ∧ Kp B w0 wr) (fun s _ => many - (intOf s).toNat)
  case atStart => exact ⟨0, by omega, rfl, H0.out, Kp.refl _ _⟩
  case round =>
    obtain ⟨k, hk, rfl, ht, hkp⟩ := hrel
    have HT := Lib.hid ht
    have HK := Lib.hid hkp
    clear ht hkp
    by_cases hlt : k < many
    · have q4 : k < 126 := by omega
      by_cases hki : k < i
      · have his := HL.out k hki
        have HC := Lib.hid (bcas_miss ⟨B, 1 + k * 4, none⟩ wr (by have := HT.out.is k q4; rw [his] at this; exact this) (HT.out.free _))
        clear his
        go_wp2_with (go_at_call 34; refine HC.out.mono ?_; rintro e w' ⟨rfl, rfl⟩)
        go_roundw
        case rel => exact ⟨k + 1, by omega, by go_num, HT.out.drew, HK.out.drew⟩
        case measure => simp [intOf]; omega
      · obtain rfl : k = i := by omega
        have his := HF.out hlt
        have HC := Lib.hid (bcas_hit ⟨B, 1 + k * 4, none⟩ wr (by have := HT.out.is k q4; rw [his] at this; exact this) (HT.out.free _))
        clear his
        go_wp2_with fail
        refine HC.out.mono ?_
        rintro e wa ⟨rfl, hwa⟩
        have hta : Tb wa B many (up f k { f k with is := true }) := by rw [← hwa]; exact HT.out.setIs k q4 true
        have hka : Kp B w0 wa := by rw [← hwa]; exact (HK.out.trans (Kp.set B _ _ _)).drew
        have HTA := Lib.hid hta
        have HKA := Lib.hid hka
        clear hwa hta hka HT HK
        go_simp
        go_wp2_with fail
        refine (ustore ⟨B, 1 + k * 4 + 1, none⟩ _ (x : Int) wa (HTA.out.txn k q4) (HTA.out.free _)).mono ?_
        rintro e wb ⟨rfl, hwb⟩
        have htb := HTA.out.setTxn k q4 x HX.out
        rw [hwb, up_same, up_up] at htb
        have hkb : Kp B w0 wb := by rw [← hwb]; exact HKA.out.trans (Kp.set B _ _ _)
        have HTB := Lib.hid htb
        have HKB := Lib.hid hkb
        clear hwb htb hkb HTA HKA
        go_simp
        go_wp2_with fail
        refine (bstore ⟨B, 1 + k * 4 + 3, none⟩ _ false wb (HTB.out.dead k q4) (HTB.out.free _)).mono ?_
        rintro e wc ⟨rfl, hwc⟩
        have htc := (HTB.out.setDead k q4 false).drew
        rw [hwc, up_same, up_up] at htc
        have hkc : Kp B w0 wc := by rw [← hwc]; exact (HKB.out.trans (Kp.set B _ _ _)).drew
        have HTC := Lib.hid htc
        have HKC := Lib.hid hkc
        clear hwc htc hkc HTB HKB
        go_simp
        go_wp2_with fail
        have hturn := HTC.out.turn k q4
        rw [up_same] at hturn
        refine (uadd ⟨B, 1 + k * 4 + 2, none⟩ (f k).turn wc (HTC.out.2.2 k |>.2 |> fun h => by rw [up_same] at h; exact h) hturn (HTC.out.free _)).mono ?_
        clear hturn
        rintro e wd ⟨rfl, hwd⟩
        have htd := HTC.out.setTurn k q4 (((f k).turn + 1) % 18446744073709551616) (Nat.mod_lt _ (by omega))
        rw [hwd, up_same, up_up] at htd
        have hkd : Kp B w0 wd := by rw [← hwd]; exact HKC.out.trans (Kp.set B _ _ _)
        have HTD := Lib.hid htd
        have HKD := Lib.hid hkd
        clear hwd htd hkd HTC HKC
        have hres := res_kept HKD.out HR0.out (by omega)
        have f0 : wd.cell? ⟨w.heap.size, 0, none⟩ = some (.int .i64 0) := by rw [cell_of_row wd _ _ _ _ _ hres]; rfl
        have f1 : wd.cell? ⟨w.heap.size, 1, none⟩ = some (.int .u64 0) := by rw [cell_of_row wd _ _ _ _ _ hres]; rfl
        have z0 : wd.frozen? ⟨w.heap.size, 0, none⟩ = false := by simp [World.frozen?, hres]
        have z1 : wd.frozen? ⟨w.heap.size, 1, none⟩ = false := by simp [World.frozen?, hres]
        have HRES := Lib.hid hres
        clear hres
        generalize hy : ((((f k).turn + 1) % 18446744073709551616 : Nat) : Int) = y at *
        have HY := Lib.hid hy
        clear hy
        have hc2 := res_cells HRES.out (.int .i64 (k : Int)) (.int .u64 y)
        obtain ⟨c0, c1⟩ := hc2
        have C0 := Lib.hid c0
        have C1 := Lib.hid c1
        clear c0 c1
        go_simp
        go_wp2
        have c0 := C0.out
        have c1 := C1.out
        refine bodyPost_ret (v := .tuple #[.agg #[.int .i64 (k : Int), .int .u64 y], .int .i64 0]) (by simp [results, Try.results19, go_sem, c0, c1]) rfl ⟨?_, ?_, ?_⟩
        · have e := cast_turn (f k).turn
          rw [HY.out] at e
          rw [e]
        · first | exact (HTD.out.setOther (by simp; omega) _).setOther (by simp; omega) _ | (rw [if_pos hlt]; exact (HTD.out.setOther (by simp; omega) _).setOther (by simp; omega) _)
        · exact ((HK0.out.trans HKD.out).setNew (Nat.le_refl _) _).setNew (Nat.le_refl _) _
    · obtain rfl : i = many := by omega
      obtain rfl : k = i := by omega
      have hres := res_kept HK.out HR0.out (by omega)
      have f0 : wr.cell? ⟨w.heap.size, 0, none⟩ = some (.int .i64 0) := by rw [cell_of_row wr _ _ _ _ _ hres]; rfl
      have f1 : wr.cell? ⟨w.heap.size, 1, none⟩ = some (.int .u64 0) := by rw [cell_of_row wr _ _ _ _ _ hres]; rfl
      have z0 : wr.frozen? ⟨w.heap.size, 0, none⟩ = false := by simp [World.frozen?, hres]
      have z1 : wr.frozen? ⟨w.heap.size, 1, none⟩ = false := by simp [World.frozen?, hres]
      have hc2 := res_cells hres (.int .i64 0) (.int .u64 0)
      obtain ⟨c0, c1⟩ := hc2
      have C0 := Lib.hid c0
      have C1 := Lib.hid c1
      clear hres c0 c1
      go_wp2
      have c0 := C0.out
      have c1 := C1.out
      refine bodyPost_ret (v := .tuple #[.agg #[.int .i64 0, .int .u64 0], .int .i64 22]) (by simp [results, Try.results19, go_sem, c0, c1]) rfl ⟨?_, ?_, ?_⟩
      · first | rfl | (rw [if_neg hlt])
      · exact (HT.out.setOther (by simp; omega) _).setOther (by simp; omega) _
      · exact ((HK0.out.trans HK.out).setNew (Nat.le_refl _) _).setNew (Nat.le_refl _) _

/-- Begin where a slot is free: the lowest one -/
theorem begin_yes (B many : Nat) (f : Nat → Sl) (x i : Nat) (w : World) (h : Tb w B many f) (hx : x < 18446744073709551616) (hi : i < many) (hlow : ∀ j, j < i → (f j).is = true) (hfree : (f i).is = false) (tn : Nat) (ht : tn = ((f i).turn + 1) % 18446744073709551616) :
    Calls Try.prog 19 #[.pointer (some ⟨B, 0, none⟩), .int .u64 (x : Int)] w fun e w' =>
      e = .returned (.tuple #[.agg #[.int .i64 (i : Int), .int .u64 (tn : Int)], .int .i64 0]) ∧ Tb w' B many (begun f i x) ∧ Kp B w w' := by
  refine (begin_any B many f x i w h hx (by omega) hlow (fun _ => hfree)).mono ?_
  intro e w' hh
  rw [if_pos hi, if_pos hi, ← ht] at hh
  exact hh
theorem begin_no (B many : Nat) (f : Nat → Sl) (x : Nat) (w : World) (h : Tb w B many f) (hx : x < 18446744073709551616) (hall : ∀ j, j < many → (f j).is = true) :
    Calls Try.prog 19 #[.pointer (some ⟨B, 0, none⟩), .int .u64 (x : Int)] w fun e w' =>
      e = .returned (.tuple #[.agg #[.int .i64 0, .int .u64 0], .int .i64 22]) ∧ Tb w' B many f ∧ Kp B w w' := by
  refine (begin_any B many f x many w h hx (Nat.le_refl _) hall (fun h => absurd h (Nat.lt_irrefl _))).mono ?_
  intro e w' hh
  rw [if_neg (Nat.lt_irrefl _), if_neg (Nat.lt_irrefl _)] at hh
  exact hh
end Go.Proofs.Ytlgammcbhgmpoaa
