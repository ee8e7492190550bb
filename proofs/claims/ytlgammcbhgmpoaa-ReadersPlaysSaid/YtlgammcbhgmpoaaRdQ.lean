/- The reference's readers: the walks over Begin, End, Dead, Clear. -/
import Derived.Test.YtlgammcbhgmpoaaRdS
import Derived.Deep.RegionHeld3
namespace Go.Proofs.Ytlgammcbhgmpoaa
open Go.RowKit
theorem set_w (base g n cap : Nat) (r : Nat → Sl) (i : Nat) (s : Sl) (k : Int) (a d : Bool) (b c : Int) (w : World) (h : Rf w base g n cap r) (hi : i < n) (hn : n ≤ 126) (hk : k = (i : Int)) (ha : a = s.is) (hd : d = s.dead) (hb : b = (s.txn : Int)) (hc : c = (s.turn : Int)) :
    Calls Try.prog 38 #[.slice (some ⟨g, 0, none⟩) n cap, .int .i64 k, .agg #[.bool a, .int .u64 b, .int .u64 c, .bool d]] w
      fun e w' => (∃ g' cap', e = .returned (.slice (some ⟨g', 0, none⟩) n cap') ∧ Rf w' base g' n cap' (up r i s)) ∧ Below w.heap.size w w' := by
  subst ha hb hc hd hk
  refine (set_any base g n cap r i s w h hi hn).mono ?_
  rintro e w' ⟨⟨g', cap', rfl, hr⟩, hb⟩
  exact ⟨⟨g', cap', rfl, hr.mono (by have := h.lt; omega)⟩, hb⟩
set_option maxRecDepth 100000 in
set_option maxHeartbeats 1000000 in
theorem begin20_any (base g n cap : Nat) (r : Nat → Sl) (x i : Nat) (w : World) (h : Rf w base g n cap r) (hn : n ≤ 126) (hi : i ≤ n) (hlow : ∀ j, j < i → (r j).is = true) (hfree : i < n → (r i).is = false) :
    Calls Try.prog 20 #[.slice (some ⟨g, 0, none⟩) n cap, .int .u64 (x : Int)] w fun e w' =>
      (∃ g' cap', e = .returned (if i < n then .tuple #[.slice (some ⟨g', 0, none⟩) n cap', .int .i64 (i : Int), .int .u64 ((((r i).turn + 1) % 18446744073709551616 : Nat) : Int), .int .i64 0] else .tuple #[.slice (some ⟨g', 0, none⟩) n cap', .int .i64 0, .int .u64 0, .int .i64 22]) ∧
        Rf w' base g' n cap' (if i < n then begun r i x else r)) ∧ Below w.heap.size w w' := by
  have H := Lib.hid h
  have hm : (n : Int) ≤ 126 := by omega
  have HL := Lib.hid hlow
  have HF := Lib.hid hfree
  clear h hlow hfree
  generalize hxx : (x : Int) = X at *
  go_enter Try.func20, Try.ntmps20
  go_wp2
  go_loop [8] (fun s => ∃ k : Nat, k ≤ i ∧ s = .int .i64 k) (fun s => n - (intOf s).toNat)
  case atStart => exact ⟨0, by omega, rfl⟩
  case round =>
    obtain ⟨k, hk, rfl⟩ := hrel
    by_cases hlt : k < n
    · by_cases hki : k < i
      · have his := HL.out k hki
        have c0 := H.out.is k hlt
        rw [his] at c0
        clear his
        go_wp2
        go_round
        case rel => exact ⟨k + 1, by omega, by go_num⟩
        case measure => simp [intOf]; omega
      · obtain rfl : k = i := by omega
        have his := HF.out hlt
        have c0 := H.out.is k hlt
        rw [his] at c0
        have c2 := H.out.turn k hlt
        obtain ⟨y, hy⟩ : ∃ y, y = ((r k).turn + 1) % 18446744073709551616 := ⟨_, rfl⟩
        have HY := Lib.hid hy
        have HYI : Hid (((r k).turn + 1 : Int) % 18446744073709551616 = (y : Int)) := Lib.hid (by omega)
        have HS := fun (b : Int) (hb : b = (y : Int)) (w : World) (h : Rf w base g n cap r) => set_w base g n cap r k ⟨true, x, y, false⟩ k true false X b w h hlt hn rfl rfl rfl hxx.symm hb
        clear his hy
        generalize htu : (r k).turn = tu at *
        have HTU := Lib.hid htu
        clear htu
        have HC := Lib.hid (HS _ HYI.out w.drew H.out)
        have HG := H.out.lt
        clear HS
        go_wp2_with fail
        go_region_held3 (fun w' => w'.cell? ⟨g, k * 4 + 2, none⟩ = some (.int .u64 (tu : Int)))
          (first | go_keep | exact c2 | exact (hb5.cell (p := ⟨g, k * 4 + 2, none⟩) HG.2).trans c2)
          (first | (go_at_call 38; refine HC.out.mono ?_; rintro e w5 ⟨⟨g', cap', rfl, hr5⟩, hb5⟩))
        have HR5 := Lib.hid hr5
        have HB5 := Lib.hid hb5
        clear hr5 hb5 HC
        have hw : IntKind.u64.wrap ((tu : Int) + 1) = ((tu : Int) + 1) % 18446744073709551616 := by simp [IntKind.wrap, IntKind.signed, IntKind.bits]
        go_wp2
        refine bodyPost_ret (v := .tuple #[.slice (some ⟨g', 0, none⟩) n cap', .int .i64 (k : Int), .int .u64 (((tu : Int) + 1) % 18446744073709551616), .int .i64 0]) (by simp [results, Try.results20, go_sem]) rfl ⟨⟨g', cap', ?_, ?_⟩, ?_⟩
        · first | rw [HTU.out] | (rw [if_pos hlt, HTU.out, ← HY.out, HYI.out])
        · have := HR5.out
          rw [HY.out, ← HTU.out] at this
          first | exact this | (rw [if_pos hlt]; exact this)
        · exact (Below.refl _ _).drew.trans HB5.out
    · obtain rfl : i = n := by omega
      obtain rfl : k = i := by omega
      go_wp2
      refine bodyPost_ret (v := .tuple #[.slice (some ⟨g, 0, none⟩) k cap, .int .i64 0, .int .u64 0, .int .i64 22]) (by simp [results, Try.results20, go_sem]) rfl ⟨⟨g, cap, ?_, ?_⟩, Below.refl _ _⟩
      · first | rfl | rw [if_neg (Nat.lt_irrefl _)]
      · first | exact H.out | (rw [if_neg (Nat.lt_irrefl _)]; exact H.out)
theorem good28_gd (base g n cap : Nat) (r : Nat → Sl) (s t : Int) (w : World) (h : Rf w base g n cap r) (hg : Gd r n s t) :
    Calls Try.prog 28 #[.slice (some ⟨g, 0, none⟩) n cap, .int .i64 s, .int .u64 t] w fun e w' => e = .returned (.bool true) ∧ w = w' := by
  obtain ⟨i, rfl, hi, his, ht⟩ := hg
  have := good28_in base g n cap r i t w h hi
  rw [his, ht] at this
  simpa using this
theorem good28_no (base g n cap : Nat) (r : Nat → Sl) (s t : Int) (w : World) (h : Rf w base g n cap r) (hg : ¬ Gd r n s t) :
    Calls Try.prog 28 #[.slice (some ⟨g, 0, none⟩) n cap, .int .i64 s, .int .u64 t] w fun e w' => e = .returned (.bool false) ∧ w = w' := by
  by_cases h0 : s < 0
  · exact good28_low _ _ _ _ _ _ h0
  · by_cases h1 : (n : Int) ≤ s
    · exact good28_high _ _ _ _ _ _ (by omega) h1
    · have e : s = ((s.toNat : Nat) : Int) := by omega
      have := good28_in base g n cap r s.toNat t w h (by omega)
      rw [← e] at this
      have hb : ((r s.toNat).is && (((r s.toNat).turn : Int) == t)) = false := by
        rw [Bool.eq_false_iff]
        intro hh
        simp at hh
        exact hg ⟨s.toNat, e, by omega, hh.1, hh.2⟩
      rw [hb] at this
      exact this
theorem end22_no (base g n cap : Nat) (r : Nat → Sl) (s t : Int) (w : World) (h : Rf w base g n cap r) (hg : ¬ Gd r n s t) :
    Calls Try.prog 22 #[.slice (some ⟨g, 0, none⟩) n cap, .int .i64 s, .int .u64 t] w fun e w' => e = .returned (.tuple #[.slice (some ⟨g, 0, none⟩) n cap, .int .i64 25]) ∧ w = w' := by
  have HG := Lib.hid (good28_no base g n cap r s t w h hg)
  clear h hg
  go_enter Try.func22, Try.ntmps22
  go_wp2_with (go_at_call 28; refine HG.out.mono ?_; rintro e w' ⟨rfl, rfl⟩)
  go_ret2
  exact ⟨rfl, rfl⟩
theorem end22_yes (base g n cap : Nat) (r : Nat → Sl) (i : Nat) (s t : Int) (w : World) (h : Rf w base g n cap r) (hn : n ≤ 126) (hs : s = (i : Int)) (hi : i < n) (his : (r i).is = true) (ht : ((r i).turn : Int) = t) :
    Calls Try.prog 22 #[.slice (some ⟨g, 0, none⟩) n cap, .int .i64 s, .int .u64 t] w fun e w' => (∃ g' cap', e = .returned (.tuple #[.slice (some ⟨g', 0, none⟩) n cap', .int .i64 0]) ∧ Rf w' base g' n cap' (up r i ⟨false, 0, (r i).turn, false⟩)) ∧ Below w.heap.size w w' := by
  subst hs
  have HG := Lib.hid (good28_gd base g n cap r i t w h ⟨i, rfl, hi, his, ht⟩)
  have HS := Lib.hid (set_w base g n cap r i ⟨false, 0, (r i).turn, false⟩ i false false 0 t w h hi hn rfl rfl rfl rfl ht.symm)
  have c2 := h.turn i hi
  rw [ht] at c2
  clear h his ht
  go_enter Try.func22, Try.ntmps22
  go_wp2_with (go_at_call 28; refine HG.out.mono ?_; rintro e w' ⟨rfl, rfl⟩)
  refine HS.out.mono ?_
  rintro e w' ⟨⟨g', cap', rfl, hr⟩, hb⟩
  have HR := Lib.hid hr
  have HB := Lib.hid hb
  clear hr hb HS HG
  go_simp
  go_wp2
  go_ret2
  exact ⟨⟨g', cap', rfl, HR.out⟩, HB.out⟩
theorem dead24_low (a : Option Addr) (n cap : Nat) (s : Int) (w : World) (hs : s < 0 ∨ (n : Int) ≤ s) :
    Calls Try.prog 24 #[.slice a n cap, .int .i64 s] w fun e w' => e = .returned (.tuple #[.slice a n cap, .bool false]) ∧ w = w' := by
  by_cases h0 : s < 0
  · have q1 : decide (s < 0) = true := by simpa using h0
    clear hs h0
    go_enter Try.func24, Try.ntmps24
    go_wp2
    go_ret2
    exact ⟨rfl, rfl⟩
  · have q1 : decide (s < 0) = false := by simpa using h0
    have q2 : decide ((n : Int) ≤ s) = true := by simp; omega
    clear hs h0
    go_enter Try.func24, Try.ntmps24
    go_wp2
    go_ret2
    exact ⟨rfl, rfl⟩
theorem dead24_off (base g n cap : Nat) (r : Nat → Sl) (i : Nat) (w : World) (h : Rf w base g n cap r) (hi : i < n) (his : (r i).is = false) :
    Calls Try.prog 24 #[.slice (some ⟨g, 0, none⟩) n cap, .int .i64 (i : Int)] w fun e w' => e = .returned (.tuple #[.slice (some ⟨g, 0, none⟩) n cap, .bool false]) ∧ w = w' := by
  have q1 : decide ((i : Int) < 0) = false := by simp
  have q2 : decide (n ≤ i) = false := by simp; omega
  have c0 := h.is i hi
  rw [his] at c0
  clear h his
  go_enter Try.func24, Try.ntmps24
  go_wp2
  go_ret2
  exact ⟨rfl, rfl⟩
set_option maxRecDepth 100000 in
theorem dead24_yes (base g n cap : Nat) (r : Nat → Sl) (i : Nat) (w : World) (h : Rf w base g n cap r) (hn : n ≤ 126) (hi : i < n) (his : (r i).is = true) :
    Calls Try.prog 24 #[.slice (some ⟨g, 0, none⟩) n cap, .int .i64 (i : Int)] w fun e w' => (∃ g' cap', e = .returned (.tuple #[.slice (some ⟨g', 0, none⟩) n cap', .bool true]) ∧ Rf w' base g' n cap' (deadened r i)) ∧ Below w.heap.size w w' := by
  have q1 : decide ((i : Int) < 0) = false := by simp
  have q2 : decide (n ≤ i) = false := by simp; omega
  have c0 := h.is i hi
  have c1 := h.txn i hi
  have c2 := h.turn i hi
  have c3 := h.dead i hi
  rw [his] at c0
  have H := Lib.hid h
  have HIS := Lib.hid his
  have HW := fun (w' : World) (hb : Below w.heap.size w w') => set_w base g n cap r i { r i with dead := true } i true true ((r i).txn : Int) ((r i).turn : Int) w' (h.below hb) hi hn rfl his.symm rfl rfl rfl
  clear h his
  generalize htx : ((r i).txn : Int) = TX at *
  generalize htu : ((r i).turn : Int) = TU at *
  generalize hdd : (r i).dead = dd at *
  clear htx htu hdd
  go_enter Try.func24, Try.ntmps24
  go_wp2_with fail
  refine (HW _ ((Below.refl _ _).alloc (Nat.le_refl _) _)).mono ?_
  rintro e w' ⟨⟨g', cap', rfl, hr⟩, hb⟩
  have HR := Lib.hid hr
  have HB := Lib.hid (((Below.refl _ _).alloc (Nat.le_refl _) _).trans (hb.mono (by simp)) : Below w.heap.size w w')
  clear hr hb HW
  go_simp
  go_wp2
  go_ret2
  exact ⟨⟨g', cap', rfl, HR.out⟩, HB.out⟩
def clrR (r : Nat → Sl) (k : Nat) : Nat → Sl := fun j => if j < k ∧ (r j).is = true ∧ (r j).dead = true then ⟨false, 0, (r j).turn, false⟩ else r j
theorem clrR_zero (r : Nat → Sl) : clrR r 0 = r := by funext j; simp [clrR]
theorem clrR_at (r : Nat → Sl) (k : Nat) : clrR r k k = r k := by simp [clrR]
theorem clrR_skip (r : Nat → Sl) (k : Nat) (h : ¬ ((r k).is = true ∧ (r k).dead = true)) : clrR r (k + 1) = clrR r k := by
  funext j
  unfold clrR
  by_cases e : j = k
  · subst e
    rw [if_neg (by rintro ⟨_, h1, h2⟩; exact h ⟨h1, h2⟩), if_neg (by omega)]
  · simp [show j < k + 1 ↔ j < k by omega]
theorem clrR_hit (r : Nat → Sl) (k : Nat) (h : (r k).is = true ∧ (r k).dead = true) : up (clrR r k) k ⟨false, 0, (r k).turn, false⟩ = clrR r (k + 1) := by
  funext j
  unfold up clrR
  by_cases e : j = k
  · subst e
    simp [h.1, h.2]
  · simp [e, show j < k + 1 ↔ j < k by omega]
set_option maxRecDepth 100000 in
theorem clear26 (base g n cap : Nat) (r : Nat → Sl) (w : World) (h : Rf w base g n cap r) (hn : n ≤ 126) :
    Calls Try.prog 26 #[.slice (some ⟨g, 0, none⟩) n cap] w fun e w' => (∃ g' cap', e = .returned (.tuple #[.slice (some ⟨g', 0, none⟩) n cap', .int .i64 (clrN r n : Nat)]) ∧ Rf w' base g' n cap' (clrR r n)) ∧ Below w.heap.size w w' := by
  have H := Lib.hid h
  have hnI : (n : Int) ≤ 126 := by omega
  clear h
  go_enter Try.func26, Try.ntmps26
  go_wp2
  go_loopw [0, 4, 5] (fun s c i wr => ∃ k g' cap' : Nat, k ≤ n ∧ i = .int .i64 k ∧ c = .int .i64 (clrN r k : Nat) ∧ s = .slice (some ⟨g', 0, none⟩) n cap' ∧ Rf wr base g' n cap' (clrR r k) ∧ Below w.heap.size w wr) (fun _ _ i _ => n - (intOf i).toNat)
  case atStart => exact ⟨0, g, cap, by omega, rfl, rfl, rfl, by rw [clrR_zero]; exact H.out, Below.refl _ _⟩
  case round =>
    obtain ⟨k, g', cap', hk, rfl, rfl, rfl, hr, hb⟩ := hrel
    have HR := Lib.hid hr
    have HB := Lib.hid hb
    clear hr hb
    by_cases hlt : k < n
    · have HLS := Lib.hid (show clrN r (k + 1) = clrN r k + if (r k).is = true ∧ (r k).dead = true then 1 else 0 from rfl)
      have hle := clrN_le r k
      have c0 := HR.out.is k hlt
      have c2 := HR.out.turn k hlt
      have c3 := HR.out.dead k hlt
      rw [clrR_at] at c0 c2 c3
      generalize clrN r k = m at *
      by_cases hd : (r k).is = true ∧ (r k).dead = true
      · rw [hd.1] at c0
        rw [hd.2] at c3
        have HD := Lib.hid hd
        have HS := Lib.hid (set_w base g' n cap' (clrR r k) k ⟨false, 0, (r k).turn, false⟩ k false false 0 ((r k).turn : Int) wr HR.out hlt hn rfl rfl rfl rfl rfl)
        clear hd
        generalize ((r k).turn : Int) = tu at *
        go_wp2_with fail
        refine HS.out.mono ?_
        rintro e w' ⟨⟨g2, cap2, rfl, hr2⟩, hb2⟩
        have HR2 := Lib.hid hr2
        have HB2 := Lib.hid hb2
        clear hr2 hb2 HS c0 c2 c3
        go_simp
        go_wp2
        go_roundw
        case rel => exact ⟨k + 1, g2, cap2, by omega, by go_num, by rw [HLS.out, if_pos HD.out]; go_num, rfl, by rw [← clrR_hit r k HD.out]; exact HR2.out, HB.out.trans (HB2.out.mono (by have := HB.out.size; omega))⟩
        case measure => simp [intOf]; omega
      · have HD := Lib.hid hd
        cases hb : (r k).is
        · rw [hb] at c0
          clear hb hd
          go_wp2
          go_roundw
          case rel => exact ⟨k + 1, g', cap', by omega, by go_num, by rw [HLS.out, if_neg HD.out]; go_num, rfl, by rw [clrR_skip r k HD.out]; exact HR.out, HB.out⟩
          case measure => simp [intOf]; omega
        · have hdd : (r k).dead = false := by
            cases hx : (r k).dead
            · rfl
            · exact absurd ⟨hb, hx⟩ hd
          rw [hb] at c0
          rw [hdd] at c3
          clear hb hd hdd
          go_wp2
          go_roundw
          case rel => exact ⟨k + 1, g', cap', by omega, by go_num, by rw [HLS.out, if_neg HD.out]; go_num, rfl, by rw [clrR_skip r k HD.out]; exact HR.out, HB.out⟩
          case measure => simp [intOf]; omega
    · obtain rfl : k = n := by omega
      go_wp2
      go_ret2
      exact ⟨⟨g', cap', rfl, HR.out⟩, HB.out⟩
end Go.Proofs.Ytlgammcbhgmpoaa
