/- The reference's readers: a slice of slots of the call's own; the walks over set, New, Good, Live. -/
import Derived.Test.YtlgammcbhgmpoaaRdL
namespace Go.Proofs.Ytlgammcbhgmpoaa
open Go.RowKit
/-- the reference's slots, as cells -/
def rv (r : Nat → Sl) : Nat → List Value
  | 0 => []
  | n + 1 => rv r n ++ [.bool (r n).is, .int .u64 ((r n).txn : Int), .int .u64 ((r n).turn : Int), .bool (r n).dead]
theorem rv_len (r : Nat → Sl) (n : Nat) : (rv r n).length = n * 4 := by
  induction n with
  | zero => rfl
  | succ n ih => simp [rv, ih]; omega
def rc (r : Nat → Sl) (i c : Nat) : Value := if c = 0 then .bool (r i).is else if c = 1 then .int .u64 ((r i).txn : Int) else if c = 2 then .int .u64 ((r i).turn : Int) else .bool (r i).dead
theorem rv_at (r : Nat → Sl) (n i c : Nat) (h : i < n) (hc : c < 4) : (rv r n)[i * 4 + c]? = some (rc r i c) := by
  induction n with
  | zero => omega
  | succ n ih =>
    by_cases e : i = n
    · subst e
      rw [rv, List.getElem?_append_right (by rw [rv_len]; omega), rv_len, show i * 4 + c - i * 4 = c by omega]
      match c with
      | 0 => rfl
      | 1 => rfl
      | 2 => rfl
      | 3 => rfl
      | c + 4 => omega
    · rw [rv, List.getElem?_append_left (by rw [rv_len]; omega)]
      exact ih (by omega)
theorem rv_ext (r : Nat → Sl) (n : Nat) (l : List Value) (hl : l.length = n * 4) (h : ∀ i c, i < n → c < 4 → l[i * 4 + c]? = some (rc r i c)) : l = rv r n := by
  apply List.ext_getElem?
  intro j
  by_cases hj : j < n * 4
  · have := h (j / 4) (j % 4) (by omega) (by omega)
    have := rv_at r n (j / 4) (j % 4) (by omega) (by omega)
    rw [show j / 4 * 4 + j % 4 = j by omega] at *
    simp_all
  · rw [List.getElem?_eq_none (by omega), List.getElem?_eq_none (by rw [rv_len]; omega)]
/-- four cells stored -/
theorem rv_set (r : Nat → Sl) (n i : Nat) (hi : i < n) (s : Sl) : ((((rv r n).set (i * 4) (.bool s.is)).set (i * 4 + 1) (.int .u64 (s.txn : Int))).set (i * 4 + 2) (.int .u64 (s.turn : Int))).set (i * 4 + 3) (.bool s.dead) = rv (up r i s) n := by
  refine rv_ext _ _ _ (by simp [rv_len]) (fun k c hk hc => ?_)
  have hlen := rv_len r n
  simp only [List.getElem?_set, List.length_set, hlen]
  have hat := rv_at r n k c hk hc
  by_cases e : k = i
  · subst e
    match c with
    | 0 => simp [rc, up]; omega
    | 1 => simp [rc, up]; omega
    | 2 => simp [rc, up]; omega
    | 3 => simp [rc, up]; omega
    | c + 4 => omega
  · rw [if_neg (by omega), if_neg (by omega), if_neg (by omega), if_neg (by omega), hat]
    simp [rc, up, e]
/-- the reference's slots lie in block g -/
def Rf (w : World) (base g n cap : Nat) (r : Nat → Sl) : Prop :=
  w.ownsRow base 64 4 (.slice (some ⟨g, 0, none⟩) n cap) n (rv r n)
theorem Rf.c {w : World} {base g n cap : Nat} {r : Nat → Sl} (h : Rf w base g n cap r) (i c : Nat) (hi : i < n) (hc : c < 4) : w.cell? ⟨g, i * 4 + c, none⟩ = some (rc r i c) := by
  rw [World.ownsRow.cellAt h _ (by omega)]; exact rv_at r n i c hi hc
theorem Rf.is {w : World} {base g n cap : Nat} {r : Nat → Sl} (h : Rf w base g n cap r) (i : Nat) (hi : i < n) : w.cell? ⟨g, i * 4, none⟩ = some (.bool (r i).is) := h.c i 0 hi (by omega)
theorem Rf.txn {w : World} {base g n cap : Nat} {r : Nat → Sl} (h : Rf w base g n cap r) (i : Nat) (hi : i < n) : w.cell? ⟨g, i * 4 + 1, none⟩ = some (.int .u64 ((r i).txn : Int)) := h.c i 1 hi (by omega)
theorem Rf.turn {w : World} {base g n cap : Nat} {r : Nat → Sl} (h : Rf w base g n cap r) (i : Nat) (hi : i < n) : w.cell? ⟨g, i * 4 + 2, none⟩ = some (.int .u64 ((r i).turn : Int)) := h.c i 2 hi (by omega)
theorem Rf.dead {w : World} {base g n cap : Nat} {r : Nat → Sl} (h : Rf w base g n cap r) (i : Nat) (hi : i < n) : w.cell? ⟨g, i * 4 + 3, none⟩ = some (.bool (r i).dead) := h.c i 3 hi (by omega)
theorem Rf.set {w : World} {base g n cap : Nat} {r : Nat → Sl} (h : Rf w base g n cap r) (i : Nat) (hi : i < n) (s : Sl) :
    Rf ((((w.setCell ⟨g, i * 4, none⟩ (.bool s.is)).setCell ⟨g, i * 4 + 1, none⟩ (.int .u64 (s.txn : Int))).setCell ⟨g, i * 4 + 2, none⟩ (.int .u64 (s.turn : Int))).setCell ⟨g, i * 4 + 3, none⟩ (.bool s.dead)) base g n cap (up r i s) := by
  have := ((((World.ownsRow.stored h (i * 4) (.bool s.is)).1.stored (i * 4 + 1) (.int .u64 (s.txn : Int))).1.stored (i * 4 + 2) (.int .u64 (s.turn : Int))).1.stored (i * 4 + 3) (.bool s.dead)).1
  rw [rv_set r n i hi s] at this
  exact this
theorem own_form {w : World} {base : Nat} {e : TypeId} {size : Nat} {v : Value} {n : Nat} {xs : List Value} (h : w.ownsRow base e size v n xs) (hn : 0 < n) : ∃ g cap, v = .slice (some ⟨g, 0, none⟩) n cap ∧ base ≤ g ∧ g < w.heap.size ∧ n ≤ cap := by
  have hlt := h.lt
  rcases h.2 with ⟨_, h0⟩ | ⟨g, cap, cur, hv, hb, hg, hnc, _⟩
  · omega
  · exact ⟨g, cap, hv, hb, (Array.getElem?_eq_some_iff.1 hg).1, hnc⟩
theorem info64 : (Try.prog.info? 64).map (fun i => (i.zero, i.size, i.bytes)) = some (some (.agg #[.bool false, .int .u64 0, .int .u64 0, .bool false]), 4, 32) := by kernel_rfl
theorem rv_one (r : Nat → Sl) (n : Nat) : ∀ u ∈ rv r n, u.oneCell' = true := by
  induction n with
  | zero => intro u hu; simp [rv] at hu
  | succ n ih =>
    intro u hu
    simp only [rv, List.mem_append, List.mem_cons, List.not_mem_nil, or_false] at hu
    rcases hu with h | rfl | rfl | rfl | rfl
    · exact ih u h
    all_goals rfl
set_option maxRecDepth 100000 in
set_option maxHeartbeats 1000000 in
theorem set_any (base g n cap : Nat) (r : Nat → Sl) (i : Nat) (s : Sl) (w : World) (h : Rf w base g n cap r) (hi : i < n) (hn : n ≤ 126) :
    Calls Try.prog 38 #[.slice (some ⟨g, 0, none⟩) n cap, .int .i64 (i : Int), .agg #[.bool s.is, .int .u64 (s.txn : Int), .int .u64 (s.turn : Int), .bool s.dead]] w
      fun e w' => (∃ g' cap', e = .returned (.slice (some ⟨g', 0, none⟩) n cap') ∧ Rf w' w.heap.size g' n cap' (up r i s)) ∧ Below w.heap.size w w' := by
  have H := Lib.hid h
  obtain ⟨i0, hI1, hI2, hI3, hI4⟩ := info_parts info64
  have hiI : (i : Int) < n := by omega
  have hnI : (n : Int) ≤ 126 := by omega
  clear h
  cases s with
  | mk is txn turn dead =>
  generalize htx : (txn : Int) = TX at *
  generalize htu : (turn : Int) = TU at *
  go_enter Try.func38, Try.ntmps38
  go_wp2_with (at_builtin; refine wpList_append_own _ rfl _ _ 39 rfl w.heap.size 64 i0 (.agg #[.bool false, .int .u64 0, .int .u64 0, .bool false]) 4 32 Try.underlying39 hI1 hI2 hI3 hI4 rfl (by decide) _ 0 [] rfl (World.ownsRow_nil _ _ _ _) ⟨g, 0, none⟩ n cap (rv r n) rfl (rv_len r n) ?c2 ?c3 ?c4 ?c5 ?c6 ?_)
  case c2 => exact (World.ownsRow.alloc H.out _).cells rfl
  case c3 => exact rv_one r n
  case c4 => simp [maxLen]; omega
  case c5 => omega
  case c6 => simp
  intro v' w4 hown hgrow hnil
  obtain ⟨g', cap', rfl, hbg, hg4, hnc⟩ := own_form hown (by omega)
  have hbx : ∀ j, w4.cell? ⟨w.heap.size, j, none⟩ = #[Value.bool is, .int .u64 TX, .int .u64 TU, .bool dead][j]? := fun j => by
    rw [World.cell?_of_block (hgrow.block w.heap.size (by simp) (by simp [Value.ownBlock]))]
    exact cell_of_row (w.alloc _) w.heap.size j _ 64 (0, 0) (by show (w.heap.push _)[w.heap.size]? = _; simp)
  have b0 := hbx 0
  have b1 := hbx 1
  have b2 := hbx 2
  have b3 := hbx 3
  simp at b0 b1 b2 b3
  have hrf : Rf w4 w.heap.size g' n cap' r := by
    have := hown
    unfold Rf
    simpa using this
  have HR := Lib.hid hrf
  have HG := Lib.hid hgrow
  have c0 := hrf.is i hi
  have c1 := hrf.txn i hi
  have c2 := hrf.turn i hi
  have c3 := hrf.dead i hi
  have f := fun j => World.ownsRow.frozenAt hrf j
  clear hrf hgrow hown hbx hnil
  go_simp
  go_wp2_with fail
  go_ret
  have hS := HR.out.set i hi ⟨is, txn, turn, dead⟩
  subst htx htu
  have g1 : Below w.heap.size w w4 := (((Below.refl _ _).alloc (Nat.le_refl _) _) : Below w.heap.size w (w.alloc (Obj.cells #[.bool is, .int .u64 (txn : Int), .int .u64 (turn : Int), .bool dead] 64))).grown HG.out (by simp) (fun j hj => by simp [Value.ownBlock] at hj)
  exact ⟨⟨g', cap', rfl, hS⟩, (((g1.setCell hbg _).setCell hbg _).setCell hbg _).setCell hbg _⟩

theorem Rf.mono {w : World} {base base' g n cap : Nat} {r : Nat → Sl} (h : Rf w base g n cap r) (hb : base' ≤ base) : Rf w base' g n cap r :=
  ⟨h.1, h.2.imp (fun x => x) (fun ⟨g, cap, cur, h1, h2, h3⟩ => ⟨g, cap, cur, h1, Nat.le_trans hb h2, h3⟩)⟩
theorem Rf.kp {w w' : World} {base g n cap B : Nat} {r : Nat → Sl} (h : Rf w base g n cap r) (k : Kp B w w') (hB : B < base) : Rf w' base g n cap r := own_kp h k hB
theorem Rf.below {w w' : World} {base g n cap : Nat} {r : Nat → Sl} (h : Rf w base g n cap r) (k : Below w.heap.size w w') : Rf w' base g n cap r := own_below h k
theorem Rf.lt {w : World} {base g n cap : Nat} {r : Nat → Sl} (h : Rf w base g n cap r) : base ≤ g ∧ g < w.heap.size := World.ownsRow.lt h g rfl
theorem new18_no (z : Int) (w : World) (hz : z < 1 ∨ 126 < z) : Calls Try.prog 18 #[.int .i64 z] w fun e w' => e = .returned (.tuple #[.slice none 0 0, .int .i64 1]) ∧ w = w' := by
  go_enter Try.func18, Try.ntmps18
  rcases hz with hz | hz
  · go_wp2
    go_ret2
    exact ⟨rfl, rfl⟩
  · have q : decide (z < 1) = false := by simp; omega
    go_wp2
    go_ret2
    exact ⟨rfl, rfl⟩
theorem made_rv (n : Nat) : (madeCells #[.bool false, .int .u64 0, .int .u64 0, .bool false] (n * 4)).toList = rv zs n := by
  refine rv_ext _ _ _ (by simp [madeCells]) (fun i c hi hc => ?_)
  have : i * 4 + c < n * 4 := by omega
  match c with
  | 0 => simp [madeCells, rc, zs, show i < n by omega]
  | 1 => simp [madeCells, rc, zs, show i * 4 + 1 < n * 4 by omega, show (i * 4 + 1) % 4 = 1 by omega]
  | 2 => simp [madeCells, rc, zs, show i * 4 + 2 < n * 4 by omega, show (i * 4 + 2) % 4 = 2 by omega]
  | 3 => simp [madeCells, rc, zs, show i * 4 + 3 < n * 4 by omega, show (i * 4 + 3) % 4 = 3 by omega]
  | c + 4 => omega
theorem new18_yes (n : Nat) (h1 : 1 ≤ n) (h2 : n ≤ 126) (w : World) : Calls Try.prog 18 #[.int .i64 (n : Int)] w fun e w' => e = .returned (.tuple #[.slice (some ⟨w.heap.size, 0, none⟩) n n, .int .i64 0]) ∧ Rf w' w.heap.size w.heap.size n n zs ∧ Below w.heap.size w w' := by
  obtain ⟨i0, hI1, hI2, hI3, hI4⟩ := info_parts info64
  have q1 : decide ((n : Int) < 1) = false := by simp; omega
  have q2 : decide (126 < (n : Int)) = false := by simp; omega
  go_enter Try.func18, Try.ntmps18
  go_wp2_with (at_make; refine wpList_make_full _ rfl _ _ 39 rfl w.heap.size 64 i0 _ 4 Try.underlying39 hI1 hI2 hI3 _ _ _ _ n rfl rfl rfl rfl ?b1 ?b2 ?b3 ?_)
  case b1 => rw [hI4]; omega
  case b2 => simp [maxLen]; omega
  case b3 => exact Nat.le_refl _
  intro w1 hown hgrow
  have hown : w1.ownsRow w.heap.size 64 4 (.slice (some ⟨w.heap.size, 0, none⟩) n n) n (rv zs n) := by rw [← made_rv]; exact hown
  have HO := Lib.hid hown
  have HG := Lib.hid hgrow
  clear hown hgrow
  go_wp2
  go_ret2
  exact ⟨rfl, HO.out, (Below.refl _ _).grown HG.out (Nat.le_refl _) (fun k hk => by cases hk)⟩
set_option maxRecDepth 100000 in
theorem good28_low (a : Option Addr) (n cap : Nat) (s t : Int) (w : World) (hs : s < 0) :
    Calls Try.prog 28 #[.slice a n cap, .int .i64 s, .int .u64 t] w fun e w' => e = .returned (.bool false) ∧ w = w' := by
  have q1 : decide (0 ≤ s) = false := by simp; omega
  clear hs
  go_enter Try.func28, Try.ntmps28
  go_wp2
  go_ret
  exact ⟨rfl, rfl⟩
set_option maxRecDepth 100000 in
theorem good28_high (a : Option Addr) (n cap : Nat) (s t : Int) (w : World) (hs : 0 ≤ s) (hn : (n : Int) ≤ s) :
    Calls Try.prog 28 #[.slice a n cap, .int .i64 s, .int .u64 t] w fun e w' => e = .returned (.bool false) ∧ w = w' := by
  have q1 : decide (0 ≤ s) = true := by simp; omega
  have q2 : decide (s < (n : Int)) = false := by simp; omega
  clear hs hn
  go_enter Try.func28, Try.ntmps28
  go_wp2
  go_ret
  exact ⟨rfl, rfl⟩
set_option maxRecDepth 100000 in
theorem good28_in (base g n cap : Nat) (r : Nat → Sl) (i : Nat) (t : Int) (w : World) (h : Rf w base g n cap r) (hi : i < n) :
    Calls Try.prog 28 #[.slice (some ⟨g, 0, none⟩) n cap, .int .i64 (i : Int), .int .u64 t] w fun e w' => e = .returned (.bool ((r i).is && (((r i).turn : Int) == t))) ∧ w = w' := by
  have q1 : decide (0 ≤ (i : Int)) = true := by simp
  have q2 : decide (i < n) = true := by simpa using hi
  have c0 := h.is i hi
  have c2 := h.turn i hi
  have HI := Lib.hid hi
  clear h hi
  generalize (r i).turn = tu at *
  cases hb : (r i).is
  · rw [hb] at c0
    clear hb
    go_enter Try.func28, Try.ntmps28
    go_wp2
    go_ret
    exact ⟨rfl, rfl⟩
  · rw [hb] at c0
    clear hb
    go_enter Try.func28, Try.ntmps28
    go_wp2
    go_ret
    exact ⟨rfl, rfl⟩
theorem good28_none (s t : Int) (w : World) (cap : Nat) : Calls Try.prog 28 #[.slice none 0 cap, .int .i64 s, .int .u64 t] w fun e w' => e = .returned (.bool false) ∧ w = w' := by
  by_cases h : s < 0
  · exact good28_low _ _ _ _ _ _ h
  · exact good28_high _ _ _ _ _ _ (by omega) (by simp; omega)
theorem live32 (base g n cap : Nat) (r : Nat → Sl) (w : World) (h : Rf w base g n cap r) (hn : n ≤ 126) :
    Calls Try.prog 32 #[.slice (some ⟨g, 0, none⟩) n cap] w fun e w' => e = .returned (.int .i64 (live r n : Nat)) ∧ w = w' := by
  have H := Lib.hid h
  have hnI : (n : Int) ≤ 126 := by omega
  clear h
  go_enter Try.func32, Try.ntmps32
  go_wp2
  go_loop [3, 4] (fun m i => ∃ k : Nat, k ≤ n ∧ i = .int .i64 k ∧ m = .int .i64 (live r k : Nat)) (fun _ i => n - (intOf i).toNat)
  case atStart => exact ⟨0, by omega, rfl, rfl⟩
  case round =>
    obtain ⟨k, hk, rfl, rfl⟩ := hrel
    by_cases hlt : k < n
    · have HLS := Lib.hid (show live r (k + 1) = live r k + if (r k).is = true then 1 else 0 from rfl)
      have c0 := H.out.is k hlt
      have hle := live_le r k
      generalize live r k = m at *
      cases hb : (r k).is
      · rw [hb] at c0
        have HB := Lib.hid hb
        clear hb
        go_wp2
        go_round
        case rel => exact ⟨k + 1, by omega, by go_num, by rw [HLS.out, HB.out]; rfl⟩
        case measure => simp [intOf]; omega
      · rw [hb] at c0
        have HB := Lib.hid hb
        clear hb
        go_wp2
        go_round
        case rel => exact ⟨k + 1, by omega, by go_num, by rw [HLS.out, HB.out]; go_num⟩
        case measure => simp [intOf]; omega
    · obtain rfl : k = n := by omega
      go_wp2
      go_ret
      exact ⟨rfl, rfl⟩
theorem oldest30 (base g n cap : Nat) (r : Nat → Sl) (x : Nat) (w : World) (h : Rf w base g n cap r) (hn : n ≤ 126) :
    Calls Try.prog 30 #[.slice (some ⟨g, 0, none⟩) n cap, .int .u64 (x : Int)] w fun e w' => e = .returned (.int .u64 (oldest r x n : Nat)) ∧ w = w' := by
  have H := Lib.hid h
  have hnI : (n : Int) ≤ 126 := by omega
  clear h
  go_enter Try.func30, Try.ntmps30
  go_wp2
  go_loop [1, 5] (fun m i => ∃ k : Nat, k ≤ n ∧ i = .int .i64 k ∧ m = .int .u64 (oldest r x k : Nat)) (fun _ i => n - (intOf i).toNat)
  case atStart => exact ⟨0, by omega, rfl, rfl⟩
  case round =>
    obtain ⟨k, hk, rfl, rfl⟩ := hrel
    by_cases hlt : k < n
    · have HLS := Lib.hid (show oldest r x (k + 1) = if (r k).is = true then min (oldest r x k) (r k).txn else oldest r x k from rfl)
      have c0 := H.out.is k hlt
      have c1 := H.out.txn k hlt
      generalize oldest r x k = m at *
      generalize ht : (r k).txn = t at *
      cases hb : (r k).is
      · rw [hb] at c0
        have HB := Lib.hid hb
        clear hb
        go_wp2
        go_round
        case rel => exact ⟨k + 1, by omega, by go_num, by rw [HLS.out, HB.out]; rfl⟩
        case measure => simp [intOf]; omega
      · rw [hb] at c0
        have HB := Lib.hid hb
        clear hb
        by_cases hc : t < m
        · go_wp2
          go_round
          case rel => exact ⟨k + 1, by omega, by go_num, by rw [HLS.out, HB.out, if_pos rfl, Nat.min_eq_right (by omega)]⟩
          case measure => simp [intOf]; omega
        · have q : decide (t < m) = false := by simpa using hc
          clear hc
          have HQ := Lib.hid q
          go_wp2
          go_round
          case rel => exact ⟨k + 1, by omega, by go_num, by rw [HLS.out, HB.out, if_pos rfl, Nat.min_eq_left (by have := HQ.out; simp at this; omega)]⟩
          case measure => simp [intOf]; omega
    · obtain rfl : k = n := by omega
      go_wp2
      go_ret
      exact ⟨rfl, rfl⟩
end Go.Proofs.Ytlgammcbhgmpoaa
