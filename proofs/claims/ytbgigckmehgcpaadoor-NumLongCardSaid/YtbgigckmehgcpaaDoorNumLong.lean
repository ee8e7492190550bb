/- As many digits as may be go, and one more doesn't; as high, and as low, an exponent as may be goes. -/
import Derived.Test.YtbgigckmehgcpaaDoorNumB
import Derived.Test.YtbgigckmehgcpaaDoorExtE
import Derived.Lib.ConvBytes
namespace Go.Proofs.YtbgigckmehgcpaaDoor
set_option linter.unusedVariables false
set_option linter.unusedSimpArgs false
open Go.RowKit Go.Proofs.YtbgigckmehgcpaaDoorW.PrintWords Go.Proofs.YtbgigckmehgcpaaDoorW.PrintLast Go.Proofs.YtbgigckmehgcpaaDoorW.PrintMore
/-- the digit at a place -/
def lgD (zs : List Int) (len k : Nat) : Int := if k < len then (zs.getD k 0) % 10 else 5
def lgE (zs : List Int) (len k : Nat) : Int := if k = 38 ∧ lgD zs len k = 0 then 3 else lgD zs len k
def lgS (zs : List Int) (len : Nat) : Nat → List UInt8
  | 0 => [49]
  | k + 1 => lgS zs len k ++ [UInt8.ofNat (48 + (lgE zs len k).toNat)]
theorem conv_one (W : World) (x : Int) : Sem.run Tryd.prog (convert 43 9 (.slice (some ⟨W.heap.size, 0, none⟩) 1 1)) (W.alloc (.cells #[.int .u8 x] 5)) = .ok (.string (ofL [UInt8.ofNat x.toNat])) (W.alloc (.cells #[.int .u8 x] 5)) := by
  rw [run_convert_bytes_string _ 43 9 5 _ _ _ Tryd.underlying43 Tryd.underlying5 Tryd.underlying9]
  have hcell : (W.alloc (.cells #[.int .u8 x] 5)).cell? ⟨W.heap.size, 0, none⟩ = some (.int .u8 x) := by
    rw [World.cell?_alloc_at _ _ _ _ rfl]; rfl
  rw [run_bytesToString _ _ _ _ [x] (by go_simp)]
  rfl
theorem lgS_len (zs : List Int) (len : Nat) : ∀ k, (lgS zs len k).length = k + 1
  | 0 => rfl
  | k + 1 => by simp [lgS, lgS_len zs len k]
theorem lgS_next (zs : List Int) (len k : Nat) (v : Int) (h : lgE zs len k = v) (hv : 0 ≤ v) : ofL (lgS zs len k) ++ ofL [UInt8.ofNat (48 + v).toNat] = ofL (lgS zs len (k + 1)) := by
  rw [ofL_app]
  simp only [lgS, h]
  rw [show (48 + v).toNat = 48 + v.toNat by omega]
/-! what is told of the digits -/
theorem lgE_bd (zs : List Int) (len k : Nat) (hz : ∀ j, 0 ≤ zs.getD j 0 ∧ zs.getD j 0 ≤ 255) : 0 ≤ lgE zs len k ∧ lgE zs len k ≤ 9 ∧ (k = 38 → lgE zs len k ≠ 0) := by
  have h := hz k
  unfold lgE lgD
  generalize zs.getD k 0 = z at *
  by_cases hk : k < len
  · rw [if_pos hk]
    by_cases h2 : k = 38 ∧ z % 10 = 0
    · rw [if_pos h2]; omega
    · rw [if_neg h2]; omega
  · rw [if_neg hk]; split <;> omega
theorem lgS_all (zs : List Int) (len : Nat) (hz : ∀ j, 0 ≤ zs.getD j 0 ∧ zs.getD j 0 ≤ 255) : ∀ k, (lgS zs len k).all NumP.isD = true ∧ (lgS zs len k).head? = some 49
  | 0 => ⟨rfl, rfl⟩
  | k + 1 => by
    obtain ⟨h1, h2⟩ := lgS_all zs len hz k
    obtain ⟨b1, b2, -⟩ := lgE_bd zs len k hz
    simp only [lgS]
    refine ⟨?_, ?_⟩
    · rw [List.all_append, h1, List.all_cons]
      have : NumP.isD (UInt8.ofNat (48 + (lgE zs len k).toNat)) = true := by
        have : (UInt8.ofNat (48 + (lgE zs len k).toNat)).toNat = 48 + (lgE zs len k).toNat := by simp; omega
        simp only [NumP.isD, this, decide_eq_true_eq]; omega
      rw [this]; rfl
    · rw [List.head?_append, h2]; rfl
theorem lgS_last (zs : List Int) (len : Nat) (hz : ∀ j, 0 ≤ zs.getD j 0 ∧ zs.getD j 0 ≤ 255) : (lgS zs len 39).getLast? ≠ some 48 := by
  obtain ⟨b1, b2, b3⟩ := lgE_bd zs len 38 hz
  have := b3 rfl
  show (lgS zs len 38 ++ [UInt8.ofNat (48 + (lgE zs len 38).toNat)]).getLast? ≠ some 48
  rw [List.getLast?_append]
  simp only [List.getLast?_singleton, Option.some_or, ne_eq, Option.some.injEq]
  intro e
  have h1 : (UInt8.ofNat (48 + (lgE zs len 38).toNat)).toNat = 48 + (lgE zs len 38).toNat := by simp; omega
  rw [e] at h1
  have : (48 : UInt8).toNat = 48 := rfl
  omega
/-- the digits of a number: forty, the first and the last no noughts -/
structure Forty (S : List UInt8) : Prop where
  len : S.length = 40
  dig : S.all NumP.isD = true
  fst : S.head? = some 49
  lst : S.getLast? ≠ some 48
theorem Forty.ne {S : List UInt8} (h : Forty S) : S ≠ [] := by intro z; have := h.len; rw [z] at this; simp at this
theorem Forty.form {S : List UInt8} (h : Forty S) (e : Int) : NumP.form false S e = (false, S, e) := by
  unfold NumP.form
  rw [lstrip_id S (by rw [h.fst]; simp), rstrip_id S h.lst, if_neg h.ne]
  congr 2; omega
theorem Forty.right {S : List UInt8} (h : Forty S) (e : Int) : NumP.right (false, S, e) = (decide (-999 ≤ e) && decide (e ≤ 999)) := by
  unfold NumP.right
  rw [if_neg h.ne]
  have a2 : (S.getLast? != some 48) = true := by simpa using h.lst
  simp only [h.dig, h.fst, a2, h.len]
  rfl
theorem Forty.more {S : List UInt8} (h : Forty S) (e : Int) : (if NumP.right (NumP.form false (S ++ [55]) e) = true then (NumP.form false (S ++ [55]) e, (0 : Int)) else (NumP.zero, 13)).2 = 13 := by
  have hf : NumP.form false (S ++ [55]) e = (false, S ++ [55], e) := by
    unfold NumP.form
    rw [lstrip_id _ (by rw [List.head?_append, h.fst]; simp), rstrip_id _ (by simp), if_neg (by simp)]
    congr 2; omega
  have hr : NumP.right (false, S ++ [55], e) = false := by
    unfold NumP.right
    rw [if_neg (by simp)]
    have : decide ((S ++ [55]).length ≤ 40) = false := by rw [decide_eq_false_iff_not, List.length_append, h.len]; simp
    simp only [this, Bool.and_false, Bool.false_and]
  rw [hf, hr]; rfl
theorem Forty.is0 {S x : List UInt8} (h : Forty S) {less : Bool} {E : List UInt8} (hx : NumP.Expo x less E) : NumP.Is (S ++ x) false S [] less E :=
  ⟨h.ne, h.dig, fun _ => by rw [h.fst]; simp, rfl, x, hx, by simp [NumP.sgn, NumP.dot]⟩
theorem Forty.isP {S : List UInt8} (h : Forty S) (k : Nat) (hk : 1 ≤ k ∧ k ≤ 39) (T : List UInt8) (hT : T.all NumP.isD = true) : NumP.Is (S.take k ++ [46] ++ S.drop k ++ T) false (S.take k) (S.drop k ++ T) false [] := by
  have e := List.take_append_drop k S
  have hd := h.dig
  rw [← e, List.all_append, Bool.and_eq_true] at hd
  have hl := h.len
  have hne : S.drop k ≠ [] := by intro z; have : (S.drop k).length = 0 := by rw [z]; rfl
                                 rw [List.length_drop] at this; omega
  refine ⟨?_, hd.1, fun _ => ?_, by rw [List.all_append, hd.2, hT]; rfl, [], ⟨.inl ⟨rfl, rfl, rfl⟩⟩, ?_⟩
  · intro z; have : (S.take k).length = 0 := by rw [z]; rfl
    rw [List.length_take] at this; omega
  · rw [List.head?_take, if_neg (by omega), h.fst]; simp
  · have : NumP.dot (S.drop k ++ T) = 46 :: (S.drop k ++ T) := by
      unfold NumP.dot
      cases hz : S.drop k ++ T with
      | nil => exact absurd (List.append_eq_nil_iff.1 hz).1 hne
      | cons _ _ => rfl
    rw [this]; simp [NumP.sgn]
theorem Forty.v1 {S : List UInt8} (h : Forty S) : NumP.parse S = ((false, S, 0), 0) := by
  have hi := h.is0 (x := []) (less := false) (E := []) ⟨.inl ⟨rfl, rfl, rfl⟩⟩
  rw [List.append_nil] at hi
  have hx : (if false = true then -NumP.pow [] else NumP.pow []) - (([] : List UInt8).length : Int) = 0 := by decide
  rw [parse_of_is hi, List.append_nil, hx, h.form, h.right]; rfl
theorem Forty.v2 {S : List UInt8} (h : Forty S) (k : Nat) (hk : 1 ≤ k ∧ k ≤ 39) : NumP.parse (S.take k ++ [46] ++ S.drop k) = ((false, S, (k : Int) - 40), 0) := by
  have hi := h.isP k hk [] rfl
  rw [List.append_nil, List.append_nil] at hi
  have hpw : NumP.pow [] = 0 := by decide
  rw [parse_of_is hi, List.take_append_drop, h.form, h.right]
  have hl : ((S.drop k).length : Int) = 40 - k := by rw [List.length_drop, h.len]; omega
  simp only [Bool.false_eq_true, if_false, hpw, hl]
  rw [decide_eq_true (by omega), decide_eq_true (by omega)]
  simp only [Bool.and_self, if_true]
  congr 3; omega
theorem Forty.v3 {S : List UInt8} (h : Forty S) : (NumP.parse (S ++ [55])).2 = 13 := by
  have hi : NumP.Is (S ++ [55]) false (S ++ [55]) [] false [] := ⟨by simp, by rw [List.all_append, h.dig]; rfl, fun _ => by rw [List.head?_append, h.fst]; simp, rfl, [], ⟨.inl ⟨rfl, rfl, rfl⟩⟩, by simp [NumP.sgn, NumP.dot]⟩
  rw [parse_of_is hi, List.append_nil]; exact h.more _
theorem Forty.v4 {S : List UInt8} (h : Forty S) (k : Nat) (hk : 1 ≤ k ∧ k ≤ 39) : (NumP.parse (S.take k ++ [46] ++ S.drop k ++ [55])).2 = 13 := by
  have hi := h.isP k hk [55] rfl
  rw [parse_of_is hi, ← List.append_assoc, List.take_append_drop]; exact h.more _
theorem Forty.v5 {S : List UInt8} (h : Forty S) {x E : List UInt8} {less : Bool} (hx : NumP.Expo x less E) (e : Int) (he : (if less = true then - NumP.pow E else NumP.pow E) = e) : (NumP.parse (S ++ x)).2 = if -999 ≤ e ∧ e ≤ 999 then 0 else 13 := by
  rw [parse_of_is (h.is0 hx), he, List.append_nil, h.form, h.right]
  simp only [List.length_nil]
  by_cases q : -999 ≤ e ∧ e ≤ 999
  · rw [if_pos q, decide_eq_true (by simp; omega), decide_eq_true (by simp; omega)]; rfl
  · rw [if_neg q]
    have : (decide (-999 ≤ e - ((0 : Nat) : Int)) && decide (e - ((0 : Nat) : Int) ≤ 999)) = false := by
      rw [Bool.and_eq_false_iff, decide_eq_false_iff_not, decide_eq_false_iff_not]; omega
    rw [this]; rfl
theorem ex_a : NumP.Expo [101, 57, 57, 57] false [57, 57, 57] := ⟨.inr ⟨101, [], .inl rfl, .inl ⟨rfl, rfl⟩, by simp, by decide, rfl⟩⟩
theorem ex_b : NumP.Expo [101, 49, 48, 48, 48] false [49, 48, 48, 48] := ⟨.inr ⟨101, [], .inl rfl, .inl ⟨rfl, rfl⟩, by simp, by decide, rfl⟩⟩
theorem ex_c : NumP.Expo [101, 45, 57, 57, 57] true [57, 57, 57] := ⟨.inr ⟨101, [45], .inl rfl, .inr (.inr ⟨rfl, rfl⟩), by simp, by decide, rfl⟩⟩
theorem ex_d : NumP.Expo [101, 45, 49, 48, 48, 48] true [49, 48, 48, 48] := ⟨.inr ⟨101, [45], .inl rfl, .inr (.inr ⟨rfl, rfl⟩), by simp, by decide, rfl⟩⟩
def nlT16 : Bool × List (List Nat × List Nat) := (true, [([], []), ([], []), ([0, 1], [0, 1]), ([2], [2]), ([], []), ([], []), ([4, 5], [4, 5]), ([3, 6], [3, 6]), ([7], [7]), ([8], [8]), ([9], [9]), ([9], [9]), ([], []), ([12, 10, 8, 0, 1, 2, 3, 4, 5, 6, 7, 8, 9, 10, 12], [10, 12]), ([11, 13, 0, 1, 2, 3, 4, 5, 6, 7, 8, 9, 10, 11, 12, 13], [11])])
def nlB16 : List Nat := [0, 0, 3, 7, 0, 0, 48, 127, 255, 511, 1023, 1023, 0, 6143, 16383]
theorem nlTab16 : rtab .any (opsOf Tryd.f9 16) = nlT16 := by kernel_rfl
theorem nlBits16 : waitsOk nlT16.2 nlB16 = true := by kernel_rfl
def nlT18 : Bool × List (List Nat × List Nat) := (true, [([], []), ([], []), ([0, 1], [0, 1]), ([2], [2]), ([], []), ([], []), ([4, 5], [4, 5]), ([3, 6], [3, 6]), ([7], [7]), ([8], [8]), ([9], [9]), ([10], [10]), ([10], [10]), ([], []), ([13, 11, 9, 0, 1, 2, 3, 4, 5, 6, 7, 8, 9, 10, 11, 13], [11, 13]), ([12, 14, 0, 1, 2, 3, 4, 5, 6, 7, 8, 9, 10, 11, 12, 13, 14], [12])])
def nlB18 : List Nat := [0, 0, 3, 7, 0, 0, 48, 127, 255, 511, 1023, 2047, 2047, 0, 12287, 32767]
theorem nlTab18 : rtab .any (opsOf Tryd.f9 18) = nlT18 := by kernel_rfl
theorem nlBits18 : waitsOk nlT18.2 nlB18 = true := by kernel_rfl
set_option maxRecDepth 100000 in
set_option maxHeartbeats 4000000 in
theorem long_walk (a0 : Option Addr) (len cap : Nat) (zs : List Int) (p : Int) (w : World) (hT : Tabs w) (hlen : len = 0 ∨ ∃ ad, a0 = some ad ∧ ∀ j, j < len → w.cell? (ad.add j) = some (.int .u8 (zs.getD j 0)))
    (hz : ∀ j, 0 ≤ zs.getD j 0 ∧ zs.getD j 0 ≤ 255) (hp : 0 ≤ p ∧ p ≤ 255) (hl : len ≤ 140737488351232) :
    Calls Tryd.prog 9 #[.slice a0 len cap, .int .u8 p] w fun e w' => e = .returned (.bool true) ∧ Below w.heap.size w w' := by
  have HT := Lib.hid hT
  clear hT
  go_enter Tryd.func9, Tryd.ntmps9
  go_wp2_with fail
  refine (rubricatorlaw14_awake.calls true w HT.out rfl).mono ?_
  rintro e w1 ⟨rfl, hb⟩
  have HB := Lib.hid hb
  clear hb
  go_wp2
  go_loopw [6, 7] (fun vs vi w' => ∃ k : Nat, k ≤ 39 ∧ vi = .int .i64 k ∧ vs = .string (ofL (lgS zs len k)) ∧ Hid (Below w.heap.size w w')) (fun _ vi _ => 39 - (intOf vi).toNat)
  case atStart => exact ⟨0, by omega, rfl, rfl, HB⟩
  case round =>
    obtain ⟨k, hk, rfl, rfl, HR⟩ := hrel
    have hcv := conv_one
    by_cases hk9 : k < 39
    · by_cases hkl : k < len
      · obtain ⟨ad, rfl, hc⟩ : ∃ ad, a0 = some ad ∧ ∀ j, j < len → w.cell? (ad.add j) = some (.int .u8 (zs.getD j 0)) := by
          rcases hlen with h | h
          · omega
          · exact h
        have hck := pw_cell_below HR.out (hc k hkl)
        have hD : lgD zs len k = zs.getD k 0 % 10 := by unfold lgD; rw [if_pos hkl]
        have hEE : lgE zs len k = if k = 38 ∧ zs.getD k 0 % 10 = 0 then 3 else zs.getD k 0 % 10 := by unfold lgE; rw [hD]
        clear hc hlen hD
        obtain ⟨z0, z1⟩ := hz k
        clear hz
        generalize zs.getD k 0 = z at *
        by_cases h38 : k = 38
        · by_cases hz0 : z % 10 = 0
          · have hE : lgE zs len k = 3 := by rw [hEE, if_pos ⟨h38, hz0⟩]
            clear hEE
            have h38' : ((k : Int) == 38) = true := by rw [beq_iff_eq]; omega
            clear h38
            have hz0' : (z % 10 == 0) = true := by rw [beq_iff_eq]; exact hz0
            clear hz0
            have hcat : (ofL (lgS zs len k)).size + (ofL [51]).size ≤ 9223372036854775807 := by rw [ofL_size, ofL_size, lgS_len]; simp; omega
            have HN := Lib.hid (show ofL (lgS zs len k) ++ ofL [51] = ofL (lgS zs len (k + 1)) from lgS_next zs len k 3 hE (by omega))
            clear hE
            generalize ofL (lgS zs len k) = S at *
            go_wp2
            go_roundw
            case rel => exact ⟨k + 1, by omega, by go_num, by first | (rw [← HN.out]; done) | (rw [← HN.out]; rfl), below_alloc HR.out _⟩
            case measure => simp [intOf]; omega
          · have hE : lgE zs len k = z % 10 := by rw [hEE, if_neg (fun q => hz0 q.2)]
            clear hEE
            have h38' : ((k : Int) == 38) = true := by rw [beq_iff_eq]; omega
            clear h38
            have hz0' : (z % 10 == 0) = false := by rw [beq_eq_false_iff_ne]; exact hz0
            have hcat : (ofL (lgS zs len k)).size + (ofL [UInt8.ofNat (48 + (z % 10)).toNat]).size ≤ 9223372036854775807 := by rw [ofL_size, ofL_size, lgS_len]; simp; omega
            have HN := Lib.hid (lgS_next zs len k (z % 10) hE (by omega))
            clear hE
            generalize ofL (lgS zs len k) = S at *
            go_wp2
            go_roundw
            case rel => exact ⟨k + 1, by omega, by go_num, by first | (rw [← HN.out]; done) | (rw [← HN.out]; rfl), below_alloc HR.out _⟩
            case measure => simp [intOf]; omega
        · have hE : lgE zs len k = z % 10 := by rw [hEE, if_neg (fun q => h38 q.1)]
          clear hEE
          have h38' : ((k : Int) == 38) = false := by rw [beq_eq_false_iff_ne]; omega
          have hcat : (ofL (lgS zs len k)).size + (ofL [UInt8.ofNat (48 + (z % 10)).toNat]).size ≤ 9223372036854775807 := by rw [ofL_size, ofL_size, lgS_len]; simp; omega
          have HN := Lib.hid (lgS_next zs len k (z % 10) hE (by omega))
          clear hE
          generalize ofL (lgS zs len k) = S at *
          go_wp2
          go_roundw
          case rel => exact ⟨k + 1, by omega, by go_num, by first | (rw [← HN.out]; done) | (rw [← HN.out]; rfl), below_alloc HR.out _⟩
          case measure => simp [intOf]; omega
      · have hD : lgD zs len k = 5 := by unfold lgD; rw [if_neg hkl]
        have hE : lgE zs len k = 5 := by unfold lgE; rw [hD, if_neg (by omega)]
        clear hlen hD hz
        by_cases h38 : k = 38
        · have h38' : ((k : Int) == 38) = true := by rw [beq_iff_eq]; omega
          clear h38
          have hcat : (ofL (lgS zs len k)).size + (ofL [53]).size ≤ 9223372036854775807 := by rw [ofL_size, ofL_size, lgS_len]; simp; omega
          have HN := Lib.hid (show ofL (lgS zs len k) ++ ofL [53] = ofL (lgS zs len (k + 1)) from lgS_next zs len k 5 hE (by omega))
          clear hE
          generalize ofL (lgS zs len k) = S at *
          go_wp2
          go_roundw
          case rel => exact ⟨k + 1, by omega, by go_num, by first | (rw [← HN.out]; done) | (rw [← HN.out]; rfl), below_alloc HR.out _⟩
          case measure => simp [intOf]; omega
        · have h38' : ((k : Int) == 38) = false := by rw [beq_eq_false_iff_ne]; omega
          have hcat : (ofL (lgS zs len k)).size + (ofL [53]).size ≤ 9223372036854775807 := by rw [ofL_size, ofL_size, lgS_len]; simp; omega
          have HN := Lib.hid (show ofL (lgS zs len k) ++ ofL [53] = ofL (lgS zs len (k + 1)) from lgS_next zs len k 5 hE (by omega))
          clear hE
          generalize ofL (lgS zs len k) = S at *
          go_wp2
          go_roundw
          case rel => exact ⟨k + 1, by omega, by go_num, by first | (rw [← HN.out]; done) | (rw [← HN.out]; rfl), below_alloc HR.out _⟩
          case measure => simp [intOf]; omega
    · have : k = 39 := by omega
      subst this
      have hF : Forty (lgS zs len 39) := ⟨lgS_len zs len 39, (lgS_all zs len hz 39).1, (lgS_all zs len hz 39).2, lgS_last zs len hz⟩
      clear hk hk9 hcv hlen hz
      generalize lgS zs len 39 = S at *
      obtain ⟨n, hn⟩ : ∃ n : Nat, (n : Int) = p % 39 + 1 := ⟨(p % 39 + 1).toNat, by omega⟩
      have hn1 : 1 ≤ n ∧ n ≤ 39 := by omega
      have hSl : S.length = 40 := hF.len
      have P1 := Lib.hid ((parse_f S (by omega)).trans (by rw [hF.v1]))
      have P2 := Lib.hid ((parse_f (S.take n ++ [46] ++ S.drop n) (by simp; omega)).trans (by rw [hF.v2 n hn1]))
      have P3 := Lib.hid ((parse_f (S ++ [55]) (by simp; omega)).trans (by rw [hF.v3]))
      have P4 := Lib.hid ((parse_f (S.take n ++ [46] ++ S.drop n ++ [55]) (by simp; omega)).trans (by rw [hF.v4 n hn1]))
      have P5 := Lib.hid ((parse_f (S ++ [101, 57, 57, 57]) (by simp; omega)).trans (by rw [hF.v5 ex_a 999 (by decide), if_pos (by omega)]))
      have P6 := Lib.hid ((parse_f (S ++ [101, 49, 48, 48, 48]) (by simp; omega)).trans (by rw [hF.v5 ex_b 1000 (by decide), if_neg (by omega)]))
      have P7 := Lib.hid ((parse_f (S ++ [101, 45, 57, 57, 57]) (by simp; omega)).trans (by rw [hF.v5 ex_c (-999) (by decide), if_pos (by omega)]))
      have P8 := Lib.hid ((parse_f (S ++ [101, 45, 49, 48, 48, 48]) (by simp; omega)).trans (by rw [hF.v5 ex_d (-1000) (by decide), if_neg (by omega)]))
      generalize (NumP.parse (S ++ [55])).fst = y3 at P3
      generalize (NumP.parse (S.take n ++ [46] ++ S.drop n ++ [55])).fst = y4 at P4
      generalize (NumP.parse (S ++ [101, 57, 57, 57])).fst = y5 at P5
      generalize (NumP.parse (S ++ [101, 49, 48, 48, 48])).fst = y6 at P6
      generalize (NumP.parse (S ++ [101, 45, 57, 57, 57])).fst = y7 at P7
      generalize (NumP.parse (S ++ [101, 45, 49, 48, 48, 48])).fst = y8 at P8
      obtain ⟨b3, d3, e3⟩ := y3
      obtain ⟨b4, d4, e4⟩ := y4
      obtain ⟨b5, d5, e5⟩ := y5
      obtain ⟨b6, d6, e6⟩ := y6
      obtain ⟨b7, d7, e7⟩ := y7
      obtain ⟨b8, d8, e8⟩ := y8
      simp only at P3 P4 P5 P6 P7 P8
      have Q1 : (ofL S).extract 0 n = ofL (S.take n) := by rw [ofL_ext]; simp
      have Q2 : (ofL S).extract n (ofL S).size = ofL (S.drop n) := by rw [ofL_ext, ofL_size, List.take_length]
      have Q3 : (ofL S).size = 40 := by rw [ofL_size, hSl]
      simp only [← ofL_app] at P1 P2 P3 P4 P5 P6 P7 P8
      rw [← Q1, ← Q2] at P2 P4
      have Q4 : ((ofL S).extract 0 n).size + (1 : Nat) ≤ 9223372036854775807 := by rw [Q1, ofL_size, List.length_take]; omega
      have Q5 : ((ofL S).extract 0 n ++ (⟨#[46]⟩ : ByteArray)).size + ((ofL S).extract n (ofL S).size).size ≤ 9223372036854775807 := by rw [Q1, Q2, ByteArray.size_append, ofL_size, ofL_size, List.length_take, List.length_drop]; show _ + 1 + _ ≤ _; omega
      have Q6 : ((ofL S).extract 0 n ++ (⟨#[46]⟩ : ByteArray) ++ (ofL S).extract n (ofL S).size).size + (1 : Nat) ≤ 9223372036854775807 := by rw [Q1, Q2, ByteArray.size_append, ByteArray.size_append, ofL_size, ofL_size, List.length_take, List.length_drop]; show _ + 1 + _ + 1 ≤ _; omega
      change Hid (num_Parse.f ((ofL S).extract 0 n ++ (⟨#[46]⟩ : ByteArray) ++ (ofL S).extract n (ofL S).size) = _) at P2
      change Hid (num_Parse.f (ofL S ++ (⟨#[55]⟩ : ByteArray)) = _) at P3
      change Hid (num_Parse.f ((ofL S).extract 0 n ++ (⟨#[46]⟩ : ByteArray) ++ (ofL S).extract n (ofL S).size ++ (⟨#[55]⟩ : ByteArray)) = _) at P4
      change Hid (num_Parse.f (ofL S ++ (⟨#[101, 57, 57, 57]⟩ : ByteArray)) = _) at P5
      change Hid (num_Parse.f (ofL S ++ (⟨#[101, 49, 48, 48, 48]⟩ : ByteArray)) = _) at P6
      change Hid (num_Parse.f (ofL S ++ (⟨#[101, 45, 57, 57, 57]⟩ : ByteArray)) = _) at P7
      change Hid (num_Parse.f (ofL S ++ (⟨#[101, 45, 49, 48, 48, 48]⟩ : ByteArray)) = _) at P8
      generalize ofL d3 = d3 at *
      generalize ofL d4 = d4 at *
      generalize ofL d5 = d5 at *
      generalize ofL d6 = d6 at *
      generalize ofL d7 = d7 at *
      generalize ofL d8 = d8 at *
      clear Q1 Q2 hF hSl
      generalize ofL S = X at *
      have R1 : X.size + (1 : Nat) ≤ 9223372036854775807 := by omega
      have R4 : X.size + (4 : Nat) ≤ 9223372036854775807 := by omega
      have R5 : X.size + (5 : Nat) ≤ 9223372036854775807 := by omega
      have R6 : X.size + (6 : Nat) ≤ 9223372036854775807 := by omega
      have hn0 : (0 : Int) ≤ (n : Int) := by omega
      have hnX : (n : Int) ≤ (X.size : Int) := by omega
      have HB := Lib.hid HR.out
      clear HR
      go_wp2_with fail
      refine (num_Parse.calls _ _ _ _ _ _ P1.out).mono ?_
      rintro e uu1 ⟨rfl, h1⟩
      have n0_ := Lib.hid (below_step HB.out h1)
      clear HB
      have HB := n0_
      clear n0_ h1
      go_upto_region 16 with (fail)
      have Kga := Lib.hid (blk_new uu1 (Obj.cells #[(.bool false), (.string X), (.int .i64 0)] 24))
      have Gga := Lib.hid (below_size HB.out)
      have n0_ := Lib.hid (below_alloc HB.out (Obj.cells #[(.bool false), (.string X), (.int .i64 0)] 24))
      clear HB
      have HB := n0_
      clear n0_
      obtain ⟨ga, hg⟩ : ∃ g, g = uu1.heap.size := ⟨_, rfl⟩
      rw [← hg] at Kga Gga ⊢
      clear hg
      generalize World.alloc uu1 _ = v1 at HB  Kga ⊢
      rw [← hn]
      have hnH := Lib.hid hn
      have Q3H := Lib.hid Q3
      have hnX2 : n ≤ X.size := by omega
      have Z1 : ¬ (9223372036854775807 < n + 1) := by omega
      have Z2 : ¬ (9223372036854775807 < n + 1 + (X.size - n)) := by omega
      have Z3 : ¬ (9223372036854775807 < n + 1 + (X.size - n) + 1) := by omega
      have Z4 : ¬ (9223372036854775807 < X.size + 1) := by omega
      clear hn Q3
      have n0_ := Lib.hid (blk_drew Kga.out)
      clear Kga
      have Kga := n0_
      clear n0_
      have n0_ := Lib.hid (below_drew1 HB.out)
      clear HB
      have HB := n0_
      clear n0_
      refine start_ (n := 15) (S := fun w' => True) (ds := []) #[false, false, false, false, false, false, false, false, false, false, false, false, false, false, false] (by kernel_rfl) rfl rfl trivial (fun hHeld => ?_)
      refine with_tabW nlTab16 nlBits16 (fun HT_ HW_ => ?_)
      generalize World.drew _ = wd16 at HB hHeld Kga ⊢
      refine pure_ (i := 0) (N := some 64) (v := ?_) (a' := ?_) #[true, false, false, false, false, false, false, false, false, false, false, false, false, false, false] rfl rfl (any_of HT_.out (by kernel_rfl)) (fun _ _ _ h => h) (Or.inl ⟨by rfl, ?_⟩) ?_ ?_
      rotate_left
      · intro w'
        go_simp
        with_reducible rfl
      rotate_left
      · simp only [Act.put, List.setIfInBounds_toArray, List.set_cons_zero, List.set_cons_succ, i64_w, i32_w]
        rfl
      refine pure_ (i := 1) (N := some 65) (v := ?_) (a' := ?_) #[true, true, false, false, false, false, false, false, false, false, false, false, false, false, false] rfl rfl (any_of HT_.out (by kernel_rfl)) (fun _ _ _ h => h) (Or.inl ⟨by rfl, ?_⟩) ?_ ?_
      rotate_left
      · intro w'
        go_simp
        with_reducible rfl
      rotate_left
      · simp only [Act.put, List.setIfInBounds_toArray, List.set_cons_zero, List.set_cons_succ, i64_w, i32_w]
        rfl
      refine pure_ (i := 2) (N := some 66) (v := ?_) (a' := ?_) #[true, true, true, false, false, false, false, false, false, false, false, false, false, false, false] rfl rfl (any_of HT_.out (by kernel_rfl)) (fun _ _ _ h => h) (Or.inl ⟨by rfl, ?_⟩) ?_ ?_
      rotate_left
      · intro w'
        go_simp
        with_reducible rfl
      rotate_left
      · simp only [Act.put, List.setIfInBounds_toArray, List.set_cons_zero, List.set_cons_succ, i64_w, i32_w]
        rfl
      refine pure_ (i := 3) (N := some 67) (v := ?_) (a' := ?_) #[true, true, true, true, false, false, false, false, false, false, false, false, false, false, false] rfl rfl (any_of HT_.out (by kernel_rfl)) (fun _ _ _ h => h) (Or.inl ⟨by rfl, ?_⟩) ?_ ?_
      rotate_left
      · intro w'
        go_simp
        with_reducible rfl
      rotate_left
      · simp only [Act.put, List.setIfInBounds_toArray, List.set_cons_zero, List.set_cons_succ, i64_w, i32_w]
        rfl
      refine pure_ (i := 4) (N := some 68) (v := ?_) (a' := ?_) #[true, true, true, true, true, false, false, false, false, false, false, false, false, false, false] rfl rfl (any_of HT_.out (by kernel_rfl)) (fun _ _ _ h => h) (Or.inl ⟨by rfl, ?_⟩) ?_ ?_
      rotate_left
      · intro w'
        go_simp
        with_reducible rfl
      rotate_left
      · simp only [Act.put, List.setIfInBounds_toArray, List.set_cons_zero, List.set_cons_succ, i64_w, i32_w]
        rfl
      refine pure_ (i := 5) (N := some 69) (v := ?_) (a' := ?_) #[true, true, true, true, true, true, false, false, false, false, false, false, false, false, false] rfl rfl (any_of HT_.out (by kernel_rfl)) (fun _ _ _ h => h) (Or.inl ⟨by rfl, ?_⟩) ?_ ?_
      rotate_left
      · intro w'
        go_simp
        with_reducible rfl
      rotate_left
      · simp only [Act.put, List.setIfInBounds_toArray, List.set_cons_zero, List.set_cons_succ, i64_w, i32_w]
        rfl
      refine pure_ (i := 6) (N := some 70) (v := ?_) (a' := ?_) #[true, true, true, true, true, true, true, false, false, false, false, false, false, false, false] rfl rfl (any_of HT_.out (by kernel_rfl)) (fun _ _ _ h => h) (Or.inl ⟨by rfl, ?_⟩) ?_ ?_
      rotate_left
      · intro w'
        go_simp
        with_reducible rfl
      rotate_left
      · simp only [Act.put, List.setIfInBounds_toArray, List.set_cons_zero, List.set_cons_succ, i64_w, i32_w]
        rfl
      refine pure_ (i := 7) (N := some 71) (v := ?_) (a' := ?_) #[true, true, true, true, true, true, true, true, false, false, false, false, false, false, false] rfl rfl (any_of HT_.out (by kernel_rfl)) (fun _ _ _ h => h) (Or.inl ⟨by rfl, ?_⟩) ?_ ?_
      rotate_left
      · intro w'
        go_simp
        with_reducible rfl
      rotate_left
      · simp only [Act.put, List.setIfInBounds_toArray, List.set_cons_zero, List.set_cons_succ, i64_w, i32_w]
        rfl
      refine join_ (σ := Nat) 2 #[true, true, true, true, true, true, true, true, true, true, true, true, true, false, false] (fun s_ => [(72, (.tuple #[.agg #[(.bool false), (.string X), (.int .i64 ((n : Int) - 40))], (.int .i64 0)])), (12, .pointer (some ⟨s_, 0, none⟩)), (63, (.tuple #[.agg #[(.bool false), (.string X), (.int .i64 ((n : Int) - 40))], (.int .i64 0)])), (73, (.agg #[(.bool false), (.string X), (.int .i64 ((n : Int) - 40))])), (74, (.int .i64 0))]) (fun s_ w' => (w'.heap[ga]? = some (.cells #[(.bool false), (.string X), (.int .i64 0)] 24 (0, 0))) ∧ (w'.heap[s_]? = some (.cells #[.bool false, .string (⟨#[]⟩ : ByteArray), .int .i64 0] 24 (0, 0))) ∧ (w.heap.size ≤ s_) ∧ (ga ≠ s_) ∧ (Below w.heap.size w w')) ?_ ?_
      rotate_left
      · intro hCont
        refine two_ (i := 8) (j := 12) (Ni := some 72) (Nj := some 12) #[true, true, true, true, true, true, true, true, true, false, false, false, false, false, false] #[true, true, true, true, true, true, true, true, false, false, false, false, true, false, false] rfl rfl rfl rfl (two_of HT_.out (by kernel_rfl)) (by decide) (by decide) (fun K hK => ?_) (fun K hK => ?_)
        · skip
          refine goes_ Tryd.func11 (by kernel_rfl) rfl #[.string (X.extract 0 n ++ (⟨#[46]⟩ : ByteArray) ++ X.extract n X.size)] (by rfl) rfl rfl (by (try simp only [List.map_toArray, List.map_cons, List.map_nil]); rfl) ?_
          refine (num_Parse.calls _ _ _ _ _ _ P2.out).mono ?_
          rintro e wc ⟨rfl, hb⟩
          refine ⟨_, rfl, ?_⟩
          have n0_ := Lib.hid (blk_below (g := ga) (o := .cells #[(.bool false), (.string X), (.int .i64 0)] 24 (0, 0)) (by (with_reducible repeat (first | refine blk_drewN ?_ _ | refine blk_drew ?_ | refine blk_alloc ?_ _)); exact Kga.out) hb)
          clear Kga
          have Kga := n0_
          clear n0_
          have n0_ := Lib.hid (below_step (by repeat (first | (with_reducible first | exact HB.out | apply below_alloc | apply pw_below_drewN | apply below_drew1 | refine below_set ?_ Gga.out) | exact HB.out)) hb)
          clear HB
          have HB := n0_
          clear n0_ hb
          refine hK.out _ _ trivial (fun hHeld => ?_)
          clear hK K
          refine norm_ (a' := ?_) ?_ ?_
          rotate_left
          · show Act.put _ (some 72) _ = _
            simp only [Act.put, List.setIfInBounds_toArray, List.set_cons_zero, List.set_cons_succ, i64_w, i32_w]
            rfl
          refine pure_ (i := 9) (N := some 63) (v := ?_) (a' := ?_) #[true, true, true, true, true, true, true, true, true, true, false, false, false, false, false] rfl rfl (any_of HT_.out (by kernel_rfl)) (fun _ _ _ h => h) (Or.inl ⟨by rfl, ?_⟩) ?_ ?_
          rotate_left
          · intro w'
            go_simp
            with_reducible rfl
          rotate_left
          · simp only [Act.put, List.setIfInBounds_toArray, List.set_cons_zero, List.set_cons_succ, i64_w, i32_w]
            rfl
          refine pure_ (i := 10) (N := some 73) (v := ?_) (a' := ?_) #[true, true, true, true, true, true, true, true, true, true, true, false, false, false, false] rfl rfl (any_of HT_.out (by kernel_rfl)) (fun _ _ _ h => h) (Or.inl ⟨by rfl, ?_⟩) ?_ ?_
          rotate_left
          · intro w'
            go_simp
            with_reducible rfl
          rotate_left
          · simp only [Act.put, List.setIfInBounds_toArray, List.set_cons_zero, List.set_cons_succ, i64_w, i32_w]
            rfl
          refine pure_ (i := 11) (N := some 74) (v := ?_) (a' := ?_) #[true, true, true, true, true, true, true, true, true, true, true, true, false, false, false] rfl rfl (any_of HT_.out (by kernel_rfl)) (fun _ _ _ h => h) (Or.inl ⟨by rfl, ?_⟩) ?_ ?_
          rotate_left
          · intro w'
            go_simp
            with_reducible rfl
          rotate_left
          · simp only [Act.put, List.setIfInBounds_toArray, List.set_cons_zero, List.set_cons_succ, i64_w, i32_w]
            rfl
          refine one_ (i := 12) (N := some 12) #[true, true, true, true, true, true, true, true, true, true, true, true, true, false, false] rfl rfl (one_of HT_.out (by kernel_rfl)) (by decide) (fun K hK => ?_)
          refine box_step ?hg (N := 12) ?hd (cs := #[.bool false, .string (⟨#[]⟩ : ByteArray), .int .i64 0]) (t := 24) ?hr ?_; (case hd => rfl); (case hg => rfl); (case hr => first | (go_simp; done) | (go_simp; rfl))
          intro gb hg wb hbox hb
          have Ngagb := Lib.hid (show ga ≠ gb by rw [hg]; exact Nat.ne_of_lt (blk_lt (g := ga) (o := .cells #[(.bool false), (.string X), (.int .i64 0)] 24 (0, 0)) (by (with_reducible repeat (first | refine blk_drewN ?_ _ | refine blk_drew ?_ | refine blk_alloc ?_ _)); exact Kga.out)))
          have n0_ := Lib.hid (blk_below (g := ga) (o := .cells #[(.bool false), (.string X), (.int .i64 0)] 24 (0, 0)) (by (with_reducible repeat (first | refine blk_drewN ?_ _ | refine blk_drew ?_ | refine blk_alloc ?_ _)); exact Kga.out) hb)
          clear Kga
          have Kga := n0_
          clear n0_
          have Ggb := Lib.hid (show w.heap.size ≤ gb by rw [hg]; exact (below_size (by repeat (first | (with_reducible first | exact HB.out | apply below_alloc | apply pw_below_drewN | apply below_drew1 | refine below_set ?_ Gga.out) | exact HB.out))))
          have n0_ := Lib.hid (below_step (by repeat (first | (with_reducible first | exact HB.out | apply below_alloc | apply pw_below_drewN | apply below_drew1 | refine below_set ?_ Gga.out) | exact HB.out)) hb)
          clear HB
          have HB := n0_
          have Kgb := Lib.hid hbox
          clear n0_ hb hbox hg
          refine hK.out _ _ trivial (fun hHeld => ?_)
          clear hK K
          refine norm_ (a' := ?_) ?_ ?_
          rotate_left
          · show Act.put _ (some 12) _ = _
            simp only [Act.put, List.setIfInBounds_toArray, List.set_cons_zero, List.set_cons_succ, i64_w, i32_w]
            rfl
          exact norm_ (by simp only [putAll, Act.put, List.setIfInBounds_toArray, List.set_cons_zero, List.set_cons_succ]) (hCont gb _ ⟨(by (with_reducible repeat (first | refine blk_drewN ?_ _ | refine blk_drew ?_ | refine blk_alloc ?_ _)); exact Kga.out), (by (with_reducible repeat (first | refine blk_drewN ?_ _ | refine blk_drew ?_ | refine blk_alloc ?_ _)); exact Kgb.out), Ggb.out, Ngagb.out, (by repeat (first | (with_reducible first | exact HB.out | apply below_alloc | apply pw_below_drewN | apply below_drew1 | refine below_set ?_ Gga.out | refine below_set ?_ Ggb.out) | exact HB.out))⟩)
        · skip
          refine box_step ?hg (N := 12) ?hd (cs := #[.bool false, .string (⟨#[]⟩ : ByteArray), .int .i64 0]) (t := 24) ?hr ?_; (case hd => rfl); (case hg => rfl); (case hr => first | (go_simp; done) | (go_simp; rfl))
          intro gb hg wb hbox hb
          have Ngagb := Lib.hid (show ga ≠ gb by rw [hg]; exact Nat.ne_of_lt (blk_lt (g := ga) (o := .cells #[(.bool false), (.string X), (.int .i64 0)] 24 (0, 0)) (by (with_reducible repeat (first | refine blk_drewN ?_ _ | refine blk_drew ?_ | refine blk_alloc ?_ _)); exact Kga.out)))
          have n0_ := Lib.hid (blk_below (g := ga) (o := .cells #[(.bool false), (.string X), (.int .i64 0)] 24 (0, 0)) (by (with_reducible repeat (first | refine blk_drewN ?_ _ | refine blk_drew ?_ | refine blk_alloc ?_ _)); exact Kga.out) hb)
          clear Kga
          have Kga := n0_
          clear n0_
          have Ggb := Lib.hid (show w.heap.size ≤ gb by rw [hg]; exact (below_size (by repeat (first | (with_reducible first | exact HB.out | apply below_alloc | apply pw_below_drewN | apply below_drew1 | refine below_set ?_ Gga.out) | exact HB.out))))
          have n0_ := Lib.hid (below_step (by repeat (first | (with_reducible first | exact HB.out | apply below_alloc | apply pw_below_drewN | apply below_drew1 | refine below_set ?_ Gga.out) | exact HB.out)) hb)
          clear HB
          have HB := n0_
          have Kgb := Lib.hid hbox
          clear n0_ hb hbox hg
          refine hK.out _ _ trivial (fun hHeld => ?_)
          clear hK K
          refine norm_ (a' := ?_) ?_ ?_
          rotate_left
          · show Act.put _ (some 12) _ = _
            simp only [Act.put, List.setIfInBounds_toArray, List.set_cons_zero, List.set_cons_succ, i64_w, i32_w]
            rfl
          refine one_ (i := 8) (N := some 72) #[true, true, true, true, true, true, true, true, true, false, false, false, true, false, false] rfl rfl (one_of HT_.out (by kernel_rfl)) (by decide) (fun K hK => ?_)
          refine goes_ Tryd.func11 (by kernel_rfl) rfl #[.string (X.extract 0 n ++ (⟨#[46]⟩ : ByteArray) ++ X.extract n X.size)] (by rfl) rfl rfl (by (try simp only [List.map_toArray, List.map_cons, List.map_nil]); rfl) ?_
          refine (num_Parse.calls _ _ _ _ _ _ P2.out).mono ?_
          rintro e wc ⟨rfl, hb⟩
          refine ⟨_, rfl, ?_⟩
          have n0_ := Lib.hid (blk_below (g := ga) (o := .cells #[(.bool false), (.string X), (.int .i64 0)] 24 (0, 0)) (by (with_reducible repeat (first | refine blk_drewN ?_ _ | refine blk_drew ?_ | refine blk_alloc ?_ _)); exact Kga.out) hb)
          clear Kga
          have Kga := n0_
          clear n0_
          have n0_ := Lib.hid (blk_below (g := gb) (o := .cells #[.bool false, .string (⟨#[]⟩ : ByteArray), .int .i64 0] 24 (0, 0)) (by (with_reducible repeat (first | refine blk_drewN ?_ _ | refine blk_drew ?_ | refine blk_alloc ?_ _)); exact Kgb.out) hb)
          clear Kgb
          have Kgb := n0_
          clear n0_
          have n0_ := Lib.hid (below_step (by repeat (first | (with_reducible first | exact HB.out | apply below_alloc | apply pw_below_drewN | apply below_drew1 | refine below_set ?_ Gga.out | refine below_set ?_ Ggb.out) | exact HB.out)) hb)
          clear HB
          have HB := n0_
          clear n0_ hb
          refine hK.out _ _ trivial (fun hHeld => ?_)
          clear hK K
          refine norm_ (a' := ?_) ?_ ?_
          rotate_left
          · show Act.put _ (some 72) _ = _
            simp only [Act.put, List.setIfInBounds_toArray, List.set_cons_zero, List.set_cons_succ, i64_w, i32_w]
            rfl
          refine pure_ (i := 9) (N := some 63) (v := ?_) (a' := ?_) #[true, true, true, true, true, true, true, true, true, true, false, false, true, false, false] rfl rfl (any_of HT_.out (by kernel_rfl)) (fun _ _ _ h => h) (Or.inl ⟨by rfl, ?_⟩) ?_ ?_
          rotate_left
          · intro w'
            go_simp
            with_reducible rfl
          rotate_left
          · simp only [Act.put, List.setIfInBounds_toArray, List.set_cons_zero, List.set_cons_succ, i64_w, i32_w]
            rfl
          refine pure_ (i := 10) (N := some 73) (v := ?_) (a' := ?_) #[true, true, true, true, true, true, true, true, true, true, true, false, true, false, false] rfl rfl (any_of HT_.out (by kernel_rfl)) (fun _ _ _ h => h) (Or.inl ⟨by rfl, ?_⟩) ?_ ?_
          rotate_left
          · intro w'
            go_simp
            with_reducible rfl
          rotate_left
          · simp only [Act.put, List.setIfInBounds_toArray, List.set_cons_zero, List.set_cons_succ, i64_w, i32_w]
            rfl
          refine pure_ (i := 11) (N := some 74) (v := ?_) (a' := ?_) #[true, true, true, true, true, true, true, true, true, true, true, true, true, false, false] rfl rfl (any_of HT_.out (by kernel_rfl)) (fun _ _ _ h => h) (Or.inl ⟨by rfl, ?_⟩) ?_ ?_
          rotate_left
          · intro w'
            go_simp
            with_reducible rfl
          rotate_left
          · simp only [Act.put, List.setIfInBounds_toArray, List.set_cons_zero, List.set_cons_succ, i64_w, i32_w]
            rfl
          exact norm_ (by simp only [putAll, Act.put, List.setIfInBounds_toArray, List.set_cons_zero, List.set_cons_succ]) (hCont gb _ ⟨(by (with_reducible repeat (first | refine blk_drewN ?_ _ | refine blk_drew ?_ | refine blk_alloc ?_ _)); exact Kga.out), (by (with_reducible repeat (first | refine blk_drewN ?_ _ | refine blk_drew ?_ | refine blk_alloc ?_ _)); exact Kgb.out), Ggb.out, Ngagb.out, (by repeat (first | (with_reducible first | exact HB.out | apply below_alloc | apply pw_below_drewN | apply below_drew1 | refine below_set ?_ Gga.out | refine below_set ?_ Ggb.out) | exact HB.out))⟩)
      rintro gb wj16 ⟨h0_, h1_, h2_, h3_, h4_⟩
      try clear hCont
      clear HB Kga
      have Kga := Lib.hid h0_
      have Kgb := Lib.hid h1_
      have Ggb := Lib.hid h2_
      have Ngagb := Lib.hid h3_
      have HB := Lib.hid h4_
      clear h0_ h1_ h2_ h3_ h4_
      have hHeld := trivial
      refine norm_ (a' := ?_) ?_ ?_
      rotate_left
      · simp only [putAll, Act.put, List.setIfInBounds_toArray, List.set_cons_zero, List.set_cons_succ]
        rfl
      refine one_ (i := 13) (N := none) #[true, true, true, true, true, true, true, true, true, true, true, true, true, true, false] rfl rfl (one_of HT_.out (by kernel_rfl)) (by decide) (fun K hK => ?_)
      have hs0 : wj16.cell? ⟨gb, 0, none⟩ = some (.bool false) := (blk_cell Kgb.out 0).trans rfl
      have hf0 := blk_frozen Kgb.out 0
      have hs1 : wj16.cell? ⟨gb, 1, none⟩ = some (.string (⟨#[]⟩ : ByteArray)) := (blk_cell Kgb.out 1).trans rfl
      have hf1 := blk_frozen Kgb.out 1
      have hs2 : wj16.cell? ⟨gb, 2, none⟩ = some (.int .i64 0) := (blk_cell Kgb.out 2).trans rfl
      have hf2 := blk_frozen Kgb.out 2
      have hnga := Ngagb.out
      refine skip_ (w1 := ?_) (by rfl) rfl ?_ ?_
      rotate_left
      · go_simp
        rfl
      refine hK.out _ _ trivial (fun hHeld => ?_)
      clear hK K
      refine pure_ (i := 14) (N := some 13) (v := ?_) (a' := ?_) #[true, true, true, true, true, true, true, true, true, true, true, true, true, true, true] rfl rfl (any_of HT_.out (by kernel_rfl)) (fun _ _ _ h => h) (Or.inl ⟨by rfl, ?_⟩) ?_ ?_
      rotate_left
      · intro w'
        go_simp
        with_reducible rfl
      rotate_left
      · simp only [Act.put, List.setIfInBounds_toArray, List.set_cons_zero, List.set_cons_succ, i64_w, i32_w]
        rfl
      refine done_ (done_of HT_.out (by kernel_rfl)) ?_
      clear hs0 hs1 hs2 hf0 hf1 hf2 hnga hHeld HT_ HW_
      have n0_ : Hid ((((wj16.setCell ⟨gb, 0, none⟩ (.bool false)).setCell ⟨gb, 1, none⟩ (.string X)).setCell ⟨gb, 2, none⟩ (.int .i64 ((n : Int) - 40))).heap[ga]? = some (.cells #[(.bool false), (.string X), (.int .i64 0)] 24 (0, 0))) := Lib.hid (by (with_reducible repeat (first | refine blk_drewN ?_ _ | refine blk_drew ?_ | refine blk_alloc ?_ _)); refine blk_far ?_ Ngagb.out _; (with_reducible repeat (first | refine blk_drewN ?_ _ | refine blk_drew ?_ | refine blk_alloc ?_ _)); refine blk_far ?_ Ngagb.out _; (with_reducible repeat (first | refine blk_drewN ?_ _ | refine blk_drew ?_ | refine blk_alloc ?_ _)); refine blk_far ?_ Ngagb.out _; exact Kga.out)
      clear Kga
      have Kga := n0_
      clear n0_
      have n0_ : Hid ((((wj16.setCell ⟨gb, 0, none⟩ (.bool false)).setCell ⟨gb, 1, none⟩ (.string X)).setCell ⟨gb, 2, none⟩ (.int .i64 ((n : Int) - 40))).heap[gb]? = some (.cells #[(.bool false), (.string X), (.int .i64 ((n : Int) - 40))] 24 (0, 0))) := Lib.hid (by (with_reducible repeat (first | refine blk_drewN ?_ _ | refine blk_drew ?_ | refine blk_alloc ?_ _)); refine blk_put (cs := #[(.bool false), (.string X), .int .i64 0]) ?_ 2 _ rfl; refine blk_put (cs := #[(.bool false), .string (⟨#[]⟩ : ByteArray), .int .i64 0]) ?_ 1 _ rfl; refine blk_put (cs := #[.bool false, .string (⟨#[]⟩ : ByteArray), .int .i64 0]) ?_ 0 _ rfl; exact Kgb.out)
      clear Kgb
      have Kgb := n0_
      clear n0_
      have n0_ : Hid (Below w.heap.size w (((wj16.setCell ⟨gb, 0, none⟩ (.bool false)).setCell ⟨gb, 1, none⟩ (.string X)).setCell ⟨gb, 2, none⟩ (.int .i64 ((n : Int) - 40)))) := Lib.hid (by repeat (first | (with_reducible first | exact HB.out | apply below_alloc | apply pw_below_drewN | apply below_drew1 | refine below_set ?_ Ggb.out) | exact HB.out))
      clear HB
      have HB := n0_
      clear n0_
      generalize (((wj16.setCell ⟨gb, 0, none⟩ (.bool false)).setCell ⟨gb, 1, none⟩ (.string X)).setCell ⟨gb, 2, none⟩ (.int .i64 ((n : Int) - 40))) = ws16 at HB Kga Kgb ⊢
      go_wp2_with fail
      refine (num_Parse.calls _ _ _ _ _ _ P3.out).mono ?_
      rintro e uu3 ⟨rfl, h1⟩
      have n0_ := Lib.hid (blk_below Kga.out h1)
      clear Kga
      have Kga := n0_
      clear n0_
      have n0_ := Lib.hid (blk_below Kgb.out h1)
      clear Kgb
      have Kgb := n0_
      clear n0_
      have n0_ := Lib.hid (below_step HB.out h1)
      clear HB
      have HB := n0_
      clear n0_ h1
      go_upto_region 18 with (fail)
      have n0_ := Lib.hid (blk_alloc Kga.out (Obj.cells #[(.bool b3), (.string d3), (.int .i64 e3)] 24))
      clear Kga
      have Kga := n0_
      clear n0_
      have n0_ := Lib.hid (blk_alloc Kgb.out (Obj.cells #[(.bool b3), (.string d3), (.int .i64 e3)] 24))
      clear Kgb
      have Kgb := n0_
      clear n0_
      have n0_ := Lib.hid (below_alloc HB.out (Obj.cells #[(.bool b3), (.string d3), (.int .i64 e3)] 24))
      clear HB
      have HB := n0_
      clear n0_
      generalize World.alloc uu3 _ = v3 at HB Kga Kgb ⊢
      have n0_ := Lib.hid (blk_drew Kga.out)
      clear Kga
      have Kga := n0_
      clear n0_
      have n0_ := Lib.hid (blk_drew Kgb.out)
      clear Kgb
      have Kgb := n0_
      clear n0_
      have n0_ := Lib.hid (below_drew1 HB.out)
      clear HB
      have HB := n0_
      clear n0_
      refine start_ (n := 16) (S := fun w' => True) (ds := []) #[false, false, false, false, false, false, false, false, false, false, false, false, false, false, false, false] (by kernel_rfl) rfl rfl trivial (fun hHeld => ?_)
      refine with_tabW nlTab18 nlBits18 (fun HT_ HW_ => ?_)
      generalize World.drew _ = wd18 at HB hHeld Kga Kgb ⊢
      refine pure_ (i := 0) (N := some 82) (v := ?_) (a' := ?_) #[true, false, false, false, false, false, false, false, false, false, false, false, false, false, false, false] rfl rfl (any_of HT_.out (by kernel_rfl)) (fun _ _ _ h => h) (Or.inl ⟨by rfl, ?_⟩) ?_ ?_
      rotate_left
      · intro w'
        go_simp
        with_reducible rfl
      rotate_left
      · simp only [Act.put, List.setIfInBounds_toArray, List.set_cons_zero, List.set_cons_succ, i64_w, i32_w]
        rfl
      refine pure_ (i := 1) (N := some 83) (v := ?_) (a' := ?_) #[true, true, false, false, false, false, false, false, false, false, false, false, false, false, false, false] rfl rfl (any_of HT_.out (by kernel_rfl)) (fun _ _ _ h => h) (Or.inl ⟨by rfl, ?_⟩) ?_ ?_
      rotate_left
      · intro w'
        go_simp
        with_reducible rfl
      rotate_left
      · simp only [Act.put, List.setIfInBounds_toArray, List.set_cons_zero, List.set_cons_succ, i64_w, i32_w]
        rfl
      refine pure_ (i := 2) (N := some 84) (v := ?_) (a' := ?_) #[true, true, true, false, false, false, false, false, false, false, false, false, false, false, false, false] rfl rfl (any_of HT_.out (by kernel_rfl)) (fun _ _ _ h => h) (Or.inl ⟨by rfl, ?_⟩) ?_ ?_
      rotate_left
      · intro w'
        go_simp
        with_reducible rfl
      rotate_left
      · simp only [Act.put, List.setIfInBounds_toArray, List.set_cons_zero, List.set_cons_succ, i64_w, i32_w]
        rfl
      refine pure_ (i := 3) (N := some 85) (v := ?_) (a' := ?_) #[true, true, true, true, false, false, false, false, false, false, false, false, false, false, false, false] rfl rfl (any_of HT_.out (by kernel_rfl)) (fun _ _ _ h => h) (Or.inl ⟨by rfl, ?_⟩) ?_ ?_
      rotate_left
      · intro w'
        go_simp
        with_reducible rfl
      rotate_left
      · simp only [Act.put, List.setIfInBounds_toArray, List.set_cons_zero, List.set_cons_succ, i64_w, i32_w]
        rfl
      refine pure_ (i := 4) (N := some 86) (v := ?_) (a' := ?_) #[true, true, true, true, true, false, false, false, false, false, false, false, false, false, false, false] rfl rfl (any_of HT_.out (by kernel_rfl)) (fun _ _ _ h => h) (Or.inl ⟨by rfl, ?_⟩) ?_ ?_
      rotate_left
      · intro w'
        go_simp
        with_reducible rfl
      rotate_left
      · simp only [Act.put, List.setIfInBounds_toArray, List.set_cons_zero, List.set_cons_succ, i64_w, i32_w]
        rfl
      refine pure_ (i := 5) (N := some 87) (v := ?_) (a' := ?_) #[true, true, true, true, true, true, false, false, false, false, false, false, false, false, false, false] rfl rfl (any_of HT_.out (by kernel_rfl)) (fun _ _ _ h => h) (Or.inl ⟨by rfl, ?_⟩) ?_ ?_
      rotate_left
      · intro w'
        go_simp
        with_reducible rfl
      rotate_left
      · simp only [Act.put, List.setIfInBounds_toArray, List.set_cons_zero, List.set_cons_succ, i64_w, i32_w]
        rfl
      refine pure_ (i := 6) (N := some 88) (v := ?_) (a' := ?_) #[true, true, true, true, true, true, true, false, false, false, false, false, false, false, false, false] rfl rfl (any_of HT_.out (by kernel_rfl)) (fun _ _ _ h => h) (Or.inl ⟨by rfl, ?_⟩) ?_ ?_
      rotate_left
      · intro w'
        go_simp
        with_reducible rfl
      rotate_left
      · simp only [Act.put, List.setIfInBounds_toArray, List.set_cons_zero, List.set_cons_succ, i64_w, i32_w]
        rfl
      refine pure_ (i := 7) (N := some 89) (v := ?_) (a' := ?_) #[true, true, true, true, true, true, true, true, false, false, false, false, false, false, false, false] rfl rfl (any_of HT_.out (by kernel_rfl)) (fun _ _ _ h => h) (Or.inl ⟨by rfl, ?_⟩) ?_ ?_
      rotate_left
      · intro w'
        go_simp
        with_reducible rfl
      rotate_left
      · simp only [Act.put, List.setIfInBounds_toArray, List.set_cons_zero, List.set_cons_succ, i64_w, i32_w]
        rfl
      refine pure_ (i := 8) (N := some 90) (v := ?_) (a' := ?_) #[true, true, true, true, true, true, true, true, true, false, false, false, false, false, false, false] rfl rfl (any_of HT_.out (by kernel_rfl)) (fun _ _ _ h => h) (Or.inl ⟨by rfl, ?_⟩) ?_ ?_
      rotate_left
      · intro w'
        go_simp
        with_reducible rfl
      rotate_left
      · simp only [Act.put, List.setIfInBounds_toArray, List.set_cons_zero, List.set_cons_succ, i64_w, i32_w]
        rfl
      refine join_ (σ := Nat) 2 #[true, true, true, true, true, true, true, true, true, true, true, true, true, true, false, false] (fun s_ => [(91, (.tuple #[.agg #[(.bool b4), (.string d4), (.int .i64 e4)], (.int .i64 13)])), (16, .pointer (some ⟨s_, 0, none⟩)), (81, (.tuple #[.agg #[(.bool b4), (.string d4), (.int .i64 e4)], (.int .i64 13)])), (92, (.agg #[(.bool b4), (.string d4), (.int .i64 e4)])), (93, (.int .i64 13))]) (fun s_ w' => (w'.heap[ga]? = some (.cells #[(.bool false), (.string X), (.int .i64 0)] 24 (0, 0))) ∧ (w'.heap[gb]? = some (.cells #[(.bool false), (.string X), (.int .i64 ((n : Int) - 40))] 24 (0, 0))) ∧ (w'.heap[s_]? = some (.cells #[.bool false, .string (⟨#[]⟩ : ByteArray), .int .i64 0] 24 (0, 0))) ∧ (w.heap.size ≤ s_) ∧ (ga ≠ s_) ∧ (gb ≠ s_) ∧ (Below w.heap.size w w')) ?_ ?_
      rotate_left
      · intro hCont
        refine two_ (i := 9) (j := 13) (Ni := some 91) (Nj := some 16) #[true, true, true, true, true, true, true, true, true, true, false, false, false, false, false, false] #[true, true, true, true, true, true, true, true, true, false, false, false, false, true, false, false] rfl rfl rfl rfl (two_of HT_.out (by kernel_rfl)) (by decide) (by decide) (fun K hK => ?_) (fun K hK => ?_)
        · skip
          refine goes_ Tryd.func11 (by kernel_rfl) rfl #[.string (X.extract 0 n ++ (⟨#[46]⟩ : ByteArray) ++ X.extract n X.size ++ (⟨#[55]⟩ : ByteArray))] (by rfl) rfl rfl (by (try simp only [List.map_toArray, List.map_cons, List.map_nil]); rfl) ?_
          refine (num_Parse.calls _ _ _ _ _ _ P4.out).mono ?_
          rintro e wc ⟨rfl, hb⟩
          refine ⟨_, rfl, ?_⟩
          have n0_ := Lib.hid (blk_below (g := ga) (o := .cells #[(.bool false), (.string X), (.int .i64 0)] 24 (0, 0)) (by (with_reducible repeat (first | refine blk_drewN ?_ _ | refine blk_drew ?_ | refine blk_alloc ?_ _)); exact Kga.out) hb)
          clear Kga
          have Kga := n0_
          clear n0_
          have n0_ := Lib.hid (blk_below (g := gb) (o := .cells #[(.bool false), (.string X), (.int .i64 ((n : Int) - 40))] 24 (0, 0)) (by (with_reducible repeat (first | refine blk_drewN ?_ _ | refine blk_drew ?_ | refine blk_alloc ?_ _)); exact Kgb.out) hb)
          clear Kgb
          have Kgb := n0_
          clear n0_
          have n0_ := Lib.hid (below_step (by repeat (first | (with_reducible first | exact HB.out | apply below_alloc | apply pw_below_drewN | apply below_drew1 | refine below_set ?_ Gga.out | refine below_set ?_ Ggb.out) | exact HB.out)) hb)
          clear HB
          have HB := n0_
          clear n0_ hb
          refine hK.out _ _ trivial (fun hHeld => ?_)
          clear hK K
          refine norm_ (a' := ?_) ?_ ?_
          rotate_left
          · show Act.put _ (some 91) _ = _
            simp only [Act.put, List.setIfInBounds_toArray, List.set_cons_zero, List.set_cons_succ, i64_w, i32_w]
            rfl
          refine pure_ (i := 10) (N := some 81) (v := ?_) (a' := ?_) #[true, true, true, true, true, true, true, true, true, true, true, false, false, false, false, false] rfl rfl (any_of HT_.out (by kernel_rfl)) (fun _ _ _ h => h) (Or.inl ⟨by rfl, ?_⟩) ?_ ?_
          rotate_left
          · intro w'
            go_simp
            with_reducible rfl
          rotate_left
          · simp only [Act.put, List.setIfInBounds_toArray, List.set_cons_zero, List.set_cons_succ, i64_w, i32_w]
            rfl
          refine pure_ (i := 11) (N := some 92) (v := ?_) (a' := ?_) #[true, true, true, true, true, true, true, true, true, true, true, true, false, false, false, false] rfl rfl (any_of HT_.out (by kernel_rfl)) (fun _ _ _ h => h) (Or.inl ⟨by rfl, ?_⟩) ?_ ?_
          rotate_left
          · intro w'
            go_simp
            with_reducible rfl
          rotate_left
          · simp only [Act.put, List.setIfInBounds_toArray, List.set_cons_zero, List.set_cons_succ, i64_w, i32_w]
            rfl
          refine pure_ (i := 12) (N := some 93) (v := ?_) (a' := ?_) #[true, true, true, true, true, true, true, true, true, true, true, true, true, false, false, false] rfl rfl (any_of HT_.out (by kernel_rfl)) (fun _ _ _ h => h) (Or.inl ⟨by rfl, ?_⟩) ?_ ?_
          rotate_left
          · intro w'
            go_simp
            with_reducible rfl
          rotate_left
          · simp only [Act.put, List.setIfInBounds_toArray, List.set_cons_zero, List.set_cons_succ, i64_w, i32_w]
            rfl
          refine one_ (i := 13) (N := some 16) #[true, true, true, true, true, true, true, true, true, true, true, true, true, true, false, false] rfl rfl (one_of HT_.out (by kernel_rfl)) (by decide) (fun K hK => ?_)
          refine box_step ?hg (N := 16) ?hd (cs := #[.bool false, .string (⟨#[]⟩ : ByteArray), .int .i64 0]) (t := 24) ?hr ?_; (case hd => rfl); (case hg => rfl); (case hr => first | (go_simp; done) | (go_simp; rfl))
          intro gd hg wb hbox hb
          have Ngagd := Lib.hid (show ga ≠ gd by rw [hg]; exact Nat.ne_of_lt (blk_lt (g := ga) (o := .cells #[(.bool false), (.string X), (.int .i64 0)] 24 (0, 0)) (by (with_reducible repeat (first | refine blk_drewN ?_ _ | refine blk_drew ?_ | refine blk_alloc ?_ _)); exact Kga.out)))
          have n0_ := Lib.hid (blk_below (g := ga) (o := .cells #[(.bool false), (.string X), (.int .i64 0)] 24 (0, 0)) (by (with_reducible repeat (first | refine blk_drewN ?_ _ | refine blk_drew ?_ | refine blk_alloc ?_ _)); exact Kga.out) hb)
          clear Kga
          have Kga := n0_
          clear n0_
          have Ngbgd := Lib.hid (show gb ≠ gd by rw [hg]; exact Nat.ne_of_lt (blk_lt (g := gb) (o := .cells #[(.bool false), (.string X), (.int .i64 ((n : Int) - 40))] 24 (0, 0)) (by (with_reducible repeat (first | refine blk_drewN ?_ _ | refine blk_drew ?_ | refine blk_alloc ?_ _)); exact Kgb.out)))
          have n0_ := Lib.hid (blk_below (g := gb) (o := .cells #[(.bool false), (.string X), (.int .i64 ((n : Int) - 40))] 24 (0, 0)) (by (with_reducible repeat (first | refine blk_drewN ?_ _ | refine blk_drew ?_ | refine blk_alloc ?_ _)); exact Kgb.out) hb)
          clear Kgb
          have Kgb := n0_
          clear n0_
          have Ggd := Lib.hid (show w.heap.size ≤ gd by rw [hg]; exact (below_size (by repeat (first | (with_reducible first | exact HB.out | apply below_alloc | apply pw_below_drewN | apply below_drew1 | refine below_set ?_ Gga.out | refine below_set ?_ Ggb.out) | exact HB.out))))
          have n0_ := Lib.hid (below_step (by repeat (first | (with_reducible first | exact HB.out | apply below_alloc | apply pw_below_drewN | apply below_drew1 | refine below_set ?_ Gga.out | refine below_set ?_ Ggb.out) | exact HB.out)) hb)
          clear HB
          have HB := n0_
          have Kgd := Lib.hid hbox
          clear n0_ hb hbox hg
          refine hK.out _ _ trivial (fun hHeld => ?_)
          clear hK K
          refine norm_ (a' := ?_) ?_ ?_
          rotate_left
          · show Act.put _ (some 16) _ = _
            simp only [Act.put, List.setIfInBounds_toArray, List.set_cons_zero, List.set_cons_succ, i64_w, i32_w]
            rfl
          exact norm_ (by simp only [putAll, Act.put, List.setIfInBounds_toArray, List.set_cons_zero, List.set_cons_succ]) (hCont gd _ ⟨(by (with_reducible repeat (first | refine blk_drewN ?_ _ | refine blk_drew ?_ | refine blk_alloc ?_ _)); exact Kga.out), (by (with_reducible repeat (first | refine blk_drewN ?_ _ | refine blk_drew ?_ | refine blk_alloc ?_ _)); exact Kgb.out), (by (with_reducible repeat (first | refine blk_drewN ?_ _ | refine blk_drew ?_ | refine blk_alloc ?_ _)); exact Kgd.out), Ggd.out, Ngagd.out, Ngbgd.out, (by repeat (first | (with_reducible first | exact HB.out | apply below_alloc | apply pw_below_drewN | apply below_drew1 | refine below_set ?_ Gga.out | refine below_set ?_ Ggb.out | refine below_set ?_ Ggd.out) | exact HB.out))⟩)
        · skip
          refine box_step ?hg (N := 16) ?hd (cs := #[.bool false, .string (⟨#[]⟩ : ByteArray), .int .i64 0]) (t := 24) ?hr ?_; (case hd => rfl); (case hg => rfl); (case hr => first | (go_simp; done) | (go_simp; rfl))
          intro gd hg wb hbox hb
          have Ngagd := Lib.hid (show ga ≠ gd by rw [hg]; exact Nat.ne_of_lt (blk_lt (g := ga) (o := .cells #[(.bool false), (.string X), (.int .i64 0)] 24 (0, 0)) (by (with_reducible repeat (first | refine blk_drewN ?_ _ | refine blk_drew ?_ | refine blk_alloc ?_ _)); exact Kga.out)))
          have n0_ := Lib.hid (blk_below (g := ga) (o := .cells #[(.bool false), (.string X), (.int .i64 0)] 24 (0, 0)) (by (with_reducible repeat (first | refine blk_drewN ?_ _ | refine blk_drew ?_ | refine blk_alloc ?_ _)); exact Kga.out) hb)
          clear Kga
          have Kga := n0_
          clear n0_
          have Ngbgd := Lib.hid (show gb ≠ gd by rw [hg]; exact Nat.ne_of_lt (blk_lt (g := gb) (o := .cells #[(.bool false), (.string X), (.int .i64 ((n : Int) - 40))] 24 (0, 0)) (by (with_reducible repeat (first | refine blk_drewN ?_ _ | refine blk_drew ?_ | refine blk_alloc ?_ _)); exact Kgb.out)))
          have n0_ := Lib.hid (blk_below (g := gb) (o := .cells #[(.bool false), (.string X), (.int .i64 ((n : Int) - 40))] 24 (0, 0)) (by (with_reducible repeat (first | refine blk_drewN ?_ _ | refine blk_drew ?_ | refine blk_alloc ?_ _)); exact Kgb.out) hb)
          clear Kgb
          have Kgb := n0_
          clear n0_
          have Ggd := Lib.hid (show w.heap.size ≤ gd by rw [hg]; exact (below_size (by repeat (first | (with_reducible first | exact HB.out | apply below_alloc | apply pw_below_drewN | apply below_drew1 | refine below_set ?_ Gga.out | refine below_set ?_ Ggb.out) | exact HB.out))))
          have n0_ := Lib.hid (below_step (by repeat (first | (with_reducible first | exact HB.out | apply below_alloc | apply pw_below_drewN | apply below_drew1 | refine below_set ?_ Gga.out | refine below_set ?_ Ggb.out) | exact HB.out)) hb)
          clear HB
          have HB := n0_
          have Kgd := Lib.hid hbox
          clear n0_ hb hbox hg
          refine hK.out _ _ trivial (fun hHeld => ?_)
          clear hK K
          refine norm_ (a' := ?_) ?_ ?_
          rotate_left
          · show Act.put _ (some 16) _ = _
            simp only [Act.put, List.setIfInBounds_toArray, List.set_cons_zero, List.set_cons_succ, i64_w, i32_w]
            rfl
          refine one_ (i := 9) (N := some 91) #[true, true, true, true, true, true, true, true, true, true, false, false, false, true, false, false] rfl rfl (one_of HT_.out (by kernel_rfl)) (by decide) (fun K hK => ?_)
          refine goes_ Tryd.func11 (by kernel_rfl) rfl #[.string (X.extract 0 n ++ (⟨#[46]⟩ : ByteArray) ++ X.extract n X.size ++ (⟨#[55]⟩ : ByteArray))] (by rfl) rfl rfl (by (try simp only [List.map_toArray, List.map_cons, List.map_nil]); rfl) ?_
          refine (num_Parse.calls _ _ _ _ _ _ P4.out).mono ?_
          rintro e wc ⟨rfl, hb⟩
          refine ⟨_, rfl, ?_⟩
          have n0_ := Lib.hid (blk_below (g := ga) (o := .cells #[(.bool false), (.string X), (.int .i64 0)] 24 (0, 0)) (by (with_reducible repeat (first | refine blk_drewN ?_ _ | refine blk_drew ?_ | refine blk_alloc ?_ _)); exact Kga.out) hb)
          clear Kga
          have Kga := n0_
          clear n0_
          have n0_ := Lib.hid (blk_below (g := gb) (o := .cells #[(.bool false), (.string X), (.int .i64 ((n : Int) - 40))] 24 (0, 0)) (by (with_reducible repeat (first | refine blk_drewN ?_ _ | refine blk_drew ?_ | refine blk_alloc ?_ _)); exact Kgb.out) hb)
          clear Kgb
          have Kgb := n0_
          clear n0_
          have n0_ := Lib.hid (blk_below (g := gd) (o := .cells #[.bool false, .string (⟨#[]⟩ : ByteArray), .int .i64 0] 24 (0, 0)) (by (with_reducible repeat (first | refine blk_drewN ?_ _ | refine blk_drew ?_ | refine blk_alloc ?_ _)); exact Kgd.out) hb)
          clear Kgd
          have Kgd := n0_
          clear n0_
          have n0_ := Lib.hid (below_step (by repeat (first | (with_reducible first | exact HB.out | apply below_alloc | apply pw_below_drewN | apply below_drew1 | refine below_set ?_ Gga.out | refine below_set ?_ Ggb.out | refine below_set ?_ Ggd.out) | exact HB.out)) hb)
          clear HB
          have HB := n0_
          clear n0_ hb
          refine hK.out _ _ trivial (fun hHeld => ?_)
          clear hK K
          refine norm_ (a' := ?_) ?_ ?_
          rotate_left
          · show Act.put _ (some 91) _ = _
            simp only [Act.put, List.setIfInBounds_toArray, List.set_cons_zero, List.set_cons_succ, i64_w, i32_w]
            rfl
          refine pure_ (i := 10) (N := some 81) (v := ?_) (a' := ?_) #[true, true, true, true, true, true, true, true, true, true, true, false, false, true, false, false] rfl rfl (any_of HT_.out (by kernel_rfl)) (fun _ _ _ h => h) (Or.inl ⟨by rfl, ?_⟩) ?_ ?_
          rotate_left
          · intro w'
            go_simp
            with_reducible rfl
          rotate_left
          · simp only [Act.put, List.setIfInBounds_toArray, List.set_cons_zero, List.set_cons_succ, i64_w, i32_w]
            rfl
          refine pure_ (i := 11) (N := some 92) (v := ?_) (a' := ?_) #[true, true, true, true, true, true, true, true, true, true, true, true, false, true, false, false] rfl rfl (any_of HT_.out (by kernel_rfl)) (fun _ _ _ h => h) (Or.inl ⟨by rfl, ?_⟩) ?_ ?_
          rotate_left
          · intro w'
            go_simp
            with_reducible rfl
          rotate_left
          · simp only [Act.put, List.setIfInBounds_toArray, List.set_cons_zero, List.set_cons_succ, i64_w, i32_w]
            rfl
          refine pure_ (i := 12) (N := some 93) (v := ?_) (a' := ?_) #[true, true, true, true, true, true, true, true, true, true, true, true, true, true, false, false] rfl rfl (any_of HT_.out (by kernel_rfl)) (fun _ _ _ h => h) (Or.inl ⟨by rfl, ?_⟩) ?_ ?_
          rotate_left
          · intro w'
            go_simp
            with_reducible rfl
          rotate_left
          · simp only [Act.put, List.setIfInBounds_toArray, List.set_cons_zero, List.set_cons_succ, i64_w, i32_w]
            rfl
          exact norm_ (by simp only [putAll, Act.put, List.setIfInBounds_toArray, List.set_cons_zero, List.set_cons_succ]) (hCont gd _ ⟨(by (with_reducible repeat (first | refine blk_drewN ?_ _ | refine blk_drew ?_ | refine blk_alloc ?_ _)); exact Kga.out), (by (with_reducible repeat (first | refine blk_drewN ?_ _ | refine blk_drew ?_ | refine blk_alloc ?_ _)); exact Kgb.out), (by (with_reducible repeat (first | refine blk_drewN ?_ _ | refine blk_drew ?_ | refine blk_alloc ?_ _)); exact Kgd.out), Ggd.out, Ngagd.out, Ngbgd.out, (by repeat (first | (with_reducible first | exact HB.out | apply below_alloc | apply pw_below_drewN | apply below_drew1 | refine below_set ?_ Gga.out | refine below_set ?_ Ggb.out | refine below_set ?_ Ggd.out) | exact HB.out))⟩)
      rintro gd wj18 ⟨h0_, h1_, h2_, h3_, h4_, h5_, h6_⟩
      try clear hCont
      clear HB Kga Kgb
      have Kga := Lib.hid h0_
      have Kgb := Lib.hid h1_
      have Kgd := Lib.hid h2_
      have Ggd := Lib.hid h3_
      have Ngagd := Lib.hid h4_
      have Ngbgd := Lib.hid h5_
      have HB := Lib.hid h6_
      clear h0_ h1_ h2_ h3_ h4_ h5_ h6_
      have hHeld := trivial
      refine norm_ (a' := ?_) ?_ ?_
      rotate_left
      · simp only [putAll, Act.put, List.setIfInBounds_toArray, List.set_cons_zero, List.set_cons_succ]
        rfl
      refine one_ (i := 14) (N := none) #[true, true, true, true, true, true, true, true, true, true, true, true, true, true, true, false] rfl rfl (one_of HT_.out (by kernel_rfl)) (by decide) (fun K hK => ?_)
      have hs0 : wj18.cell? ⟨gd, 0, none⟩ = some (.bool false) := (blk_cell Kgd.out 0).trans rfl
      have hf0 := blk_frozen Kgd.out 0
      have hs1 : wj18.cell? ⟨gd, 1, none⟩ = some (.string (⟨#[]⟩ : ByteArray)) := (blk_cell Kgd.out 1).trans rfl
      have hf1 := blk_frozen Kgd.out 1
      have hs2 : wj18.cell? ⟨gd, 2, none⟩ = some (.int .i64 0) := (blk_cell Kgd.out 2).trans rfl
      have hf2 := blk_frozen Kgd.out 2
      have hnga := Ngagd.out
      have hngb := Ngbgd.out
      refine skip_ (w1 := ?_) (by rfl) rfl ?_ ?_
      rotate_left
      · go_simp
        rfl
      refine hK.out _ _ trivial (fun hHeld => ?_)
      clear hK K
      refine pure_ (i := 15) (N := some 17) (v := ?_) (a' := ?_) #[true, true, true, true, true, true, true, true, true, true, true, true, true, true, true, true] rfl rfl (any_of HT_.out (by kernel_rfl)) (fun _ _ _ h => h) (Or.inl ⟨by rfl, ?_⟩) ?_ ?_
      rotate_left
      · intro w'
        go_simp
        with_reducible rfl
      rotate_left
      · simp only [Act.put, List.setIfInBounds_toArray, List.set_cons_zero, List.set_cons_succ, i64_w, i32_w]
        rfl
      refine done_ (done_of HT_.out (by kernel_rfl)) ?_
      clear hs0 hs1 hs2 hf0 hf1 hf2 hnga hngb hHeld HT_ HW_
      have n0_ : Hid ((((wj18.setCell ⟨gd, 0, none⟩ (.bool b4)).setCell ⟨gd, 1, none⟩ (.string d4)).setCell ⟨gd, 2, none⟩ (.int .i64 e4)).heap[ga]? = some (.cells #[(.bool false), (.string X), (.int .i64 0)] 24 (0, 0))) := Lib.hid (by (with_reducible repeat (first | refine blk_drewN ?_ _ | refine blk_drew ?_ | refine blk_alloc ?_ _)); refine blk_far ?_ Ngagd.out _; (with_reducible repeat (first | refine blk_drewN ?_ _ | refine blk_drew ?_ | refine blk_alloc ?_ _)); refine blk_far ?_ Ngagd.out _; (with_reducible repeat (first | refine blk_drewN ?_ _ | refine blk_drew ?_ | refine blk_alloc ?_ _)); refine blk_far ?_ Ngagd.out _; exact Kga.out)
      clear Kga
      have Kga := n0_
      clear n0_
      have n0_ : Hid ((((wj18.setCell ⟨gd, 0, none⟩ (.bool b4)).setCell ⟨gd, 1, none⟩ (.string d4)).setCell ⟨gd, 2, none⟩ (.int .i64 e4)).heap[gb]? = some (.cells #[(.bool false), (.string X), (.int .i64 ((n : Int) - 40))] 24 (0, 0))) := Lib.hid (by (with_reducible repeat (first | refine blk_drewN ?_ _ | refine blk_drew ?_ | refine blk_alloc ?_ _)); refine blk_far ?_ Ngbgd.out _; (with_reducible repeat (first | refine blk_drewN ?_ _ | refine blk_drew ?_ | refine blk_alloc ?_ _)); refine blk_far ?_ Ngbgd.out _; (with_reducible repeat (first | refine blk_drewN ?_ _ | refine blk_drew ?_ | refine blk_alloc ?_ _)); refine blk_far ?_ Ngbgd.out _; exact Kgb.out)
      clear Kgb
      have Kgb := n0_
      clear n0_
      have n0_ := trivial
      clear Kgd
      clear n0_
      have n0_ : Hid (Below w.heap.size w (((wj18.setCell ⟨gd, 0, none⟩ (.bool b4)).setCell ⟨gd, 1, none⟩ (.string d4)).setCell ⟨gd, 2, none⟩ (.int .i64 e4))) := Lib.hid (by repeat (first | (with_reducible first | exact HB.out | apply below_alloc | apply pw_below_drewN | apply below_drew1 | refine below_set ?_ Ggd.out) | exact HB.out))
      clear HB
      have HB := n0_
      clear n0_
      generalize (((wj18.setCell ⟨gd, 0, none⟩ (.bool b4)).setCell ⟨gd, 1, none⟩ (.string d4)).setCell ⟨gd, 2, none⟩ (.int .i64 e4)) = ws18 at HB Kga Kgb ⊢
      go_wp2_with fail
      refine (num_Parse.calls _ _ _ _ _ _ P5.out).mono ?_
      rintro e uu5 ⟨rfl, h1⟩
      have n0_ := Lib.hid (blk_below Kga.out h1)
      clear Kga
      have Kga := n0_
      clear n0_
      have n0_ := Lib.hid (blk_below Kgb.out h1)
      clear Kgb
      have Kgb := n0_
      clear n0_
      have n0_ := Lib.hid (below_step HB.out h1)
      clear HB
      have HB := n0_
      clear n0_ h1
      go_upto_region 20 with (fail)
      have n0_ := Lib.hid (blk_alloc Kga.out (Obj.cells #[(.bool b5), (.string d5), (.int .i64 e5)] 24))
      clear Kga
      have Kga := n0_
      clear n0_
      have n0_ := Lib.hid (blk_alloc Kgb.out (Obj.cells #[(.bool b5), (.string d5), (.int .i64 e5)] 24))
      clear Kgb
      have Kgb := n0_
      clear n0_
      have n0_ := Lib.hid (below_alloc HB.out (Obj.cells #[(.bool b5), (.string d5), (.int .i64 e5)] 24))
      clear HB
      have HB := n0_
      clear n0_
      generalize World.alloc uu5 _ = v5 at HB Kga Kgb ⊢
      go_wp2_with fail
      refine (num_Parse.calls _ _ _ _ _ _ P6.out).mono ?_
      rintro e uu6 ⟨rfl, h1⟩
      have n0_ := Lib.hid (blk_below Kga.out h1)
      clear Kga
      have Kga := n0_
      clear n0_
      have n0_ := Lib.hid (blk_below Kgb.out h1)
      clear Kgb
      have Kgb := n0_
      clear n0_
      have n0_ := Lib.hid (below_step HB.out h1)
      clear HB
      have HB := n0_
      clear n0_ h1
      go_upto_region 21 with (fail)
      have n0_ := Lib.hid (blk_alloc Kga.out (Obj.cells #[(.bool b6), (.string d6), (.int .i64 e6)] 24))
      clear Kga
      have Kga := n0_
      clear n0_
      have n0_ := Lib.hid (blk_alloc Kgb.out (Obj.cells #[(.bool b6), (.string d6), (.int .i64 e6)] 24))
      clear Kgb
      have Kgb := n0_
      clear n0_
      have n0_ := Lib.hid (below_alloc HB.out (Obj.cells #[(.bool b6), (.string d6), (.int .i64 e6)] 24))
      clear HB
      have HB := n0_
      clear n0_
      generalize World.alloc uu6 _ = v6 at HB Kga Kgb ⊢
      go_wp2_with fail
      refine (num_Parse.calls _ _ _ _ _ _ P7.out).mono ?_
      rintro e uu7 ⟨rfl, h1⟩
      have n0_ := Lib.hid (blk_below Kga.out h1)
      clear Kga
      have Kga := n0_
      clear n0_
      have n0_ := Lib.hid (blk_below Kgb.out h1)
      clear Kgb
      have Kgb := n0_
      clear n0_
      have n0_ := Lib.hid (below_step HB.out h1)
      clear HB
      have HB := n0_
      clear n0_ h1
      go_upto_region 22 with (fail)
      have n0_ := Lib.hid (blk_alloc Kga.out (Obj.cells #[(.bool b7), (.string d7), (.int .i64 e7)] 24))
      clear Kga
      have Kga := n0_
      clear n0_
      have n0_ := Lib.hid (blk_alloc Kgb.out (Obj.cells #[(.bool b7), (.string d7), (.int .i64 e7)] 24))
      clear Kgb
      have Kgb := n0_
      clear n0_
      have n0_ := Lib.hid (below_alloc HB.out (Obj.cells #[(.bool b7), (.string d7), (.int .i64 e7)] 24))
      clear HB
      have HB := n0_
      clear n0_
      generalize World.alloc uu7 _ = v7 at HB Kga Kgb ⊢
      go_wp2_with fail
      refine (num_Parse.calls _ _ _ _ _ _ P8.out).mono ?_
      rintro e uu8 ⟨rfl, h1⟩
      have n0_ := Lib.hid (blk_below Kga.out h1)
      clear Kga
      have Kga := n0_
      clear n0_
      have n0_ := Lib.hid (blk_below Kgb.out h1)
      clear Kgb
      have Kgb := n0_
      clear n0_
      have n0_ := Lib.hid (below_step HB.out h1)
      clear HB
      have HB := n0_
      clear n0_ h1
      go_upto_region 23 with (fail)
      have n0_ := Lib.hid (blk_alloc Kga.out (Obj.cells #[(.bool b8), (.string d8), (.int .i64 e8)] 24))
      clear Kga
      have Kga := n0_
      clear n0_
      have n0_ := Lib.hid (blk_alloc Kgb.out (Obj.cells #[(.bool b8), (.string d8), (.int .i64 e8)] 24))
      clear Kgb
      have Kgb := n0_
      clear n0_
      have n0_ := Lib.hid (below_alloc HB.out (Obj.cells #[(.bool b8), (.string d8), (.int .i64 e8)] 24))
      clear HB
      have HB := n0_
      clear n0_
      generalize World.alloc uu8 _ = v8 at HB Kga Kgb ⊢
      have qa1 := blk_cell Kga.out 1
      have qa2 := blk_cell Kga.out 2
      have qb1 := blk_cell Kgb.out 1
      have qb2 := blk_cell Kgb.out 2
      simp at qa1 qa2 qb1 qb2
      go_wp2_with fail
      go_ret
      exact ⟨rfl, HB.out⟩
end Go.Proofs.YtbgigckmehgcpaaDoor
