/- What the law rests on, part 3: joined by a program of this session (claimx.py). -/
import Derived.Test.YtapcpndplnkfjaaGreatDoorJsonBackB
namespace Go.Proofs.YtapcpndplnkfjaaGreatDoor
open Go.RowKit Go.Proofs.YtapcpndplnkfjaaGreatDoorW.PrintWords Go.Proofs.YtapcpndplnkfjaaGreatDoorW.PrintLast Go.Proofs.YtapcpndplnkfjaaGreatDoorW.PrintMore
set_option linter.unusedVariables false
set_option linter.unusedSimpArgs false
namespace Js
def pos (ns : List ByteArray) (x : ByteArray) : Nat := Lib.bsGo (fun t => Op.bytesLess (ns.getD t ⟨#[]⟩).toList x.toList) ns.length 0 ns.length
def has (ns : List ByteArray) (x : ByteArray) : Bool := decide (pos ns x < ns.length ∧ ns.getD (pos ns x) ⟨#[]⟩ = x)
theorem search_calls {w : World} {base : Nat} {ok : Nat → Prop} {v : Value} {ns : List ByteArray} (x : ByteArray) (hR : Kd.string.R 9 w base ok v ns) (hl : ns.length ≤ 1000000) :
    Calls Tryz.prog 63 #[v, .string x] w fun E w' => E = .returned (.tuple #[.int .i64 (pos ns x : Nat), .bool (has ns x)]) ∧ ∃ q, w' = w.drewN q := by
  obtain ⟨A, c, hv, hlc, hC⟩ := Kd.R_reads hR
  obtain ⟨inner, hown⟩ := Kd.R_own hR
  rcases hown.2 with ⟨h0, h2⟩ | ⟨g, cap, cur, h0, hb, hg, hnc, hcm, hcs, htk⟩
  · have : ns = [] := List.eq_nil_of_length_eq_zero h2
    subst this; subst h0
    exact (Any2.slices_BinarySearch_string_empty Tryz.lays262b none 0 x w).mono fun e w' hh => ⟨hh.1.trans rfl, 0, hh.2⟩
  · subst h0
    refine (Any2.slices_BinarySearch_string Tryz.lays262b g 0 ns.length cap (fun t => ns.getD t ⟨#[]⟩) x w (by omega) (fun j hj => ?_)).mono fun e w' hh => ⟨hh.1, hh.2⟩
    injection hv with hA _ _
    obtain ⟨ad, cc, e, _, hK, hc0⟩ := Kd.C_get hC ⟨#[]⟩ j (by omega) (by omega)
    rw [← hA] at e
    injection e with e
    subst e
    have hk : cc = [.string (ns.getD j ⟨#[]⟩)] := hK
    have h := hc0 0 (.string (ns.getD j ⟨#[]⟩)) (by rw [hk]; rfl)
    rw [show (⟨g, 0, none⟩ : Addr).add (((j : Int)).toNat * Kd.string.sz + 0) = ⟨g, 0 + j, none⟩ by
      have e1 : ((j : Int)).toNat * Kd.string.sz + 0 = j := by rw [Int.toNat_natCast]; exact Nat.mul_one j
      rw [e1]; unfold Addr.add; split <;> simp_all] at h
    exact h
theorem bs_le (less : Nat → Bool) : ∀ (f lo hi : Nat), lo ≤ hi → Lib.bsGo less f lo hi ≤ hi
  | 0, lo, hi, h => by simp [Lib.bsGo]; exact h
  | f + 1, lo, hi, h => by
    unfold Lib.bsGo
    split
    · split
      · exact bs_le less f _ hi (by omega)
      · exact Nat.le_trans (bs_le less f lo _ (by omega)) (by omega)
    · exact h
theorem pos_le (ns : List ByteArray) (x : ByteArray) : pos ns x ≤ ns.length := bs_le _ _ _ _ (Nat.zero_le _)
end Js
end Go.Proofs.YtapcpndplnkfjaaGreatDoor
namespace Go.Proofs.YtapcpndplnkfjaaGreatDoor
open Go.RowKit Go.Proofs.YtapcpndplnkfjaaGreatDoorW.PrintWords Go.Proofs.YtapcpndplnkfjaaGreatDoorW.PrintLast Go.Proofs.YtapcpndplnkfjaaGreatDoorW.PrintMore
set_option linter.unusedVariables false
set_option linter.unusedSimpArgs false
namespace Js
def okText (okE : S → Prop) (esc : S → List UInt8 × S) (a : S) : Prop := a.s ≠ [] ∧ a.s.length ≤ 1000000 ∧ (∀ b, b.e = 0 → b.o = a.o → b.s.length ≤ 1000000 → okE b) ∧ ∀ b, okE b → (esc b).2.o = b.o
def textF (esc : S → List UInt8 × S) (a : S) : S28 × S := (⟨3, false, z24, ofL (a.str esc).1, [], []⟩, (a.str esc).2)
theorem text_calls {okE : S → Prop} {esc : S → List UInt8 × S} (HE : ECalls okE esc) (HG : GoodE okE esc) : VCalls 67 (okText okE esc) (textF esc) := by
  intro w w1 g a h hok
  obtain ⟨hs, hl, hok1, hoo⟩ := hok
  have H := Lib.hid h
  have HA : Hid _ := Lib.hid (str_calls HE HG (H.out.below (Below.alloc (Below.refl _ _) (Nat.le_refl _) (.cells zA 28))).now hs hl hok1 hoo)
  obtain ⟨R, hR⟩ : ∃ R, a.str esc = R := ⟨_, rfl⟩
  have hT : textF esc a = (⟨3, false, z24, ofL R.1, [], []⟩, R.2) := by rw [textF, hR]
  rw [hR] at HA
  rw [hT]
  clear h hs hl hok1 hoo hT hR
  go_enter Tryz.func67, Tryz.ntmps67
  go_wp2_with fail
  refine HA.out.mono ?_
  rintro E w2 ⟨rfl, h2⟩
  have HR := Lib.hid (h2.keep (blk_new w1 _) (Nat.ne_of_gt H.out.lt))
  have H2 := Lib.hid ((H.out.below (Below.alloc (Below.refl _ _) (Nat.le_refl _) _)).trans h2)
  clear h2
  go_wp2_with (refine row_event rfl 28 (.tmp 2) (.tmp 5) rfl w1.heap.size _ rfl rfl 28 _ HR.out (by kernel_rfl) rfl rfl ?_; intro w3 hr3 hk3)
  have h3 := H2.out.far hk3 (Nat.ne_of_gt H.out.lt) H.out.kp.size
  exact bodyPost_ret (results_cell_row rfl _ _ w1.heap.size 28 _ (0, 0) _ rfl hr3 Tryz.underlying28 rfl (by kernel_rfl)) rfl ⟨_, rfl, Jv.flat w3 _ (S28.mk 3 false z24 (ofL R.1) [] []) rfl rfl, h3⟩
end Js
end Go.Proofs.YtapcpndplnkfjaaGreatDoor
namespace Go.Proofs.YtapcpndplnkfjaaGreatDoor
open Go.RowKit Go.Proofs.YtapcpndplnkfjaaGreatDoorW.PrintWords Go.Proofs.YtapcpndplnkfjaaGreatDoorW.PrintLast Go.Proofs.YtapcpndplnkfjaaGreatDoorW.PrintMore
set_option linter.unusedVariables false
set_option linter.unusedSimpArgs false
namespace Js
def hexS : ByteArray := ⟨#[48, 49, 50, 51, 52, 53, 54, 55, 56, 57, 97, 98, 99, 100, 101, 102]⟩
set_option maxRecDepth 100000 in
set_option maxHeartbeats 4000000 in
theorem valid_calls (c : Nat) (hc : c ≤ 2147483647) (w : World) : Calls Tryz.prog 169 #[.int .i32 c] w fun E w' => E = .returned (.bool (Utf8.valid c)) ∧ w' = w := by
  have q0 : (0 : Int) ≤ (c : Int) := by omega
  have qm : (c : Int) ≤ 2147483647 := by omega
  by_cases h1 : c < 55296
  · have hv : Utf8.valid c = true := by simp [Utf8.valid]; omega
    have q1 : (c : Int) < 55296 := by omega
    rw [hv]
    go_enter Tryz.func169, Tryz.ntmps169
    go_wp2_with fail
    go_ret
    exact ⟨rfl, rfl⟩
  · by_cases h2 : c ≤ 57343
    · have hv : Utf8.valid c = false := by simp [Utf8.valid]; omega
      have q1 : ((c : Int) < 55296) = False := by simp; omega
      have q2 : ((57343 : Int) < (c : Int)) = False := by simp; omega
      rw [hv]
      go_enter Tryz.func169, Tryz.ntmps169
      go_wp2_with fail
      go_ret
      exact ⟨rfl, rfl⟩
    · by_cases h3 : c ≤ 1114111
      · have hv : Utf8.valid c = true := by simp [Utf8.valid]; omega
        have q1 : ((c : Int) < 55296) = False := by simp; omega
        have q2 : ((57343 : Int) < (c : Int)) = True := by simp; omega
        have q3 : (c : Int) ≤ 1114111 := by omega
        rw [hv]
        go_enter Tryz.func169, Tryz.ntmps169
        go_wp2_with fail
        go_ret
        exact ⟨rfl, rfl⟩
      · have hv : Utf8.valid c = false := by simp [Utf8.valid]; omega
        have q1 : ((c : Int) < 55296) = False := by simp; omega
        have q2 : ((57343 : Int) < (c : Int)) = True := by simp; omega
        have q3 : ((c : Int) ≤ 1114111) = False := by simp; omega
        rw [hv]
        go_enter Tryz.func169, Tryz.ntmps169
        go_wp2_with fail
        go_ret
        exact ⟨rfl, rfl⟩
theorem hex_plain : ∀ k : Fin 16, (Utf8.decode hexS k).1 ≠ 65533 ∧ (Utf8.decode hexS k).2 = 1 ∧ (Utf8.decode hexS k).1 < 128 := by decide
theorem enc_two (c : Nat) (h : 128 ≤ c) : ∃ E : ByteArray, Utf8.encode c = E ∧ ∃ b0 b1 b2 b3 : UInt8, (E = ⟨#[b0, b1]⟩ ∧ 128 ≤ b1.toNat) ∨ (E = ⟨#[b0, b1, b2]⟩ ∧ 128 ≤ b2.toNat) ∨ (E = ⟨#[b0, b1, b2, b3]⟩ ∧ 128 ≤ b3.toNat) := by
  refine ⟨_, rfl, ?_⟩
  simp only [Utf8.encode]
  generalize hd : (if Utf8.valid c = true then (c : Int).toNat else Utf8.runeError) = d
  have h1 : 128 ≤ d := by rw [← hd]; split <;> simp [Utf8.runeError] <;> omega
  rw [if_neg (by omega)]
  split
  · exact ⟨_, _, 0, 0, .inl ⟨rfl, by simp [UInt8.toNat_ofNat']; omega⟩⟩
  split
  · exact ⟨_, _, _, 0, .inr (.inl ⟨rfl, by simp [UInt8.toNat_ofNat']; omega⟩)⟩
  · exact ⟨_, _, _, _, .inr (.inr ⟨rfl, by simp [UInt8.toNat_ofNat']; omega⟩)⟩
theorem idx_none (b : UInt8) (h : 128 ≤ b.toNat) : ∀ l : List UInt8, (∀ x ∈ l, x.toNat < 128) → Lib.indexByte l b = -1
  | [], _ => rfl
  | x :: l, hl => by
    have h1 := idx_none b h l (fun y hy => hl y (List.mem_cons_of_mem _ hy))
    have h2 := hl x (List.mem_cons_self)
    have h3 : (x == b) = false := by
      simp
      intro e
      rw [e] at h2
      omega
    simp [Lib.indexByte, h1, h3]
theorem hex_low : ∀ x ∈ hexS.data.toList, x.toNat < 128 := by decide
theorem hex_drop (n : Nat) (b : UInt8) (h : 128 ≤ b.toNat) : strings_IndexByte.f (hexS.extract n 16) b.toNat = some (-1) := by
  unfold strings_IndexByte.f
  rw [idx_none _ (by simp; exact h)]
  intro x hx
  simp at hx
  exact hex_low x (List.mem_of_mem_drop (List.mem_of_mem_take hx))
set_option maxRecDepth 100000 in
set_option maxHeartbeats 8000000 in
theorem index_at (s E : ByteArray) (c l : Nat) (w : World) (hm : c ≤ 2147483647) (q1 : ((c : Int) < 128) = False) (q2 : ((c : Int) == 65533) = false) (h2 : Utf8.valid c = true)
    (hE : Utf8.encode c = E) (hl : (E.size : Int) - 1 = l) (hl3 : (l : Int) ≤ 3) (hz : (s.size : Int) ≤ 1000) (hk1 : l < s.size) (hk2 : l < E.size)
    (hkI : (l : Int) < (s.size : Int)) (hkJ : (l : Int) + 1 ≤ (s.size : Int)) (hkE : (l : Int) < (E.size : Int)) (q5 : (((s[l]'hk1).toNat : Int) != ((E[l]'hk2).toNat : Int)) = true)
    (HX : Hid (Lib.indexByte (s.extract (l + 1) s.size).data.toList ((E[l]'hk2).toNat : Int).toNat.toUInt8 = -1)) :
    Calls Tryz.prog 154 #[.string s, .int .i32 c] w fun E w' => E = .returned (.int .i64 (-1)) ∧ Below w.heap.size w w' := by
  have q0 : ((0 : Int) ≤ (c : Int)) = True := by simp
  have qm : (c : Int) ≤ 2147483647 := by omega
  have HM := Lib.hid hm
  clear hm
  go_enter Tryz.func154, Tryz.ntmps154
  go_wp2_with fail
  refine (valid_calls c HM.out _).mono ?_
  rintro E' w2 ⟨rfl, rfl⟩
  rw [h2]
  go_wp2_with fail
  refine wp_scope_straight ?_
  go_wp2_with fail
  refine wp_loop_rounds 1 ?_
  rw [rounds_succ]
  go_wp2_with fail
  refine wp_scope_straight ?_
  go_wp2_with fail
  go_region
  go_wp2_with fail
  have hw : IntKind.i64.wrap ((l : Int) + 1) = (l : Int) + 1 := by simp [IntKind.wrap, IntKind.bits, IntKind.signed]; omega
  have hw0 : (0 : Int) ≤ (l : Int) + 1 := by omega
  have hw1 : ((l : Int) + 1).toNat = l + 1 := by omega
  go_region_held3 (fun w' => Below w2.heap.size w2 w') (first | assumption | exact (Below.refl _ _).drew | exact ((Below.refl _ _).drew).drew | go_keep)
    (first | (go_at_call 147; refine (Tryz.strings_IndexByte _ _ _).mono ?_; rintro e w3 ⟨rfl, rfl⟩; rw [HX.out]))
  clear hw hw0 hw1
  go_wp2_with fail
  unfold Exit.noGoto
  go_ret
  exact ⟨rfl, by assumption⟩
set_option maxRecDepth 100000 in
set_option maxHeartbeats 8000000 in
theorem index_ill (s : ByteArray) (c : Nat) (w : World) (hm : c ≤ 2147483647) (q1 : ((c : Int) < 128) = False) (q2 : ((c : Int) == 65533) = false) (h2 : Utf8.valid c = false) :
    Calls Tryz.prog 154 #[.string s, .int .i32 c] w fun E w' => E = .returned (.int .i64 (-1)) ∧ Below w.heap.size w w' := by
  have q0 : ((0 : Int) ≤ (c : Int)) = True := by simp
  have qm : (c : Int) ≤ 2147483647 := by omega
  have HM := Lib.hid hm
  clear hm
  go_enter Tryz.func154, Tryz.ntmps154
  go_wp2_with fail
  refine (valid_calls c HM.out _).mono ?_
  rintro E' w2 ⟨rfl, rfl⟩
  rw [h2]
  go_wp2_with fail
  go_ret
  exact ⟨rfl, Below.refl _ _⟩
set_option maxRecDepth 100000 in
set_option maxHeartbeats 8000000 in
theorem index_err (s : ByteArray) (w : World) (hz : s.size ≤ 1000000) (hs : ∀ k < s.size, (Utf8.decode s k).1 ≠ 65533) :
    Calls Tryz.prog 154 #[.string s, .int .i32 65533] w fun E w' => E = .returned (.int .i64 (-1)) ∧ Below w.heap.size w w' := by
  have HS := Lib.hid hs
  have HZ := Lib.hid hz
  clear hs hz
  go_enter Tryz.func154, Tryz.ntmps154
  go_wp2_with fail
  go_loopg [] (s.size + 1) (fun gk wr => ∃ k, gk = s.size + 1 - k ∧ Hid (wr.heap[w.heap.size]? = some (.stringIter s k)) ∧ Hid (Below w.heap.size w wr))
  case atStart => exact ⟨0, by omega, Lib.hid (w.iter_heap s 0), Lib.hid (Below.alloc (Below.refl _ _) (Nat.le_refl _) _)⟩
  case round =>
    obtain ⟨k, rfl, HIT, HB⟩ := hrel
    by_cases hk : k < s.size
    · have HADV := Lib.hid (decode_adv s k)
      have hkI : (k : Int) ≤ 1000000 := by have := HZ.out; omega
      have HK := Lib.hid hk
      have hne := HS.out k hk
      clear hk
      obtain ⟨d, hd⟩ : ∃ d, (Utf8.decode s k).1 = d := ⟨_, rfl⟩
      have hd3 : (d : Int) ≤ 2147483647 := by rw [← hd]; have := decode_le s k; omega
      have HD := Lib.hid hd
      clear hd
      rw [HD.out] at hne
      have q4 : ((d : Int) == 65533) = false := by simp; omega
      clear hne
      go_wp2_with (refine next_more rfl (.tmp 175) rfl w.heap.size s k HIT.out rfl HK.out ?_; intro w2 hi2 hk2; rw [HD.out])
      have hb2 := HB.out.grown hk2 HB.out.size (fun i e => Nat.le_of_eq (Option.some.inj e))
      go_roundg (s.size + 1 - (k + (Utf8.decode s k).2))
      case measure => have := HADV.out; have := HK.out; omega
      case rel => exact ⟨_, rfl, Lib.hid hi2, Lib.hid hb2⟩
    · have HK := Lib.hid hk
      clear hk
      go_wp2_with (refine next_over rfl (.tmp 175) rfl w.heap.size s k HIT.out rfl HK.out ?_)
      go_ret
      exact ⟨rfl, HB.out⟩
theorem index_high (c : Nat) (w : World) (hc : 128 ≤ c) (hm : c ≤ 2147483647) :
    Calls Tryz.prog 154 #[.string hexS, .int .i32 c] w fun E w' => E = .returned (.int .i64 (-1)) ∧ Below w.heap.size w w' := by
  have q1 : ((c : Int) < 128) = False := by simp; omega
  by_cases h1 : c = 65533
  · subst h1
    exact index_err hexS w (by decide) (fun k hk => (hex_plain ⟨k, hk⟩).1)
  · have q2 : ((c : Int) == 65533) = false := by simp; omega
    cases h2 : Utf8.valid c with
    | false => exact index_ill hexS c w hm q1 q2 h2
    | true =>
      obtain ⟨E, hE, b0, b1, b2, b3, hcs⟩ := enc_two c hc
      have hf : ∀ (x : Nat) (b : UInt8), x < 128 → 128 ≤ b.toNat → ((x : Int) != (b.toNat : Int)) = true := fun x b hx hb => by simp; omega
      have hg : ∀ (n : Nat) (b : UInt8), 128 ≤ b.toNat → Hid (Lib.indexByte (hexS.extract n hexS.size).data.toList ((b.toNat : Int)).toNat.toUInt8 = -1) := fun n b hb => Lib.hid (Option.some.inj (hex_drop n b hb))
      rcases hcs with ⟨rfl, hb⟩ | ⟨rfl, hb⟩ | ⟨rfl, hb⟩
      · exact index_at hexS _ c 1 w hm q1 q2 h2 hE rfl (by decide) (by decide) (by decide) (by show 1 < 2; decide) (by decide) (by decide) (by show (1 : Int) < 2; decide) (hf 49 _ (by decide) hb) (hg 2 _ hb)
      · exact index_at hexS _ c 2 w hm q1 q2 h2 hE rfl (by decide) (by decide) (by decide) (by show 2 < 3; decide) (by decide) (by decide) (by show (2 : Int) < 3; decide) (hf 50 _ (by decide) hb) (hg 3 _ hb)
      · exact index_at hexS _ c 3 w hm q1 q2 h2 hE rfl (by decide) (by decide) (by decide) (by show 3 < 4; decide) (by decide) (by decide) (by show (3 : Int) < 4; decide) (hf 51 _ (by decide) hb) (hg 4 _ hb)
end Js
end Go.Proofs.YtapcpndplnkfjaaGreatDoor
namespace Go.Proofs.YtapcpndplnkfjaaGreatDoor
open Go.RowKit Go.Proofs.YtapcpndplnkfjaaGreatDoorW.PrintWords Go.Proofs.YtapcpndplnkfjaaGreatDoorW.PrintLast Go.Proofs.YtapcpndplnkfjaaGreatDoorW.PrintMore
set_option linter.unusedVariables false
set_option linter.unusedSimpArgs false
namespace Js
def hexI (c : Nat) : Int := if c < 128 then Lib.indexByte hexS.data.toList c.toUInt8 else -1
theorem index_calls (c : Nat) (w : World) (hm : c ≤ 2147483647) :
    Calls Tryz.prog 154 #[.string hexS, .int .i32 c] w fun E w' => E = .returned (.int .i64 (hexI c)) ∧ Below w.heap.size w w' := by
  unfold hexI
  split
  · rename_i h
    exact (Tryz.strings_IndexRune_ascii hexS c w (by omega) (by omega)).mono fun e w' hh => ⟨hh.1, by rw [hh.2]; exact Below.refl _ _⟩
  · exact index_high c w (by omega) hm
set_option maxRecDepth 10000 in
theorem hexI_b (c : Nat) : -1 ≤ hexI c ∧ hexI c ≤ 15 := by
  unfold hexI
  split
  · refine ⟨Lib.indexByte_ge _ _, ?_⟩
    rename_i h
    have : ∀ i : Fin 128, Lib.indexByte hexS.data.toList i.val.toUInt8 ≤ 15 := by decide
    exact this ⟨c, h⟩
  · omega
theorem mapGoD_length (f : Int → Int) : ∀ (n : Nat) (l : List UInt8), (Lib.mapGoD f n l).length ≤ 4 * n
  | 0, l => by simp [Lib.mapGoD]
  | n + 1, l => by
    unfold Lib.mapGoD
    split
    · simp
    · have := mapGoD_length f n (l.drop (Lib.decodeL l).2)
      have h4 : ∀ r, (Lib.encodeRune r).length ≤ 4 := fun r => by
        unfold Lib.encodeRune; rw [List.length_map]; exact Lib.encodeRuneZ_length_le r
      rw [List.length_append]
      split
      · have := h4 (f (Lib.decodeL l).1); omega
      · simp; omega
def stepI (x i : Int) : Int := bits .or .i32 (wrap32 (x * 16)) i
def fourLoop (s : ByteArray) : Nat → Nat → Int → Option Int
  | 0, _, _ => none
  | n + 1, k, x => if k < s.size then if hexI (Utf8.decode s k).1 < 0 then none else fourLoop s n (k + (Utf8.decode s k).2) (stepI x (hexI (Utf8.decode s k).1)) else some x
def S.low (a : S) : ByteArray := ofL (Lib.toLowerD (a.s.take 4))
def fourV (a : S) : Option Int → Int × S
  | none => (0, a.fail 11)
  | some x => (x, { a with s := a.s.drop 4 })
def S.four (a : S) : Int × S := if a.s.length < 4 then (0, a.fail 11) else fourV a (fourLoop a.low (a.low.size + 1) 0 0)
set_option maxRecDepth 100000 in
set_option maxHeartbeats 8000000 in
theorem four_calls {w w1 : World} {g : Nat} {a : S} (h : Rd w w1 g a) (hl : a.s.length ≤ 1000000) :
    Calls Tryz.prog 161 #[.pointer (some ⟨g, 0, none⟩)] w1 fun E w' => E = .returned (.int .i32 a.four.1) ∧ Rd w w' g a.four.2 := by
  have H := Lib.hid h
  have c0 := h.c0
  have HL := Lib.hid hl
  by_cases h4 : a.s.length < 4
  · have hi : ((ofL a.s).size : Int) < 4 := by rw [ofL_size]; omega
    have HR : Hid (a.four = (0, a.fail 11)) := Lib.hid (by unfold S.four; rw [if_pos h4])
    rw [HR.out]
    clear h h4 hl
    go_enter Tryz.func161, Tryz.ntmps161
    go_wp2_with fail
    refine (fail_calls H.out.now 11).mono ?_
    rintro E w2 ⟨rfl, h2⟩
    have h2 := H.out.trans h2
    go_wp2_with fail
    go_ret
    exact ⟨rfl, h2⟩
  · have hi : (4 : Int) ≤ ((ofL a.s).size : Int) := by rw [ofL_size]; omega
    have hi2 : ((ofL a.s).size : Int) ≤ 1000000 := by rw [ofL_size]; omega
    have HX : Hid ((ofL a.s).extract 0 4 = ofL (a.s.take 4)) := Lib.hid (by rw [ofL_ext]; simp)
    obtain ⟨R, hR⟩ : ∃ R, a.four = R := ⟨_, rfl⟩
    have HR : Hid (fourV a (fourLoop a.low (a.low.size + 1) 0 0) = R) := Lib.hid (by rw [← hR]; unfold S.four; rw [if_neg h4])
    have HT := Lib.hid h.tb.tabs
    have hlow : (ofL (Lib.toLowerD (ofL (a.s.take 4)).data.toList)) = a.low := rfl
    have HLOW := Lib.hid hlow
    rw [hR]
    clear h h4 hl hR hlow
    go_enter Tryz.func161, Tryz.ntmps161
    go_wp2_with fail
    rw [HX.out]
    refine (Any.strings_ToLower_any Tryz.lays159 Tryz.Builder_Extra_159 _ _ (by rw [ofL_size]; simp; omega) HT.out.cv HT.out.u8).mono ?_
    rintro E w2 ⟨rfl, hb2⟩
    have hE : (⟨(Lib.toLowerD (ofL (a.s.take 4)).data.toList).toArray⟩ : ByteArray) = a.low := HLOW.out
    rw [hE]
    have HLZ : Hid (a.low.size ≤ 16) := Lib.hid (by unfold S.low; rw [ofL_size]; unfold Lib.toLowerD Lib.mapD; have := mapGoD_length Lib.toLowerU (a.s.take 4).length (a.s.take 4); simp at this ⊢; omega)
    have H2 := Lib.hid (H.out.below hb2)
    obtain ⟨s, hs⟩ : ∃ s, a.low = s := ⟨_, rfl⟩
    rw [hs] at HLZ HR ⊢
    obtain ⟨B, hB⟩ : ∃ B, w2.heap.size = B := ⟨_, rfl⟩
    have HB := Lib.hid hB
    have HGB : Hid (g < B ∧ w.heap.size ≤ B) := Lib.hid ⟨by rw [← hB]; exact H2.out.lt, by rw [← hB]; exact H2.out.kp.size⟩
    have H3 : Hid (Rd w (w2.alloc (.stringIter s 0)) g a) := Lib.hid (H2.out.below (Below.alloc (Below.refl _ _) (Nat.le_refl _) _))
    have HI3 : Hid ((w2.alloc (.stringIter s 0)).heap[B]? = some (.stringIter s 0)) := Lib.hid (by rw [← hB]; exact w2.iter_heap s 0)
    clear hE hb2 HX HT HLOW hs c0 H2 hB
    go_wp2_with fail
    rw [HB.out]
    go_loopg [3] (s.size + 1) (fun gk v3 wr => ∃ (k n : Nat) (x : Int), gk = s.size + 1 - k ∧ v3 = .int .i32 x ∧ (s.size < n + k ∧ 1 ≤ n) ∧ Hid (wr.heap[B]? = some (.stringIter s k)) ∧ Hid (Rd w wr g a) ∧ Hid (fourV a (fourLoop s n k x) = R))
    case atStart => exact ⟨0, s.size + 1, 0, by omega, rfl, ⟨by omega, by omega⟩, HI3, H3, HR⟩
    case round =>
      obtain ⟨k, n, x, rfl, rfl, hn, HIT, H, HF⟩ := hrel
      have HN := Lib.hid hn
      clear hn H3 HI3 HR
      by_cases hk : k < s.size
      · have HADV := Lib.hid (decode_adv s k)
        have hkI : (k : Int) ≤ 1000000 := by have := HLZ.out; omega
        have HF2 : Hid (fourV a (if hexI (Utf8.decode s k).1 < 0 then none else fourLoop s (n - 1) (k + (Utf8.decode s k).2) (stepI x (hexI (Utf8.decode s k).1))) = R) := Lib.hid (by
          have hf := HF.out
          obtain ⟨n', rfl⟩ : ∃ n', n = n' + 1 := ⟨n - 1, by have := HN.out; omega⟩
          rw [fourLoop, if_pos hk] at hf
          exact hf)
        have HK := Lib.hid hk
        clear hk HF
        obtain ⟨d, hd⟩ : ∃ d, (Utf8.decode s k).1 = d := ⟨_, rfl⟩
        have hd3 : (d : Int) ≤ 2147483647 := by rw [← hd]; have := decode_le s k; omega
        have HD := Lib.hid hd
        clear hd
        rw [HD.out] at HF2
        have hb := hexI_b d
        have hcc : hexS = ⟨#[48, 49, 50, 51, 52, 53, 54, 55, 56, 57, 97, 98, 99, 100, 101, 102]⟩ := rfl
        have HC := Lib.hid hcc
        clear hcc
        go_wp2_with (refine next_more rfl (.tmp 21) rfl B s k HIT.out rfl HK.out ?_; intro w4 hi4 hk4; rw [HD.out])
        have H4 : Hid (Rd w w4 g a) := Lib.hid (H.out.far hk4 (by have := HGB.out; omega) HGB.out.2)
        have HI4 := Lib.hid hi4
        clear hk4 hi4
        rw [← HC.out]
        refine (index_calls d _ (by omega)).mono ?_
        rintro E w5 ⟨rfl, hb5⟩
        have HI5 : Hid (w5.heap[B]? = some (.stringIter s (k + (Utf8.decode s k).2))) := Lib.hid ((hb5.block B (Array.getElem?_eq_some_iff.1 HI4.out).1).trans HI4.out)
        have H5 := Lib.hid (H4.out.below hb5)
        clear hb5 H4 HI4
        obtain ⟨i, hi⟩ : ∃ i, hexI d = i := ⟨_, rfl⟩
        rw [hi] at HF2 hb ⊢
        have HHI := Lib.hid hi
        clear hi H HIT
        by_cases h0 : i < 0
        · have HRR : Hid (fourV a none = R) := Lib.hid (by have := HF2.out; rw [if_pos h0] at this; exact this)
          go_wp2_with fail
          refine (fail_calls H5.out.now 11).mono ?_
          rintro E w6 ⟨rfl, h6⟩
          have h6 := H5.out.trans h6
          go_wp2_with fail
          go_ret
          exact ⟨by rw [← HRR.out]; rfl, by rw [← HRR.out]; exact h6⟩
        · have HRR : Hid (fourV a (fourLoop s (n - 1) (k + (Utf8.decode s k).2) (stepI x i)) = R) := Lib.hid (by have := HF2.out; rw [if_neg h0] at this; exact this)
          have h0' : (0 : Int) ≤ i := by omega
          have hi15 : i ≤ 15 := hb.2
          clear h0 hb
          go_wp2_with fail
          go_roundg (s.size + 1 - (k + (Utf8.decode s k).2))
          case measure => have := HADV.out; have := HK.out; omega
          case rel => exact ⟨_, n - 1, _, rfl, rfl, by have := HADV.out; have := HN.out; have := HK.out; exact ⟨by omega, by omega⟩, HI5, H5, HRR⟩
      · have HRR : Hid (fourV a (some x) = R) := Lib.hid (by
          have hf := HF.out
          obtain ⟨n', rfl⟩ : ∃ n', n = n' + 1 := ⟨n - 1, by have := HN.out; omega⟩
          rw [fourLoop, if_neg hk] at hf
          exact hf)
        have HK := Lib.hid hk
        clear hk HF
        have c0 := H.out.c0
        have f0 := H.out.fz 0
        have HX2 : Hid ((ofL a.s).extract 4 (ofL a.s).size = ofL (a.s.drop 4)) := Lib.hid (by rw [ofL_ext, ofL_size, List.take_length])
        have h9 := H.out.s0 (a.s.drop 4)
        have HH9 := Lib.hid h9
        clear h9
        go_wp2_with (refine next_over rfl (.tmp 21) rfl B s k HIT.out rfl HK.out ?_)
        rw [HX2.out]
        go_ret
        exact ⟨by rw [← HRR.out]; rfl, by rw [← HRR.out]; exact HH9.out⟩
end Js
end Go.Proofs.YtapcpndplnkfjaaGreatDoor
namespace Go.Proofs.YtapcpndplnkfjaaGreatDoor
open Go.RowKit Go.Proofs.YtapcpndplnkfjaaGreatDoorW.PrintWords Go.Proofs.YtapcpndplnkfjaaGreatDoorW.PrintLast Go.Proofs.YtapcpndplnkfjaaGreatDoorW.PrintMore
set_option linter.unusedVariables false
set_option linter.unusedSimpArgs false
namespace Js
theorem ofL_bytes (b : ByteArray) : ofL b.data.toList = b := by cases b; simp [ofL]
def encL (x : Int) : List UInt8 := (Utf8.encode x).data.toList
theorem ofL_enc (x : Int) : ofL (encL x) = Utf8.encode x := ofL_bytes _
theorem encL_len (x : Int) : (encL x).length ≤ 4 := by
  unfold encL Utf8.encode
  simp only []
  generalize (if Utf8.valid x = true then x.toNat else Utf8.runeError) = c
  by_cases h1 : c < 128
  · rw [if_pos h1]; simp
  rw [if_neg h1]
  by_cases h2 : c < 2048
  · rw [if_pos h2]; simp
  rw [if_neg h2]
  by_cases h3 : c < 65536
  · rw [if_pos h3]; simp
  · rw [if_neg h3]; simp
theorem fail_s (a : S) (x : Int) : (a.fail x).s = a.s := by unfold S.fail; split <;> rfl
theorem fail_o (a : S) (x : Int) : (a.fail x).o = a.o := by unfold S.fail; split <;> rfl
theorem four_len (a : S) : a.four.2.s.length ≤ a.s.length := by
  unfold S.four
  split
  · rw [fail_s]
    exact Nat.le_refl _
  · cases fourLoop a.low (a.low.size + 1) 0 0 with
    | none => simp [fourV, fail_s]
    | some x => simp [fourV]
theorem four_o (a : S) : a.four.2.o = a.o := by
  unfold S.four
  split
  · rw [fail_o]
  · cases fourLoop a.low (a.low.size + 1) 0 0 with
    | none => simp [fourV, fail_o]
    | some x => rfl
def signX (x y : Int) : Int := wrap32 (wrap32 (65536 + (x - 55296) * 1024 + y) - 56320)
def S.pre (a : S) : S := { a with s := Lib.trimPrefix a.s [92, 117] }
def S.sgn (x : Int) (c : S) : List UInt8 × S := (encL (signX x c.four.1), if c.four.1 < 56320 ∨ 57343 < c.four.1 then c.four.2.fail 11 else c.four.2)
def S.sign (a : S) : List UInt8 × S :=
  if a.four.1 < 55296 ∨ 57343 < a.four.1 then (encL a.four.1, a.four.2) else
  if 56320 ≤ a.four.1 ∨ Lib.hasPrefix a.four.2.s [92, 117] = false then ([], a.four.2.fail 11) else S.sgn a.four.1 a.four.2.pre
set_option maxRecDepth 100000 in
set_option maxHeartbeats 8000000 in
theorem sign_calls {w w1 : World} {g : Nat} {a : S} (h : Rd w w1 g a) (hl : a.s.length ≤ 1000000) :
    Calls Tryz.prog 146 #[.pointer (some ⟨g, 0, none⟩)] w1 fun E w' => E = .returned (.string (ofL a.sign.1)) ∧ Rd w w' g a.sign.2 := by
  have H := Lib.hid h
  obtain ⟨R, hR⟩ : ∃ R, a.sign = R := ⟨_, rfl⟩
  have HR : Hid ((if a.four.1 < 55296 ∨ 57343 < a.four.1 then (encL a.four.1, a.four.2) else if 56320 ≤ a.four.1 ∨ Lib.hasPrefix a.four.2.s [92, 117] = false then ([], a.four.2.fail 11) else S.sgn a.four.1 a.four.2.pre) = R) := Lib.hid hR
  have HL := Lib.hid (Nat.le_trans (four_len a) hl)
  have HL0 := Lib.hid hl
  rw [hR]
  clear h hR hl
  go_enter Tryz.func146, Tryz.ntmps146
  go_wp2_with fail
  refine (four_calls H.out HL0.out).mono ?_
  rintro E w2 ⟨rfl, h2⟩
  have H2 := Lib.hid h2
  clear h2 H HL0
  obtain ⟨p, hp⟩ : ∃ p, a.four = p := ⟨_, rfl⟩
  obtain ⟨x, b⟩ := p
  rw [hp] at HR H2 HL ⊢
  clear hp
  have HR2 : Hid ((if x < 55296 ∨ 57343 < x then (encL x, b) else if 56320 ≤ x ∨ Lib.hasPrefix b.s [92, 117] = false then ([], b.fail 11) else S.sgn x b.pre) = R) := HR
  have HL2 : Hid (b.s.length ≤ 1000000) := HL
  have H3 : Hid (Rd w w2 g b) := H2
  clear HR HL H2
  by_cases hx : x < 55296
  · have HRR : Hid ((encL x, b) = R) := Lib.hid (by have := HR2.out; rw [if_pos (.inl hx)] at this; exact this)
    go_wp2_with fail
    go_ret
    exact ⟨by rw [← HRR.out]; show _ = Ending.returned (.string (ofL (encL x))); rw [ofL_enc]; rfl, by rw [← HRR.out]; exact H3.out⟩
  by_cases hx2 : 57343 < x
  · have HRR : Hid ((encL x, b) = R) := Lib.hid (by have := HR2.out; rw [if_pos (.inr hx2)] at this; exact this)
    have q1 : (x < 55296) = False := by simp; omega
    have q2 : (57343 < x) = True := by simp; omega
    clear hx hx2
    go_wp2_with fail
    go_ret
    exact ⟨by rw [← HRR.out]; show _ = Ending.returned (.string (ofL (encL x))); rw [ofL_enc]; rfl, by rw [← HRR.out]; exact H3.out⟩
  have q1 : (x < 55296) = False := by simp; omega
  have q2 : (57343 < x) = False := by simp; omega
  have c0 := H3.out.c0
  have HR3 : Hid ((if 56320 ≤ x ∨ Lib.hasPrefix b.s [92, 117] = false then ([], b.fail 11) else S.sgn x b.pre) = R) := Lib.hid (by have := HR2.out; rw [if_neg (by omega)] at this; exact this)
  have HX := Lib.hid (And.intro hx hx2)
  clear hx hx2 HR2
  go_wp2_with fail
  refine (Tryz.strings_CutPrefix _ _ _).mono ?_
  rintro E w4 ⟨rfl, rfl⟩
  have e1 : (ofL b.s).data.toList = b.s := by simp [ofL]
  have e2 : (⟨#[92, 117]⟩ : ByteArray).data.toList = [92, 117] := rfl
  have HPRE : Hid (b.pre = { b with s := Lib.trimPrefix b.s [92, 117] }) := Lib.hid rfl
  rw [e1, e2]
  clear e1 e2
  obtain ⟨is, his⟩ : ∃ is, Lib.hasPrefix b.s [92, 117] = is := ⟨_, rfl⟩
  obtain ⟨rest, hrest⟩ : ∃ r, Lib.trimPrefix b.s [92, 117] = r := ⟨_, rfl⟩
  have HLR : Hid (rest.length ≤ 1000000) := Lib.hid (by rw [← hrest]; unfold Lib.trimPrefix; have := HL2.out; split <;> (try simp) <;> omega)
  rw [hrest] at HPRE
  rw [his, hrest]
  rw [his] at HR3
  clear his hrest
  have f0 := H3.out.fz 0
  by_cases hx3 : 56320 ≤ x
  · have HRR : Hid (([], b.fail 11) = R) := Lib.hid (by have := HR3.out; rw [if_pos (.inl hx3)] at this; exact this)
    go_wp2_with fail
    refine (fail_calls H3.out.now 11).mono ?_
    rintro E w6 ⟨rfl, h6⟩
    have h6 := H3.out.trans h6
    go_wp2_with fail
    go_ret
    exact ⟨by rw [← HRR.out]; rfl, by rw [← HRR.out]; exact h6⟩
  cases is with
  | false =>
    have HRR : Hid (([], b.fail 11) = R) := Lib.hid (by have := HR3.out; rw [if_pos (.inr rfl)] at this; exact this)
    have q3 : (56320 ≤ x) = False := by simp; omega
    clear hx3
    go_wp2_with fail
    refine (fail_calls H3.out.now 11).mono ?_
    rintro E w6 ⟨rfl, h6⟩
    have h6 := H3.out.trans h6
    go_wp2_with fail
    go_ret
    exact ⟨by rw [← HRR.out]; rfl, by rw [← HRR.out]; exact h6⟩
  | true =>
    have HRR : Hid (S.sgn x b.pre = R) := Lib.hid (by have := HR3.out; rw [if_neg (by simp; omega)] at this; exact this)
    have q3 : (56320 ≤ x) = False := by simp; omega
    have HX3 := Lib.hid hx3
    clear hx3 HR3
    go_wp2_with fail
    have H5 : Hid (Rd w (w4.setCell ⟨g, 0, none⟩ (.string ⟨rest.toArray⟩)) g b.pre) := Lib.hid (by rw [HPRE.out]; exact H3.out.s0 rest)
    generalize w4.setCell ⟨g, 0, none⟩ (.string ⟨rest.toArray⟩) = w5 at *
    clear c0 f0
    refine (four_calls H5.out.now (by rw [HPRE.out]; exact HLR.out)).mono ?_
    rintro E w6 ⟨rfl, h6⟩
    have H6 := Lib.hid (H5.out.trans h6)
    have HRR2 : Hid ((encL (signX x b.pre.four.1), if b.pre.four.1 < 56320 ∨ 57343 < b.pre.four.1 then b.pre.four.2.fail 11 else b.pre.four.2) = R) := HRR
    clear h6 H5 HRR
    obtain ⟨p, hp⟩ : ∃ p, b.pre.four = p := ⟨_, rfl⟩
    obtain ⟨y, c⟩ := p
    rw [hp] at HRR2 H6 ⊢
    clear hp
    have H7 : Hid (Rd w w6 g c) := H6
    have HRR3 : Hid ((encL (signX x y), if y < 56320 ∨ 57343 < y then c.fail 11 else c) = R) := HRR2
    clear H6 HRR2
    have q4 : (55296 : Int) ≤ x := HX.out.1
    have q5 : x < 56320 := by have := HX3.out; omega
    clear q1 q2 q3
    by_cases hy : y < 56320
    · have HF : Hid ((encL (signX x y), c.fail 11) = R) := Lib.hid (by have := HRR3.out; rw [if_pos (.inl hy)] at this; exact this)
      skip
      go_wp2_with fail
      refine (fail_calls H7.out.now 11).mono ?_
      rintro E w8 ⟨rfl, h8⟩
      have h8 := H7.out.trans h8
      go_wp2_with fail
      go_ret
      exact ⟨by rw [← HF.out]; show _ = Ending.returned (.string (ofL (encL (signX x y)))); rw [ofL_enc]; rfl, by rw [← HF.out]; exact h8⟩
    by_cases hy2 : 57343 < y
    · have HF : Hid ((encL (signX x y), c.fail 11) = R) := Lib.hid (by have := HRR3.out; rw [if_pos (.inr hy2)] at this; exact this)
      have r1 : (y < 56320) = False := by simp; omega
      have r2 : (57343 < y) = True := by simp; omega
      clear hy hy2
      go_wp2_with fail
      refine (fail_calls H7.out.now 11).mono ?_
      rintro E w8 ⟨rfl, h8⟩
      have h8 := H7.out.trans h8
      go_wp2_with fail
      go_ret
      exact ⟨by rw [← HF.out]; show _ = Ending.returned (.string (ofL (encL (signX x y)))); rw [ofL_enc]; rfl, by rw [← HF.out]; exact h8⟩
    · have HF : Hid ((encL (signX x y), c) = R) := Lib.hid (by have := HRR3.out; rw [if_neg (by omega)] at this; exact this)
      have r1 : (y < 56320) = False := by simp; omega
      have r2 : (57343 < y) = False := by simp; omega
      clear hy hy2
      go_wp2_with fail
      go_ret
      exact ⟨by rw [← HF.out]; show _ = Ending.returned (.string (ofL (encL (signX x y)))); rw [ofL_enc]; rfl, by rw [← HF.out]; exact H7.out⟩
def escA : ByteArray := ⟨#[34, 92, 47, 98, 102, 110, 114, 116]⟩
def escB : ByteArray := ⟨#[34, 92, 47, 8, 12, 10, 13, 9]⟩
def escL (i : Int) : List UInt8 := (escB.extract i.toNat (i.toNat + 1)).data.toList
def escI (c : UInt8) : Int := Lib.indexByte escA.data.toList c
theorem indexByte_le : ∀ (l : List UInt8) (c : UInt8), Lib.indexByte l c + 1 ≤ l.length
  | [], _ => by simp [Lib.indexByte]
  | b :: l, c => by
    have := indexByte_le l c
    unfold Lib.indexByte
    split
    · simp; omega
    split
    · simp; omega
    · simp; omega
theorem escI_b (c : UInt8) : -1 ≤ escI c ∧ escI c ≤ 7 := by
  refine ⟨Lib.indexByte_ge _ _, ?_⟩
  have := indexByte_le escA.data.toList c
  have h8 : escA.data.toList.length = 8 := rfl
  unfold escI
  omega
def S.escT (c : UInt8) (b : S) : List UInt8 × S := if c = 117 then b.sign else if escI c < 0 then ([], b.fail 11) else (escL (escI c), b)
def S.esc (a : S) : List UInt8 × S := match a.s with
  | [] => ([], a.fail 11)
  | c :: l => S.escT c { a with s := l }
theorem sgn_len (x : Int) (c : S) : (S.sgn x c).2.s.length ≤ c.s.length ∧ (S.sgn x c).1.length ≤ 4 ∧ (S.sgn x c).2.o = c.o := by
  refine ⟨?_, encL_len _, ?_⟩
  · unfold S.sgn; simp only []; split
    · rw [fail_s]; exact four_len c
    · exact four_len c
  · unfold S.sgn; simp only []; split
    · rw [fail_o]; exact four_o c
    · exact four_o c
theorem sign_len (a : S) : a.sign.2.s.length ≤ a.s.length ∧ a.sign.1.length ≤ 4 ∧ a.sign.2.o = a.o := by
  have h1 := four_len a
  have h2 := four_o a
  unfold S.sign
  split
  · exact ⟨h1, encL_len _, h2⟩
  split
  · exact ⟨by rw [fail_s]; exact h1, by simp, by rw [fail_o]; exact h2⟩
  · have h3 := sgn_len a.four.1 a.four.2.pre
    have h4 : a.four.2.pre.s.length ≤ a.four.2.s.length := by
      unfold S.pre Lib.trimPrefix; simp only []; split <;> simp
    exact ⟨by omega, h3.2.1, h3.2.2.trans h2⟩
theorem esc_len (a : S) : a.esc.2.s.length ≤ a.s.length ∧ a.esc.1.length ≤ 16 ∧ a.esc.2.o = a.o := by
  unfold S.esc
  split
  · rename_i h; exact ⟨by rw [fail_s]; exact Nat.le_refl _, by simp, by rw [fail_o]⟩
  · rename_i c l h
    rw [h]
    unfold S.escT
    split
    · have := sign_len { a with s := l }
      exact ⟨by have := this.1; simp at this ⊢; omega, by omega, this.2.2⟩
    split
    · exact ⟨by rw [fail_s]; simp, by simp, by rw [fail_o]⟩
    · exact ⟨by simp, by unfold escL; simp; omega, rfl⟩
set_option maxRecDepth 100000 in
set_option maxHeartbeats 8000000 in
theorem esc_calls : ECalls (fun a => a.s.length ≤ 1000000) S.esc := by
  intro w w1 g a h hl
  have H := Lib.hid h
  have c0 := h.c0
  have f0 := h.fz 0
  have HL := Lib.hid hl
  cases hs : a.s with
  | nil =>
    have HR : Hid (a.esc = ([], a.fail 11)) := Lib.hid (by unfold S.esc; rw [hs])
    rw [HR.out]
    rw [hs] at c0
    have hE : ofL [] = (⟨#[]⟩ : ByteArray) := rfl
    rw [hE] at c0 ⊢
    clear h hs hl hE
    go_enter Tryz.func119, Tryz.ntmps119
    go_wp2_with fail
    refine (fail_calls H.out.now 11).mono ?_
    rintro E w2 ⟨rfl, h2⟩
    have h2 := H.out.trans h2
    go_wp2_with fail
    go_ret
    exact ⟨rfl, h2⟩
  | cons c l =>
    have HR : Hid (a.esc = S.escT c { a with s := l }) := Lib.hid (by unfold S.esc; rw [hs])
    rw [HR.out]
    obtain ⟨R, hR⟩ : ∃ R, S.escT c { a with s := l } = R := ⟨_, rfl⟩
    have HR2 : Hid ((if c = 117 then S.sign { a with s := l } else if escI c < 0 then ([], S.fail { a with s := l } 11) else (escL (escI c), { a with s := l })) = R) := Lib.hid hR
    rw [hR]
    obtain ⟨s, hS⟩ : ∃ s, ofL a.s = s := ⟨_, rfl⟩
    rw [hS] at c0
    have hz : 0 < s.size := by rw [← hS, ofL_size, hs]; simp
    have hzI : (0 : Int) < (s.size : Int) := by omega
    have hz1 : (1 : Int) ≤ (s.size : Int) := by omega
    have hne : s.toList.isEmpty = false := by rw [← hS, hs, ofL_toList]; rfl
    have HB0 : Hid (s[0]'hz = c) := Lib.hid (by subst hS; simp only [hs]; rfl)
    have HX : Hid (s.extract 1 s.size = ofL l) := Lib.hid (by rw [← hS, ofL_ext, ofL_size, List.take_length, hs]; rfl)
    have HBL : Hid (l.length ≤ 1000000) := Lib.hid (by rw [hs] at hl; simp at hl; omega)
    obtain ⟨b, hb⟩ : ∃ b : S, b = { a with s := l } := ⟨_, rfl⟩
    have HB := Lib.hid hb
    rw [← hb] at HR2
    have hcc : escA = ⟨#[34, 92, 47, 98, 102, 110, 114, 116]⟩ := rfl
    have HC := Lib.hid hcc
    have hcd : escB = ⟨#[34, 92, 47, 8, 12, 10, 13, 9]⟩ := rfl
    have HD := Lib.hid hcd
    clear h hs hl hR HR hS hb hcc hcd
    by_cases h117 : c = 117
    · have e117 : (((s[0]'hz).toNat : Int) == 117) = true := by rw [HB0.out, h117]; rfl
      have HRR : Hid (b.sign = R) := Lib.hid (by have := HR2.out; rw [if_pos h117] at this; exact this)
      clear HR2 h117
      go_enter Tryz.func119, Tryz.ntmps119
      go_wp2_with fail
      rw [HX.out]
      have H2 : Hid (Rd w (w1.setCell ⟨g, 0, none⟩ (.string (ofL l))) g b) := Lib.hid (by rw [HB.out]; exact H.out.s0 l)
      refine (sign_calls H2.out.now (by rw [HB.out]; exact HBL.out)).mono ?_
      rintro E w3 ⟨rfl, h3⟩
      have h3 := H2.out.trans h3
      go_wp2_with fail
      go_ret
      exact ⟨by rw [← HRR.out]; rfl, by rw [← HRR.out]; exact h3⟩
    · have e117 : (((s[0]'hz).toNat : Int) == 117) = false := by
        rw [HB0.out]; simp
        intro e; exact h117 (UInt8.toNat_inj.1 (by have : c.toNat = 117 := by exact_mod_cast e
                                                   simpa using this))
      have HR3 : Hid ((if escI c < 0 then ([], b.fail 11) else (escL (escI c), b)) = R) := Lib.hid (by have := HR2.out; rw [if_neg h117] at this; exact this)
      clear HR2 h117
      have hbb := escI_b c
      have HJ : Hid (Lib.indexByte escA.data.toList (((s[0]'hz).toNat : Int)).toNat.toUInt8 = escI c) := Lib.hid (by rw [HB0.out]; unfold escI; simp)
      obtain ⟨i, hi⟩ : ∃ i, escI c = i := ⟨_, rfl⟩
      rw [hi] at HR3 HJ hbb
      clear hi
      go_enter Tryz.func119, Tryz.ntmps119
      go_wp2_with fail
      rw [HX.out]
      have H2 : Hid (Rd w (w1.setCell ⟨g, 0, none⟩ (.string (ofL l))) g b) := Lib.hid (by rw [HB.out]; exact H.out.s0 l)
      generalize w1.setCell ⟨g, 0, none⟩ (.string (ofL l)) = w2 at *
      refine (Tryz.strings_IndexByte _ _ _).mono ?_
      rintro E w3 ⟨rfl, rfl⟩
      have hA : (⟨#[34, 92, 47, 98, 102, 110, 114, 116]⟩ : ByteArray).data.toList = escA.data.toList := rfl
      rw [hA, HJ.out]
      clear hA c0 f0
      by_cases h0 : i < 0
      · have HRR : Hid (([], b.fail 11) = R) := Lib.hid (by have := HR3.out; rw [if_pos h0] at this; exact this)
        go_wp2_with fail
        refine (fail_calls H2.out.now 11).mono ?_
        rintro E w6 ⟨rfl, h6⟩
        have h6 := H2.out.trans h6
        go_wp2_with fail
        go_ret
        exact ⟨by rw [← HRR.out]; rfl, by rw [← HRR.out]; exact h6⟩
      · have HRR : Hid ((escL i, b) = R) := Lib.hid (by have := HR3.out; rw [if_neg h0] at this; exact this)
        have h0' : (0 : Int) ≤ i := by omega
        have h7 : i ≤ 7 := hbb.2
        obtain ⟨n, rfl⟩ : ∃ n : Nat, i = (n : Int) := ⟨i.toNat, by omega⟩
        clear h0 hbb HR3
        go_wp2_with fail
        go_ret
        exact ⟨by rw [← HRR.out]; show _ = Ending.returned (.string (ofL (escB.extract (n : Int).toNat ((n : Int).toNat + 1)).data.toList)); rw [ofL_bytes]; rfl, by rw [← HRR.out]; exact H2.out⟩
theorem good_esc : GoodE (fun a => a.s.length ≤ 1000000) S.esc := ⟨fun a _ => (esc_len a).1, fun a _ => (esc_len a).2.1⟩
def S.st (a : S) : List UInt8 × S := a.str S.esc
theorem st_calls {w w1 : World} {g : Nat} {a : S} (h : Rd w w1 g a) (hs : a.s ≠ []) (hl : a.s.length ≤ 1000000) :
    Calls Tryz.prog 94 #[.pointer (some ⟨g, 0, none⟩)] w1 fun E w' => E = .returned (.string (ofL a.st.1)) ∧ Rd w w' g a.st.2 :=
  str_calls esc_calls good_esc h hs hl (fun _ _ _ h => h) (fun b _ => (esc_len b).2.2)
theorem text_v : VCalls 67 (fun a => a.s ≠ [] ∧ a.s.length ≤ 1000000) (fun a => (⟨3, false, z24, ofL a.st.1, [], []⟩, a.st.2)) := fun w w1 g a h ok =>
  text_calls esc_calls good_esc w w1 g a h ⟨ok.1, ok.2, fun _ _ _ h => h, fun b _ => (esc_len b).2.2⟩
theorem plain_le (a : S) : a.plain.1 ≤ a.s.length ∧ (a.plain.2 = true → a.plain.1 < a.s.length) := by
  have := plainF_le (ofL a.s) ((ofL a.s).size + 1) 0 (by omega) (by omega)
  rw [ofL_size] at this
  unfold S.plain
  rw [ofL_size]
  exact this
theorem loop_len : ∀ (n : Nat) (out : List UInt8) (a : S), (strLoop S.esc n out a).2.s.length ≤ a.s.length ∧ (strLoop S.esc n out a).2.o = a.o ∧ (a.e ≠ 0 → (strLoop S.esc n out a).2.e ≠ 0)
  | 0, out, a => ⟨Nat.le_refl _, rfl, fun h => h⟩
  | n + 1, out, a => by
    rw [strLoop]
    split
    · exact ⟨Nat.le_refl _, rfl, fun h => h⟩
    rename_i h0
    split
    · exact ⟨by rw [fail_s]; exact Nat.le_refl _, by rw [fail_o], fun h => absurd h h0⟩
    have hc : a.cut.s.length ≤ a.s.length := by unfold S.cut; simp
    split
    · exact ⟨hc, rfl, fun h => absurd h h0⟩
    · have h1 := esc_len a.cut
      have h2 := loop_len n (out ++ a.s.take a.plain.1 ++ (S.esc a.cut).1) (S.esc a.cut).2
      exact ⟨by omega, h2.2.1.trans h1.2.2, fun h => absurd h h0⟩
theorem st_len (a : S) : a.st.2.s.length ≤ a.s.length ∧ a.st.2.o = a.o ∧ (a.e ≠ 0 → a.st.2.e ≠ 0) := by
  have := loop_len (a.s.length + 1) [] a.tl
  have h2 : a.tl.s.length ≤ a.s.length := by unfold S.tl; simp
  exact ⟨Nat.le_trans this.1 h2, this.2.1, this.2.2⟩
end Js
end Go.Proofs.YtapcpndplnkfjaaGreatDoor
namespace Go.Proofs.YtapcpndplnkfjaaGreatDoor
open Go.RowKit Go.Proofs.YtapcpndplnkfjaaGreatDoorW.PrintWords Go.Proofs.YtapcpndplnkfjaaGreatDoorW.PrintLast Go.Proofs.YtapcpndplnkfjaaGreatDoorW.PrintMore
set_option linter.unusedVariables false
set_option linter.unusedSimpArgs false
namespace Js
theorem Ar.kept {w w' : World} {base b rb g : Nat} {xs : List S28} (h : Ar w base b rb g xs) (k : w.grownBy w' (some g)) : Ar w' base b rb g xs := by
  obtain ⟨v6, hv, hr⟩ := h.vc
  exact ⟨(k.block rb (Array.getElem?_eq_some_iff.1 h.rc).1 (by simpa using h.ne.2.1)).trans h.rc,
    ⟨v6, (k.block b (Array.getElem?_eq_some_iff.1 hv).1 (by simpa using h.ne.1)).trans hv, Kd.R_mono (Kd.R_grown (Kd.R_bound hr) k (fun i hi e => by have := hi.2.1; have := h.lt.2.2.1; injection e with e; omega)) (fun _ _ => trivial)⟩,
    ⟨h.lt.1, h.lt.2.1, h.lt.2.2.1, Nat.le_trans h.lt.2.2.2 k.size⟩, h.ne⟩
structure Good (fv : S → S28 × S) (ok Q : S → Prop) : Prop where
  ok_ : ∀ a, Q a → ok a
  next : ∀ a, Q a → Q (fv a).2
  take : ∀ a q, Q a → Q (a.take q)
  len : ∀ a, Q a → (fv a).2.s.length ≤ a.s.length
  bnd : ∀ a, Q a → 0 ≤ a.o ∧ a.o ≤ 1000 ∧ a.s.length ≤ 900000
def arrT (fv : S → S28 × S) (xs : List S28) (b : S) : List S28 × S := (xs ++ [(fv b).1], (fv b).2)
def S.arr (fv : S → S28 × S) (a : S) : S28 × S := let r := listF (arrT fv) [93] [] a; (⟨4, false, z24, ⟨#[]⟩, r.1, []⟩, r.2)
theorem arr_thing {fv : S → S28 × S} {ok Q : S → Prop} (HV : VCalls 34 ok fv) (HG : Good fv ok Q) {w : World} {base b rb g : Nat} (hb : w.heap.size ≤ b) (hbase : w.heap.size ≤ base) :
    Thing w g 96 #[.pointer (some ⟨b, 0, none⟩), .pointer (some ⟨rb, 0, none⟩)] (fun w' xs => Ar w' base b rb g xs) (arrT fv) (fun xs a => xs.length + a.s.length ≤ 900000 ∧ Q a) (fun xs a => xs.length + a.s.length ≤ 900001 ∧ Q a) where
  calls := fun w1 x a h hI hP => arr_step fv ok HV h hI (HG.ok_ a hP.2) hb hbase (by have := hP.1; omega)
  kept := fun w1 w2 x h k => h.kept k
  len := fun x a hP => HG.len a hP.2
  step := fun x a hP => ⟨by have := HG.len a hP.2; have := hP.1; show (x ++ [(fv a).1]).length + (fv a).2.s.length ≤ 900001; simp; omega, HG.next a hP.2⟩
  more := fun x a hP ht => ⟨by have := took_lt a 44 ht; have := hP.1; omega, HG.take a _ hP.2⟩
  open_ := fun x a hP => ⟨(HG.bnd a hP.2).1, (HG.bnd a hP.2).2.1⟩
set_option maxRecDepth 100000 in
set_option maxHeartbeats 8000000 in
theorem array_calls {fv : S → S28 × S} {ok Q : S → Prop} (HV : VCalls 34 ok fv) (HG : Good fv ok Q) :
    VCalls 68 (fun a => (0 ≤ a.o ∧ a.o ≤ 100) ∧ a.s ≠ [] ∧ (0 ≤ a.enter.o ∧ a.enter.o ≤ 1000) ∧ Q (a.enter.take [93])) (S.arr fv) := by
  intro w w1 g a h hok
  have H := Lib.hid h
  have HOK := Lib.hid hok
  have HVG := Lib.hid (And.intro HV HG)
  clear h hok HV HG
  go_enter Tryz.func68, Tryz.ntmps68
  obtain ⟨w2, hw2⟩ : ∃ w2, w2 = (w1.alloc (.cells #[.pointer (some ⟨g, 0, none⟩)] 77)).alloc (.cells #[.int .i64 0, .bool false, .bool false, .string ⟨#[]⟩, .int .i64 0, .string ⟨#[]⟩, .slice none 0 0, .slice none 0 0] 28) := ⟨_, rfl⟩
  have HW2 := Lib.hid hw2
  clear hw2
  have hsz : w2.heap.size = w1.heap.size + 2 := by rw [HW2.out]; simp
  have HSZ := Lib.hid hsz
  clear hsz
  have H2 : Hid (Rd w w2 g a) := Lib.hid (by rw [HW2.out]; exact H.out.below ((Below.alloc (Below.refl _ _) (Nat.le_refl _) _).alloc (by simp) _))
  have hrb : w2.heap[w1.heap.size]? = some (.cells #[.pointer (some ⟨g, 0, none⟩)] 77 (0, 0)) := by rw [HW2.out]; exact blk_alloc (blk_new w1 _) _
  have hrz : w2.heap[w1.heap.size + 1]? = some (.cells #[.int .i64 0, .bool false, .bool false, .string ⟨#[]⟩, .int .i64 0, .string ⟨#[]⟩, .slice none 0 0, .slice none 0 0] 28 (0, 0)) := by
    rw [HW2.out]; have := blk_new (w1.alloc (.cells #[.pointer (some ⟨g, 0, none⟩)] 77)) (.cells #[.int .i64 0, .bool false, .bool false, .string ⟨#[]⟩, .int .i64 0, .string ⟨#[]⟩, .slice none 0 0, .slice none 0 0] 28); simpa using this
  have hvb : (w2.alloc (.cells #[.int .i64 4, .bool false, .bool false, .string ⟨#[]⟩, .int .i64 0, .string ⟨#[]⟩, .slice none 0 0, .slice none 0 0] 28)).heap[w1.heap.size + 1 + 1]? = some (.cells #[.int .i64 4, .bool false, .bool false, .string ⟨#[]⟩, .int .i64 0, .string ⟨#[]⟩, .slice none 0 0, .slice none 0 0] 28 (0, 0)) := by
    have := blk_new w2 (.cells #[.int .i64 4, .bool false, .bool false, .string ⟨#[]⟩, .int .i64 0, .string ⟨#[]⟩, .slice none 0 0, .slice none 0 0] 28); rw [HSZ.out] at this; exact this
  have hgl := H.out.lt
  have HAR : Hid (Ar (w2.alloc (.cells #[.int .i64 4, .bool false, .bool false, .string ⟨#[]⟩, .int .i64 0, .string ⟨#[]⟩, .slice none 0 0, .slice none 0 0] 28)) (w1.heap.size + 3) (w1.heap.size + 1 + 1) w1.heap.size g []) := Lib.hid
    ⟨blk_alloc hrb _, ⟨_, hvb, Kd.R_nil _ _ _ _ _⟩, ⟨by omega, by omega, by omega, by simp [HSZ.out]⟩, ⟨by omega, by omega, by omega⟩⟩
  have HRZ := Lib.hid hrz
  have HGL := Lib.hid hgl
  have HT := Lib.hid (arr_thing HVG.out.1 HVG.out.2 (w := w2) (base := w1.heap.size + 3) (b := w1.heap.size + 1 + 1) (rb := w1.heap.size) (g := g) (by have := HSZ.out; omega) (by have := HSZ.out; omega))
  have HPX : Hid (Q (a.enter.take [93])) := Lib.hid HOK.out.2.2.2
  clear hrb hrz hvb hgl
  go_wp2_with fail
  rw [← HW2.out]
  refine (list_67 HT.out [93] (H2.out.now.below (Below.alloc (Below.refl _ _) (Nat.le_refl _) _)) HAR.out HOK.out.1 HOK.out.2.1 (fun _ => ⟨by have := (HVG.out.2.bnd _ HPX.out).2.2; simp; omega, HPX.out⟩) HOK.out.2.2.1).mono ?_
  rintro E w4 ⟨rfl, h4, hA4⟩
  obtain ⟨v6, hv6, hr6⟩ := hA4.vc
  have HR4 := Lib.hid (h4.keep HRZ.out (by have := HGL.out; omega))
  have HV6 := Lib.hid hv6
  have H4 := Lib.hid (H2.out.trans h4)
  have HX4 := Lib.hid (k28.M_mono (ok' := fun _ => True) (fun _ _ => trivial) (k28_mkM w4 (w1.heap.size + 3) (fun _ => True) (S.arr fv a).1 (v6 := v6) hr6 (Kd.R_nil _ _ _ _ _ : Kd.string.R 9 w4 (w1.heap.size + 3) (fun _ => True) (.slice none 0 0) [])))
  have hone : (#[.int .i64 4, .bool false, .bool false, .string ⟨#[]⟩, .int .i64 0, .string ⟨#[]⟩, v6, .slice none 0 0] : Array Value).toList.all (·.oneCell') = true := List.all_eq_true.2 (fun u hu => k28.K_one (k28.K_of_M HX4.out) u hu)
  have HON := Lib.hid hone
  have HLW := Lib.hid H.out.kp.size
  clear h4 hA4 hv6 hr6 hone
  go_wp2_with (first | (refine wpList_load_row rfl 28 (.tmp 3) rfl (w1.heap.size + 1 + 1) rfl 28 _ (0, 0) _ HV6.out Tryz.underlying28 rfl (by kernel_rfl) ?_) | (refine row_event rfl 28 (.tmp 2) (.tmp 8) rfl (w1.heap.size + 1) _ rfl rfl 28 _ HR4.out (by kernel_rfl) rfl HON.out ?_; intro w9 hr9 hk9))
  refine bodyPost_ret (results_cell_row rfl _ _ (w1.heap.size + 1) 28 _ (0, 0) _ rfl hr9 Tryz.underlying28 rfl (by kernel_rfl)) rfl ⟨_, rfl, Jv.up HX4.out hk9 (by omega) (by omega), ?_⟩
  exact H4.out.far hk9 (by have := HGL.out; omega) (by have := HLW.out; omega)
end Js
end Go.Proofs.YtapcpndplnkfjaaGreatDoor
namespace Go.Proofs.YtapcpndplnkfjaaGreatDoor
open Go.RowKit Go.Proofs.YtapcpndplnkfjaaGreatDoorW.PrintWords Go.Proofs.YtapcpndplnkfjaaGreatDoorW.PrintLast Go.Proofs.YtapcpndplnkfjaaGreatDoorW.PrintMore
set_option linter.unusedVariables false
set_option linter.unusedSimpArgs false
namespace Js
structure Ob (w : World) (base b rb g : Nat) (xs : List S28) (ns : List ByteArray) : Prop where
  rc : w.heap[rb]? = some (.cells #[.pointer (some ⟨g, 0, none⟩)] 77 (0, 0))
  vc : ∃ v6 v7, w.heap[b]? = some (.cells #[.int .i64 5, .bool false, .bool false, .string ⟨#[]⟩, .int .i64 0, .string ⟨#[]⟩, v6, v7] 28 (0, 0)) ∧ k28.R 28 w base (fun k => some k ≠ v7.ownBlock) v6 xs ∧ Kd.string.R 9 w base (fun _ => True) v7 ns
  lt : b < base ∧ rb < base ∧ g < base ∧ base ≤ w.heap.size
  ne : b ≠ g ∧ rb ≠ g ∧ b ≠ rb
theorem Ob.kept {w w' : World} {base b rb g : Nat} {xs : List S28} {ns : List ByteArray} (h : Ob w base b rb g xs ns) (k : w.grownBy w' (some g)) : Ob w' base b rb g xs ns := by
  obtain ⟨v6, v7, hv, hr, hn⟩ := h.vc
  exact ⟨(k.block rb (Array.getElem?_eq_some_iff.1 h.rc).1 (by simpa using h.ne.2.1)).trans h.rc,
    ⟨v6, v7, (k.block b (Array.getElem?_eq_some_iff.1 hv).1 (by simpa using h.ne.1)).trans hv,
      Kd.R_mono (Kd.R_grown (Kd.R_bound hr) k (fun i hi e => by have := hi.2.1; have := h.lt.2.2.1; injection e with e; omega)) (fun _ hk => hk.1),
      Kd.R_mono (Kd.R_grown (Kd.R_bound hn) k (fun i hi e => by have := hi.2.1; have := h.lt.2.2.1; injection e with e; omega)) (fun _ _ => trivial)⟩,
    ⟨h.lt.1, h.lt.2.1, h.lt.2.2.1, Nat.le_trans h.lt.2.2.2 k.size⟩, h.ne⟩
def put {α : Type} (l : List α) (i : Nat) (x : α) : List α := l.take i ++ [x] ++ l.drop i
def S.twice (a : S) (is : Bool) : S := if is = true then a.fail 31 else a
def objN (a : S) : ByteArray := ofL a.skip.st.1
def objA (ns : List ByteArray) (a : S) : S := (S.twice a.skip.st.2 (has ns (objN a))).need [58]
def objT (fv : S → S28 × S) (p : List S28 × List ByteArray) (a : S) : (List S28 × List ByteArray) × S :=
  if Lib.hasPrefix a.skip.s [34] = false then (p, a.skip.fail 11) else
  ((put p.1 (pos p.2 (objN a)) (fv (objA p.2 a)).1, put p.2 (pos p.2 (objN a)) (objN a)), (fv (objA p.2 a)).2)
structure ObP (W w : World) (base b rb g lo hi : Nat) (a : S) (v6 v7 : Value) (xs : List S28) (ns : List ByteArray) (x : S28) (cs : List Value) : Prop where
  rd : Rd w W g a
  rc : W.heap[rb]? = some (.cells #[.pointer (some ⟨g, 0, none⟩)] 77 (0, 0))
  vc : W.heap[b]? = some (.cells #[.int .i64 5, .bool false, .bool false, .string ⟨#[]⟩, .int .i64 0, .string ⟨#[]⟩, v6, v7] 28 (0, 0))
  r6 : k28.R 28 W base (fun k => some k ≠ v7.ownBlock) v6 xs
  r7 : Kd.string.R 9 W base (fun _ => True) v7 ns
  x : k28.M W lo (fun k => k < hi) x cs
  lt : base ≤ lo ∧ lo ≤ hi ∧ hi ≤ W.heap.size
  own : (∀ k, v6.ownBlock = some k → k < lo) ∧ ∀ k, v7.ownBlock = some k → k < lo ∨ hi ≤ k
theorem ObP.below {W W' w : World} {base b rb g lo hi : Nat} {a : S} {v6 v7 : Value} {xs : List S28} {ns : List ByteArray} {x : S28} {cs : List Value} (h : ObP W w base b rb g lo hi a v6 v7 xs ns x cs) (k : Below W.heap.size W W') : ObP W' w base b rb g lo hi a v6 v7 xs ns x cs :=
  ⟨h.rd.below k, (k.block rb (Array.getElem?_eq_some_iff.1 h.rc).1).trans h.rc, (k.block b (Array.getElem?_eq_some_iff.1 h.vc).1).trans h.vc, Kd.R_below h.r6 k, Kd.R_below h.r7 k, Kd.M_below h.x k, ⟨h.lt.1, h.lt.2.1, Nat.le_trans h.lt.2.2 k.size⟩, h.own⟩
theorem ObP.drew {W w : World} {base b rb g lo hi : Nat} {a : S} {v6 v7 : Value} {xs : List S28} {ns : List ByteArray} {x : S28} {cs : List Value} (h : ObP W w base b rb g lo hi a v6 v7 xs ns x cs) : ObP W.drew w base b rb g lo hi a v6 v7 xs ns x cs := h.below (Below.refl _ _).drew
theorem ObP.calls {W w : World} {base b rb g lo hi ms i : Nat} {a : S} {v6 v7 : Value} {xs : List S28} {ns : List ByteArray} {x : S28} {cs : List Value} {name : ByteArray} (h : ObP W w base b rb g lo hi a v6 v7 xs ns x cs)
    (hms : W.heap[ms]? = some (.cells #[.string name] 9 (0, 0))) (hlo : ∀ k, v7.ownBlock = some k → k < ms) (hi' : i ≤ ns.length) (hl : ns.length ≤ 1000000) (hb : w.heap.size ≤ b) (hbase : w.heap.size ≤ base) (hlt : b < base ∧ rb < base ∧ g < base) (h7 : ∀ k, v7.ownBlock = some k → k < lo) :
    Calls Tryz.prog 99 #[v7, .int .i64 i, .slice (some ⟨ms, 0, none⟩) 1 1] W fun E w' => ∃ vn, E = .returned vn ∧ Rd w w' g a ∧ w'.heap[rb]? = some (.cells #[.pointer (some ⟨g, 0, none⟩)] 77 (0, 0)) ∧
      w'.heap[b]? = some (.cells #[.int .i64 5, .bool false, .bool false, .string ⟨#[]⟩, .int .i64 0, .string ⟨#[]⟩, v6, v7] 28 (0, 0)) ∧ k28.R 28 w' base (fun k => some k ≠ vn.ownBlock) v6 xs ∧ Kd.string.R 9 w' base (fun _ => True) vn (put ns i name) ∧
      k28.M w' lo (fun k => k < hi ∧ some k ≠ vn.ownBlock) x cs ∧ W.grownBy w' v7.ownBlock ∧ (vn.ownBlock = v7.ownBlock ∨ vn.ownBlock = some W.heap.size) := by
  have hown7 : ∀ k, v7.ownBlock = some k → base ≤ k := fun k e => (Kd.R_bound h.r7).1 k e |>.2.1
  refine (insT_R (x := name) (xcs := [.string name]) (m := ms) (okp := fun _ => False) h.r7 (show Kd.string.M W base (fun _ => False) name [.string name] from rfl) (fun k hk => hk.elim) (fun _ _ => trivial) hi' hl (Nat.le_trans h.lt.1 (Nat.le_trans h.lt.2.1 h.lt.2.2)) hms (fun e => by have := hlo ms e.symm; omega)).mono ?_
  rintro E w' ⟨vn, rfl, hR, hg, hat⟩
  have hsz := hg.size
  have hne : ∀ k, some k ≠ v7.ownBlock → k < W.heap.size → some k ≠ vn.ownBlock := fun k h1 h2 => by
    rcases hat with e | e
    · rw [e]; exact h1
    · rw [e]; intro e2; injection e2 with e2; omega
  refine ⟨vn, rfl, h.rd.grow hg (fun k e => ?_), (hg.block rb (Array.getElem?_eq_some_iff.1 h.rc).1 (fun e => by have := hown7 rb e.symm; omega)).trans h.rc, (hg.block b (Array.getElem?_eq_some_iff.1 h.vc).1 (fun e => by have := hown7 b e.symm; omega)).trans h.vc, ?_, hR, ?_, hg, hat⟩
  · have := hown7 k e; exact ⟨by omega, by omega⟩
  · refine Kd.R_mono (Kd.R_grown (Kd.R_bound h.r6) hg (fun k hk e => hk.1 e)) (fun k hk => hne k hk.1 hk.2.2.1)
  · refine k28.M_mono (fun k hk => ⟨hk.1, hne k (fun e => ?_) hk.2.2.1⟩) (Kd.M_grown (k28.M_bound h.x) hg (fun k hk e => ?_))
    · have := h7 k e.symm; have := hk.2.1; omega
    · have := h7 k e.symm; have := hk.2.1; omega
theorem exec_row {o : Oper} {a : Act} {W : World} {x : Operand} {g : Nat} {cells : Array Value} (ho : o.op = .load 28 x) (hx : a.eval x = .pointer (some ⟨g, 0, none⟩)) (hg : W.heap[g]? = some (.cells cells 28 (0, 0))) (hi : (Tryz.prog.info? 28).map (·.size) = some cells.size) :
    (execOp a.eval o).run Tryz.prog W = .ok (.value (.agg cells)) W := by
  unfold execOp
  simp only [ho, hx, Instr.loadAt, Instr.sureAddr, Sem.run_bind, Sem.run_pure, Result.andThen_ok, run_loadVar_row W g 28 28 cells (0, 0) _ hg Tryz.underlying28 rfl hi]
theorem fold8 (cs : List Value) (h : cs.length = 8) : List.foldl (fun (cs : Array Value) (x : Value × Nat) => cs.setIfInBounds x.snd x.fst) #[.int .i64 0, .bool false, .bool false, .string ⟨#[]⟩, .int .i64 0, .string ⟨#[]⟩, .slice none 0 0, .slice none 0 0] cs.zipIdx = cs.toArray := by
  rcases cs with _ | ⟨a, _ | ⟨b, _ | ⟨c, _ | ⟨d, _ | ⟨e, _ | ⟨f, _ | ⟨g, _ | ⟨k, _ | ⟨l, t⟩⟩⟩⟩⟩⟩⟩⟩⟩ <;> first | (exfalso; simp at h; done) | (exfalso; simp at h; omega) | (clear h; simp [List.zipIdx]; done) | rfl
set_option maxRecDepth 100000 in
set_option maxHeartbeats 8000000 in
theorem obj_step (fv : S → S28 × S) (ok : S → Prop) (HV : VCalls 34 ok fv) {w w1 : World} {g b rb base : Nat} {a : S} {xs : List S28} {ns : List ByteArray} (h : Rd w w1 g a) (hA : Ob w1 base b rb g xs ns) (hok : ok (objA ns a)) (hb : w.heap.size ≤ b) (hbase : w.heap.size ≤ base)
    (hl : xs.length ≤ 1000000 ∧ ns.length = xs.length ∧ a.s.length ≤ 1000000) :
    Calls Tryz.prog 97 #[.pointer (some ⟨rb, 0, none⟩), .pointer (some ⟨b, 0, none⟩)] w1 fun E w' => E = .returned (.tuple #[]) ∧ Rd w w' g (objT fv (xs, ns) a).2 ∧ Ob w' base b rb g (objT fv (xs, ns) a).1.1 (objT fv (xs, ns) a).1.2 := by
  have HVX := Lib.hid HV
  have HOK := Lib.hid hok
  have H := Lib.hid h
  have HA := Lib.hid hA
  have HLL := Lib.hid (And.intro hb (And.intro hbase hl))
  obtain ⟨R, hR⟩ : ∃ R, objT fv (xs, ns) a = R := ⟨_, rfl⟩
  have HR : Hid ((if Lib.hasPrefix a.skip.s [34] = false then ((xs, ns), a.skip.fail 11) else ((put xs (pos ns (objN a)) (fv (objA ns a)).1, put ns (pos ns (objN a)) (objN a)), (fv (objA ns a)).2)) = R) := Lib.hid hR
  rw [hR]
  have cr : w1.cell? ⟨rb, 0, none⟩ = some (.pointer (some ⟨g, 0, none⟩)) := (blk_cell hA.rc 0).trans rfl
  clear HV hok h hA hb hbase hl hR
  go_enter Tryz.func97, Tryz.ntmps97
  go_wp2_with fail
  refine (skip_calls H.out.now).mono ?_
  rintro E w2 ⟨rfl, h2⟩
  have HA2 := Lib.hid (HA.out.kept h2.kp)
  have H2 := Lib.hid (H.out.trans h2)
  clear h2 cr H HA
  have cr : w2.cell? ⟨rb, 0, none⟩ = some (.pointer (some ⟨g, 0, none⟩)) := (blk_cell HA2.out.rc 0).trans rfl
  have c0 := H2.out.c0
  go_wp2_with fail
  refine (Tryz.strings_HasPrefix _ _ _).mono ?_
  rintro E w3 ⟨rfl, rfl⟩
  have e1 : (ofL a.skip.s).data.toList = a.skip.s := by simp [ofL]
  have e2 : (⟨#[34]⟩ : ByteArray).data.toList = [34] := rfl
  rw [e1, e2]
  clear e1 e2
  cases hp : Lib.hasPrefix a.skip.s [34] with
  | false =>
    have HRR : Hid (((xs, ns), a.skip.fail 11) = R) := Lib.hid (by have := HR.out; rw [hp, if_pos rfl] at this; exact this)
    clear hp HR
    go_wp2_with fail
    refine (fail_calls H2.out.now 11).mono ?_
    rintro E w4 ⟨rfl, h4⟩
    have HA4 := Lib.hid (HA2.out.kept h4.kp)
    have H4 := Lib.hid (H2.out.trans h4)
    clear h4
    go_wp2_with fail
    exact bodyPost_ret (results_none rfl _ _ _) rfl ⟨rfl, by rw [← HRR.out]; exact H4.out, by rw [← HRR.out]; exact HA4.out⟩
  | true =>
    have HRR : Hid (((put xs (pos ns (objN a)) (fv (objA ns a)).1, put ns (pos ns (objN a)) (objN a)), (fv (objA ns a)).2) = R) := Lib.hid (by have := HR.out; rw [hp, if_neg (by simp)] at this; exact this)
    have hne : a.skip.s ≠ [] := fun e => by rw [e] at hp; cases hp
    have hll : a.skip.s.length ≤ 1000000 := by
      have : a.skip.s.length ≤ a.s.length := by unfold S.skip Lib.trimLeftS; exact (List.dropWhile_sublist _).length_le
      have := HLL.out.2.2.2.2; omega
    have HSS : Hid (Calls Tryz.prog 94 #[.pointer (some ⟨g, 0, none⟩)] w3 fun E w' => E = .returned (.string (objN a)) ∧ Rd w3 w' g a.skip.st.2) := Lib.hid (st_calls H2.out.now hne hll)
    clear hp HR hne hll c0
    go_wp2_with fail
    refine HSS.out.mono ?_
    rintro E w4 ⟨rfl, h4⟩
    have HA4 := Lib.hid (HA2.out.kept h4.kp)
    have H4 := Lib.hid (H2.out.trans h4)
    clear h4 cr HSS HA2 H2
    obtain ⟨v6, v7, hv, hr6, hr7⟩ := HA4.out.vc
    have cr : w4.cell? ⟨rb, 0, none⟩ = some (.pointer (some ⟨g, 0, none⟩)) := (blk_cell HA4.out.rc 0).trans rfl
    have c5 : w4.cell? ⟨b, 5, none⟩ = some (.slice none 0 0) ∨ True := .inr trivial
    have c7 : w4.cell? ⟨b, 7, none⟩ = some v7 := (blk_cell hv 7).trans rfl
    have HSE := Lib.hid (search_calls (objN a) hr7 (by have := HLL.out.2.2; omega))
    clear hv hr6 hr7 c5
    go_wp2_with fail
    refine HSE.out.mono ?_
    rintro E w5 ⟨rfl, q, rfl⟩
    obtain ⟨i, hi⟩ : ∃ i, pos ns (objN a) = i := ⟨_, rfl⟩
    obtain ⟨is, his⟩ : ∃ is, has ns (objN a) = is := ⟨_, rfl⟩
    have HI := Lib.hid hi
    have HIS := Lib.hid his
    rw [hi, his]
    clear hi his HSE c7
    have HA5 : Hid (Ob (w4.drewN q) base b rb g xs ns) := Lib.hid (HA4.out.kept ⟨rfl, rfl, rfl, Nat.le_refl _, fun _ _ _ => rfl⟩)
    have H5 : Hid (Rd w (w4.drewN q) g a.skip.st.2) := Lib.hid (H4.out.dN q)
    generalize w4.drewN q = w5 at *
    clear H4 HA4 cr
    have cr : w5.cell? ⟨rb, 0, none⟩ = some (.pointer (some ⟨g, 0, none⟩)) := (blk_cell HA5.out.rc 0).trans rfl
    go_upto_if 25 with (fail)
    go_cut [] (fun wx => Hid (Rd w wx g (S.twice a.skip.st.2 is)) ∧ Hid (Ob wx base b rb g xs ns))
    · cases is with
      | true =>
        go_wp2_with fail
        refine (fail_calls H5.out.now 31).mono ?_
        rintro E w6 ⟨rfl, h6⟩
        have HA6 := Lib.hid (HA5.out.kept h6.kp)
        have H6 := Lib.hid (H5.out.trans h6)
        go_wp2_with fail
        go_meet
        exact ⟨H6, HA6⟩
      | false =>
        go_wp2_with fail
        go_meet
        exact ⟨H5, HA5⟩
    obtain ⟨H6, HA6⟩ := hcut
    have HQ : Hid (S.twice a.skip.st.2 is = S.twice a.skip.st.2 (has ns (objN a))) := Lib.hid (by rw [HIS.out])
    rw [HQ.out] at H6
    clear H5 HA5 cr HQ
    have cr : wc.cell? ⟨rb, 0, none⟩ = some (.pointer (some ⟨g, 0, none⟩)) := (blk_cell HA6.out.rc 0).trans rfl
    go_wp2_with fail
    refine (need_calls H6.out.now [58]).mono ?_
    rintro E w7 ⟨rfl, h7⟩
    have HA7 := Lib.hid (HA6.out.kept h7.kp)
    have H7 : Hid (Rd w w7 g (objA ns a)) := Lib.hid (H6.out.trans h7)
    clear h7 H6 HA6 cr
    have cr : w7.cell? ⟨rb, 0, none⟩ = some (.pointer (some ⟨g, 0, none⟩)) := (blk_cell HA7.out.rc 0).trans rfl
    go_wp2_with fail
    refine (HVX.out _ _ g _ H7.out.now HOK.out).mono ?_
    rintro E w8 ⟨v, rfl, hv, h8⟩
    have HA8 := Lib.hid (HA7.out.kept h8.kp)
    have H8 := Lib.hid (H7.out.trans h8)
    have H78 := Lib.hid h8
    obtain ⟨cs, rfl, hl8, ho8, hi8, hM⟩ := hv.of
    have HM := Lib.hid hM
    have H1C := Lib.hid (fun u hu => k28.K_one (k28.K_of_M hM) u hu)
    clear hv h8 hM cr
    have HI8 := Lib.hid hi8
    have HO8 := Lib.hid ho8
    have HL8 := Lib.hid hl8
    clear hi8 ho8 hl8
    have HN8 : Hid ((w8.alloc (.cells zA 28)).heap[w8.heap.size]? = some (.cells zA 28 (0, 0))) := Lib.hid (blk_new w8 (.cells zA 28))
    have hcs0 : Hid (zA.size = cs.toArray.size) := Lib.hid (by rw [HL8.out]; rfl)
    go_wp2_with (refine row_event rfl 28 (.tmp 5) (.tmp 31) rfl w8.heap.size _ rfl rfl 28 _ HN8.out HI8.out hcs0.out HO8.out ?_; intro w9 hr9 hk9)
    have HB0 : Below w8.heap.size w8 (w8.alloc (.cells zA 28)) := Below.alloc (Below.refl _ _) (Nat.le_refl _) _
    have HB89 : Below w8.heap.size w8 w9 := HB0.grown hk9 HB0.size (fun i e => Nat.le_of_eq (Option.some.inj e))
    have hk78 := H78.out.kp
    have HOB := Lib.hid (And.intro HA7.out.lt HA7.out.ne)
    obtain ⟨v6, v7, hv, hr6, hr7⟩ := HA7.out.vc
    obtain ⟨A6, c6, hq6⟩ := Kd.R_slice hr6
    obtain ⟨A7, c7, hq7⟩ := Kd.R_slice hr7
    subst hq6 hq7
    have HP : Hid (ObP w9 w base b rb g w7.heap.size w8.heap.size (fv (objA ns a)).2 (.slice A6 xs.length c6) (.slice A7 ns.length c7) xs ns (fv (objA ns a)).1 cs) := Lib.hid
      ⟨H8.out.below HB89, (HB89.block rb (Array.getElem?_eq_some_iff.1 HA8.out.rc).1).trans HA8.out.rc,
        (HB89.block b (Nat.lt_of_lt_of_le (Array.getElem?_eq_some_iff.1 hv).1 hk78.size)).trans ((hk78.block b (Array.getElem?_eq_some_iff.1 hv).1 (by simpa using HOB.out.2.1)).trans hv),
        Kd.R_below (Kd.R_mono (Kd.R_grown (Kd.R_bound hr6) hk78 (fun i hi e => by have := hi.2.1; have := HOB.out.1.2.2.1; injection e with e; omega)) (fun _ hk => hk.1)) HB89,
        Kd.R_below (Kd.R_mono (Kd.R_grown (Kd.R_bound hr7) hk78 (fun i hi e => by have := hi.2.1; have := HOB.out.1.2.2.1; injection e with e; omega)) (fun _ _ => trivial)) HB89,
        Kd.M_below (k28.M_mono (fun k hk => hk.2.2.1) (k28.M_bound HM.out)) HB89,
        ⟨HOB.out.1.2.2.2, hk78.size, HB89.size⟩,
        fun k e => ((Kd.R_bound hr6).1 k e).2.2.1, fun k e => .inl ((Kd.R_bound hr7).1 k e).2.2.1⟩
    have H70 : Hid (∀ k, (Value.slice A7 ns.length c7).ownBlock = some k → k < w7.heap.size) := Lib.hid (fun k e => ((Kd.R_bound hr7).1 k e).2.2.1)
    have HR9 := Lib.hid hr9
    clear hv hr6 hr7 hr9 hk9 HB0 HB89 hk78 HA7 HA8 H7 H8 H78 HN8 hcs0 HM HVX HOK HIS
    refine start_ (n := 16) (S := fun w' => w'.heap[b]? = some (.cells #[.int .i64 5, .bool false, .bool false, .string ⟨#[]⟩, .int .i64 0, .string ⟨#[]⟩, .slice A6 xs.length c6, .slice A7 ns.length c7] 28 (0, 0)) ∧ w'.heap[w8.heap.size]? = some (.cells cs.toArray 28 (0, 0))) (ds := [11, 13, 14, 15]) #[false, false, false, false, false, false, false, false, false, false, false, false, false, false, false, false] (by kernel_rfl) rfl rfl ⟨HP.out.vc, HR9.out⟩ (fun hHeld => ?_)
    refine pure_ (i := 0) (N := some 32) (v := ?_) (a' := ?_) #[true, false, false, false, false, false, false, false, false, false, false, false, false, false, false, false] rfl rfl (by kernel_rfl) (fun _ _ _ h => h) (Or.inl ⟨by rfl, ?_⟩) ?_ ?_
    rotate_left
    · intro w'
      go_simp
      with_reducible rfl
    rotate_left
    · simp only [Act.put, List.setIfInBounds_toArray, List.set_cons_zero, List.set_cons_succ]
      rfl
    refine pure_ (i := 2) (N := some 34) (v := ?_) (a' := ?_) #[true, false, true, false, false, false, false, false, false, false, false, false, false, false, false, false] rfl rfl (by kernel_rfl) (fun _ _ _ h => h) (Or.inl ⟨by rfl, ?_⟩) ?_ ?_
    rotate_left
    · intro w'
      go_simp
      with_reducible rfl
    rotate_left
    · simp only [Act.put, List.setIfInBounds_toArray, List.set_cons_zero, List.set_cons_succ]
      rfl
    refine pure_ (i := 3) (N := some 35) (v := ?_) (a' := ?_) #[true, false, true, true, false, false, false, false, false, false, false, false, false, false, false, false] rfl rfl (by kernel_rfl) (fun _ _ _ h => h) (Or.inl ⟨by rfl, ?_⟩) ?_ ?_
    rotate_left
    · intro w'
      go_simp
      with_reducible rfl
    rotate_left
    · simp only [Act.put, List.setIfInBounds_toArray, List.set_cons_zero, List.set_cons_succ]
      rfl
    refine pure_ (i := 6) (N := some 38) (v := ?_) (a' := ?_) #[true, false, true, true, false, false, true, false, false, false, false, false, false, false, false, false] rfl rfl (by kernel_rfl) (fun _ _ _ h => h) (Or.inl ⟨by rfl, ?_⟩) ?_ ?_
    rotate_left
    · intro w'
      go_simp
      with_reducible rfl
    rotate_left
    · simp only [Act.put, List.setIfInBounds_toArray, List.set_cons_zero, List.set_cons_succ]
      rfl
    refine pure_ (i := 8) (N := some 40) (v := ?_) (a' := ?_) #[true, false, true, true, false, false, true, false, true, false, false, false, false, false, false, false] rfl rfl (by kernel_rfl) (fun _ _ _ h => h) (Or.inl ⟨by rfl, ?_⟩) ?_ ?_
    rotate_left
    · intro w'
      go_simp
      with_reducible rfl
    rotate_left
    · simp only [Act.put, List.setIfInBounds_toArray, List.set_cons_zero, List.set_cons_succ]
      rfl
    refine take_ (i := 1) (N := some 33) (v := ?_) (a' := ?_) #[true, true, true, true, false, false, true, false, true, false, false, false, false, false, false, false] rfl rfl (by kernel_rfl) (fun _ _ _ h => h) (Or.inl ⟨by rfl, ?_⟩) hHeld ?_ ?_
    rotate_left
    · rintro w' ⟨s0, s1⟩
      have q : w'.cell? ⟨b, 7, none⟩ = some (.slice A7 ns.length c7) := (blk_cell s0 7).trans rfl
      go_simp
      with_reducible rfl
    rotate_left
    · simp only [Act.put, List.setIfInBounds_toArray, List.set_cons_zero, List.set_cons_succ]
      rfl
    refine take_ (i := 7) (N := some 39) (v := ?_) (a' := ?_) #[true, true, true, true, false, false, true, true, true, false, false, false, false, false, false, false] rfl rfl (by kernel_rfl) (fun _ _ _ h => h) (Or.inl ⟨by rfl, ?_⟩) hHeld ?_ ?_
    rotate_left
    · rintro w' ⟨s0, s1⟩
      have q : w'.cell? ⟨b, 6, none⟩ = some (.slice A6 xs.length c6) := (blk_cell s0 6).trans rfl
      go_simp
      with_reducible rfl
    rotate_left
    · simp only [Act.put, List.setIfInBounds_toArray, List.set_cons_zero, List.set_cons_succ]
      rfl
    refine take_ (i := 9) (N := some 41) (v := .agg cs.toArray) (a' := ?_) #[true, true, true, true, false, false, true, true, true, true, false, false, false, false, false, false] rfl rfl (by kernel_rfl) (fun _ _ _ h => h) (Or.inl ⟨by rfl, ?_⟩) hHeld ?_ ?_
    · rintro w' ⟨s0, s1⟩
      exact exec_row rfl rfl s1 HI8.out
    rotate_left
    · simp only [Act.put, List.setIfInBounds_toArray, List.set_cons_zero, List.set_cons_succ]
      rfl
    have HI2 : Hid (i ≤ ns.length) := Lib.hid (by rw [← HI.out]; exact pos_le _ _)
    have HL2 : Hid (ns.length ≤ 1000000) := Lib.hid (by have := HLL.out.2.2; omega)
    have HSZ : Hid (w7.heap.size ≤ w8.heap.size ∧ w8.heap.size < w9.heap.size) := Lib.hid ⟨HP.out.lt.2.1, (Array.getElem?_eq_some_iff.1 HR9.out).1⟩
    refine join_ (σ := Value × Nat × Nat) 4 #[true, true, true, true, true, true, true, true, true, true, true, false, true, false, false, false] (fun s => [(36, .slice (some ⟨s.2.1, 0, none⟩) 1 1), (37, s.1), (42, .slice (some ⟨s.2.2, 0, none⟩) 1 1), (44, .pointer (some ⟨b, 7, none⟩))])
      (fun s w' => Rd w w' g (fv (objA ns a)).2 ∧ w'.heap[rb]? = some (.cells #[.pointer (some ⟨g, 0, none⟩)] 77 (0, 0)) ∧ w'.heap[b]? = some (.cells #[.int .i64 5, .bool false, .bool false, .string ⟨#[]⟩, .int .i64 0, .string ⟨#[]⟩, .slice A6 xs.length c6, .slice A7 ns.length c7] 28 (0, 0)) ∧ k28.R 28 w' base (fun k => some k ≠ s.1.ownBlock) (.slice A6 xs.length c6) xs ∧ Kd.string.R 9 w' base (fun _ => True) s.1 (put ns i (objN a)) ∧
        k28.M w' w7.heap.size (fun k => k < w8.heap.size ∧ some k ≠ s.1.ownBlock) (fv (objA ns a)).1 cs ∧ w'.heap[s.2.2]? = some (.cells cs.toArray 28 (0, 0)) ∧ w8.heap.size ≤ s.2.2) ?_ ?_
    rotate_left
    · intro hCont
      refine two_ (i := 4) (j := 10) (Ni := some 36) (Nj := some 42) #[true, true, true, true, true, false, true, true, true, true, false, false, false, false, false, false] #[true, true, true, true, false, false, true, true, true, true, true, false, false, false, false, false] rfl rfl rfl rfl (by kernel_rfl) (by decide) (by decide) (fun K hK => ?_) (fun K hK => ?_)
      ·
        refine value_ (v := .slice (some ⟨w9.heap.size, 0, none⟩) 1 1) (w1 := w9.drew.alloc (.cells #[.string (objN a)] 9)) (by rfl) rfl ?_ ?_
        · go_simp; try rfl
        have HP1 := Lib.hid (HP.out.drew.below (Below.alloc (Below.refl _ _) (Nat.le_refl _) (.cells #[.string (objN a)] 9)))
        have HX1 := Lib.hid (blk_alloc (w := w9.drew) HR9.out (.cells #[.string (objN a)] 9))
        have HMS := Lib.hid (blk_new w9.drew (.cells #[.string (objN a)] 9))
        have HWS : Hid ((w9.drew.alloc (.cells #[.string (objN a)] 9)).heap.size = w9.heap.size + 1) := Lib.hid (by simp)
        refine hK.out _ _ ⟨HP1.out.vc, HX1.out⟩ (fun hHeld => ?_)
        clear hK K
        refine norm_ (a' := ?_) ?_ ?_
        rotate_left
        · show Act.put _ (some 36) _ = _
          simp only [Act.put, List.setIfInBounds_toArray, List.set_cons_zero, List.set_cons_succ]
          rfl
        generalize w9.drew.alloc (.cells #[.string (objN a)] 9) = W1 at *
        refine two_ (i := 5) (j := 10) (Ni := some 37) (Nj := some 42) #[true, true, true, true, true, true, true, true, true, true, false, false, false, false, false, false] #[true, true, true, true, true, false, true, true, true, true, true, false, false, false, false, false] rfl rfl rfl rfl (by kernel_rfl) (by decide) (by decide) (fun K hK => ?_) (fun K hK => ?_)
        · refine goes_ Tryz.func99 (by kernel_rfl) rfl #[.slice A7 ns.length c7, .int .i64 i, .slice (some ⟨w9.heap.size, 0, none⟩) 1 1] (by rfl) rfl rfl (by (try simp only [List.map_toArray, List.map_cons, List.map_nil]); rfl) ?_
          refine (ObP.calls HP1.out HMS.out (fun k e => by have := H70.out k e; have := HSZ.out; have := HWS.out; simp at *; omega) HI2.out HL2.out HLL.out.1 HLL.out.2.1 ⟨HOB.out.1.1, HOB.out.1.2.1, HOB.out.1.2.2.1⟩ H70.out).mono ?_
          rintro E w4 ⟨vn, rfl, q1, q2, q3, q4, q5, q6, q7, q8⟩
          refine ⟨_, rfl, ?_⟩
          have hx4 := (q7.block w8.heap.size (Array.getElem?_eq_some_iff.1 HX1.out).1 (fun e => by have := H70.out _ e.symm; have := HSZ.out; omega)).trans HX1.out
          refine hK.out _ _ ⟨q3, hx4⟩ (fun hHeld => ?_)
          clear hK K
          refine norm_ (a' := ?_) ?_ ?_
          rotate_left
          · show Act.put _ (some 37) _ = _
            simp only [Act.put, List.setIfInBounds_toArray, List.set_cons_zero, List.set_cons_succ]
            rfl
          refine pure_ (i := 12) (N := some 44) (v := ?_) (a' := ?_) #[true, true, true, true, true, true, true, true, true, true, false, false, true, false, false, false] rfl rfl (by kernel_rfl) (fun _ _ _ h => h) (Or.inl ⟨by rfl, ?_⟩) ?_ ?_
          rotate_left
          · intro w'
            go_simp
            with_reducible rfl
          rotate_left
          · simp only [Act.put, List.setIfInBounds_toArray, List.set_cons_zero, List.set_cons_succ]
            rfl
          refine one_ (i := 10) (N := some 42) #[true, true, true, true, true, true, true, true, true, true, true, false, true, false, false, false] rfl rfl (by kernel_rfl) (by decide) (fun K hK => ?_)
          refine value_ (v := .slice (some ⟨w4.heap.size, 0, none⟩) 1 1) (w1 := w4.alloc (.cells cs.toArray 28)) (by rfl) rfl ?_ ?_
          · go_simp; rw [fold8 cs (by simpa using HL8.out)]; simp only [show cs.length = 8 by simpa using HL8.out]; go_simp; try rfl
          have k4 : Below w4.heap.size w4 (w4.alloc (.cells cs.toArray 28)) := Below.alloc (Below.refl _ _) (Nat.le_refl _) _
          refine hK.out _ _ ⟨blk_alloc q3 _, blk_alloc hx4 _⟩ (fun hHeld => ?_)
          clear hK K
          refine norm_ (a' := ?_) ?_ ?_
          rotate_left
          · show Act.put _ (some 42) _ = _
            simp only [Act.put, List.setIfInBounds_toArray, List.set_cons_zero, List.set_cons_succ]
            rfl
          refine norm_ (by simp only [putAll, Act.put, List.setIfInBounds_toArray, List.set_cons_zero, List.set_cons_succ]) (hCont (vn, w9.heap.size, w4.heap.size) _ ⟨q1.below k4, blk_alloc q2 _, blk_alloc q3 _, Kd.R_below q4 k4, Kd.R_below q5 k4, Kd.M_below q6 k4, blk_new w4 _, by have := q7.size; have := HWS.out; have := HSZ.out; show w8.heap.size ≤ w4.heap.size; omega⟩)
        · refine value_ (v := .slice (some ⟨W1.heap.size, 0, none⟩) 1 1) (w1 := W1.alloc (.cells cs.toArray 28)) (by rfl) rfl ?_ ?_
          · go_simp; rw [fold8 cs (by simpa using HL8.out)]; simp only [show cs.length = 8 by simpa using HL8.out]; go_simp; try rfl
          have HP2 := Lib.hid (HP1.out.below (Below.alloc (Below.refl _ _) (Nat.le_refl _) (.cells cs.toArray 28)))
          have HX2 := Lib.hid (blk_alloc HX1.out (.cells cs.toArray 28))
          have HMS2 := Lib.hid (blk_alloc HMS.out (.cells cs.toArray 28))
          have HMX := Lib.hid (blk_new W1 (.cells cs.toArray 28))
          refine hK.out _ _ ⟨HP2.out.vc, HX2.out⟩ (fun hHeld => ?_)
          clear hK K
          refine norm_ (a' := ?_) ?_ ?_
          rotate_left
          · show Act.put _ (some 42) _ = _
            simp only [Act.put, List.setIfInBounds_toArray, List.set_cons_zero, List.set_cons_succ]
            rfl
          refine one_ (i := 5) (N := some 37) #[true, true, true, true, true, true, true, true, true, true, true, false, false, false, false, false] rfl rfl (by kernel_rfl) (by decide) (fun K hK => ?_)
          refine goes_ Tryz.func99 (by kernel_rfl) rfl #[.slice A7 ns.length c7, .int .i64 i, .slice (some ⟨w9.heap.size, 0, none⟩) 1 1] (by rfl) rfl rfl (by (try simp only [List.map_toArray, List.map_cons, List.map_nil]); rfl) ?_
          refine (ObP.calls HP2.out HMS2.out (fun k e => by have := H70.out k e; have := HSZ.out; have := HWS.out; simp at *; omega) HI2.out HL2.out HLL.out.1 HLL.out.2.1 ⟨HOB.out.1.1, HOB.out.1.2.1, HOB.out.1.2.2.1⟩ H70.out).mono ?_
          rintro E w4 ⟨vn, rfl, q1, q2, q3, q4, q5, q6, q7, q8⟩
          refine ⟨_, rfl, ?_⟩
          have hx4 := (q7.block w8.heap.size (Array.getElem?_eq_some_iff.1 HX2.out).1 (fun e => by have := H70.out _ e.symm; have := HSZ.out; omega)).trans HX2.out
          have hmx4 := (q7.block _ (Array.getElem?_eq_some_iff.1 HMX.out).1 (fun e => by have := H70.out _ e.symm; have := HSZ.out; have := HWS.out; simp at *; omega)).trans HMX.out
          refine hK.out _ _ ⟨q3, hx4⟩ (fun hHeld => ?_)
          clear hK K
          refine norm_ (a' := ?_) ?_ ?_
          rotate_left
          · show Act.put _ (some 37) _ = _
            simp only [Act.put, List.setIfInBounds_toArray, List.set_cons_zero, List.set_cons_succ]
            rfl
          refine pure_ (i := 12) (N := some 44) (v := ?_) (a' := ?_) #[true, true, true, true, true, true, true, true, true, true, true, false, true, false, false, false] rfl rfl (by kernel_rfl) (fun _ _ _ h => h) (Or.inl ⟨by rfl, ?_⟩) ?_ ?_
          rotate_left
          · intro w'
            go_simp
            with_reducible rfl
          rotate_left
          · simp only [Act.put, List.setIfInBounds_toArray, List.set_cons_zero, List.set_cons_succ]
            rfl
          refine norm_ (by simp only [putAll, Act.put, List.setIfInBounds_toArray, List.set_cons_zero, List.set_cons_succ]) (hCont (vn, w9.heap.size, W1.heap.size) _ ⟨q1, q2, q3, q4, q5, q6, hmx4, by have := HWS.out; have := HSZ.out; show w8.heap.size ≤ W1.heap.size; omega⟩)
      · refine value_ (v := .slice (some ⟨w9.heap.size, 0, none⟩) 1 1) (w1 := w9.drew.alloc (.cells cs.toArray 28)) (by rfl) rfl ?_ ?_
        · go_simp; rw [fold8 cs (by simpa using HL8.out)]; simp only [show cs.length = 8 by simpa using HL8.out]; go_simp; try rfl
        have HP1 := Lib.hid (HP.out.drew.below (Below.alloc (Below.refl _ _) (Nat.le_refl _) (.cells cs.toArray 28)))
        have HX1 := Lib.hid (blk_alloc (w := w9.drew) HR9.out (.cells cs.toArray 28))
        have HMX := Lib.hid (blk_new w9.drew (.cells cs.toArray 28))
        have HWS : Hid ((w9.drew.alloc (.cells cs.toArray 28)).heap.size = w9.heap.size + 1) := Lib.hid (by simp)
        refine hK.out _ _ ⟨HP1.out.vc, HX1.out⟩ (fun hHeld => ?_)
        clear hK K
        refine norm_ (a' := ?_) ?_ ?_
        rotate_left
        · show Act.put _ (some 42) _ = _
          simp only [Act.put, List.setIfInBounds_toArray, List.set_cons_zero, List.set_cons_succ]
          rfl
        generalize w9.drew.alloc (.cells cs.toArray 28) = W1 at *
        refine one_ (i := 4) (N := some 36) #[true, true, true, true, true, false, true, true, true, true, true, false, false, false, false, false] rfl rfl (by kernel_rfl) (by decide) (fun K hK => ?_)
        refine value_ (v := .slice (some ⟨W1.heap.size, 0, none⟩) 1 1) (w1 := W1.alloc (.cells #[.string (objN a)] 9)) (by rfl) rfl ?_ ?_
        · go_simp; try rfl
        have HP2 := Lib.hid (HP1.out.below (Below.alloc (Below.refl _ _) (Nat.le_refl _) (.cells #[.string (objN a)] 9)))
        have HX2 := Lib.hid (blk_alloc HX1.out (.cells #[.string (objN a)] 9))
        have HMX2 := Lib.hid (blk_alloc HMX.out (.cells #[.string (objN a)] 9))
        have HMS2 := Lib.hid (blk_new W1 (.cells #[.string (objN a)] 9))
        refine hK.out _ _ ⟨HP2.out.vc, HX2.out⟩ (fun hHeld => ?_)
        clear hK K
        refine norm_ (a' := ?_) ?_ ?_
        rotate_left
        · show Act.put _ (some 36) _ = _
          simp only [Act.put, List.setIfInBounds_toArray, List.set_cons_zero, List.set_cons_succ]
          rfl
        refine one_ (i := 5) (N := some 37) #[true, true, true, true, true, true, true, true, true, true, true, false, false, false, false, false] rfl rfl (by kernel_rfl) (by decide) (fun K hK => ?_)
        refine goes_ Tryz.func99 (by kernel_rfl) rfl #[.slice A7 ns.length c7, .int .i64 i, .slice (some ⟨W1.heap.size, 0, none⟩) 1 1] (by rfl) rfl rfl (by (try simp only [List.map_toArray, List.map_cons, List.map_nil]); rfl) ?_
        refine (ObP.calls HP2.out HMS2.out (fun k e => by have := H70.out k e; have := HSZ.out; have := HWS.out; simp at *; omega) HI2.out HL2.out HLL.out.1 HLL.out.2.1 ⟨HOB.out.1.1, HOB.out.1.2.1, HOB.out.1.2.2.1⟩ H70.out).mono ?_
        rintro E w4 ⟨vn, rfl, q1, q2, q3, q4, q5, q6, q7, q8⟩
        refine ⟨_, rfl, ?_⟩
        have hx4 := (q7.block w8.heap.size (Array.getElem?_eq_some_iff.1 HX2.out).1 (fun e => by have := H70.out _ e.symm; have := HSZ.out; omega)).trans HX2.out
        have hmx4 := (q7.block _ (Array.getElem?_eq_some_iff.1 HMX2.out).1 (fun e => by have := H70.out _ e.symm; have := HSZ.out; have := HWS.out; simp at *; omega)).trans HMX2.out
        refine hK.out _ _ ⟨q3, hx4⟩ (fun hHeld => ?_)
        clear hK K
        refine norm_ (a' := ?_) ?_ ?_
        rotate_left
        · show Act.put _ (some 37) _ = _
          simp only [Act.put, List.setIfInBounds_toArray, List.set_cons_zero, List.set_cons_succ]
          rfl
        refine pure_ (i := 12) (N := some 44) (v := ?_) (a' := ?_) #[true, true, true, true, true, true, true, true, true, true, true, false, true, false, false, false] rfl rfl (by kernel_rfl) (fun _ _ _ h => h) (Or.inl ⟨by rfl, ?_⟩) ?_ ?_
        rotate_left
        · intro w'
          go_simp
          with_reducible rfl
        rotate_left
        · simp only [Act.put, List.setIfInBounds_toArray, List.set_cons_zero, List.set_cons_succ]
          rfl
        refine norm_ (by simp only [putAll, Act.put, List.setIfInBounds_toArray, List.set_cons_zero, List.set_cons_succ]) (hCont (vn, W1.heap.size, w9.heap.size) _ ⟨q1, q2, q3, q4, q5, q6, hmx4, by have := HWS.out; have := HSZ.out; show w8.heap.size ≤ w9.heap.size; omega⟩)
    · rintro ⟨vn, ms, mx⟩ W ⟨q1, q2, q3, q4, q5, q6, q7, q8⟩
      dsimp only at q4 q5 q6 q7 q8
      obtain ⟨An, nn, cn, hvn⟩ : ∃ A n c, vn = .slice A n c := by obtain ⟨A, c, e⟩ := Kd.R_slice q5; exact ⟨_, _, _, e⟩
      subst hvn
      have HB0 : Hid (∀ k, (Value.slice A6 xs.length c6).ownBlock = some k → base ≤ k ∧ k < w7.heap.size ∧ some k ≠ (Value.slice An nn cn).ownBlock) := Lib.hid (fun k e => ⟨((Kd.R_bound q4).1 k e).2.1, HP.out.own.1 k e, q4.1 k e⟩)
      have hmxs := (Array.getElem?_eq_some_iff.1 q7).1
      have hlt := HP.out.lt
      have HIN := Lib.hid (insV_R (i := i) (m := mx) q4 (k28.M_lower (base' := base) hlt.1 (k28.M_bound q6)) (fun k hk => ⟨hk.1.2, fun e => by have := (HB0.out k e.symm).2.1; have := hk.2.1; omega⟩) (fun k hk e => by have := ((Kd.R_bound q5).1 k e.symm).2.2.1; omega)
        (by have := HI2.out; have := HLL.out.2.2; omega) (by have := HLL.out.2.2; omega) (by omega) q7 (fun e => by have := (HB0.out mx e.symm).2.1; omega))
      have HQ := Lib.hid (And.intro q1 (And.intro q2 q3))
      have HR7 : Hid (Kd.string.R 9 W base (fun k => (Value.slice An nn cn).ownBlock = some k) (.slice An nn cn) (put ns i (objN a))) := Lib.hid ⟨fun k hk => hk, q5.2⟩
      have HWZ : Hid (base ≤ W.heap.size) := Lib.hid (by omega)
      clear q1 q2 q3 q4 q5 q6 q7 q8 hmxs hlt
      refine norm_ (a' := ?_) ?_ ?_
      rotate_left
      · simp only [putAll, Act.put, List.setIfInBounds_toArray, List.set_cons_zero, List.set_cons_succ]
        rfl
      refine last_ (i := 11) (N := some 43) #[true, true, true, true, true, true, true, true, true, true, true, true, true, false, false, false] rfl rfl (by kernel_rfl) (by decide) (fun K hK => ?_)
      refine goes_ Tryz.func100 (by kernel_rfl) rfl #[.slice A6 xs.length c6, .int .i64 i, .slice (some ⟨mx, 0, none⟩) 1 1] (by rfl) rfl rfl (by (try simp only [List.map_toArray, List.map_cons, List.map_nil]); rfl) ?_
      refine HIN.out.mono ?_
      rintro E w5 ⟨v1, rfl, hR, hg, hat⟩
      obtain ⟨A1, n1, c1, hv1⟩ : ∃ A n c, v1 = .slice A n c := by obtain ⟨A, c, e⟩ := Kd.R_slice hR; exact ⟨_, _, _, e⟩
      subst hv1
      change k28.R 28 w5 base _ _ (put xs i (fv (objA ns a)).1) at hR
      refine ⟨_, rfl, ?_⟩
      refine hK.out _ _ ?_
      clear hK K
      refine norm_ (a' := ?_) ?_ ?_
      rotate_left
      · show Act.put _ (some 43) _ = _
        simp only [Act.put, List.setIfInBounds_toArray, List.set_cons_zero, List.set_cons_succ]
        rfl
      have hv5 := (hg.block b (Array.getElem?_eq_some_iff.1 HQ.out.2.2).1 (fun e => by have := (HB0.out b e.symm).1; have := HOB.out.1.1; omega)).trans HQ.out.2.2
      have hr5 := (hg.block rb (Array.getElem?_eq_some_iff.1 HQ.out.2.1).1 (fun e => by have := (HB0.out rb e.symm).1; have := HOB.out.1.2.1; omega)).trans HQ.out.2.1
      have H5 := Lib.hid (HQ.out.1.grow hg (fun k e => by have := (HB0.out k e).1; have := HOB.out.1.2.2.1; have := HLL.out.2.1; exact ⟨by omega, by omega⟩))
      have HR5 := Lib.hid hR
      have HN5 : Hid (Kd.string.R 9 w5 base (fun _ => True) (.slice An nn cn) (put ns i (objN a))) := Lib.hid (Kd.R_mono (Kd.R_grown (Kd.R_bound HR7.out) hg (fun k hk e => (HB0.out k e.symm).2.2 hk.1.symm)) (fun _ _ => trivial))
      have HSZ5 := Lib.hid hg.size
      clear hR hg hat HIN
      have hv6 := blk_put hv5 7 (.slice An nn cn) rfl
      have hv7 := blk_put hv6 6 (.slice A1 n1 c1) rfl
      have hr6 := (Below.heap_setCell w5 ⟨b, 7, none⟩ (.slice An nn cn) rb (fun e => HOB.out.2.2.2 e.symm)).trans hr5
      have hr7 := (Below.heap_setCell (w5.setCell ⟨b, 7, none⟩ (.slice An nn cn)) ⟨b, 6, none⟩ (.slice A1 n1 c1) rb (fun e => HOB.out.2.2.2 e.symm)).trans hr6
      have HV := Lib.hid (And.intro hv7 hr7)
      have cA : w5.cell? ⟨b, 7, none⟩ = some (.slice A7 ns.length c7) := (blk_cell hv5 7).trans rfl
      have fA := blk_frozen hv5 7
      have cB : (w5.setCell ⟨b, 7, none⟩ (.slice An nn cn)).cell? ⟨b, 6, none⟩ = some (.slice A6 xs.length c6) := (blk_cell hv6 6).trans rfl
      have fB := blk_frozen hv6 6
      clear hv5 hr5 hv6 hv7 hr6 hr7
      refine last_ (i := 13) (N := none) #[true, true, true, true, true, true, true, true, true, true, true, true, true, true, false, false] rfl rfl (by kernel_rfl) (by decide) (fun K hK => ?_)
      refine skip_ (w1 := w5.setCell ⟨b, 7, none⟩ (.slice An nn cn)) (by rfl) rfl ?_ ?_
      · go_simp
      refine hK.out _ _ ?_
      clear hK K cA fA
      refine last_ (i := 14) (N := some 45) #[true, true, true, true, true, true, true, true, true, true, true, true, true, true, true, false] rfl rfl (by kernel_rfl) (by decide) (fun K hK => ?_)
      refine value_ (v := .pointer (some ⟨b, 6, none⟩)) (w1 := w5.setCell ⟨b, 7, none⟩ (.slice An nn cn)) (by rfl) rfl ?_ ?_
      · go_simp
      refine hK.out _ _ ?_
      clear hK K
      refine norm_ (a' := ?_) ?_ ?_
      rotate_left
      · show Act.put _ (some 45) _ = _
        simp only [Act.put, List.setIfInBounds_toArray, List.set_cons_zero, List.set_cons_succ]
        rfl
      refine last_ (i := 15) (N := none) #[true, true, true, true, true, true, true, true, true, true, true, true, true, true, true, true] rfl rfl (by kernel_rfl) (by decide) (fun K hK => ?_)
      refine skip_ (w1 := (w5.setCell ⟨b, 7, none⟩ (.slice An nn cn)).setCell ⟨b, 6, none⟩ (.slice A1 n1 c1)) (by rfl) rfl ?_ ?_
      · go_simp
      refine hK.out _ _ ?_
      refine done_ (by kernel_rfl) ?_
      clear hK K cB fB
      go_end0
      rw [← HRR.out, HI.out]
      refine ⟨rfl, (H5.out.far (grown_set _ b 7 _) HOB.out.2.1 HLL.out.1).far (grown_set _ b 6 _) HOB.out.2.1 HLL.out.1, HV.out.2, ⟨_, _, HV.out.1, ?_, ?_⟩, ⟨HOB.out.1.1, HOB.out.1.2.1, HOB.out.1.2.2.1, ?_⟩, HOB.out.2⟩
      · exact Kd.R_mono (Kd.R_far (Kd.R_bound (Kd.R_mono (Kd.R_far (Kd.R_bound HR5.out) (p := ⟨b, 7, none⟩) (fun k hk => by have := hk.2.1; have := HOB.out.1.1; show k ≠ b; omega) (.slice An nn cn)) (fun _ hk => hk.1))) (p := ⟨b, 6, none⟩) (fun k hk => by have := hk.2.1; have := HOB.out.1.1; show k ≠ b; omega) (.slice A1 n1 c1)) (fun _ hk => hk.1)
      · exact Kd.R_mono (Kd.R_far (Kd.R_bound (Kd.R_mono (Kd.R_far (Kd.R_bound HN5.out) (p := ⟨b, 7, none⟩) (fun k hk => by have := hk.2.1; have := HOB.out.1.1; show k ≠ b; omega) (.slice An nn cn)) (fun _ _ => trivial))) (p := ⟨b, 6, none⟩) (fun k hk => by have := hk.2.1; have := HOB.out.1.1; show k ≠ b; omega) (.slice A1 n1 c1)) (fun _ _ => trivial)
      · have h1 := HQ.out.1.kp.size; have h2 := HSZ5.out; have h3 := HLL.out; have h4 := (grown_set w5 b 7 (.slice An nn cn)).size; have h5 := (grown_set (w5.setCell ⟨b, 7, none⟩ (.slice An nn cn)) b 6 (.slice A1 n1 c1)).size; have h6 := HWZ.out; omega
end Js
end Go.Proofs.YtapcpndplnkfjaaGreatDoor
namespace Go.Proofs.YtapcpndplnkfjaaGreatDoor
open Go.RowKit Go.Proofs.YtapcpndplnkfjaaGreatDoorW.PrintWords Go.Proofs.YtapcpndplnkfjaaGreatDoorW.PrintLast Go.Proofs.YtapcpndplnkfjaaGreatDoorW.PrintMore
set_option linter.unusedVariables false
set_option linter.unusedSimpArgs false
namespace Js
section
variable {σ : Type}
set_option maxRecDepth 100000 in
set_option maxHeartbeats 8000000 in
theorem list_68 {w w1 : World} {g : Nat} {cap : Array Value} {Inv : World → σ → Prop} {st : σ → S → σ × S} {P P1 : σ → S → Prop} (HT : Thing w g 97 cap Inv st P P1) (p : List UInt8) {x : σ} {a : S} (h : Rd w w1 g a) (hI : Inv w1 x) (ho : 0 ≤ a.o ∧ a.o ≤ 100) (hs : a.s ≠ [])
    (hP : a.enter.took p = false → P x (a.enter.take p)) (hop : 0 ≤ a.enter.o ∧ a.enter.o ≤ 1000) :
    Calls Tryz.prog 95 #[.pointer (some ⟨g, 0, none⟩), .string (ofL p), .func (.func 97) #[] cap] w1 fun E w' => E = .returned (.tuple #[]) ∧ Rd w w' g (listF st p x a).2 ∧ Inv w' (listF st p x a).1 := by
  have H := Lib.hid h
  have HI := Lib.hid hI
  have HTT := Lib.hid HT
  have HOS := Lib.hid (And.intro ho hs)
  have HP := Lib.hid hP
  have HOP := Lib.hid hop
  obtain ⟨R, hR⟩ : ∃ R, listF st p x a = R := ⟨_, rfl⟩
  have HR := Lib.hid hR
  rw [hR]
  clear h hI HT ho hs hP hop hR
  go_enter Tryz.func95, Tryz.ntmps95
  go_wp2_with fail
  refine (enter_calls H.out.now HOS.out.1 HOS.out.2).mono ?_
  rintro E w2 ⟨rfl, h2⟩
  have HI2 := Lib.hid (HTT.out.kept _ _ _ HI.out h2.kp)
  have H2 := Lib.hid (H.out.trans h2)
  clear h2
  go_wp2_with fail
  refine (took_calls H2.out.now p).mono ?_
  rintro E w3 ⟨rfl, h3⟩
  have HI3 := Lib.hid (HTT.out.kept _ _ _ HI2.out h3.kp)
  have H3 := Lib.hid (H2.out.trans h3)
  clear h3
  cases hk : a.enter.took p with
  | true =>
    have HF : Hid ((a.enter.take p).left = R.2 ∧ R.1 = x) := Lib.hid (by rw [← HR.out]; unfold listF; rw [if_pos hk]; exact ⟨rfl, rfl⟩)
    have c1 := H3.out.c1
    have f1 := H3.out.fz 1
    have o0 : 0 ≤ (a.enter.take p).o := by rw [take_o]; exact HOP.out.1
    have o1 : (a.enter.take p).o ≤ 1000 := by rw [take_o]; exact HOP.out.2
    clear hk
    go_wp2
    go_end0
    exact ⟨rfl, by rw [← HF.out.1]; exact H3.out.s1 _, by rw [HF.out.2]; exact HTT.out.kept _ _ _ HI3.out (grown_set _ _ _ _)⟩
  | false =>
    have HF : Hid (listLoop st ((st x (a.enter.take p)).2.s.length + 1) (st x (a.enter.take p)).1 (st x (a.enter.take p)).2 = (R.1, (listLoop st ((st x (a.enter.take p)).2.s.length + 1) (st x (a.enter.take p)).1 (st x (a.enter.take p)).2).2) ∧ ((listLoop st ((st x (a.enter.take p)).2.s.length + 1) (st x (a.enter.take p)).1 (st x (a.enter.take p)).2).2.need p).left = R.2) := Lib.hid (by
      rw [← HR.out]; unfold listF; rw [if_neg (by rw [hk]; simp)]; exact ⟨rfl, rfl⟩)
    have HPx := Lib.hid (HP.out hk)
    clear hk
    go_wp2_with fail
    refine (HTT.out.calls _ _ _ H3.out HI3.out HPx.out).mono ?_
    rintro E w4 ⟨rfl, h4, hI4⟩
    have H4 := Lib.hid h4
    have HI4 := Lib.hid hI4
    have HP4 := Lib.hid (HTT.out.step _ _ HPx.out)
    clear h4 hI4
    generalize hx1 : (st x (a.enter.take p)).1 = x1 at *
    generalize ha1 : (st x (a.enter.take p)).2 = a1 at *
    generalize hq : (listLoop st (a1.s.length + 1) x1 a1).2 = q at *
    go_wp2_with fail
    go_loopg [] a1.s.length (fun gk wr => ∃ y b k, gk = b.s.length ∧ b.s.length < k ∧ Rd w wr g b ∧ Inv wr y ∧ P1 y b ∧ listLoop st k y b = (R.1, q))
    case atStart => exact ⟨x1, a1, a1.s.length + 1, rfl, Nat.lt_succ_self _, H4.out, HI4.out, HP4.out, HF.out.1⟩
    case round =>
      obtain ⟨y, b, k, rfl, hk, hrd, hinv, hp1, hll⟩ := hrel
      have H5 := Lib.hid hrd
      have HI5 := Lib.hid hinv
      have HP5 := Lib.hid hp1
      have HLL := Lib.hid hll
      have HK := Lib.hid hk
      clear hrd hinv hp1 hll hk
      go_wp2_with fail
      refine (took_calls H5.out.now [44]).mono ?_
      rintro E w6 ⟨rfl, h6⟩
      have HI6 := Lib.hid (HTT.out.kept _ _ _ HI5.out h6.kp)
      have H6 := Lib.hid (H5.out.trans h6)
      clear h6
      cases hk : b.took [44] with
      | true =>
        have HPy := Lib.hid (HTT.out.more _ _ HP5.out hk)
        have HLT := Lib.hid (took_lt b 44 hk)
        have HL2 : Hid (listLoop st (k - 1) (st y (b.take [44])).1 (st y (b.take [44])).2 = (R.1, q)) := Lib.hid (by
          have hl := HLL.out
          obtain ⟨k', rfl⟩ : ∃ k', k = k' + 1 := ⟨k - 1, by have := HK.out; omega⟩
          rw [listLoop, if_pos hk] at hl
          exact hl)
        clear hk
        go_wp2_with fail
        refine (HTT.out.calls _ _ _ H6.out HI6.out HPy.out).mono ?_
        rintro E w7 ⟨rfl, h7, hI7⟩
        have H7 := Lib.hid h7
        have HI7 := Lib.hid hI7
        clear h7 hI7
        go_wp2
        go_roundg ((st y (b.take [44])).2.s.length)
        case measure => have := HTT.out.len _ _ HPy.out; have := HLT.out; omega
        case rel => exact ⟨_, _, k - 1, rfl, by have := HTT.out.len _ _ HPy.out; have := HLT.out; have := HK.out; omega, H7.out, HI7.out, HTT.out.step _ _ HPy.out, HL2.out⟩
      | false =>
        have HQ : Hid (y = R.1 ∧ b.take [44] = q) := Lib.hid (by
          have hl := HLL.out
          obtain ⟨k', rfl⟩ : ∃ k', k = k' + 1 := ⟨k - 1, by have := HK.out; omega⟩
          rw [listLoop, if_neg (by rw [hk]; simp)] at hl
          injection hl with h1 h2
          exact ⟨h1, h2⟩)
        have HOB := Lib.hid (HTT.out.open_ _ _ HP5.out)
        clear hk
        go_wp2_with fail
        refine (need_calls H6.out.now p).mono ?_
        rintro E w8 ⟨rfl, h8⟩
        have HI8 := Lib.hid (HTT.out.kept _ _ _ HI6.out h8.kp)
        have H8 := Lib.hid (H6.out.trans h8)
        clear h8
        have c1 := H8.out.c1
        have f1 := H8.out.fz 1
        have o0 : 0 ≤ ((b.take [44]).need p).o := by rw [need_o, take_o]; exact HOB.out.1
        have o1 : ((b.take [44]).need p).o ≤ 1000 := by rw [need_o, take_o]; exact HOB.out.2
        go_wp2
        go_end0
        exact ⟨rfl, by rw [← HF.out.2, ← HQ.out.2]; exact H8.out.s1 _, by rw [← HQ.out.1]; exact HTT.out.kept _ _ _ HI8.out (grown_set _ _ _ _)⟩
end
structure GoodO (fv : S → S28 × S) (ok Q : S → Prop) : Prop extends Good fv ok Q where
  obj : ∀ a ns, Q a → Q (objA ns a)
  bad : ∀ a, Q a → Q (a.skip.fail 11)
theorem twice_s (a : S) (b : Bool) : (a.twice b).s = a.s := by unfold S.twice; split <;> simp [fail_s]
theorem trim_len (l p : List UInt8) : (Lib.trimPrefix l p).length ≤ l.length := by unfold Lib.trimPrefix; split <;> simp
theorem take_len (a : S) (p : List UInt8) : (a.take p).s.length ≤ a.s.length := by
  have h := skip_len a
  unfold S.take
  split
  · exact Nat.le_trans (trim_len _ _) h
  · exact h
theorem need_len (a : S) (p : List UInt8) : (a.need p).s.length ≤ a.s.length := by
  unfold S.need
  split
  · exact take_len a p
  · rw [fail_s]; exact take_len a p
theorem objA_len (ns : List ByteArray) (a : S) : (objA ns a).s.length ≤ a.s.length := by
  unfold objA
  have h1 := need_len (S.twice a.skip.st.2 (has ns (objN a))) [58]
  rw [twice_s] at h1
  have h2 := (st_len a.skip).1
  have h3 := skip_len a
  omega
theorem put_length {α : Type} (l : List α) (i : Nat) (x : α) : (put l i x).length = l.length + 1 := by unfold put; simp; omega
theorem obj_thing {fv : S → S28 × S} {ok Q : S → Prop} (HV : VCalls 34 ok fv) (HG : GoodO fv ok Q) {w : World} {base b rb g : Nat} (hb : w.heap.size ≤ b) (hbase : w.heap.size ≤ base) :
    Thing w g 97 #[.pointer (some ⟨rb, 0, none⟩), .pointer (some ⟨b, 0, none⟩)] (fun w' p => Ob w' base b rb g p.1 p.2) (objT fv) (fun p a => p.1.length + a.s.length ≤ 900000 ∧ p.2.length = p.1.length ∧ Q a) (fun p a => p.1.length + a.s.length ≤ 900001 ∧ p.2.length = p.1.length ∧ Q a) where
  calls := fun w1 p a h hI hP => obj_step fv ok HV h hI (HG.ok_ _ (HG.obj a _ hP.2.2)) hb hbase ⟨by have := hP.1; omega, hP.2.1, by have := (HG.bnd a hP.2.2).2.2; omega⟩
  kept := fun w1 w2 p h k => h.kept k
  len := fun p a hP => by
    unfold objT
    split
    · rw [fail_s]; exact skip_len a
    · rename_i h; exact Nat.le_trans (HG.len _ (HG.obj a _ hP.2.2)) (objA_len _ _)
  step := fun p a hP => by
    unfold objT
    split
    · exact ⟨by have h1 := skip_len a; have h2 := hP.1; show p.1.length + (a.skip.fail 11).s.length ≤ 900001; rw [fail_s]; omega, hP.2.1, HG.bad a hP.2.2⟩
    · rename_i h
      have hq := HG.obj a p.2 hP.2.2
      exact ⟨by have h1 := HG.len _ hq; have h2 := objA_len p.2 a; have h3 := hP.1; show (put p.1 _ _).length + (fv (objA p.2 a)).2.s.length ≤ 900001; rw [put_length]; omega, by simp only [put_length]; rw [hP.2.1], HG.next _ hq⟩
  more := fun p a hP ht => ⟨by have := took_lt a 44 ht; have := hP.1; omega, hP.2.1, HG.take a _ hP.2.2⟩
  open_ := fun p a hP => ⟨(HG.bnd a hP.2.2).1, (HG.bnd a hP.2.2).2.1⟩
def S.obj (fv : S → S28 × S) (a : S) : S28 × S := let r := listF (objT fv) [125] ([], []) a; (⟨5, false, z24, ⟨#[]⟩, r.1.1, r.1.2⟩, r.2)
set_option maxRecDepth 100000 in
set_option maxHeartbeats 8000000 in
theorem object_calls {fv : S → S28 × S} {ok Q : S → Prop} (HV : VCalls 34 ok fv) (HG : GoodO fv ok Q) :
    VCalls 69 (fun a => (0 ≤ a.o ∧ a.o ≤ 100) ∧ a.s ≠ [] ∧ (0 ≤ a.enter.o ∧ a.enter.o ≤ 1000) ∧ Q (a.enter.take [125])) (S.obj fv) := by
  intro w w1 g a h hok
  have H := Lib.hid h
  have HOK := Lib.hid hok
  have HVG := Lib.hid (And.intro HV HG)
  clear h hok HV HG
  go_enter Tryz.func69, Tryz.ntmps69
  obtain ⟨w2, hw2⟩ : ∃ w2, w2 = (w1.alloc (.cells #[.pointer (some ⟨g, 0, none⟩)] 77)).alloc (.cells #[.int .i64 0, .bool false, .bool false, .string ⟨#[]⟩, .int .i64 0, .string ⟨#[]⟩, .slice none 0 0, .slice none 0 0] 28) := ⟨_, rfl⟩
  have HW2 := Lib.hid hw2
  clear hw2
  have hsz : w2.heap.size = w1.heap.size + 2 := by rw [HW2.out]; simp
  have HSZ := Lib.hid hsz
  clear hsz
  have H2 : Hid (Rd w w2 g a) := Lib.hid (by rw [HW2.out]; exact H.out.below ((Below.alloc (Below.refl _ _) (Nat.le_refl _) _).alloc (by simp) _))
  have hrb : w2.heap[w1.heap.size]? = some (.cells #[.pointer (some ⟨g, 0, none⟩)] 77 (0, 0)) := by rw [HW2.out]; exact blk_alloc (blk_new w1 _) _
  have hrz : w2.heap[w1.heap.size + 1]? = some (.cells #[.int .i64 0, .bool false, .bool false, .string ⟨#[]⟩, .int .i64 0, .string ⟨#[]⟩, .slice none 0 0, .slice none 0 0] 28 (0, 0)) := by
    rw [HW2.out]; have := blk_new (w1.alloc (.cells #[.pointer (some ⟨g, 0, none⟩)] 77)) (.cells #[.int .i64 0, .bool false, .bool false, .string ⟨#[]⟩, .int .i64 0, .string ⟨#[]⟩, .slice none 0 0, .slice none 0 0] 28); simpa using this
  have hvb : (w2.alloc (.cells #[.int .i64 5, .bool false, .bool false, .string ⟨#[]⟩, .int .i64 0, .string ⟨#[]⟩, .slice none 0 0, .slice none 0 0] 28)).heap[w1.heap.size + 1 + 1]? = some (.cells #[.int .i64 5, .bool false, .bool false, .string ⟨#[]⟩, .int .i64 0, .string ⟨#[]⟩, .slice none 0 0, .slice none 0 0] 28 (0, 0)) := by
    have := blk_new w2 (.cells #[.int .i64 5, .bool false, .bool false, .string ⟨#[]⟩, .int .i64 0, .string ⟨#[]⟩, .slice none 0 0, .slice none 0 0] 28); rw [HSZ.out] at this; exact this
  have hgl := H.out.lt
  have HAR : Hid (Ob (w2.alloc (.cells #[.int .i64 5, .bool false, .bool false, .string ⟨#[]⟩, .int .i64 0, .string ⟨#[]⟩, .slice none 0 0, .slice none 0 0] 28)) (w1.heap.size + 3) (w1.heap.size + 1 + 1) w1.heap.size g [] []) := Lib.hid
    ⟨blk_alloc hrb _, ⟨_, _, hvb, Kd.R_nil _ _ _ _ _, Kd.R_nil _ _ _ _ _⟩, ⟨by omega, by omega, by omega, by simp [HSZ.out]⟩, ⟨by omega, by omega, by omega⟩⟩
  have HRZ := Lib.hid hrz
  have HGL := Lib.hid hgl
  have HT := Lib.hid (obj_thing HVG.out.1 HVG.out.2 (w := w2) (base := w1.heap.size + 3) (b := w1.heap.size + 1 + 1) (rb := w1.heap.size) (g := g) (by have := HSZ.out; omega) (by have := HSZ.out; omega))
  have HPX : Hid (Q (a.enter.take [125])) := Lib.hid HOK.out.2.2.2
  clear hrb hrz hvb hgl
  go_wp2_with fail
  rw [← HW2.out]
  refine (list_68 HT.out [125] (x := (([] : List S28), ([] : List ByteArray))) (H2.out.now.below (Below.alloc (Below.refl _ _) (Nat.le_refl _) _)) HAR.out HOK.out.1 HOK.out.2.1 (fun _ => ⟨by have := (HVG.out.2.bnd _ HPX.out).2.2; simp; omega, rfl, HPX.out⟩) HOK.out.2.2.1).mono ?_
  rintro E w4 ⟨rfl, h4, hA4⟩
  obtain ⟨v6, v7, hv6, hr6, hr7⟩ := hA4.vc
  have HR4 := Lib.hid (h4.keep HRZ.out (by have := HGL.out; omega))
  have HV6 := Lib.hid hv6
  have H4 := Lib.hid (H2.out.trans h4)
  have HX4 := Lib.hid (k28.M_mono (ok' := fun _ => True) (fun _ _ => trivial) (k28_mkM w4 (w1.heap.size + 3) (fun _ => True) (S.obj fv a).1 (v6 := v6) (Kd.R_mono hr6 (fun _ _ => trivial)) hr7))
  have hone : (#[.int .i64 5, .bool false, .bool false, .string ⟨#[]⟩, .int .i64 0, .string ⟨#[]⟩, v6, v7] : Array Value).toList.all (·.oneCell') = true := List.all_eq_true.2 (fun u hu => k28.K_one (k28.K_of_M HX4.out) u hu)
  have HON := Lib.hid hone
  have HLW := Lib.hid H.out.kp.size
  clear h4 hA4 hv6 hr6 hr7 hone
  go_wp2_with (first | (refine wpList_load_row rfl 28 (.tmp 3) rfl (w1.heap.size + 1 + 1) rfl 28 _ (0, 0) _ HV6.out Tryz.underlying28 rfl (by kernel_rfl) ?_) | (refine row_event rfl 28 (.tmp 2) (.tmp 8) rfl (w1.heap.size + 1) _ rfl rfl 28 _ HR4.out (by kernel_rfl) rfl HON.out ?_; intro w9 hr9 hk9))
  refine bodyPost_ret (results_cell_row rfl _ _ (w1.heap.size + 1) 28 _ (0, 0) _ rfl hr9 Tryz.underlying28 rfl (by kernel_rfl)) rfl ⟨_, rfl, Jv.up HX4.out hk9 (by omega) (by omega), ?_⟩
  exact H4.out.far hk9 (by have := HGL.out; omega) (by have := HLW.out; omega)
end Js
end Go.Proofs.YtapcpndplnkfjaaGreatDoor
namespace Go.Proofs.YtapcpndplnkfjaaGreatDoor
open Go.RowKit Go.Proofs.YtapcpndplnkfjaaGreatDoorW.PrintWords Go.Proofs.YtapcpndplnkfjaaGreatDoorW.PrintLast Go.Proofs.YtapcpndplnkfjaaGreatDoorW.PrintMore
set_option linter.unusedVariables false
set_option linter.unusedSimpArgs false
namespace Js
def textV (a : S) : S28 × S := (⟨3, false, z24, ofL a.st.1, [], []⟩, a.st.2)
def fvN : Nat → S → S28 × S
  | 0, a => (z28, a.skip)
  | n + 1, a => S.value textV (S.arr (fvN n)) (S.obj (fvN n)) a
structure Keeps (a b : S) : Prop where
  len : b.s.length ≤ a.s.length
  o : b.o = a.o
  e : a.e ≠ 0 → b.e ≠ 0
theorem Keeps.refl (a : S) : Keeps a a := ⟨Nat.le_refl _, rfl, fun h => h⟩
theorem Keeps.trans {a b c : S} (h : Keeps a b) (k : Keeps b c) : Keeps a c := ⟨Nat.le_trans k.len h.len, k.o.trans h.o, fun x => k.e (h.e x)⟩
theorem keeps_skip (a : S) : Keeps a a.skip := ⟨skip_len a, rfl, fun h => h⟩
theorem keeps_fail (a : S) (x : Int) (hx : x ≠ 0) : Keeps a (a.fail x) := ⟨by rw [fail_s]; exact Nat.le_refl _, fail_o a x, fun h => by unfold S.fail; simp [h]⟩
theorem keeps_take (a : S) (p : List UInt8) : Keeps a (a.take p) := ⟨take_len a p, take_o a p, fun h => by unfold S.take; split <;> exact h⟩
theorem keeps_need (a : S) (p : List UInt8) : Keeps a (a.need p) := by
  unfold S.need
  split
  · exact keeps_take a p
  · exact (keeps_take a p).trans (keeps_fail _ 11 (by decide))
theorem keeps_st (a : S) : Keeps a a.st.2 := ⟨(st_len a).1, (st_len a).2.1, (st_len a).2.2⟩
theorem keeps_num (a : S) : Keeps a a.numS := by
  unfold S.numS
  refine ⟨numR_le a, ?_, fun h => ?_⟩
  · simp only []; split
    · rfl
    · exact fail_o _ _
  · simp only []; split
    · exact h
    · exact (keeps_fail a _ (by assumption)).e h
theorem keeps_objA (ns : List ByteArray) (a : S) : Keeps a (objA ns a) := by
  unfold objA
  refine ((keeps_skip a).trans (keeps_st _)).trans (Keeps.trans ?_ (keeps_need _ _))
  unfold S.twice
  split
  · exact keeps_fail _ 31 (by decide)
  · exact Keeps.refl _
theorem keeps_loop {σ : Type} {st : σ → S → σ × S} (h : ∀ x a, Keeps a (st x a).2) : ∀ n x a, Keeps a (listLoop st n x a).2
  | 0, x, a => Keeps.refl a
  | n + 1, x, a => by
    unfold listLoop
    split
    · exact ((keeps_take a _).trans (h _ _)).trans (keeps_loop h n _ _)
    · exact keeps_take a _
theorem enter_facts (a : S) : a.enter.s.length ≤ a.s.length ∧ a.enter.o = a.o + 1 ∧ (a.e ≠ 0 → a.enter.e ≠ 0) ∧ (a.o = 16 → a.enter.e ≠ 0) := by
  have h0 : a.enter0.s = a.s ∧ a.enter0.o = a.o ∧ (a.e ≠ 0 → a.enter0.e ≠ 0) ∧ (a.o = 16 → a.enter0.e ≠ 0) := by
    unfold S.enter0
    split
    · exact ⟨fail_s _ _, fail_o _ _, (keeps_fail a 35 (by decide)).e, fun _ => by unfold S.fail; simp only []; split <;> simp_all⟩
    · exact ⟨rfl, rfl, fun h => h, fun h => by contradiction⟩
  unfold S.enter S.enter1
  split
  · rename_i h; exact ⟨by simp [h0.1], by simp [h0.2.1], fun x => absurd h (h0.2.2.1 x), fun x => absurd h (h0.2.2.2 x)⟩
  · rename_i h; exact ⟨by simp [h0.1], by simp [h0.2.1], fun _ => h, fun _ => h⟩
theorem keeps_list {σ : Type} {st : σ → S → σ × S} (h : ∀ x a, Keeps a (st x a).2) (p : List UInt8) (x : σ) (a : S) : Keeps a (listF st p x a).2 := by
  have he := enter_facts a
  have hl : ∀ b, Keeps a.enter b → Keeps a b.left := fun b k => ⟨Nat.le_trans k.len he.1, by unfold S.left; simp only []; rw [k.o, he.2.1]; omega, fun x => k.e (he.2.2.1 x)⟩
  unfold listF
  split
  · exact hl _ (keeps_take _ _)
  · exact hl _ (((keeps_take _ _).trans (h _ _)).trans ((keeps_loop h _ _ _).trans (keeps_need _ _)))
theorem keeps_value {ft fa fo : S → S28 × S} (h1 : ∀ a, Keeps a (ft a).2) (h2 : ∀ a, Keeps a (fa a).2) (h3 : ∀ a, Keeps a (fo a).2) (a : S) : Keeps a (S.value ft fa fo a).2 := by
  refine (keeps_skip a).trans ?_
  unfold S.value
  generalize a.skip = b
  unfold S.value1
  repeat' split
  all_goals first | exact Keeps.refl _ | exact keeps_fail _ 11 (by decide) | exact keeps_need _ _ | exact h1 _ | exact h2 _ | exact h3 _ | exact keeps_num _
theorem keeps_fv : ∀ n a, Keeps a (fvN n a).2
  | 0, a => keeps_skip a
  | n + 1, a => keeps_value (ft := textV) (fa := S.arr (fvN n)) (fo := S.obj (fvN n)) (fun a => keeps_st a) (fun a => keeps_list (st := arrT (fvN n)) (fun x a => keeps_fv n a) [93] [] a) (fun a => keeps_list (st := objT (fvN n)) (fun x a => by
      unfold objT
      split
      · exact (keeps_skip a).trans (keeps_fail _ 11 (by decide))
      · exact (keeps_objA _ a).trans (keeps_fv n _)) [125] ([], []) a) a
def Qn (n : Nat) (a : S) : Prop := a.s.length ≤ 900000 ∧ a.o + n = 17 ∧ (n = 0 → a.e ≠ 0) ∧ n ≤ 17
theorem Qn.keeps {n : Nat} {a b : S} (h : Qn n a) (k : Keeps a b) : Qn n b := ⟨Nat.le_trans k.len h.1, by rw [k.o]; exact h.2.1, fun e => k.e (h.2.2.1 e), h.2.2.2⟩
theorem good_n (n : Nat) : GoodO (fvN n) (Qn n) (Qn n) where
  ok_ := fun a h => h
  next := fun a h => h.keeps (keeps_fv n a)
  take := fun a q h => h.keeps (keeps_take a q)
  len := fun a h => (keeps_fv n a).len
  bnd := fun a h => ⟨by have := h.2.1; have := h.2.2.2; omega, by have := h.2.1; omega, h.1⟩
  obj := fun a ns h => h.keeps (keeps_objA ns a)
  bad := fun a h => h.keeps ((keeps_skip a).trans (keeps_fail _ 11 (by decide)))
theorem Qn.enter {n : Nat} {a : S} (h : Qn (n + 1) a) : Qn n a.enter := by
  have he := enter_facts a
  exact ⟨Nat.le_trans he.1 h.1, by rw [he.2.1]; have := h.2.1; push_cast at this; omega, fun e => he.2.2.2 (by have := h.2.1; subst e; push_cast at this; omega), by have := h.2.2.2; omega⟩
theorem v_none (fn : Nat) (f : S → S28 × S) : VCalls fn (fun _ => False) f := fun _ _ _ _ _ h => h.elim
theorem value_n : ∀ n, VCalls 34 (Qn n) (fvN n)
  | 0 => fun w w1 g a h hq => by
    have hv := value_calls textV textV textV _ _ _ (v_none 67 textV) (v_none 68 textV) (v_none 69 textV) w w1 g a h ⟨by have := hq.1; omega, fun e => absurd e (hq.2.2.1 rfl)⟩
    have : S.value textV textV textV a = (z28, a.skip) := by unfold S.value S.value1; rw [if_pos (show a.skip.e ≠ 0 from hq.2.2.1 rfl)]
    rw [this] at hv
    exact hv
  | n + 1 => fun w w1 g a h hq => by
    have hs : Qn (n + 1) a.skip := hq.keeps (keeps_skip a)
    have hne : ∀ c, a.skip.s.head? = some c → a.skip.s ≠ [] := fun c e e2 => by rw [e2] at e; cases e
    have hen := hs.enter
    have hb : ∀ q, (0 ≤ a.skip.o ∧ a.skip.o ≤ 100) ∧ (0 ≤ a.skip.enter.o ∧ a.skip.enter.o ≤ 1000) ∧ Qn n (a.skip.enter.take q) := fun q =>
      ⟨⟨by have := hs.2.1; have := hs.2.2.2; push_cast at *; omega, by have := hs.2.1; push_cast at *; omega⟩, ⟨((good_n n).bnd _ hen).1, ((good_n n).bnd _ hen).2.1⟩, hen.keeps (keeps_take _ q)⟩
    exact value_calls textV (S.arr (fvN n)) (S.obj (fvN n)) _ _ _ text_v (array_calls (value_n n) (good_n n).toGood) (object_calls (value_n n) (good_n n)) w w1 g a h
      ⟨by have := hq.1; omega, fun _ => ⟨fun e => ⟨hne _ e, by have := hs.1; omega⟩, fun e => ⟨(hb [93]).1, hne _ e, (hb [93]).2.1, (hb [93]).2.2⟩, fun e => ⟨(hb [125]).1, hne _ e, (hb [125]).2.1, (hb [125]).2.2⟩⟩⟩
theorem json_calls (s : List UInt8) (w : World) (hT : Tabs w) :
    Calls Tryz.prog 16 #[.string (ofL s)] w fun E w' => ∃ v, E = .returned (.tuple #[v, .int .i64 (parseV (fvN 17) s).2]) ∧ Jv w' w.heap.size v (parseV (fvN 17) s).1 ∧ Below w.heap.size w w' :=
  parse_calls (fvN 17) (Qn 17) (value_n 17) s w hT (fun h => ⟨by show s.length ≤ 900000; omega, rfl, (fun e => absurd e (by decide)), Nat.le_refl _⟩)
end Js
end Go.Proofs.YtapcpndplnkfjaaGreatDoor
namespace Go.Proofs.YtapcpndplnkfjaaGreatDoor
open Go.RowKit Go.Proofs.YtapcpndplnkfjaaGreatDoorW.PrintWords Go.Proofs.YtapcpndplnkfjaaGreatDoorW.PrintLast Go.Proofs.YtapcpndplnkfjaaGreatDoorW.PrintMore
set_option linter.unusedVariables false
set_option linter.unusedSimpArgs false
end Go.Proofs.YtapcpndplnkfjaaGreatDoor
namespace Go.Proofs.YtapcpndplnkfjaaGreatDoor
open Go.RowKit Go.Proofs.YtapcpndplnkfjaaGreatDoorW.PrintWords Go.Proofs.YtapcpndplnkfjaaGreatDoorW.PrintLast Go.Proofs.YtapcpndplnkfjaaGreatDoorW.PrintMore
set_option linter.unusedVariables false
set_option linter.unusedSimpArgs false
namespace Js
end Js
end Go.Proofs.YtapcpndplnkfjaaGreatDoor
namespace Go.Proofs.YtapcpndplnkfjaaGreatDoor
open Go.RowKit Go.Proofs.YtapcpndplnkfjaaGreatDoorW.PrintWords Go.Proofs.YtapcpndplnkfjaaGreatDoorW.PrintLast Go.Proofs.YtapcpndplnkfjaaGreatDoorW.PrintMore
set_option linter.unusedVariables false
set_option linter.unusedSimpArgs false
namespace Js
def okNum (n : S24) : Prop := n.f1.data.toList.length ≤ 40 ∧ n.f1.data.toList.all NumP.isD = true ∧ -999 ≤ n.f2 ∧ n.f2 ≤ 999
end Js
end Go.Proofs.YtapcpndplnkfjaaGreatDoor
namespace Go.Proofs.YtapcpndplnkfjaaGreatDoor
open Go.RowKit Go.Proofs.YtapcpndplnkfjaaGreatDoorW.PrintWords Go.Proofs.YtapcpndplnkfjaaGreatDoorW.PrintLast Go.Proofs.YtapcpndplnkfjaaGreatDoorW.PrintMore
set_option linter.unusedVariables false
set_option linter.unusedSimpArgs false
namespace Js
theorem right_ok {n : NumP.NumV} (h : NumP.right n = true) : okNum ⟨n.1, ofL n.2.1, n.2.2⟩ := by
  unfold NumP.right at h
  unfold okNum
  split at h
  · rename_i h0
    simp only [Bool.and_eq_true, beq_iff_eq] at h
    rw [h0, h.2]
    exact ⟨Nat.zero_le _, rfl, by show (-999 : Int) ≤ 0; omega, by show (0 : Int) ≤ 999; omega⟩
  · simp only [Bool.and_eq_true, decide_eq_true_eq] at h
    exact ⟨h.1.1.2, h.1.1.1.1.1, h.1.2, h.2⟩
theorem parse_ok (l : List UInt8) : okNum ⟨(NumP.parse l).1.1, ofL (NumP.parse l).1.2.1, (NumP.parse l).1.2.2⟩ := by
  have hz : okNum ⟨NumP.zero.1, ofL NumP.zero.2.1, NumP.zero.2.2⟩ := ⟨by decide, by decide, by decide, by decide⟩
  unfold NumP.parse
  split
  · split
    · rename_i h; exact right_ok h
    · exact hz
  · exact hz
theorem loop_out : ∀ (n : Nat) (out : List UInt8) (a : S), (strLoop S.esc n out a).1.length ≤ out.length + 17 * a.s.length
  | 0, out, a => by unfold strLoop; show out.length ≤ _; omega
  | n + 1, out, a => by
    unfold strLoop
    have ht : (a.s.take a.plain.1).length ≤ a.s.length := by rw [List.length_take]; omega
    split
    · show out.length ≤ _; omega
    · split
      · simp only [List.length_append]; omega
      · rename_i h2
        split
        · simp only [List.length_append]; omega
        · have h3 : a.plain.1 < a.s.length := (plain_le a).2 (by simpa using h2)
          have h4 := loop_out n (out ++ a.s.take a.plain.1 ++ a.cut.esc.1) a.cut.esc.2
          have h5 := esc_len a.cut
          have h6 : a.cut.s.length = a.s.length - (a.plain.1 + 1) := by unfold S.cut; simp
          have h7 : (a.s.take a.plain.1).length = a.plain.1 := by rw [List.length_take]; omega
          simp only [List.length_append] at h4
          refine Nat.le_trans h4 ?_
          omega
end Js
end Go.Proofs.YtapcpndplnkfjaaGreatDoor
namespace Go.Proofs.YtapcpndplnkfjaaGreatDoor
open Go.RowKit Go.Proofs.YtapcpndplnkfjaaGreatDoorW.PrintWords Go.Proofs.YtapcpndplnkfjaaGreatDoorW.PrintLast Go.Proofs.YtapcpndplnkfjaaGreatDoorW.PrintMore
set_option linter.unusedVariables false
set_option linter.unusedSimpArgs false
namespace Js
structure JC (w : World) (x : S28) (A : Option Addr) (n c : Nat) (B : Option Addr) (m c' : Nat) : Prop where
  ln : n = x.f4.length
  nc : n ≤ c
  i : k28.C w A n x.f4
  lm : m = x.f5.length
  mc : m ≤ c'
  s : Kd.string.C w B m x.f5
theorem JC.below {w w' : World} {x : S28} {A B : Option Addr} {n c m c' : Nat} (h : JC w x A n c B m c') (hb : Below w.heap.size w w') : JC w' x A n c B m c' :=
  ⟨h.ln, h.nc, Kd.C_below h.i hb, h.lm, h.mc, Kd.C_below h.s hb⟩
theorem eight {w : World} {g : Nat} {a0 a1 a2 a3 a4 a5 a6 a7 : Value} {t : TypeId} (h : w.heap[g]? = some (.cells #[a0, a1, a2, a3, a4, a5, a6, a7] t (0, 0))) :
    w.cell? ⟨g, 0, none⟩ = some a0 ∧ w.cell? ⟨g, 1, none⟩ = some a1 ∧ w.cell? ⟨g, 2, none⟩ = some a2 ∧ w.cell? ⟨g, 3, none⟩ = some a3 ∧ w.cell? ⟨g, 4, none⟩ = some a4 ∧ w.cell? ⟨g, 5, none⟩ = some a5 ∧ w.cell? ⟨g, 6, none⟩ = some a6 ∧ w.cell? ⟨g, 7, none⟩ = some a7 :=
  ⟨(blk_cell h 0).trans rfl, (blk_cell h 1).trans rfl, (blk_cell h 2).trans rfl, (blk_cell h 3).trans rfl, (blk_cell h 4).trans rfl, (blk_cell h 5).trans rfl, (blk_cell h 6).trans rfl, (blk_cell h 7).trans rfl⟩
theorem kept {W w' : World} {o : Obj} (hb : Below (W.alloc o).heap.size (W.alloc o) w') : w'.heap[W.heap.size]? = some o ∧ W.heap.size < w'.heap.size := by
  have h := hb.size
  have h2 : (W.alloc o).heap.size = W.heap.size + 1 := by simp
  exact ⟨(hb.block _ (by omega)).trans (heap_alloc_new W o), by omega⟩
theorem thru {W w' : World} {g : Nat} {o : Obj} (h : W.heap[g]? = some o) (hb : Below W.heap.size W w') : w'.heap[g]? = some o := (hb.block _ (blk_lt h)).trans h
def pv (s : List UInt8) : S28 × Int := parseV (fvN 17) s
theorem p7 : pv [55] = (⟨2, false, ⟨false, ⟨#[55]⟩, 0⟩, ⟨#[]⟩, [], []⟩, 0) := by kernel_rfl
end Js
end Go.Proofs.YtapcpndplnkfjaaGreatDoor
namespace Go.Proofs.YtapcpndplnkfjaaGreatDoor
open Go.RowKit Go.Proofs.YtapcpndplnkfjaaGreatDoorW.PrintWords
set_option linter.unusedVariables false
theorem below_ahead (w : World) (n : Nat) (os : Array Obj) : Below w.heap.size w (Sort.grow (w.drewN n) os) :=
  ⟨rfl, rfl, rfl, by simp [Sort.grow], fun k hk => by
    show (w.heap ++ os)[k]? = w.heap[k]?
    rw [Array.getElem?_append_left hk]⟩
def PTabs (w : World) : Prop := Lib.TabIs Tryz.prog w "internal/strconv.uint64pow10" .u64 Lib.pow10Tab
theorem gPow10 : Tryz.prog.globalNamed "internal/strconv.uint64pow10" = some 4 := by kernel_rfl
theorem var_lt {P : Program} {w : World} {n : String} {g : Nat} {cs : Array Value} (hg : P.globalNamed n = some g) (h : w.var? P n = some cs) : g < w.heap.size := by
  unfold World.var? at h
  rw [hg] at h
  simp only [Option.bind_some] at h
  split at h
  · rename_i hh; exact (Array.getElem?_eq_some_iff.1 hh).1
  · cases h
theorem PTabs.below {w w' : World} (h : PTabs w) (hb : Below w.heap.size w w') : PTabs w' :=
  var?_below hb gPow10 (var_lt gPow10 h) h
def strconv_Itoa_83.f (a0 : Int) : Option ByteArray := if -9223372036854775808 ≤ a0 ∧ a0 ≤ 9223372036854775807 then some ⟨(Lib.itoa a0).toArray⟩ else none
theorem strconv_Itoa_83.calls (a0 : Int) (r : ByteArray) (w : World) (hT : PTabs w) (h : strconv_Itoa_83.f a0 = some r) :
    Calls Tryz.prog 83 #[.int .i64 a0] w fun e w' => e = .returned (.string r) ∧ Below w.heap.size w w' := by
  unfold strconv_Itoa_83.f at h
  split at h
  · rename_i hc
    obtain rfl := Option.some.inj h
    refine (Tryz.strconv_Itoa a0 hc.1 hc.2 w hT).mono ?_
    rintro e w' ⟨rfl, k, os, rfl⟩
    exact ⟨rfl, below_ahead _ _ _⟩
  · exact absurd h (by simp)
end Go.Proofs.YtapcpndplnkfjaaGreatDoor
namespace Go.Proofs.YtapcpndplnkfjaaGreatDoor
open Go.RowKit Go.Proofs.YtapcpndplnkfjaaGreatDoorW.PrintWords Go.Proofs.YtapcpndplnkfjaaGreatDoorW.PrintLast Go.Proofs.YtapcpndplnkfjaaGreatDoorW.PrintMore
attribute [local go_sem] max2_int min2_int max_two min_two max_three min_three max_four min_four
set_option linter.unusedVariables false
set_option linter.unusedSimpArgs false
end Go.Proofs.YtapcpndplnkfjaaGreatDoor
namespace Go.Proofs.YtapcpndplnkfjaaGreatDoor
open Go.RowKit Go.Proofs.YtapcpndplnkfjaaGreatDoorW.PrintWords Go.Proofs.YtapcpndplnkfjaaGreatDoorW.PrintLast Go.Proofs.YtapcpndplnkfjaaGreatDoorW.PrintMore
attribute [local go_sem] max2_int min2_int max_two min_two max_three min_three max_four min_four
set_option linter.unusedVariables false
set_option linter.unusedSimpArgs false
end Go.Proofs.YtapcpndplnkfjaaGreatDoor
namespace Go.Proofs.YtapcpndplnkfjaaGreatDoor
open Go.RowKit Go.Proofs.YtapcpndplnkfjaaGreatDoorW.PrintWords Go.Proofs.YtapcpndplnkfjaaGreatDoorW.PrintLast Go.Proofs.YtapcpndplnkfjaaGreatDoorW.PrintMore
attribute [local go_sem] max2_int min2_int max_two min_two max_three min_three max_four min_four
set_option linter.unusedVariables false
set_option linter.unusedSimpArgs false
end Go.Proofs.YtapcpndplnkfjaaGreatDoor
namespace Go.Proofs.YtapcpndplnkfjaaGreatDoor
open Go.RowKit Go.Proofs.YtapcpndplnkfjaaGreatDoorW.PrintWords Go.Proofs.YtapcpndplnkfjaaGreatDoorW.PrintLast Go.Proofs.YtapcpndplnkfjaaGreatDoorW.PrintMore
attribute [local go_sem] max2_int min2_int max_two min_two max_three min_three max_four min_four
set_option linter.unusedVariables false
set_option linter.unusedSimpArgs false
end Go.Proofs.YtapcpndplnkfjaaGreatDoor
namespace Go.Proofs.YtapcpndplnkfjaaGreatDoor
open Go.RowKit Go.Proofs.YtapcpndplnkfjaaGreatDoorW.PrintWords Go.Proofs.YtapcpndplnkfjaaGreatDoorW.PrintLast Go.Proofs.YtapcpndplnkfjaaGreatDoorW.PrintMore
attribute [local go_sem] max2_int min2_int max_two min_two max_three min_three max_four min_four
set_option linter.unusedVariables false
set_option linter.unusedSimpArgs false
end Go.Proofs.YtapcpndplnkfjaaGreatDoor
namespace Go.Proofs.YtapcpndplnkfjaaGreatDoor
open Go.RowKit Go.Proofs.YtapcpndplnkfjaaGreatDoorW.PrintWords Go.Proofs.YtapcpndplnkfjaaGreatDoorW.PrintLast Go.Proofs.YtapcpndplnkfjaaGreatDoorW.PrintMore
attribute [local go_sem] max2_int min2_int max_two min_two max_three min_three max_four min_four
set_option linter.unusedVariables false
set_option linter.unusedSimpArgs false
end Go.Proofs.YtapcpndplnkfjaaGreatDoor
namespace Go.Proofs.YtapcpndplnkfjaaGreatDoor
open Go.RowKit Go.Proofs.YtapcpndplnkfjaaGreatDoorW.PrintWords Go.Proofs.YtapcpndplnkfjaaGreatDoorW.PrintLast Go.Proofs.YtapcpndplnkfjaaGreatDoorW.PrintMore
attribute [local go_sem] max2_int min2_int max_two min_two max_three min_three max_four min_four
set_option linter.unusedVariables false
set_option linter.unusedSimpArgs false
end Go.Proofs.YtapcpndplnkfjaaGreatDoor
namespace Go.Proofs.YtapcpndplnkfjaaGreatDoor
open Go.RowKit Go.Proofs.YtapcpndplnkfjaaGreatDoorW.PrintWords Go.Proofs.YtapcpndplnkfjaaGreatDoorW.PrintLast Go.Proofs.YtapcpndplnkfjaaGreatDoorW.PrintMore
attribute [local go_sem] max2_int min2_int max_two min_two max_three min_three max_four min_four
set_option linter.unusedVariables false
set_option linter.unusedSimpArgs false
end Go.Proofs.YtapcpndplnkfjaaGreatDoor
namespace Go.Proofs.YtapcpndplnkfjaaGreatDoor.Pr
open Go.RowKit Go.Proofs.YtapcpndplnkfjaaGreatDoorW.PrintWords Go.Proofs.YtapcpndplnkfjaaGreatDoorW.PrintLast Go.Proofs.YtapcpndplnkfjaaGreatDoorW.PrintMore
attribute [local go_sem] max2_int min2_int max_two min_two max_three min_three max_four min_four
set_option linter.unusedVariables false
set_option linter.unusedSimpArgs false
end Go.Proofs.YtapcpndplnkfjaaGreatDoor.Pr
namespace Go.Proofs.YtapcpndplnkfjaaGreatDoor.Pr
open Go.RowKit Go.Proofs.YtapcpndplnkfjaaGreatDoorW.PrintWords Go.Proofs.YtapcpndplnkfjaaGreatDoorW.PrintLast Go.Proofs.YtapcpndplnkfjaaGreatDoorW.PrintMore
attribute [local go_sem] max2_int min2_int max_two min_two max_three min_three max_four min_four
set_option linter.unusedVariables false
set_option linter.unusedSimpArgs false
def cmp_isNaN_int.f (a0 : Int) : Option (Bool) := some (a0 != a0)
set_option maxHeartbeats 8000000 in
set_option maxRecDepth 100000 in
theorem cmp_isNaN_int.calls (a0 : Int) (r : Bool) (w : World) (h : cmp_isNaN_int.f a0 = some r) :
    Calls Tryz.prog 80 #[.int .i64 a0] w fun e w' => e = .returned (.bool r) ∧ Drawn0 w w' := by
  have H : (some (a0 != a0)) = some r := h
  clear h
  obtain rfl := Option.some.inj H
  go_enter Tryz.func80, Tryz.ntmps80
  go_wp2
  go_ret
  try simp only [beq_nil_isEmpty, bytesLess_gtr]
  exact ⟨by first | rfl | (simp; done) | (simp [*]; done), by repeat (first | exact Drawn0.refl _ | apply Drawn0.step)⟩
def cmp_Compare_int.f (a0 : Int) (a1 : Int) : Option (Int) := (cmp_isNaN_int.f a0).bind fun t101 => ((cmp_isNaN_int.f a1).bind fun t102 => (if t101 = true then (if t102 = true then (some 0) else (some (-1))) else (if t102 = true then (some 1) else (if a0 < a1 then (some (-1)) else (if a0 > a1 then (some 1) else (some 0))))))
set_option maxHeartbeats 8000000 in
set_option maxRecDepth 100000 in
theorem cmp_Compare_int.calls (a0 : Int) (a1 : Int) (r : Int) (w : World) (h : cmp_Compare_int.f a0 a1 = some r) :
    Calls Tryz.prog 50 #[.int .i64 a0, .int .i64 a1] w fun e w' => e = .returned (.int .i64 r) ∧ Drawn0 w w' := by
  have H : ((cmp_isNaN_int.f a0).bind fun t101 => ((cmp_isNaN_int.f a1).bind fun t102 => (if t101 = true then (if t102 = true then (some 0) else (some (-1))) else (if t102 = true then (some 1) else (if a0 < a1 then (some (-1)) else (if a0 > a1 then (some 1) else (some 0))))))) = some r := h
  clear h
  replace H := Option.bind_eq_some_iff.mp H
  obtain ⟨t101, A30, H⟩ := H
  replace H : ((cmp_isNaN_int.f a1).bind fun t102 => (if t101 = true then (if t102 = true then (some 0) else (some (-1))) else (if t102 = true then (some 1) else (if a0 < a1 then (some (-1)) else (if a0 > a1 then (some 1) else (some 0)))))) = some r := H
  have A3 := Aside0.mk A30
  clear A30
  replace H := Option.bind_eq_some_iff.mp H
  obtain ⟨t102, A40, H⟩ := H
  replace H : (if t101 = true then (if t102 = true then (some 0) else (some (-1))) else (if t102 = true then (some 1) else (if a0 < a1 then (some (-1)) else (if a0 > a1 then (some 1) else (some 0))))) = some r := H
  have A4 := Aside0.mk A40
  clear A40
  by_cases c5 : t101 = true
  · subst c5
    have H1 : (if t102 = true then (some 0) else (some (-1))) = some r := by rw [if_pos rfl] at H; exact H
    clear H
    have H := H1
    clear H1
    by_cases c6 : t102 = true
    · subst c6
      have H1 : (some 0) = some r := by rw [if_pos rfl] at H; exact H
      clear H
      have H := H1
      clear H1
      obtain rfl := Option.some.inj H
      go_enter Tryz.func50, Tryz.ntmps50
      go_wp2_with (first | ((with_reducible refine gate_callee (f := 80) rfl ?_); refine goesL_ (some 8) rfl rfl Tryz.func80 (by kernel_rfl) rfl #[.int .i64 a0] rfl (by (try simp only [List.map_toArray, List.map_cons, List.map_nil]); first | done | rfl | (simp only [List.length_drop, List.length_take]; rfl)) ?_; (with_reducible refine (cmp_isNaN_int.calls a0 true _ A3.out).mono ?_); rintro e w' ⟨rfl, ⟨nd, rfl⟩⟩; refine ⟨_, rfl, ?_⟩) | ((with_reducible refine gate_callee (f := 80) rfl ?_); refine goesL_ (some 10) rfl rfl Tryz.func80 (by kernel_rfl) rfl #[.int .i64 a1] rfl (by (try simp only [List.map_toArray, List.map_cons, List.map_nil]); first | done | rfl | (simp only [List.length_drop, List.length_take]; rfl)) ?_; (with_reducible refine (cmp_isNaN_int.calls a1 true _ A4.out).mono ?_); rintro e w' ⟨rfl, ⟨nd, rfl⟩⟩; refine ⟨_, rfl, ?_⟩))
      go_ret
      try simp only [beq_nil_isEmpty, bytesLess_gtr]
      exact ⟨by first | rfl | (simp; done) | (simp [*]; done), by repeat (first | exact Drawn0.refl _ | apply Drawn0.step)⟩
    · replace c6 := Bool.eq_false_iff.mpr c6
      subst c6
      have H1 : (some (-1)) = some r := by rw [if_neg (show ¬ (false = true) by decide)] at H; exact H
      clear H
      have H := H1
      clear H1
      obtain rfl := Option.some.inj H
      go_enter Tryz.func50, Tryz.ntmps50
      go_wp2_with (first | ((with_reducible refine gate_callee (f := 80) rfl ?_); refine goesL_ (some 8) rfl rfl Tryz.func80 (by kernel_rfl) rfl #[.int .i64 a0] rfl (by (try simp only [List.map_toArray, List.map_cons, List.map_nil]); first | done | rfl | (simp only [List.length_drop, List.length_take]; rfl)) ?_; (with_reducible refine (cmp_isNaN_int.calls a0 true _ A3.out).mono ?_); rintro e w' ⟨rfl, ⟨nd, rfl⟩⟩; refine ⟨_, rfl, ?_⟩) | ((with_reducible refine gate_callee (f := 80) rfl ?_); refine goesL_ (some 10) rfl rfl Tryz.func80 (by kernel_rfl) rfl #[.int .i64 a1] rfl (by (try simp only [List.map_toArray, List.map_cons, List.map_nil]); first | done | rfl | (simp only [List.length_drop, List.length_take]; rfl)) ?_; (with_reducible refine (cmp_isNaN_int.calls a1 false _ A4.out).mono ?_); rintro e w' ⟨rfl, ⟨nd, rfl⟩⟩; refine ⟨_, rfl, ?_⟩))
      go_ret
      try simp only [beq_nil_isEmpty, bytesLess_gtr]
      exact ⟨by first | rfl | (simp; done) | (simp [*]; done), by repeat (first | exact Drawn0.refl _ | apply Drawn0.step)⟩
  · replace c5 := Bool.eq_false_iff.mpr c5
    subst c5
    have H1 : (if t102 = true then (some 1) else (if a0 < a1 then (some (-1)) else (if a0 > a1 then (some 1) else (some 0)))) = some r := by rw [if_neg (show ¬ (false = true) by decide)] at H; exact H
    clear H
    have H := H1
    clear H1
    by_cases c7 : t102 = true
    · subst c7
      have H1 : (some 1) = some r := by rw [if_pos rfl] at H; exact H
      clear H
      have H := H1
      clear H1
      obtain rfl := Option.some.inj H
      go_enter Tryz.func50, Tryz.ntmps50
      go_wp2_with (first | ((with_reducible refine gate_callee (f := 80) rfl ?_); refine goesL_ (some 8) rfl rfl Tryz.func80 (by kernel_rfl) rfl #[.int .i64 a0] rfl (by (try simp only [List.map_toArray, List.map_cons, List.map_nil]); first | done | rfl | (simp only [List.length_drop, List.length_take]; rfl)) ?_; (with_reducible refine (cmp_isNaN_int.calls a0 false _ A3.out).mono ?_); rintro e w' ⟨rfl, ⟨nd, rfl⟩⟩; refine ⟨_, rfl, ?_⟩) | ((with_reducible refine gate_callee (f := 80) rfl ?_); refine goesL_ (some 10) rfl rfl Tryz.func80 (by kernel_rfl) rfl #[.int .i64 a1] rfl (by (try simp only [List.map_toArray, List.map_cons, List.map_nil]); first | done | rfl | (simp only [List.length_drop, List.length_take]; rfl)) ?_; (with_reducible refine (cmp_isNaN_int.calls a1 true _ A4.out).mono ?_); rintro e w' ⟨rfl, ⟨nd, rfl⟩⟩; refine ⟨_, rfl, ?_⟩))
      go_ret
      try simp only [beq_nil_isEmpty, bytesLess_gtr]
      exact ⟨by first | rfl | (simp; done) | (simp [*]; done), by repeat (first | exact Drawn0.refl _ | apply Drawn0.step)⟩
    · replace c7 := Bool.eq_false_iff.mpr c7
      subst c7
      have H1 : (if a0 < a1 then (some (-1)) else (if a0 > a1 then (some 1) else (some 0))) = some r := by rw [if_neg (show ¬ (false = true) by decide)] at H; exact H
      clear H
      have H := H1
      clear H1
      by_cases c8 : a0 < a1
      · rw [if_pos c8] at H
        have c8b0 : decide (a0 < a1) = true := decide_eq_true c8
        clear c8
        obtain rfl := Option.some.inj H
        go_enter Tryz.func50, Tryz.ntmps50
        go_wp2_with (first | ((with_reducible refine gate_callee (f := 80) rfl ?_); refine goesL_ (some 8) rfl rfl Tryz.func80 (by kernel_rfl) rfl #[.int .i64 a0] rfl (by (try simp only [List.map_toArray, List.map_cons, List.map_nil]); first | done | rfl | (simp only [List.length_drop, List.length_take]; rfl)) ?_; (with_reducible refine (cmp_isNaN_int.calls a0 false _ A3.out).mono ?_); rintro e w' ⟨rfl, ⟨nd, rfl⟩⟩; refine ⟨_, rfl, ?_⟩) | ((with_reducible refine gate_callee (f := 80) rfl ?_); refine goesL_ (some 10) rfl rfl Tryz.func80 (by kernel_rfl) rfl #[.int .i64 a1] rfl (by (try simp only [List.map_toArray, List.map_cons, List.map_nil]); first | done | rfl | (simp only [List.length_drop, List.length_take]; rfl)) ?_; (with_reducible refine (cmp_isNaN_int.calls a1 false _ A4.out).mono ?_); rintro e w' ⟨rfl, ⟨nd, rfl⟩⟩; refine ⟨_, rfl, ?_⟩))
        go_ret
        try simp only [beq_nil_isEmpty, bytesLess_gtr]
        exact ⟨by first | rfl | (simp; done) | (simp [*]; done), by repeat (first | exact Drawn0.refl _ | apply Drawn0.step)⟩
      · rw [if_neg c8] at H
        have c8b0 : decide (a0 < a1) = false := decide_eq_false c8
        clear c8
        by_cases c9 : a0 > a1
        · rw [if_pos c9] at H
          have c9b0 : decide (a1 < a0) = true := decide_eq_true c9
          clear c9
          obtain rfl := Option.some.inj H
          go_enter Tryz.func50, Tryz.ntmps50
          go_wp2_with (first | ((with_reducible refine gate_callee (f := 80) rfl ?_); refine goesL_ (some 8) rfl rfl Tryz.func80 (by kernel_rfl) rfl #[.int .i64 a0] rfl (by (try simp only [List.map_toArray, List.map_cons, List.map_nil]); first | done | rfl | (simp only [List.length_drop, List.length_take]; rfl)) ?_; (with_reducible refine (cmp_isNaN_int.calls a0 false _ A3.out).mono ?_); rintro e w' ⟨rfl, ⟨nd, rfl⟩⟩; refine ⟨_, rfl, ?_⟩) | ((with_reducible refine gate_callee (f := 80) rfl ?_); refine goesL_ (some 10) rfl rfl Tryz.func80 (by kernel_rfl) rfl #[.int .i64 a1] rfl (by (try simp only [List.map_toArray, List.map_cons, List.map_nil]); first | done | rfl | (simp only [List.length_drop, List.length_take]; rfl)) ?_; (with_reducible refine (cmp_isNaN_int.calls a1 false _ A4.out).mono ?_); rintro e w' ⟨rfl, ⟨nd, rfl⟩⟩; refine ⟨_, rfl, ?_⟩))
          go_ret
          try simp only [beq_nil_isEmpty, bytesLess_gtr]
          exact ⟨by first | rfl | (simp; done) | (simp [*]; done), by repeat (first | exact Drawn0.refl _ | apply Drawn0.step)⟩
        · rw [if_neg c9] at H
          have c9b0 : decide (a1 < a0) = false := decide_eq_false c9
          clear c9
          obtain rfl := Option.some.inj H
          go_enter Tryz.func50, Tryz.ntmps50
          go_wp2_with (first | ((with_reducible refine gate_callee (f := 80) rfl ?_); refine goesL_ (some 8) rfl rfl Tryz.func80 (by kernel_rfl) rfl #[.int .i64 a0] rfl (by (try simp only [List.map_toArray, List.map_cons, List.map_nil]); first | done | rfl | (simp only [List.length_drop, List.length_take]; rfl)) ?_; (with_reducible refine (cmp_isNaN_int.calls a0 false _ A3.out).mono ?_); rintro e w' ⟨rfl, ⟨nd, rfl⟩⟩; refine ⟨_, rfl, ?_⟩) | ((with_reducible refine gate_callee (f := 80) rfl ?_); refine goesL_ (some 10) rfl rfl Tryz.func80 (by kernel_rfl) rfl #[.int .i64 a1] rfl (by (try simp only [List.map_toArray, List.map_cons, List.map_nil]); first | done | rfl | (simp only [List.length_drop, List.length_take]; rfl)) ?_; (with_reducible refine (cmp_isNaN_int.calls a1 false _ A4.out).mono ?_); rintro e w' ⟨rfl, ⟨nd, rfl⟩⟩; refine ⟨_, rfl, ?_⟩))
          go_ret
          try simp only [beq_nil_isEmpty, bytesLess_gtr]
          exact ⟨by first | rfl | (simp; done) | (simp [*]; done), by repeat (first | exact Drawn0.refl _ | apply Drawn0.step)⟩
def cmp_Or_int.l0 : Nat → Int → List Int → Int → Int → Option (Int)
  | 0, _, _, _, _ => none
  | k + 1, x3, x6, x7, x8 => if x8 < x7 then (if 0 ≤ x8 then (if x8 < (x6.length : Int) then (if (rd x6 x8) = x3 then (cmp_Or_int.l0 k x3 x6 x7 (wrap64 (x8 + 1))) else (some (rd x6 x8))) else (none)) else (none)) else (some x3)
def cmp_Or_int.f (k : Nat) (l0 : List Int) : Option (Int) := cmp_Or_int.l0 k 0 l0 (l0.length : Int) 0
theorem cmp_Or_int.mono_l : ∀ k, (∀ y0 y1 y2 y3, LeO (cmp_Or_int.l0 k y0 y1 y2 y3) (cmp_Or_int.l0 (k + 1) y0 y1 y2 y3))
  | 0 => fun _ _ _ _ r h => by simp [cmp_Or_int.l0] at h
  | k + 1 => by
    have ih0 := cmp_Or_int.mono_l k
    · intro y0 y1 y2 y3
      unfold cmp_Or_int.l0
      repeat' first
      | (with_reducible exact ih0 _ _ _ _)
      | (with_reducible exact LeO.refl _)
      | (with_reducible exact LeO.none _)
      | (with_reducible refine LeO.ite ?_ ?_)
      | (with_reducible refine LeO.bind ?_ (fun _ => ?_))
      | exact ih0 _ _ _ _
      | exact LeO.none _
      | refine LeO.ite ?_ ?_
      | refine LeO.bind ?_ (fun _ => ?_)
theorem cmp_Or_int.mono : ∀ a0 k, LeO (cmp_Or_int.f k a0) (cmp_Or_int.f (k + 1) a0) := by
  intro a0 k
  have ih0 := cmp_Or_int.mono_l k
  unfold cmp_Or_int.f
  repeat' first
      | (with_reducible exact ih0 _ _ _ _)
      | (with_reducible exact LeO.refl _)
      | (with_reducible exact LeO.none _)
      | (with_reducible refine LeO.ite ?_ ?_)
      | (with_reducible refine LeO.bind ?_ (fun _ => ?_))
      | exact ih0 _ _ _ _
      | exact LeO.none _
      | refine LeO.ite ?_ ?_
      | refine LeO.bind ?_ (fun _ => ?_)
set_option maxHeartbeats 8000000 in
set_option maxRecDepth 100000 in
theorem cmp_Or_int.calls (k : Nat) (A0 : Option Addr) (c0 : Nat) (l0 : List Int) (r : Int) (w : World) (hr0 : Kd.C (Kd.int .i64) w A0 l0.length l0) (hc0 : l0.length ≤ c0) (h : cmp_Or_int.f k l0 = some r) :
    Calls Tryz.prog 55 #[.slice A0 l0.length c0] w fun e w' => e = .returned (.int .i64 r) ∧ Drawn0 w w' := by
  have HR0 := Aside0.mk hr0
  have HC0 := Aside0.mk hc0
  clear hr0 hc0
  have H : (cmp_Or_int.l0 k 0 l0 (l0.length : Int) 0) = some r := h
  clear h
  have H' := Aside0.mk H
  clear H
  go_enter Tryz.func55, Tryz.ntmps55
  go_wp2
  go_loopg [8] k (fun kq v8 w' => ∃ (x8_1 : Int), v8 = .int .i64 x8_1 ∧ Aside0 (cmp_Or_int.l0 kq 0 l0 (l0.length : Int) x8_1 = some r) ∧ Aside0 (kq ≤ k) ∧ Drawn0 w w')
  case atStart => exact ⟨(0), (by first | rfl | (simp; done) | (simp [*]; done) | (simp [wrap64]; done)), H', ⟨Nat.le_refl _⟩, by repeat (first | exact Drawn0.refl _ | apply Drawn0.step)⟩
  case round =>
    clear H'
    obtain ⟨x8_1, rfl, HA, HK1, ⟨m1, rfl⟩⟩ := hrel
    cases gk with
    | zero => exact absurd HA.out (by simp [cmp_Or_int.l0])
    | succ k1 =>
      have H := HA.out
      clear HA
      simp only [cmp_Or_int.l0] at H
      by_cases c2 : x8_1 < (l0.length : Int)
      · rw [if_pos c2] at H
        have c2b0 : decide (x8_1 < (l0.length : Int)) = true := decide_eq_true c2
        clear c2
        by_cases c3 : 0 ≤ x8_1
        · rw [if_pos c3] at H
          have c3b0 : decide (0 ≤ x8_1) = true := decide_eq_true c3
          clear c3
          by_cases c4 : x8_1 < (l0.length : Int)
          · rw [if_pos c4] at H
            have c4b0 : decide (x8_1 < (l0.length : Int)) = true := decide_eq_true c4
            clear c4
            by_cases c5 : (rd l0 x8_1) = 0
            · rw [if_pos c5] at H
              have c5b0 : ((rd l0 x8_1) == 0) = true := beq_iff_eq.mpr c5
              have c5b1 : ((rd l0 x8_1) != 0) = false := bne_eq_false_iff_eq.mpr c5
              clear c5
              have H' := Aside0.mk H
              clear H
              have p103 : 0 ≤ (x8_1 : Int) := of_decide_eq_true (by first | (with_reducible assumption) | assumption)
              have q103 : x8_1 < (l0.length : Int) := of_decide_eq_true (by first | (with_reducible assumption) | assumption)
              obtain ⟨ad103, e103, hx103_0⟩ := Kd.at_int HR0.out x8_1 p103 q103
              cases e103
              replace p103 := eq_true p103
              replace q103 := eq_true q103
              go_wp2
              go_roundg k1
              case measure => have := HK1.out; omega
              case rel => exact ⟨(wrap64 (x8_1 + 1)), (by first | rfl | (simp; done) | (simp [*]; done) | (simp [wrap64]; done)), H', ⟨by have := HK1.out; omega⟩, by repeat (first | exact Drawn0.refl _ | apply Drawn0.step)⟩
            · rw [if_neg c5] at H
              have c5b0 : ((rd l0 x8_1) == 0) = false := beq_eq_false_iff_ne.mpr c5
              have c5b1 : ((rd l0 x8_1) != 0) = true := bne_iff_ne.mpr c5
              obtain rfl := Option.some.inj H
              have p103 : 0 ≤ (x8_1 : Int) := of_decide_eq_true (by first | (with_reducible assumption) | assumption)
              have q103 : x8_1 < (l0.length : Int) := of_decide_eq_true (by first | (with_reducible assumption) | assumption)
              obtain ⟨ad103, e103, hx103_0⟩ := Kd.at_int HR0.out x8_1 p103 q103
              cases e103
              replace p103 := eq_true p103
              replace q103 := eq_true q103
              go_wp2
              go_ret
              try simp only [beq_nil_isEmpty, bytesLess_gtr]
              exact ⟨by first | rfl | (simp; done) | (simp [*]; done), by repeat (first | exact Drawn0.refl _ | apply Drawn0.step)⟩
          · rw [if_neg c4] at H
            exact absurd H (by simp)
        · rw [if_neg c3] at H
          exact absurd H (by simp)
      · rw [if_neg c2] at H
        have c2b0 : decide (x8_1 < (l0.length : Int)) = false := decide_eq_false c2
        clear c2
        obtain rfl := Option.some.inj H
        go_wp2
        go_ret
        try simp only [beq_nil_isEmpty, bytesLess_gtr]
        exact ⟨by first | rfl | (simp; done) | (simp [*]; done), by repeat (first | exact Drawn0.refl _ | apply Drawn0.step)⟩
def num_Num_side.f (a0_0 : Bool) (a0_1 : ByteArray) (a0_2 : Int) : Option (Int) := if a0_1.toList = ([] : List UInt8) then (some 0) else (if a0_0 = true then (some (-1)) else (some 1))
set_option maxHeartbeats 8000000 in
set_option maxRecDepth 100000 in
theorem num_Num_side.calls (a0_0 : Bool) (a0_1 : ByteArray) (a0_2 : Int) (r : Int) (w : World) (h : num_Num_side.f a0_0 a0_1 a0_2 = some r) :
    Calls Tryz.prog 81 #[.agg #[.bool a0_0, .string a0_1, .int .i64 a0_2]] w fun e w' => e = .returned (.int .i64 r) ∧ Below w.heap.size w w' := by
  have hu24 := Tryz.underlying24
  have HB := Aside0.mk (Below.refl w.heap.size w)
  have H : (if a0_1.toList = ([] : List UInt8) then (some 0) else (if a0_0 = true then (some (-1)) else (some 1))) = some r := h
  clear h
  by_cases c2 : a0_1.toList = ([] : List UInt8)
  · rw [if_pos c2] at H
    have c2b0 : (a0_1.toList == ([] : List UInt8)) = true := beq_iff_eq.mpr c2
    have c2b7 : a0_1.toList.isEmpty = true := by rw [← beq_nil_isEmpty]; exact c2b0
    have c2b1 : (a0_1.toList != ([] : List UInt8)) = false := bne_eq_false_iff_eq.mpr c2
    clear c2
    obtain rfl := Option.some.inj H
    go_enter Tryz.func81, Tryz.ntmps81
    go_wp2_with (first | ((with_reducible refine gate_dst (N := 1) rfl ?_); refine box_event ?hg (N := 1) ?hd (cs := #[.bool a0_0, .string a0_1, .int .i64 a0_2]) (t := 24) ?hr ?_; (case hd => rfl); (case hg => rfl); (case hr => first | (go_simp; done) | (go_simp; rfl)); intro gb104 hg w3 hbox hb; have n0_ := Aside0.mk (below_step (by repeat (first | (with_reducible first | exact HB.out | apply below_alloc | apply pw_below_drewN | apply below_drew1) | exact HB.out)) hb); have n1_ := Aside0.mk (hbox); have n2_ := Aside0.mk ((by rw [hg]; exact (below_size (by repeat (first | (with_reducible first | exact HB.out | apply below_alloc | apply pw_below_drewN | apply below_drew1) | exact HB.out))) : w.heap.size ≤ gb104)); have n3_ := Aside0.mk ((by rw [hg]; exact (below_size (by repeat (first | (with_reducible first | exact HB.out | apply below_alloc | apply pw_below_drewN | apply below_drew1) | exact HB.out))) : w.heap.size ≤ gb104)); clear HB; have HB := n0_; have BK104 := n1_; have GW104 := n2_; have GE104 := n3_; clear n0_ n1_ n2_ n3_; clear hb hbox hg; have hcz4_0 : w3.cell? ⟨gb104, 0, none⟩ = some (.bool a0_0) := (blk_cell BK104.out 0).trans rfl; have hcz4_1 : w3.cell? ⟨gb104, 1, none⟩ = some (.string a0_1) := (blk_cell BK104.out 1).trans rfl; have hcz4_2 : w3.cell? ⟨gb104, 2, none⟩ = some (.int .i64 a0_2) := (blk_cell BK104.out 2).trans rfl; have hfz4_0 := blk_frozen BK104.out 0; have hfz4_1 := blk_frozen BK104.out 1; have hfz4_2 := blk_frozen BK104.out 2))
    go_ret
    try simp only [beq_nil_isEmpty, bytesLess_gtr]
    exact ⟨by first | rfl | (simp [errW_none, errW_some] <;> rfl) | (simp [*, errW_none, errW_some] <;> rfl), by repeat (first | (with_reducible first | exact HB.out | apply below_alloc | apply pw_below_drewN | apply below_drew1 | refine below_set ?_ GE104.out) | exact HB.out)⟩
  · rw [if_neg c2] at H
    have c2b0 : (a0_1.toList == ([] : List UInt8)) = false := beq_eq_false_iff_ne.mpr c2
    have c2b7 : a0_1.toList.isEmpty = false := by rw [← beq_nil_isEmpty]; exact c2b0
    have c2b1 : (a0_1.toList != ([] : List UInt8)) = true := bne_iff_ne.mpr c2
    by_cases c5 : a0_0 = true
    · subst c5
      have H1 : (some (-1)) = some r := by rw [if_pos rfl] at H; exact H
      clear H
      have H := H1
      clear H1
      obtain rfl := Option.some.inj H
      go_enter Tryz.func81, Tryz.ntmps81
      go_wp2_with (first | ((with_reducible refine gate_dst (N := 1) rfl ?_); refine box_event ?hg (N := 1) ?hd (cs := #[.bool true, .string a0_1, .int .i64 a0_2]) (t := 24) ?hr ?_; (case hd => rfl); (case hg => rfl); (case hr => first | (go_simp; done) | (go_simp; rfl)); intro gb104 hg w6 hbox hb; have n0_ := Aside0.mk (below_step (by repeat (first | (with_reducible first | exact HB.out | apply below_alloc | apply pw_below_drewN | apply below_drew1) | exact HB.out)) hb); have n1_ := Aside0.mk (hbox); have n2_ := Aside0.mk ((by rw [hg]; exact (below_size (by repeat (first | (with_reducible first | exact HB.out | apply below_alloc | apply pw_below_drewN | apply below_drew1) | exact HB.out))) : w.heap.size ≤ gb104)); have n3_ := Aside0.mk ((by rw [hg]; exact (below_size (by repeat (first | (with_reducible first | exact HB.out | apply below_alloc | apply pw_below_drewN | apply below_drew1) | exact HB.out))) : w.heap.size ≤ gb104)); clear HB; have HB := n0_; have BK104 := n1_; have GW104 := n2_; have GE104 := n3_; clear n0_ n1_ n2_ n3_; clear hb hbox hg; have hcz7_0 : w6.cell? ⟨gb104, 0, none⟩ = some (.bool true) := (blk_cell BK104.out 0).trans rfl; have hcz7_1 : w6.cell? ⟨gb104, 1, none⟩ = some (.string a0_1) := (blk_cell BK104.out 1).trans rfl; have hcz7_2 : w6.cell? ⟨gb104, 2, none⟩ = some (.int .i64 a0_2) := (blk_cell BK104.out 2).trans rfl; have hfz7_0 := blk_frozen BK104.out 0; have hfz7_1 := blk_frozen BK104.out 1; have hfz7_2 := blk_frozen BK104.out 2))
      go_ret
      try simp only [beq_nil_isEmpty, bytesLess_gtr]
      exact ⟨by first | rfl | (simp [errW_none, errW_some] <;> rfl) | (simp [*, errW_none, errW_some] <;> rfl), by repeat (first | (with_reducible first | exact HB.out | apply below_alloc | apply pw_below_drewN | apply below_drew1 | refine below_set ?_ GE104.out) | exact HB.out)⟩
    · replace c5 := Bool.eq_false_iff.mpr c5
      subst c5
      have H1 : (some 1) = some r := by rw [if_neg (show ¬ (false = true) by decide)] at H; exact H
      clear H
      have H := H1
      clear H1
      obtain rfl := Option.some.inj H
      go_enter Tryz.func81, Tryz.ntmps81
      go_wp2_with (first | ((with_reducible refine gate_dst (N := 1) rfl ?_); refine box_event ?hg (N := 1) ?hd (cs := #[.bool false, .string a0_1, .int .i64 a0_2]) (t := 24) ?hr ?_; (case hd => rfl); (case hg => rfl); (case hr => first | (go_simp; done) | (go_simp; rfl)); intro gb104 hg w8 hbox hb; have n0_ := Aside0.mk (below_step (by repeat (first | (with_reducible first | exact HB.out | apply below_alloc | apply pw_below_drewN | apply below_drew1) | exact HB.out)) hb); have n1_ := Aside0.mk (hbox); have n2_ := Aside0.mk ((by rw [hg]; exact (below_size (by repeat (first | (with_reducible first | exact HB.out | apply below_alloc | apply pw_below_drewN | apply below_drew1) | exact HB.out))) : w.heap.size ≤ gb104)); have n3_ := Aside0.mk ((by rw [hg]; exact (below_size (by repeat (first | (with_reducible first | exact HB.out | apply below_alloc | apply pw_below_drewN | apply below_drew1) | exact HB.out))) : w.heap.size ≤ gb104)); clear HB; have HB := n0_; have BK104 := n1_; have GW104 := n2_; have GE104 := n3_; clear n0_ n1_ n2_ n3_; clear hb hbox hg; have hcz9_0 : w8.cell? ⟨gb104, 0, none⟩ = some (.bool false) := (blk_cell BK104.out 0).trans rfl; have hcz9_1 : w8.cell? ⟨gb104, 1, none⟩ = some (.string a0_1) := (blk_cell BK104.out 1).trans rfl; have hcz9_2 : w8.cell? ⟨gb104, 2, none⟩ = some (.int .i64 a0_2) := (blk_cell BK104.out 2).trans rfl; have hfz9_0 := blk_frozen BK104.out 0; have hfz9_1 := blk_frozen BK104.out 1; have hfz9_2 := blk_frozen BK104.out 2))
      go_ret
      try simp only [beq_nil_isEmpty, bytesLess_gtr]
      exact ⟨by first | rfl | (simp [errW_none, errW_some] <;> rfl) | (simp [*, errW_none, errW_some] <;> rfl), by repeat (first | (with_reducible first | exact HB.out | apply below_alloc | apply pw_below_drewN | apply below_drew1 | refine below_set ?_ GE104.out) | exact HB.out)⟩
def num_Compare.j0 : Nat → Int → Bool → Bool → ByteArray → Int → Bool → ByteArray → Int → Option (Int)
  | 0, _, _, _, _, _, _, _, _ => none
  | k + 1, x5, x18, x106000, x106001, x106002, x107000, x107001, x107002 => if x18 = true then (some x5) else ((cmp_Compare_int.f (wrap64 ((x106001.size : Int) + x106002)) (wrap64 ((x107001.size : Int) + x107002))).bind fun t111 => ((num_Num_side.f x106000 x106001 x106002).bind fun t112 => ((strings_Compare.f x106001 x107001).bind fun t113 => ((cmp_Or_int.f k (([t111, t113] : List Int))).bind fun t117 => (some (wrap64 (t112 * t117)))))))
def num_Compare.f (k : Nat) (a0_0 : Bool) (a0_1 : ByteArray) (a0_2 : Int) (a1_0 : Bool) (a1_1 : ByteArray) (a1_2 : Int) : Option (Int) := (num_Num_side.f a0_0 a0_1 a0_2).bind fun t107 => ((num_Num_side.f a1_0 a1_1 a1_2).bind fun t108 => ((cmp_Compare_int.f t107 t108).bind fun t109 => (if t109 = 0 then ((num_Num_side.f a0_0 a0_1 a0_2).bind fun t110 => (num_Compare.j0 k t109 (t110 == 0) a0_0 a0_1 a0_2 a1_0 a1_1 a1_2)) else (num_Compare.j0 k t109 true a0_0 a0_1 a0_2 a1_0 a1_1 a1_2))))
theorem num_Compare.mono_l : ∀ k, (∀ y0 y1 y2 y3 y4 y5 y6 y7, LeO (num_Compare.j0 k y0 y1 y2 y3 y4 y5 y6 y7) (num_Compare.j0 (k + 1) y0 y1 y2 y3 y4 y5 y6 y7))
  | 0 => fun _ _ _ _ _ _ _ _ r h => by simp [num_Compare.j0] at h
  | k + 1 => by
    have ih0 := num_Compare.mono_l k
    · intro y0 y1 y2 y3 y4 y5 y6 y7
      unfold num_Compare.j0
      repeat' first
      | (with_reducible exact ih0 _ _ _ _ _ _ _ _)
      | (with_reducible exact cmp_Or_int.mono _ _)
      | (with_reducible exact LeO.refl _)
      | (with_reducible exact LeO.none _)
      | (with_reducible refine LeO.ite ?_ ?_)
      | (with_reducible refine LeO.bind ?_ (fun _ => ?_))
      | exact ih0 _ _ _ _ _ _ _ _
      | exact cmp_Or_int.mono _ _
      | exact LeO.none _
      | refine LeO.ite ?_ ?_
      | refine LeO.bind ?_ (fun _ => ?_)
theorem num_Compare.mono : ∀ a0 a1 a2 a3 a4 a5 k, LeO (num_Compare.f k a0 a1 a2 a3 a4 a5) (num_Compare.f (k + 1) a0 a1 a2 a3 a4 a5) := by
  intro a0 a1 a2 a3 a4 a5 k
  have ih0 := num_Compare.mono_l k
  unfold num_Compare.f
  repeat' first
      | (with_reducible exact ih0 _ _ _ _ _ _ _ _)
      | (with_reducible exact cmp_Or_int.mono _ _)
      | (with_reducible exact LeO.refl _)
      | (with_reducible exact LeO.none _)
      | (with_reducible refine LeO.ite ?_ ?_)
      | (with_reducible refine LeO.bind ?_ (fun _ => ?_))
      | exact ih0 _ _ _ _ _ _ _ _
      | exact cmp_Or_int.mono _ _
      | exact LeO.none _
      | refine LeO.ite ?_ ?_
      | refine LeO.bind ?_ (fun _ => ?_)
def num_Compare.T5 : Bool × List (List Nat × List Nat) := (true, [([], []), ([0], [0]), ([], []), ([], []), ([3], [3]), ([], []), ([5], [5]), ([4, 6, 1], [4, 6]), ([2, 7], [2, 7]), ([8, 7], [8]), ([1, 9], [1, 9]), ([10, 9, 0, 1, 2, 3, 4, 5, 6, 7, 8, 9, 10], [10])])
def num_Compare.B5 : List Nat := [0, 1, 0, 0, 8, 0, 32, 123, 255, 511, 1023, 2047]
theorem num_Compare.tab5 : rtab .any (opsOf Tryz.f52 5) = num_Compare.T5 := by kernel_rfl
theorem num_Compare.bits5 : waitsOk num_Compare.T5.2 num_Compare.B5 = true := by kernel_rfl
set_option maxHeartbeats 8000000 in
set_option maxRecDepth 100000 in
theorem num_Compare.calls (k : Nat) (a0_0 : Bool) (a0_1 : ByteArray) (a0_2 : Int) (a1_0 : Bool) (a1_1 : ByteArray) (a1_2 : Int) (r : Int) (w : World) (h : num_Compare.f k a0_0 a0_1 a0_2 a1_0 a1_1 a1_2 = some r) :
    Calls Tryz.prog 52 #[.agg #[.bool a0_0, .string a0_1, .int .i64 a0_2], .agg #[.bool a1_0, .string a1_1, .int .i64 a1_2]] w fun e w' => e = .returned (.int .i64 r) ∧ Below w.heap.size w w' := by
  have hu24 := Tryz.underlying24
  have HB := Aside0.mk (Below.refl w.heap.size w)
  have H : ((num_Num_side.f a0_0 a0_1 a0_2).bind fun t107 => ((num_Num_side.f a1_0 a1_1 a1_2).bind fun t108 => ((cmp_Compare_int.f t107 t108).bind fun t109 => (if t109 = 0 then ((num_Num_side.f a0_0 a0_1 a0_2).bind fun t110 => (num_Compare.j0 k t109 (t110 == 0) a0_0 a0_1 a0_2 a1_0 a1_1 a1_2)) else (num_Compare.j0 k t109 true a0_0 a0_1 a0_2 a1_0 a1_1 a1_2))))) = some r := h
  clear h
  replace H := Option.bind_eq_some_iff.mp H
  obtain ⟨t107, A30, H⟩ := H
  replace H : ((num_Num_side.f a1_0 a1_1 a1_2).bind fun t108 => ((cmp_Compare_int.f t107 t108).bind fun t109 => (if t109 = 0 then ((num_Num_side.f a0_0 a0_1 a0_2).bind fun t110 => (num_Compare.j0 k t109 (t110 == 0) a0_0 a0_1 a0_2 a1_0 a1_1 a1_2)) else (num_Compare.j0 k t109 true a0_0 a0_1 a0_2 a1_0 a1_1 a1_2)))) = some r := H
  have A3 := Aside0.mk A30
  clear A30
  replace H := Option.bind_eq_some_iff.mp H
  obtain ⟨t108, A40, H⟩ := H
  replace H : ((cmp_Compare_int.f t107 t108).bind fun t109 => (if t109 = 0 then ((num_Num_side.f a0_0 a0_1 a0_2).bind fun t110 => (num_Compare.j0 k t109 (t110 == 0) a0_0 a0_1 a0_2 a1_0 a1_1 a1_2)) else (num_Compare.j0 k t109 true a0_0 a0_1 a0_2 a1_0 a1_1 a1_2))) = some r := H
  have A4 := Aside0.mk A40
  clear A40
  replace H := Option.bind_eq_some_iff.mp H
  obtain ⟨t109, A50, H⟩ := H
  replace H : (if t109 = 0 then ((num_Num_side.f a0_0 a0_1 a0_2).bind fun t110 => (num_Compare.j0 k t109 (t110 == 0) a0_0 a0_1 a0_2 a1_0 a1_1 a1_2)) else (num_Compare.j0 k t109 true a0_0 a0_1 a0_2 a1_0 a1_1 a1_2)) = some r := H
  have A5 := Aside0.mk A50
  clear A50
  have HC6 := Aside0.mk H
  clear H
  go_enter Tryz.func52, Tryz.ntmps52
  try go_wp2_with (first | ((with_reducible refine gate_dst (N := 2) rfl ?_); refine box_event ?hg (N := 2) ?hd (cs := #[.bool a0_0, .string a0_1, .int .i64 a0_2]) (t := 24) ?hr ?_; (case hd => rfl); (case hg => rfl); (case hr => first | (go_simp; done) | (go_simp; rfl)); intro gb105 hg w7 hbox hb; have n0_ := Aside0.mk (below_step (by repeat (first | (with_reducible first | exact HB.out | apply below_alloc | apply pw_below_drewN | apply below_drew1) | exact HB.out)) hb); have n1_ := Aside0.mk (hbox); have n2_ := Aside0.mk ((by rw [hg]; exact (below_size (by repeat (first | (with_reducible first | exact HB.out | apply below_alloc | apply pw_below_drewN | apply below_drew1) | exact HB.out))) : w.heap.size ≤ gb105)); have n3_ := Aside0.mk ((by rw [hg]; exact (below_size (by repeat (first | (with_reducible first | exact HB.out | apply below_alloc | apply pw_below_drewN | apply below_drew1) | exact HB.out))) : w.heap.size ≤ gb105)); clear HB; have HB := n0_; have BK105 := n1_; have GW105 := n2_; have GE105 := n3_; clear n0_ n1_ n2_ n3_; clear hb hbox hg) | ((with_reducible refine gate_dst (N := 3) rfl ?_); refine box_event ?hg (N := 3) ?hd (cs := #[.bool a1_0, .string a1_1, .int .i64 a1_2]) (t := 24) ?hr ?_; (case hd => rfl); (case hg => rfl); (case hr => first | (go_simp; done) | (go_simp; rfl)); intro gb106 hg w8 hbox hb; have n0_ := Aside0.mk (blk_below (g := gb105) (o := .cells #[.bool a0_0, .string a0_1, .int .i64 a0_2] 24 (0, 0)) (by (with_reducible repeat (first | refine blk_drewN ?_ _ | refine blk_drew ?_ | refine blk_alloc ?_ _)); exact BK105.out) hb); have n1_ := Aside0.mk (below_step (by repeat (first | (with_reducible first | exact HB.out | apply below_alloc | apply pw_below_drewN | apply below_drew1 | refine below_set ?_ GE105.out) | exact HB.out)) hb); have n2_ := Aside0.mk (hbox); have n3_ := Aside0.mk ((by rw [hg]; exact (below_size (by repeat (first | (with_reducible first | exact HB.out | apply below_alloc | apply pw_below_drewN | apply below_drew1 | refine below_set ?_ GE105.out) | exact HB.out))) : w.heap.size ≤ gb106)); have n4_ := Aside0.mk ((by rw [hg]; exact (below_size (by repeat (first | (with_reducible first | exact HB.out | apply below_alloc | apply pw_below_drewN | apply below_drew1 | refine below_set ?_ GE105.out) | exact HB.out))) : w.heap.size ≤ gb106)); have n5_ := Aside0.mk ((by rw [hg]; exact Nat.ne_of_lt (blk_lt (g := gb105) (o := .cells #[.bool a0_0, .string a0_1, .int .i64 a0_2] 24 (0, 0)) (by (with_reducible repeat (first | refine blk_drewN ?_ _ | refine blk_drew ?_ | refine blk_alloc ?_ _)); exact BK105.out)) : gb105 ≠ gb106)); have n6_ := Aside0.mk ((by rw [hg]; exact Nat.ne_of_gt (blk_lt (g := gb105) (o := .cells #[.bool a0_0, .string a0_1, .int .i64 a0_2] 24 (0, 0)) (by (with_reducible repeat (first | refine blk_drewN ?_ _ | refine blk_drew ?_ | refine blk_alloc ?_ _)); exact BK105.out)) : gb106 ≠ gb105)); clear BK105; clear HB; have BK105 := n0_; have HB := n1_; have BK106 := n2_; have GW106 := n3_; have GE106 := n4_; have NB105_106 := n5_; have NB106_105 := n6_; clear n0_ n1_ n2_ n3_ n4_ n5_ n6_; clear hb hbox hg))
  have n0_ := Aside0.mk (blk_drew BK105.out)
  have n1_ := Aside0.mk (blk_drew BK106.out)
  have n2_ := Aside0.mk (below_drew1 HB.out)
  clear BK105
  clear BK106
  clear HB
  have BK105 := n0_
  have BK106 := n1_
  have HB := n2_
  clear n0_ n1_ n2_
  refine start_ (n := 6) (S := fun w' => w'.cell? ⟨gb105, 0, none⟩ = some (.bool a0_0) ∧ w'.cell? ⟨gb105, 1, none⟩ = some (.string a0_1) ∧ w'.cell? ⟨gb105, 2, none⟩ = some (.int .i64 a0_2) ∧ w'.cell? ⟨gb106, 0, none⟩ = some (.bool a1_0) ∧ w'.cell? ⟨gb106, 1, none⟩ = some (.string a1_1) ∧ w'.cell? ⟨gb106, 2, none⟩ = some (.int .i64 a1_2)) (ds := []) #[false, false, false, false, false, false] (by kernel_rfl) rfl rfl ⟨(blk_cell BK105.out 0).trans rfl, (blk_cell BK105.out 1).trans rfl, (blk_cell BK105.out 2).trans rfl, (blk_cell BK106.out 0).trans rfl, (blk_cell BK106.out 1).trans rfl, (blk_cell BK106.out 2).trans rfl⟩ (fun hHeld => ?_)
  generalize w8.drew = w9 at BK105 BK106 HB hHeld ⊢
  refine take_ (i := 0) (N := some 7) (v := ?_) (a' := ?_) #[true, false, false, false, false, false] rfl rfl (by kernel_rfl) (fun _ _ _ h => h) (Or.inl ⟨by rfl, ?_⟩) hHeld ?_ ?_
  rotate_left
  · rintro w' ⟨s0, s1, s2, s3, s4, s5⟩
    go_simp
    with_reducible rfl
  rotate_left
  · simp only [Act.put, List.setIfInBounds_toArray, List.set_cons_zero, List.set_cons_succ, i64_w, i32_w]
    rfl
  refine take_ (i := 2) (N := some 9) (v := ?_) (a' := ?_) #[true, false, true, false, false, false] rfl rfl (by kernel_rfl) (fun _ _ _ h => h) (Or.inl ⟨by rfl, ?_⟩) hHeld ?_ ?_
  rotate_left
  · rintro w' ⟨s0, s1, s2, s3, s4, s5⟩
    go_simp
    with_reducible rfl
  rotate_left
  · simp only [Act.put, List.setIfInBounds_toArray, List.set_cons_zero, List.set_cons_succ, i64_w, i32_w]
    rfl
  refine one_ (i := 1) (N := some 8) #[true, true, true, false, false, false] rfl rfl (by kernel_rfl) (by decide) (fun K hK => ?_)
  refine goes_ Tryz.func81 (by kernel_rfl) rfl #[.agg #[.bool a0_0, .string a0_1, .int .i64 a0_2]] (by rfl) rfl rfl (by (try simp only [List.map_toArray, List.map_cons, List.map_nil]); first | done | rfl | (simp only [List.length_drop, List.length_take]; rfl)) ?_
  with_reducible refine (num_Num_side.calls a0_0 a0_1 a0_2 t107 _ A3.out).mono ?_
  rintro e w10 ⟨rfl, hb⟩
  refine ⟨_, rfl, ?_⟩
  have n0_ := Aside0.mk (blk_below (g := gb105) (o := .cells #[.bool a0_0, .string a0_1, .int .i64 a0_2] 24 (0, 0)) (by (with_reducible repeat (first | refine blk_drewN ?_ _ | refine blk_drew ?_ | refine blk_alloc ?_ _)); exact BK105.out) hb)
  have n1_ := Aside0.mk (blk_below (g := gb106) (o := .cells #[.bool a1_0, .string a1_1, .int .i64 a1_2] 24 (0, 0)) (by (with_reducible repeat (first | refine blk_drewN ?_ _ | refine blk_drew ?_ | refine blk_alloc ?_ _)); exact BK106.out) hb)
  have n2_ := Aside0.mk (below_step (by repeat (first | (with_reducible first | exact HB.out | apply below_alloc | apply pw_below_drewN | apply below_drew1 | refine below_set ?_ GE105.out | refine below_set ?_ GE106.out) | exact HB.out)) hb)
  clear BK105
  clear BK106
  clear HB
  have BK105 := n0_
  have BK106 := n1_
  have HB := n2_
  clear n0_ n1_ n2_
  (try clear hb)
  (try clear hb2)
  (try clear hk)
  (try clear hi)
  refine hK.out _ _ ⟨(blk_cell BK105.out 0).trans rfl, (blk_cell BK105.out 1).trans rfl, (blk_cell BK105.out 2).trans rfl, (blk_cell BK106.out 0).trans rfl, (blk_cell BK106.out 1).trans rfl, (blk_cell BK106.out 2).trans rfl⟩ (fun hHeld => ?_)
  clear hK K
  refine norm_ (a' := ?_) ?_ ?_
  rotate_left
  · show Act.put _ (some 8) _ = _
    simp only [Act.put, List.setIfInBounds_toArray, List.set_cons_zero, List.set_cons_succ, i64_w, i32_w]
    rfl
  refine one_ (i := 3) (N := some 10) #[true, true, true, true, false, false] rfl rfl (by kernel_rfl) (by decide) (fun K hK => ?_)
  refine goes_ Tryz.func81 (by kernel_rfl) rfl #[.agg #[.bool a1_0, .string a1_1, .int .i64 a1_2]] (by rfl) rfl rfl (by (try simp only [List.map_toArray, List.map_cons, List.map_nil]); first | done | rfl | (simp only [List.length_drop, List.length_take]; rfl)) ?_
  with_reducible refine (num_Num_side.calls a1_0 a1_1 a1_2 t108 _ A4.out).mono ?_
  rintro e w11 ⟨rfl, hb⟩
  refine ⟨_, rfl, ?_⟩
  have n0_ := Aside0.mk (blk_below (g := gb105) (o := .cells #[.bool a0_0, .string a0_1, .int .i64 a0_2] 24 (0, 0)) (by (with_reducible repeat (first | refine blk_drewN ?_ _ | refine blk_drew ?_ | refine blk_alloc ?_ _)); exact BK105.out) hb)
  have n1_ := Aside0.mk (blk_below (g := gb106) (o := .cells #[.bool a1_0, .string a1_1, .int .i64 a1_2] 24 (0, 0)) (by (with_reducible repeat (first | refine blk_drewN ?_ _ | refine blk_drew ?_ | refine blk_alloc ?_ _)); exact BK106.out) hb)
  have n2_ := Aside0.mk (below_step (by repeat (first | (with_reducible first | exact HB.out | apply below_alloc | apply pw_below_drewN | apply below_drew1 | refine below_set ?_ GE105.out | refine below_set ?_ GE106.out) | exact HB.out)) hb)
  clear BK105
  clear BK106
  clear HB
  have BK105 := n0_
  have BK106 := n1_
  have HB := n2_
  clear n0_ n1_ n2_
  (try clear hb)
  (try clear hb2)
  (try clear hk)
  (try clear hi)
  refine hK.out _ _ ⟨(blk_cell BK105.out 0).trans rfl, (blk_cell BK105.out 1).trans rfl, (blk_cell BK105.out 2).trans rfl, (blk_cell BK106.out 0).trans rfl, (blk_cell BK106.out 1).trans rfl, (blk_cell BK106.out 2).trans rfl⟩ (fun hHeld => ?_)
  clear hK K
  refine norm_ (a' := ?_) ?_ ?_
  rotate_left
  · show Act.put _ (some 10) _ = _
    simp only [Act.put, List.setIfInBounds_toArray, List.set_cons_zero, List.set_cons_succ, i64_w, i32_w]
    rfl
  refine one_ (i := 4) (N := some 11) #[true, true, true, true, true, false] rfl rfl (by kernel_rfl) (by decide) (fun K hK => ?_)
  refine goes_ Tryz.func50 (by kernel_rfl) rfl #[.int .i64 t107, .int .i64 t108] (by rfl) rfl rfl (by (try simp only [List.map_toArray, List.map_cons, List.map_nil]); first | done | rfl | (simp only [List.length_drop, List.length_take]; rfl)) ?_
  with_reducible refine (cmp_Compare_int.calls t107 t108 t109 _ A5.out).mono ?_
  rintro e w' ⟨rfl, ⟨nd, rfl⟩⟩
  refine ⟨_, rfl, ?_⟩
  refine hK.out _ _ ⟨(blk_cell BK105.out 0).trans rfl, (blk_cell BK105.out 1).trans rfl, (blk_cell BK105.out 2).trans rfl, (blk_cell BK106.out 0).trans rfl, (blk_cell BK106.out 1).trans rfl, (blk_cell BK106.out 2).trans rfl⟩ (fun hHeld => ?_)
  clear hK K
  refine norm_ (a' := ?_) ?_ ?_
  rotate_left
  · show Act.put _ (some 11) _ = _
    simp only [Act.put, List.setIfInBounds_toArray, List.set_cons_zero, List.set_cons_succ, i64_w, i32_w]
    rfl
  refine pure_ (i := 5) (N := some 5) (v := ?_) (a' := ?_) #[true, true, true, true, true, true] rfl rfl (by kernel_rfl) (fun _ _ _ h => h) (Or.inl ⟨by rfl, ?_⟩) ?_ ?_
  rotate_left
  · intro w'
    go_simp
    with_reducible rfl
  rotate_left
  · simp only [Act.put, List.setIfInBounds_toArray, List.set_cons_zero, List.set_cons_succ, i64_w, i32_w]
    rfl
  refine done_ (by kernel_rfl) ?_
  go_upto_region 2 with (fail)
  go_cut [18] (fun v18 wc => ∃ (kq : Nat) (x18_5 : Bool), v18 = .bool x18_5 ∧ Aside0 (num_Compare.j0 kq t109 x18_5 a0_0 a0_1 a0_2 a1_0 a1_1 a1_2 = some r) ∧ Aside0 (kq ≤ k) ∧ Aside0 (wc.heap[gb105]? = some (.cells #[.bool a0_0, .string a0_1, .int .i64 a0_2] 24 (0, 0))) ∧ Aside0 (wc.heap[gb106]? = some (.cells #[.bool a1_0, .string a1_1, .int .i64 a1_2] 24 (0, 0))) ∧ Aside0 (Below w.heap.size w wc))
  case first =>
    have H := HC6.out
    clear HC6
    by_cases c12 : t109 = 0
    · rw [if_pos c12] at H
      have c12b0 : (t109 == 0) = true := beq_iff_eq.mpr c12
      have c12b1 : (t109 != 0) = false := bne_eq_false_iff_eq.mpr c12
      clear c12
      (first | rw [c12b0] | (simp only [i64_w, i32_w]; rw [c12b0]) | skip)
      replace H := Option.bind_eq_some_iff.mp H
      obtain ⟨t110, A130, H⟩ := H
      replace H : (num_Compare.j0 k t109 (t110 == 0) a0_0 a0_1 a0_2 a1_0 a1_1 a1_2) = some r := H
      have A13 := Aside0.mk A130
      clear A130
      have H' := Aside0.mk H
      clear H
      have hnb14 := NB105_106.out
      have hnc14 := NB106_105.out
      have hcz15_0 : w11.cell? ⟨gb105, 0, none⟩ = some (.bool a0_0) := (blk_cell BK105.out 0).trans rfl
      have hcz15_1 : w11.cell? ⟨gb105, 1, none⟩ = some (.string a0_1) := (blk_cell BK105.out 1).trans rfl
      have hcz15_2 : w11.cell? ⟨gb105, 2, none⟩ = some (.int .i64 a0_2) := (blk_cell BK105.out 2).trans rfl
      have hfz15_0 := blk_frozen BK105.out 0
      have hfz15_1 := blk_frozen BK105.out 1
      have hfz15_2 := blk_frozen BK105.out 2
      go_wp2_with (first | (go_at_call 81; (with_reducible refine (num_Num_side.calls a0_0 a0_1 a0_2 t110 _ A13.out).mono ?_); rintro e w16 ⟨rfl, hb⟩; have n0_ := Aside0.mk (blk_below (g := gb105) (o := .cells #[.bool a0_0, .string a0_1, .int .i64 a0_2] 24 (0, 0)) (by (with_reducible repeat (first | refine blk_drewN ?_ _ | refine blk_drew ?_ | refine blk_alloc ?_ _)); exact BK105.out) hb); have n1_ := Aside0.mk (blk_below (g := gb106) (o := .cells #[.bool a1_0, .string a1_1, .int .i64 a1_2] 24 (0, 0)) (by (with_reducible repeat (first | refine blk_drewN ?_ _ | refine blk_drew ?_ | refine blk_alloc ?_ _)); exact BK106.out) hb); have n2_ := Aside0.mk (below_step (by repeat (first | (with_reducible first | exact HB.out | apply below_alloc | apply pw_below_drewN | apply below_drew1 | refine below_set ?_ GE105.out | refine below_set ?_ GE106.out) | exact HB.out)) hb); clear BK105; clear BK106; clear HB; have BK105 := n0_; have BK106 := n1_; have HB := n2_; clear n0_ n1_ n2_; (try clear hb); (try clear hb2); (try clear hk); (try clear hi)))
      go_meet
      case rel => exact ⟨_, ((t110 == 0)), (by first | rfl | (simp; done) | (simp [*]; done) | (simp [wrap64]; done)), H', ⟨by first | omega | exact Nat.le_refl _⟩, ⟨by (with_reducible repeat (first | refine blk_drewN ?_ _ | refine blk_drew ?_ | refine blk_alloc ?_ _)); exact BK105.out⟩, ⟨by (with_reducible repeat (first | refine blk_drewN ?_ _ | refine blk_drew ?_ | refine blk_alloc ?_ _)); exact BK106.out⟩, ⟨by repeat (first | (with_reducible first | exact HB.out | apply below_alloc | apply pw_below_drewN | apply below_drew1 | refine below_set ?_ GE105.out | refine below_set ?_ GE106.out) | exact HB.out)⟩⟩
    · rw [if_neg c12] at H
      have c12b0 : (t109 == 0) = false := beq_eq_false_iff_ne.mpr c12
      have c12b1 : (t109 != 0) = true := bne_iff_ne.mpr c12
      (first | rw [c12b0] | (simp only [i64_w, i32_w]; rw [c12b0]) | skip)
      have H' := Aside0.mk H
      clear H
      go_wp2
      go_meet
      case rel => exact ⟨_, (true), (by first | rfl | (simp; done) | (simp [*]; done) | (simp [wrap64]; done)), H', ⟨by first | omega | exact Nat.le_refl _⟩, ⟨by (with_reducible repeat (first | refine blk_drewN ?_ _ | refine blk_drew ?_ | refine blk_alloc ?_ _)); exact BK105.out⟩, ⟨by (with_reducible repeat (first | refine blk_drewN ?_ _ | refine blk_drew ?_ | refine blk_alloc ?_ _)); exact BK106.out⟩, ⟨by repeat (first | (with_reducible first | exact HB.out | apply below_alloc | apply pw_below_drewN | apply below_drew1 | refine below_set ?_ GE105.out | refine below_set ?_ GE106.out) | exact HB.out)⟩⟩
  case rest =>
    clear HC6
    try clear c1
    try clear p2
    try clear c5
    try clear c8
    try clear c12
    try clear c12b0
    try clear c12b1
    try clear c14
    try clear hcz15_0
    try clear hcz15_1
    try clear hcz15_2
    try clear hfz15_0
    try clear hfz15_1
    try clear hfz15_2
    obtain ⟨kq, x18_5, rfl, HA, HJ5, BK105, BK106, HB⟩ := hcut
    cases kq with
    | zero => exact absurd HA.out (by simp [num_Compare.j0])
    | succ kj5 =>
      have H := HA.out
      clear HA
      simp only [num_Compare.j0] at H
      by_cases c17 : x18_5 = true
      · subst c17
        have H1 : (some t109) = some r := by rw [if_pos rfl] at H; exact H
        clear H
        have H := H1
        clear H1
        obtain rfl := Option.some.inj H
        go_wp2
        go_ret
        try simp only [beq_nil_isEmpty, bytesLess_gtr]
        exact ⟨by first | rfl | (simp [errW_none, errW_some] <;> rfl) | (simp [*, errW_none, errW_some] <;> rfl), by repeat (first | (with_reducible first | exact HB.out | apply below_alloc | apply pw_below_drewN | apply below_drew1 | refine below_set ?_ GE105.out | refine below_set ?_ GE106.out) | exact HB.out)⟩
      · replace c17 := Bool.eq_false_iff.mpr c17
        subst c17
        have H1 : ((cmp_Compare_int.f (wrap64 ((a0_1.size : Int) + a0_2)) (wrap64 ((a1_1.size : Int) + a1_2))).bind fun t111 => ((num_Num_side.f a0_0 a0_1 a0_2).bind fun t112 => ((strings_Compare.f a0_1 a1_1).bind fun t113 => ((cmp_Or_int.f kj5 (([t111, t113] : List Int))).bind fun t117 => (some (wrap64 (t112 * t117))))))) = some r := by rw [if_neg (show ¬ (false = true) by decide)] at H; exact H
        clear H
        have H := H1
        clear H1
        replace H := Option.bind_eq_some_iff.mp H
        obtain ⟨t111, A180, H⟩ := H
        replace H : ((num_Num_side.f a0_0 a0_1 a0_2).bind fun t112 => ((strings_Compare.f a0_1 a1_1).bind fun t113 => ((cmp_Or_int.f kj5 (([t111, t113] : List Int))).bind fun t117 => (some (wrap64 (t112 * t117)))))) = some r := H
        have A18 := Aside0.mk A180
        clear A180
        replace H := Option.bind_eq_some_iff.mp H
        obtain ⟨t112, A190, H⟩ := H
        replace H : ((strings_Compare.f a0_1 a1_1).bind fun t113 => ((cmp_Or_int.f kj5 (([t111, t113] : List Int))).bind fun t117 => (some (wrap64 (t112 * t117))))) = some r := H
        have A19 := Aside0.mk A190
        clear A190
        replace H := Option.bind_eq_some_iff.mp H
        obtain ⟨t113, A200, H⟩ := H
        replace H : ((cmp_Or_int.f kj5 (([t111, t113] : List Int))).bind fun t117 => (some (wrap64 (t112 * t117)))) = some r := H
        have A20 := Aside0.mk A200
        clear A200
        obtain ⟨y114, hy114⟩ : ∃ y_ : List Int, y_ = (([t111, t113] : List Int)) := ⟨_, rfl⟩
        replace H : ((cmp_Or_int.f kj5 y114).bind fun t117 => (some (wrap64 (t112 * t117)))) = some r := by first | (rw [hy114]; with_reducible exact H) | (have H2_ := (Option.bind_some _ _).symm.trans H; rw [hy114]; with_reducible exact H2_) | (have H2_ := (Option.bind_some _ _).symm.trans H; with_reducible exact H2_) | with_reducible exact H | (rw [hy114]; exact H) | exact H
        have Ny114 := Aside0.mk hy114
        clear hy114
        replace H := Option.bind_eq_some_iff.mp H
        obtain ⟨t117, A210, H⟩ := H
        replace H : (some (wrap64 (t112 * t117))) = some r := H
        have A21 := Aside0.mk A210
        clear A210
        obtain rfl := Option.some.inj H
        have hnb22 := NB105_106.out
        have hnc22 := NB106_105.out
        have hcz23_0 : wc.cell? ⟨gb105, 0, none⟩ = some (.bool a0_0) := (blk_cell BK105.out 0).trans rfl
        have hcz23_1 : wc.cell? ⟨gb105, 1, none⟩ = some (.string a0_1) := (blk_cell BK105.out 1).trans rfl
        have hcz23_2 : wc.cell? ⟨gb105, 2, none⟩ = some (.int .i64 a0_2) := (blk_cell BK105.out 2).trans rfl
        have hfz23_0 := blk_frozen BK105.out 0
        have hfz23_1 := blk_frozen BK105.out 1
        have hfz23_2 := blk_frozen BK105.out 2
        have hcz24_0 : wc.cell? ⟨gb106, 0, none⟩ = some (.bool a1_0) := (blk_cell BK106.out 0).trans rfl
        have hcz24_1 : wc.cell? ⟨gb106, 1, none⟩ = some (.string a1_1) := (blk_cell BK106.out 1).trans rfl
        have hcz24_2 : wc.cell? ⟨gb106, 2, none⟩ = some (.int .i64 a1_2) := (blk_cell BK106.out 2).trans rfl
        have hfz24_0 := blk_frozen BK106.out 0
        have hfz24_1 := blk_frozen BK106.out 1
        have hfz24_2 := blk_frozen BK106.out 2
        try go_wp2_with (first | ((with_reducible refine gate_callee (f := 50) rfl ?_); refine goesL_ (some 32) rfl rfl Tryz.func50 (by kernel_rfl) rfl #[.int .i64 (wrap64 ((a0_1.size : Int) + a0_2)), .int .i64 (wrap64 ((a1_1.size : Int) + a1_2))] rfl (by (try simp only [List.map_toArray, List.map_cons, List.map_nil]); first | done | rfl | (simp only [List.length_drop, List.length_take]; rfl)) ?_; (with_reducible refine (cmp_Compare_int.calls (wrap64 ((a0_1.size : Int) + a0_2)) (wrap64 ((a1_1.size : Int) + a1_2)) t111 _ A18.out).mono ?_); rintro e w' ⟨rfl, ⟨nd, rfl⟩⟩; refine ⟨_, rfl, ?_⟩))
        (try (rw [drewN_self wc]; generalize hq_ : World.drewN wc _ = wc; have n0_ : Aside0 (wc.heap[gb105]? = some (.cells #[.bool a0_0, .string a0_1, .int .i64 a0_2] 24 (0, 0))) := ⟨by rw [← hq_]; exact (by (with_reducible repeat (first | refine blk_drewN ?_ _ | refine blk_drew ?_ | refine blk_alloc ?_ _)); exact BK105.out)⟩; have n1_ : Aside0 (wc.heap[gb106]? = some (.cells #[.bool a1_0, .string a1_1, .int .i64 a1_2] 24 (0, 0))) := ⟨by rw [← hq_]; exact (by (with_reducible repeat (first | refine blk_drewN ?_ _ | refine blk_drew ?_ | refine blk_alloc ?_ _)); exact BK106.out)⟩; have n2_ : Aside0 (Below w.heap.size w wc) := ⟨by rw [← hq_]; exact (by repeat (first | (with_reducible first | exact HB.out | apply below_alloc | apply pw_below_drewN | apply below_drew1 | refine below_set ?_ GE105.out | refine below_set ?_ GE106.out) | exact HB.out))⟩; clear BK105 BK106 HB hq_; have BK105 := n0_; have BK106 := n1_; have HB := n2_; clear n0_ n1_ n2_))
        have n0_ := Aside0.mk (blk_drew BK105.out)
        have n1_ := Aside0.mk (blk_drew BK106.out)
        have n2_ := Aside0.mk (below_drew1 HB.out)
        clear BK105
        clear BK106
        clear HB
        have BK105 := n0_
        have BK106 := n1_
        have HB := n2_
        clear n0_ n1_ n2_
        refine start_ (n := 12) (S := fun w' => w'.cell? ⟨gb105, 0, none⟩ = some (.bool a0_0) ∧ w'.cell? ⟨gb105, 1, none⟩ = some (.string a0_1) ∧ w'.cell? ⟨gb105, 2, none⟩ = some (.int .i64 a0_2) ∧ w'.cell? ⟨gb106, 0, none⟩ = some (.bool a1_0) ∧ w'.cell? ⟨gb106, 1, none⟩ = some (.string a1_1) ∧ w'.cell? ⟨gb106, 2, none⟩ = some (.int .i64 a1_2)) (ds := []) #[false, false, false, false, false, false, false, false, false, false, false, false] (by kernel_rfl) rfl rfl ⟨(blk_cell BK105.out 0).trans rfl, (blk_cell BK105.out 1).trans rfl, (blk_cell BK105.out 2).trans rfl, (blk_cell BK106.out 0).trans rfl, (blk_cell BK106.out 1).trans rfl, (blk_cell BK106.out 2).trans rfl⟩ (fun hHeld => ?_); refine with_tabW num_Compare.tab5 num_Compare.bits5 (fun HT_ HW_ => ?_)
        generalize wc.drew = w25 at BK105 BK106 HB hHeld ⊢
        refine pure_ (i := 2) (N := some 35) (v := ?_) (a' := ?_) #[false, false, true, false, false, false, false, false, false, false, false, false] rfl rfl (any_of HT_.out (by kernel_rfl)) (fun _ _ _ h => h) (Or.inl ⟨by rfl, ?_⟩) ?_ ?_
        rotate_left
        · intro w'
          go_simp
          with_reducible rfl
        rotate_left
        · simp only [Act.put, List.setIfInBounds_toArray, List.set_cons_zero, List.set_cons_succ, i64_w, i32_w]
          rfl
        refine pure_ (i := 3) (N := some 36) (v := ?_) (a' := ?_) #[false, false, true, true, false, false, false, false, false, false, false, false] rfl rfl (any_of HT_.out (by kernel_rfl)) (fun _ _ _ h => h) (Or.inl ⟨by rfl, ?_⟩) ?_ ?_
        rotate_left
        · intro w'
          go_simp
          with_reducible rfl
        rotate_left
        · simp only [Act.put, List.setIfInBounds_toArray, List.set_cons_zero, List.set_cons_succ, i64_w, i32_w]
          rfl
        refine pure_ (i := 5) (N := some 38) (v := ?_) (a' := ?_) #[false, false, true, true, false, true, false, false, false, false, false, false] rfl rfl (any_of HT_.out (by kernel_rfl)) (fun _ _ _ h => h) (Or.inl ⟨by rfl, ?_⟩) ?_ ?_
        rotate_left
        · intro w'
          go_simp
          with_reducible rfl
        rotate_left
        · simp only [Act.put, List.setIfInBounds_toArray, List.set_cons_zero, List.set_cons_succ, i64_w, i32_w]
          rfl
        refine take_ (i := 0) (N := some 33) (v := ?_) (a' := ?_) #[true, false, true, true, false, true, false, false, false, false, false, false] rfl rfl (take_ofW HT_.out HW_.out (by kernel_rfl)) (fun _ _ _ h => h) (Or.inl ⟨by rfl, ?_⟩) hHeld ?_ ?_
        rotate_left
        · rintro w' ⟨s0, s1, s2, s3, s4, s5⟩
          go_simp
          with_reducible rfl
        rotate_left
        · simp only [Act.put, List.setIfInBounds_toArray, List.set_cons_zero, List.set_cons_succ, i64_w, i32_w]
          rfl
        refine take_ (i := 4) (N := some 37) (v := ?_) (a' := ?_) #[true, false, true, true, true, true, false, false, false, false, false, false] rfl rfl (take_ofW HT_.out HW_.out (by kernel_rfl)) (fun _ _ _ h => h) (Or.inl ⟨by rfl, ?_⟩) hHeld ?_ ?_
        rotate_left
        · rintro w' ⟨s0, s1, s2, s3, s4, s5⟩
          go_simp
          with_reducible rfl
        rotate_left
        · simp only [Act.put, List.setIfInBounds_toArray, List.set_cons_zero, List.set_cons_succ, i64_w, i32_w]
          rfl
        refine take_ (i := 6) (N := some 39) (v := ?_) (a' := ?_) #[true, false, true, true, true, true, true, false, false, false, false, false] rfl rfl (take_ofW HT_.out HW_.out (by kernel_rfl)) (fun _ _ _ h => h) (Or.inl ⟨by rfl, ?_⟩) hHeld ?_ ?_
        rotate_left
        · rintro w' ⟨s0, s1, s2, s3, s4, s5⟩
          go_simp
          with_reducible rfl
        rotate_left
        · simp only [Act.put, List.setIfInBounds_toArray, List.set_cons_zero, List.set_cons_succ, i64_w, i32_w]
          rfl
        refine one_ (i := 1) (N := some 34) #[true, true, true, true, true, true, true, false, false, false, false, false] rfl rfl (one_of HT_.out (by kernel_rfl)) (by decide) (fun K hK => ?_)
        refine goes_ Tryz.func81 (by kernel_rfl) rfl #[.agg #[.bool a0_0, .string a0_1, .int .i64 a0_2]] (by rfl) rfl rfl (by (try simp only [List.map_toArray, List.map_cons, List.map_nil]); first | done | rfl | (simp only [List.length_drop, List.length_take]; rfl)) ?_
        with_reducible refine (num_Num_side.calls a0_0 a0_1 a0_2 t112 _ A19.out).mono ?_
        rintro e w26 ⟨rfl, hb⟩
        refine ⟨_, rfl, ?_⟩
        have n0_ := Aside0.mk (blk_below (g := gb105) (o := .cells #[.bool a0_0, .string a0_1, .int .i64 a0_2] 24 (0, 0)) (by (with_reducible repeat (first | refine blk_drewN ?_ _ | refine blk_drew ?_ | refine blk_alloc ?_ _)); exact BK105.out) hb)
        have n1_ := Aside0.mk (blk_below (g := gb106) (o := .cells #[.bool a1_0, .string a1_1, .int .i64 a1_2] 24 (0, 0)) (by (with_reducible repeat (first | refine blk_drewN ?_ _ | refine blk_drew ?_ | refine blk_alloc ?_ _)); exact BK106.out) hb)
        have n2_ := Aside0.mk (below_step (by repeat (first | (with_reducible first | exact HB.out | apply below_alloc | apply pw_below_drewN | apply below_drew1 | refine below_set ?_ GE105.out | refine below_set ?_ GE106.out) | exact HB.out)) hb)
        clear BK105
        clear BK106
        clear HB
        have BK105 := n0_
        have BK106 := n1_
        have HB := n2_
        clear n0_ n1_ n2_
        (try clear hb)
        (try clear hb2)
        (try clear hk)
        (try clear hi)
        refine hK.out _ _ ⟨(blk_cell BK105.out 0).trans rfl, (blk_cell BK105.out 1).trans rfl, (blk_cell BK105.out 2).trans rfl, (blk_cell BK106.out 0).trans rfl, (blk_cell BK106.out 1).trans rfl, (blk_cell BK106.out 2).trans rfl⟩ (fun hHeld => ?_)
        clear hK K
        refine norm_ (a' := ?_) ?_ ?_
        rotate_left
        · show Act.put _ (some 34) _ = _
          simp only [Act.put, List.setIfInBounds_toArray, List.set_cons_zero, List.set_cons_succ, i64_w, i32_w]
          rfl
        refine one_ (i := 7) (N := some 40) #[true, true, true, true, true, true, true, true, false, false, false, false] rfl rfl (one_of HT_.out (by kernel_rfl)) (by decide) (fun K hK => ?_)
        refine goes_ Tryz.func53 (by kernel_rfl) rfl #[.string a0_1, .string a1_1] (by rfl) rfl rfl (by (try simp only [List.map_toArray, List.map_cons, List.map_nil]); first | done | rfl | (simp only [List.length_drop, List.length_take]; rfl)) ?_
        with_reducible refine (strings_Compare.calls a0_1 a1_1 t113 _ A20.out).mono ?_
        rintro e w' ⟨rfl, ⟨nd, rfl⟩⟩
        refine ⟨_, rfl, ?_⟩
        refine hK.out _ _ ⟨(blk_cell BK105.out 0).trans rfl, (blk_cell BK105.out 1).trans rfl, (blk_cell BK105.out 2).trans rfl, (blk_cell BK106.out 0).trans rfl, (blk_cell BK106.out 1).trans rfl, (blk_cell BK106.out 2).trans rfl⟩ (fun hHeld => ?_)
        clear hK K
        refine norm_ (a' := ?_) ?_ ?_
        rotate_left
        · show Act.put _ (some 40) _ = _
          simp only [Act.put, List.setIfInBounds_toArray, List.set_cons_zero, List.set_cons_succ, i64_w, i32_w]
          rfl
        refine one_ (i := 8) (N := some 41) #[true, true, true, true, true, true, true, true, true, false, false, false] rfl rfl (one_of HT_.out (by kernel_rfl)) (by decide) (fun K hK => ?_)
        refine Kd.R_lit_step (Kd.int .i64) _ 3 ?hg (N := 41) ?hd (xs := ([t111, t113] : List Int)) (inner := [.int .i64 t111, .int .i64 t113]) (ok := fun _ => True) (okp := fun _ => True) ?hr ?hp (fun _ hk => hk) trivial (Below.refl _ _) (Nat.le_refl _) (by simp) ?_; (case hd => rfl); (case hg => rfl); (case hr => first | (go_simp; done) | (go_simp; rfl)); (case hp => exact (Reps.one (show Kd.M (Kd.int .i64) _ _ _ t111 [.int .i64 t111] from rfl) (Reps.one (show Kd.M (Kd.int .i64) _ _ _ t113 [.int .i64 t113] from rfl) (Reps.none _ _))))
        intro v115 w27 ho28 hb hg_ hnew_
        clear hg_ hnew_
        (first | rw [← Ny114.out] at ho28 | (simp only [Int.reduceToNat] at ho28; rw [← Ny114.out] at ho28))
        have n0_ := Aside0.mk (Kd.R_lower ho28 (below_size (by repeat (first | (with_reducible first | exact HB.out | apply below_alloc | apply pw_below_drewN | apply below_drew1 | refine below_set ?_ GE105.out | refine below_set ?_ GE106.out) | exact HB.out))))
        have n1_ := Aside0.mk (blk_below (g := gb105) (o := .cells #[.bool a0_0, .string a0_1, .int .i64 a0_2] 24 (0, 0)) (by (with_reducible repeat (first | refine blk_drewN ?_ _ | refine blk_drew ?_ | refine blk_alloc ?_ _)); exact BK105.out) hb)
        have n2_ := Aside0.mk (blk_below (g := gb106) (o := .cells #[.bool a1_0, .string a1_1, .int .i64 a1_2] 24 (0, 0)) (by (with_reducible repeat (first | refine blk_drewN ?_ _ | refine blk_drew ?_ | refine blk_alloc ?_ _)); exact BK106.out) hb)
        have n3_ := Aside0.mk (below_step (by repeat (first | (with_reducible first | exact HB.out | apply below_alloc | apply pw_below_drewN | apply below_drew1 | refine below_set ?_ GE105.out | refine below_set ?_ GE106.out) | exact HB.out)) hb)
        clear BK105
        clear BK106
        clear HB
        have HO116 := n0_
        have BK105 := n1_
        have BK106 := n2_
        have HB := n3_
        clear n0_ n1_ n2_ n3_
        clear hb ho28
        obtain ⟨Ao29, co29, eo29⟩ := Kd.R_slice HO116.out
        (first | subst eo29 | (injection eo29 with f1_ f2_ f3_; have f4_ := f1_.symm; have f5_ := f3_.symm; clear f1_ f2_ f3_; subst f4_; subst f5_))
        refine hK.out _ _ ⟨(blk_cell BK105.out 0).trans rfl, (blk_cell BK105.out 1).trans rfl, (blk_cell BK105.out 2).trans rfl, (blk_cell BK106.out 0).trans rfl, (blk_cell BK106.out 1).trans rfl, (blk_cell BK106.out 2).trans rfl⟩ (fun hHeld => ?_)
        clear hK K
        refine norm_ (a' := ?_) ?_ ?_
        rotate_left
        · show Act.put _ (some 41) _ = _
          simp only [Act.put, List.setIfInBounds_toArray, List.set_cons_zero, List.set_cons_succ, i64_w, i32_w]
          rfl
        refine one_ (i := 9) (N := some 42) #[true, true, true, true, true, true, true, true, true, true, false, false] rfl rfl (one_of HT_.out (by kernel_rfl)) (by decide) (fun K hK => ?_)
        refine goes_ Tryz.func55 (by kernel_rfl) rfl #[.slice Ao29 y114.length co29] (by rfl) rfl rfl (by (try simp only [List.map_toArray, List.map_cons, List.map_nil]); first | done | rfl | (simp only [List.length_drop, List.length_take]; rfl)) ?_
        with_reducible refine (cmp_Or_int.calls kj5 _ _ y114 t117 _ ?side1 ?side2 A21.out).mono ?_
        (case side1 => repeat (first | exact (Kd.R_reads' HO116.out).2.2 | (with_reducible refine Kd.C_alloc ?_ _) | (with_reducible refine Kd.C_drewN ?_ _) | (with_reducible refine Kd.C_drew ?_)))
        (case side2 => exact (Kd.R_reads' HO116.out).2.1)
        rintro e w' ⟨rfl, ⟨nd, rfl⟩⟩
        refine ⟨_, rfl, ?_⟩
        refine hK.out _ _ ⟨(blk_cell BK105.out 0).trans rfl, (blk_cell BK105.out 1).trans rfl, (blk_cell BK105.out 2).trans rfl, (blk_cell BK106.out 0).trans rfl, (blk_cell BK106.out 1).trans rfl, (blk_cell BK106.out 2).trans rfl⟩ (fun hHeld => ?_)
        clear hK K
        refine norm_ (a' := ?_) ?_ ?_
        rotate_left
        · show Act.put _ (some 42) _ = _
          simp only [Act.put, List.setIfInBounds_toArray, List.set_cons_zero, List.set_cons_succ, i64_w, i32_w]
          rfl
        refine pure_ (i := 10) (N := some 43) (v := ?_) (a' := ?_) #[true, true, true, true, true, true, true, true, true, true, true, false] rfl rfl (any_of HT_.out (by kernel_rfl)) (fun _ _ _ h => h) (Or.inl ⟨by rfl, ?_⟩) ?_ ?_
        rotate_left
        · intro w'
          go_simp
          with_reducible rfl
        rotate_left
        · simp only [Act.put, List.setIfInBounds_toArray, List.set_cons_zero, List.set_cons_succ, i64_w, i32_w]
          rfl
        refine pure_ (i := 11) (N := some 4) (v := ?_) (a' := ?_) #[true, true, true, true, true, true, true, true, true, true, true, true] rfl rfl (any_of HT_.out (by kernel_rfl)) (fun _ _ _ h => h) (Or.inl ⟨by rfl, ?_⟩) ?_ ?_
        rotate_left
        · intro w'
          go_simp
          with_reducible rfl
        rotate_left
        · simp only [Act.put, List.setIfInBounds_toArray, List.set_cons_zero, List.set_cons_succ, i64_w, i32_w]
          rfl
        refine done_ (done_of HT_.out (by kernel_rfl)) ?_
        try go_wp2
        go_ret
        try simp only [beq_nil_isEmpty, bytesLess_gtr]
        exact ⟨by first | rfl | (simp [errW_none, errW_some] <;> rfl) | (simp [*, errW_none, errW_some] <;> rfl), by repeat (first | (with_reducible first | exact HB.out | apply below_alloc | apply pw_below_drewN | apply below_drew1 | refine below_set ?_ GE105.out | refine below_set ?_ GE106.out) | exact HB.out)⟩
def num_Text.f (a0_0 : Bool) (a0_1 : ByteArray) (a0_2 : Int) : Option (ByteArray) := if a0_1.toList = ([] : List UInt8) then (some (⟨#[48]⟩ : ByteArray)) else (if a0_0 = true then (if 1 + a0_1.size ≤ 9223372036854775807 then (if a0_2 = 0 then (some ((⟨#[45]⟩ : ByteArray) ++ a0_1)) else ((strconv_Itoa_83.f a0_2).bind fun t119 => (if 1 + t119.size ≤ 9223372036854775807 then (if ((⟨#[45]⟩ : ByteArray) ++ a0_1).size + ((⟨#[101]⟩ : ByteArray) ++ t119).size ≤ 9223372036854775807 then (some (((⟨#[45]⟩ : ByteArray) ++ a0_1) ++ ((⟨#[101]⟩ : ByteArray) ++ t119))) else (none)) else (none)))) else (none)) else (if a0_2 = 0 then (some a0_1) else ((strconv_Itoa_83.f a0_2).bind fun t120 => (if 1 + t120.size ≤ 9223372036854775807 then (if a0_1.size + ((⟨#[101]⟩ : ByteArray) ++ t120).size ≤ 9223372036854775807 then (some (a0_1 ++ ((⟨#[101]⟩ : ByteArray) ++ t120))) else (none)) else (none)))))
set_option maxHeartbeats 8000000 in
set_option maxRecDepth 100000 in
theorem num_Text.calls (a0_0 : Bool) (a0_1 : ByteArray) (a0_2 : Int) (r : ByteArray) (w : World) (hT : PTabs w) (h : num_Text.f a0_0 a0_1 a0_2 = some r) :
    Calls Tryz.prog 56 #[.agg #[.bool a0_0, .string a0_1, .int .i64 a0_2]] w fun e w' => e = .returned (.string r) ∧ Below w.heap.size w w' := by
  have HT := Aside0.mk hT
  clear hT
  have hu24 := Tryz.underlying24
  have HB := Aside0.mk (Below.refl w.heap.size w)
  have H : (if a0_1.toList = ([] : List UInt8) then (some (⟨#[48]⟩ : ByteArray)) else (if a0_0 = true then (if 1 + a0_1.size ≤ 9223372036854775807 then (if a0_2 = 0 then (some ((⟨#[45]⟩ : ByteArray) ++ a0_1)) else ((strconv_Itoa_83.f a0_2).bind fun t119 => (if 1 + t119.size ≤ 9223372036854775807 then (if ((⟨#[45]⟩ : ByteArray) ++ a0_1).size + ((⟨#[101]⟩ : ByteArray) ++ t119).size ≤ 9223372036854775807 then (some (((⟨#[45]⟩ : ByteArray) ++ a0_1) ++ ((⟨#[101]⟩ : ByteArray) ++ t119))) else (none)) else (none)))) else (none)) else (if a0_2 = 0 then (some a0_1) else ((strconv_Itoa_83.f a0_2).bind fun t120 => (if 1 + t120.size ≤ 9223372036854775807 then (if a0_1.size + ((⟨#[101]⟩ : ByteArray) ++ t120).size ≤ 9223372036854775807 then (some (a0_1 ++ ((⟨#[101]⟩ : ByteArray) ++ t120))) else (none)) else (none)))))) = some r := h
  clear h
  by_cases c2 : a0_1.toList = ([] : List UInt8)
  · rw [if_pos c2] at H
    have c2b0 : (a0_1.toList == ([] : List UInt8)) = true := beq_iff_eq.mpr c2
    have c2b7 : a0_1.toList.isEmpty = true := by rw [← beq_nil_isEmpty]; exact c2b0
    have c2b1 : (a0_1.toList != ([] : List UInt8)) = false := bne_eq_false_iff_eq.mpr c2
    clear c2
    obtain rfl := Option.some.inj H
    go_enter Tryz.func56, Tryz.ntmps56
    go_wp2_with (first | ((with_reducible refine gate_dst (N := 1) rfl ?_); refine box_event ?hg (N := 1) ?hd (cs := #[.bool a0_0, .string a0_1, .int .i64 a0_2]) (t := 24) ?hr ?_; (case hd => rfl); (case hg => rfl); (case hr => first | (go_simp; done) | (go_simp; rfl)); intro gb118 hg w3 hbox hb; have n0_ := Aside0.mk (below_step (by repeat (first | (with_reducible first | exact HB.out | apply below_alloc | apply pw_below_drewN | apply below_drew1) | exact HB.out)) hb); have n1_ := Aside0.mk (hbox); have n2_ := Aside0.mk ((by rw [hg]; exact (below_size (by repeat (first | (with_reducible first | exact HB.out | apply below_alloc | apply pw_below_drewN | apply below_drew1) | exact HB.out))) : w.heap.size ≤ gb118)); have n3_ := Aside0.mk ((by rw [hg]; exact (below_size (by repeat (first | (with_reducible first | exact HB.out | apply below_alloc | apply pw_below_drewN | apply below_drew1) | exact HB.out))) : w.heap.size ≤ gb118)); clear HB; have HB := n0_; have BK118 := n1_; have GW118 := n2_; have GE118 := n3_; clear n0_ n1_ n2_ n3_; clear hb hbox hg; have hcz4_0 : w3.cell? ⟨gb118, 0, none⟩ = some (.bool a0_0) := (blk_cell BK118.out 0).trans rfl; have hcz4_1 : w3.cell? ⟨gb118, 1, none⟩ = some (.string a0_1) := (blk_cell BK118.out 1).trans rfl; have hcz4_2 : w3.cell? ⟨gb118, 2, none⟩ = some (.int .i64 a0_2) := (blk_cell BK118.out 2).trans rfl; have hfz4_0 := blk_frozen BK118.out 0; have hfz4_1 := blk_frozen BK118.out 1; have hfz4_2 := blk_frozen BK118.out 2))
    go_ret
    try simp only [beq_nil_isEmpty, bytesLess_gtr]
    exact ⟨by first | rfl | (simp [errW_none, errW_some] <;> rfl) | (simp [*, errW_none, errW_some] <;> rfl), by repeat (first | (with_reducible first | exact HB.out | apply below_alloc | apply pw_below_drewN | apply below_drew1 | refine below_set ?_ GE118.out) | exact HB.out)⟩
  · rw [if_neg c2] at H
    have c2b0 : (a0_1.toList == ([] : List UInt8)) = false := beq_eq_false_iff_ne.mpr c2
    have c2b7 : a0_1.toList.isEmpty = false := by rw [← beq_nil_isEmpty]; exact c2b0
    have c2b1 : (a0_1.toList != ([] : List UInt8)) = true := bne_iff_ne.mpr c2
    by_cases c5 : a0_0 = true
    · subst c5
      have H1 : (if 1 + a0_1.size ≤ 9223372036854775807 then (if a0_2 = 0 then (some ((⟨#[45]⟩ : ByteArray) ++ a0_1)) else ((strconv_Itoa_83.f a0_2).bind fun t119 => (if 1 + t119.size ≤ 9223372036854775807 then (if ((⟨#[45]⟩ : ByteArray) ++ a0_1).size + ((⟨#[101]⟩ : ByteArray) ++ t119).size ≤ 9223372036854775807 then (some (((⟨#[45]⟩ : ByteArray) ++ a0_1) ++ ((⟨#[101]⟩ : ByteArray) ++ t119))) else (none)) else (none)))) else (none)) = some r := by rw [if_pos rfl] at H; exact H
      clear H
      have H := H1
      clear H1
      by_cases c6 : 1 + a0_1.size ≤ 9223372036854775807
      · rw [if_pos c6] at H
        have c6b0 := eq_true c6
        have c6b1 : decide (1 + a0_1.size ≤ 9223372036854775807) = true := decide_eq_true c6
        try have c6b2 : (9223372036854775807 < 1 + a0_1.size) = False := eq_false (Nat.not_lt.2 c6)
        by_cases c7 : a0_2 = 0
        · rw [if_pos c7] at H
          have c7b0 : (a0_2 == 0) = true := beq_iff_eq.mpr c7
          have c7b1 : (a0_2 != 0) = false := bne_eq_false_iff_eq.mpr c7
          clear c7
          obtain rfl := Option.some.inj H
          go_enter Tryz.func56, Tryz.ntmps56
          go_wp2_with (first | ((with_reducible refine gate_dst (N := 1) rfl ?_); refine box_event ?hg (N := 1) ?hd (cs := #[.bool true, .string a0_1, .int .i64 a0_2]) (t := 24) ?hr ?_; (case hd => rfl); (case hg => rfl); (case hr => first | (go_simp; done) | (go_simp; rfl)); intro gb118 hg w8 hbox hb; have n0_ := Aside0.mk (below_step (by repeat (first | (with_reducible first | exact HB.out | apply below_alloc | apply pw_below_drewN | apply below_drew1) | exact HB.out)) hb); have n1_ := Aside0.mk (hbox); have n2_ := Aside0.mk ((by rw [hg]; exact (below_size (by repeat (first | (with_reducible first | exact HB.out | apply below_alloc | apply pw_below_drewN | apply below_drew1) | exact HB.out))) : w.heap.size ≤ gb118)); have n3_ := Aside0.mk ((by rw [hg]; exact (below_size (by repeat (first | (with_reducible first | exact HB.out | apply below_alloc | apply pw_below_drewN | apply below_drew1) | exact HB.out))) : w.heap.size ≤ gb118)); clear HB; have HB := n0_; have BK118 := n1_; have GW118 := n2_; have GE118 := n3_; clear n0_ n1_ n2_ n3_; clear hb hbox hg; have hcz9_0 : w8.cell? ⟨gb118, 0, none⟩ = some (.bool true) := (blk_cell BK118.out 0).trans rfl; have hcz9_1 : w8.cell? ⟨gb118, 1, none⟩ = some (.string a0_1) := (blk_cell BK118.out 1).trans rfl; have hcz9_2 : w8.cell? ⟨gb118, 2, none⟩ = some (.int .i64 a0_2) := (blk_cell BK118.out 2).trans rfl; have hfz9_0 := blk_frozen BK118.out 0; have hfz9_1 := blk_frozen BK118.out 1; have hfz9_2 := blk_frozen BK118.out 2))
          go_ret
          try simp only [beq_nil_isEmpty, bytesLess_gtr]
          exact ⟨by first | rfl | (simp [errW_none, errW_some] <;> rfl) | (simp [*, errW_none, errW_some] <;> rfl), by repeat (first | (with_reducible first | exact HB.out | apply below_alloc | apply pw_below_drewN | apply below_drew1 | refine below_set ?_ GE118.out) | exact HB.out)⟩
        · rw [if_neg c7] at H
          have c7b0 : (a0_2 == 0) = false := beq_eq_false_iff_ne.mpr c7
          have c7b1 : (a0_2 != 0) = true := bne_iff_ne.mpr c7
          replace H := Option.bind_eq_some_iff.mp H
          obtain ⟨t119, A100, H⟩ := H
          replace H : (if 1 + t119.size ≤ 9223372036854775807 then (if ((⟨#[45]⟩ : ByteArray) ++ a0_1).size + ((⟨#[101]⟩ : ByteArray) ++ t119).size ≤ 9223372036854775807 then (some (((⟨#[45]⟩ : ByteArray) ++ a0_1) ++ ((⟨#[101]⟩ : ByteArray) ++ t119))) else (none)) else (none)) = some r := H
          have A10 := Aside0.mk A100
          clear A100
          by_cases c11 : 1 + t119.size ≤ 9223372036854775807
          · rw [if_pos c11] at H
            have c11b0 := eq_true c11
            have c11b1 : decide (1 + t119.size ≤ 9223372036854775807) = true := decide_eq_true c11
            try have c11b2 : (9223372036854775807 < 1 + t119.size) = False := eq_false (Nat.not_lt.2 c11)
            by_cases c12 : ((⟨#[45]⟩ : ByteArray) ++ a0_1).size + ((⟨#[101]⟩ : ByteArray) ++ t119).size ≤ 9223372036854775807
            · rw [if_pos c12] at H
              have c12b0 := eq_true c12
              have c12b1 : decide (((⟨#[45]⟩ : ByteArray) ++ a0_1).size + ((⟨#[101]⟩ : ByteArray) ++ t119).size ≤ 9223372036854775807) = true := decide_eq_true c12
              try have c12b2 : (9223372036854775807 < ((⟨#[45]⟩ : ByteArray) ++ a0_1).size + ((⟨#[101]⟩ : ByteArray) ++ t119).size) = False := eq_false (Nat.not_lt.2 c12)
              obtain rfl := Option.some.inj H
              go_enter Tryz.func56, Tryz.ntmps56
              go_wp2_with (first | ((with_reducible refine gate_dst (N := 1) rfl ?_); refine box_event ?hg (N := 1) ?hd (cs := #[.bool true, .string a0_1, .int .i64 a0_2]) (t := 24) ?hr ?_; (case hd => rfl); (case hg => rfl); (case hr => first | (go_simp; done) | (go_simp; rfl)); intro gb118 hg w13 hbox hb; have n0_ := Aside0.mk (below_step (by repeat (first | (with_reducible first | exact HB.out | apply below_alloc | apply pw_below_drewN | apply below_drew1) | exact HB.out)) hb); have n1_ := Aside0.mk (hbox); have n2_ := Aside0.mk ((by rw [hg]; exact (below_size (by repeat (first | (with_reducible first | exact HB.out | apply below_alloc | apply pw_below_drewN | apply below_drew1) | exact HB.out))) : w.heap.size ≤ gb118)); have n3_ := Aside0.mk ((by rw [hg]; exact (below_size (by repeat (first | (with_reducible first | exact HB.out | apply below_alloc | apply pw_below_drewN | apply below_drew1) | exact HB.out))) : w.heap.size ≤ gb118)); clear HB; have HB := n0_; have BK118 := n1_; have GW118 := n2_; have GE118 := n3_; clear n0_ n1_ n2_ n3_; clear hb hbox hg; have hcz14_0 : w13.cell? ⟨gb118, 0, none⟩ = some (.bool true) := (blk_cell BK118.out 0).trans rfl; have hcz14_1 : w13.cell? ⟨gb118, 1, none⟩ = some (.string a0_1) := (blk_cell BK118.out 1).trans rfl; have hcz14_2 : w13.cell? ⟨gb118, 2, none⟩ = some (.int .i64 a0_2) := (blk_cell BK118.out 2).trans rfl; have hfz14_0 := blk_frozen BK118.out 0; have hfz14_1 := blk_frozen BK118.out 1; have hfz14_2 := blk_frozen BK118.out 2) | ((with_reducible refine gate_callee (f := 83) rfl ?_); refine goesL_ (some 19) rfl rfl Tryz.func83 (by kernel_rfl) rfl #[.int .i64 a0_2] rfl (by (try simp only [List.map_toArray, List.map_cons, List.map_nil]); first | done | rfl | (simp only [List.length_drop, List.length_take]; rfl)) ?_; (with_reducible refine (strconv_Itoa_83.calls a0_2 t119 _ (PTabs.below HT.out (by repeat (first | (with_reducible first | exact HB.out | apply below_alloc | apply pw_below_drewN | apply below_drew1 | refine below_set ?_ GE118.out) | exact HB.out))) A10.out).mono ?_); rintro e w15 ⟨rfl, hb⟩; refine ⟨_, rfl, ?_⟩; have n0_ := Aside0.mk (blk_below (g := gb118) (o := .cells #[.bool true, .string a0_1, .int .i64 a0_2] 24 (0, 0)) (by (with_reducible repeat (first | refine blk_drewN ?_ _ | refine blk_drew ?_ | refine blk_alloc ?_ _)); exact BK118.out) hb); have n1_ := Aside0.mk (below_step (by repeat (first | (with_reducible first | exact HB.out | apply below_alloc | apply pw_below_drewN | apply below_drew1 | refine below_set ?_ GE118.out) | exact HB.out)) hb); clear BK118; clear HB; have BK118 := n0_; have HB := n1_; clear n0_ n1_; (try clear hb); (try clear hb2); (try clear hk); (try clear hi)))
              go_ret
              try simp only [beq_nil_isEmpty, bytesLess_gtr]
              exact ⟨by first | rfl | (simp [errW_none, errW_some] <;> rfl) | (simp [*, errW_none, errW_some] <;> rfl), by repeat (first | (with_reducible first | exact HB.out | apply below_alloc | apply pw_below_drewN | apply below_drew1 | refine below_set ?_ GE118.out) | exact HB.out)⟩
            · rw [if_neg c12] at H
              exact absurd H (by simp)
          · rw [if_neg c11] at H
            exact absurd H (by simp)
      · rw [if_neg c6] at H
        exact absurd H (by simp)
    · replace c5 := Bool.eq_false_iff.mpr c5
      subst c5
      have H1 : (if a0_2 = 0 then (some a0_1) else ((strconv_Itoa_83.f a0_2).bind fun t120 => (if 1 + t120.size ≤ 9223372036854775807 then (if a0_1.size + ((⟨#[101]⟩ : ByteArray) ++ t120).size ≤ 9223372036854775807 then (some (a0_1 ++ ((⟨#[101]⟩ : ByteArray) ++ t120))) else (none)) else (none)))) = some r := by rw [if_neg (show ¬ (false = true) by decide)] at H; exact H
      clear H
      have H := H1
      clear H1
      by_cases c16 : a0_2 = 0
      · rw [if_pos c16] at H
        have c16b0 : (a0_2 == 0) = true := beq_iff_eq.mpr c16
        have c16b1 : (a0_2 != 0) = false := bne_eq_false_iff_eq.mpr c16
        clear c16
        obtain rfl := Option.some.inj H
        go_enter Tryz.func56, Tryz.ntmps56
        go_wp2_with (first | ((with_reducible refine gate_dst (N := 1) rfl ?_); refine box_event ?hg (N := 1) ?hd (cs := #[.bool false, .string a0_1, .int .i64 a0_2]) (t := 24) ?hr ?_; (case hd => rfl); (case hg => rfl); (case hr => first | (go_simp; done) | (go_simp; rfl)); intro gb118 hg w17 hbox hb; have n0_ := Aside0.mk (below_step (by repeat (first | (with_reducible first | exact HB.out | apply below_alloc | apply pw_below_drewN | apply below_drew1) | exact HB.out)) hb); have n1_ := Aside0.mk (hbox); have n2_ := Aside0.mk ((by rw [hg]; exact (below_size (by repeat (first | (with_reducible first | exact HB.out | apply below_alloc | apply pw_below_drewN | apply below_drew1) | exact HB.out))) : w.heap.size ≤ gb118)); have n3_ := Aside0.mk ((by rw [hg]; exact (below_size (by repeat (first | (with_reducible first | exact HB.out | apply below_alloc | apply pw_below_drewN | apply below_drew1) | exact HB.out))) : w.heap.size ≤ gb118)); clear HB; have HB := n0_; have BK118 := n1_; have GW118 := n2_; have GE118 := n3_; clear n0_ n1_ n2_ n3_; clear hb hbox hg; have hcz18_0 : w17.cell? ⟨gb118, 0, none⟩ = some (.bool false) := (blk_cell BK118.out 0).trans rfl; have hcz18_1 : w17.cell? ⟨gb118, 1, none⟩ = some (.string a0_1) := (blk_cell BK118.out 1).trans rfl; have hcz18_2 : w17.cell? ⟨gb118, 2, none⟩ = some (.int .i64 a0_2) := (blk_cell BK118.out 2).trans rfl; have hfz18_0 := blk_frozen BK118.out 0; have hfz18_1 := blk_frozen BK118.out 1; have hfz18_2 := blk_frozen BK118.out 2))
        go_ret
        try simp only [beq_nil_isEmpty, bytesLess_gtr]
        exact ⟨by first | rfl | (simp [errW_none, errW_some] <;> rfl) | (simp [*, errW_none, errW_some] <;> rfl), by repeat (first | (with_reducible first | exact HB.out | apply below_alloc | apply pw_below_drewN | apply below_drew1 | refine below_set ?_ GE118.out) | exact HB.out)⟩
      · rw [if_neg c16] at H
        have c16b0 : (a0_2 == 0) = false := beq_eq_false_iff_ne.mpr c16
        have c16b1 : (a0_2 != 0) = true := bne_iff_ne.mpr c16
        replace H := Option.bind_eq_some_iff.mp H
        obtain ⟨t120, A190, H⟩ := H
        replace H : (if 1 + t120.size ≤ 9223372036854775807 then (if a0_1.size + ((⟨#[101]⟩ : ByteArray) ++ t120).size ≤ 9223372036854775807 then (some (a0_1 ++ ((⟨#[101]⟩ : ByteArray) ++ t120))) else (none)) else (none)) = some r := H
        have A19 := Aside0.mk A190
        clear A190
        by_cases c20 : 1 + t120.size ≤ 9223372036854775807
        · rw [if_pos c20] at H
          have c20b0 := eq_true c20
          have c20b1 : decide (1 + t120.size ≤ 9223372036854775807) = true := decide_eq_true c20
          try have c20b2 : (9223372036854775807 < 1 + t120.size) = False := eq_false (Nat.not_lt.2 c20)
          by_cases c21 : a0_1.size + ((⟨#[101]⟩ : ByteArray) ++ t120).size ≤ 9223372036854775807
          · rw [if_pos c21] at H
            have c21b0 := eq_true c21
            have c21b1 : decide (a0_1.size + ((⟨#[101]⟩ : ByteArray) ++ t120).size ≤ 9223372036854775807) = true := decide_eq_true c21
            try have c21b2 : (9223372036854775807 < a0_1.size + ((⟨#[101]⟩ : ByteArray) ++ t120).size) = False := eq_false (Nat.not_lt.2 c21)
            obtain rfl := Option.some.inj H
            go_enter Tryz.func56, Tryz.ntmps56
            go_wp2_with (first | ((with_reducible refine gate_dst (N := 1) rfl ?_); refine box_event ?hg (N := 1) ?hd (cs := #[.bool false, .string a0_1, .int .i64 a0_2]) (t := 24) ?hr ?_; (case hd => rfl); (case hg => rfl); (case hr => first | (go_simp; done) | (go_simp; rfl)); intro gb118 hg w22 hbox hb; have n0_ := Aside0.mk (below_step (by repeat (first | (with_reducible first | exact HB.out | apply below_alloc | apply pw_below_drewN | apply below_drew1) | exact HB.out)) hb); have n1_ := Aside0.mk (hbox); have n2_ := Aside0.mk ((by rw [hg]; exact (below_size (by repeat (first | (with_reducible first | exact HB.out | apply below_alloc | apply pw_below_drewN | apply below_drew1) | exact HB.out))) : w.heap.size ≤ gb118)); have n3_ := Aside0.mk ((by rw [hg]; exact (below_size (by repeat (first | (with_reducible first | exact HB.out | apply below_alloc | apply pw_below_drewN | apply below_drew1) | exact HB.out))) : w.heap.size ≤ gb118)); clear HB; have HB := n0_; have BK118 := n1_; have GW118 := n2_; have GE118 := n3_; clear n0_ n1_ n2_ n3_; clear hb hbox hg; have hcz23_0 : w22.cell? ⟨gb118, 0, none⟩ = some (.bool false) := (blk_cell BK118.out 0).trans rfl; have hcz23_1 : w22.cell? ⟨gb118, 1, none⟩ = some (.string a0_1) := (blk_cell BK118.out 1).trans rfl; have hcz23_2 : w22.cell? ⟨gb118, 2, none⟩ = some (.int .i64 a0_2) := (blk_cell BK118.out 2).trans rfl; have hfz23_0 := blk_frozen BK118.out 0; have hfz23_1 := blk_frozen BK118.out 1; have hfz23_2 := blk_frozen BK118.out 2) | ((with_reducible refine gate_callee (f := 83) rfl ?_); refine goesL_ (some 19) rfl rfl Tryz.func83 (by kernel_rfl) rfl #[.int .i64 a0_2] rfl (by (try simp only [List.map_toArray, List.map_cons, List.map_nil]); first | done | rfl | (simp only [List.length_drop, List.length_take]; rfl)) ?_; (with_reducible refine (strconv_Itoa_83.calls a0_2 t120 _ (PTabs.below HT.out (by repeat (first | (with_reducible first | exact HB.out | apply below_alloc | apply pw_below_drewN | apply below_drew1 | refine below_set ?_ GE118.out) | exact HB.out))) A19.out).mono ?_); rintro e w24 ⟨rfl, hb⟩; refine ⟨_, rfl, ?_⟩; have n0_ := Aside0.mk (blk_below (g := gb118) (o := .cells #[.bool false, .string a0_1, .int .i64 a0_2] 24 (0, 0)) (by (with_reducible repeat (first | refine blk_drewN ?_ _ | refine blk_drew ?_ | refine blk_alloc ?_ _)); exact BK118.out) hb); have n1_ := Aside0.mk (below_step (by repeat (first | (with_reducible first | exact HB.out | apply below_alloc | apply pw_below_drewN | apply below_drew1 | refine below_set ?_ GE118.out) | exact HB.out)) hb); clear BK118; clear HB; have BK118 := n0_; have HB := n1_; clear n0_ n1_; (try clear hb); (try clear hb2); (try clear hk); (try clear hi)))
            go_ret
            try simp only [beq_nil_isEmpty, bytesLess_gtr]
            exact ⟨by first | rfl | (simp [errW_none, errW_some] <;> rfl) | (simp [*, errW_none, errW_some] <;> rfl), by repeat (first | (with_reducible first | exact HB.out | apply below_alloc | apply pw_below_drewN | apply below_drew1 | refine below_set ?_ GE118.out) | exact HB.out)⟩
          · rw [if_neg c21] at H
            exact absurd H (by simp)
        · rw [if_neg c20] at H
          exact absurd H (by simp)
end Go.Proofs.YtapcpndplnkfjaaGreatDoor.Pr
namespace Go.Proofs.YtapcpndplnkfjaaGreatDoor
open Go.RowKit Go.Proofs.YtapcpndplnkfjaaGreatDoorW.PrintWords Go.Proofs.YtapcpndplnkfjaaGreatDoorW.PrintLast Go.Proofs.YtapcpndplnkfjaaGreatDoorW.PrintMore
set_option linter.unusedVariables false
set_option linter.unusedSimpArgs false
namespace Js
def itemsF (f : S28 → Option (List UInt8)) : List S28 → Option (List (List UInt8))
  | [] => some []
  | x :: t => (f x).bind fun a => (itemsF f t).bind fun r => some (a :: r)
def pairsF (f : S28 → Option (List UInt8)) : List S28 → List ByteArray → Option (List (List UInt8))
  | [], _ => some []
  | x :: t, k :: u => if k.data.toList.length ≤ 1000000 then (f x).bind fun a => if a.length ≤ 1000000000 then (pairsF f t u).bind fun r => some ((quoteL k.data.toList ++ [58] ++ a) :: r) else none else none
  | _ :: _, [] => none
def wrapF (a b : UInt8) (l : List (List UInt8)) : Option (List UInt8) := if l.length ≤ 1000000 ∧ (Lib.join l [44]).length ≤ 1000000000 then some (a :: Lib.join l [44] ++ [b]) else none
def txF : Nat → S28 → Option (List UInt8)
  | 0, _ => none
  | n + 1, x =>
    if x.f0 = 1 then some (if x.f1 = true then [116, 114, 117, 101] else [102, 97, 108, 115, 101])
    else if x.f0 = 2 then (Pr.num_Text.f x.f2.f0 x.f2.f1 x.f2.f2).bind fun b => some b.data.toList
    else if x.f0 = 3 then (if x.f3.data.toList.length ≤ 1000000 then some (quoteL x.f3.data.toList) else none)
    else if x.f0 = 4 then (itemsF (txF n) x.f4).bind (wrapF 91 93)
    else if x.f0 = 5 then (pairsF (txF n) x.f4 x.f5).bind (wrapF 123 125)
    else some [110, 117, 108, 108]
theorem items_len {f : S28 → Option (List UInt8)} : ∀ {xs l}, itemsF f xs = some l → l.length = xs.length
  | [], l, h => by simp [itemsF] at h; subst h; rfl
  | x :: t, l, h => by
    simp only [itemsF, Option.bind_eq_some_iff] at h
    obtain ⟨a, _, r, hr, h⟩ := h
    obtain rfl : a :: r = l := by simpa using h
    simp [items_len hr]
theorem items_at {f : S28 → Option (List UInt8)} : ∀ {xs l}, itemsF f xs = some l → ∀ i, i < xs.length → f (xs.getD i z28) = some (l.getD i [])
  | [], l, h, i, hi => by simp at hi
  | x :: t, l, h, i, hi => by
    simp only [itemsF, Option.bind_eq_some_iff] at h
    obtain ⟨a, ha, r, hr, h⟩ := h
    obtain rfl : a :: r = l := by simpa using h
    match i, hi with
    | 0, _ => simpa using ha
    | i + 1, hi => simpa using items_at hr i (by simpa using hi)
theorem pairs_len {f : S28 → Option (List UInt8)} : ∀ {xs ks l}, pairsF f xs ks = some l → l.length = xs.length
  | [], _, l, h => by simp [pairsF] at h; subst h; rfl
  | _ :: _, [], l, h => by simp [pairsF] at h
  | x :: t, k :: u, l, h => by
    simp only [pairsF] at h
    split at h
    case isFalse => simp at h
    rw [Option.bind_eq_some_iff] at h
    obtain ⟨a, _, h⟩ := h
    split at h
    case isFalse => simp at h
    rw [Option.bind_eq_some_iff] at h
    obtain ⟨r, hr, h⟩ := h
    obtain rfl : _ = l := by simpa using h
    simp [pairs_len hr]
theorem pairs_at {f : S28 → Option (List UInt8)} : ∀ {xs ks l}, pairsF f xs ks = some l → ∀ i, i < xs.length → ∃ a, f (xs.getD i z28) = some a ∧ a.length ≤ 1000000000 ∧ i < ks.length ∧ (ks.getD i ⟨#[]⟩).data.toList.length ≤ 1000000 ∧ quoteL (ks.getD i ⟨#[]⟩).data.toList ++ [58] ++ a = l.getD i []
  | [], _, l, h, i, hi => by simp at hi
  | _ :: _, [], l, h, i, hi => by simp [pairsF] at h
  | x :: t, k :: u, l, h, i, hi => by
    simp only [pairsF] at h
    split at h
    case isFalse => simp at h
    next hk =>
    rw [Option.bind_eq_some_iff] at h
    obtain ⟨a, ha, h⟩ := h
    split at h
    case isFalse => simp at h
    next hl =>
    rw [Option.bind_eq_some_iff] at h
    obtain ⟨r, hr, h⟩ := h
    obtain rfl : _ = l := by simpa using h
    match i, hi with
    | 0, _ => exact ⟨a, by simpa using ha, hl, by simp, hk, by simp⟩
    | i + 1, hi =>
      obtain ⟨b, h1, h2, h3, h4, h5⟩ := pairs_at hr i (by simpa using hi)
      exact ⟨b, by simpa using h1, h2, by simpa using h3, by simpa using h4, by simpa using h5⟩
structure TI (w wr : World) (base : Nat) (v : Value) (l : List (List UInt8)) : Prop where
  r : Kd.R Kd.string 9 wr base (fun _ => True) v (l.map ofL)
  bel : Below base w wr
theorem map_join (l : List (List UInt8)) : ((l.map ofL).map (·.data.toList)) = l := by
  rw [List.map_map]
  conv => rhs; rw [← List.map_id l]
  exact List.map_congr_left (fun x _ => rfl)
theorem join_calls (l : List (List UInt8)) (base : Nat) (v : Value) (w : World) (hR : Kd.R Kd.string 9 w base (fun _ => True) v (l.map ofL)) (hl : l.length ≤ 1000000) (hj : (Lib.join l [44]).length ≤ 1000000000) :
    Calls Tryz.prog 58 #[v, .string ⟨#[44]⟩] w fun e w' => e = .returned (.string (ofL (Lib.join l [44]))) ∧ Below w.heap.size w w' := by
  by_cases hn : l = []
  · subst hn
    obtain ⟨A, c, rfl⟩ := Kd.R_slice hR
    exact (Tryz.strings_Join_none A c ⟨#[44]⟩ w).mono fun e w' ⟨h1, h2⟩ => ⟨by rw [h1]; rfl, h2 ▸ Below.refl _ _⟩
  · obtain ⟨A, c, rfl, hlc, hC⟩ := Kd.R_reads hR
    obtain ⟨g, cap, e, hg0, hg1, cells, hcells⟩ := Kd.R_form hR (by rw [List.length_map]; exact List.length_pos_iff.2 hn)
    injection e with e1 e2 e3
    subst e1
    have := Tryz.strings_Join g 0 c (l.map ofL) ⟨#[44]⟩ w (fun j x hj => by
      have hjl : j < (l.map ofL).length := (List.getElem?_eq_some_iff.1 hj).1
      obtain ⟨ad, cs, ea, _, hK, hc0⟩ := Kd.C_get hC (⟨#[]⟩ : ByteArray) (j : Int) (by omega) (by omega)
      injection ea with ea
      subst ea
      obtain rfl : cs = [.string ((l.map ofL).getD j ⟨#[]⟩)] := hK
      have := hc0 0 _ rfl
      rw [List.getD_eq_getElem?_getD, hj] at this
      have e0 : (⟨g, 0, none⟩ : Addr).add ((j : Int).toNat * Kd.string.sz + 0) = ⟨g, 0 + j, none⟩ := by show Addr.add _ (j * 1 + 0) = _; simp [Addr.add]; omega
      rw [e0] at this
      simpa using this) hg1 (by simp; omega) hlc (by rw [map_join]; exact Nat.le_trans hj (by decide))
    refine this.mono fun e w' ⟨h1, h2⟩ => ⟨?_, h2⟩
    rw [h1, map_join]
    rfl
set_option maxRecDepth 100000 in
set_option maxHeartbeats 2000000 in
theorem jtext_calls : ∀ (n : Nat) (x : S28) (r : List UInt8), txF n x = some r → ∀ (A B : Option Addr) (c c' : Nat) (w : World), PTabs w → JC w x A x.f4.length c B x.f5.length c' →
    Calls Tryz.prog 30 #[.agg #[.int .i64 x.f0, .bool x.f1, .bool x.f2.f0, .string x.f2.f1, .int .i64 x.f2.f2, .string x.f3, .slice A x.f4.length c, .slice B x.f5.length c']] w fun e w' => e = .returned (.string (ofL r)) ∧ Below w.heap.size w w'
  | 0, x, r, h => by simp [txF] at h
  | n + 1, x, r, h => by
    intro A B c c' w hT hJ
    have IH := Lib.hid (jtext_calls n)
    have HT := Lib.hid hT
    have HJ := Lib.hid hJ
    have hal := fun o => below_alloc (Below.refl w.heap.size w) o
    have HA := Lib.hid hal
    unfold txF at h
    clear hT hJ hal
    by_cases h1 : x.f0 = 1
    · rw [if_pos h1] at h
      cases hb : x.f1 with
      | true =>
        rw [hb] at h
        obtain rfl : [116, 114, 117, 101] = r := by simpa using h
        clear h
        go_enter Tryz.func30, Tryz.ntmps30
        go_wp2_with fail
        go_ret
        exact ⟨rfl, HA.out _⟩
      | false =>
        rw [hb] at h
        obtain rfl : [102, 97, 108, 115, 101] = r := by simpa using h
        clear h
        go_enter Tryz.func30, Tryz.ntmps30
        go_wp2_with fail
        go_ret
        exact ⟨rfl, HA.out _⟩
    rw [if_neg h1] at h
    have h1' : (x.f0 == 1) = false := by simpa using h1
    by_cases h2 : x.f0 = 2
    · rw [if_pos h2, Option.bind_eq_some_iff] at h
      obtain ⟨b, hb, h⟩ := h
      obtain rfl : b.data.toList = r := by simpa using h
      have HB := Lib.hid hb
      clear h hb h1
      go_enter Tryz.func30, Tryz.ntmps30
      go_wp2_with fail
      refine (Pr.num_Text.calls _ _ _ b _ (HT.out.below (HA.out _)) HB.out).mono ?_
      rintro E w1 ⟨rfl, hB⟩
      have HB1 := Lib.hid ((HA.out _).trans (hB.mono (HA.out _).size))
      go_wp2_with fail
      go_ret
      exact ⟨by rw [ofL_of]; rfl, HB1.out⟩
    rw [if_neg h2] at h
    have h2' : (x.f0 == 2) = false := by simpa using h2
    by_cases h3 : x.f0 = 3
    · rw [if_pos h3] at h
      split at h
      case isFalse => simp at h
      next hl =>
      obtain rfl : quoteL x.f3.data.toList = r := by simpa using h
      have HL := Lib.hid hl
      have HS := Lib.hid (quote_calls x.f3.data.toList hl)
      rw [ofL_of] at HS
      clear h h1 h2 hl
      go_enter Tryz.func30, Tryz.ntmps30
      go_wp2_with fail
      refine (HS.out _).mono ?_
      rintro E w1 ⟨rfl, hB⟩
      have HB1 := Lib.hid ((HA.out _).trans (hB.mono (HA.out _).size))
      go_wp2_with fail
      go_ret
      exact ⟨rfl, HB1.out⟩
    rw [if_neg h3] at h
    have h3' : (x.f0 == 3) = false := by simpa using h3
    by_cases h4 : x.f0 = 4
    · rw [if_pos h4, Option.bind_eq_some_iff] at h
      obtain ⟨l, hit, h⟩ := h
      unfold wrapF at h
      split at h
      case isFalse => simp at h
      next hl =>
      obtain rfl : 91 :: Lib.join l [44] ++ [93] = r := by simpa using h
      have HL := Lib.hid hl
      have HLEN := Lib.hid (items_len hit)
      have HAT := Lib.hid (items_at hit)
      have hn : x.f4.length ≤ 1000000 := by rw [← items_len hit]; exact hl.1
      have h4b : (x.f0 == 4) = true := by simp [h4]
      clear h h1 h2 h3 hl hit h4
      go_enter Tryz.func30, Tryz.ntmps30
      go_wp2_with fail
      have hb0 := HA.out (.cells #[.int .i64 x.f0, .bool x.f1, .bool x.f2.f0, .string x.f2.f1, .int .i64 x.f2.f2, .string x.f3, .slice A x.f4.length c, .slice B x.f5.length c'] 28)
      obtain ⟨w0, hw0⟩ : ∃ w0, w0 = w.alloc (.cells #[.int .i64 x.f0, .bool x.f1, .bool x.f2.f0, .string x.f2.f1, .int .i64 x.f2.f2, .string x.f3, .slice A x.f4.length c, .slice B x.f5.length c'] 28) := ⟨_, rfl⟩
      rw [← hw0] at hb0 ⊢
      have HB0 := Lib.hid hb0
      clear hb0 hw0
      go_loopw [3, 29] (fun v3 vi wr => ∃ (k : Nat) (u : Value), k ≤ x.f4.length ∧ u = v3 ∧ vi = .int .i64 k ∧ Hid (TI w0 wr w0.heap.size u (l.take k))) (fun v3 vi _ => x.f4.length - (intOf vi).toNat)
      case atStart => exact ⟨0, _, by omega, rfl, rfl, Lib.hid ⟨Kd.R_nil _ _ _ _ _, Below.refl _ _⟩⟩
      case round =>
        obtain ⟨k, v3, hk, hu, rfl, HI⟩ := hrel
        subst hu
        have HBW := Lib.hid (HB0.out.trans (HI.out.bel.mono HB0.out.size))
        by_cases hkl : k < x.f4.length
        · obtain ⟨ad, A6, c6, A7, c7, rfl, q0, q1, q2, q3, q4, q5, q6, q7, l6, g6, l7, g7⟩ := at_T28 (Kd.C_below HJ.out.i HBW.out) (k : Int) (by omega) (by omega)
          have hy := HAT.out k hkl
          simp only [rd_T28, Int.toNat_natCast] at q0 q1 q2 q3 q4 q5 q6 q7 l6 g6 l7 g7
          obtain ⟨y, hyy⟩ : ∃ y, y = x.f4.getD k z28 := ⟨_, rfl⟩
          obtain ⟨t, ht⟩ : ∃ t, t = l.getD k [] := ⟨_, rfl⟩
          rw [← hyy] at q0 q1 q2 q3 q4 q5 q6 q7 l6 g6 l7 g7 hy
          rw [← ht] at hy
          have HY := Lib.hid hy
          have HJY := Lib.hid (JC.mk (w := wr) (x := y) (A := A6) (n := y.f4.length) (c := c6) (B := A7) (m := y.f5.length) (c' := c7) rfl l6 g6 rfl l7 g7)
          have HTK : Hid ((l.take (k + 1)).map ofL = (l.take k).map ofL ++ [ofL t]) := Lib.hid (by
            have hkl2 : k < l.length := by rw [HLEN.out]; exact hkl
            rw [List.take_succ_eq_append_getElem hkl2, List.map_append, ht]; simp [hkl2])
          have HLN : Hid ((((l.take k).map ofL).length + 1) * 16 ≤ 140737488355328) := Lib.hid (by have := HL.out.1; simp; omega)
          clear hyy ht hy l6 g6 l7 g7
          have hal := fun o => below_alloc (Below.refl wr.heap.size wr) o
          have HAL := Lib.hid hal
          clear hal
          go_wp2_with fail
          refine (IH.out y t HY.out A6 A7 c6 c7 _ (HT.out.below (HBW.out.trans ((HAL.out _).mono HBW.out.size))) (HJY.out.below (HAL.out _))).mono ?_
          rintro E w1 ⟨rfl, hB⟩
          have hb1 := (HAL.out (.cells #[.int .i64 y.f0, .bool y.f1, .bool y.f2.f0, .string y.f2.f1, .int .i64 y.f2.f2, .string y.f3, .slice A6 y.f4.length c6, .slice A7 y.f5.length c7] 28)).trans (hB.mono (HAL.out _).size)
          have HR1 := Lib.hid (Kd.R_below HI.out.r hb1)
          have HB1 := Lib.hid (HI.out.bel.trans (hb1.mono HI.out.bel.size))
          clear hB hb1 q0 q1 q2 q3 q4 q5 q6 q7
          go_wp2_with (first | ((with_reducible refine gate_builtin (b := .append) (xs := #[.tmp 33, .tmp 36]) rfl ?_); at_builtin; refine Kd.R_append Kd.string (w0 := w0) w0.heap.size rfl (.tmp 33) (.tmp 36) 26 9 (.string ⟨#[]⟩) 16 rfl Tryz.underlying26 info9 rfl (by decide) (by decide) v3 _ (ofL t) [.string (ofL t)] (fun _ => True) (fun _ => False) rfl rfl rfl (fun _ hk => hk.elim) (fun _ _ => trivial) HR1.out HB1.out HB1.out.size HLN.out ?_; intro v9 wa hR9 hB9 hga hat))
          exact ⟨⟨k + 1, _, by omega, rfl, by simp, Lib.hid ⟨by rw [HTK.out]; exact hR9, hB9⟩⟩, by simp [intOf]; omega⟩
        · have : k = x.f4.length := by omega
          subst this
          have HR : Hid (Kd.R Kd.string 9 wr w0.heap.size (fun _ => True) v3 (l.map ofL)) := Lib.hid (by have := HI.out.r; rwa [← HLEN.out, List.take_length] at this)
          go_wp2_with fail
          refine (join_calls l _ v3 wr HR.out HL.out.1 HL.out.2).mono ?_
          rintro E w2 ⟨rfl, hB⟩
          have HB2 := Lib.hid (HBW.out.trans (hB.mono HBW.out.size))
          have HJL := Lib.hid HL.out.2
          obtain ⟨J, hJ⟩ : ∃ J, J = Lib.join l [44] := ⟨_, rfl⟩
          rw [← hJ] at HJL ⊢
          have hz1 : (ofL J).size = J.length := ofL_size J
          have hz2 : (ofL (91 :: J)).size = J.length + 1 := ofL_size _
          have hz3 : J.length ≤ 1000000000 := HJL.out
          have hS1 : (⟨#[91]⟩ : ByteArray) ++ ofL J = ofL (91 :: J) := ofL_app [91] J
          have hS2 : ofL (91 :: J) ++ (⟨#[93]⟩ : ByteArray) = ofL (91 :: J ++ [93]) := ofL_app (91 :: J) [93]
          have HJJ := Lib.hid hJ
          clear hJ hB
          go_wp2_with fail
          go_ret
          rw [← HJJ.out]
          exact ⟨rfl, HB2.out⟩
    rw [if_neg h4] at h
    have h4' : (x.f0 == 4) = false := by simpa using h4
    by_cases h5 : x.f0 = 5
    · rw [if_pos h5, Option.bind_eq_some_iff] at h
      obtain ⟨l, hit, h⟩ := h
      unfold wrapF at h
      split at h
      case isFalse => simp at h
      next hl =>
      obtain rfl : 123 :: Lib.join l [44] ++ [125] = r := by simpa using h
      have HL := Lib.hid hl
      have HLEN := Lib.hid (pairs_len hit)
      have HAT := Lib.hid (pairs_at hit)
      have hn : x.f4.length ≤ 1000000 := by rw [← pairs_len hit]; exact hl.1
      have h5b : (x.f0 == 5) = true := by simp [h5]
      clear h h1 h2 h3 hl hit h4 h5
      go_enter Tryz.func30, Tryz.ntmps30
      go_wp2_with fail
      have hb0 := HA.out (.cells #[.int .i64 x.f0, .bool x.f1, .bool x.f2.f0, .string x.f2.f1, .int .i64 x.f2.f2, .string x.f3, .slice A x.f4.length c, .slice B x.f5.length c'] 28)
      have hk0 := blk_new w (.cells #[.int .i64 x.f0, .bool x.f1, .bool x.f2.f0, .string x.f2.f1, .int .i64 x.f2.f2, .string x.f3, .slice A x.f4.length c, .slice B x.f5.length c'] 28)
      have hs0 : w.heap.size < (w.alloc (.cells #[.int .i64 x.f0, .bool x.f1, .bool x.f2.f0, .string x.f2.f1, .int .i64 x.f2.f2, .string x.f3, .slice A x.f4.length c, .slice B x.f5.length c'] 28)).heap.size := by simp
      obtain ⟨w0, hw0⟩ : ∃ w0, w0 = w.alloc (.cells #[.int .i64 x.f0, .bool x.f1, .bool x.f2.f0, .string x.f2.f1, .int .i64 x.f2.f2, .string x.f3, .slice A x.f4.length c, .slice B x.f5.length c'] 28) := ⟨_, rfl⟩
      rw [← hw0] at hb0 hk0 hs0 ⊢
      have HB0 := Lib.hid hb0
      have HK0 := Lib.hid hk0
      clear hb0 hw0 hk0 hs0
      go_loopw [3, 48] (fun v3 vi wr => ∃ (k : Nat) (u : Value), k ≤ x.f4.length ∧ u = v3 ∧ vi = .int .i64 k ∧ Hid (TI w0 wr w0.heap.size u (l.take k))) (fun v3 vi _ => x.f4.length - (intOf vi).toNat)
      case atStart => exact ⟨0, _, by omega, rfl, rfl, Lib.hid ⟨Kd.R_nil _ _ _ _ _, Below.refl _ _⟩⟩
      case round =>
        obtain ⟨k, v3, hk, hu, rfl, HI⟩ := hrel
        subst hu
        have HBW := Lib.hid (HB0.out.trans (HI.out.bel.mono HB0.out.size))
        by_cases hkl : k < x.f4.length
        · obtain ⟨ad, A6, c6, A7, c7, rfl, q0, q1, q2, q3, q4, q5, q6, q7, l6, g6, l7, g7⟩ := at_T28 (Kd.C_below HJ.out.i HBW.out) (k : Int) (by omega) (by omega)
          obtain ⟨t, hy, htl, hkk, hkey, hlk⟩ := HAT.out k hkl
          simp only [rd_T28, Int.toNat_natCast] at q0 q1 q2 q3 q4 q5 q6 q7 l6 g6 l7 g7
          obtain ⟨bd, cs, rfl, _, hcs, hbd⟩ := Kd.C_get (Kd.C_below HJ.out.s HBW.out) (⟨#[]⟩ : ByteArray) (k : Int) (by omega) (by omega)
          obtain rfl : cs = [.string (x.f5.getD k ⟨#[]⟩)] := hcs
          have hbd : wr.cell? (bd.add k) = some (.string (x.f5.getD k ⟨#[]⟩)) := by have := hbd 0 _ rfl; rwa [show (k : Int).toNat * Kd.string.sz + 0 = k by show k * 1 + 0 = k; omega] at this
          obtain ⟨y, hyy⟩ : ∃ y, y = x.f4.getD k z28 := ⟨_, rfl⟩
          obtain ⟨key, hke⟩ : ∃ key, key = (x.f5.getD k ⟨#[]⟩).data.toList := ⟨_, rfl⟩
          have hkf : x.f5.getD k ⟨#[]⟩ = ofL key := by rw [hke, ofL_of]
          rw [← hyy] at q0 q1 q2 q3 q4 q5 q6 q7 l6 g6 l7 g7 hy
          rw [hkf] at hbd
          rw [← hke] at hkey hlk
          have HQ := Lib.hid (quote_calls key hkey)
          obtain ⟨Q, hQ⟩ : ∃ Q, Q = quoteL key := ⟨_, rfl⟩
          have hQl : Q.length ≤ 6000002 := by rw [hQ]; unfold quoteL; have := quoteF_len key; simp only [List.length_append, List.length_cons, List.length_nil]; omega
          rw [← hQ] at HQ hlk
          have HY := Lib.hid hy
          have HJY0 := JC.mk (w := wr) (x := y) (A := A6) (n := y.f4.length) (c := c6) (B := A7) (m := y.f5.length) (c' := c7) rfl l6 g6 rfl l7 g7
          have HTK : Hid ((l.take (k + 1)).map ofL = (l.take k).map ofL ++ [ofL (Q ++ [58] ++ t)]) := Lib.hid (by
            have hkl2 : k < l.length := by rw [HLEN.out]; exact hkl
            rw [List.take_succ_eq_append_getElem hkl2, List.map_append, hlk]; simp [hkl2])
          have HLN : Hid ((((l.take k).map ofL).length + 1) * 16 ≤ 140737488355328) := Lib.hid (by have := HL.out.1; simp; omega)
          have hal := fun o => below_alloc (Below.refl wr.heap.size wr) o
          have hWk := blk_new wr (.cells #[.int .i64 y.f0, .bool y.f1, .bool y.f2.f0, .string y.f2.f1, .int .i64 y.f2.f2, .string y.f3, .slice A6 y.f4.length c6, .slice A7 y.f5.length c7] 28)
          have hWs : (wr.alloc (.cells #[.int .i64 y.f0, .bool y.f1, .bool y.f2.f0, .string y.f2.f1, .int .i64 y.f2.f2, .string y.f3, .slice A6 y.f4.length c6, .slice A7 y.f5.length c7] 28)).heap.size = wr.heap.size + 1 := by simp
          have hgW : w.heap.size < wr.heap.size := Nat.lt_of_lt_of_le (blk_lt HK0.out) HI.out.bel.size
          have hk7 : wr.cell? ⟨w.heap.size, 7, none⟩ = some (.slice (some bd) x.f5.length c') := (blk_cell (thru HK0.out HI.out.bel) 7).trans rfl
          have HNE : Hid (some wr.heap.size ≠ v3.ownBlock) := Lib.hid (fun h0 => by
            have := (Kd.R_bound HI.out.r).1 wr.heap.size h0.symm
            omega)
          have HKD : Hid (∀ wa : World, Below w.heap.size w wa → wa.cell? (bd.add k) = some (.string (ofL key))) := Lib.hid (fun wa hb => by
            obtain ⟨bd', cs', e', _, hcs', hbd'⟩ := Kd.C_get (Kd.C_below HJ.out.s hb) (⟨#[]⟩ : ByteArray) (k : Int) (by omega) (by omega)
            injection e' with e'
            subst e'
            obtain rfl : cs' = [.string (x.f5.getD k ⟨#[]⟩)] := hcs'
            have := hbd' 0 _ rfl
            rw [show (k : Int).toNat * Kd.string.sz + 0 = k by show k * 1 + 0 = k; omega, hkf] at this
            exact this)
          have hall : ∀ w' : World, Below (wr.alloc (.cells #[.int .i64 y.f0, .bool y.f1, .bool y.f2.f0, .string y.f2.f1, .int .i64 y.f2.f2, .string y.f3, .slice A6 y.f4.length c6, .slice A7 y.f5.length c7] 28)).heap.size (wr.alloc (.cells #[.int .i64 y.f0, .bool y.f1, .bool y.f2.f0, .string y.f2.f1, .int .i64 y.f2.f2, .string y.f3, .slice A6 y.f4.length c6, .slice A7 y.f5.length c7] 28)) w' → w'.cell? ⟨w.heap.size, 7, none⟩ = some (.slice (some bd) x.f5.length c') ∧ w'.cell? (bd.add k) = some (.string (ofL key)) ∧ w'.cell? ⟨wr.heap.size, 0, none⟩ = some (.int .i64 y.f0) ∧ w'.cell? ⟨wr.heap.size, 1, none⟩ = some (.bool y.f1) ∧ w'.cell? ⟨wr.heap.size, 2, none⟩ = some (.bool y.f2.f0) ∧ w'.cell? ⟨wr.heap.size, 3, none⟩ = some (.string y.f2.f1) ∧ w'.cell? ⟨wr.heap.size, 4, none⟩ = some (.int .i64 y.f2.f2) ∧ w'.cell? ⟨wr.heap.size, 5, none⟩ = some (.string y.f3) ∧ w'.cell? ⟨wr.heap.size, 6, none⟩ = some (.slice A6 y.f4.length c6) ∧ w'.cell? ⟨wr.heap.size, 7, none⟩ = some (.slice A7 y.f5.length c7) := fun w' hb => by
            have h1 := (hal (.cells #[.int .i64 y.f0, .bool y.f1, .bool y.f2.f0, .string y.f2.f1, .int .i64 y.f2.f2, .string y.f3, .slice A6 y.f4.length c6, .slice A7 y.f5.length c7] 28)).trans (hb.mono (hal _).size)
            have h2 := thru hWk hb
            exact ⟨pw_cell_below h1 hk7, pw_cell_below h1 hbd, (blk_cell h2 0).trans rfl, (blk_cell h2 1).trans rfl, (blk_cell h2 2).trans rfl, (blk_cell h2 3).trans rfl, (blk_cell h2 4).trans rfl, (blk_cell h2 5).trans rfl, (blk_cell h2 6).trans rfl, (blk_cell h2 7).trans rfl⟩
          have hst := hall _ (below_drew1 (Below.refl _ _))
          have HSB0 := Lib.hid hall
          have HAL := Lib.hid hal
          have HKB := Lib.hid (And.intro hk7 (And.intro hbd (And.intro hWk hgW)))
          have hz1 : (ofL Q).size = Q.length := ofL_size _
          have hz2 : (ofL (Q ++ [58])).size = Q.length + 1 := by rw [ofL_size]; simp
          have hz3 : (ofL t).size = t.length := ofL_size _
          have hz4 : ¬ (9223372036854775807 < Q.length + 1) := by omega
          have hz5 : ¬ (9223372036854775807 < Q.length + 1 + t.length) := by omega
          have hS1 : ofL Q ++ (⟨#[58]⟩ : ByteArray) = ofL (Q ++ [58]) := ofL_app Q [58]
          have hS2 : ofL (Q ++ [58]) ++ ofL t = ofL (Q ++ [58] ++ t) := ofL_app _ _
          clear hyy hke hkf hQ hy hbd l6 g6 l7 g7 hal hWk hWs hgW hk7 hall hlk hkey htl
          go_upto_region 22 with fail
          refine start_ (n := 14) (S := fun w' => w'.cell? ⟨w.heap.size, 7, none⟩ = some (.slice (some bd) x.f5.length c') ∧ w'.cell? (bd.add k) = some (.string (ofL key)) ∧ w'.cell? ⟨wr.heap.size, 0, none⟩ = some (.int .i64 y.f0) ∧ w'.cell? ⟨wr.heap.size, 1, none⟩ = some (.bool y.f1) ∧ w'.cell? ⟨wr.heap.size, 2, none⟩ = some (.bool y.f2.f0) ∧ w'.cell? ⟨wr.heap.size, 3, none⟩ = some (.string y.f2.f1) ∧ w'.cell? ⟨wr.heap.size, 4, none⟩ = some (.int .i64 y.f2.f2) ∧ w'.cell? ⟨wr.heap.size, 5, none⟩ = some (.string y.f3) ∧ w'.cell? ⟨wr.heap.size, 6, none⟩ = some (.slice A6 y.f4.length c6) ∧ w'.cell? ⟨wr.heap.size, 7, none⟩ = some (.slice A7 y.f5.length c7)) (ds := []) #[false, false, false, false, false, false, false, false, false, false, false, false, false, false] (by kernel_rfl) rfl rfl hst (fun hHeld => ?_)
          have hWd := (HAL.out (.cells #[.int .i64 y.f0, .bool y.f1, .bool y.f2.f0, .string y.f2.f1, .int .i64 y.f2.f2, .string y.f3, .slice A6 y.f4.length c6, .slice A7 y.f5.length c7] 28)).trans ((below_drew1 (Below.refl (wr.alloc (.cells #[.int .i64 y.f0, .bool y.f1, .bool y.f2.f0, .string y.f2.f1, .int .i64 y.f2.f2, .string y.f3, .slice A6 y.f4.length c6, .slice A7 y.f5.length c7] 28)).heap.size (wr.alloc (.cells #[.int .i64 y.f0, .bool y.f1, .bool y.f2.f0, .string y.f2.f1, .int .i64 y.f2.f2, .string y.f3, .slice A6 y.f4.length c6, .slice A7 y.f5.length c7] 28)))).mono (HAL.out _).size)
          have hSd : ∀ w', Below (wr.alloc (.cells #[.int .i64 y.f0, .bool y.f1, .bool y.f2.f0, .string y.f2.f1, .int .i64 y.f2.f2, .string y.f3, .slice A6 y.f4.length c6, .slice A7 y.f5.length c7] 28)).drew.heap.size (wr.alloc (.cells #[.int .i64 y.f0, .bool y.f1, .bool y.f2.f0, .string y.f2.f1, .int .i64 y.f2.f2, .string y.f3, .slice A6 y.f4.length c6, .slice A7 y.f5.length c7] 28)).drew w' → w'.cell? ⟨w.heap.size, 7, none⟩ = some (.slice (some bd) x.f5.length c') ∧ w'.cell? (bd.add k) = some (.string (ofL key)) ∧ w'.cell? ⟨wr.heap.size, 0, none⟩ = some (.int .i64 y.f0) ∧ w'.cell? ⟨wr.heap.size, 1, none⟩ = some (.bool y.f1) ∧ w'.cell? ⟨wr.heap.size, 2, none⟩ = some (.bool y.f2.f0) ∧ w'.cell? ⟨wr.heap.size, 3, none⟩ = some (.string y.f2.f1) ∧ w'.cell? ⟨wr.heap.size, 4, none⟩ = some (.int .i64 y.f2.f2) ∧ w'.cell? ⟨wr.heap.size, 5, none⟩ = some (.string y.f3) ∧ w'.cell? ⟨wr.heap.size, 6, none⟩ = some (.slice A6 y.f4.length c6) ∧ w'.cell? ⟨wr.heap.size, 7, none⟩ = some (.slice A7 y.f5.length c7) := fun w' hb => HSB0.out w' ((below_drew1 (Below.refl _ _)).trans (hb.mono (Nat.le_refl _)))
          have hEd : (wr.alloc (.cells #[.int .i64 y.f0, .bool y.f1, .bool y.f2.f0, .string y.f2.f1, .int .i64 y.f2.f2, .string y.f3, .slice A6 y.f4.length c6, .slice A7 y.f5.length c7] 28)).drew.heap[wr.heap.size]? = some (.cells #[.int .i64 y.f0, .bool y.f1, .bool y.f2.f0, .string y.f2.f1, .int .i64 y.f2.f2, .string y.f3, .slice A6 y.f4.length c6, .slice A7 y.f5.length c7] 28 (0, 0)) := blk_drew HKB.out.2.2.1
          generalize (wr.alloc (.cells #[.int .i64 y.f0, .bool y.f1, .bool y.f2.f0, .string y.f2.f1, .int .i64 y.f2.f2, .string y.f3, .slice A6 y.f4.length c6, .slice A7 y.f5.length c7] 28)).drew = wd at hWd hSd hEd hHeld ⊢
          have HBX : Hid (∀ w', Below wd.heap.size wd w' → Below w.heap.size w w') := Lib.hid (fun w' hb => HBW.out.trans ((hWd.trans (hb.mono hWd.size)).mono HBW.out.size))
          have HSB := Lib.hid hSd
          have HJY := Lib.hid (HJY0.below hWd)
          have HI : Hid (TI w0 wd w0.heap.size v3 (l.take k)) := Lib.hid ⟨Kd.R_below HI.out.r hWd, HI.out.bel.trans (hWd.mono HI.out.bel.size)⟩
          have HBd := Lib.hid (Below.refl wd.heap.size wd)
          have HSG : Hid (∀ w2 wa : World, Below wd.heap.size wd w2 → Below w0.heap.size w0 wa → w2.grownBy wa v3.ownBlock → (fun w' : World => w'.cell? ⟨w.heap.size, 7, none⟩ = some (.slice (some bd) x.f5.length c') ∧ w'.cell? (bd.add k) = some (.string (ofL key)) ∧ w'.cell? ⟨wr.heap.size, 0, none⟩ = some (.int .i64 y.f0) ∧ w'.cell? ⟨wr.heap.size, 1, none⟩ = some (.bool y.f1) ∧ w'.cell? ⟨wr.heap.size, 2, none⟩ = some (.bool y.f2.f0) ∧ w'.cell? ⟨wr.heap.size, 3, none⟩ = some (.string y.f2.f1) ∧ w'.cell? ⟨wr.heap.size, 4, none⟩ = some (.int .i64 y.f2.f2) ∧ w'.cell? ⟨wr.heap.size, 5, none⟩ = some (.string y.f3) ∧ w'.cell? ⟨wr.heap.size, 6, none⟩ = some (.slice A6 y.f4.length c6) ∧ w'.cell? ⟨wr.heap.size, 7, none⟩ = some (.slice A7 y.f5.length c7)) wa) := Lib.hid (fun w2 wa hb hB9 hga => by
            have h2 := thru hEd hb
            have h3 : wa.heap[wr.heap.size]? = some (.cells #[.int .i64 y.f0, .bool y.f1, .bool y.f2.f0, .string y.f2.f1, .int .i64 y.f2.f2, .string y.f3, .slice A6 y.f4.length c6, .slice A7 y.f5.length c7] 28 (0, 0)) := (hga.block wr.heap.size (blk_lt h2) HNE.out).trans h2
            have h4 := thru HK0.out hB9
            exact ⟨(blk_cell h4 7).trans rfl, HKD.out wa (HB0.out.trans (hB9.mono HB0.out.size)), (blk_cell h3 0).trans rfl, (blk_cell h3 1).trans rfl, (blk_cell h3 2).trans rfl, (blk_cell h3 3).trans rfl, (blk_cell h3 4).trans rfl, (blk_cell h3 5).trans rfl, (blk_cell h3 6).trans rfl, (blk_cell h3 7).trans rfl⟩)
          clear hWd hSd hEd hst HSB0 HAL HKB HJY0
          refine pure_ (i := 0) (N := some 53) (v := ?_) (a' := ?_) #[true, false, false, false, false, false, false, false, false, false, false, false, false, false] rfl rfl (by kernel_rfl) (fun _ _ _ h => h) (Or.inl ⟨by rfl, ?_⟩) ?_ ?_
          rotate_left
          · intro w'
            go_simp
            with_reducible rfl
          rotate_left
          · simp only [Act.put, List.setIfInBounds_toArray, List.set_cons_zero, List.set_cons_succ, i64_w, i32_w]
            rfl
          refine pure_ (i := 1) (N := some 54) (v := ?_) (a' := ?_) #[true, true, false, false, false, false, false, false, false, false, false, false, false, false] rfl rfl (by kernel_rfl) (fun _ _ _ h => h) (Or.inl ⟨by rfl, ?_⟩) ?_ ?_
          rotate_left
          · intro w'
            go_simp
            with_reducible rfl
          rotate_left
          · simp only [Act.put, List.setIfInBounds_toArray, List.set_cons_zero, List.set_cons_succ, i64_w, i32_w]
            rfl
          refine take_ (i := 2) (N := some 55) (v := ?_) (a' := ?_) #[true, true, true, false, false, false, false, false, false, false, false, false, false, false] rfl rfl (by kernel_rfl) (fun _ _ _ h => h) (Or.inl ⟨by rfl, ?_⟩) hHeld ?_ ?_
          rotate_left
          · rintro w' ⟨s0, s1, s2, s3, s4, s5, s6, s7, s8, s9⟩
            go_simp
            with_reducible rfl
          rotate_left
          · simp only [Act.put, List.setIfInBounds_toArray, List.set_cons_zero, List.set_cons_succ, i64_w, i32_w]
            rfl
          refine pure_ (i := 3) (N := some 56) (v := ?_) (a' := ?_) #[true, true, true, true, false, false, false, false, false, false, false, false, false, false] rfl rfl (by kernel_rfl) (fun _ _ _ h => h) (Or.inl ⟨by rfl, ?_⟩) ?_ ?_
          rotate_left
          · intro w'
            go_simp
            with_reducible rfl
          rotate_left
          · simp only [Act.put, List.setIfInBounds_toArray, List.set_cons_zero, List.set_cons_succ, i64_w, i32_w]
            rfl
          refine pure_ (i := 4) (N := some 57) (v := ?_) (a' := ?_) #[true, true, true, true, true, false, false, false, false, false, false, false, false, false] rfl rfl (by kernel_rfl) (fun _ _ _ h => h) (Or.inl ⟨by rfl, ?_⟩) ?_ ?_
          rotate_left
          · intro w'
            go_simp
            with_reducible rfl
          rotate_left
          · simp only [Act.put, List.setIfInBounds_toArray, List.set_cons_zero, List.set_cons_succ, i64_w, i32_w]
            rfl
          refine take_ (i := 5) (N := some 58) (v := ?_) (a' := ?_) #[true, true, true, true, true, true, false, false, false, false, false, false, false, false] rfl rfl (by kernel_rfl) (fun _ _ _ h => h) (Or.inl ⟨by rfl, ?_⟩) hHeld ?_ ?_
          rotate_left
          · rintro w' ⟨s0, s1, s2, s3, s4, s5, s6, s7, s8, s9⟩
            go_simp
            with_reducible rfl
          rotate_left
          · simp only [Act.put, List.setIfInBounds_toArray, List.set_cons_zero, List.set_cons_succ, i64_w, i32_w]
            rfl
          refine take_ (i := 8) (N := some 61) (v := ?_) (a' := ?_) #[true, true, true, true, true, true, false, false, true, false, false, false, false, false] rfl rfl (by kernel_rfl) (fun _ _ _ h => h) (Or.inl ⟨by rfl, ?_⟩) hHeld ?_ ?_
          rotate_left
          · rintro w' ⟨s0, s1, s2, s3, s4, s5, s6, s7, s8, s9⟩
            go_simp
            with_reducible rfl
          rotate_left
          · simp only [Act.put, List.setIfInBounds_toArray, List.set_cons_zero, List.set_cons_succ, i64_w, i32_w]
            rfl
          refine one_ (i := 6) (N := some 59) #[true, true, true, true, true, true, true, false, true, false, false, false, false, false] rfl rfl (by kernel_rfl) (by decide) (fun K hK => ?_)
          refine call_ 57 #[.string (ofL key)] (by rfl) rfl ?_ ?_
          · go_simp
          refine (HQ.out wd).mono ?_
          rintro E w1 ⟨rfl, hB⟩
          have HB1 := Lib.hid (HBd.out.trans (hB.mono HBd.out.size))
          refine ⟨_, rfl, hK.out _ _ (HSB.out _ HB1.out) (fun hHeld => ?_)⟩
          clear hK K hB
          refine norm_ (a' := ?_) ?_ ?_
          rotate_left
          · show Act.put _ (some 59) _ = _
            simp only [Act.put, List.setIfInBounds_toArray, List.set_cons_zero, List.set_cons_succ, i64_w, i32_w]
            rfl
          refine pure_ (i := 7) (N := some 60) (v := ?_) (a' := ?_) #[true, true, true, true, true, true, true, true, true, false, false, false, false, false] rfl rfl (by kernel_rfl) (fun _ _ _ h => h) (Or.inl ⟨by rfl, ?_⟩) ?_ ?_
          rotate_left
          · intro w'
            go_simp
            with_reducible rfl
          rotate_left
          · simp only [Act.put, List.setIfInBounds_toArray, List.set_cons_zero, List.set_cons_succ, i64_w, i32_w]
            rfl
          refine one_ (i := 9) (N := some 62) #[true, true, true, true, true, true, true, true, true, true, false, false, false, false] rfl rfl (by kernel_rfl) (by decide) (fun K hK => ?_)
          refine call_ 30 #[.agg #[.int .i64 y.f0, .bool y.f1, .bool y.f2.f0, .string y.f2.f1, .int .i64 y.f2.f2, .string y.f3, .slice A6 y.f4.length c6, .slice A7 y.f5.length c7]] (by rfl) rfl ?_ ?_
          · go_simp
          refine (IH.out y t HY.out A6 A7 c6 c7 w1 (HT.out.below (HBX.out _ HB1.out)) (HJY.out.below HB1.out)).mono ?_
          rintro E w2 ⟨rfl, hB⟩
          have HB2 := Lib.hid (HB1.out.trans (hB.mono HB1.out.size))
          refine ⟨_, rfl, hK.out _ _ (HSB.out _ HB2.out) (fun hHeld => ?_)⟩
          clear hK K hB
          refine norm_ (a' := ?_) ?_ ?_
          rotate_left
          · show Act.put _ (some 62) _ = _
            simp only [Act.put, List.setIfInBounds_toArray, List.set_cons_zero, List.set_cons_succ, i64_w, i32_w]
            rfl
          refine pure_ (i := 10) (N := some 63) (v := ?_) (a' := ?_) #[true, true, true, true, true, true, true, true, true, true, true, false, false, false] rfl rfl (by kernel_rfl) (fun _ _ _ h => h) (Or.inl ⟨by rfl, ?_⟩) ?_ ?_
          rotate_left
          · intro w'
            go_simp
            with_reducible rfl
          rotate_left
          · simp only [Act.put, List.setIfInBounds_toArray, List.set_cons_zero, List.set_cons_succ, i64_w, i32_w]
            rfl
          refine one_ (i := 11) (N := some 64) #[true, true, true, true, true, true, true, true, true, true, true, true, false, false] rfl rfl (by kernel_rfl) (by decide) (fun K hK => ?_)
          refine value_ (v := .slice (some ⟨w2.heap.size, 0, none⟩) 1 1) (w1 := w2.alloc (.cells #[.string (ofL (Q ++ [58] ++ t))] 9)) (by rfl) rfl ?_ ?_
          · go_simp
          refine hK.out _ _ (HSB.out _ (below_alloc HB2.out _)) (fun hHeld => ?_)
          clear hK K
          refine norm_ (a' := ?_) ?_ ?_
          rotate_left
          · show Act.put _ (some 64) _ = _
            simp only [Act.put, List.setIfInBounds_toArray, List.set_cons_zero, List.set_cons_succ, i64_w, i32_w]
            rfl
          refine one_ (i := 12) (N := some 65) #[true, true, true, true, true, true, true, true, true, true, true, true, true, false] rfl rfl (by kernel_rfl) (by decide) (fun K hK => ?_)
          refine Kd.R_append_step Kd.string (w0 := w0) w0.heap.size (by rfl) (.tmp 53) (.tmp 64) 26 9 (.string ⟨#[]⟩) 16 rfl Tryz.underlying26 info9 rfl (by decide) (by decide) v3 _ (ofL (Q ++ [58] ++ t)) [.string (ofL (Q ++ [58] ++ t))] (fun _ => True) (fun _ => False) rfl rfl rfl (fun _ hk => hk.elim) (fun _ _ => trivial) (Kd.R_below HI.out.r HB2.out) (HI.out.bel.trans (HB2.out.mono HI.out.bel.size)) (Nat.le_trans HI.out.bel.size HB2.out.size) HLN.out ?_
          intro v9 wa hR9 hB9 hga hat
          refine hK.out _ _ (HSG.out _ _ HB2.out hB9 hga) (fun hHeld => ?_)
          clear hK K
          refine norm_ (a' := ?_) ?_ ?_
          rotate_left
          · show Act.put _ (some 65) _ = _
            simp only [Act.put, List.setIfInBounds_toArray, List.set_cons_zero, List.set_cons_succ, i64_w, i32_w]
            rfl
          refine pure_ (i := 13) (N := some 3) (v := ?_) (a' := ?_) #[true, true, true, true, true, true, true, true, true, true, true, true, true, true] rfl rfl (by kernel_rfl) (fun _ _ _ h => h) (Or.inl ⟨by rfl, ?_⟩) ?_ ?_
          rotate_left
          · intro w'
            go_simp
            with_reducible rfl
          rotate_left
          · simp only [Act.put, List.setIfInBounds_toArray, List.set_cons_zero, List.set_cons_succ, i64_w, i32_w]
            rfl
          refine done_ (by kernel_rfl) ?_
          clear hz1 hz2 hz3 hz4 hz5 hS1 hS2
          go_wp2_with fail
          exact ⟨⟨k + 1, _, by omega, rfl, by simp, Lib.hid ⟨by rw [HTK.out]; exact hR9, hB9⟩⟩, by simp [intOf]; omega⟩
        · have : k = x.f4.length := by omega
          subst this
          have HR : Hid (Kd.R Kd.string 9 wr w0.heap.size (fun _ => True) v3 (l.map ofL)) := Lib.hid (by have := HI.out.r; rwa [← HLEN.out, List.take_length] at this)
          go_wp2_with fail
          refine (join_calls l _ v3 wr HR.out HL.out.1 HL.out.2).mono ?_
          rintro E w2 ⟨rfl, hB⟩
          have HB2 := Lib.hid (HBW.out.trans (hB.mono HBW.out.size))
          have HJL := Lib.hid HL.out.2
          obtain ⟨J, hJ⟩ : ∃ J, J = Lib.join l [44] := ⟨_, rfl⟩
          rw [← hJ] at HJL ⊢
          have hz1 : (ofL J).size = J.length := ofL_size J
          have hz2 : (ofL (123 :: J)).size = J.length + 1 := ofL_size _
          have hz3 : J.length ≤ 1000000000 := HJL.out
          have hS1 : (⟨#[123]⟩ : ByteArray) ++ ofL J = ofL (123 :: J) := ofL_app [123] J
          have hS2 : ofL (123 :: J) ++ (⟨#[125]⟩ : ByteArray) = ofL (123 :: J ++ [125]) := ofL_app (123 :: J) [125]
          have HJJ := Lib.hid hJ
          clear hJ hB
          go_wp2_with fail
          go_ret
          rw [← HJJ.out]
          exact ⟨rfl, HB2.out⟩
    rw [if_neg h5] at h
    have h5' : (x.f0 == 5) = false := by simpa using h5
    obtain rfl : [110, 117, 108, 108] = r := by simpa using h
    clear h h1 h2 h3 h4 h5
    go_enter Tryz.func30, Tryz.ntmps30
    go_wp2_with fail
    go_ret
    exact ⟨rfl, HA.out _⟩
end Js
end Go.Proofs.YtapcpndplnkfjaaGreatDoor
namespace Go.Proofs.YtapcpndplnkfjaaGreatDoor
open Go.RowKit Go.Proofs.YtapcpndplnkfjaaGreatDoorW.PrintWords Go.Proofs.YtapcpndplnkfjaaGreatDoorW.PrintLast Go.Proofs.YtapcpndplnkfjaaGreatDoorW.PrintMore
set_option linter.unusedVariables false
set_option linter.unusedSimpArgs false
namespace Js
theorem jparseR (s : List UInt8) (w : World) (hT : Tabs w) (x : S28) (e : Int) (h : pv s = (x, e)) :
    Calls Tryz.prog 16 #[.string (ofL s)] w fun E w' => ∃ A c B c', E = .returned (.tuple #[.agg #[.int .i64 x.f0, .bool x.f1, .bool x.f2.f0, .string x.f2.f1, .int .i64 x.f2.f2, .string x.f3, .slice A x.f4.length c, .slice B x.f5.length c'], .int .i64 e]) ∧
      JC w' x A x.f4.length c B x.f5.length c' ∧ Kd.string.R 9 w' w.heap.size (fun _ => True) (.slice B x.f5.length c') x.f5 ∧ Below w.heap.size w w' := by
  have hx : x = (parseV (fvN 17) s).1 := by rw [show parseV (fvN 17) s = (x, e) from h]
  have he : e = (parseV (fvN 17) s).2 := by rw [show parseV (fvN 17) s = (x, e) from h]
  subst hx he
  refine (json_calls s w hT).mono fun E w' ⟨v, h1, ⟨cs, h2, h3⟩, h4⟩ => ?_
  obtain ⟨v6, v7, rfl, g6, g7⟩ := k28_openM h3
  obtain ⟨A, c, rfl, hl6, h6⟩ := Kd.R_reads g6
  obtain ⟨B, c', rfl, hl7, h7⟩ := Kd.R_reads g7
  exact ⟨A, c, B, c', by rw [h1, h2], ⟨rfl, hl6, h6, rfl, hl7, h7⟩, Kd.R_mono g7 (fun _ _ => trivial), h4⟩
theorem find_calls (x : S28) (key : ByteArray) (h5 : x.f0 = 5) (v6 v7 : Value) (base : Nat) (w : World) (hR : Kd.string.R 9 w base (fun _ => True) v7 x.f5) (hl : x.f5.length ≤ 1000000) :
    Calls Tryz.prog 33 #[.agg #[.int .i64 x.f0, .bool x.f1, .bool x.f2.f0, .string x.f2.f1, .int .i64 x.f2.f2, .string x.f3, v6, v7], .string key] w fun e w' => e = .returned (.tuple #[.int .i64 (pos x.f5 key : Nat), .bool (has x.f5 key)]) ∧ Below w.heap.size w w' := by
  have h5b : (x.f0 != 5) = false := by simp [h5]
  have hal := fun o => below_alloc (Below.refl w.heap.size w) o
  have HA := Lib.hid hal
  have HS := Lib.hid (fun o => search_calls key (Kd.R_below hR (hal o)) hl)
  obtain ⟨A, c, rfl⟩ := Kd.R_slice hR
  clear hR hal h5 hl
  go_enter Tryz.func33, Tryz.ntmps33
  go_wp2_with fail
  refine (HS.out _).mono ?_
  rintro E w1 ⟨rfl, q, rfl⟩
  go_wp2_with fail
  go_ret2
  exact ⟨rfl, pw_below_drewN (HA.out _) _⟩
end Js
end Go.Proofs.YtapcpndplnkfjaaGreatDoor
namespace Go.Proofs.YtapcpndplnkfjaaGreatDoor.Pr
open Go.RowKit Go.Proofs.YtapcpndplnkfjaaGreatDoorW.PrintWords Go.Proofs.YtapcpndplnkfjaaGreatDoorW.PrintLast Go.Proofs.YtapcpndplnkfjaaGreatDoorW.PrintMore
attribute [local go_sem] max2_int min2_int max_two min_two max_three min_three max_four min_four
set_option linter.unusedVariables false
set_option linter.unusedSimpArgs false
end Go.Proofs.YtapcpndplnkfjaaGreatDoor.Pr
namespace Go.Proofs.YtapcpndplnkfjaaGreatDoor.Pr
open Go.RowKit Go.Proofs.YtapcpndplnkfjaaGreatDoorW.PrintWords Go.Proofs.YtapcpndplnkfjaaGreatDoorW.PrintLast Go.Proofs.YtapcpndplnkfjaaGreatDoorW.PrintMore
attribute [local go_sem] max2_int min2_int max_two min_two max_three min_three max_four min_four
set_option linter.unusedVariables false
set_option linter.unusedSimpArgs false
end Go.Proofs.YtapcpndplnkfjaaGreatDoor.Pr
namespace Go.Proofs.YtapcpndplnkfjaaGreatDoor.Pr
open Go.RowKit Go.Proofs.YtapcpndplnkfjaaGreatDoorW.PrintWords Go.Proofs.YtapcpndplnkfjaaGreatDoorW.PrintLast Go.Proofs.YtapcpndplnkfjaaGreatDoorW.PrintMore
attribute [local go_sem] max2_int min2_int max_two min_two max_three min_three max_four min_four
set_option linter.unusedVariables false
set_option linter.unusedSimpArgs false
end Go.Proofs.YtapcpndplnkfjaaGreatDoor.Pr
namespace Go.Proofs.YtapcpndplnkfjaaGreatDoor.Pr
open Go.RowKit Go.Proofs.YtapcpndplnkfjaaGreatDoorW.PrintWords Go.Proofs.YtapcpndplnkfjaaGreatDoorW.PrintLast Go.Proofs.YtapcpndplnkfjaaGreatDoorW.PrintMore
attribute [local go_sem] max2_int min2_int max_two min_two max_three min_three max_four min_four
set_option linter.unusedVariables false
set_option linter.unusedSimpArgs false
end Go.Proofs.YtapcpndplnkfjaaGreatDoor.Pr
namespace Go.Proofs.YtapcpndplnkfjaaGreatDoor
open Go.RowKit Go.Proofs.YtapcpndplnkfjaaGreatDoorW.PrintWords Pr
theorem w1 (i n : Nat) (h : i ≤ n) (hn : n ≤ 1000000000000000000) : wrap64 ((i : Int) + 1) = ((i + 1 : Nat) : Int) := by unfold wrap64; omega
end Go.Proofs.YtapcpndplnkfjaaGreatDoor
namespace Go.Proofs.YtapcpndplnkfjaaGreatDoor
open Go.RowKit Go.Proofs.YtapcpndplnkfjaaGreatDoorW.PrintWords Pr
def sideP (n : NumP.NumV) : Int := if n.2.1 = [] then 0 else if n.1 = true then -1 else 1
def cmpI (a b : Int) : Int := if a < b then -1 else if a > b then 1 else 0
def cmpA (a b : NumP.NumV) : Int := if cmpI ((a.2.1.length : Int) + a.2.2) ((b.2.1.length : Int) + b.2.2) = 0 then Lib.compareBytes a.2.1 b.2.1 else cmpI ((a.2.1.length : Int) + a.2.2) ((b.2.1.length : Int) + b.2.2)
def cmpP (a b : NumP.NumV) : Int := if cmpI (sideP a) (sideP b) ≠ 0 ∨ sideP a = 0 then cmpI (sideP a) (sideP b) else sideP a * cmpA a b
theorem side_f (d : Bool) (D : List UInt8) (e : Int) : num_Num_side.f d (ofL D) e = some (sideP (d, D, e)) := by
  unfold num_Num_side.f sideP
  rw [ofL_toList]
  by_cases h : D = []
  · rw [if_pos h, if_pos h]
  · rw [if_neg h, if_neg h]; cases d <;> rfl
theorem cmpI_f (a b : Int) : cmp_Compare_int.f a b = some (cmpI a b) := by
  unfold cmp_Compare_int.f cmp_isNaN_int.f cmpI
  simp only [Option.bind_some, bne_self_eq_false, Bool.false_eq_true, if_false]
  by_cases h : a < b
  · rw [if_pos h, if_pos h]
  · rw [if_neg h, if_neg h]; by_cases h2 : a > b
    · rw [if_pos h2, if_pos h2]
    · rw [if_neg h2, if_neg h2]
theorem or_ev (a b : Int) : Ev (fun k => cmp_Or_int.f k [a, b]) (if a = 0 then b else a) := by
  refine Ev.of (fun k => cmp_Or_int.mono _ k) (k := 3) ?_
  unfold cmp_Or_int.f
  simp only [cmp_Or_int.l0, List.length_cons, List.length_nil]
  have w1 : wrap64 (0 + 1) = 1 := by unfold wrap64; omega
  have w2 : wrap64 (1 + 1) = 2 := by unfold wrap64; omega
  simp only [w1, w2, rd]
  by_cases h : a = 0
  · subst h; by_cases h2 : b = 0 <;> simp [h2]
  · simp [h]
theorem compare_bd (a b : List UInt8) : -1 ≤ Lib.compareBytes a b ∧ Lib.compareBytes a b ≤ 1 := by
  induction a generalizing b with
  | nil => cases b <;> simp [Lib.compareBytes]
  | cons x t ih =>
    cases b with
    | nil => simp [Lib.compareBytes]
    | cons y u =>
      simp only [Lib.compareBytes]
      split
      · omega
      · split
        · omega
        · exact ih u
theorem cmpA_bd (a b : NumP.NumV) : -1 ≤ cmpA a b ∧ cmpA a b ≤ 1 := by
  have := compare_bd a.2.1 b.2.1
  unfold cmpA
  by_cases h : cmpI ((a.2.1.length : Int) + a.2.2) ((b.2.1.length : Int) + b.2.2) = 0
  · rw [if_pos h]; exact this
  · rw [if_neg h]; unfold cmpI; split
    · omega
    · split <;> omega
theorem compare_ev (a b : NumP.NumV) (ha : a.2.1.length ≤ 1000000000000000000 ∧ -1000000000000000000 ≤ a.2.2 ∧ a.2.2 ≤ 1000000000000000000) (hb : b.2.1.length ≤ 1000000000000000000 ∧ -1000000000000000000 ≤ b.2.2 ∧ b.2.2 ≤ 1000000000000000000) :
    Ev (fun k => num_Compare.f k a.1 (ofL a.2.1) a.2.2 b.1 (ofL b.2.1) b.2.2) (cmpP a b) := by
  have sa := side_f a.1 a.2.1 a.2.2
  have sb := side_f b.1 b.2.1 b.2.2
  unfold cmpP
  by_cases hc : cmpI (sideP a) (sideP b) = 0
  · by_cases h0 : sideP a = 0
    · rw [if_pos (.inr h0)]
      refine Ev.congr (f := fun k => num_Compare.j0 k (cmpI (sideP a) (sideP b)) true a.1 (ofL a.2.1) a.2.2 b.1 (ofL b.2.1) b.2.2) (fun k => ?_) (Ev.step (f := fun _ => some (cmpI (sideP a) (sideP b))) (fun k => by simp only [num_Compare.j0, if_true]) (Ev.now _))
      unfold num_Compare.f
      rw [sa, sb]; simp only [Option.bind_some]; rw [cmpI_f]; simp only [Option.bind_some]
      rw [if_pos hc, show (sideP (a.1, a.2.1, a.2.2) == 0) = true by simpa using h0]
    · rw [if_neg (by rintro (h | h); exact h hc; exact h0 h)]
      refine Ev.congr (f := fun k => num_Compare.j0 k (cmpI (sideP a) (sideP b)) false a.1 (ofL a.2.1) a.2.2 b.1 (ofL b.2.1) b.2.2) (fun k => ?_) ?_
      · unfold num_Compare.f
        rw [sa, sb]; simp only [Option.bind_some]; rw [cmpI_f]; simp only [Option.bind_some]
        rw [if_pos hc, show (sideP (a.1, a.2.1, a.2.2) == 0) = false by simpa using h0]
      · have hor := or_ev (cmpI ((a.2.1.length : Int) + a.2.2) ((b.2.1.length : Int) + b.2.2)) (Lib.compareBytes a.2.1 b.2.1)
        refine Ev.step (f := fun k => (cmp_Or_int.f k [cmpI ((a.2.1.length : Int) + a.2.2) ((b.2.1.length : Int) + b.2.2), Lib.compareBytes a.2.1 b.2.1]).bind fun t => some (wrap64 (sideP a * t))) (fun k => ?_) (Ev.bind hor ?_)
        · simp only [num_Compare.j0, ofL_size]
          rw [if_neg (by simp), show wrap64 ((a.2.1.length : Int) + a.2.2) = (a.2.1.length : Int) + a.2.2 by unfold wrap64; omega, show wrap64 ((b.2.1.length : Int) + b.2.2) = (b.2.1.length : Int) + b.2.2 by unfold wrap64; omega, cmpI_f]
          simp only [Option.bind_some]
          rw [sa]; simp only [Option.bind_some]
          rfl
        · refine Ev.congr (fun k => ?_) (Ev.now _)
          have hbd := cmpA_bd a b
          have hs : sideP a = 1 ∨ sideP a = -1 := by
            unfold sideP at h0 ⊢
            split at h0
            · exact absurd rfl h0
            · rename_i h; rw [if_neg h]; split <;> simp
          change some (wrap64 (sideP a * cmpA a b)) = _
          rcases hs with h | h <;> rw [h] <;> congr 1 <;> unfold wrap64 <;> omega
  · rw [if_pos (.inl hc)]
    refine Ev.congr (f := fun k => num_Compare.j0 k (cmpI (sideP a) (sideP b)) true a.1 (ofL a.2.1) a.2.2 b.1 (ofL b.2.1) b.2.2) (fun k => ?_) (Ev.step (f := fun _ => some (cmpI (sideP a) (sideP b))) (fun k => by simp only [num_Compare.j0, if_true]) (Ev.now _))
    unfold num_Compare.f
    rw [sa, sb]; simp only [Option.bind_some]; rw [cmpI_f]; simp only [Option.bind_some]
    rw [if_neg hc]
def NumP.text (n : NumP.NumV) : List UInt8 := if n.2.1 = [] then [48] else NumP.sgn n.1 ++ n.2.1 ++ (if n.2.2 = 0 then [] else 101 :: Lib.itoa n.2.2)
theorem dec_isD (u : Nat) : (Lib.decDigits u).all NumP.isD = true ∧ Lib.decDigits u ≠ [] ∧ NumP.val (Lib.decDigits u) = u := by
  induction u using Nat.strongRecOn with
  | _ u ih =>
    have hdig : ∀ i : Nat, i < 10 → NumP.isD (UInt8.ofNat (48 + i)) = true ∧ ((UInt8.ofNat (48 + i)).toNat : Int) - 48 = i := fun i hi => by
      have : (UInt8.ofNat (48 + i)).toNat = 48 + i := by simp; omega
      refine ⟨?_, by rw [this]; omega⟩
      simp only [NumP.isD, this, decide_eq_true_eq]; omega
    by_cases h : u < 10
    · rw [Lib.decDigits_one h]
      have := hdig u h
      refine ⟨by rw [List.all_cons, this.1]; rfl, by simp, ?_⟩
      simp only [NumP.val, List.foldl_cons, List.foldl_nil]
      omega
    · obtain ⟨h1, h2, h3⟩ := ih (u / 10) (by omega)
      have := hdig (u % 10) (by omega)
      rw [show Lib.decDigits u = Lib.decDigits (u / 10) ++ [UInt8.ofNat (48 + u % 10)] by rw [Lib.decDigits, dif_neg h]]
      refine ⟨by rw [List.all_append, h1, List.all_cons, this.1]; rfl, by simp, ?_⟩
      unfold NumP.val at h3 ⊢
      rw [List.foldl_append, h3]
      simp only [List.foldl_cons, List.foldl_nil]
      omega
theorem val_lstrip' : ∀ E : List UInt8, NumP.val (NumP.lstrip E) = NumP.val E
  | [] => rfl
  | c :: t => by
    by_cases h : c = 48
    · subst h
      show NumP.val (NumP.lstrip t) = _
      rw [val_lstrip' t]; rfl
    · have : NumP.isZ c = false := by simpa [NumP.isZ] using h
      simp [NumP.lstrip, this]
theorem pow_dec (u : Nat) (h : u ≤ 999) : NumP.pow (Lib.decDigits u) = u := by
  have hn : Lib.nDigits u ≤ 10 := by
    by_cases a : u < 10
    · rw [Lib.nDigits_small a]; omega
    · rw [Lib.nDigits_big a]
      by_cases b : u / 10 < 10
      · rw [Lib.nDigits_small b]; omega
      · rw [Lib.nDigits_big b, Lib.nDigits_small (by omega)]; omega
  have hl : (NumP.lstrip (Lib.decDigits u)).length ≤ (Lib.decDigits u).length := (List.dropWhile_suffix NumP.isZ).length_le
  rw [Lib.decDigits_length] at hl
  unfold NumP.pow
  rw [if_neg (by omega), val_lstrip', (dec_isD u).2.2]
theorem lstrip_id (D : List UInt8) (h : D.head? ≠ some 48) : NumP.lstrip D = D := by
  cases D with
  | nil => rfl
  | cons c t =>
    have : NumP.isZ c = false := by simpa [NumP.isZ] using h
    simp [NumP.lstrip, this]
theorem rstrip_id (D : List UInt8) (h : D.getLast? ≠ some 48) : NumP.rstrip D = D := by
  unfold NumP.rstrip
  have : D.reverse.head? ≠ some 48 := by rw [List.head?_reverse]; exact h
  have := lstrip_id D.reverse this
  unfold NumP.lstrip at this
  rw [this, List.reverse_reverse]
theorem right_parts {d : Bool} {D : List UInt8} {e : Int} (h : NumP.right (d, D, e) = true) (h0 : D ≠ []) : D.all NumP.isD = true ∧ D.head? ≠ some 48 ∧ D.getLast? ≠ some 48 ∧ D.length ≤ 40 ∧ -999 ≤ e ∧ e ≤ 999 := by
  unfold NumP.right at h
  rw [if_neg h0] at h
  simp only [Bool.and_eq_true, decide_eq_true_eq, bne_iff_ne, ne_eq] at h
  exact ⟨h.1.1.1.1.1, h.1.1.1.1.2, h.1.1.1.2, h.1.1.2, h.1.2, h.2⟩
theorem parse_of_is {l : List UInt8} {d : Bool} {W P : List UInt8} {less : Bool} {E : List UInt8} (h : NumP.Is l d W P less E) :
    NumP.parse l = if NumP.right (NumP.form d (W ++ P) ((if less = true then - NumP.pow E else NumP.pow E) - (P.length : Int))) = true then (NumP.form d (W ++ P) ((if less = true then - NumP.pow E else NumP.pow E) - (P.length : Int)), 0) else (NumP.zero, 13) := by
  obtain ⟨h1, h2, h3, h4, h5, h6, -, -⟩ := h.parts
  unfold NumP.parse NumP.num
  rw [if_pos h1, h2, h3, h4, h5, h6]
theorem text_is (d : Bool) (D : List UInt8) (e : Int) (h : NumP.right (d, D, e) = true) (h0 : D ≠ []) : NumP.Is (NumP.text (d, D, e)) d D [] (decide (e < 0)) (if e = 0 then [] else Lib.decDigits e.natAbs) := by
  obtain ⟨p1, p2, p3, p4, p5, p6⟩ := right_parts h h0
  obtain ⟨q1, q2, -⟩ := dec_isD e.natAbs
  refine ⟨h0, p1, fun _ => p2, rfl, (if e = 0 then [] else 101 :: Lib.itoa e), ?_, ?_⟩
  · by_cases he : e = 0
    · rw [if_pos he, if_pos he, he]; exact ⟨.inl ⟨rfl, rfl, rfl⟩⟩
    · rw [if_neg he, if_neg he]
      refine ⟨.inr ⟨101, if e < 0 then [45] else [], .inl rfl, ?_, q2, q1, ?_⟩⟩
      · by_cases hn : e < 0
        · right; right; rw [if_pos hn]; exact ⟨rfl, by simpa using hn⟩
        · left; rw [if_neg hn]; exact ⟨rfl, by simpa using hn⟩
      · unfold Lib.itoa
        by_cases hn : e < 0
        · rw [if_pos hn, if_pos hn]; rfl
        · rw [if_neg hn, if_neg hn, show e.toNat = e.natAbs by omega]; rfl
  · unfold NumP.text; rw [if_neg h0]; simp [NumP.dot]
theorem parse_text (n : NumP.NumV) (h : NumP.right n = true) : NumP.parse (NumP.text n) = (n, 0) := by
  obtain ⟨d, D, e⟩ := n
  by_cases h0 : D = []
  · subst h0
    unfold NumP.right at h
    rw [if_pos rfl] at h
    simp only [Bool.and_eq_true, beq_iff_eq, Bool.not_eq_true'] at h
    obtain ⟨rfl, rfl⟩ := h
    decide
  · obtain ⟨p1, p2, p3, p4, p5, p6⟩ := right_parts h h0
    rw [parse_of_is (text_is d D e h h0), List.append_nil]
    have hx : ((if decide (e < 0) = true then - NumP.pow (if e = 0 then [] else Lib.decDigits e.natAbs) else NumP.pow (if e = 0 then [] else Lib.decDigits e.natAbs)) - (([] : List UInt8).length : Int)) = e := by
      by_cases he : e = 0
      · subst he; decide
      · rw [if_neg he, pow_dec e.natAbs (by omega)]
        by_cases hn : e < 0
        · rw [if_pos (by simpa using hn)]; simp; omega
        · rw [if_neg (by simpa using hn)]; simp; omega
    have hf : NumP.form d D e = (d, D, e) := by
      unfold NumP.form
      rw [lstrip_id D p2, rstrip_id D p3, if_neg h0]
      congr 2; omega
    rw [hx, hf, if_pos h]
theorem text_f' (d : Bool) (D : List UInt8) (e : Int) (hD : D.length ≤ 1000000) (he : -1000000 ≤ e ∧ e ≤ 1000000) : num_Text.f d (ofL D) e = some (ofL (NumP.text (d, D, e))) := by
  unfold num_Text.f NumP.text
  have hl : (Lib.itoa e).length ≤ 21 := Lib.itoa_length_le e (by omega) (by omega)
  have hi : strconv_Itoa_83.f e = some (ofL (Lib.itoa e)) := by unfold strconv_Itoa_83.f; rw [if_pos (by omega)]; rfl
  have h45 : (⟨#[45]⟩ : ByteArray) = ofL [45] := rfl
  have h101 : (⟨#[101]⟩ : ByteArray) = ofL [101] := rfl
  by_cases h0 : D = []
  · subst h0; rw [if_pos (ofL_toList []), if_pos rfl]; rfl
  · rw [if_neg (by rw [ofL_toList]; exact h0), if_neg h0]
    simp only [h45, h101, ofL_app, hi, Option.bind_some, ofL_size]
    cases d with
    | true =>
      rw [if_pos rfl, if_pos (by omega)]
      by_cases he0 : e = 0
      · rw [if_pos he0, if_pos he0]; simp [NumP.sgn]
      · rw [if_neg he0, if_neg he0, if_pos (by omega), if_pos (by simp; omega)]; simp [NumP.sgn]
    | false =>
      rw [if_neg (by simp)]
      by_cases he0 : e = 0
      · rw [if_pos he0, if_pos he0]; simp [NumP.sgn]
      · rw [if_neg he0, if_neg he0, if_pos (by omega), if_pos (by simp; omega)]; simp [NumP.sgn]
theorem right_bd' {d : Bool} {D : List UInt8} {e : Int} (h : NumP.right (d, D, e) = true) : D.length ≤ 40 ∧ -999 ≤ e ∧ e ≤ 999 := by
  by_cases h0 : D = []
  · subst h0
    unfold NumP.right at h
    rw [if_pos rfl] at h
    simp only [Bool.and_eq_true, beq_iff_eq] at h
    exact ⟨by decide, by omega, by omega⟩
  · obtain ⟨-, -, -, a, b, c⟩ := right_parts h h0
    exact ⟨a, b, c⟩
end Go.Proofs.YtapcpndplnkfjaaGreatDoor
namespace Go.Proofs.YtapcpndplnkfjaaGreatDoor
open Go.RowKit Go.Proofs.YtapcpndplnkfjaaGreatDoorW.PrintWords Pr
theorem cmpI_anti (a b : Int) : cmpI a b = - cmpI b a := by unfold cmpI; (repeat' split) <;> omega
theorem cmpI_vals (a b : Int) : (a < b ∧ cmpI a b = -1) ∨ (a = b ∧ cmpI a b = 0) ∨ (a > b ∧ cmpI a b = 1) := by unfold cmpI; (repeat' split) <;> omega
theorem cmpB_anti : ∀ a b : List UInt8, Lib.compareBytes a b = - Lib.compareBytes b a
  | [], [] => rfl
  | [], _ :: _ => rfl
  | _ :: _, [] => rfl
  | x :: a, y :: b => by
    simp only [Lib.compareBytes]
    by_cases h : x < y
    · have h2 : ¬ y < x := by rw [UInt8.lt_iff_toNat_lt] at *; omega
      simp [h, h2]
    · by_cases h2 : y < x
      · simp [h, h2]
      · simp only [h, h2, if_false]; exact cmpB_anti a b
theorem cmpB_zero : ∀ a b : List UInt8, Lib.compareBytes a b = 0 → a = b
  | [], [], _ => rfl
  | [], _ :: _, h => by simp [Lib.compareBytes] at h
  | _ :: _, [], h => by simp [Lib.compareBytes] at h
  | x :: a, y :: b, h => by
    simp only [Lib.compareBytes] at h
    by_cases h1 : x < y
    · simp [h1] at h
    · by_cases h2 : y < x
      · simp [h1, h2] at h
      · simp only [h1, h2, if_false] at h
        have : x = y := by rw [← UInt8.toNat_inj]; rw [UInt8.lt_iff_toNat_lt] at *; omega
        rw [this, cmpB_zero a b h]
theorem cmpB_trans : ∀ a b c : List UInt8, Lib.compareBytes a b ≤ 0 → Lib.compareBytes b c ≤ 0 → Lib.compareBytes a c ≤ 0
  | [], _, [], _, _ => by simp [Lib.compareBytes]
  | [], _, _ :: _, _, _ => by simp [Lib.compareBytes]
  | _ :: _, [], _, h, _ => by simp [Lib.compareBytes] at h
  | _ :: _, _ :: _, [], _, h => by simp [Lib.compareBytes] at h
  | x :: a, y :: b, z :: c, h1, h2 => by
    simp only [Lib.compareBytes] at *
    by_cases p : x < y
    · by_cases q : y < z
      · have : x < z := by rw [UInt8.lt_iff_toNat_lt] at *; omega
        simp [this]
      · by_cases q2 : z < y
        · simp [q, q2] at h2
        · have : x < z := by rw [UInt8.lt_iff_toNat_lt] at *; omega
          simp [this]
    · by_cases p2 : y < x
      · simp [p, p2] at h1
      · have exy : x = y := by rw [← UInt8.toNat_inj]; rw [UInt8.lt_iff_toNat_lt] at *; omega
        subst exy
        simp only [p, if_false] at h1
        by_cases q : x < z
        · simp [q]
        · by_cases q2 : z < x
          · simp [q, q2] at h2
          · simp only [q, q2, if_false] at h2 ⊢
            exact cmpB_trans a b c h1 h2
theorem cmpA_anti (a b : NumP.NumV) : cmpA a b = - cmpA b a := by
  unfold cmpA
  have h := cmpI_anti ((a.2.1.length : Int) + a.2.2) ((b.2.1.length : Int) + b.2.2)
  have h2 := cmpB_anti a.2.1 b.2.1
  split <;> split <;> omega
theorem side_vals (a : NumP.NumV) : (sideP a = 0 ∧ a.2.1 = []) ∨ (sideP a = -1 ∧ a.2.1 ≠ [] ∧ a.1 = true) ∨ (sideP a = 1 ∧ a.2.1 ≠ [] ∧ a.1 = false) := by
  unfold sideP
  by_cases h : a.2.1 = []
  · left; exact ⟨if_pos h, h⟩
  · right; rw [if_neg h]
    cases a.1 with
    | true => left; exact ⟨rfl, h, rfl⟩
    | false => right; exact ⟨rfl, h, rfl⟩
theorem cmpP_cases (a b : NumP.NumV) : cmpP a b = if sideP a < sideP b then -1 else if sideP a > sideP b then 1 else sideP a * cmpA a b := by
  unfold cmpP
  rcases cmpI_vals (sideP a) (sideP b) with ⟨p, q⟩ | ⟨p, q⟩ | ⟨p, q⟩
  · rw [q, if_pos (.inl (by omega)), if_pos p]
  · rw [q]
    by_cases h : sideP a = 0
    · rw [if_pos (.inr h), if_neg (by omega), if_neg (by omega), h]; omega
    · rw [if_neg (by rintro (z | z); exact z rfl; exact h z), if_neg (by omega), if_neg (by omega)]
  · rw [q, if_pos (.inl (by omega)), if_neg (by omega), if_pos p]
theorem cmpP_anti (a b : NumP.NumV) : cmpP a b = - cmpP b a := by
  rw [cmpP_cases, cmpP_cases, cmpA_anti a b]
  rcases side_vals a with ⟨h, -⟩ | ⟨h, -⟩ | ⟨h, -⟩ <;> rcases side_vals b with ⟨h', -⟩ | ⟨h', -⟩ | ⟨h', -⟩ <;> rw [h, h'] <;> simp
theorem cmpP_zero (a b : NumP.NumV) (ha : NumP.right a = true) (hb : NumP.right b = true) (h : cmpP a b = 0) : a = b := by
  rw [cmpP_cases] at h
  obtain ⟨ad, aD, ae⟩ := a
  obtain ⟨bd, bD, be⟩ := b
  have z : ∀ d e, NumP.right (d, [], e) = true → d = false ∧ e = 0 := fun d e hr => by
    unfold NumP.right at hr; rw [if_pos rfl] at hr
    simpa using hr
  have fin : ∀ s : Int, s ≠ 0 → s * cmpA (ad, aD, ae) (bd, bD, be) = 0 → aD = bD ∧ ae = be := fun s hs hm => by
    have hc : cmpA (ad, aD, ae) (bd, bD, be) = 0 := by rcases Int.mul_eq_zero.1 hm with q | q; exact absurd q hs; exact q
    unfold cmpA at hc
    simp only at hc
    rcases cmpI_vals ((aD.length : Int) + ae) ((bD.length : Int) + be) with ⟨p, q⟩ | ⟨p, q⟩ | ⟨p, q⟩
    · rw [q] at hc; simp at hc
    · rw [q, if_pos rfl] at hc
      have e := cmpB_zero _ _ hc
      subst e; exact ⟨rfl, by omega⟩
    · rw [q] at hc; simp at hc
  rcases side_vals (ad, aD, ae) with ⟨s, u⟩ | ⟨s, u, v⟩ | ⟨s, u, v⟩ <;> rcases side_vals (bd, bD, be) with ⟨s', u'⟩ | ⟨s', u', v'⟩ | ⟨s', u', v'⟩ <;> rw [s, s'] at h
  · simp only at u u'; subst u; subst u'
    obtain ⟨r1, r2⟩ := z _ _ ha
    obtain ⟨r3, r4⟩ := z _ _ hb
    rw [r1, r2, r3, r4]
  · simp at h
  · simp at h
  · simp at h
  · rw [if_neg (by omega), if_neg (by omega)] at h
    obtain ⟨r1, r2⟩ := fin (-1) (by omega) h
    simp only at v v'; rw [r1, r2, v, v']
  · simp at h
  · simp at h
  · simp at h
  · rw [if_neg (by omega), if_neg (by omega)] at h
    obtain ⟨r1, r2⟩ := fin 1 (by omega) h
    simp only at v v'; rw [r1, r2, v, v']
end Go.Proofs.YtapcpndplnkfjaaGreatDoor
