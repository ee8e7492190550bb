/- What the law rests on, part 5: joined by a program of this session (claimx.py). -/
import Derived.Test.YtapcpndplnkfjaaGreatDoorOrderKeysD
set_option linter.unusedVariables false
set_option linter.unusedSimpArgs false
namespace Go.Proofs.YtapcpndplnkfjaaGreatDoor
open Go.RowKit Go.Proofs.YtapcpndplnkfjaaGreatDoorW.PrintWords Go.Proofs.YtapcpndplnkfjaaGreatDoorW.PrintLast Go.Proofs.YtapcpndplnkfjaaGreatDoorW.PrintMore
namespace Js
def pk : List UInt8 → Int
 | [] => 0
 | b :: _ => (b.toNat : Int)
theorem pk_bd (l : List UInt8) : 0 ≤ pk l ∧ pk l ≤ 255 := by
 cases l with
 | nil => exact ⟨Int.le_refl _, by show (0 : Int) ≤ 255; decide⟩
 | cons b l => have := b.toNat_lt; exact ⟨by show (0 : Int) ≤ (b.toNat : Int); omega, by show ((b.toNat : Int)) ≤ 255; omega⟩
theorem w64 {x : Int} (h0 : -1000000000 ≤ x) (h1 : x ≤ 1000000000) : wrap64 x = x := by unfold wrap64; omega
theorem bt_drop (s : List UInt8) (p : Nat) (h : p < s.length) : bt (ofL s) (p : Int) = pk (s.drop p) := by
 unfold bt
 have h2 : (p : Int).toNat < (ofL s).size := by rw [ofL_size]; simpa using h
 rw [dif_pos h2, List.drop_eq_getElem_cons h]
 rfl
theorem peek_f (s : List UInt8) (p : Nat) (o e : Int) : R5_peek.f (ofL s) (p : Int) o e = some (pk (s.drop p), ofL s, (p : Int), o, e) := by
 unfold R5_peek.f
 rw [ofL_size]
 by_cases h : p < s.length
 · rw [if_neg (by omega), if_pos (by omega), if_pos (by omega), bt_drop s p h]
 rw [if_pos (by omega), List.drop_eq_nil_of_le (by omega)]; rfl
theorem fail_f (s : ByteArray) (p o e x : Int) : R5_fail.f s p o e x = some (s, p, o, if e = 0 then x else e) := by
 unfold R5_fail.f
 split <;> rfl
theorem drop_pk {s : List UInt8} {p : Nat} {c : Int} (h : pk (s.drop p) = c) (hc : c ≠ 0) : ∃ b l, s.drop p = b :: l ∧ (b.toNat : Int) = c ∧ s.drop (p + 1) = l ∧ p + 1 ≤ s.length := by
 cases hd : s.drop p with
 | nil => rw [hd] at h; exact absurd h.symm hc
 | cons b l =>
  rw [hd] at h
  refine ⟨b, l, rfl, h, ?_, ?_⟩
  · rw [← List.drop_drop, hd]; rfl
  have := congrArg List.length hd
  simp at this; omega
def hexJ : Nat → List UInt8 → Int → Option (Int × List UInt8)
 | 0, l, x => some (x, l)
 | _ + 1, [], _ => none
 | j + 1, b :: l, x => (hexv b).bind fun v => hexJ j l (16 * x + v)
theorem four_J (l : List UInt8) (o : Int) : S.four ⟨l, o, 0⟩ = match hexJ 4 l 0 with | some (x, t) => (x, ⟨t, o, 0⟩) | none => (0, ⟨l, o, 11⟩) := by
 rw [four_is]
 match l with
 | [] => rfl
 | [a] => simp only [hexJ]; cases hexv a <;> rfl
 | [a, b] =>
  simp only [hexJ]
  cases hexv a with
  | none => rfl
  | some x => simp only [Option.bind_some]; cases hexv b <;> rfl
 | [a, b, c] =>
  simp only [hexJ]
  cases hexv a with
  | none => rfl
  | some x => simp only [Option.bind_some]; cases hexv b with
   | none => rfl
   | some y => simp only [Option.bind_some]; cases hexv c <;> rfl
 | a :: b :: c :: d :: t =>
  simp only [hexJ, hexF]
  cases hexv a with
  | none => rfl
  | some x => simp only [Option.bind_some]; cases hexv b with
   | none => rfl
   | some y => simp only [Option.bind_some]; cases hexv c with
    | none => rfl
    | some z => simp only [Option.bind_some]; cases hexv d <;> rfl
def FourR (s : List UInt8) (o : Int) (q : Option (Int × List UInt8)) (r : Int × ByteArray × Int × Int × Int) : Prop :=
 ∃ p' : Nat, p' ≤ s.length ∧ match q with
  | some (x, t) => r = (x, ofL s, (p' : Int), o, 0) ∧ s.drop p' = t
  | none => r = (0, ofL s, (p' : Int), o, 11)
theorem four_l (s : List UInt8) (hs : s.length ≤ 5000) (o : Int) : ∀ (j i p : Nat) (x : Int), i + j = 4 → (0 ≤ x ∧ x < 16 ^ i) → p ≤ s.length → ∃ r, FourR s o (hexJ j (s.drop p) x) r ∧ Ev (fun k => R5_four.l0 k x (i : Int) (ofL s) (p : Int) o 0) r
 | 0, i, p, x, hi, hx, hp => by
  refine ⟨_, ⟨p, hp, rfl, rfl⟩, Ev.step (f := fun _ => some (x, ofL s, (p : Int), o, 0)) (fun k => ?_) (Ev.now _)⟩
  simp only [R5_four.l0]
  rw [if_neg (by omega)]
 | j + 1, i, p, x, hi, hx, hp => by
  have hx3 : x < 4096 := by
   have : (16 : Int) ^ i ≤ 16 ^ 3 := by exact_mod_cast Nat.pow_le_pow_right (by decide) (show i ≤ 3 by omega)
   have e3 : (16 : Int) ^ 3 = 4096 := by decide
   omega
  have hpb := pk_bd (s.drop p)
  have hgo : ∀ (b : UInt8) (l : List UInt8) (d v : Int), s.drop p = b :: l → hexv b = some v → (b.toNat : Int) - d = v → ∃ r, FourR s o (hexJ (j + 1) (s.drop p) x) r ∧ Ev (fun k => R5_four.l0 k (wrap64 (wrap64 (wrap64 (16 * x) + (b.toNat : Int)) - d)) (wrap64 ((i : Int) + 1)) (ofL s) (wrap64 ((p : Int) + 1)) o 0) r := by
   intro b l d v hd hv hbd
   have hvb := hexv_bd hv
   have hb := b.toNat_lt
   have hl : s.drop (p + 1) = l := by rw [← List.drop_drop, hd]; rfl
   have hp1 : p + 1 ≤ s.length := by have := congrArg List.length hd; simp at this; omega
   obtain ⟨r, h1, h2⟩ := four_l s hs o j (i + 1) (p + 1) (16 * x + v) (by omega) ⟨by omega, by rw [Int.pow_succ]; omega⟩ hp1
   refine ⟨r, ?_, ?_⟩
   · rw [hd]
     unfold hexJ
     rw [hv, Option.bind_some, ← hl]
     exact h1
   · have e1 : wrap64 (wrap64 (wrap64 (16 * x) + (b.toNat : Int)) - d) = 16 * x + v := by
       rw [w64 (x := 16 * x) (by omega) (by omega), w64 (x := 16 * x + (b.toNat : Int)) (by omega) (by omega), w64 (by omega) (by omega)]; omega
     have e2 : wrap64 ((i : Int) + 1) = ((i + 1 : Nat) : Int) := by rw [w64 (by omega) (by omega)]; push_cast; rfl
     have e3 : wrap64 ((p : Int) + 1) = ((p + 1 : Nat) : Int) := by rw [w64 (by omega) (by omega)]; push_cast; rfl
     rw [e1, e2, e3]
     exact h2
  have hbad : hexJ (j + 1) (s.drop p) x = none → FourR s o (hexJ (j + 1) (s.drop p) x) (0, ofL s, (p : Int), o, 11) := fun h => by rw [h]; exact ⟨p, hp, rfl⟩
  obtain ⟨c, hc⟩ : ∃ c, c = pk (s.drop p) := ⟨_, rfl⟩
  have hcb : 0 ≤ c ∧ c ≤ 255 := by rw [hc]; exact hpb
  have hwc : wrap64 c = c := w64 (by omega) (by omega)
  have hl0 : ∀ k, R5_four.l0 (k + 1) x (i : Int) (ofL s) (p : Int) o 0 = R5_four.j1 k x (i : Int) c (decide (48 ≤ c ∧ c ≤ 57)) (ofL s) (p : Int) o 0 := fun k => by
   simp only [R5_four.l0]
   rw [if_pos (by omega), peek_f]
   simp only [Option.bind_some, ← hc, hwc]
   by_cases h : c ≥ 48
   · rw [if_pos h]; simp [h]
   rw [if_neg h]; congr 1; symm; rw [decide_eq_false_iff_not]; omega
  by_cases h1 : 48 ≤ c ∧ c ≤ 57
  · obtain ⟨b, l, hd, hbc, -, -⟩ := drop_pk hc.symm (by omega)
    obtain ⟨r, g1, g2⟩ := hgo b l 48 ((b.toNat : Int) - 48) hd (by unfold hexv; rw [if_pos (by omega)]) rfl
    refine ⟨r, g1, Ev.step hl0 (Ev.step (f := fun k => R5_four.l0 k (wrap64 (wrap64 (wrap64 (16 * x) + (b.toNat : Int)) - 48)) (wrap64 ((i : Int) + 1)) (ofL s) (wrap64 ((p : Int) + 1)) o 0) (fun k => ?_) g2)⟩
    simp only [R5_four.j1]
    rw [if_pos (by simpa using h1), hbc]
  have hj1 : ∀ k, R5_four.j1 (k + 1) x (i : Int) c (decide (48 ≤ c ∧ c ≤ 57)) (ofL s) (p : Int) o 0 = R5_four.j2 k x (i : Int) c (decide (97 ≤ c ∧ c ≤ 102)) (ofL s) (p : Int) o 0 := fun k => by
   simp only [R5_four.j1]
   rw [if_neg (by simpa using h1)]
   by_cases h : c ≥ 97
   · rw [if_pos h]; simp [h]
   rw [if_neg h]; congr 1; symm; rw [decide_eq_false_iff_not]; omega
  by_cases h2 : 97 ≤ c ∧ c ≤ 102
  · obtain ⟨b, l, hd, hbc, -, -⟩ := drop_pk hc.symm (by omega)
    obtain ⟨r, g1, g2⟩ := hgo b l 87 ((b.toNat : Int) - 87) hd (by unfold hexv; rw [if_neg (by omega), if_pos (by omega)]) rfl
    refine ⟨r, g1, Ev.step hl0 (Ev.step hj1 (Ev.step (f := fun k => R5_four.l0 k (wrap64 (wrap64 (wrap64 (16 * x) + (b.toNat : Int)) - 87)) (wrap64 ((i : Int) + 1)) (ofL s) (wrap64 ((p : Int) + 1)) o 0) (fun k => ?_) g2))⟩
    simp only [R5_four.j2]
    rw [if_pos (by simpa using h2), hbc]
  by_cases h3 : 65 ≤ c ∧ c ≤ 70
  · obtain ⟨b, l, hd, hbc, -, -⟩ := drop_pk hc.symm (by omega)
    obtain ⟨r, g1, g2⟩ := hgo b l 55 ((b.toNat : Int) - 55) hd (by unfold hexv; rw [if_neg (by omega), if_neg (by omega), if_pos (by omega)]) rfl
    refine ⟨r, g1, Ev.step hl0 (Ev.step hj1 (Ev.step (f := fun k => R5_four.l0 k (wrap64 (wrap64 (wrap64 (16 * x) + (b.toNat : Int)) - 55)) (wrap64 ((i : Int) + 1)) (ofL s) (wrap64 ((p : Int) + 1)) o 0) (fun k => ?_) g2))⟩
    simp only [R5_four.j2]
    rw [if_neg (by simpa using h2), if_pos (show c ≥ 65 by omega), if_pos (show c ≤ 70 by omega), hbc]
  · have hn : hexJ (j + 1) (s.drop p) x = none := by
      cases hd : s.drop p with
      | nil => rfl
      | cons b l =>
       have hbc : (b.toNat : Int) = c := by rw [hc, hd]; rfl
       unfold hexJ
       have : hexv b = none := by unfold hexv; rw [if_neg (by omega), if_neg (by omega), if_neg (by omega)]
       rw [this]; rfl
    refine ⟨_, hbad hn, Ev.step hl0 (Ev.step hj1 (Ev.step (f := fun _ => some (0, ofL s, (p : Int), o, 11)) (fun k => ?_) (Ev.now _)))⟩
    simp only [R5_four.j2]
    rw [if_neg (by simpa using h2), fail_f]
    split
    · rw [if_neg (by omega)]; rfl
    · rfl
theorem four_ev (s : List UInt8) (hs : s.length ≤ 5000) (o : Int) (p : Nat) (hp : p ≤ s.length) : ∃ r, FourR s o (hexJ 4 (s.drop p) 0) r ∧ Ev (fun k => R5_four.f k (ofL s) (p : Int) o 0) r :=
 four_l s hs o 4 0 p 0 rfl ⟨Int.le_refl _, by decide⟩ hp
def encB (d : Nat) : ByteArray := if d < 128 then ⟨#[UInt8.ofNat d]⟩ else if d < 2048 then ⟨#[UInt8.ofNat (192 + d / 64), UInt8.ofNat (128 + d % 64)]⟩ else if d < 65536 then ⟨#[UInt8.ofNat (224 + d / 4096), UInt8.ofNat (128 + d / 64 % 64), UInt8.ofNat (128 + d % 64)]⟩ else ⟨#[UInt8.ofNat (240 + d / 262144), UInt8.ofNat (128 + d / 4096 % 64), UInt8.ofNat (128 + d / 64 % 64), UInt8.ofNat (128 + d % 64)]⟩
theorem enc_0 (r : Int) : Utf8.encode r = encB (if Utf8.valid r then r.toNat else Utf8.runeError) := by unfold Utf8.encode encB; rfl
theorem enc_2 (c : Nat) (hv : Utf8.valid (c : Int) = true) : (if Utf8.valid (c : Int) = true then (c : Int).toNat else Utf8.runeError) = c := by rw [if_pos hv]; rfl
theorem enc_3 (c : Nat) (hv : Utf8.valid (c : Int) = true) : Utf8.encode (c : Int) = encB c := (enc_0 _).trans (congrArg encB (enc_2 c hv))
theorem encL_nat (c : Nat) (hv : Utf8.valid (c : Int) = true) : ofL (encL (c : Int)) = encB c := (ofL_enc _).trans (enc_3 c hv)
theorem sign_f (x : Int) (h : (0 ≤ x ∧ x < 55296) ∨ (57343 < x ∧ x ≤ 1114111)) : R5Sign.f x = some (ofL (encL x)) := by
 obtain ⟨c, rfl⟩ : ∃ c : Nat, x = c := ⟨x.toNat, by omega⟩
 have hv : Utf8.valid (c : Int) = true := by
  simp only [Utf8.valid, Bool.or_eq_true, Bool.and_eq_true, decide_eq_true_eq]; omega
 have he := encL_nat c hv
 have d64 : Int.tdiv (c : Int) 64 = ((c / 64 : Nat) : Int) := by rw [Int.tdiv_eq_ediv_of_nonneg (by omega)]; omega
 have d4096 : Int.tdiv (c : Int) 4096 = ((c / 4096 : Nat) : Int) := by rw [Int.tdiv_eq_ediv_of_nonneg (by omega)]; omega
 have d26 : Int.tdiv (c : Int) 262144 = ((c / 262144 : Nat) : Int) := by rw [Int.tdiv_eq_ediv_of_nonneg (by omega)]; omega
 have m64 : ∀ a : Nat, Int.tmod (a : Int) 64 = ((a % 64 : Nat) : Int) := fun a => by rw [Int.tmod_eq_emod_of_nonneg (by omega)]; omega
 have un : ∀ (a : Nat), a < 256 → UInt8.ofNat ((a : Int) % 256).toNat = UInt8.ofNat a := fun a ha => by rw [show ((a : Int) % 256).toNat = a by omega]
 have hw : ∀ a : Nat, a ≤ 2000000 → wrap64 (a : Int) = (a : Int) := fun a ha => w64 (by omega) (by omega)
 have ws : ∀ (a b : Nat), a + b ≤ 2000000 → wrap64 ((a : Int) + (b : Int)) = ((a + b : Nat) : Int) := fun a b h => by rw [w64 (by omega) (by omega)]; push_cast; rfl
 have so : ∀ l : List Int, strOfNums l = ofL (l.map fun x : Int => UInt8.ofNat x.toNat) := fun l => rfl
 unfold R5Sign.f
 rw [he]
 unfold encB
 by_cases h1 : c < 128
 · rw [if_pos (by omega), if_pos h1]
   rw [so]; simp only [List.map_cons, List.map_nil]
   rw [un c (by omega)]
   rfl
 rw [if_neg (by omega), if_neg h1]
 have e192 : (192 : Int) = ((192 : Nat) : Int) := rfl
 have e128 : (128 : Int) = ((128 : Nat) : Int) := rfl
 have e224 : (224 : Int) = ((224 : Nat) : Int) := rfl
 have e240 : (240 : Int) = ((240 : Nat) : Int) := rfl
 by_cases h2 : c < 2048
 · rw [if_pos (by omega), if_pos h2]
   rw [so]; simp only [List.map_cons, List.map_nil]
   rw [d64, m64, hw _ (by omega), e192, e128, ws _ _ (by omega), ws _ _ (by omega), un _ (by omega), un _ (by omega)]
   rfl
 rw [if_neg (by omega), if_neg h2]
 by_cases h3 : c < 65536
 · rw [if_pos (by omega), if_pos h3]
   rw [so]; simp only [List.map_cons, List.map_nil]
   rw [d64, d4096, m64, hw (c / 4096) (by omega), hw (c / 64) (by omega), m64, e224, e128, ws _ _ (by omega), ws _ _ (by omega), ws _ _ (by omega), un _ (by omega), un _ (by omega), un _ (by omega)]
   rfl
 rw [if_neg (by omega), if_neg h3]
 rw [so]; simp only [List.map_cons, List.map_nil]
 rw [d64, d4096, d26, m64, hw (c / 262144) (by omega), hw (c / 64) (by omega), hw (c / 4096) (by omega), m64, m64, e240, e128, ws _ _ (by omega), ws _ _ (by omega), ws _ _ (by omega), ws _ _ (by omega), un _ (by omega), un _ (by omega), un _ (by omega), un _ (by omega)]
 rfl
end Js
end Go.Proofs.YtapcpndplnkfjaaGreatDoor
namespace Go.Proofs.YtapcpndplnkfjaaGreatDoor
open Go.RowKit Go.Proofs.YtapcpndplnkfjaaGreatDoorW.PrintWords Pr
theorem cmpB_anti : ∀ a b : List UInt8, Lib.compareBytes a b = - Lib.compareBytes b a
 | [], [] => rfl
 | [], _ :: _ => rfl
 | _ :: _, [] => rfl
 | x :: a, y :: b => by
  simp only [Lib.compareBytes]
  by_cases h : x < y
  · have h2 : ¬ y < x := by rw [UInt8.lt_iff_toNat_lt] at *; omega
    simp [h, h2]
  by_cases h2 : y < x
  · simp [h, h2]
  simp only [h, h2, if_false]; exact cmpB_anti a b
theorem cmpB_zero : ∀ a b : List UInt8, Lib.compareBytes a b = 0 → a = b
 | [], [], _ => rfl
 | [], _ :: _, h => by simp [Lib.compareBytes] at h
 | _ :: _, [], h => by simp [Lib.compareBytes] at h
 | x :: a, y :: b, h => by
  simp only [Lib.compareBytes] at h
  by_cases h1 : x < y
  · simp [h1] at h
  by_cases h2 : y < x
  · simp [h1, h2] at h
  simp only [h1, h2, if_false] at h
  have : x = y := by rw [← UInt8.toNat_inj]; rw [UInt8.lt_iff_toNat_lt] at *; omega
  rw [this, cmpB_zero a b h]
theorem cmpB_trans : ∀ a b c : List UInt8, Lib.compareBytes a b ≤ 0 → Lib.compareBytes b c ≤ 0 → Lib.compareBytes a c ≤ 0
 | [], _, [], _, _ => by simp [Lib.compareBytes]
 | [], _, _ :: _, _, _ => by simp [Lib.compareBytes]
 | _ :: _, [], _, h, _ => by simp [Lib.compareBytes] at h
 | _ :: _, _ :: _, [], _, h => by simp [Lib.compareBytes] at h
 | x :: a, y :: b, z :: c, h1, h2 => by
  simp only [Lib.compareBytes] at *
  by_cases p : x < y
  · by_cases q : y < z
    · have : x < z := by rw [UInt8.lt_iff_toNat_lt] at *; omega
      simp [this]
    by_cases q2 : z < y
    · simp [q, q2] at h2
    have : x < z := by rw [UInt8.lt_iff_toNat_lt] at *; omega
    simp [this]
  by_cases p2 : y < x
  · simp [p, p2] at h1
  have exy : x = y := by rw [← UInt8.toNat_inj]; rw [UInt8.lt_iff_toNat_lt] at *; omega
  subst exy
  simp only [p, if_false] at h1
  by_cases q : x < z
  · simp [q]
  by_cases q2 : z < x
  · simp [q, q2] at h2
  simp only [q, q2, if_false] at h2 ⊢
  exact cmpB_trans a b c h1 h2
end Go.Proofs.YtapcpndplnkfjaaGreatDoor
namespace Go.Proofs.YtapcpndplnkfjaaGreatDoor
open Go.RowKit Go.Proofs.YtapcpndplnkfjaaGreatDoorW.PrintWords Go.Proofs.YtapcpndplnkfjaaGreatDoorW.PrintLast Go.Proofs.YtapcpndplnkfjaaGreatDoorW.PrintMore
namespace Js
def cmpS (a b : ByteArray) : Int := Lib.compareBytes a.data.toList b.data.toList
theorem lessC : ∀ a b : List UInt8, Op.bytesLess a b = decide (Lib.compareBytes a b = -1)
 | [], [] => by decide
 | [], _ :: _ => by simp [Op.bytesLess, Lib.compareBytes]
 | _ :: _, [] => by simp [Op.bytesLess, Lib.compareBytes]
 | x :: a, y :: b => by
  simp only [Op.bytesLess, Lib.compareBytes]
  by_cases h : x < y
  · simp [h]
  by_cases h2 : y < x
  · have : x ≠ y := by rintro rfl; exact h h2
    simp [h, h2, this]
  have : x = y := by rw [← UInt8.toNat_inj]; rw [UInt8.lt_iff_toNat_lt] at *; omega
  subst this
  simp only [h, if_false, decide_false, Bool.false_or, beq_self_eq_true, Bool.true_and]
  exact lessC a b
theorem cmpS_anti (a b : ByteArray) : cmpS a b = - cmpS b a := cmpB_anti _ _
theorem cmpS_bd (a b : ByteArray) : -1 ≤ cmpS a b ∧ cmpS a b ≤ 1 := compare_bd _ _
theorem cmpS_zero {a b : ByteArray} (h : cmpS a b = 0) : a = b := by
 have := cmpB_zero _ _ h
 rw [← ofL_of a, ← ofL_of b, this]
theorem cmpS_self (a : ByteArray) : cmpS a a = 0 := by have := cmpS_anti a a; omega
theorem cmpS_lt {a b c : ByteArray} (h : cmpS a b = -1) (k : cmpS b c = -1) : cmpS a c = -1 := by
 have t : cmpS a c ≤ 0 := cmpB_trans _ b.data.toList _ (show cmpS a b ≤ 0 by omega) (show cmpS b c ≤ 0 by omega)
 have hb := cmpS_bd a c
 by_cases h0 : cmpS a c = 0
 · have := cmpS_zero h0
   subst this
   have := cmpS_anti a b
   omega
 omega
def rises (ns : List ByteArray) : Prop := ns.Pairwise fun a b => cmpS a b = -1
def lessB (x a : ByteArray) : Bool := decide (cmpS a x = -1)
theorem bs_spec (less : Nat → Bool) (k N : Nat) (h1 : ∀ t, t < k → less t = true) (h2 : ∀ t, k ≤ t → t < N → less t = false) : ∀ (f lo hi : Nat), hi - lo ≤ f → lo ≤ k → k ≤ hi → hi ≤ N → Lib.bsGo less f lo hi = k
 | 0, lo, hi, hf, hl, hh, _ => by unfold Lib.bsGo; omega
 | f + 1, lo, hi, hf, hl, hh, hn => by
  unfold Lib.bsGo
  by_cases h : lo < hi
  · rw [if_pos h]
    by_cases hk : (lo + hi) / 2 < k
    · rw [h1 _ hk, if_pos rfl]
      exact bs_spec less k N h1 h2 f _ hi (by omega) (by omega) hh hn
    rw [h2 _ (by omega) (by omega), if_neg (by decide)]
    exact bs_spec less k N h1 h2 f lo _ (by omega) hl (by omega) (by omega)
  rw [if_neg h]; omega
theorem tw_lt {p : ByteArray → Bool} {ns : List ByteArray} {i : Nat} (h : i < (ns.takeWhile p).length) : ∃ hi : i < ns.length, p ns[i] = true := by
 have hle := (List.takeWhile_sublist p (l := ns)).length_le
 refine ⟨by omega, ?_⟩
 have h1 : (ns.takeWhile p)[i] ∈ ns.takeWhile p := List.getElem_mem h
 have h2 := List.all_takeWhile (p := p) (l := ns)
 rw [List.all_eq_true] at h2
 have h3 := h2 _ h1
 have h4 : (ns.takeWhile p)[i] = ns[i]'(by omega) := by
  have : ns.takeWhile p <+: ns := List.takeWhile_prefix p
  exact List.IsPrefix.getElem this h
 rwa [h4] at h3
theorem tw_at {p : ByteArray → Bool} : ∀ {ns : List ByteArray} (h : (ns.takeWhile p).length < ns.length), p (ns[(ns.takeWhile p).length]'h) = false
 | [], h => absurd h (by simp)
 | a :: ns, h => by
  by_cases ha : p a = true
  · have e : (a :: ns).takeWhile p = a :: ns.takeWhile p := by simp [List.takeWhile_cons, ha]
    have h' : (ns.takeWhile p).length < ns.length := by rw [e] at h; simpa using h
    have ih := tw_at (p := p) h'
    simp only [e, List.length_cons, List.getElem_cons_succ]
    exact ih
  have e : (a :: ns).takeWhile p = [] := by simp [List.takeWhile_cons, ha]
  simp only [e, List.length_nil, List.getElem_cons_zero]
  simpa using ha
theorem pos_tw {ns : List ByteArray} (h : rises ns) (x : ByteArray) : pos ns x = (ns.takeWhile (lessB x)).length := by
 have hle := (List.takeWhile_sublist (lessB x) (l := ns)).length_le
 have hg : ∀ t, (ht : t < ns.length) → Op.bytesLess (ns.getD t ⟨#[]⟩).toList x.toList = lessB x ns[t] := fun t ht => by
  have : ns.getD t ⟨#[]⟩ = ns[t] := by simp [List.getD, ht]
  rw [this, lessC, ByteArray.toList_eq, ByteArray.toList_eq]; rfl
 refine bs_spec _ _ ns.length (fun t ht => ?_) (fun t ht htn => ?_) _ _ _ (by omega) (Nat.zero_le _) hle (Nat.le_refl _)
 · obtain ⟨hi, hp⟩ := tw_lt ht
   rw [hg t hi]; exact hp
 rw [hg t htn]
 have hk : (ns.takeWhile (lessB x)).length < ns.length := by omega
 have hf := tw_at hk
 by_cases e : t = (ns.takeWhile (lessB x)).length
 · subst e; exact hf
 have hr := List.pairwise_iff_getElem.1 h _ t hk htn (by omega)
 unfold lessB at hf ⊢
 rw [decide_eq_false_iff_not] at hf ⊢
 exact fun h2 => hf (cmpS_lt hr h2)
theorem has_iff {ns : List ByteArray} (h : rises ns) (x : ByteArray) : has ns x = true ↔ x ∈ ns := by
 unfold has
 rw [decide_eq_true_iff, pos_tw h x]
 constructor
 · rintro ⟨h1, h2⟩
   have : ns.getD (ns.takeWhile (lessB x)).length ⟨#[]⟩ = ns[(ns.takeWhile (lessB x)).length] := by simp [List.getD, h1]
   rw [this] at h2
   rw [← h2]; exact List.getElem_mem h1
 intro hx
 obtain ⟨i, hi, rfl⟩ := List.mem_iff_getElem.1 hx
 have e : (ns.takeWhile (lessB ns[i])).length = i := by
  rcases Nat.lt_trichotomy (ns.takeWhile (lessB ns[i])).length i with hlt | heq | hgt
  · exfalso
    have hf := tw_at (p := lessB ns[i]) (ns := ns) (by omega)
    have hr := List.pairwise_iff_getElem.1 h _ i (by omega) hi hlt
    unfold lessB at hf
    rw [decide_eq_false_iff_not] at hf
    exact hf hr
  · exact heq
  exfalso
  obtain ⟨hi2, hp⟩ := tw_lt hgt
  unfold lessB at hp
  rw [decide_eq_true_iff, cmpS_self] at hp
  exact absurd hp (by decide)
 rw [e]
 exact ⟨hi, by simp [List.getD, hi]⟩
theorem take_tw (p : ByteArray → Bool) (ns : List ByteArray) : ns.take (ns.takeWhile p).length = ns.takeWhile p := by
 conv => lhs; arg 2; rw [← List.takeWhile_append_dropWhile (p := p) (l := ns)]
 rw [List.take_left']
 rfl
theorem drop_tw' (p : ByteArray → Bool) (ns : List ByteArray) : ns.drop (ns.takeWhile p).length = ns.dropWhile p := by
 conv => lhs; arg 2; rw [← List.takeWhile_append_dropWhile (p := p) (l := ns)]
 rw [List.drop_left']
 rfl
theorem put_rises {ns : List ByteArray} (h : rises ns) {x : ByteArray} (hx : has ns x = false) : rises (put ns (pos ns x) x) := by
 have hnx : x ∉ ns := fun hm => by rw [(has_iff h x).2 hm] at hx; cases hx
 have hsp := List.takeWhile_append_dropWhile (p := lessB x) (l := ns)
 have hr : rises (ns.takeWhile (lessB x) ++ ns.dropWhile (lessB x)) := by rw [hsp]; exact h
 unfold rises at hr
 rw [List.pairwise_append] at hr
 unfold put
 rw [pos_tw h x, take_tw, drop_tw']
 have hl : ∀ a ∈ ns.takeWhile (lessB x), cmpS a x = -1 := fun a ha => by
  have h2 := List.all_takeWhile (p := lessB x) (l := ns)
  rw [List.all_eq_true] at h2
  have := h2 a ha
  unfold lessB at this
  rwa [decide_eq_true_iff] at this
 have hd : ∀ b ∈ ns.dropWhile (lessB x), cmpS x b = -1 := fun b hb => by
  have hbn : b ∈ ns := by rw [← hsp]; exact List.mem_append_right _ hb
  have h1 : cmpS b x ≠ -1 := fun hlt => by
   cases hdw : ns.dropWhile (lessB x) with
   | nil => rw [hdw] at hb; cases hb
   | cons c l =>
    have hc : lessB x c = false := by
     have := List.head?_dropWhile_not (lessB x) ns
     rw [hdw] at this
     simpa using this
    rw [hdw] at hb hr
    unfold lessB at hc
    rw [decide_eq_false_iff_not] at hc
    rcases List.mem_cons.1 hb with rfl | hb
    · exact hc hlt
    exact hc (cmpS_lt ((List.pairwise_cons.1 hr.2.1).1 b hb) hlt)
  have h2 : cmpS b x ≠ 0 := fun h0 => hnx (by rw [← cmpS_zero h0]; exact hbn)
  have h3 := cmpS_bd b x
  have h4 := cmpS_anti x b
  omega
 unfold rises
 rw [List.append_assoc, List.pairwise_append]
 refine ⟨hr.1, ?_, fun a ha b hb => ?_⟩
 · rw [List.singleton_append, List.pairwise_cons]
   exact ⟨hd, hr.2.1⟩
 rw [List.singleton_append, List.mem_cons] at hb
 rcases hb with rfl | hb
 · exact hl a ha
 exact cmpS_lt (hl a ha) (hd b hb)
variable {σ : Type}
theorem trim_cons {c : UInt8} (h : [32, 9, 10, 13].contains c = false) (l : List UInt8) : Lib.trimLeftS (c :: l) [32, 9, 10, 13] = c :: l := by
 unfold Lib.trimLeftS
 rw [List.dropWhile_cons, h]; rfl
theorem gv_skip : ∀ (n : Nat) (a b : S), a.skip = b.skip → gv n a = gv n b
 | 0, a, b, h => by
  have he : a.e = b.e := show a.skip.e = b.skip.e from congrArg S.e h
  unfold gv; rw [h, he]
 | n + 1, a, b, h => by
  show S.value1 _ _ _ a.skip = S.value1 _ _ _ b.skip
  rw [h]
theorem plainL_stop (n : Nat) (b : UInt8) (l : List UInt8) (h : b = 34 ∨ b = 92) : plainL (n + 1) (b :: l) = (0, true) := by
 have hb : b.toNat < 128 := by rcases h with rfl | rfl <;> decide
 have hd := Lib.decodeL_ascii b l hb
 rw [plainL, if_neg (by simp), hd, if_pos]
 rcases h with rfl | rfl
 · exact .inl rfl
 exact .inr rfl
theorem plainL_cons (n : Nat) {c : List UInt8} (hc : Ch c) (h1 : (Lib.decodeL c).1 ≠ 34) (h2 : (Lib.decodeL c).1 ≠ 92) (h3 : 32 ≤ (Lib.decodeL c).1) (l : List UInt8) :
    plainL (n + 1) (c ++ l) = (c.length + (plainL n l).1, (plainL n l).2) := by
 have hne : c ++ l ≠ [] := by simp [hc.1]
 have hw := Lib.decodeL_width c
 have hg : ¬ ((Lib.decodeL c).1 = 65533 ∧ (Lib.decodeL c).2 < 2) := fun h => hc.2.1 ⟨h.1, by omega⟩
 rw [plainL, if_neg hne, Ch_app hc, if_neg (by rintro (h | h) <;> contradiction), if_neg (by omega), if_neg hg, hc.2.2, List.drop_left']
 rfl
theorem strLoop_plain (n : Nat) (out : List UInt8) {c : List UInt8} (hc : Ch c) (h1 : (Lib.decodeL c).1 ≠ 34) (h2 : (Lib.decodeL c).1 ≠ 92) (h3 : 32 ≤ (Lib.decodeL c).1) (l : List UInt8) (o : Int) (hl : (plainL (l.length + 1) l).2 = true) :
    strLoop S.esc (n + 1) out ⟨c ++ l, o, 0⟩ = strLoop S.esc (n + 1) (out ++ c) ⟨l, o, 0⟩ := by
 have hp : S.plain ⟨c ++ l, o, 0⟩ = (c.length + (S.plain ⟨l, o, 0⟩).1, (S.plain ⟨l, o, 0⟩).2) := by
  have hcl : 0 < c.length := List.length_pos_iff.2 hc.1
  rw [plain_L, plain_L, plainL_cons _ hc h1 h2 h3, plainL_fuel (c ++ l).length (l.length + 1) l (by rw [List.length_append]; omega) (by omega)]
 have hl' : (S.plain ⟨l, o, 0⟩).2 = true := by rw [plain_L]; exact hl
 have hlt := (plain_le ⟨l, o, 0⟩).2 hl'
 simp only [] at hlt
 rw [strLoop_ok, strLoop_ok]
 have hcut : S.cut ⟨c ++ l, o, 0⟩ = S.cut ⟨l, o, 0⟩ := by
  unfold S.cut
  rw [hp]
  simp only []
  rw [show c.length + (S.plain ⟨l, o, 0⟩).1 + 1 = c.length + ((S.plain ⟨l, o, 0⟩).1 + 1) by omega, ← List.drop_drop, List.drop_left' rfl]
 have htk : (c ++ l).take (S.plain ⟨c ++ l, o, 0⟩).1 = c ++ l.take (S.plain ⟨l, o, 0⟩).1 := by
  rw [hp]
  simp only []
  rw [List.take_append, List.take_of_length_le (by omega)]
  congr 2
  omega
 have hgd : (c ++ l).getD (S.plain ⟨c ++ l, o, 0⟩).1 0 = l.getD (S.plain ⟨l, o, 0⟩).1 0 := by
  rw [hp]
  simp only []
  rw [List.getD_eq_getElem?_getD, List.getD_eq_getElem?_getD, List.getElem?_append_right (by omega)]
  congr 2
  omega
 rw [hcut, htk, hgd]
 have h2e : (S.plain ⟨c ++ l, o, 0⟩).2 = true := by rw [hp]; exact hl'
 have htf : ¬ (true = false) := by decide
 rw [h2e, hl', if_neg htf, if_neg htf]
 simp only [List.append_assoc]
def longV (l : List UInt8) : Int := if l = [] ∨ ((Lib.decodeL l).1 = 65533 ∧ (Lib.decodeL l).2 = 1) then 0 else ((Lib.decodeL l).2 : Int)
theorem bt_get (l : List UInt8) (i : Nat) (h : i < l.length) : bt (ofL l) (i : Int) = ((l.getD i 0).toNat : Int) := by
 rw [bt_drop l i h, List.drop_eq_getElem_cons h]
 show ((l[i]).toNat : Int) = _
 simp [List.getD, h]
def longEnd (n least x : Int) : Int := if x < least then 0 else if x > 1114111 then 0 else if x ≥ 55296 ∧ x ≤ 57343 then 0 else n
theorem long_end (k : Nat) (l : List UInt8) (n least x : Int) : R5Long.l0 (k + 1) (ofL l) n least x n = some (longEnd n least x) := by
 simp only [R5Long.l0]
 rw [if_neg (by omega)]
 unfold longEnd
 split
 · rfl
 split
 · rfl
 by_cases h1 : x ≥ 55296
 · rw [if_pos h1]
   by_cases h2 : x ≤ 57343
   · rw [if_pos h2, if_pos ⟨h1, h2⟩]
   rw [if_neg h2, if_neg (by omega)]
 rw [if_neg h1, if_neg (by omega)]
theorem long_step (k : Nat) (l : List UInt8) (n : Nat) (least x : Int) (i : Nat) (hi : i < n) (hn : n ≤ l.length) (hl : l.length ≤ 100000) (hx : 0 ≤ x ∧ x ≤ 10000000) :
    R5Long.l0 (k + 1) (ofL l) (n : Int) least x (i : Int) = if (l.getD i 0).toNat / 64 = 2 then R5Long.l0 k (ofL l) (n : Int) least (64 * x + (((l.getD i 0).toNat % 64 : Nat) : Int)) ((i + 1 : Nat) : Int) else some 0 := by
 simp only [R5Long.l0]
 have hb := (l.getD i 0).toNat_lt
 rw [if_pos (by omega), if_pos (by omega), ofL_size, if_pos (by omega), bt_get l i (by omega)]
 generalize (l.getD i 0).toNat = b at *
 by_cases h1 : (b : Int) < 128
 · rw [if_pos h1, if_neg (by omega)]
 rw [if_neg h1]
 by_cases h2 : (b : Int) > 191
 · rw [if_pos h2, if_neg (by omega)]
 · rw [if_neg h2, if_pos (by omega)]
   rw [w64 (x := 64 * x) (by omega) (by omega), w64 (x := (b : Int)) (by omega) (by omega), w64 (x := 64 * x + (b : Int)) (by omega) (by omega), w64 (x := 64 * x + (b : Int) - 128) (by omega) (by omega), w64 (x := (i : Int) + 1) (by omega) (by omega)]
   congr 1
   omega
set_option maxRecDepth 100000 in
theorem long_ev (l : List UInt8) (hl : l.length ≤ 100000) : Ev (fun k => R5Long.f k (ofL l)) (longV l) := by
 refine ⟨20, fun k hk => ?_⟩
 obtain ⟨m, rfl⟩ : ∃ m, k = m + 7 := ⟨k - 7, by omega⟩
 show R5Long.f (m + 7) (ofL l) = some (longV l)
 unfold R5Long.f longV
 rw [ofL_toList]
 by_cases h0 : l = []
 · rw [if_pos h0, if_pos (.inl h0)]
 have hp : 1 ≤ l.length := List.length_pos_iff.2 h0
 rw [if_neg h0, ofL_size, if_pos (by omega), show ((0 : Int)) = ((0 : Nat) : Int) from rfl, bt_get l 0 (by omega)]
 rw [Lib.decodeL_N]
 have hb0 := (l.getD 0 0).toNat_lt
 have hb1 := (l.getD 1 0).toNat_lt
 have hb2 := (l.getD 2 0).toNat_lt
 have hb3 := (l.getD 3 0).toNat_lt
 rw [w64 (x := ((l.getD 0 0).toNat : Int)) (by omega) (by omega)]
 have hst := fun (k n : Nat) (least x : Int) (i : Nat) (hi : i < n) (hn : n ≤ l.length) (hx : 0 ≤ x ∧ x ≤ 10000000) => long_step k l n least x i hi hn hl hx
 have s1 := fun (k n : Nat) (least x : Int) (hi : 1 < n) (hn : n ≤ l.length) (hx : 0 ≤ x ∧ x ≤ 10000000) => hst k n least x 1 hi hn hx
 have s2 := fun (k n : Nat) (least x : Int) (hi : 2 < n) (hn : n ≤ l.length) (hx : 0 ≤ x ∧ x ≤ 10000000) => hst k n least x 2 hi hn hx
 have s3 := fun (k n : Nat) (least x : Int) (hi : 3 < n) (hn : n ≤ l.length) (hx : 0 ≤ x ∧ x ≤ 10000000) => hst k n least x 3 hi hn hx
 clear hst
 have hle := fun (k : Nat) (n least x : Int) => long_end k l n least x
 have hsz : ((ofL l).size : Int) = (l.length : Int) := by rw [ofL_size]
 generalize (l.getD 0 0).toNat = b0 at *
 generalize (l.getD 1 0).toNat = b1 at *
 generalize (l.getD 2 0).toNat = b2 at *
 generalize (l.getD 3 0).toNat = b3 at *
 generalize l.length = n at *
 have bad : Lib.decodeN n b0 b1 b2 b3 = (65533, 1) → some (0 : Int) = some (if l = [] ∨ ((Lib.decodeN n b0 b1 b2 b3).1 = 65533 ∧ (Lib.decodeN n b0 b1 b2 b3).2 = 1) then (0 : Int) else ((Lib.decodeN n b0 b1 b2 b3).2 : Int)) := fun h => by
  rw [h, if_pos (.inr ⟨rfl, rfl⟩)]
 have okk : ∀ r w : Nat, Lib.decodeN n b0 b1 b2 b3 = (r, w) → (w ≠ 1 ∨ r ≠ 65533) → some ((w : Int)) = some (if l = [] ∨ ((Lib.decodeN n b0 b1 b2 b3).1 = 65533 ∧ (Lib.decodeN n b0 b1 b2 b3).2 = 1) then (0 : Int) else ((Lib.decodeN n b0 b1 b2 b3).2 : Int)) := fun r w h hw => by
  rw [h, if_neg]
  rintro (h | ⟨h1, h2⟩)
  · exact h0 h
  simp only [] at h1 h2; rcases hw with h | h <;> contradiction
 by_cases g0 : b0 < 128
 · rw [if_pos (by omega)]
   exact okk b0 1 (by unfold Lib.decodeN; rw [if_pos g0]) (.inr (by omega))
 rw [if_neg (by omega)]
 have hj0 : ∀ k, (if ((b0 : Int)) ≥ 192 then R5Long.j0 (k + 2) (ofL l) (b0 : Int) (decide ((b0 : Int) < 224)) else R5Long.j0 (k + 2) (ofL l) (b0 : Int) false) =
     if 192 ≤ b0 ∧ b0 < 224 then R5Long.j2 (k + 1) (ofL l) 2 128 ((b0 : Int) - 192) else if 224 ≤ b0 ∧ b0 < 240 then R5Long.j2 k (ofL l) 3 2048 ((b0 : Int) - 224) else if 240 ≤ b0 ∧ b0 < 248 then R5Long.j2 k (ofL l) 4 65536 ((b0 : Int) - 240) else some 0 := fun k => by
  simp only [R5Long.j0, R5Long.j1]
  by_cases a1 : 192 ≤ b0 ∧ b0 < 224
  · rw [if_pos (show ((b0 : Int)) ≥ 192 by omega), if_pos (by simp; omega), if_pos a1, w64 (by omega) (by omega)]
  rw [if_neg a1]
  have e1 : (if ((b0 : Int)) ≥ 192 then (if decide ((b0 : Int) < 224) = true then R5Long.j2 (k + 1) (ofL l) 2 128 (wrap64 ((b0 : Int) - 192)) else if (b0 : Int) ≥ 224 then (if decide ((b0 : Int) < 240) = true then R5Long.j2 k (ofL l) 3 2048 (wrap64 ((b0 : Int) - 224)) else if (b0 : Int) ≥ 240 then (if (b0 : Int) < 248 then R5Long.j2 k (ofL l) 4 65536 (wrap64 ((b0 : Int) - 240)) else some 0) else some 0) else (if false = true then R5Long.j2 k (ofL l) 3 2048 (wrap64 ((b0 : Int) - 224)) else if (b0 : Int) ≥ 240 then (if (b0 : Int) < 248 then R5Long.j2 k (ofL l) 4 65536 (wrap64 ((b0 : Int) - 240)) else some 0) else some 0))
      else (if false = true then R5Long.j2 (k + 1) (ofL l) 2 128 (wrap64 ((b0 : Int) - 192)) else if (b0 : Int) ≥ 224 then (if decide ((b0 : Int) < 240) = true then R5Long.j2 k (ofL l) 3 2048 (wrap64 ((b0 : Int) - 224)) else if (b0 : Int) ≥ 240 then (if (b0 : Int) < 248 then R5Long.j2 k (ofL l) 4 65536 (wrap64 ((b0 : Int) - 240)) else some 0) else some 0) else (if false = true then R5Long.j2 k (ofL l) 3 2048 (wrap64 ((b0 : Int) - 224)) else if (b0 : Int) ≥ 240 then (if (b0 : Int) < 248 then R5Long.j2 k (ofL l) 4 65536 (wrap64 ((b0 : Int) - 240)) else some 0) else some 0)))
      = if 224 ≤ b0 ∧ b0 < 240 then R5Long.j2 k (ofL l) 3 2048 ((b0 : Int) - 224) else if 240 ≤ b0 ∧ b0 < 248 then R5Long.j2 k (ofL l) 4 65536 ((b0 : Int) - 240) else some 0 := by
   by_cases a2 : b0 < 192
   · rw [if_neg (show ¬ ((b0 : Int)) ≥ 192 by omega), if_neg (by decide), if_neg (by omega), if_neg (by decide), if_neg (by omega), if_neg (by omega), if_neg (by omega)]
   · rw [if_pos (show ((b0 : Int)) ≥ 192 by omega), if_neg (by simp; omega), if_pos (by omega)]
     by_cases a3 : b0 < 240
     · rw [if_pos (show decide ((b0 : Int) < 240) = true by simp; omega), if_pos (show 224 ≤ b0 ∧ b0 < 240 by omega), w64 (by omega) (by omega)]
     rw [if_neg (show ¬ decide ((b0 : Int) < 240) = true by simp; omega), if_pos (show ((b0 : Int)) ≥ 240 by omega), if_neg (show ¬ (224 ≤ b0 ∧ b0 < 240) by omega)]
     by_cases a4 : b0 < 248
     · rw [if_pos (show ((b0 : Int)) < 248 by omega), if_pos (show 240 ≤ b0 ∧ b0 < 248 by omega), w64 (by omega) (by omega)]
     rw [if_neg (show ¬ ((b0 : Int)) < 248 by omega), if_neg (show ¬ (240 ≤ b0 ∧ b0 < 248) by omega)]
  exact e1
 rw [hj0 (m + 5)]
 have hj2 : ∀ (k : Nat) (c : Nat) (least x : Int), R5Long.j2 (k + 1) (ofL l) (c : Int) least x = if n < c then some 0 else R5Long.l0 k (ofL l) (c : Int) least x ((1 : Nat) : Int) := fun k c least x => by
  simp only [R5Long.j2]
  rw [hsz]
  by_cases h : n < c
  · rw [if_pos (by omega), if_pos h]
  rw [if_neg (by omega), if_neg h]; rfl
 by_cases a1 : 192 ≤ b0 ∧ b0 < 224
 · rw [if_pos a1, show (2 : Int) = ((2 : Nat) : Int) from rfl, hj2 (m + 5)]
   by_cases c1 : n < 2
   · rw [if_pos c1]
     exact bad (by unfold Lib.decodeN; rw [if_neg g0, if_neg (by omega), if_neg (by omega), if_neg (by omega)])
   rw [if_neg c1, s1 (m + 4) 2 128 _ (by decide) (by omega) ⟨by omega, by omega⟩]
   by_cases c2 : b1 / 64 = 2
   · rw [if_pos c2, hle (m + 3)]
     by_cases c3 : b0 % 32 * 64 + b1 % 64 ≥ 128
     · have hl : longEnd ((2 : Nat) : Int) 128 (64 * ((b0 : Int) - 192) + ((b1 % 64 : Nat) : Int)) = ((2 : Nat) : Int) := by unfold longEnd; rw [if_neg (by omega), if_neg (by omega), if_neg (by omega)]
       rw [hl]
       exact okk (b0 % 32 * 64 + b1 % 64) 2 (by unfold Lib.decodeN; rw [if_neg g0, if_pos ⟨by omega, by omega, c2⟩, if_pos c3]) (.inl (by decide))
     have hl : longEnd ((2 : Nat) : Int) 128 (64 * ((b0 : Int) - 192) + ((b1 % 64 : Nat) : Int)) = 0 := by unfold longEnd; rw [if_pos (by omega)]
     rw [hl]
     exact bad (by unfold Lib.decodeN; rw [if_neg g0, if_pos ⟨by omega, by omega, c2⟩, if_neg c3])
   rw [if_neg c2]
   exact bad (by unfold Lib.decodeN; rw [if_neg g0, if_neg (by omega), if_neg (by omega), if_neg (by omega)])
 rw [if_neg a1]
 by_cases a2 : 224 ≤ b0 ∧ b0 < 240
 · rw [if_pos a2, show (3 : Int) = ((3 : Nat) : Int) from rfl, hj2 (m + 4)]
   by_cases c1 : n < 3
   · rw [if_pos c1]
     exact bad (by unfold Lib.decodeN; rw [if_neg g0, if_neg (by omega), if_neg (by omega), if_neg (by omega)])
   rw [if_neg c1, s1 (m + 3) 3 2048 _ (by decide) (by omega) ⟨by omega, by omega⟩]
   by_cases c2 : b1 / 64 = 2
   · rw [if_pos c2, s2 (m + 2) 3 2048 _ (by decide) (by omega) ⟨by omega, by omega⟩]
     by_cases c4 : b2 / 64 = 2
     · rw [if_pos c4, hle (m + 1)]
       by_cases c3 : b0 % 16 * 4096 + b1 % 64 * 64 + b2 % 64 ≥ 2048 ∧ (b0 % 16 * 4096 + b1 % 64 * 64 + b2 % 64 < 55296 ∨ (57344 ≤ b0 % 16 * 4096 + b1 % 64 * 64 + b2 % 64 ∧ b0 % 16 * 4096 + b1 % 64 * 64 + b2 % 64 ≤ 1114111))
       · have hl : longEnd ((3 : Nat) : Int) 2048 (64 * (64 * ((b0 : Int) - 224) + ((b1 % 64 : Nat) : Int)) + ((b2 % 64 : Nat) : Int)) = ((3 : Nat) : Int) := by unfold longEnd; rw [if_neg (by omega), if_neg (by omega), if_neg (by omega)]
         rw [hl]
         exact okk (b0 % 16 * 4096 + b1 % 64 * 64 + b2 % 64) 3 (by unfold Lib.decodeN; rw [if_neg g0, if_neg (by omega), if_pos ⟨by omega, ⟨by omega, c2⟩, ⟨by omega, c4⟩⟩, if_pos c3]) (.inl (by decide))
       · have hl : longEnd ((3 : Nat) : Int) 2048 (64 * (64 * ((b0 : Int) - 224) + ((b1 % 64 : Nat) : Int)) + ((b2 % 64 : Nat) : Int)) = 0 := by
           unfold longEnd
           split
           · rfl
           split
           · rfl
           split
           · rfl
           · omega
         rw [hl]
         exact bad (by unfold Lib.decodeN; rw [if_neg g0, if_neg (by omega), if_pos ⟨by omega, ⟨by omega, c2⟩, ⟨by omega, c4⟩⟩, if_neg c3])
     rw [if_neg c4]
     exact bad (by unfold Lib.decodeN; rw [if_neg g0, if_neg (by omega), if_neg (by omega), if_neg (by omega)])
   rw [if_neg c2]
   exact bad (by unfold Lib.decodeN; rw [if_neg g0, if_neg (by omega), if_neg (by omega), if_neg (by omega)])
 rw [if_neg a2]
 by_cases a3 : 240 ≤ b0 ∧ b0 < 248
 · rw [if_pos a3, show (4 : Int) = ((4 : Nat) : Int) from rfl, hj2 (m + 4)]
   by_cases c1 : n < 4
   · rw [if_pos c1]
     exact bad (by unfold Lib.decodeN; rw [if_neg g0, if_neg (by omega), if_neg (by omega), if_neg (by omega)])
   rw [if_neg c1, s1 (m + 3) 4 65536 _ (by decide) (by omega) ⟨by omega, by omega⟩]
   by_cases c2 : b1 / 64 = 2
   · rw [if_pos c2, s2 (m + 2) 4 65536 _ (by decide) (by omega) ⟨by omega, by omega⟩]
     by_cases c4 : b2 / 64 = 2
     · rw [if_pos c4, s3 (m + 1) 4 65536 _ (by decide) (by omega) ⟨by omega, by omega⟩]
       by_cases c5 : b3 / 64 = 2
       · rw [if_pos c5, hle m]
         by_cases c3 : b0 % 8 * 262144 + b1 % 64 * 4096 + b2 % 64 * 64 + b3 % 64 ≥ 65536 ∧ (b0 % 8 * 262144 + b1 % 64 * 4096 + b2 % 64 * 64 + b3 % 64 < 55296 ∨ (57344 ≤ b0 % 8 * 262144 + b1 % 64 * 4096 + b2 % 64 * 64 + b3 % 64 ∧ b0 % 8 * 262144 + b1 % 64 * 4096 + b2 % 64 * 64 + b3 % 64 ≤ 1114111))
         · have hl : longEnd ((4 : Nat) : Int) 65536 (64 * (64 * (64 * ((b0 : Int) - 240) + ((b1 % 64 : Nat) : Int)) + ((b2 % 64 : Nat) : Int)) + ((b3 % 64 : Nat) : Int)) = ((4 : Nat) : Int) := by unfold longEnd; rw [if_neg (by omega), if_neg (by omega), if_neg (by omega)]
           rw [hl]
           exact okk (b0 % 8 * 262144 + b1 % 64 * 4096 + b2 % 64 * 64 + b3 % 64) 4 (by unfold Lib.decodeN; rw [if_neg g0, if_neg (by omega), if_neg (by omega), if_pos ⟨by omega, ⟨by omega, c2⟩, ⟨by omega, c4⟩, ⟨by omega, c5⟩⟩, if_pos c3]) (.inl (by decide))
         · have hl : longEnd ((4 : Nat) : Int) 65536 (64 * (64 * (64 * ((b0 : Int) - 240) + ((b1 % 64 : Nat) : Int)) + ((b2 % 64 : Nat) : Int)) + ((b3 % 64 : Nat) : Int)) = 0 := by
             unfold longEnd
             split
             · rfl
             split
             · rfl
             split
             · rfl
             · omega
           rw [hl]
           exact bad (by unfold Lib.decodeN; rw [if_neg g0, if_neg (by omega), if_neg (by omega), if_pos ⟨by omega, ⟨by omega, c2⟩, ⟨by omega, c4⟩, ⟨by omega, c5⟩⟩, if_neg c3])
       rw [if_neg c5]
       exact bad (by unfold Lib.decodeN; rw [if_neg g0, if_neg (by omega), if_neg (by omega), if_neg (by omega)])
     rw [if_neg c4]
     exact bad (by unfold Lib.decodeN; rw [if_neg g0, if_neg (by omega), if_neg (by omega), if_neg (by omega)])
   rw [if_neg c2]
   exact bad (by unfold Lib.decodeN; rw [if_neg g0, if_neg (by omega), if_neg (by omega), if_neg (by omega)])
 rw [if_neg a3]
 exact bad (by unfold Lib.decodeN; rw [if_neg g0, if_neg (by omega), if_neg (by omega), if_neg (by omega)])
theorem hexJ_bd : ∀ (j : Nat) (l : List UInt8) (x v : Int) (t : List UInt8), hexJ j l x = some (v, t) → 0 ≤ x → 0 ≤ v ∧ v < 16 ^ j * (x + 1)
 | 0, l, x, v, t, h, hx => by
  simp only [hexJ, Option.some.injEq, Prod.mk.injEq] at h
  obtain ⟨rfl, -⟩ := h
  simp; omega
 | j + 1, [], x, v, t, h, hx => by simp [hexJ] at h
 | j + 1, b :: l, x, v, t, h, hx => by
  simp only [hexJ] at h
  rw [Option.bind_eq_some_iff] at h
  obtain ⟨d, hd, h⟩ := h
  have hb := hexv_bd hd
  have ih := hexJ_bd j l (16 * x + d) v t h (by omega)
  refine ⟨ih.1, ?_⟩
  have : (16 : Int) ^ j * (16 * x + d + 1) ≤ 16 ^ j * (16 * (x + 1)) := Int.mul_le_mul_of_nonneg_left (by omega) (Int.le_of_lt (Int.pow_pos (by decide)))
  rw [Int.pow_succ, Int.mul_assoc]
  omega
theorem hexJ4_bd {l : List UInt8} {v : Int} {t : List UInt8} (h : hexJ 4 l 0 = some (v, t)) : 0 ≤ v ∧ v < 65536 := by
 have := hexJ_bd 4 l 0 v t h (Int.le_refl _)
 have e : (16 : Int) ^ 4 * (0 + 1) = 65536 := by decide
 omega
def Rd15 (s : List UInt8) (o : Int) (q : List UInt8 × S) (r : ByteArray × ByteArray × Int × Int × Int) : Prop :=
 ∃ (out : List UInt8) (p' : Nat) (e' : Int), r = (ofL out, ofL s, (p' : Int), o, e') ∧ p' ≤ s.length + 1 ∧ out.length ≤ 90000 ∧ e' = q.2.e ∧ (e' = 0 → out = q.1 ∧ s.drop p' = q.2.s ∧ p' ≤ s.length)
theorem Rd15.bad {s : List UInt8} {o : Int} {q : List UInt8 × S} {r : ByteArray × ByteArray × Int × Int × Int} {out : List UInt8} {p' : Nat} (hr : r = (ofL out, ofL s, (p' : Int), o, 11)) (hp : p' ≤ s.length + 1) (hq : q.2.e = 11) (ho : out.length ≤ 90000 := by first | exact Nat.zero_le _ | exact Nat.le_trans (encL_len _) (by decide)) : Rd15 s o q r :=
 ⟨out, p', 11, hr, hp, ho, hq.symm, fun h => absurd h (by decide)⟩
def escTab (b : UInt8) : Option (List UInt8) :=
 if b = 34 ∨ b = 92 ∨ b = 47 then some [b] else if b = 98 then some [8] else if b = 102 then some [12] else if b = 110 then some [10] else if b = 114 then some [13] else if b = 116 then some [9] else none
theorem esc_tab (b : UInt8) : (if escI b < 0 then none else some (escL (escI b))) = escTab b := by
 have : ∀ k : Fin 256, (if escI (UInt8.ofNat k.val) < 0 then none else some (escL (escI (UInt8.ofNat k.val)))) = escTab (UInt8.ofNat k.val) := by decide +kernel
 have h := this ⟨b.toNat, b.toNat_lt⟩
 rwa [show UInt8.ofNat (⟨b.toNat, b.toNat_lt⟩ : Fin 256).val = b from UInt8.ofNat_toNat] at h
theorem w1n (p n : Nat) (h : p ≤ n) (hn : n ≤ 6000) : wrap64 ((p : Int) + 1) = ((p + 1 : Nat) : Int) := by rw [w64 (by omega) (by omega)]; push_cast; rfl
theorem escape_sign (s : List UInt8) (hs : s.length ≤ 5000) (o : Int) (p : Nat) (hp : p ≤ s.length) : ∃ r, Rd15 s o (S.sign ⟨s.drop p, o, 0⟩) r ∧
    Ev (fun k => (R5_four.f k (ofL s) (p : Int) o 0).bind fun bt134 => (if bt134.1 < 55296 then (R5_escape.j1 k bt134.1 true bt134.2.1 bt134.2.2.1 bt134.2.2.2.1 bt134.2.2.2.2) else (R5_escape.j1 k bt134.1 (decide (bt134.1 > 57343)) bt134.2.1 bt134.2.2.1 bt134.2.2.2.1 bt134.2.2.2.2))) r := by
 obtain ⟨r1, ⟨p1, hp1, hq⟩, hev⟩ := four_ev s hs o p hp
 have hJ := four_J (s.drop p) o
 have hst : ∀ (x : Int) (e : Int), (0 ≤ x ∧ x < 55296) ∨ (57343 < x ∧ x ≤ 1114111) → Ev (fun k => R5_escape.j1 k x true (ofL s) (p1 : Int) o e) (ofL (encL x), ofL s, (p1 : Int), o, e) := fun x e hx =>
  Ev.step (f := fun _ => some (ofL (encL x), ofL s, (p1 : Int), o, e)) (fun k => by simp only [R5_escape.j1]; rw [if_pos trivial, sign_f x hx]; rfl) (Ev.now _)
 cases hh : hexJ 4 (s.drop p) 0 with
 | none =>
  rw [hh] at hq hJ
  simp only [] at hq hJ
  subst hq
  have hS : S.sign ⟨s.drop p, o, 0⟩ = (encL 0, ⟨s.drop p, o, 11⟩) := by
   unfold S.sign; rw [hJ]; simp only []; rw [if_pos (.inl (by decide))]
  refine ⟨_, Rd15.bad (out := encL 0) (p' := p1) rfl (by omega) (by rw [hS]), Ev.bind hev ?_⟩
  simp only []
  exact Ev.congr (f := fun k => R5_escape.j1 k 0 true (ofL s) (p1 : Int) o 11) (fun k => by rw [if_pos (by decide)]) (hst 0 11 (.inl ⟨by decide, by decide⟩))
 | some v =>
  obtain ⟨x, t⟩ := v
  have hxb := hexJ4_bd hh
  rw [hh] at hq hJ
  simp only [] at hq hJ
  obtain ⟨rfl, ht⟩ := hq
  by_cases hx1 : x < 55296 ∨ 57343 < x
  · have hS : S.sign ⟨s.drop p, o, 0⟩ = (encL x, ⟨t, o, 0⟩) := by
      unfold S.sign; rw [hJ]; simp only []; rw [if_pos hx1]
    refine ⟨(ofL (encL x), ofL s, (p1 : Int), o, 0), ⟨encL x, p1, 0, rfl, by omega, Nat.le_trans (encL_len _) (by decide), by rw [hS], fun _ => by rw [hS]; exact ⟨rfl, ht, hp1⟩⟩, Ev.bind hev ?_⟩
    simp only []
    refine Ev.congr (f := fun k => R5_escape.j1 k x true (ofL s) (p1 : Int) o 0) (fun k => ?_) (hst x 0 (by omega))
    by_cases h1 : x < 55296
    · rw [if_pos h1]
    · rw [if_neg h1, show decide (x > 57343) = true by simp; omega]
  · have hflag : ∀ k, (if x < 55296 then (R5_escape.j1 k x true (ofL s) (p1 : Int) o 0) else (R5_escape.j1 k x (decide (x > 57343)) (ofL s) (p1 : Int) o 0)) = R5_escape.j1 k x false (ofL s) (p1 : Int) o 0 := fun k => by
      rw [if_neg (by omega), show decide (x > 57343) = false by simp; omega]
    have hfail : ∀ (q : Nat), q ≤ s.length + 1 → Ev (fun k => R5_escape.j2 k x true (ofL s) (q : Int) o 0) (ofL [], ofL s, (q : Int), o, 11) := fun q hq =>
     Ev.step (f := fun _ => some (ofL [], ofL s, (q : Int), o, 11)) (fun k => by simp only [R5_escape.j2]; rw [if_pos trivial, fail_f]; rfl) (Ev.now _)
    by_cases hx2 : 56320 ≤ x ∨ Lib.hasPrefix t [92, 117] = false
    · have hS : (S.sign ⟨s.drop p, o, 0⟩).2.e = 11 := by
        unfold S.sign; rw [hJ]; simp only []; rw [if_neg (by omega), if_pos hx2]; rfl
      by_cases hx3 : 56320 ≤ x
      · refine ⟨_, Rd15.bad (out := []) (p' := p1) rfl (by omega) hS, Ev.bind hev ?_⟩
        simp only []
        refine Ev.congr (f := fun k => R5_escape.j1 k x false (ofL s) (p1 : Int) o 0) (fun k => hflag k) (Ev.step (f := fun k => R5_escape.j2 k x true (ofL s) (p1 : Int) o 0) (fun k => ?_) (hfail p1 (by omega)))
        simp only [R5_escape.j1]
        rw [if_neg (by decide), if_pos (by omega)]
      · have hpre : Lib.hasPrefix t [92, 117] = false := hx2.resolve_left hx3
        have hj1 : ∀ k, R5_escape.j1 (k + 1) x false (ofL s) (p1 : Int) o 0 = R5_escape.j2 k x (pk t != 92) (ofL s) (p1 : Int) o 0 := fun k => by
         simp only [R5_escape.j1]
         rw [if_neg (by decide), if_neg (by omega), peek_f, ht]; rfl
        by_cases h92 : pk t = 92
        · obtain ⟨b, l, hd, hb, hl, hlt⟩ := drop_pk (s := s) (p := p1) (c := 92) (by rw [ht]; exact h92) (by decide)
          have hbb : b = 92 := by rw [← UInt8.toNat_inj]; have : (92 : UInt8).toNat = 92 := rfl; omega
          subst hbb
          have h117 : pk l ≠ 117 := fun h => by
           rw [ht] at hd
           rw [hd] at hpre
           cases l with
           | nil => exact absurd h (by show (0 : Int) ≠ 117; decide)
           | cons c l' =>
            have hc : (c.toNat : Int) = 117 := h
            have : c = 117 := by rw [← UInt8.toNat_inj]; have : (117 : UInt8).toNat = 117 := rfl; omega
            subst this
            exact absurd hpre (by simp [Lib.hasPrefix, List.isPrefixOf])
          refine ⟨_, Rd15.bad (out := []) (p' := p1 + 1) rfl (by omega) hS, Ev.bind hev ?_⟩
          simp only []
          refine Ev.congr (f := fun k => R5_escape.j1 k x false (ofL s) (p1 : Int) o 0) (fun k => hflag k) (Ev.step hj1 (Ev.step (f := fun _ => some (ofL [], ofL s, ((p1 + 1 : Nat) : Int), o, 11)) (fun k => ?_) (Ev.now _)))
          simp only [R5_escape.j2]
          rw [show (pk t != 92) = false by rw [h92]; rfl, if_neg (by decide), w1n p1 s.length hp1 (by omega), peek_f, hl]
          simp only [Option.bind_some]
          rw [if_neg h117, fail_f]
          rfl
        refine ⟨_, Rd15.bad (out := []) (p' := p1) rfl (by omega) hS, Ev.bind hev ?_⟩
        simp only []
        refine Ev.congr (f := fun k => R5_escape.j1 k x false (ofL s) (p1 : Int) o 0) (fun k => hflag k) (Ev.step hj1 ?_)
        rw [show (pk t != 92) = true by simpa using h92]
        exact hfail p1 (by omega)
    · have hx3 : ¬ 56320 ≤ x := fun h => hx2 (.inl h)
      have hpre : Lib.hasPrefix t [92, 117] = true := by
       cases hb : Lib.hasPrefix t [92, 117] with
       | true => rfl
       | false => exact absurd (.inr hb) hx2
      obtain ⟨t2, rfl⟩ : ∃ t2, t = 92 :: 117 :: t2 := by
       unfold Lib.hasPrefix at hpre
       rw [List.isPrefixOf_iff_prefix] at hpre
       obtain ⟨t2, h⟩ := hpre
       exact ⟨t2, h.symm⟩
      have hlen := congrArg List.length ht
      simp only [List.length_drop, List.length_cons] at hlen
      have hd1 : s.drop (p1 + 1) = 117 :: t2 := by rw [← List.drop_drop, ht]; rfl
      have hd2 : s.drop (p1 + 1 + 1) = t2 := by rw [← List.drop_drop, hd1]; rfl
      have hj1 : ∀ k, R5_escape.j1 (k + 1) x false (ofL s) (p1 : Int) o 0 = R5_escape.j2 k x false (ofL s) (p1 : Int) o 0 := fun k => by
       simp only [R5_escape.j1]
       rw [if_neg (by decide), if_neg (by omega), peek_f, ht]; rfl
      have hj2 : ∀ k, R5_escape.j2 (k + 1) x false (ofL s) (p1 : Int) o 0 = (R5_four.f k (ofL s) ((p1 + 1 + 1 : Nat) : Int) o 0).bind fun bt158 => (if bt158.1 < 56320 then (R5_escape.j3 k x bt158.1 true bt158.2.1 bt158.2.2.1 bt158.2.2.2.1 bt158.2.2.2.2) else (R5_escape.j3 k x bt158.1 (decide (bt158.1 > 57343)) bt158.2.1 bt158.2.2.1 bt158.2.2.2.1 bt158.2.2.2.2)) := fun k => by
       simp only [R5_escape.j2]
       rw [if_neg (by decide), w1n p1 s.length hp1 (by omega), peek_f, hd1]
       simp only [Option.bind_some]
       rw [if_pos (show pk (117 :: t2) = 117 from rfl), w1n (p1 + 1) s.length (by omega) (by omega)]
      obtain ⟨r2, ⟨p2, hp2, hq2⟩, hev2⟩ := four_ev s hs o (p1 + 1 + 1) (by omega)
      rw [hd2] at hq2
      have hJ2 := four_J t2 o
      have hsg : S.sign ⟨s.drop p, o, 0⟩ = S.sgn x ⟨t2, o, 0⟩ := by
       unfold S.sign; rw [hJ]; simp only []; rw [if_neg (by omega), if_neg hx2]; rfl
      have hbad3 : ∀ (y e : Int), e = 0 ∨ e = 11 → Ev (fun k => R5_escape.j3 k x y true (ofL s) (p2 : Int) o e) (ofL [], ofL s, (p2 : Int), o, 11) := fun y e he =>
       Ev.step (f := fun _ => some (ofL [], ofL s, (p2 : Int), o, 11)) (fun k => by
        simp only [R5_escape.j3]
        rw [if_pos trivial, fail_f]
        rcases he with rfl | rfl <;> rfl) (Ev.now _)
      cases hh2 : hexJ 4 t2 0 with
      | none =>
       rw [hh2] at hq2 hJ2
       simp only [] at hq2 hJ2
       subst hq2
       have hS : (S.sign ⟨s.drop p, o, 0⟩).2.e = 11 := by
        rw [hsg]; unfold S.sgn; rw [hJ2]; simp only []; rw [if_pos (.inl (by decide))]; rfl
       refine ⟨_, Rd15.bad (out := []) (p' := p2) rfl (by omega) hS, Ev.bind hev ?_⟩
       simp only []
       refine Ev.congr (f := fun k => R5_escape.j1 k x false (ofL s) (p1 : Int) o 0) (fun k => hflag k) (Ev.step hj1 (Ev.step hj2 (Ev.bind hev2 ?_)))
       simp only []
       exact Ev.congr (f := fun k => R5_escape.j3 k x 0 true (ofL s) (p2 : Int) o 11) (fun k => by rw [if_pos (by decide)]) (hbad3 0 11 (.inr rfl))
      | some v =>
       obtain ⟨y, t3⟩ := v
       have hyb := hexJ4_bd hh2
       rw [hh2] at hq2 hJ2
       simp only [] at hq2 hJ2
       obtain ⟨rfl, ht3⟩ := hq2
       by_cases hy : y < 56320 ∨ 57343 < y
       · have hS : (S.sign ⟨s.drop p, o, 0⟩).2.e = 11 := by
           rw [hsg]; unfold S.sgn; rw [hJ2]; simp only []; rw [if_pos hy]; rfl
         refine ⟨_, Rd15.bad (out := []) (p' := p2) rfl (by omega) hS, Ev.bind hev ?_⟩
         simp only []
         refine Ev.congr (f := fun k => R5_escape.j1 k x false (ofL s) (p1 : Int) o 0) (fun k => hflag k) (Ev.step hj1 (Ev.step hj2 (Ev.bind hev2 ?_)))
         simp only []
         refine Ev.congr (f := fun k => R5_escape.j3 k x y true (ofL s) (p2 : Int) o 0) (fun k => ?_) (hbad3 y 0 (.inl rfl))
         by_cases h1 : y < 56320
         · rw [if_pos h1]
         · rw [if_neg h1, show decide (y > 57343) = true by simp; omega]
       have hX : signX x y = 65536 + 1024 * (x - 55296) + y - 56320 := by unfold signX wrap32; omega
       have hS : S.sign ⟨s.drop p, o, 0⟩ = (encL (65536 + 1024 * (x - 55296) + y - 56320), ⟨t3, o, 0⟩) := by
        rw [hsg]; unfold S.sgn; rw [hJ2]; simp only []; rw [if_neg hy, hX]
       refine ⟨(ofL (encL (65536 + 1024 * (x - 55296) + y - 56320)), ofL s, (p2 : Int), o, 0), ⟨_, p2, 0, rfl, by omega, Nat.le_trans (encL_len _) (by decide), by rw [hS], fun _ => by rw [hS]; exact ⟨rfl, ht3, hp2⟩⟩, Ev.bind hev ?_⟩
       simp only []
       refine Ev.congr (f := fun k => R5_escape.j1 k x false (ofL s) (p1 : Int) o 0) (fun k => hflag k) (Ev.step hj1 (Ev.step hj2 (Ev.bind hev2 ?_)))
       simp only []
       refine Ev.congr (f := fun k => R5_escape.j3 k x y false (ofL s) (p2 : Int) o 0) (fun k => ?_) (Ev.step (f := fun _ => some (ofL (encL (65536 + 1024 * (x - 55296) + y - 56320)), ofL s, (p2 : Int), o, 0)) (fun k => ?_) (Ev.now _))
       · rw [if_neg (by omega), show decide (y > 57343) = false by simp; omega]
       simp only [R5_escape.j3]
       rw [if_neg (by decide), w64 (x := x - 55296) (by omega) (by omega), w64 (x := 1024 * (x - 55296)) (by omega) (by omega), w64 (x := 65536 + 1024 * (x - 55296)) (by omega) (by omega), w64 (x := 65536 + 1024 * (x - 55296) + y) (by omega) (by omega), w64 (x := 65536 + 1024 * (x - 55296) + y - 56320) (by omega) (by omega), sign_f _ (.inr ⟨by omega, by omega⟩)]
       rfl
theorem escT_tab (b : UInt8) (l : List UInt8) (o : Int) (h : b ≠ 117) : S.escT b ⟨l, o, 0⟩ = match escTab b with | some out => (out, ⟨l, o, 0⟩) | none => ([], ⟨l, o, 11⟩) := by
 have := esc_tab b
 unfold S.escT
 rw [if_neg h]
 by_cases hh : escI b < 0
 · rw [if_pos hh] at this ⊢; rw [← this]; rfl
 rw [if_neg hh] at this ⊢; rw [← this]
theorem byte_eq (b c : UInt8) : ((b.toNat : Int) = (c.toNat : Int)) ↔ b = c := ⟨fun h => by rw [← UInt8.toNat_inj]; omega, fun h => by rw [h]⟩
theorem escTab_len (b : UInt8) (out : List UInt8) (h : escTab b = some out) : out.length ≤ 90000 := by
 unfold escTab at h
 repeat' (split at h)
 all_goals first | (cases h; done) | (injection h with h; subst h; exact (Nat.le_of_ble_eq_true rfl))
theorem j0_tab (k : Nat) (b : UInt8) (s : ByteArray) (P o : Int) (h : b ≠ 117) : R5_escape.j0 (k + 1) (b.toNat : Int) (b.toNat : Int) (decide (b = 34 ∨ b = 92 ∨ b = 47)) s P o 0 = some (match escTab b with | some out => (ofL out, s, P, o, 0) | none => (ofL [], s, P, o, 11)) := by
 simp only [R5_escape.j0]
 have hk : ∀ c : UInt8, ((b.toNat : Int) = (c.toNat : Int)) ↔ b = c := byte_eq b
 have k98 := hk 98
 have k102 := hk 102
 have k110 := hk 110
 have k114 := hk 114
 have k116 := hk 116
 have k117 := hk 117
 simp only [show ((98 : UInt8).toNat : Int) = 98 from rfl] at k98
 simp only [show ((102 : UInt8).toNat : Int) = 102 from rfl] at k102
 simp only [show ((110 : UInt8).toNat : Int) = 110 from rfl] at k110
 simp only [show ((114 : UInt8).toNat : Int) = 114 from rfl] at k114
 simp only [show ((116 : UInt8).toNat : Int) = 116 from rfl] at k116
 simp only [show ((117 : UInt8).toNat : Int) = 117 from rfl] at k117
 unfold escTab
 by_cases h0 : b = 34 ∨ b = 92 ∨ b = 47
 · rw [if_pos (by simpa using h0), if_pos h0]
   have : strOfNums [(b.toNat : Int)] = ofL [UInt8.ofNat ((b.toNat : Int)).toNat] := rfl
   rw [this, Int.toNat_natCast, UInt8.ofNat_toNat]
 rw [if_neg (by simpa using h0), if_neg h0]
 by_cases h1 : b = 98
 · rw [if_pos (k98.2 h1), if_pos h1]; rfl
 rw [if_neg (fun e => h1 (k98.1 e)), if_neg h1]
 by_cases h2 : b = 102
 · rw [if_pos (k102.2 h2), if_pos h2]; rfl
 rw [if_neg (fun e => h2 (k102.1 e)), if_neg h2]
 by_cases h3 : b = 110
 · rw [if_pos (k110.2 h3), if_pos h3]; rfl
 rw [if_neg (fun e => h3 (k110.1 e)), if_neg h3]
 by_cases h4 : b = 114
 · rw [if_pos (k114.2 h4), if_pos h4]; rfl
 rw [if_neg (fun e => h4 (k114.1 e)), if_neg h4]
 by_cases h5 : b = 116
 · rw [if_pos (k116.2 h5), if_pos h5]; rfl
 rw [if_neg (fun e => h5 (k116.1 e)), if_neg h5, if_neg (fun e => h (k117.1 e)), fail_f]
 rfl
theorem esc_ev (s : List UInt8) (hs : s.length ≤ 5000) (o : Int) (p : Nat) (hp : p ≤ s.length) : ∃ r, Rd15 s o (S.esc ⟨s.drop p, o, 0⟩) r ∧ Ev (fun k => R5_escape.f k (ofL s) (p : Int) o 0) r := by
 have hw := w1n p s.length hp (by omega)
 cases hd : s.drop p with
 | nil =>
  refine ⟨_, Rd15.bad (out := []) (p' := p + 1) rfl (by omega) rfl, Ev.congr (f := fun k => R5_escape.j0 k 0 0 false (ofL s) ((p + 1 : Nat) : Int) o 0) (fun k => ?_) (Ev.step (f := fun _ => some (ofL [], ofL s, ((p + 1 : Nat) : Int), o, 11)) (fun k => ?_) (Ev.now _))⟩
  · simp only [R5_escape.f, peek_f, hd, Option.bind_some, hw]
    rfl
  simp only [R5_escape.j0, fail_f]
  rfl
 | cons b l =>
  have hl : s.drop (p + 1) = l := by rw [← List.drop_drop, hd]; rfl
  have hp1 : p + 1 ≤ s.length := by have := congrArg List.length hd; simp at this; omega
  have hk : ∀ c : UInt8, ((b.toNat : Int) = (c.toNat : Int)) ↔ b = c := byte_eq b
  have k34 := hk 34
  have k92 := hk 92
  have k47 := hk 47
  simp only [show ((34 : UInt8).toNat : Int) = 34 from rfl] at k34
  simp only [show ((92 : UInt8).toNat : Int) = 92 from rfl] at k92
  simp only [show ((47 : UInt8).toNat : Int) = 47 from rfl] at k47
  have hf : ∀ k, R5_escape.f k (ofL s) (p : Int) o 0 = R5_escape.j0 k (b.toNat : Int) (b.toNat : Int) (decide (b = 34 ∨ b = 92 ∨ b = 47)) (ofL s) ((p + 1 : Nat) : Int) o 0 := fun k => by
   simp only [R5_escape.f, peek_f, hd, Option.bind_some, hw, show pk (b :: l) = (b.toNat : Int) from rfl]
   by_cases h1 : b = 34
   · rw [if_pos (k34.2 h1)]; subst h1; rfl
   rw [if_neg (fun e => h1 (k34.1 e))]
   by_cases h2 : b = 92
   · rw [if_pos (k92.2 h2)]; subst h2; rfl
   rw [if_neg (fun e => h2 (k92.1 e))]
   by_cases h3 : b = 47
   · subst h3; rfl
   have e1 : ((b.toNat : Int) == 47) = false := by rw [beq_eq_false_iff_ne]; exact fun e => h3 (k47.1 e)
   have e2 : decide (b = 34 ∨ b = 92 ∨ b = 47) = false := by simp [h1, h2, h3]
   rw [e1, e2]
  by_cases h117 : b = 117
  · subst h117
    obtain ⟨r, h1, h2⟩ := escape_sign s hs o (p + 1) hp1
    rw [hl] at h1
    refine ⟨r, ?_, Ev.congr hf (Ev.step (fun k => ?_) h2)⟩
    · show Rd15 s o (S.escT 117 ⟨l, o, 0⟩) r
      unfold S.escT
      rw [if_pos rfl]
      exact h1
    simp only [R5_escape.j0]
    rw [if_neg (by decide), if_neg (by decide), if_neg (by decide), if_neg (by decide), if_neg (by decide), if_neg (by decide), if_pos (by decide)]
  have hT : S.esc ⟨b :: l, o, 0⟩ = match escTab b with | some out => (out, ⟨l, o, 0⟩) | none => ([], ⟨l, o, 11⟩) := escT_tab b l o h117
  have hj := fun k => j0_tab k b (ofL s) ((p + 1 : Nat) : Int) o h117
  cases ht : escTab b with
  | none =>
   rw [ht] at hT hj
   simp only [] at hT hj
   refine ⟨_, Rd15.bad (out := []) (p' := p + 1) rfl (by omega) (by rw [hT]), Ev.congr hf (Ev.step (f := fun _ => some (ofL [], ofL s, ((p + 1 : Nat) : Int), o, 11)) (fun k => hj k) (Ev.now _))⟩
  | some out =>
   rw [ht] at hT hj
   simp only [] at hT hj
   refine ⟨(ofL out, ofL s, ((p + 1 : Nat) : Int), o, 0), ⟨out, p + 1, 0, rfl, by omega, escTab_len b out ht, by rw [hT], fun _ => by rw [hT]; exact ⟨rfl, hl, hp1⟩⟩, Ev.congr hf (Ev.step (f := fun _ => some (ofL out, ofL s, ((p + 1 : Nat) : Int), o, 0)) (fun k => hj k) (Ev.now _))⟩
theorem decode_high {b : UInt8} {l : List UInt8} (h : 128 ≤ b.toNat) : 128 ≤ (Lib.decodeL (b :: l)).1 := by
 rw [Lib.decodeL_N]
 have : ((b :: l).getD 0 0).toNat = b.toNat := rfl
 rw [this]
 unfold Lib.decodeN
 rw [if_neg (by omega)]
 repeat' split
 all_goals (simp only []; omega)
theorem Rd15.swap {s : List UInt8} {o : Int} {q q' : List UInt8 × S} {r : ByteArray × ByteArray × Int × Int × Int} (h : Rd15 s o q r) (h1 : q.2.e ≠ 0) (h2 : q'.2.e = q.2.e) : Rd15 s o q' r := by
 obtain ⟨out, p', e', a, b, c, d, e⟩ := h
 exact ⟨out, p', e', a, b, c, d.trans h2.symm, fun h => absurd (d.symm.trans h) h1⟩
theorem str_l (s : List UInt8) (hs : s.length ≤ 5000) (o : Int) : ∀ (m p : Nat) (out : List UInt8) (n : Nat), s.length - p < m → p ≤ s.length → out.length + 17 * (s.length - p) ≤ 85000 → s.length - p < n →
    ∃ r, Rd15 s o (strLoop S.esc n out ⟨s.drop p, o, 0⟩) r ∧ Ev (fun k => R5_str.l0 k (ofL out) (ofL s) (p : Int) o 0) r
 | 0, p, out, n, hm, hp, ho, hn => absurd hm (by omega)
 | m + 1, p, out, 0, hm, hp, ho, hn => absurd hn (by omega)
 | m + 1, p, out, n + 1, hm, hp, ho, hn => by
  obtain ⟨l, hld⟩ : ∃ l, l = s.drop p := ⟨_, rfl⟩
  have hll : l.length = s.length - p := by rw [hld, List.length_drop]
  rw [← hld]
  have hround : ∀ r, Ev (fun k => R5_str.j1 k (ofL out) (longV l) (ofL s) (p : Int) o 0) r → Ev (fun k => R5_str.l0 k (ofL out) (ofL s) (p : Int) o 0) r := fun r hr => by
   by_cases hlt : p < s.length
   · refine Ev.step (f := fun k => (R5Long.f k (ofL l)).bind fun t181 => R5_str.j1 k (ofL out) t181 (ofL s) (p : Int) o 0) (fun k => ?_) (Ev.bind (long_ev l (by omega)) hr)
     simp only [R5_str.l0]
     rw [if_pos trivial, ofL_size, if_pos (by omega), if_pos (by omega), if_pos (by omega), Int.toNat_natCast, ofL_ext, List.take_length, ← hld]
   refine Ev.step (f := fun k => R5_str.j1 k (ofL out) (longV l) (ofL s) (p : Int) o 0) (fun k => ?_) hr
   have hl0 : l = [] := List.eq_nil_of_length_eq_zero (by omega)
   simp only [R5_str.l0]
   rw [if_pos trivial, ofL_size, if_neg (by omega), hl0]
   rfl
  have hj1 : ∀ k, R5_str.j1 (k + 1) (ofL out) (longV l) (ofL s) (p : Int) o 0 = R5_str.j2 k (ofL out) (longV l) (pk l) (decide (longV l = 0 ∨ pk l < 32)) (ofL s) (p : Int) o 0 := fun k => by
   simp only [R5_str.j1, peek_f, Option.bind_some, ← hld]
   by_cases h : longV l = 0
   · rw [if_pos h]; simp [h]
   rw [if_neg h]; simp [h]
  have hbad : (S.plain ⟨l, o, 0⟩).2 = false → (longV l = 0 ∨ pk l < 32) → ∃ r, Rd15 s o (strLoop S.esc (n + 1) out ⟨l, o, 0⟩) r ∧ Ev (fun k => R5_str.l0 k (ofL out) (ofL s) (p : Int) o 0) r := fun h1 h2 => by
   refine ⟨_, Rd15.bad (out := []) (p' := p) rfl (by omega) ?_, hround _ (Ev.step hj1 (Ev.step (f := fun k => R5_str.l0 k (ofL out) (ofL s) (p : Int) o 11) (fun k => ?_) (Ev.step (f := fun _ => some (ofL [], ofL s, (p : Int), o, 11)) (fun k => ?_) (Ev.now _))))⟩
   · rw [strLoop_ok, if_pos h1]; rfl
   · simp only [R5_str.j2]
     rw [if_pos (by simpa using h2), fail_f]
     rfl
   simp only [R5_str.l0]
   rw [if_neg (by decide)]
   rfl
  cases hcs : l with
  | nil =>
   rw [← hcs]
   exact hbad (by rw [plain_L, hcs]; rfl) (.inl (by rw [hcs]; rfl))
  | cons b t =>
   rw [← hcs]
   have hne : l ≠ [] := by rw [hcs]; simp
   have hpk : pk l = (b.toNat : Int) := by rw [hcs]; rfl
   have hlt : p < s.length := by have := congrArg List.length hcs; simp at this; omega
   have hdt : s.drop (p + 1) = t := by rw [← List.drop_drop, ← hld, hcs]; rfl
   have hpl : S.plain ⟨l, o, 0⟩ = plainL (l.length + 1) l := plain_L l o 0
   by_cases hg : (Lib.decodeL l).1 = 65533 ∧ (Lib.decodeL l).2 = 1
   · refine hbad ?_ (.inl (by unfold longV; rw [if_pos (.inr hg)]))
     rw [hpl, plainL, if_neg hne, if_neg (by omega), if_neg (by omega), if_pos (by omega)]
   have hgood : good (Lib.decodeL l) := hg
   have hlv : longV l = ((Lib.decodeL l).2 : Int) := by unfold longV; rw [if_neg]; rintro (h | h); exact hne h; exact hg h
   have hw1 := Lib.decodeL_width l
   have hwl := Lib.decodeL_le l hne
   have hpw : p + (Lib.decodeL l).2 ≤ s.length := by clear hround hj1 hbad; omega
   have hc5 : out.length + (l.take (Lib.decodeL l).2).length ≤ 200000 := by clear hround hj1 hbad; rw [List.length_take]; omega
   have hbl := b.toNat_lt
   have hasc : b.toNat < 128 → Lib.decodeL l = (b.toNat, 1) := fun h => by rw [hcs]; exact Lib.decodeL_ascii b t h
   by_cases h32 : b.toNat < 32
   · refine hbad ?_ (.inr (by rw [hpk]; omega))
     have hd := hasc (by omega)
     rw [hpl, plainL, if_neg hne, hd, if_neg (by simp only []; omega), if_pos (by simp only []; omega)]
   have hflag : decide (longV l = 0 ∨ pk l < 32) = false := by
    rw [decide_eq_false_iff_not, hlv, hpk]; omega
   rw [hflag] at hj1
   have hj2 : ∀ k, R5_str.j2 (k + 1) (ofL out) (longV l) (pk l) false (ofL s) (p : Int) o 0 = (if pk l = 34 then (some (ofL out, ofL s, ((p + 1 : Nat) : Int), o, 0)) else (if pk l = 92 then ((R5_escape.f k (ofL s) ((p + 1 : Nat) : Int) o 0).bind fun bt191 => (if (ofL out).size + bt191.1.size ≤ 9223372036854775807 then (R5_str.l0 k (ofL out ++ bt191.1) bt191.2.1 bt191.2.2.1 bt191.2.2.2.1 bt191.2.2.2.2) else (none))) else R5_str.l0 k (ofL (out ++ l.take (Lib.decodeL l).2)) (ofL s) ((p + (Lib.decodeL l).2 : Nat) : Int) o 0)) := fun k => by
    simp only [R5_str.j2]
    rw [if_neg (by decide), w1n p s.length hp (by omega)]
    by_cases h1 : pk l = 34
    · rw [if_pos h1, if_pos h1]
    rw [if_neg h1, if_neg h1]
    by_cases h2 : pk l = 92
    · rw [if_pos h2, if_pos h2]
    rw [if_neg h2, if_neg h2, hlv]
    have hwr : wrap64 ((p : Int) + ((Lib.decodeL l).2 : Int)) = ((p + (Lib.decodeL l).2 : Nat) : Int) := by rw [w64 (by omega) (by omega)]; push_cast; rfl
    have hex : (ofL s).extract ((p : Int)).toNat ((((p + (Lib.decodeL l).2 : Nat)) : Int)).toNat = ofL (l.take (Lib.decodeL l).2) := by
     rw [Int.toNat_natCast, Int.toNat_natCast, ofL_ext, hld]
     congr 1
     rw [← List.take_drop]
    have c1 : (0 : Int) ≤ (p : Int) := Int.natCast_nonneg p
    have c2 : (p : Int) ≤ ((p + (Lib.decodeL l).2 : Nat) : Int) := by omega
    have c3 : ((p + (Lib.decodeL l).2 : Nat) : Int) ≤ ((ofL s).size : Int) := by rw [ofL_size]; exact Int.ofNat_le.2 hpw
    have c4 : (ofL out).size + (ofL (l.take (Lib.decodeL l).2)).size ≤ 9223372036854775807 := by
     rw [ofL_size, ofL_size]
     exact Nat.le_trans hc5 (Nat.le_of_ble_eq_true rfl)
    rw [hwr, hex, if_pos c1, if_pos c2, if_pos c3, if_pos c4, ofL_app]
   by_cases h34 : b = 34
   · subst h34
     have hd := hasc (by decide)
     have hpl0 : S.plain ⟨l, o, 0⟩ = (0, true) := by rw [hpl, hcs]; exact plainL_stop _ 34 t (.inl rfl)
     refine ⟨(ofL out, ofL s, ((p + 1 : Nat) : Int), o, 0), ⟨out, p + 1, 0, rfl, by omega, by omega, ?_, fun _ => ?_⟩, hround _ (Ev.step hj1 (Ev.step (f := fun _ => some (ofL out, ofL s, ((p + 1 : Nat) : Int), o, 0)) (fun k => ?_) (Ev.now _)))⟩
     · rw [strLoop_ok, hpl0, hcs]; rfl
     · rw [strLoop_ok, hpl0, hcs]
       refine ⟨?_, hdt, by omega⟩
       show out = out ++ []
       rw [List.append_nil]
     rw [hj2, if_pos (by rw [hpk]; rfl)]
   by_cases h92 : b = 92
   · subst h92
     have hpl0 : S.plain ⟨l, o, 0⟩ = (0, true) := by rw [hpl, hcs]; exact plainL_stop _ 92 t (.inr rfl)
     have hcut : S.cut ⟨l, o, 0⟩ = ⟨s.drop (p + 1), o, 0⟩ := by unfold S.cut; rw [hpl0]; simp only []; rw [hcs, hdt]; rfl
     have hSL : strLoop S.esc (n + 1) out ⟨l, o, 0⟩ = strLoop S.esc n (out ++ (S.esc ⟨s.drop (p + 1), o, 0⟩).1) (S.esc ⟨s.drop (p + 1), o, 0⟩).2 := by
      rw [strLoop_ok, hpl0, hcut, if_neg (by decide), hcs, if_neg (show ¬ ((92 :: t).getD (0, true).fst 0 = 34) from show ¬ ((92 : UInt8) = 34) by decide)]
      simp only [List.take_zero, List.append_nil]
     obtain ⟨r1, hr1, hev1⟩ := esc_ev s hs o (p + 1) (by omega)
     obtain ⟨oe, pe, ee, rfl, hpe, hoe, hee, hok⟩ := hr1
     have hesc := esc_len ⟨s.drop (p + 1), o, 0⟩
     have hgo : ∀ r, Ev (fun k => R5_str.l0 k (ofL (out ++ oe)) (ofL s) (pe : Int) o ee) r → Ev (fun k => R5_str.l0 k (ofL out) (ofL s) (p : Int) o 0) r := fun r hr =>
      hround _ (Ev.step hj1 (Ev.step (f := fun k => (R5_escape.f k (ofL s) ((p + 1 : Nat) : Int) o 0).bind fun bt191 => (if (ofL out).size + bt191.1.size ≤ 9223372036854775807 then (R5_str.l0 k (ofL out ++ bt191.1) bt191.2.1 bt191.2.2.1 bt191.2.2.2.1 bt191.2.2.2.2) else (none))) (fun k => by rw [hj2, if_neg (by rw [hpk]; decide), if_pos (by rw [hpk]; rfl)]) (Ev.bind hev1 (Ev.congr (fun k => by
       rw [if_pos (by simp only [ofL_size]; omega), ofL_app]) hr))))
     rw [hSL]
     by_cases he : ee = 0
     · obtain ⟨h1, h2, h3⟩ := hok he
       have hS2 : (S.esc ⟨s.drop (p + 1), o, 0⟩).2 = ⟨s.drop pe, o, 0⟩ := by
        have e1 := hesc.2.2
        have e2 := hee.symm.trans he
        have e3 := h2
        generalize (S.esc ⟨s.drop (p + 1), o, 0⟩).2 = q at e1 e2 e3
        obtain ⟨qs, qo, qe⟩ := q
        simp only [] at e1 e2 e3
        subst e1; subst e2; subst e3
        rfl
       have hlen1 := hesc.1
       rw [hS2] at hlen1
       simp only [List.length_drop] at hlen1
       have ho2 := hesc.2.1
       rw [← h1] at ho2
       rw [hS2, ← h1]
       obtain ⟨r, g1, g2⟩ := str_l s hs o m pe (out ++ oe) n (by omega) h3 (by rw [List.length_append]; omega) (by omega)
       subst he
       exact ⟨r, g1, hgo r g2⟩
     obtain ⟨k, rfl⟩ : ∃ k, n = k + 1 := ⟨n - 1, by omega⟩
     refine ⟨(ofL [], ofL s, (pe : Int), o, ee), ⟨[], pe, ee, rfl, hpe, Nat.zero_le _, ?_, fun h => absurd h he⟩, hgo _ (Ev.step (f := fun _ => some (ofL [], ofL s, (pe : Int), o, ee)) (fun k => ?_) (Ev.now _))⟩
     · rw [strLoop, if_pos (by rw [← hee]; exact he), hee]
     simp only [R5_str.l0]
     rw [if_neg he]
     rfl
   ·
    have hbk : ∀ c : UInt8, b ≠ c → b.toNat ≠ c.toNat := fun c h e => h (UInt8.toNat_inj.1 e)
    have b34 := hbk 34 h34
    have b92 := hbk 92 h92
    have e34 : (34 : UInt8).toNat = 34 := rfl
    have e92 : (92 : UInt8).toNat = 92 := rfl
    rw [e34] at b34
    rw [e92] at b92
    have hdec : (Lib.decodeL l).1 ≠ 34 ∧ (Lib.decodeL l).1 ≠ 92 ∧ 32 ≤ (Lib.decodeL l).1 := by
     by_cases h128 : b.toNat < 128
     · rw [hasc h128]; exact ⟨b34, b92, by simp only []; omega⟩
     have := decode_high (b := b) (l := t) (by omega)
     rw [← hcs] at this
     exact ⟨by omega, by omega, by omega⟩
    obtain ⟨hch, hdt2, -⟩ := Ch_take hne hgood
    have hsplit : l = l.take (Lib.decodeL l).2 ++ l.drop (Lib.decodeL l).2 := (List.take_append_drop _ _).symm
    have hdrop : l.drop (Lib.decodeL l).2 = s.drop (p + (Lib.decodeL l).2) := by rw [hld, List.drop_drop]
    have hcl : (l.take (Lib.decodeL l).2).length = (Lib.decodeL l).2 := by rw [List.length_take]; omega
    obtain ⟨r, g1, g2⟩ := str_l s hs o m (p + (Lib.decodeL l).2) (out ++ l.take (Lib.decodeL l).2) (n + 1) (by omega) (by omega) (by rw [List.length_append]; omega) (by omega)
    refine ⟨r, ?_, hround _ (Ev.step hj1 (Ev.step (f := fun k => R5_str.l0 k (ofL (out ++ l.take (Lib.decodeL l).2)) (ofL s) ((p + (Lib.decodeL l).2 : Nat) : Int) o 0) (fun k => ?_) g2))⟩
    · rw [← hdrop] at g1
      by_cases hpl2 : (plainL ((l.drop (Lib.decodeL l).2).length + 1) (l.drop (Lib.decodeL l).2)).2 = true
      · have := strLoop_plain n out hch (by rw [hdt2]; exact hdec.1) (by rw [hdt2]; exact hdec.2.1) (by rw [hdt2]; exact hdec.2.2) (l.drop (Lib.decodeL l).2) o hpl2
        rw [← hsplit] at this
        rw [this]
        exact g1
      have hpf : (plainL ((l.drop (Lib.decodeL l).2).length + 1) (l.drop (Lib.decodeL l).2)).2 = false := by simpa using hpl2
      have q1 : (strLoop S.esc (n + 1) (out ++ l.take (Lib.decodeL l).2) ⟨l.drop (Lib.decodeL l).2, o, 0⟩).2.e = 11 := by
       rw [strLoop_ok, if_pos (by rw [plain_L]; exact hpf)]; rfl
      have q2 : (strLoop S.esc (n + 1) out ⟨l, o, 0⟩).2.e = 11 := by
       have : (S.plain ⟨l, o, 0⟩).2 = false := by
        have h := plainL_cons l.length hch (by rw [hdt2]; exact hdec.1) (by rw [hdt2]; exact hdec.2.1) (by rw [hdt2]; exact hdec.2.2) (l.drop (Lib.decodeL l).2)
        rw [← hsplit] at h
        rw [hpl, h, plainL_fuel l.length ((l.drop (Lib.decodeL l).2).length + 1) (l.drop (Lib.decodeL l).2) (by rw [List.length_drop]; omega) (by omega)]
        exact hpf
       rw [strLoop_ok, if_pos this]; rfl
      exact g1.swap (by rw [q1]; decide) (q2.trans q1.symm)
    rw [hj2, if_neg (by rw [hpk]; omega), if_neg (by rw [hpk]; omega)]
theorem str_ev (s : List UInt8) (hs : s.length ≤ 5000) (o : Int) (p : Nat) (t : List UInt8) (hp : s.drop p = 34 :: t) : ∃ r, Rd15 s o (S.st ⟨s.drop p, o, 0⟩) r ∧ Ev (fun k => R5_str.f k (ofL s) (p : Int) o 0) r := by
 have hl : s.drop (p + 1) = t := by rw [← List.drop_drop, hp]; rfl
 have hp1 : p + 1 ≤ s.length := by have := congrArg List.length hp; simp at this; omega
 obtain ⟨r, h1, h2⟩ := str_l s hs o (s.length + 1) (p + 1) [] ((s.drop p).length + 1) (by omega) hp1 (by simp; omega) (by rw [List.length_drop]; omega)
 refine ⟨r, ?_, Ev.congr (fun k => ?_) h2⟩
 · have : S.st ⟨s.drop p, o, 0⟩ = strLoop S.esc ((s.drop p).length + 1) [] ⟨s.drop (p + 1), o, 0⟩ := by
     unfold S.st S.str S.tl
     rw [hl, hp]
     rfl
   rw [this]
   exact h1
 simp only [R5_str.f, peek_f, hp, Option.bind_some]
 rw [if_pos (show pk (34 :: t) = 34 from rfl), w1n p s.length (by omega) (by omega)]
 rfl
end Js
end Go.Proofs.YtapcpndplnkfjaaGreatDoor
namespace Go.Proofs.YtapcpndplnkfjaaGreatDoor.Pq
open Go.RowKit Go.Proofs.YtapcpndplnkfjaaGreatDoorW.PrintWords Go.Proofs.YtapcpndplnkfjaaGreatDoorW.PrintLast Go.Proofs.YtapcpndplnkfjaaGreatDoorW.PrintMore
attribute [local go_sem] max2_int min2_int max_two min_two max_three min_three max_four min_four
def R5_blanks.l0 : Nat → ByteArray → Int → Int → Int → Option (ByteArray × Int × Int × Int)
 | 0, _, _, _, _ => none
 | k + 1, x1000, x1001, x1002, x1003 => if x1001 < (x1000.size : Int) then (if 0 ≤ x1001 then (if (bt x1000 x1001) = 32 then (R5_blanks.l0 k x1000 (wrap64 (x1001 + 1)) x1002 x1003) else (if (bt x1000 x1001) = 9 then (R5_blanks.l0 k x1000 (wrap64 (x1001 + 1)) x1002 x1003) else (if (bt x1000 x1001) = 10 then (R5_blanks.l0 k x1000 (wrap64 (x1001 + 1)) x1002 x1003) else (if (bt x1000 x1001) = 13 then (R5_blanks.l0 k x1000 (wrap64 (x1001 + 1)) x1002 x1003) else (some (x1000, x1001, x1002, x1003)))))) else (none)) else (some (x1000, x1001, x1002, x1003))
def R5_blanks.f (k : Nat) (s0_0 : ByteArray) (s0_1 : Int) (s0_2 : Int) (s0_3 : Int) : Option (ByteArray × Int × Int × Int) := R5_blanks.l0 k s0_0 s0_1 s0_2 s0_3
set_option maxHeartbeats 8000000 in
set_option maxRecDepth 100000 in
theorem R5_blanks.calls (k : Nat) (g : Nat) (s0_0 : ByteArray) (s0_1 : Int) (s0_2 : Int) (s0_3 : Int) (r1 : ByteArray) (r2 : Int) (r3 : Int) (r4 : Int) (w0 w : World) (hI : IsS84 w0 w g s0_0 s0_1 s0_2 s0_3) (hB : Below w0.heap.size w0 w) (h : R5_blanks.f k s0_0 s0_1 s0_2 s0_3 = some (r1, r2, r3, r4)) :
    Calls Tryz.prog 38 #[.pointer (some ⟨g, 0, none⟩)] w fun e w' => e = .returned (.tuple #[]) ∧ IsS84 w0 w' g r1 r2 r3 r4 ∧ Below w0.heap.size w0 w' ∧ KeepBut w w' g none := by
 have HI0 := Aside0.mk hI
 have HK := Aside0.mk (KeepBut.refl w g none)
 have HL := Aside0.mk hB.size
 clear hI
 have HW0 := Aside0.mk hB.size
 have HB := Aside0.mk hB
 clear hB
 have H : (R5_blanks.l0 k s0_0 s0_1 s0_2 s0_3) = some (r1, r2, r3, r4) := h
 clear h
 have H' := Aside0.mk H
 clear H
 go_enter Tryz.func38, Tryz.ntmps38
 go_wp2
 repeat (go_quiet (fail); skip)
 go_loopg [] k (fun kq w' => ∃ (x1001_1 : Int), Aside0 (R5_blanks.l0 kq s0_0 x1001_1 s0_2 s0_3 = some (r1, r2, r3, r4)) ∧ Aside0 (kq ≤ k) ∧ Aside0 (IsS84 w0 w' g s0_0 x1001_1 s0_2 s0_3) ∧ Aside0 (KeepBut w w' g none) ∧ Aside0 (Below w0.heap.size w0 w'))
 case atStart => exact ⟨(s0_1), H', ⟨Nat.le_refl _⟩, ⟨by repeat ((with_reducible (exact HI0.out)))⟩, ⟨by repeat ((with_reducible (exact HK.out)))⟩, ⟨by repeat ((with_reducible (exact HB.out)))⟩⟩
 case round =>
  clear H'
  obtain ⟨x1001_1, HA, HK1, HI0, HK, HB⟩ := hrel
  cases gk with
  | zero => exact absurd HA.out (by simp [R5_blanks.l0])
  | succ k1 =>
   have H := HA.out
   clear HA
   simp only [R5_blanks.l0] at H
   by_cases c2 : x1001_1 < (s0_0.size : Int)
   · rw [if_pos c2] at H
     have c2b0 : decide (x1001_1 < (s0_0.size : Int)) = true := decide_eq_true c2
     clear c2
     by_cases c3 : 0 ≤ x1001_1
     · rw [if_pos c3] at H
       have c3b0 : decide (0 ≤ x1001_1) = true := decide_eq_true c3
       clear c3
       by_cases c5 : (bt s0_0 x1001_1) = 32
       · rw [if_pos c5] at H
         have c5b0 : ((bt s0_0 x1001_1) == 32) = true := beq_iff_eq.mpr c5
         have c5b1 : ((bt s0_0 x1001_1) != 32) = false := bne_eq_false_iff_eq.mpr c5
         clear c5
         have H' := Aside0.mk H
         clear H
         obtain ⟨HGz6, hgz6⟩ := HI0.out
         have hcz6_0 := cellS84_0 HGz6
         have hcz6_1 := cellS84_1 HGz6
         have hcz6_2 := cellS84_2 HGz6
         have hcz6_3 := cellS84_3 HGz6
         have hfz6_0 := blk_frozen HGz6 0
         have hfz6_1 := blk_frozen HGz6 1
         have hfz6_2 := blk_frozen HGz6 2
         have hfz6_3 := blk_frozen HGz6 3
         have p4 : 0 ≤ (x1001_1 : Int) := of_decide_eq_true (by (with_reducible assumption))
         have q4 : x1001_1 < (s0_0.size : Int) := of_decide_eq_true (by (with_reducible assumption))
         have hx4 := bt_at s0_0 x1001_1
         go_wp2
         repeat (go_quiet (fail); try go_wp2)
         go_roundg k1
         case measure => have := HK1.out; omega
         case rel => exact ⟨(wrap64 (x1001_1 + 1)), H', ⟨by have := HK1.out; omega⟩, ⟨by repeat ((with_reducible first | exact HI0.out | apply IsS84.drewN | apply IsS84.set_1 ))⟩, ⟨by repeat ((with_reducible first | exact HK.out | apply KeepBut.set_ | apply keep_drewN ))⟩, ⟨by repeat ((with_reducible first | exact HB.out | apply pw_below_drewN | refine below_set ?_ (IsS84.ge HI0.out)))⟩⟩
       rw [if_neg c5] at H
       have c5b0 : ((bt s0_0 x1001_1) == 32) = false := beq_eq_false_iff_ne.mpr c5
       have c5b1 : ((bt s0_0 x1001_1) != 32) = true := bne_iff_ne.mpr c5
       by_cases c8 : (bt s0_0 x1001_1) = 9
       · rw [if_pos c8] at H
         have c8b0 : ((bt s0_0 x1001_1) == 9) = true := beq_iff_eq.mpr c8
         have c8b1 : ((bt s0_0 x1001_1) != 9) = false := bne_eq_false_iff_eq.mpr c8
         clear c8
         have H' := Aside0.mk H
         clear H
         obtain ⟨HGz9, hgz9⟩ := HI0.out
         have hcz9_0 := cellS84_0 HGz9
         have hcz9_1 := cellS84_1 HGz9
         have hcz9_2 := cellS84_2 HGz9
         have hcz9_3 := cellS84_3 HGz9
         have hfz9_0 := blk_frozen HGz9 0
         have hfz9_1 := blk_frozen HGz9 1
         have hfz9_2 := blk_frozen HGz9 2
         have hfz9_3 := blk_frozen HGz9 3
         have p4 : 0 ≤ (x1001_1 : Int) := of_decide_eq_true (by (with_reducible assumption))
         have q4 : x1001_1 < (s0_0.size : Int) := of_decide_eq_true (by (with_reducible assumption))
         have hx4 := bt_at s0_0 x1001_1
         have p7 : 0 ≤ (x1001_1 : Int) := of_decide_eq_true (by (with_reducible assumption))
         have q7 : x1001_1 < (s0_0.size : Int) := of_decide_eq_true (by (with_reducible assumption))
         have hx7 := bt_at s0_0 x1001_1
         go_wp2
         repeat (go_quiet (fail); try go_wp2)
         go_roundg k1
         case measure => have := HK1.out; omega
         case rel => exact ⟨(wrap64 (x1001_1 + 1)), H', ⟨by have := HK1.out; omega⟩, ⟨by repeat ((with_reducible first | exact HI0.out | apply IsS84.drewN | apply IsS84.set_1 ))⟩, ⟨by repeat ((with_reducible first | exact HK.out | apply KeepBut.set_ | apply keep_drewN ))⟩, ⟨by repeat ((with_reducible first | exact HB.out | apply pw_below_drewN | refine below_set ?_ (IsS84.ge HI0.out)))⟩⟩
       rw [if_neg c8] at H
       have c8b0 : ((bt s0_0 x1001_1) == 9) = false := beq_eq_false_iff_ne.mpr c8
       have c8b1 : ((bt s0_0 x1001_1) != 9) = true := bne_iff_ne.mpr c8
       by_cases c11 : (bt s0_0 x1001_1) = 10
       · rw [if_pos c11] at H
         have c11b0 : ((bt s0_0 x1001_1) == 10) = true := beq_iff_eq.mpr c11
         have c11b1 : ((bt s0_0 x1001_1) != 10) = false := bne_eq_false_iff_eq.mpr c11
         clear c11
         have H' := Aside0.mk H
         clear H
         obtain ⟨HGz12, hgz12⟩ := HI0.out
         have hcz12_0 := cellS84_0 HGz12
         have hcz12_1 := cellS84_1 HGz12
         have hcz12_2 := cellS84_2 HGz12
         have hcz12_3 := cellS84_3 HGz12
         have hfz12_0 := blk_frozen HGz12 0
         have hfz12_1 := blk_frozen HGz12 1
         have hfz12_2 := blk_frozen HGz12 2
         have hfz12_3 := blk_frozen HGz12 3
         have p4 : 0 ≤ (x1001_1 : Int) := of_decide_eq_true (by (with_reducible assumption))
         have q4 : x1001_1 < (s0_0.size : Int) := of_decide_eq_true (by (with_reducible assumption))
         have hx4 := bt_at s0_0 x1001_1
         have p7 : 0 ≤ (x1001_1 : Int) := of_decide_eq_true (by (with_reducible assumption))
         have q7 : x1001_1 < (s0_0.size : Int) := of_decide_eq_true (by (with_reducible assumption))
         have hx7 := bt_at s0_0 x1001_1
         have p10 : 0 ≤ (x1001_1 : Int) := of_decide_eq_true (by (with_reducible assumption))
         have q10 : x1001_1 < (s0_0.size : Int) := of_decide_eq_true (by (with_reducible assumption))
         have hx10 := bt_at s0_0 x1001_1
         go_wp2
         repeat (go_quiet (fail); try go_wp2)
         go_roundg k1
         case measure => have := HK1.out; omega
         case rel => exact ⟨(wrap64 (x1001_1 + 1)), H', ⟨by have := HK1.out; omega⟩, ⟨by repeat ((with_reducible first | exact HI0.out | apply IsS84.drewN | apply IsS84.set_1 ))⟩, ⟨by repeat ((with_reducible first | exact HK.out | apply KeepBut.set_ | apply keep_drewN ))⟩, ⟨by repeat ((with_reducible first | exact HB.out | apply pw_below_drewN | refine below_set ?_ (IsS84.ge HI0.out)))⟩⟩
       rw [if_neg c11] at H
       have c11b0 : ((bt s0_0 x1001_1) == 10) = false := beq_eq_false_iff_ne.mpr c11
       have c11b1 : ((bt s0_0 x1001_1) != 10) = true := bne_iff_ne.mpr c11
       by_cases c14 : (bt s0_0 x1001_1) = 13
       · rw [if_pos c14] at H
         have c14b0 : ((bt s0_0 x1001_1) == 13) = true := beq_iff_eq.mpr c14
         have c14b1 : ((bt s0_0 x1001_1) != 13) = false := bne_eq_false_iff_eq.mpr c14
         clear c14
         have H' := Aside0.mk H
         clear H
         obtain ⟨HGz15, hgz15⟩ := HI0.out
         have hcz15_0 := cellS84_0 HGz15
         have hcz15_1 := cellS84_1 HGz15
         have hcz15_2 := cellS84_2 HGz15
         have hcz15_3 := cellS84_3 HGz15
         have hfz15_0 := blk_frozen HGz15 0
         have hfz15_1 := blk_frozen HGz15 1
         have hfz15_2 := blk_frozen HGz15 2
         have hfz15_3 := blk_frozen HGz15 3
         have p4 : 0 ≤ (x1001_1 : Int) := of_decide_eq_true (by (with_reducible assumption))
         have q4 : x1001_1 < (s0_0.size : Int) := of_decide_eq_true (by (with_reducible assumption))
         have hx4 := bt_at s0_0 x1001_1
         have p7 : 0 ≤ (x1001_1 : Int) := of_decide_eq_true (by (with_reducible assumption))
         have q7 : x1001_1 < (s0_0.size : Int) := of_decide_eq_true (by (with_reducible assumption))
         have hx7 := bt_at s0_0 x1001_1
         have p10 : 0 ≤ (x1001_1 : Int) := of_decide_eq_true (by (with_reducible assumption))
         have q10 : x1001_1 < (s0_0.size : Int) := of_decide_eq_true (by (with_reducible assumption))
         have hx10 := bt_at s0_0 x1001_1
         have p13 : 0 ≤ (x1001_1 : Int) := of_decide_eq_true (by (with_reducible assumption))
         have q13 : x1001_1 < (s0_0.size : Int) := of_decide_eq_true (by (with_reducible assumption))
         have hx13 := bt_at s0_0 x1001_1
         go_wp2
         repeat (go_quiet (fail); try go_wp2)
         go_roundg k1
         case measure => have := HK1.out; omega
         case rel => exact ⟨(wrap64 (x1001_1 + 1)), H', ⟨by have := HK1.out; omega⟩, ⟨by repeat ((with_reducible first | exact HI0.out | apply IsS84.drewN | apply IsS84.set_1 ))⟩, ⟨by repeat ((with_reducible first | exact HK.out | apply KeepBut.set_ | apply keep_drewN ))⟩, ⟨by repeat ((with_reducible first | exact HB.out | apply pw_below_drewN | refine below_set ?_ (IsS84.ge HI0.out)))⟩⟩
       rw [if_neg c14] at H
       have c14b0 : ((bt s0_0 x1001_1) == 13) = false := beq_eq_false_iff_ne.mpr c14
       have c14b1 : ((bt s0_0 x1001_1) != 13) = true := bne_iff_ne.mpr c14
       simp only [Option.some.injEq, Prod.mk.injEq] at H
       obtain ⟨rfl, rfl, rfl, rfl⟩ := H
       obtain ⟨HGz16, hgz16⟩ := HI0.out
       have hcz16_0 := cellS84_0 HGz16
       have hcz16_1 := cellS84_1 HGz16
       have hcz16_2 := cellS84_2 HGz16
       have hcz16_3 := cellS84_3 HGz16
       have p4 : 0 ≤ (x1001_1 : Int) := of_decide_eq_true (by (with_reducible assumption))
       have q4 : x1001_1 < (s0_0.size : Int) := of_decide_eq_true (by (with_reducible assumption))
       have hx4 := bt_at s0_0 x1001_1
       have p7 : 0 ≤ (x1001_1 : Int) := of_decide_eq_true (by (with_reducible assumption))
       have q7 : x1001_1 < (s0_0.size : Int) := of_decide_eq_true (by (with_reducible assumption))
       have hx7 := bt_at s0_0 x1001_1
       have p10 : 0 ≤ (x1001_1 : Int) := of_decide_eq_true (by (with_reducible assumption))
       have q10 : x1001_1 < (s0_0.size : Int) := of_decide_eq_true (by (with_reducible assumption))
       have hx10 := bt_at s0_0 x1001_1
       have p13 : 0 ≤ (x1001_1 : Int) := of_decide_eq_true (by (with_reducible assumption))
       have q13 : x1001_1 < (s0_0.size : Int) := of_decide_eq_true (by (with_reducible assumption))
       have hx13 := bt_at s0_0 x1001_1
       go_wp2
       repeat (go_quiet (fail); try go_wp2)
       (go_end0)
       try simp only [beq_nil_isEmpty, bytesLess_gtr]
       exact ⟨by (simp [errW_none, errW_some] <;> rfl), by repeat ((with_reducible first | exact HI0.out | apply IsS84.drewN )), by repeat ((with_reducible first | exact HB.out | apply pw_below_drewN )), by repeat ((with_reducible first | exact HK.out | apply keep_drewN ))⟩
     rw [if_neg c3] at H
     exact absurd H (by simp)
   rw [if_neg c2] at H
   have c2b0 : decide (x1001_1 < (s0_0.size : Int)) = false := decide_eq_false c2
   clear c2
   simp only [Option.some.injEq, Prod.mk.injEq] at H
   obtain ⟨rfl, rfl, rfl, rfl⟩ := H
   obtain ⟨HGz17, hgz17⟩ := HI0.out
   have hcz17_0 := cellS84_0 HGz17
   have hcz17_1 := cellS84_1 HGz17
   have hcz17_2 := cellS84_2 HGz17
   have hcz17_3 := cellS84_3 HGz17
   go_wp2
   repeat (go_quiet (fail); try go_wp2)
   (go_end0)
   try simp only [beq_nil_isEmpty, bytesLess_gtr]
   exact ⟨by (simp [errW_none, errW_some] <;> rfl), by repeat ((with_reducible first | exact HI0.out | apply IsS84.drewN )), by repeat ((with_reducible first | exact HB.out | apply pw_below_drewN )), by repeat ((with_reducible first | exact HK.out | apply keep_drewN ))⟩
end Go.Proofs.YtapcpndplnkfjaaGreatDoor.Pq
namespace Go.Proofs.YtapcpndplnkfjaaGreatDoor
open Go.RowKit Go.Proofs.YtapcpndplnkfjaaGreatDoorW.PrintWords Go.Proofs.YtapcpndplnkfjaaGreatDoorW.PrintLast Go.Proofs.YtapcpndplnkfjaaGreatDoorW.PrintMore
namespace Js
structure Rf (s : List UInt8) (w w' : World) (g : Nat) (a : S) (p : Nat) (o : Int) : Prop where
  cell : w'.heap[g]? = some (.cells #[.string (ofL s), .int .i64 (p : Int), .int .i64 o, .int .i64 a.e] 84 (0, 0))
  kp : w.grownBy w' (some g)
  gl : g < w.heap.size
  sl : s.length ≤ 5000
  pl : p ≤ s.length + 1
  ok : a.e = 0 → p ≤ s.length ∧ s.drop p = a.s ∧ o = a.o
theorem Rf.lt {s : List UInt8} {w w1 : World} {g : Nat} {a : S} {p : Nat} {o : Int} (h : Rf s w w1 g a p o) : g < w1.heap.size := (Array.getElem?_eq_some_iff.1 h.cell).1
theorem Rf.trans {s : List UInt8} {w w1 w2 : World} {g : Nat} {a b : S} {p q : Nat} {o u : Int} (h : Rf s w w1 g a p o) (k : Rf s w1 w2 g b q u) : Rf s w w2 g b q u := ⟨k.cell, grown_trans h.kp k.kp, h.gl, k.sl, k.pl, k.ok⟩
theorem Rf.below {s : List UInt8} {w w1 w2 : World} {g : Nat} {a : S} {p : Nat} {o : Int} (h : Rf s w w1 g a p o) (k : Below w1.heap.size w1 w2) : Rf s w w2 g a p o := ⟨(k.block g h.lt).trans h.cell, grown_trans h.kp (grown_below k _), h.gl, h.sl, h.pl, h.ok⟩
theorem Rf.now {s : List UInt8} {w w1 : World} {g : Nat} {a : S} {p : Nat} {o : Int} (h : Rf s w w1 g a p o) : Rf s w1 w1 g a p o := ⟨h.cell, grown_refl _ _, h.lt, h.sl, h.pl, h.ok⟩
theorem Rf.c0 {s : List UInt8} {w w1 : World} {g : Nat} {a : S} {p : Nat} {o : Int} (h : Rf s w w1 g a p o) : w1.cell? ⟨g, 0, none⟩ = some (.string (ofL s)) := (blk_cell h.cell 0).trans rfl
theorem Rf.c1 {s : List UInt8} {w w1 : World} {g : Nat} {a : S} {p : Nat} {o : Int} (h : Rf s w w1 g a p o) : w1.cell? ⟨g, 1, none⟩ = some (.int .i64 (p : Int)) := (blk_cell h.cell 1).trans rfl
theorem Rf.c2 {s : List UInt8} {w w1 : World} {g : Nat} {a : S} {p : Nat} {o : Int} (h : Rf s w w1 g a p o) : w1.cell? ⟨g, 2, none⟩ = some (.int .i64 o) := (blk_cell h.cell 2).trans rfl
theorem Rf.c3 {s : List UInt8} {w w1 : World} {g : Nat} {a : S} {p : Nat} {o : Int} (h : Rf s w w1 g a p o) : w1.cell? ⟨g, 3, none⟩ = some (.int .i64 a.e) := (blk_cell h.cell 3).trans rfl
theorem Rf.fz {s : List UInt8} {w w1 : World} {g : Nat} {a : S} {p : Nat} {o : Int} (h : Rf s w w1 g a p o) (j : Nat) : w1.frozen? ⟨g, j, none⟩ = false := blk_frozen h.cell j
theorem Rf.d {s : List UInt8} {w w1 : World} {g : Nat} {a : S} {p : Nat} {o : Int} (h : Rf s w w1 g a p o) : Rf s w w1.drew g a p o := ⟨h.cell, ⟨h.kp.os, h.kp.tape, h.kp.output, h.kp.size, h.kp.block⟩, h.gl, h.sl, h.pl, h.ok⟩
theorem Rf.dN {s : List UInt8} {w w1 : World} {g : Nat} {a : S} {p : Nat} {o : Int} (h : Rf s w w1 g a p o) (n : Nat) : Rf s w (w1.drewN n) g a p o := ⟨h.cell, ⟨h.kp.os, h.kp.tape, h.kp.output, h.kp.size, h.kp.block⟩, h.gl, h.sl, h.pl, h.ok⟩
theorem Rf.s1 {s : List UInt8} {w w1 : World} {g : Nat} {a : S} {p : Nat} {o : Int} (h : Rf s w w1 g a p o) (q : Nat) (b : S) (hb : b.e = a.e) (hq : q ≤ s.length + 1) (hok : a.e = 0 → q ≤ s.length ∧ s.drop q = b.s ∧ o = b.o) : Rf s w (w1.setCell ⟨g, 1, none⟩ (.int .i64 (q : Int))) g b q o :=
 ⟨by rw [hb]; exact blk_put h.cell 1 _ rfl, grown_trans h.kp (grown_set _ _ _ _), h.gl, h.sl, hq, fun e => hok (by rw [← hb]; exact e)⟩
theorem Rf.s2 {s : List UInt8} {w w1 : World} {g : Nat} {a : S} {p : Nat} {o : Int} (h : Rf s w w1 g a p o) (u : Int) (b : S) (hb : b.e = a.e) (hok : a.e = 0 → p ≤ s.length ∧ s.drop p = b.s ∧ u = b.o) : Rf s w (w1.setCell ⟨g, 2, none⟩ (.int .i64 u)) g b p u :=
 ⟨by rw [hb]; exact blk_put h.cell 2 _ rfl, grown_trans h.kp (grown_set _ _ _ _), h.gl, h.sl, h.pl, fun e => hok (by rw [← hb]; exact e)⟩
def cutW (w : World) (g : Nat) : World := { w with heap := w.heap.extract 0 g }
theorem cutW_below {w : World} {g : Nat} (h : g < w.heap.size) : Below (cutW w g).heap.size (cutW w g) w := by
 have hs : (cutW w g).heap.size = g := by show (w.heap.extract 0 g).size = g; simp; omega
 refine ⟨rfl, rfl, rfl, by rw [hs]; omega, fun k hk => ?_⟩
 rw [hs] at hk
 show w.heap[k]? = (w.heap.extract 0 g)[k]?
 rw [Array.getElem?_extract]
 simp; omega
theorem Rf.is {s : List UInt8} {w w1 : World} {g : Nat} {a : S} {p : Nat} {o : Int} (h : Rf s w w1 g a p o) : IsS84 (cutW w1 g) w1 g (ofL s) (p : Int) o a.e :=
 ⟨h.cell, by show (w1.heap.extract 0 g).size ≤ g; simp; omega⟩
theorem Rf.of {s : List UInt8} {w w1 w2 : World} {g : Nat} {a b : S} {p q : Nat} {o u : Int} (h : Rf s w w1 g a p o) (hI : IsS84 (cutW w1 g) w2 g (ofL s) (q : Int) u b.e) (hB : Below (cutW w1 g).heap.size (cutW w1 g) w2) (hK : KeepBut w1 w2 g none)
    (hq : q ≤ s.length + 1) (hok : b.e = 0 → q ≤ s.length ∧ s.drop q = b.s ∧ u = b.o) : Rf s w w2 g b q u :=
 ⟨hI.1, grown_trans h.kp ⟨hB.os, hB.tape, hB.output, hK.1, fun i hi hn => hK.2 i hi (fun e => hn (by rw [e])) (by simp)⟩, h.gl, h.sl, hq, hok⟩
theorem fail15 {s : List UInt8} {w w1 : World} {g : Nat} {a : S} {p : Nat} {o : Int} (h : Rf s w w1 g a p o) (x : Int) (hx : x ≠ 0) :
    Calls Tryz.prog 39 #[.pointer (some ⟨g, 0, none⟩), .int .i64 x] w1 fun E w' => E = .returned (.tuple #[]) ∧ Rf s w w' g (a.fail x) p o := by
 refine (R5_fail.calls g (ofL s) p o a.e x _ _ _ _ (cutW w1 g) w1 h.is (cutW_below h.lt) (fail_f _ _ _ _ _)).mono ?_
 rintro E w2 ⟨rfl, hI, hB, hK⟩
 exact ⟨rfl, h.of hI hB hK h.pl (fun e => absurd e (fail_ne a x hx))⟩
theorem peek15 {s : List UInt8} {w w1 : World} {g : Nat} {a : S} {p : Nat} {o : Int} (h : Rf s w w1 g a p o) :
    Calls Tryz.prog 72 #[.pointer (some ⟨g, 0, none⟩)] w1 fun E w' => E = .returned (.int .u8 (pk (s.drop p))) ∧ Rf s w w' g a p o := by
 refine (R5_peek.calls g (ofL s) p o a.e _ _ _ _ _ (cutW w1 g) w1 h.is (cutW_below h.lt) (peek_f s p o a.e)).mono ?_
 rintro E w2 ⟨rfl, hI, hB, hK⟩
 exact ⟨rfl, h.of hI hB hK h.pl h.ok⟩
theorem isB_iff (b : UInt8) : [32, 9, 10, 13].contains b = true ↔ ((b.toNat : Int) = 32 ∨ (b.toNat : Int) = 9 ∨ (b.toNat : Int) = 10 ∨ (b.toNat : Int) = 13) := by
 have : ∀ k : Fin 256, [32, 9, 10, 13].contains (UInt8.ofNat k.val) = true ↔ (((UInt8.ofNat k.val).toNat : Int) = 32 ∨ ((UInt8.ofNat k.val).toNat : Int) = 9 ∨ ((UInt8.ofNat k.val).toNat : Int) = 10 ∨ ((UInt8.ofNat k.val).toNat : Int) = 13) := by decide +kernel
 have h := this ⟨b.toNat, b.toNat_lt⟩
 rwa [show UInt8.ofNat (⟨b.toNat, b.toNat_lt⟩ : Fin 256).val = b from UInt8.ofNat_toNat] at h
theorem blanks_ev (s : List UInt8) (hs : s.length ≤ 5000) (o e : Int) : ∀ (m p : Nat), s.length - p < m → p ≤ s.length + 1 →
    ∃ q : Nat, q ≤ s.length + 1 ∧ (p ≤ s.length → q ≤ s.length) ∧ s.drop q = Lib.trimLeftS (s.drop p) [32, 9, 10, 13] ∧ Ev (fun k => Pq.R5_blanks.l0 k (ofL s) (p : Int) o e) (ofL s, (q : Int), o, e)
 | 0, p, h, hp => absurd h (by omega)
 | m + 1, p, h, hp => by
  by_cases hlt : p < s.length
  · obtain ⟨b, l, hd⟩ : ∃ b l, s.drop p = b :: l := by
      cases hd : s.drop p with
      | nil => have := congrArg List.length hd; simp at this; omega
      | cons b l => exact ⟨b, l, rfl⟩
    have hl : s.drop (p + 1) = l := by rw [← List.drop_drop, hd]; rfl
    have hbt : bt (ofL s) (p : Int) = (b.toNat : Int) := by rw [bt_drop s p hlt, hd]; rfl
    cases hb : [32, 9, 10, 13].contains b with
    | true =>
     obtain ⟨q, h1, h2, h3, h4⟩ := blanks_ev s hs o e m (p + 1) (by omega) (by omega)
     refine ⟨q, h1, fun _ => h2 (by omega), ?_, Ev.step (fun k => ?_) h4⟩
     · rw [h3, hd, hl]
       unfold Lib.trimLeftS
       rw [List.dropWhile_cons, hb]
       rfl
     simp only [Pq.R5_blanks.l0]
     rw [ofL_size, if_pos (by omega), if_pos (by omega), hbt, w1n p s.length (by omega) (by omega)]
     have := (isB_iff b).1 hb
     by_cases k1 : (b.toNat : Int) = 32
     · rw [if_pos k1]
     rw [if_neg k1]
     by_cases k2 : (b.toNat : Int) = 9
     · rw [if_pos k2]
     rw [if_neg k2]
     by_cases k3 : (b.toNat : Int) = 10
     · rw [if_pos k3]
     rw [if_neg k3, if_pos (by omega)]
    | false =>
     have hn : ¬ ((b.toNat : Int) = 32 ∨ (b.toNat : Int) = 9 ∨ (b.toNat : Int) = 10 ∨ (b.toNat : Int) = 13) := fun k => by rw [(isB_iff b).2 k] at hb; cases hb
     refine ⟨p, hp, fun h => h, ?_, Ev.step (f := fun _ => some (ofL s, (p : Int), o, e)) (fun k => ?_) (Ev.now _)⟩
     · rw [hd, trim_cons hb]
     simp only [Pq.R5_blanks.l0]
     rw [ofL_size, if_pos (by omega), if_pos (by omega), hbt, if_neg (by omega), if_neg (by omega), if_neg (by omega), if_neg (by omega)]
  refine ⟨p, hp, fun h => h, ?_, Ev.step (f := fun _ => some (ofL s, (p : Int), o, e)) (fun k => ?_) (Ev.now _)⟩
  · rw [List.drop_eq_nil_of_le (by omega)]; rfl
  simp only [Pq.R5_blanks.l0]
  rw [ofL_size, if_neg (by omega)]
theorem blanks15 {s : List UInt8} {w w1 : World} {g : Nat} {a : S} {p : Nat} {o : Int} (h : Rf s w w1 g a p o) :
    Calls Tryz.prog 38 #[.pointer (some ⟨g, 0, none⟩)] w1 fun E w' => E = .returned (.tuple #[]) ∧ ∃ q, Rf s w w' g a.skip q o := by
 obtain ⟨q, h1, h2, h3, h4⟩ := blanks_ev s h.sl o a.e (s.length - p + 1) p (by omega) h.pl
 obtain ⟨k, hk⟩ := h4.rounds
 refine (Pq.R5_blanks.calls k g (ofL s) p o a.e _ _ _ _ (cutW w1 g) w1 h.is (cutW_below h.lt) hk).mono ?_
 rintro E w2 ⟨rfl, hI, hB, hK⟩
 exact ⟨rfl, q, h.of (b := a.skip) hI hB hK h1 (fun e => by
  obtain ⟨g1, g2, g3⟩ := h.ok e
  exact ⟨h2 g1, h3.trans (by rw [g2]; rfl), g3⟩)⟩
def strV (a : S) : List UInt8 × S := if Lib.hasPrefix a.s [34] = true then a.st else ([], a.fail 11)
theorem str15 {s : List UInt8} {w w1 : World} {g : Nat} {a : S} {p : Nat} {o : Int} (h : Rf s w w1 g a p o) (he : a.e = 0) :
    Calls Tryz.prog 74 #[.pointer (some ⟨g, 0, none⟩)] w1 fun E w' => ∃ out q, E = .returned (.string (ofL out)) ∧ Rf s w w' g (strV a).2 q o ∧ ((strV a).2.e = 0 → out = (strV a).1) := by
 obtain ⟨hp, hd, ho⟩ := h.ok he
 obtain ⟨sa, ao, ae⟩ := a
 simp only [] at he hd ho
 subst he; subst hd; subst ho
 by_cases hq : Lib.hasPrefix (s.drop p) [34] = true
 · obtain ⟨t, ht⟩ : ∃ t, s.drop p = 34 :: t := by
     unfold Lib.hasPrefix at hq
     rw [List.isPrefixOf_iff_prefix] at hq
     obtain ⟨t, h⟩ := hq
     exact ⟨t, h.symm⟩
   obtain ⟨r, ⟨out, q, e, rfl, hq1, -, hq2, hq3⟩, hev⟩ := str_ev s h.sl o p t ht
   obtain ⟨k, hk⟩ := hev.rounds
   have hV : strV ⟨s.drop p, o, 0⟩ = S.st ⟨s.drop p, o, 0⟩ := by unfold strV; rw [if_pos hq]
   rw [hV]
   refine (R5_str.calls k g (ofL s) p o 0 _ _ _ _ _ (cutW w1 g) w1 h.is (cutW_below h.lt) hk).mono ?_
   rintro E w2 ⟨rfl, hI, hB, hK⟩
   refine ⟨out, q, rfl, h.of (b := (S.st ⟨s.drop p, o, 0⟩).2) (by rw [← hq2]; exact hI) hB hK hq1 (fun e0 => ?_), fun e0 => (hq3 (hq2.trans e0)).1⟩
   obtain ⟨-, g2, g3⟩ := hq3 (hq2.trans e0)
   exact ⟨g3, g2, (st_len ⟨s.drop p, o, 0⟩).2.1.symm⟩
 · have hV : strV ⟨s.drop p, o, 0⟩ = ([], S.fail ⟨s.drop p, o, 0⟩ 11) := by unfold strV; rw [if_neg hq]
   rw [hV]
   have hpk : pk (s.drop p) ≠ 34 := fun hh => by
    obtain ⟨b, l, hd, hb, -, -⟩ := drop_pk hh (by decide)
    have : b = 34 := (byte_eq b 34).1 hb
    subst this
    rw [hd] at hq
    exact hq (by simp [Lib.hasPrefix, List.isPrefixOf])
   have hf : R5_str.f 0 (ofL s) (p : Int) o 0 = some (ofL [], ofL s, (p : Int), o, 11) := by
    simp only [R5_str.f, peek_f, Option.bind_some]
    rw [if_neg hpk, fail_f]
    rfl
   refine (R5_str.calls 0 g (ofL s) p o 0 _ _ _ _ _ (cutW w1 g) w1 h.is (cutW_below h.lt) hf).mono ?_
   rintro E w2 ⟨rfl, hI, hB, hK⟩
   exact ⟨[], p, rfl, h.of (b := S.fail ⟨s.drop p, o, 0⟩ 11) hI hB hK h.pl (fun e => absurd e (fail_ne _ 11 (by decide))), fun e => rfl⟩
theorem word15 {s : List UInt8} {w w1 : World} {g : Nat} {a : S} {p : Nat} {o : Int} (h : Rf s w w1 g a.skip p o) (he : a.e = 0) (ws : List UInt8) (hw : ws.length ≤ 100) :
    Calls Tryz.prog 73 #[.pointer (some ⟨g, 0, none⟩), .string (ofL ws)] w1 fun E w' => E = .returned (.tuple #[]) ∧ ∃ q, Rf s w w' g (a.need ws) q o := by
 obtain ⟨hp, hd, ho⟩ := h.ok he
 have hsl := h.sl
 have hcan : a.took ws = Lib.hasPrefix a.skip.s ws := by unfold S.took; rw [he]; simp
 have hwr : wrap64 ((p : Int) + ((ofL ws).size : Int)) = ((p + ws.length : Nat) : Int) := by rw [ofL_size, w64 (by omega) (by omega)]; push_cast; rfl
 have hsz : ((ofL s).size : Int) = (s.length : Int) := by rw [ofL_size]
 have hbad : Lib.hasPrefix a.skip.s ws = false → R5_word.f (ofL s) (p : Int) o a.skip.e (ofL ws) = some (ofL s, (p : Int), o, 11) → Calls Tryz.prog 73 #[.pointer (some ⟨g, 0, none⟩), .string (ofL ws)] w1 fun E w' => E = .returned (.tuple #[]) ∧ ∃ q, Rf s w w' g (a.need ws) q o := fun h1 h2 => by
  have hn : (a.need ws).e = 11 := by
   unfold S.need
   rw [hcan, h1, if_neg (by decide)]
   exact fail_e0 (by rw [take_e]; exact he) 11
  refine (R5_word.calls g (ofL s) p o a.skip.e (ofL ws) _ _ _ _ (cutW w1 g) w1 h.is (cutW_below h.lt) h2).mono ?_
  rintro E w2 ⟨rfl, hI, hB, hK⟩
  exact ⟨rfl, p, h.of (b := a.need ws) (by rw [hn]; exact hI) hB hK h.pl (fun e => absurd (hn.symm.trans e) (by decide))⟩
 have hse : a.skip.e = 0 := he
 by_cases hlen : s.length < p + ws.length
 · refine hbad ?_ ?_
   · rw [Bool.eq_false_iff]
     intro hh
     unfold Lib.hasPrefix at hh
     rw [List.isPrefixOf_iff_prefix] at hh
     have := hh.length_le
     rw [← hd, List.length_drop] at this
     omega
   simp only [R5_word.f]
   rw [hwr, hsz, if_pos (by omega), fail_f, hse]
   rfl
 have hex : (ofL s).extract ((p : Int)).toNat (((p + ws.length : Nat) : Int)).toNat = ofL ((s.drop p).take ws.length) := by
  rw [Int.toNat_natCast, Int.toNat_natCast, ofL_ext, List.take_drop]
 have heq : Lib.hasPrefix a.skip.s ws = true ↔ (s.drop p).take ws.length = ws := by
  unfold Lib.hasPrefix
  rw [List.isPrefixOf_iff_prefix, ← hd, List.prefix_iff_eq_take]
  exact ⟨fun h => h.symm, fun h => h.symm⟩
 cases hh : Lib.hasPrefix a.skip.s ws with
 | false =>
  refine hbad hh ?_
  simp only [R5_word.f]
  rw [hwr, hsz, if_neg (by omega), if_pos (by omega), if_pos (by omega), if_pos (by omega), hex, ofL_toList, ofL_toList, if_neg (fun e => by rw [heq.2 e] at hh; cases hh), fail_f, hse]
  rfl
 | true =>
  have h2 : R5_word.f (ofL s) (p : Int) o a.skip.e (ofL ws) = some (ofL s, ((p + ws.length : Nat) : Int), o, a.skip.e) := by
   simp only [R5_word.f]
   rw [hwr, hsz, if_neg (by omega), if_pos (by omega), if_pos (by omega), if_pos (by omega), hex, ofL_toList, ofL_toList, if_pos (heq.1 hh)]
  have hn : a.need ws = ⟨a.skip.s.drop ws.length, a.o, a.e⟩ := by
   unfold S.need
   rw [hcan, hh, if_pos rfl, take_yes (by rw [hcan]; exact hh)]
   unfold Lib.trimPrefix
   rw [hh]
   rfl
  refine (R5_word.calls g (ofL s) p o a.skip.e (ofL ws) _ _ _ _ (cutW w1 g) w1 h.is (cutW_below h.lt) h2).mono ?_
  rintro E w2 ⟨rfl, hI, hB, hK⟩
  exact ⟨rfl, p + ws.length, h.of (b := a.need ws) (by rw [hn]; exact hI) hB hK (by omega) (fun e => ⟨by omega, by rw [hn, ← List.drop_drop, hd], by rw [hn]; exact ho⟩)⟩
def F35 (d : Kd S28) : Kd S28 := Kd.iso (Kd.pair (Kd.int .i64) (Kd.pair Kd.bool (Kd.pair k24 (Kd.pair Kd.string (Kd.pair (Kd.slice 35 d) (Kd.slice 9 Kd.string)))))) (fun x : S28 => (x.f0, x.f1, x.f2, x.f3, x.f4, x.f5))
theorem mono35 : Kd.Mono F35 := Kd.mono_iso _ (Kd.mono_pair (Kd.mono_const _) (Kd.mono_pair (Kd.mono_const _) (Kd.mono_pair (Kd.mono_const _) (Kd.mono_pair (Kd.mono_const _) (Kd.mono_pair (Kd.mono_slice 35 Kd.mono_id) (Kd.mono_const _))))))
theorem sub35 : Kd.Sub F35 [9, 35] := Kd.sub_iso _ (Kd.sub_pair (Kd.sub_const _ (by decide)) (Kd.sub_pair (Kd.sub_const _ (by decide)) (Kd.sub_pair (Kd.sub_const _ (by decide)) (Kd.sub_pair (Kd.sub_const _ (by decide)) (Kd.sub_pair (Kd.sub_slice 35 (by decide) Kd.sub_id) (Kd.sub_const _ (by decide)))))))
theorem sz35 : ∀ n, (Kd.upto F35 8 [9, 35] n).sz = 8 := Kd.upto_sz (fun _ => rfl)
def k35 : Kd S28 := Kd.fix F35 8 [9, 35] sz35 (Kd.upto_E sub35)
theorem k35_openM {w : World} {base : Nat} {ok : Nat → Prop} {x : S28} {cs : List Value} (h : k35.M w base ok x cs) : ∃ v6 v7, cs = [.int .i64 x.f0, .bool x.f1, .bool x.f2.f0, .string x.f2.f1, .int .i64 x.f2.f2, .string x.f3, v6, v7] ∧ k35.R 35 w base ok v6 x.f4 ∧ Kd.string.R 9 w base ok v7 x.f5 := by
 obtain ⟨n, h⟩ := h
 cases n with
 | zero => exact h.elim
 | succ n =>
  obtain ⟨_, _, rfl, rfl, ⟨_, _, rfl, rfl, ⟨_, _, rfl, s2, ⟨_, _, rfl, rfl, ⟨_, _, rfl, ⟨v6, rfl, g6⟩, ⟨v7, rfl, g7⟩⟩⟩⟩⟩⟩ := h
  obtain rfl := k24_openM s2
  exact ⟨v6, v7, rfl, Kd.fix_R g6, g7⟩
theorem k35_mkM (w : World) (base : Nat) (ok : Nat → Prop) (x : S28) {v6 : Value} (g6 : k35.R 35 w base ok v6 x.f4) {v7 : Value} (g7 : Kd.string.R 9 w base ok v7 x.f5) : k35.M w base ok x [.int .i64 x.f0, .bool x.f1, .bool x.f2.f0, .string x.f2.f1, .int .i64 x.f2.f2, .string x.f3, v6, v7] := by
 obtain ⟨n6, q6⟩ := Kd.fix_R_back mono35 g6
 have r6 := Kd.upto_R_le mono35 sz35 (show n6 ≤ n6 by omega) q6
 exact ⟨n6 + 1, ⟨[.int .i64 x.f0], [.bool x.f1, .bool x.f2.f0, .string x.f2.f1, .int .i64 x.f2.f2, .string x.f3, v6, v7], rfl, rfl, ⟨[.bool x.f1], [.bool x.f2.f0, .string x.f2.f1, .int .i64 x.f2.f2, .string x.f3, v6, v7], rfl, rfl, ⟨[.bool x.f2.f0, .string x.f2.f1, .int .i64 x.f2.f2], [.string x.f3, v6, v7], rfl, (k24_mkM w base ok x.f2 ), ⟨[.string x.f3], [v6, v7], rfl, rfl, ⟨[v6], [v7], rfl, ⟨v6, rfl, r6⟩, ⟨v7, rfl, g7⟩⟩⟩⟩⟩⟩⟩
theorem info35 : (Tryz.prog.info? 35).map (fun i => (i.zero, i.size, i.bytes)) = some (some (.agg zA), 8, 112) := by kernel_rfl
def Jw (w : World) (base : Nat) (v : Value) (x : S28) : Prop := ∃ cs, v = .agg cs.toArray ∧ k35.M w base (fun _ => True) x cs
theorem Jw.mk (w : World) (base : Nat) (x : S28) {v6 v7 : Value} (g6 : k35.R 35 w base (fun _ => True) v6 x.f4) (g7 : Kd.string.R 9 w base (fun _ => True) v7 x.f5) :
    Jw w base (.agg #[.int .i64 x.f0, .bool x.f1, .bool x.f2.f0, .string x.f2.f1, .int .i64 x.f2.f2, .string x.f3, v6, v7]) x := ⟨_, rfl, k35_mkM w base _ x g6 g7⟩
theorem Jw.flat (w : World) (base : Nat) (x : S28) (h4 : x.f4 = []) (h5 : x.f5 = []) :
    Jw w base (.agg #[.int .i64 x.f0, .bool x.f1, .bool x.f2.f0, .string x.f2.f1, .int .i64 x.f2.f2, .string x.f3, .slice none 0 0, .slice none 0 0]) x :=
 Jw.mk w base x (by rw [h4]; exact Kd.R_nil _ _ _ _ _) (by rw [h5]; exact Kd.R_nil _ _ _ _ _)
theorem Rf.keep {s : List UInt8} {w w' : World} {g : Nat} {a : S} {p : Nat} {o : Int} (h : Rf s w w' g a p o) {k : Nat} {ob : Obj} (hk : w.heap[k]? = some ob) (hne : k ≠ g) : w'.heap[k]? = some ob :=
 (h.kp.block k (Array.getElem?_eq_some_iff.1 hk).1 (by simpa using hne)).trans hk
theorem Rf.far {s : List UInt8} {w w1 w2 : World} {g b : Nat} {a : S} {p : Nat} {o : Int} (h : Rf s w w1 g a p o) (k : w1.grownBy w2 (some b)) (hb : b ≠ g) (hw : w.heap.size ≤ b) : Rf s w w2 g a p o :=
 ⟨(k.block g h.lt (by simpa using Ne.symm hb)).trans h.cell, ⟨k.os.trans h.kp.os, k.tape.trans h.kp.tape, k.output.trans h.kp.output, Nat.le_trans h.kp.size k.size,
  fun i hi hr => (k.block i (Nat.lt_of_lt_of_le hi h.kp.size) (by simp; omega)).trans (h.kp.block i hi hr)⟩, h.gl, h.sl, h.pl, h.ok⟩
def WC (fn : Nat) (more : Array Value) (ok : S → Prop) (f : S → S28 × S) : Prop := ∀ (s : List UInt8) (w w1 : World) (g : Nat) (a : S) (p : Nat) (o : Int), Rf s w w1 g a p o → s.length ≤ 600 → ok a →
 Calls Tryz.prog fn (#[.pointer (some ⟨g, 0, none⟩)] ++ more) w1 fun E w' => ∃ v y q u, E = .returned v ∧ Jw w' w1.heap.size v y ∧ Rf s w w' g (f a).2 q u ∧ ((f a).2.e = 0 → y = (f a).1)
theorem Jw.of {w : World} {base : Nat} {v : Value} {x : S28} (h : Jw w base v x) : ∃ cs : List Value, v = .agg cs.toArray ∧ cs.toArray.size = 8 ∧ cs.toArray.toList.all (·.oneCell') = true ∧ (Tryz.prog.info? 35).map (·.size) = some cs.toArray.size ∧ k35.M w base (fun _ => True) x cs := by
 obtain ⟨cs, rfl, hM⟩ := h
 have hl : cs.toArray.size = 8 := k35.K_len (k35.K_of_M hM)
 have ho : cs.toArray.toList.all (·.oneCell') = true := List.all_eq_true.2 (fun u hu => k35.K_one (k35.K_of_M hM) u (by simpa using hu))
 exact ⟨cs, rfl, hl, ho, by rw [hl]; kernel_rfl, hM⟩
theorem Jw.up {w w' : World} {base b base' : Nat} {cs : List Value} {x : S28} (h : k35.M w base (fun _ => True) x cs) (k : w.grownBy w' (some b)) (hb : b < base) (hl : base' ≤ base) : Jw w' base' (.agg cs.toArray) x :=
 ⟨cs, rfl, k35.M_lower hl (k35.M_mono (fun _ _ => trivial) (Kd.M_grown (k35.M_bound h) k (fun i hi e => by have := hi.2.1; injection e with e; omega)))⟩
theorem value1_pk (ft fa fo : S → S28 × S) (b : S) (he : b.e = 0) : S.value1 ft fa fo b =
    if pk b.s = 110 then (z28, b.need [110, 117, 108, 108]) else if pk b.s = 116 then (S28.mk 1 true z24 ⟨#[]⟩ [] [], b.need [116, 114, 117, 101]) else if pk b.s = 102 then (S28.mk 1 false z24 ⟨#[]⟩ [] [], b.need [102, 97, 108, 115, 101]) else
    if pk b.s = 34 then ft b else if pk b.s = 91 then fa b else if pk b.s = 123 then fo b else if pk b.s = 45 ∨ 48 ≤ pk b.s ∧ pk b.s ≤ 57 then (b.numV, b.numS) else (z28, b.fail 11) := by
 unfold S.value1
 rw [if_neg (fun h => h he)]
 cases hs : b.s with
 | nil => rfl
 | cons c l =>
  have k : ∀ d : UInt8, (pk (c :: l) = (d.toNat : Int)) = (c = d) := fun d => propext (byte_eq c d)
  have k1 : (pk (c :: l) = 110) = (c = 110) := k 110
  have k2 : (pk (c :: l) = 116) = (c = 116) := k 116
  have k3 : (pk (c :: l) = 102) = (c = 102) := k 102
  have k4 : (pk (c :: l) = 34) = (c = 34) := k 34
  have k5 : (pk (c :: l) = 91) = (c = 91) := k 91
  have k6 : (pk (c :: l) = 123) = (c = 123) := k 123
  have k7 : (pk (c :: l) = 45) = (c = 45) := k 45
  have k8 : (48 ≤ pk (c :: l) ∧ pk (c :: l) ≤ 57) = (48 ≤ c ∧ c ≤ 57) := propext ⟨fun h => ⟨by rw [UInt8.le_iff_toNat_le]; have := h.1; show 48 ≤ c.toNat; have e : pk (c :: l) = (c.toNat : Int) := rfl; omega, by rw [UInt8.le_iff_toNat_le]; have := h.2; show c.toNat ≤ 57; have e : pk (c :: l) = (c.toNat : Int) := rfl; omega⟩,
   fun h => ⟨by have := UInt8.le_iff_toNat_le.1 h.1; have e : pk (c :: l) = (c.toNat : Int) := rfl; have : 48 ≤ c.toNat := this; omega, by have := UInt8.le_iff_toNat_le.1 h.2; have e : pk (c :: l) = (c.toNat : Int) := rfl; have : c.toNat ≤ 57 := this; omega⟩⟩
  simp only [k1, k2, k3, k4, k5, k6, k7, k8]
theorem drop_skip (l : List UInt8) : Lib.trimLeftS (Lib.trimLeftS l [32, 9, 10, 13]) [32, 9, 10, 13] = Lib.trimLeftS l [32, 9, 10, 13] := by
 unfold Lib.trimLeftS
 induction l with
 | nil => rfl
 | cons c l ih =>
  cases h : [32, 9, 10, 13].contains c with
  | true => rw [List.dropWhile_cons, h]; exact ih
  | false =>
   rw [List.dropWhile_cons, h]
   show List.dropWhile _ (c :: l) = c :: l
   rw [List.dropWhile_cons, h]; rfl
theorem skip2 (a : S) : a.skip.skip = a.skip := by unfold S.skip; simp only [drop_skip]
theorem Rf.skipE {s : List UInt8} {w w1 : World} {g : Nat} {a : S} {p : Nat} {o : Int} (h : Rf s w w1 g a p o) (he : a.e ≠ 0) : Rf s w w1 g a.skip p o := ⟨h.cell, h.kp, h.gl, h.sl, h.pl, fun e => absurd e he⟩
set_option maxRecDepth 100000 in
set_option maxHeartbeats 8000000 in
theorem value15 {fa fo : S → S28 × S} {ok : S → Prop} (HN : WC 76 #[] (fun b => b.e = 0) (fun b => (b.numV, b.numS)))
    (HA : WC 75 #[.int .i64 4, .int .u8 93] (fun b => b.e = 0 ∧ pk b.s = 91 ∧ ok b) fa) (HO : WC 75 #[.int .i64 5, .int .u8 125] (fun b => b.e = 0 ∧ pk b.s = 123 ∧ ok b) fo) (hok : ∀ a, ok a → a.e = 0 → ok a.skip) :
    WC 37 #[] ok (S.value textV fa fo) := by
 intro s w w1 g a p o h hs ha
 have H := hi_ h
 have HS := hi_ hs
 have HK := hi_ ha
 have HNN := hi_ HN
 have HAA := hi_ HA
 have HOO := hi_ HO
 have HOK := hi_ hok
 have cc : ∀ ob, (w1.alloc ob).cell? ⟨g, 3, none⟩ = some (.int .i64 a.e) := fun ob => (H.out.below (Below.alloc (Below.refl _ _) (Nat.le_refl _) ob)).c3
 clear h hs ha HN HA HO hok
 show Calls Tryz.prog 37 #[.pointer (some ⟨g, 0, none⟩)] w1 _
 have HB0 : Hid (Below w1.heap.size w1 (w1.alloc (.cells zA 35))) := hi_ (Below.alloc (Below.refl _ _) (Nat.le_refl _) _)
 by_cases he : a.e ≠ 0
 · have e1 : (a.e != 0) = true := by simpa using he
   have HE := hi_ he
   have HV : Hid (S.value textV fa fo a = (z28, a.skip)) := hi_ (by unfold S.value S.value1; rw [if_pos (show a.skip.e ≠ 0 from he)])
   have HR := hi_ (blk_new w1 (.cells zA 35))
   clear he
   go_enter Tryz.func37, Tryz.ntmps37
   go_wp2_with (refine row_event rfl 35 (.tmp 2) (.tmp 9) rfl w1.heap.size _ rfl rfl 35 _ HR.out (by kernel_rfl) rfl rfl ?_; intro w3 hr3 hk3)
   have h3 := ((H.out.below HB0.out).far hk3 (Nat.ne_of_gt H.out.lt) H.out.kp.size).skipE HE.out
   refine bodyPost_ret (results_cell_row rfl _ _ w1.heap.size 35 _ (0, 0) _ rfl hr3 Tryz.underlying35 rfl (by kernel_rfl)) rfl ⟨_, z28, p, o, rfl, Jw.flat w3 _ z28 rfl rfl, ?_, ?_⟩
   · rw [HV.out]; exact h3
   rw [HV.out]; exact fun _ => rfl
 replace he : a.e = 0 := Classical.not_not.1 he
 have e1 : (a.e != 0) = false := by simp [he]
 have HE := hi_ he
 clear he
 go_enter Tryz.func37, Tryz.ntmps37
 go_wp2_with fail
 refine (blanks15 (H.out.below HB0.out).now).mono ?_
 rintro E w2 ⟨rfl, q, h2⟩
 have HR2 := hi_ (h2.keep (blk_new w1 (.cells zA 35)) (Nat.ne_of_gt H.out.lt))
 have H2 := hi_ ((H.out.below HB0.out).trans h2)
 have HL2 := hi_ (Nat.lt_of_lt_of_le (show w1.heap.size < (w1.alloc (.cells zA 35)).heap.size by simp) h2.kp.size)
 clear h2 cc
 go_wp2_with fail
 refine (peek15 H2.out.now).mono ?_
 rintro E w3 ⟨rfl, h3⟩
 have HR3 := hi_ (h3.keep HR2.out (Nat.ne_of_gt H.out.lt))
 have H3 := hi_ (H2.out.trans h3)
 have HL3 := hi_ (Nat.lt_of_lt_of_le HL2.out h3.kp.size)
 clear h3 HR2 H2
 obtain ⟨c, hc⟩ : ∃ c, pk (s.drop q) = c := ⟨_, rfl⟩
 rw [hc]
 have HD := hi_ (H3.out.ok HE.out)
 have HC : Hid (pk a.skip.s = c) := hi_ (by rw [← HD.out.2.1]; exact hc)
 have HV : Hid (S.value textV fa fo a = _) := hi_ (value1_pk textV fa fo a.skip HE.out)
 have hcb := pk_bd (s.drop q)
 rw [hc] at hcb
 clear hc
 by_cases k110 : c = 110
 · subst k110
   have HVV : Hid (S.value textV fa fo a = (z28, a.skip.need [110, 117, 108, 108])) := hi_ (by have := HV.out; rw [HC.out] at this; simpa using this)
   clear HV HC hcb
   go_wp2_with fail
   refine (word15 (show Rf s w3 w3 g a.skip.skip q o from by rw [skip2]; exact H3.out.now) HE.out [110, 117, 108, 108] (by decide)).mono ?_
   rintro E w4 ⟨rfl, q4, h4⟩
   have HR4 := hi_ (h4.keep HR3.out (Nat.ne_of_gt H.out.lt))
   have H4 := hi_ (H3.out.trans h4)
   clear h4
   go_wp2_with (refine row_event rfl 35 (.tmp 2) (.tmp 19) rfl w1.heap.size _ rfl rfl 35 _ HR4.out (by kernel_rfl) rfl rfl ?_; intro w5 hr5 hk5)
   have h5 := H4.out.far hk5 (Nat.ne_of_gt H.out.lt) H.out.kp.size
   refine bodyPost_ret (results_cell_row rfl _ _ w1.heap.size 35 _ (0, 0) _ rfl hr5 Tryz.underlying35 rfl (by kernel_rfl)) rfl ⟨_, z28, q4, o, rfl, Jw.flat w5 _ z28 rfl rfl, ?_, ?_⟩
   · rw [HVV.out]; exact h5
   rw [HVV.out]; exact fun _ => rfl
 have e110 : (c == 110) = false := by simpa using k110
 by_cases k116 : c = 116
 · subst k116
   have HVV : Hid (S.value textV fa fo a = (S28.mk 1 true z24 ⟨#[]⟩ [] [], a.skip.need [116, 114, 117, 101])) := hi_ (by have := HV.out; rw [HC.out] at this; simpa using this)
   clear HV HC hcb
   go_wp2_with fail
   refine (word15 (show Rf s w3 w3 g a.skip.skip q o from by rw [skip2]; exact H3.out.now) HE.out [116, 114, 117, 101] (by decide)).mono ?_
   rintro E w4 ⟨rfl, q4, h4⟩
   have HR4 := hi_ (h4.keep HR3.out (Nat.ne_of_gt H.out.lt))
   have H4 := hi_ (H3.out.trans h4)
   clear h4
   go_wp2_with (refine row_event rfl 35 (.tmp 2) (.tmp 25) rfl w1.heap.size _ rfl rfl 35 _ HR4.out (by kernel_rfl) rfl rfl ?_; intro w5 hr5 hk5)
   have h5 := H4.out.far hk5 (Nat.ne_of_gt H.out.lt) H.out.kp.size
   refine bodyPost_ret (results_cell_row rfl _ _ w1.heap.size 35 _ (0, 0) _ rfl hr5 Tryz.underlying35 rfl (by kernel_rfl)) rfl ⟨_, S28.mk 1 true z24 ⟨#[]⟩ [] [], q4, o, rfl, Jw.flat w5 _ (S28.mk 1 true z24 ⟨#[]⟩ [] []) rfl rfl, ?_, ?_⟩
   · rw [HVV.out]; exact h5
   rw [HVV.out]; exact fun _ => rfl
 have e116 : (c == 116) = false := by simpa using k116
 by_cases k102 : c = 102
 · subst k102
   have HVV : Hid (S.value textV fa fo a = (S28.mk 1 false z24 ⟨#[]⟩ [] [], a.skip.need [102, 97, 108, 115, 101])) := hi_ (by have := HV.out; rw [HC.out] at this; simpa using this)
   clear HV HC hcb
   go_wp2_with fail
   refine (word15 (show Rf s w3 w3 g a.skip.skip q o from by rw [skip2]; exact H3.out.now) HE.out [102, 97, 108, 115, 101] (by decide)).mono ?_
   rintro E w4 ⟨rfl, q4, h4⟩
   have HR4 := hi_ (h4.keep HR3.out (Nat.ne_of_gt H.out.lt))
   have H4 := hi_ (H3.out.trans h4)
   clear h4
   go_wp2_with (refine row_event rfl 35 (.tmp 2) (.tmp 31) rfl w1.heap.size _ rfl rfl 35 _ HR4.out (by kernel_rfl) rfl rfl ?_; intro w5 hr5 hk5)
   have h5 := H4.out.far hk5 (Nat.ne_of_gt H.out.lt) H.out.kp.size
   refine bodyPost_ret (results_cell_row rfl _ _ w1.heap.size 35 _ (0, 0) _ rfl hr5 Tryz.underlying35 rfl (by kernel_rfl)) rfl ⟨_, S28.mk 1 false z24 ⟨#[]⟩ [] [], q4, o, rfl, Jw.flat w5 _ (S28.mk 1 false z24 ⟨#[]⟩ [] []) rfl rfl, ?_, ?_⟩
   · rw [HVV.out]; exact h5
   rw [HVV.out]; exact fun _ => rfl
 have e102 : (c == 102) = false := by simpa using k102
 by_cases k34 : c = 34
 · subst k34
   have HVV : Hid (S.value textV fa fo a = textV a.skip) := hi_ (by have := HV.out; rw [HC.out] at this; simpa using this)
   have HST : Hid (strV a.skip = a.skip.st) := hi_ (by
    unfold strV
    rw [if_pos]
    obtain ⟨b, l, hd, hb, -, -⟩ := drop_pk (s := a.skip.s) (p := 0) (c := 34) HC.out (by decide)
    have : b = 34 := (byte_eq b 34).1 hb
    subst this
    rw [show a.skip.s = 34 :: l from hd]
    simp [Lib.hasPrefix, List.isPrefixOf])
   clear HV HC hcb
   go_wp2_with fail
   refine (str15 H3.out.now HE.out).mono ?_
   rintro E w4 ⟨out, q4, rfl, h4, h4e⟩
   have HR4 := hi_ (h4.keep HR3.out (Nat.ne_of_gt H.out.lt))
   have H4 := hi_ (H3.out.trans h4)
   have HE4 := hi_ h4e
   clear h4 h4e
   go_wp2_with (refine row_event rfl 35 (.tmp 2) (.tmp 37) rfl w1.heap.size _ rfl rfl 35 _ HR4.out (by kernel_rfl) rfl rfl ?_; intro w5 hr5 hk5)
   have h5 := H4.out.far hk5 (Nat.ne_of_gt H.out.lt) H.out.kp.size
   refine bodyPost_ret (results_cell_row rfl _ _ w1.heap.size 35 _ (0, 0) _ rfl hr5 Tryz.underlying35 rfl (by kernel_rfl)) rfl ⟨_, S28.mk 3 false z24 (ofL out) [] [], q4, o, rfl, Jw.flat w5 _ (S28.mk 3 false z24 (ofL out) [] []) rfl rfl, ?_, ?_⟩
   · rw [HVV.out]; have := h5; rw [HST.out] at this; exact this
   rw [HVV.out]; intro e
   have := HE4.out
   rw [HST.out] at this
   rw [this e]; rfl
 have e34 : (c == 34) = false := by simpa using k34
 by_cases k91 : c = 91
 · subst k91
   have HVV : Hid (S.value textV fa fo a = fa a.skip) := hi_ (by have := HV.out; rw [HC.out] at this; simpa using this)
   have HPK := hi_ HC.out
   clear HV HC
   go_wp2_with fail
   refine (HAA.out s w3 w3 g a.skip q o H3.out.now HS.out ⟨HE.out, HPK.out, HOK.out a HK.out HE.out⟩).mono ?_
   rintro E w4 ⟨v, y, q4, u4, rfl, hj4, h4, h4e⟩
   have HR4 := hi_ (h4.keep HR3.out (Nat.ne_of_gt H.out.lt))
   have H4 := hi_ (H3.out.trans h4)
   have HE4 := hi_ h4e
   clear h4 h4e
   obtain ⟨cs, rfl, hs4, ho4, hi4, hM4⟩ := hj4.of
   have HM4 := hi_ (And.intro hs4 (And.intro ho4 (And.intro hi4 hM4)))
   clear hs4 ho4 hi4 hM4 hj4
   go_wp2_with (refine row_event rfl 35 (.tmp 2) (.tmp 42) rfl w1.heap.size _ rfl rfl 35 _ HR4.out HM4.out.2.2.1 (by rw [HM4.out.1]; rfl) HM4.out.2.1 ?_; intro w5 hr5 hk5)
   have h5 := H4.out.far hk5 (Nat.ne_of_gt H.out.lt) H.out.kp.size
   refine bodyPost_ret (results_cell_row rfl _ _ w1.heap.size 35 _ (0, 0) _ rfl hr5 Tryz.underlying35 rfl HM4.out.2.2.1) rfl ⟨_, y, q4, u4, rfl, Jw.up HM4.out.2.2.2 hk5 HL3.out (Nat.le_of_lt HL3.out), ?_, ?_⟩
   · rw [HVV.out]; exact h5
   rw [HVV.out]; exact HE4.out
 have e91 : (c == 91) = false := by simpa using k91
 by_cases k123 : c = 123
 · subst k123
   have HVV : Hid (S.value textV fa fo a = fo a.skip) := hi_ (by have := HV.out; rw [HC.out] at this; simpa using this)
   have HPK := hi_ HC.out
   clear HV HC
   go_wp2_with fail
   refine (HOO.out s w3 w3 g a.skip q o H3.out.now HS.out ⟨HE.out, HPK.out, HOK.out a HK.out HE.out⟩).mono ?_
   rintro E w4 ⟨v, y, q4, u4, rfl, hj4, h4, h4e⟩
   have HR4 := hi_ (h4.keep HR3.out (Nat.ne_of_gt H.out.lt))
   have H4 := hi_ (H3.out.trans h4)
   have HE4 := hi_ h4e
   clear h4 h4e
   obtain ⟨cs, rfl, hs4, ho4, hi4, hM4⟩ := hj4.of
   have HM4 := hi_ (And.intro hs4 (And.intro ho4 (And.intro hi4 hM4)))
   clear hs4 ho4 hi4 hM4 hj4
   go_wp2_with (refine row_event rfl 35 (.tmp 2) (.tmp 47) rfl w1.heap.size _ rfl rfl 35 _ HR4.out HM4.out.2.2.1 (by rw [HM4.out.1]; rfl) HM4.out.2.1 ?_; intro w5 hr5 hk5)
   have h5 := H4.out.far hk5 (Nat.ne_of_gt H.out.lt) H.out.kp.size
   refine bodyPost_ret (results_cell_row rfl _ _ w1.heap.size 35 _ (0, 0) _ rfl hr5 Tryz.underlying35 rfl HM4.out.2.2.1) rfl ⟨_, y, q4, u4, rfl, Jw.up HM4.out.2.2.2 hk5 HL3.out (Nat.le_of_lt HL3.out), ?_, ?_⟩
   · rw [HVV.out]; exact h5
   rw [HVV.out]; exact HE4.out
 have e123 : (c == 123) = false := by simpa using k123
 by_cases k45 : c = 45
 · subst k45
   have HVV : Hid (S.value textV fa fo a = (a.skip.numV, a.skip.numS)) := hi_ (by have := HV.out; rw [HC.out] at this; rw [if_neg k110, if_neg k116, if_neg k102, if_neg k34, if_neg k91, if_neg k123, if_pos (by omega)] at this; exact this)
   clear HV HC
   go_wp2_with fail
   refine (HNN.out s w3 w3 g a.skip q o H3.out.now HS.out HE.out).mono ?_
   rintro E w4 ⟨v, y, q4, u4, rfl, hj4, h4, h4e⟩
   have HR4 := hi_ (h4.keep HR3.out (Nat.ne_of_gt H.out.lt))
   have H4 := hi_ (H3.out.trans h4)
   have HE4 := hi_ h4e
   clear h4 h4e
   obtain ⟨cs, rfl, hs4, ho4, hi4, hM4⟩ := hj4.of
   have HM4 := hi_ (And.intro hs4 (And.intro ho4 (And.intro hi4 hM4)))
   clear hs4 ho4 hi4 hM4 hj4
   go_wp2_with (refine row_event rfl 35 (.tmp 2) (.tmp 60) rfl w1.heap.size _ rfl rfl 35 _ HR4.out HM4.out.2.2.1 (by rw [HM4.out.1]; rfl) HM4.out.2.1 ?_; intro w5 hr5 hk5)
   have h5 := H4.out.far hk5 (Nat.ne_of_gt H.out.lt) H.out.kp.size
   refine bodyPost_ret (results_cell_row rfl _ _ w1.heap.size 35 _ (0, 0) _ rfl hr5 Tryz.underlying35 rfl HM4.out.2.2.1) rfl ⟨_, y, q4, u4, rfl, Jw.up HM4.out.2.2.2 hk5 HL3.out (Nat.le_of_lt HL3.out), ?_, ?_⟩
   · rw [HVV.out]; exact h5
   rw [HVV.out]; exact HE4.out
 have e45 : (c == 45) = false := by simpa using k45
 by_cases kd : 48 ≤ c ∧ c ≤ 57
 · have e48 : decide (48 ≤ c) = true := by simpa using kd.1
   have e57 : decide (c ≤ 57) = true := by simpa using kd.2
   have HVV : Hid (S.value textV fa fo a = (a.skip.numV, a.skip.numS)) := hi_ (by have := HV.out; rw [HC.out] at this; rw [if_neg k110, if_neg k116, if_neg k102, if_neg k34, if_neg k91, if_neg k123, if_pos (by omega)] at this; exact this)
   clear HV HC
   clear hcb
   clear kd
   go_wp2_with fail
   refine (HNN.out s w3 w3 g a.skip q o H3.out.now HS.out HE.out).mono ?_
   rintro E w4 ⟨v, y, q4, u4, rfl, hj4, h4, h4e⟩
   have HR4 := hi_ (h4.keep HR3.out (Nat.ne_of_gt H.out.lt))
   have H4 := hi_ (H3.out.trans h4)
   have HE4 := hi_ h4e
   clear h4 h4e
   obtain ⟨cs, rfl, hs4, ho4, hi4, hM4⟩ := hj4.of
   have HM4 := hi_ (And.intro hs4 (And.intro ho4 (And.intro hi4 hM4)))
   clear hs4 ho4 hi4 hM4 hj4
   go_wp2_with (refine row_event rfl 35 (.tmp 2) (.tmp 60) rfl w1.heap.size _ rfl rfl 35 _ HR4.out HM4.out.2.2.1 (by rw [HM4.out.1]; rfl) HM4.out.2.1 ?_; intro w5 hr5 hk5)
   have h5 := H4.out.far hk5 (Nat.ne_of_gt H.out.lt) H.out.kp.size
   refine bodyPost_ret (results_cell_row rfl _ _ w1.heap.size 35 _ (0, 0) _ rfl hr5 Tryz.underlying35 rfl HM4.out.2.2.1) rfl ⟨_, y, q4, u4, rfl, Jw.up HM4.out.2.2.2 hk5 HL3.out (Nat.le_of_lt HL3.out), ?_, ?_⟩
   · rw [HVV.out]; exact h5
   rw [HVV.out]; exact HE4.out
 have HVV : Hid (S.value textV fa fo a = (z28, a.skip.fail 11)) := hi_ (by have := HV.out; rw [HC.out] at this; rw [if_neg k110, if_neg k116, if_neg k102, if_neg k34, if_neg k91, if_neg k123, if_neg (by omega)] at this; exact this)
 clear HV HC
 have hend : ∀ (E : Ending) (w4 : World), (E = .returned (.tuple #[]) ∧ Rf s w3 w4 g (a.skip.fail 11) q o) → True := fun _ _ _ => trivial
 clear hend
 by_cases k48 : 48 ≤ c
 · have e48 : decide (48 ≤ c) = true := by simpa using k48
   have e57 : decide (c ≤ 57) = false := by simp; omega
   go_wp2_with fail
   refine (fail15 H3.out.now 11 (by decide)).mono ?_
   rintro E w4 ⟨rfl, h4⟩
   have HR4 := hi_ (h4.keep HR3.out (Nat.ne_of_gt H.out.lt))
   have H4 := hi_ (H3.out.trans h4)
   clear h4
   go_wp2_with (refine row_event rfl 35 (.tmp 2) (.tmp 63) rfl w1.heap.size _ rfl rfl 35 _ HR4.out (by kernel_rfl) rfl rfl ?_; intro w5 hr5 hk5)
   have h5 := H4.out.far hk5 (Nat.ne_of_gt H.out.lt) H.out.kp.size
   refine bodyPost_ret (results_cell_row rfl _ _ w1.heap.size 35 _ (0, 0) _ rfl hr5 Tryz.underlying35 rfl (by kernel_rfl)) rfl ⟨_, z28, q, o, rfl, Jw.flat w5 _ z28 rfl rfl, ?_, ?_⟩
   · rw [HVV.out]; exact h5
   rw [HVV.out]; exact fun _ => rfl
 · have e48 : decide (48 ≤ c) = false := by simpa using k48
   go_wp2_with fail
   refine (fail15 H3.out.now 11 (by decide)).mono ?_
   rintro E w4 ⟨rfl, h4⟩
   have HR4 := hi_ (h4.keep HR3.out (Nat.ne_of_gt H.out.lt))
   have H4 := hi_ (H3.out.trans h4)
   clear h4
   go_wp2_with (refine row_event rfl 35 (.tmp 2) (.tmp 63) rfl w1.heap.size _ rfl rfl 35 _ HR4.out (by kernel_rfl) rfl rfl ?_; intro w5 hr5 hk5)
   have h5 := H4.out.far hk5 (Nat.ne_of_gt H.out.lt) H.out.kp.size
   refine bodyPost_ret (results_cell_row rfl _ _ w1.heap.size 35 _ (0, 0) _ rfl hr5 Tryz.underlying35 rfl (by kernel_rfl)) rfl ⟨_, z28, q, o, rfl, Jw.flat w5 _ z28 rfl rfl, ?_, ?_⟩
   · rw [HVV.out]; exact h5
   rw [HVV.out]; exact fun _ => rfl
end Js
end Go.Proofs.YtapcpndplnkfjaaGreatDoor
namespace Go.Proofs.YtapcpndplnkfjaaGreatDoor
open Go.RowKit Go.Proofs.YtapcpndplnkfjaaGreatDoorW.PrintWords Pr
def accS (a : Bool × List UInt8) (c : UInt8) : Bool × List UInt8 :=
 if c = 45 then (true, a.2) else if c = 46 then a else if a.2 = [] ∧ c = 48 then a else (a.1, a.2 ++ [c])
theorem bt_eq (s : List UInt8) (i : Nat) (h : i < s.length) (c : UInt8) : (bt (ofL s) (i : Int) = (c.toNat : Int)) ↔ s[i] = c := by
 rw [bt_ofL s i h]; exact head_byte _ _
theorem ofL_nil_iff (l : List UInt8) : (ofL l).toList = ([] : List UInt8) ↔ l = [] := by rw [ofL_toList]
theorem accS_len (a : Bool × List UInt8) (c : UInt8) : (accS a c).2.length ≤ a.2.length + 1 := by
 unfold accS; split
 · simp
 split
 · simp
 split <;> simp
theorem p0_ev (s : List UInt8) (hs : s.length ≤ 700) (p q : Nat) (hq : q ≤ s.length) (R : Bool × ByteArray × Int × Int) (n : Nat) : ∀ (i : Nat) (a : Bool × List UInt8), i + n = q → a.2.length ≤ i →
    Ev (fun k => R4Parse.l0 k (ofL s) (p : Int) (q : Int) (q : Int) (((s.take q).drop i).foldl accS a).1 (ofL (((s.take q).drop i).foldl accS a).2) 0) R →
    Ev (fun k => R4Parse.l0 k (ofL s) (p : Int) (q : Int) (i : Int) a.1 (ofL a.2) 0) R := by
 induction n with
 | zero =>
  intro i a hi ha h
  have : i = q := by omega
  subst this
  rw [List.drop_of_length_le (by rw [List.length_take]; omega)] at h
  exact h
 | succ n ih =>
  intro i a hi ha h
  have hl : i < s.length := by omega
  have hcons : (s.take q).drop i = s[i] :: (s.take q).drop (i + 1) := by
   rw [List.drop_eq_getElem_cons (by rw [List.length_take]; omega)]
   simp
  rw [hcons, List.foldl_cons] at h
  have hlen := accS_len a s[i]
  refine Ev.step (f := fun k => R4Parse.l0 k (ofL s) (p : Int) (q : Int) ((i + 1 : Nat) : Int) (accS a s[i]).1 (ofL (accS a s[i]).2) 0) (fun k => ?_) (ih (i + 1) _ (by omega) (by omega) h)
  simp only [R4Parse.l0]
  rw [if_pos (by omega), if_pos (by omega), ofL_size, if_pos (by omega), w1 i s.length (by omega) (by omega)]
  have hx : (ofL s).extract ((i : Int)).toNat (((i + 1 : Nat) : Int)).toNat = ofL [s[i]] := by
   rw [ofL_ext]
   congr 1
   have e1 : ((i : Int)).toNat = i := by omega
   have e2 : (((i + 1 : Nat) : Int)).toNat = i + 1 := by omega
   rw [e1, e2, List.take_succ_eq_append_getElem hl, List.drop_append_of_le_length (by rw [List.length_take]; omega), List.drop_of_length_le (by rw [List.length_take]; omega)]
   rfl
  rw [hx, ofL_size]
  have h45 := bt_eq s i hl 45
  have h46 := bt_eq s i hl 46
  have h48 := bt_eq s i hl 48
  change (bt (ofL s) (i : Int) = 45) ↔ _ at h45
  change (bt (ofL s) (i : Int) = 46) ↔ _ at h46
  change (bt (ofL s) (i : Int) = 48) ↔ _ at h48
  have hcat : accS a s[i] = (a.1, a.2 ++ [s[i]]) → (if (i : Int) ≤ ((i + 1 : Nat) : Int) then (if ((i + 1 : Nat) : Int) ≤ (s.length : Int) then (if a.2.length + (ofL [s[i]]).size ≤ 9223372036854775807 then (R4Parse.l0 k (ofL s) (p : Int) (q : Int) ((i + 1 : Nat) : Int) a.1 (ofL a.2 ++ ofL [s[i]]) 0) else none) else none) else none) = R4Parse.l0 k (ofL s) (p : Int) (q : Int) ((i + 1 : Nat) : Int) (accS a s[i]).1 (ofL (accS a s[i]).2) 0 := fun ha2 => by
   rw [if_pos (by omega), if_pos (by omega), if_pos (by rw [ofL_size]; simp; omega), ofL_app, ha2]
  by_cases c45 : s[i] = 45
  · rw [if_pos (h45.2 c45), show accS a s[i] = (true, a.2) by unfold accS; rw [if_pos c45]]
  rw [if_neg (fun z => c45 (h45.1 z))]
  by_cases c46 : s[i] = 46
  · rw [if_pos (h46.2 c46), show accS a s[i] = a by unfold accS; rw [if_neg c45, if_pos c46]]
  rw [if_neg (fun z => c46 (h46.1 z))]
  by_cases e : a.2 = []
  · rw [if_pos ((ofL_nil_iff _).2 e)]
    by_cases c48 : s[i] = 48
    · rw [if_pos (h48.2 c48), show accS a s[i] = a by unfold accS; rw [if_neg c45, if_neg c46, if_pos ⟨e, c48⟩]]
    rw [if_neg (fun z => c48 (h48.1 z))]
    exact hcat (by unfold accS; rw [if_neg c45, if_neg c46, if_neg (fun z => c48 z.2)])
  rw [if_neg (fun z => e ((ofL_nil_iff _).1 z))]
  exact hcat (by unfold accS; rw [if_neg c45, if_neg c46, if_neg (fun z => e z.1)])
def accE (a : Int × Bool) (c : UInt8) : Int × Bool :=
 if c = 45 then (a.1, true) else if c = 43 then a else (min (10 * a.1 + (c.toNat : Int) - 48) 1000000, a.2)
theorem mn_min (a b : Int) : mn a b = min a b := by unfold mn; omega
theorem accE_bd (a : Int × Bool) (c : UInt8) (h0 : 0 ≤ a.1) (h1 : a.1 ≤ 1000000) (hc : c = 45 ∨ c = 43 ∨ NumP.isD c = true) : 0 ≤ (accE a c).1 ∧ (accE a c).1 ≤ 1000000 := by
 unfold accE
 split
 · exact ⟨h0, h1⟩
 split
 · exact ⟨h0, h1⟩
 rename_i n45 n43
 have hd : NumP.isD c = true := by rcases hc with e | e | e; exact absurd e n45; exact absurd e n43; exact e
 simp only [NumP.isD, decide_eq_true_eq] at hd
 show 0 ≤ min (10 * a.1 + (c.toNat : Int) - 48) 1000000 ∧ min (10 * a.1 + (c.toNat : Int) - 48) 1000000 ≤ 1000000
 omega
theorem p1_ev (s : List UInt8) (hs : s.length ≤ 700) (d : Bool) (D : ByteArray) (e : Int) (R : Bool × ByteArray × Int × Int) (n : Nat) : ∀ (i : Nat) (a : Int × Bool), i + n = s.length → 0 ≤ a.1 → a.1 ≤ 1000000 → (∀ c ∈ s.drop i, c = 45 ∨ c = 43 ∨ NumP.isD c = true) →
    Ev (fun k => R4Parse.l1 k (ofL s) ((s.drop i).foldl accE a).1 ((s.drop i).foldl accE a).2 (s.length : Int) d D e) R →
    Ev (fun k => R4Parse.l1 k (ofL s) a.1 a.2 (i : Int) d D e) R := by
 induction n with
 | zero =>
  intro i a hi h0 h1 hc h
  have : i = s.length := by omega
  subst this
  rw [List.drop_of_length_le (Nat.le_refl _)] at h
  exact h
 | succ n ih =>
  intro i a hi h0 h1 hc h
  have hl : i < s.length := by omega
  rw [at_drop s i hl] at h hc
  rw [List.foldl_cons] at h
  have hb := accE_bd a s[i] h0 h1 (hc _ List.mem_cons_self)
  refine Ev.step (f := fun k => R4Parse.l1 k (ofL s) (accE a s[i]).1 (accE a s[i]).2 ((i + 1 : Nat) : Int) d D e) (fun k => ?_) (ih (i + 1) _ (by omega) hb.1 hb.2 (fun c z => hc c (List.mem_cons_of_mem _ z)) h)
  simp only [R4Parse.l1]
  rw [ofL_size, if_pos (by omega), if_pos (by omega), w1 i s.length (by omega) (by omega)]
  have h45 := bt_eq s i hl 45
  have h43 := bt_eq s i hl 43
  change (bt (ofL s) (i : Int) = 45) ↔ _ at h45
  change (bt (ofL s) (i : Int) = 43) ↔ _ at h43
  have hbt := bt_ofL s i hl
  have hlt := (s[i]).toNat_lt
  unfold accE
  by_cases c45 : s[i] = 45
  · rw [if_pos (h45.2 c45), if_pos c45]
  rw [if_neg (fun z => c45 (h45.1 z)), if_neg c45]
  by_cases c43 : s[i] = 43
  · rw [if_pos (h43.2 c43), if_pos c43]
  rw [if_neg (fun z => c43 (h43.1 z)), if_neg c43, hbt, mn_min]
  have : wrap64 (wrap64 (wrap64 (10 * a.1) + wrap64 ((s[i].toNat : Int))) - 48) = 10 * a.1 + (s[i].toNat : Int) - 48 := by unfold wrap64; omega
  rw [this]
theorem p1_end (s : List UInt8) (m : Int) (l : Bool) (i : Int) (d : Bool) (D : ByteArray) (e : Int) (R : Bool × ByteArray × Int × Int) (hi : (s.length : Int) ≤ i) (h0 : 0 ≤ m) (h1 : m ≤ 1000000)
    (h : Ev (fun k => R4Parse.j3 k (if l = true then -m else m) d D e) R) : Ev (fun k => R4Parse.l1 k (ofL s) m l i d D e) R := by
 refine Ev.step (fun k => ?_) h
 simp only [R4Parse.l1]
 rw [ofL_size, if_neg (by omega)]
 cases l with
 | true => rw [if_pos rfl, if_pos rfl, show wrap64 (-m) = -m by unfold wrap64; omega]
 | false => rw [if_neg (by simp), if_neg (by simp)]
theorem rstrip_snoc (D : List UInt8) (c : UInt8) : NumP.rstrip (D ++ [c]) = if c = 48 then NumP.rstrip D else D ++ [c] := by
 unfold NumP.rstrip
 rw [List.reverse_append]
 by_cases h : c = 48
 · subst h; simp [NumP.isZ]
 simp [NumP.isZ, h]
theorem snoc_of (D : List UInt8) (h : 0 < D.length) : ∃ E c, D = E ++ [c] ∧ E.length + 1 = D.length := by
 refine ⟨D.dropLast, D.getLast (by intro z; subst z; simp at h), (List.dropLast_concat_getLast _).symm, ?_⟩
 rw [List.length_dropLast]; omega
theorem rstrip_le (D : List UInt8) : (NumP.rstrip D).length ≤ D.length := by
 unfold NumP.rstrip
 rw [List.length_reverse]
 exact Nat.le_trans (List.dropWhile_suffix NumP.isZ).length_le (by simp)
theorem p2_ev (d : Bool) (R : Bool × ByteArray × Int × Int) (n : Nat) : ∀ (D : List UInt8) (e : Int), D.length = n → n ≤ 2000 → -2000000 ≤ e → e ≤ 2000000 + 2000 - n →
    Ev (fun k => R4Parse.j5 k d (ofL (NumP.rstrip D)) (e + D.length - (NumP.rstrip D).length)) R → Ev (fun k => R4Parse.l2 k d (ofL D) e) R := by
 induction n with
 | zero =>
  intro D e hn _ _ _ h
  obtain rfl := List.length_eq_zero_iff.1 hn
  refine Ev.step (fun k => ?_) h
  simp only [R4Parse.l2]
  rw [ofL_size, if_neg (by simp)]
  congr 1; simp [NumP.rstrip]
 | succ n ih =>
  intro D e hn hb he1 he2 h
  obtain ⟨E, c, rfl, hE⟩ := snoc_of D (by omega)
  have hl : (E ++ [c]).length = n + 1 := hn
  have hw : wrap64 (((E ++ [c]).length : Int) - 1) = ((n : Nat) : Int) := by rw [hl]; unfold wrap64; omega
  have hEn : E.length = n := by omega
  have hbt : (bt (ofL (E ++ [c])) (n : Int) = 48) ↔ c = 48 := by
   have := bt_eq (E ++ [c]) n (by omega) 48
   change (bt (ofL (E ++ [c])) (n : Int) = 48) ↔ _ at this
   rw [this, List.getElem_append_right (by omega)]
   simp
  have hx : (ofL (E ++ [c])).extract 0 ((n : Int)).toNat = ofL E := by
   rw [ofL_ext]; congr 1
   have e1 : ((n : Int)).toNat = n := by omega
   rw [e1, List.drop_zero, List.take_append_of_le_length (by omega), List.take_of_length_le (by omega)]
  rw [rstrip_snoc] at h
  by_cases hc : c = 48
  · rw [if_pos hc] at h
    refine Ev.step (f := fun k => R4Parse.l2 k d (ofL E) (e + 1)) (fun k => ?_) (ih E (e + 1) hEn (by omega) (by omega) (by omega) ?_)
    · simp only [R4Parse.l2]
      rw [ofL_size, if_pos (by omega), hw, if_pos (by omega), if_pos (by omega), if_pos (hbt.2 hc), if_pos (by omega), hx, show wrap64 (e + 1) = e + 1 by unfold wrap64; omega]
    have : e + 1 + (E.length : Int) - ((NumP.rstrip E).length : Int) = e + ((E ++ [c]).length : Int) - ((NumP.rstrip E).length : Int) := by rw [hl]; omega
    rw [this]; exact h
  rw [if_neg hc] at h
  refine Ev.step (fun k => ?_) h
  simp only [R4Parse.l2]
  rw [ofL_size, if_pos (by omega), hw, if_pos (by omega), if_pos (by omega), if_neg (fun z => hc (hbt.1 z))]
  congr 1; omega
theorem right_l0 (d : Bool) (D : List UInt8) (e : Int) (hD : D.length ≤ 1000000000000000000) (h0 : D ≠ []) (n : Nat) : ∀ i, i + n = D.length → (D.take i).all NumP.isD = true →
    Ev (fun k => R4Right.l0 k (i : Int) d (ofL D) e) (NumP.right (d, D, e)) := by
 have hpos : 0 < D.length := by cases D with | nil => exact absurd rfl h0 | cons _ _ => simp
 induction n with
 | zero =>
  intro i hi ha
  have : i = D.length := by omega
  subst this
  rw [List.take_of_length_le (Nat.le_refl _)] at ha
  refine Ev.step (f := fun _ => some (NumP.right (d, D, e))) (fun k => ?_) (Ev.now _)
  simp only [R4Right.l0]
  have hw : wrap64 ((D.length : Int) - 1) = ((D.length - 1 : Nat) : Int) := by unfold wrap64; omega
  rw [ofL_size, if_neg (by omega), hw]
  have hb0 := bt_eq D 0 hpos 48
  have hb1 := bt_eq D (D.length - 1) (by omega) 48
  change (bt (ofL D) 0 = 48) ↔ _ at hb0
  change (bt (ofL D) ((D.length - 1 : Nat) : Int) = 48) ↔ _ at hb1
  have q0 : D.head? = some D[0] := by cases D with | nil => exact absurd rfl h0 | cons _ _ => rfl
  have q1 : D.getLast? = some (D[D.length - 1]'(by omega)) := by rw [List.getLast?_eq_getElem?]; exact List.getElem?_eq_getElem _
  unfold NumP.right
  rw [if_neg h0]
  simp only [ha, q0, q1, Bool.true_and]
  by_cases e2 : (D.length : Int) ≤ 40
  · rw [if_pos e2, if_pos (by omega)]
    have e2' : decide (D.length ≤ 40) = true := by rw [decide_eq_true_eq]; omega
    by_cases e0 : D[0] = 48
    · rw [if_pos (hb0.2 e0)]; simp [e0]
    rw [if_neg (fun z => e0 (hb0.1 z)), if_pos (by omega), if_pos (by omega)]
    by_cases e1 : D[D.length - 1]'(by omega) = 48
    · rw [if_pos (hb1.2 e1)]; simp [e1]
    rw [if_neg (fun z => e1 (hb1.1 z))]
    have f0 : (some D[0] != some 48) = true := by simp [e0]
    have f1 : (some (D[D.length - 1]'(by omega)) != some 48) = true := by simp [e1]
    rw [e2', f0, f1]
    by_cases e3 : e > -1000
    · rw [if_pos e3]
      have : decide (-999 ≤ e) = true := by rw [decide_eq_true_eq]; omega
      rw [this]; congr 1
      simp only [Bool.true_and]
      rw [decide_eq_decide]; omega
    rw [if_neg e3]
    have : decide (-999 ≤ e) = false := by rw [decide_eq_false_iff_not]; omega
    rw [this]; rfl
  rw [if_neg e2]
  have e2' : decide (D.length ≤ 40) = false := by rw [decide_eq_false_iff_not]; omega
  rw [e2']; simp
 | succ n ih =>
  intro i hi ha
  have hl : i < D.length := by omega
  have hdH : dH (D.drop i) = NumP.isD D[i] := by rw [at_drop D i hl]; rfl
  cases hd : NumP.isD D[i] with
  | true =>
   refine Ev.step (fun k => ?_) (ih (i + 1) (by omega) (by rw [List.take_succ_eq_append_getElem hl, List.all_append, ha]; simp [hd]))
   simp only [R4Right.l0]
   rw [ofL_size, if_pos (by omega), dig_f, hdH, hd]
   simp only [Option.bind_some, if_true]
   rw [w1 i D.length (by omega) hD]
  | false =>
   refine Ev.step (f := fun _ => some (NumP.right (d, D, e))) (fun k => ?_) (Ev.now _)
   simp only [R4Right.l0]
   rw [ofL_size, if_pos (by omega), dig_f, hdH, hd]
   simp only [Option.bind_some, Bool.false_eq_true, if_false]
   congr 1
   unfold NumP.right
   rw [if_neg h0]
   have : D.all NumP.isD = false := by
    rw [List.all_eq_false]; exact ⟨D[i], List.getElem_mem _, by simp [hd]⟩
   simp [this]
theorem right_ev (d : Bool) (D : List UInt8) (e : Int) (hD : D.length ≤ 1000000000000000000) : Ev (fun k => R4Right.f k d (ofL D) e) (NumP.right (d, D, e)) := by
 by_cases h0 : D = []
 · subst h0
   refine Ev.congr (fun k => ?_) (Ev.now _)
   unfold R4Right.f NumP.right
   rw [if_pos (ofL_toList []), if_pos rfl]
   cases d <;> simp
 refine Ev.congr (fun k => ?_) (right_l0 d D e hD h0 D.length 0 (by omega) (by simp))
 unfold R4Right.f
 rw [if_neg (by rw [ofL_toList]; exact h0)]; rfl
def capE (E : List UInt8) (m : Int) : Int := E.foldl (fun n c => min (10 * n + (c.toNat : Int) - 48) 1000000) m
theorem capE_dig : ∀ (E : List UInt8) (m : Int) (l : Bool), E.all NumP.isD = true → E.foldl accE (m, l) = (capE E m, l)
 | [], _, _, _ => rfl
 | c :: t, m, l, h => by
  simp only [List.all_cons, Bool.and_eq_true] at h
  obtain ⟨n45, -, -, -, n43⟩ := NumP.isD_sign h.1
  rw [List.foldl_cons, show accE (m, l) c = (min (10 * m + (c.toNat : Int) - 48) 1000000, l) by unfold accE; rw [if_neg n45, if_neg n43]]
  exact capE_dig t _ l h.2
def valF (E : List UInt8) (m : Int) : Int := E.foldl (fun n c => 10 * n + ((c.toNat : Int) - 48)) m
theorem capE_val : ∀ (E : List UInt8) (a m : Int), E.all NumP.isD = true → 0 ≤ a → (m = min a 1000000) → capE E m = min (valF E a) 1000000 ∧ 0 ≤ valF E a
 | [], a, m, _, h0, h => ⟨h, h0⟩
 | c :: t, a, m, hd, h0, h => by
  simp only [List.all_cons, Bool.and_eq_true] at hd
  have hc := hd.1
  simp only [NumP.isD, decide_eq_true_eq] at hc
  exact capE_val t (10 * a + ((c.toNat : Int) - 48)) (min (10 * m + (c.toNat : Int) - 48) 1000000) hd.2 (by omega) (by omega)
theorem val_lstrip : ∀ E : List UInt8, NumP.val (NumP.lstrip E) = NumP.val E
 | [] => rfl
 | c :: t => by
  by_cases h : c = 48
  · subst h
    show NumP.val (NumP.lstrip t) = _
    rw [val_lstrip t]; rfl
  have : NumP.isZ c = false := by simpa [NumP.isZ] using h
  simp [NumP.lstrip, this]
theorem val_ge : ∀ (E : List UInt8) (a : Int), E.all NumP.isD = true → 0 ≤ a → a * 10 ^ E.length ≤ valF E a
 | [], a, _, _ => by simp [valF]
 | c :: t, a, hd, h0 => by
  simp only [List.all_cons, Bool.and_eq_true] at hd
  have hc := hd.1
  simp only [NumP.isD, decide_eq_true_eq] at hc
  have ih := val_ge t (10 * a + ((c.toNat : Int) - 48)) hd.2 (by omega)
  have e : valF (c :: t) a = valF t (10 * a + ((c.toNat : Int) - 48)) := rfl
  rw [e]
  refine Int.le_trans ?_ ih
  rw [List.length_cons, Int.pow_succ, show a * (10 ^ t.length * 10) = (10 * a) * 10 ^ t.length by rw [← Int.mul_assoc, Int.mul_comm, ← Int.mul_assoc]]
  exact Int.mul_le_mul_of_nonneg_right (by omega) (Int.pow_nonneg (by omega))
theorem cap_pow (E : List UInt8) (hd : E.all NumP.isD = true) : capE E 0 = NumP.pow E ∧ capE E 0 ≤ 1000000 ∧ 0 ≤ capE E 0 ∨ capE E 0 = 1000000 ∧ 1000000 ≤ NumP.pow E := by
 obtain ⟨h1, h2⟩ := capE_val E 0 0 hd (Int.le_refl _) (by omega)
 have hv : valF E 0 = NumP.val E := rfl
 rw [hv] at h1 h2
 unfold NumP.pow
 rw [val_lstrip]
 by_cases hl : (NumP.lstrip E).length > 10
 · rw [if_pos hl]
   right
   refine ⟨?_, by omega⟩
   have hz := dropAll NumP.isZ NumP.isD _ hd
   change (NumP.lstrip E).all NumP.isD = true at hz
   have hval : 1000000 ≤ NumP.val (NumP.lstrip E) := by
    cases hE : NumP.lstrip E with
    | nil => rw [hE] at hl; simp at hl
    | cons c t =>
     rw [hE] at hz hl
     simp only [List.all_cons, Bool.and_eq_true] at hz
     have hc := hz.1
     simp only [NumP.isD, decide_eq_true_eq] at hc
     have hc48 : c ≠ 48 := by
      intro z; subst z
      have : (NumP.lstrip E).head? = some 48 := by rw [hE]; rfl
      have h3 := List.head?_dropWhile_not NumP.isZ E
      unfold NumP.lstrip at this
      rw [this] at h3
      simp [NumP.isZ] at h3
     have hc49 : 49 ≤ c.toNat := by
      have : c.toNat ≠ 48 := fun z => hc48 (by rw [← UInt8.toNat_inj]; exact z)
      omega
     have hg := val_ge t ((c.toNat : Int) - 48) hz.2 (by omega)
     have e : NumP.val (c :: t) = valF t ((c.toNat : Int) - 48) := by unfold NumP.val valF; simp
     rw [e]
     simp only [List.length_cons] at hl
     have hp : (10 : Int) ^ 10 ≤ 10 ^ t.length := by
      have := Nat.pow_le_pow_right (n := 10) (by omega) (show 10 ≤ t.length by omega)
      exact_mod_cast this
     have : (1 : Int) * 10 ^ t.length ≤ ((c.toNat : Int) - 48) * 10 ^ t.length := Int.mul_le_mul_of_nonneg_right (by omega) (Int.pow_nonneg (by omega))
     have h10 : (10 : Int) ^ 10 = 10000000000 := by decide
     omega
   rw [val_lstrip] at hval
   omega
 rw [if_neg hl]
 by_cases h : NumP.val E ≤ 1000000
 · left; omega
 right; omega
theorem acc_dig : ∀ (L : List UInt8) (d : Bool) (A : List UInt8), L.all NumP.isD = true → L.foldl accS (d, A) = (d, if A = [] then NumP.lstrip L else A ++ L)
 | [], d, A, _ => by by_cases h : A = [] <;> simp [h, NumP.lstrip]
 | c :: t, d, A, h => by
  simp only [List.all_cons, Bool.and_eq_true] at h
  obtain ⟨n45, n46, -⟩ := NumP.isD_sign h.1
  rw [List.foldl_cons]
  by_cases hA : A = []
  · subst hA
    rw [if_pos rfl]
    by_cases hc : c = 48
    · rw [show accS (d, []) c = (d, []) by unfold accS; rw [if_neg n45, if_neg n46, if_pos ⟨rfl, hc⟩], acc_dig t d [] h.2, if_pos rfl]
      simp [NumP.lstrip, NumP.isZ, hc]
    rw [show accS (d, []) c = (d, [] ++ [c]) by unfold accS; rw [if_neg n45, if_neg n46, if_neg (fun z => hc z.2)], acc_dig t d _ h.2, if_neg (by simp)]
    simp [NumP.lstrip, NumP.isZ, hc]
  rw [show accS (d, A) c = (d, A ++ [c]) by unfold accS; rw [if_neg n45, if_neg n46, if_neg (fun z => hA z.1)], acc_dig t d _ h.2, if_neg (by simp), if_neg hA]
  simp
theorem lstrip_app : ∀ W P : List UInt8, NumP.lstrip (W ++ P) = if NumP.lstrip W = [] then NumP.lstrip P else NumP.lstrip W ++ P
 | [], P => by simp [NumP.lstrip]
 | c :: t, P => by
  by_cases h : NumP.isZ c = true
  · have := lstrip_app t P
    simp only [NumP.lstrip, List.cons_append, List.dropWhile_cons, h, if_true] at this ⊢
    exact this
  simp [NumP.lstrip, h]
theorem acc_all (d : Bool) (W P : List UInt8) (hW : W.all NumP.isD = true) (hP : P.all NumP.isD = true) : (NumP.sgn d ++ (W ++ NumP.dot P)).foldl accS (false, []) = (d, NumP.lstrip (W ++ P)) := by
 have h1 : (NumP.sgn d).foldl accS (false, []) = (d, []) := by cases d <;> simp [NumP.sgn, accS]
 rw [List.foldl_append, h1, List.foldl_append, acc_dig W d [] hW, if_pos rfl, lstrip_app]
 unfold NumP.dot
 cases P with
 | nil => simp [NumP.lstrip]
 | cons c t =>
  simp only [List.isEmpty_cons, Bool.false_eq_true, if_false, List.foldl_cons]
  rw [show accS (d, NumP.lstrip W) 46 = (d, NumP.lstrip W) by unfold accS; rw [if_neg (by decide), if_pos rfl], ← List.foldl_cons]
  exact acc_dig (c :: t) d _ hP
theorem parse_ev (s : List UInt8) (hs : s.length ≤ 700) :
    Ev (fun k => R4Parse.f k (ofL s)) ((NumP.parse s).1.1, ofL (NumP.parse s).1.2.1, (NumP.parse s).1.2.2, (NumP.parse s).2) := by
 obtain ⟨R, hR, h1, h2⟩ := grammar_ev s (by omega)
 cases hok : NumP.ok s with
 | false =>
  rw [show NumP.parse s = (NumP.zero, 11) by unfold NumP.parse; rw [if_neg (by rw [hok]; simp)]]
  refine Ev.bind hR ?_
  rw [hok] at h1
  refine Ev.congr (fun k => ?_) (Ev.now _)
  rw [h1]; rfl
 | true =>
  have hIs := NumP.Is.of_ok hok
  have hRv := h2 (h1.trans hok)
  subst hRv
  have hpow := cap_pow _ (expP_dig (NumP.rest2 s))
  have hnum : NumP.num s = NumP.form (NumP.down s) (NumP.whole s ++ NumP.dotP (NumP.rest1 s)) ((if NumP.expL (NumP.rest2 s) = true then - NumP.pow (NumP.expP (NumP.rest2 s)) else NumP.pow (NumP.expP (NumP.rest2 s))) - ((NumP.dotP (NumP.rest1 s)).length : Int)) := rfl
  have hparse : NumP.parse s = if NumP.right (NumP.num s) = true then (NumP.num s, 0) else (NumP.zero, 13) := by unfold NumP.parse; rw [if_pos hok]
  have hEd := expP_dig (NumP.rest2 s)
  generalize NumP.parse s = target at *
  generalize NumP.num s = nm at *
  generalize NumP.down s = d at *
  generalize NumP.whole s = W at *
  generalize NumP.dotP (NumP.rest1 s) = P at *
  generalize NumP.expL (NumP.rest2 s) = less at *
  generalize NumP.expP (NumP.rest2 s) = E at *
  obtain ⟨x, hx, hsx⟩ := hIs.text
  have hlen : s.length = (NumP.sgn d).length + W.length + (NumP.dot P).length + x.length := by rw [hsx]; simp; omega
  obtain ⟨q, hq⟩ : ∃ q, q = (NumP.sgn d).length + W.length + (NumP.dot P).length := ⟨_, rfl⟩
  have htake : s.take q = NumP.sgn d ++ (W ++ NumP.dot P) := by
   rw [hsx, show NumP.sgn d ++ (W ++ (NumP.dot P ++ x)) = (NumP.sgn d ++ (W ++ NumP.dot P)) ++ x by simp, List.take_append_of_le_length (by simp; omega), List.take_of_length_le (by simp; omega)]
  have hdrop : s.drop (q + 1) = x.tail := by
   have e1 : s.drop q = x := by
    rw [hsx, show NumP.sgn d ++ (W ++ (NumP.dot P ++ x)) = (NumP.sgn d ++ (W ++ NumP.dot P)) ++ x by simp]
    exact List.drop_left' (by simp; omega)
   rw [← List.drop_drop, e1, List.drop_one]
  have hdotl : ((NumP.dot P).length : Int) = if P = [] then 0 else (P.length : Int) + 1 := by
   unfold NumP.dot; cases P <;> simp
  have hcap0 : 0 ≤ capE E 0 ∧ capE E 0 ≤ 1000000 := by rcases hpow with h | h <;> omega
  have hexp : ∀ (D : ByteArray) (e : Int) (R : Bool × ByteArray × Int × Int), Ev (fun k => R4Parse.j3 k (if less = true then - capE E 0 else capE E 0) d D e) R → Ev (fun k => R4Parse.l1 k (ofL s) 0 false ((q + 1 : Nat) : Int) d D e) R := by
   intro D e R hR3
   by_cases hxe : x = []
   · have hz : less = false ∧ E = [] := by
       rcases hx.out with ⟨-, a, b⟩ | ⟨c, g, -, -, -, -, hxx⟩
       · exact ⟨a, b⟩
       · rw [hxx] at hxe; simp at hxe
     refine p1_end s 0 false _ d D e R (by rw [hlen, hxe]; simp; omega) (by omega) (by omega) ?_
     rw [hz.1, hz.2] at hR3
     exact hR3
   rcases hx.out with ⟨a, -, -⟩ | ⟨c, g, hc, hg, hE, hd, hxx⟩
   · exact absurd a hxe
   have ht : s.drop (q + 1) = g ++ E := by rw [hdrop, hxx]; rfl
   have hfold : (s.drop (q + 1)).foldl accE (0, false) = (capE E 0, less) := by
    rw [ht, List.foldl_append]
    rcases hg with ⟨rfl, rfl⟩ | ⟨rfl, rfl⟩ | ⟨rfl, rfl⟩
    · exact capE_dig E 0 false hd
    · rw [show List.foldl accE (0, false) [43] = (0, false) by simp [accE]]; exact capE_dig E 0 false hd
    rw [show List.foldl accE (0, false) [45] = (0, true) by simp [accE]]; exact capE_dig E 0 true hd
   have hxl : 1 ≤ x.length := by cases x with | nil => exact absurd rfl hxe | cons _ _ => simp
   refine p1_ev s hs d D e R (s.length - (q + 1)) (q + 1) (0, false) (by omega) (by simp) (by simp) ?_ ?_
   · intro c hcm
     rw [ht, List.mem_append] at hcm
     rcases hcm with hcm | hcm
     · rcases hg with ⟨rfl, -⟩ | ⟨rfl, -⟩ | ⟨rfl, -⟩ <;> simp at hcm
       · right; left; exact hcm
       left; exact hcm
     right; right; exact List.all_eq_true.1 hd _ hcm
   rw [hfold]
   exact p1_end s (capE E 0) less _ d D e R (Int.le_refl _) hcap0.1 hcap0.2 hR3
  have hPl : P.length ≤ 700 ∧ W.length ≤ 700 := by
   have : P.length ≤ (NumP.dot P).length := by unfold NumP.dot; cases P <;> simp
   omega
  have hLl : (NumP.lstrip (W ++ P)).length ≤ 1400 := by
   have : (NumP.lstrip (W ++ P)).length ≤ (W ++ P).length := (List.dropWhile_suffix NumP.isZ).length_le
   rw [List.length_append] at this; omega
  have hRl := rstrip_le (NumP.lstrip (W ++ P))
  refine Ev.bind hR ?_
  simp only [if_true]
  have hps : (((NumP.sgn d).length + W.length : Nat) : Int) = (q : Int) - ((NumP.dot P).length : Int) := by omega
  rw [← hq]
  refine p0_ev s hs _ q (by omega) _ q 0 (false, []) (by omega) (by simp) ?_
  rw [List.drop_zero, htake, acc_all d W P hIs.wd hIs.pd]
  refine Ev.step (f := fun k => R4Parse.j1 k (ofL s) (q : Int) d (ofL (NumP.lstrip (W ++ P))) (-(P.length : Int))) (fun k => ?_) ?_
  · simp only [R4Parse.l0]
    rw [if_neg (by omega)]
    by_cases hP0 : P = []
    · subst hP0
      rw [if_neg (by rw [hps]; simp [NumP.dot])]; rfl
    rw [if_neg hP0] at hdotl
    rw [if_pos (by omega)]
    congr 1
    rw [hps, hdotl]; unfold wrap64; omega
  refine Ev.step (f := fun k => R4Parse.l1 k (ofL s) 0 false ((q + 1 : Nat) : Int) d (ofL (NumP.lstrip (W ++ P))) (-(P.length : Int))) (fun k => ?_) (hexp _ _ _ ?_)
  · simp only [R4Parse.j1]
    rw [w1 q s.length (by omega) (by omega)]
  obtain ⟨m, hm⟩ : ∃ m, m = (if less = true then - capE E 0 else capE E 0) := ⟨_, rfl⟩
  have hmb : -1000000 ≤ m ∧ m ≤ 1000000 := by rw [hm]; split <;> omega
  rw [← hm]
  refine Ev.step (f := fun k => R4Parse.l2 k d (ofL (NumP.lstrip (W ++ P))) (-(P.length : Int) + m)) (fun k => ?_) (p2_ev d _ _ _ _ rfl (by omega) (by omega) (by omega) ?_)
  · simp only [R4Parse.j3]
    rw [show wrap64 (-(P.length : Int) + m) = -(P.length : Int) + m by unfold wrap64; omega]
  unfold NumP.form at hnum
  generalize hT : NumP.rstrip (NumP.lstrip (W ++ P)) = T at *
  generalize NumP.lstrip (W ++ P) = L at *
  by_cases hT0 : T = []
  · rw [if_pos hT0] at hnum
    have : target = (NumP.zero, 0) := by rw [hparse, hnum]; rfl
    rw [this, hT0]
    refine Ev.step (fun k => ?_) (Ev.now _)
    simp only [R4Parse.j5]
    rw [if_pos (ofL_toList [])]; rfl
  rw [if_neg hT0] at hnum
  obtain ⟨e, he⟩ : ∃ e, e = -(P.length : Int) + m + (L.length : Int) - (T.length : Int) := ⟨_, rfl⟩
  rw [← he]
  have hre := right_ev d T e (by omega)
  have key : target = if NumP.right (d, T, e) = true then ((d, T, e), 0) else (NumP.zero, 13) := by
   rw [hparse]
   rcases hpow with ⟨hp, -⟩ | ⟨hp1, hp2⟩
   · have : nm = (d, T, e) := by
       rw [hnum, he, hm, ← hp]
       congr 2
       cases less <;> simp <;> omega
     rw [this]
   · have f1 : ∀ z : Int, z > 999 ∨ z < -999 → NumP.right (d, T, z) = false := fun z hz => by
       unfold NumP.right
       rw [if_neg hT0]
       rcases hz with hz | hz
       · have : decide (z ≤ 999) = false := by rw [decide_eq_false_iff_not]; omega
         simp only [this, Bool.and_false]
       · have : decide (-999 ≤ z) = false := by rw [decide_eq_false_iff_not]; omega
         simp only [this, Bool.and_false, Bool.false_and]
     rw [hnum, f1, f1]
     · simp
     · rw [he, hm, hp1]; cases less
       · left; simp only [Bool.false_eq_true, if_false]; omega
       right; simp only [if_true]; omega
     · cases less
       · left; simp only [Bool.false_eq_true, if_false]; omega
       right; simp only [if_true]; omega
  refine Ev.step (f := fun k => (R4Right.f k d (ofL T) e).bind fun t => if t = true then some (d, ofL T, e, 0) else some (false, ⟨#[]⟩, 0, 13)) (fun k => ?_) (Ev.bind hre ?_)
  · simp only [R4Parse.j5]
    rw [if_neg (by rw [ofL_toList]; exact hT0)]
  rw [key]
  cases NumP.right (d, T, e) with
  | true => exact Ev.now _
  | false => exact Ev.now _
end Go.Proofs.YtapcpndplnkfjaaGreatDoor
namespace Go.Proofs.YtapcpndplnkfjaaGreatDoor
open Go.RowKit Go.Proofs.YtapcpndplnkfjaaGreatDoorW.PrintWords Go.Proofs.YtapcpndplnkfjaaGreatDoorW.PrintLast Go.Proofs.YtapcpndplnkfjaaGreatDoorW.PrintMore
namespace Js
def numC : List UInt8 := [48, 49, 50, 51, 52, 53, 54, 55, 56, 57, 43, 45, 46, 101, 69]
theorem has_tab (b : UInt8) : R5has.f 20 ⟨#[48, 49, 50, 51, 52, 53, 54, 55, 56, 57, 43, 45, 46, 101, 69]⟩ (b.toNat : Int) = some (numC.contains b) := by
 have : ∀ k : Fin 256, R5has.f 20 ⟨#[48, 49, 50, 51, 52, 53, 54, 55, 56, 57, 43, 45, 46, 101, 69]⟩ ((UInt8.ofNat k.val).toNat : Int) = some (numC.contains (UInt8.ofNat k.val)) := by decide +kernel
 have h := this ⟨b.toNat, b.toNat_lt⟩
 rwa [show UInt8.ofNat (⟨b.toNat, b.toNat_lt⟩ : Fin 256).val = b from UInt8.ofNat_toNat] at h
set_option maxRecDepth 100000 in
set_option maxHeartbeats 8000000 in
theorem number15 : WC 76 #[] (fun b => b.e = 0) (fun b => (b.numV, b.numS)) := by
 intro s w w1 g a p o h hs he
 show Calls Tryz.prog 76 #[.pointer (some ⟨g, 0, none⟩)] w1 _
 have H := hi_ h
 have HS := hi_ hs
 have HE := hi_ he
 have HD := hi_ (h.ok he)
 have cc : ∀ ob, (w1.alloc ob).cell? ⟨g, 1, none⟩ = some (.int .i64 p) := fun ob => (H.out.below (Below.alloc (Below.refl _ _) (Nat.le_refl _) ob)).c1
 have HB0 : Hid (Below w1.heap.size w1 (w1.alloc (.cells zA 35))) := hi_ (Below.alloc (Below.refl _ _) (Nat.le_refl _) _)
 clear h hs he
 go_enter Tryz.func76, Tryz.ntmps76
 go_upto_block 0 with fail
 go_cut [] (fun wx => ∃ q : Nat, Hid (Rf s w wx g ⟨s.drop q, a.o, 0⟩ q o) ∧ Hid (p ≤ q ∧ q ≤ s.length ∧ s.drop q = a.numR) ∧ Hid (wx.heap[w1.heap.size]? = some (.cells zA 35 (0, 0))))
 case first =>
  go_wp2_with fail
  go_loopg [] (s.length - p) (fun kq wx => ∃ q : Nat, Hid (Rf s w wx g ⟨s.drop q, a.o, 0⟩ q o) ∧ Hid (p ≤ q ∧ kq + q = s.length ∧ Lib.trimLeftS (s.drop q) numC = a.numR) ∧ Hid (wx.heap[w1.heap.size]? = some (.cells zA 35 (0, 0))))
  case atStart =>
   refine ⟨p, hi_ ?_, hi_ ⟨Nat.le_refl _, by have := HD.out.1; omega, by rw [HD.out.2.1]; rfl⟩, hi_ (blk_new w1 _)⟩
   have h0 := H.out.below HB0.out
   exact ⟨by have := h0.cell; rw [HE.out] at this; exact this, h0.kp, h0.gl, h0.sl, h0.pl, fun _ => ⟨HD.out.1, rfl, HD.out.2.2⟩⟩
  case round =>
   obtain ⟨q, HQ, HP, HW⟩ := hrel
   clear cc
   by_cases hlt : q < s.length
   · obtain ⟨b, l, hd⟩ : ∃ b l, s.drop q = b :: l := by
       cases hd : s.drop q with
       | nil => have := congrArg List.length hd; simp at this; omega
       | cons b l => exact ⟨b, l, rfl⟩
     have hl : s.drop (q + 1) = l := by rw [← List.drop_drop, hd]; rfl
     have hbt : bt (ofL s) (q : Int) = (b.toNat : Int) := by rw [bt_drop s q hlt, hd]; rfl
     have c2 : decide ((q : Int) < ((ofL s).size : Int)) = true := by rw [ofL_size]; simp; omega
     have p4 : (0 ≤ (q : Int)) = True := eq_true (by omega)
     have q4 : ((q : Int) < ((ofL s).size : Int)) = True := eq_true (by rw [ofL_size]; omega)
     have HX := hi_ (bt_at (ofL s) (q : Int))
     cases hb : numC.contains b with
     | true =>
      have hh : R5has.f 20 ⟨#[48, 49, 50, 51, 52, 53, 54, 55, 56, 57, 43, 45, 46, 101, 69]⟩ (bt (ofL s) (q : Int)) = some true := by rw [hbt, has_tab, hb]
      have c0 := HQ.out.c0
      have c1 := HQ.out.c1
      have f1 := HQ.out.fz 1
      have HHH := hi_ hh
      have hx := HX.out
      clear hh hbt
      obtain ⟨A, hA⟩ : ∃ A, ofL s = A := ⟨_, rfl⟩
      obtain ⟨qi, hqi⟩ : ∃ qi : Int, (q : Int) = qi := ⟨_, rfl⟩
      rw [hA] at c0 c2 q4 hx HHH
      rw [hqi] at c1 c2 p4 q4 hx HHH
      have HA := hi_ hA
      have HQI := hi_ hqi
      have HHD := hi_ (And.intro hd (And.intro hl (And.intro hlt hb)))
      clear hA hqi HX hd hl hlt hb
      go_wp2
      go_quiet ((go_at_call 109; exact Calls.quiet_of ((R5has.calls 20 _ _ _ _ HHH.out).mono (fun _ _ hd => ⟨hd.1, hd.2.out⟩))))
      go_wp2
      go_roundg (gk - 1)
      case measure => have := HP.out; have := HHD.out; omega
      case rel =>
       have hb2 := HHD.out
       have hp2 := HP.out
       have hsl := HQ.out.sl
       have hw : ((q + 1 : Nat) : Int) = wrap64 (qi + 1) := by rw [← HQI.out, w1n q s.length (by omega) (by omega)]
       have hst := fun n => (HQ.out.dN n).s1 (q + 1) ⟨s.drop (q + 1), a.o, 0⟩ rfl (by omega) (fun _ => ⟨by omega, rfl, (HQ.out.ok rfl).2.2⟩)
       refine ⟨q + 1, hi_ ?_, hi_ ⟨by omega, by omega, ?_⟩, hi_ ?_⟩
       · have := hst nq
         rw [hw] at this
         exact this
       · rw [← hp2.2.2, hb2.1, hb2.2.1]
         unfold Lib.trimLeftS
         rw [List.dropWhile_cons, hb2.2.2.2]
         rfl
       exact (Below.heap_setCell _ _ _ _ (Nat.ne_of_gt H.out.lt)).trans HW.out
     | false =>
      have hh : R5has.f 20 ⟨#[48, 49, 50, 51, 52, 53, 54, 55, 56, 57, 43, 45, 46, 101, 69]⟩ (bt (ofL s) (q : Int)) = some false := by rw [hbt, has_tab, hb]
      have HNR : Hid (a.numR = s.drop q) := hi_ (by rw [← HP.out.2.2, hd]; unfold Lib.trimLeftS; rw [List.dropWhile_cons, hb]; rfl)
      have c0 := HQ.out.c0
      have c1 := HQ.out.c1
      have f1 := HQ.out.fz 1
      have HHH := hi_ hh
      have hx := HX.out
      clear hh hbt
      obtain ⟨A, hA⟩ : ∃ A, ofL s = A := ⟨_, rfl⟩
      obtain ⟨qi, hqi⟩ : ∃ qi : Int, (q : Int) = qi := ⟨_, rfl⟩
      rw [hA] at c0 c2 q4 hx HHH
      rw [hqi] at c1 c2 p4 q4 hx HHH
      have HA := hi_ hA
      have HQI := hi_ hqi
      have HHD := hi_ hlt
      clear hA hqi HX hd hl hlt hb
      go_wp2
      go_quiet ((go_at_call 109; exact Calls.quiet_of ((R5has.calls 20 _ _ _ _ HHH.out).mono (fun _ _ hd => ⟨hd.1, hd.2.out⟩))))
      go_wp2
      go_meet
      exact ⟨q, hi_ (HQ.out.dN _), hi_ ⟨HP.out.1, Nat.le_of_lt HHD.out, HNR.out.symm⟩, HW⟩
   have c2 : decide ((q : Int) < ((ofL s).size : Int)) = false := by rw [ofL_size]; simp; omega
   have HNR : Hid (a.numR = s.drop q) := hi_ (by rw [← HP.out.2.2, List.drop_eq_nil_of_le (by omega)]; rfl)
   have hx0 := HQ.out.c0
   have hx1 := HQ.out.c1
   have HLE : Hid (q ≤ s.length) := hi_ (by have := HP.out; omega)
   obtain ⟨A, hA⟩ : ∃ A, ofL s = A := ⟨_, rfl⟩
   obtain ⟨qi, hqi⟩ : ∃ qi : Int, (q : Int) = qi := ⟨_, rfl⟩
   rw [hA] at hx0 c2
   rw [hqi] at hx1 c2
   clear hA hqi hlt
   go_wp2
   go_quiet (fail)
   go_wp2
   go_meet
   exact ⟨q, hi_ (HQ.out.dN _), hi_ ⟨HP.out.1, HLE.out, HNR.out.symm⟩, HW⟩
 case rest =>
  obtain ⟨q, HQ, HP, HW⟩ := hcut
  clear cc
  go_wp2_with fail
  have hlen : a.numL.length = q - p := by
   unfold S.numL
   rw [List.length_take, ← HP.out.2.2, ← HD.out.2.1, List.length_drop, List.length_drop]
   have := HP.out; omega
  have HNL : Hid (a.numL.length ≤ 700) := hi_ (by rw [hlen]; have := HP.out; have := HS.out; omega)
  have HX : Hid ((ofL s).extract ((p : Int)).toNat ((q : Int)).toNat = ofL a.numL) := hi_ (by
   rw [Int.toNat_natCast, Int.toNat_natCast, ofL_ext]
   unfold S.numL
   rw [← HP.out.2.2, ← HD.out.2.1, List.length_drop, List.length_drop, List.take_drop]
   congr 3
   have := HP.out; omega)
  obtain ⟨kp, hkp⟩ := (parse_ev a.numL HNL.out).rounds
  have HPP := hi_ hkp
  clear hkp hlen
  have c0 := HQ.out.c0
  have c1 := HQ.out.c1
  have w00 : (0 : Int) ≤ (p : Int) := by omega
  have w01 : (p : Int) ≤ (q : Int) := by have := HP.out; omega
  have w02 : (q : Int) ≤ ((ofL s).size : Int) := by rw [ofL_size]; have := HP.out; omega
  obtain ⟨A, hA⟩ : ∃ A, ofL s = A := ⟨_, rfl⟩
  obtain ⟨qi, hqi⟩ : ∃ qi : Int, (q : Int) = qi := ⟨_, rfl⟩
  obtain ⟨pi, hpi⟩ : ∃ pi : Int, (p : Int) = pi := ⟨_, rfl⟩
  rw [hA] at c0 w02 HX
  rw [hqi] at c1 w01 w02 HX
  rw [hpi] at w00 w01 HX
  rw [hpi]
  clear hA hqi hpi
  have hlt : w1.heap.size < wc.heap.size := (Array.getElem?_eq_some_iff.1 HW.out).1
  have HLT := hi_ hlt
  have HGL := hi_ HQ.out.lt
  clear hlt
  go_cut [4, 5] (fun s4 s5 wx => ∃ b, w1.heap.size < b ∧ g < b ∧ s4 = .pointer (some ⟨b, 0, none⟩) ∧ s5 = .int .i64 (NumP.parse a.numL).2 ∧ wx.heap[b]? = some (.cells #[.bool (NumP.parse a.numL).1.1, .string (ofL (NumP.parse a.numL).1.2.1), .int .i64 (NumP.parse a.numL).1.2.2] 32 (0, 0)) ∧ Below wc.heap.size wc wx)
  case first =>
   have hc : ∀ w3, Below wc.drew.heap.size wc.drew w3 → w3.cell? ⟨g, 0, none⟩ = some (.string A) ∧ w3.cell? ⟨g, 1, none⟩ = some (.int .i64 qi) := fun w3 hb => ⟨(hb.cell (p := ⟨g, 0, none⟩) HGL.out).trans c0, (hb.cell (p := ⟨g, 1, none⟩) HGL.out).trans c1⟩
   have HC := hi_ hc
   clear hc
   have HCS : Hid (∀ (W : World) (v0 v1 v2 : Value), (((W.setCell ⟨wc.heap.size, 0, none⟩ v0).setCell ⟨wc.heap.size, 1, none⟩ v1).setCell ⟨wc.heap.size, 2, none⟩ v2).cell? ⟨g, 0, none⟩ = W.cell? ⟨g, 0, none⟩ ∧ (((W.setCell ⟨wc.heap.size, 0, none⟩ v0).setCell ⟨wc.heap.size, 1, none⟩ v1).setCell ⟨wc.heap.size, 2, none⟩ v2).cell? ⟨g, 1, none⟩ = W.cell? ⟨g, 1, none⟩) :=
    hi_ (fun W v0 v1 v2 => ⟨World.cell?_of_block (((Below.heap_setCell _ _ _ _ (Nat.ne_of_lt HGL.out)).trans (Below.heap_setCell _ _ _ _ (Nat.ne_of_lt HGL.out))).trans (Below.heap_setCell _ _ _ _ (Nat.ne_of_lt HGL.out))), World.cell?_of_block (((Below.heap_setCell _ _ _ _ (Nat.ne_of_lt HGL.out)).trans (Below.heap_setCell _ _ _ _ (Nat.ne_of_lt HGL.out))).trans (Below.heap_setCell _ _ _ _ (Nat.ne_of_lt HGL.out)))⟩)
   have HQ4 : Hid (∀ w5, Below (wc.drew.alloc (.cells #[.bool false, .string ⟨#[]⟩, .int .i64 0] 32)).heap.size (wc.drew.alloc (.cells #[.bool false, .string ⟨#[]⟩, .int .i64 0] 32)) w5 →
       w5.cell? ⟨wc.heap.size, 0, none⟩ = some (.bool false) ∧ w5.cell? ⟨wc.heap.size, 1, none⟩ = some (.string ⟨#[]⟩) ∧ w5.cell? ⟨wc.heap.size, 2, none⟩ = some (.int .i64 0) ∧
       w5.frozen? ⟨wc.heap.size, 0, none⟩ = false ∧ w5.frozen? ⟨wc.heap.size, 1, none⟩ = false ∧ w5.frozen? ⟨wc.heap.size, 2, none⟩ = false) := hi_ (fun w5 hb => by
    have q := (hb.block wc.heap.size (by simp)).trans (blk_new wc.drew _)
    exact ⟨(blk_cell q 0).trans rfl, (blk_cell q 1).trans rfl, (blk_cell q 2).trans rfl, blk_frozen q 0, blk_frozen q 1, blk_frozen q 2⟩)
   go_region_held3 (fun w' => w'.cell? ⟨g, 0, none⟩ = some (.string A) ∧ w'.cell? ⟨g, 1, none⟩ = some (.int .i64 qi)) (first | exact ⟨c0, c1⟩ | exact HC.out _ hb5 | exact HC.out _ (hb5.alloc hb5.size _) | exact HC.out _ ((Below.refl _ _).alloc (Nat.le_refl _) _) | exact HC.out _ (((Below.refl _ _).alloc (Nat.le_refl _) _).trans (hb5.mono (Below.size ((Below.refl _ _).alloc (Nat.le_refl _) _)))) | exact ⟨(HCS.out _ _ _ _).1.trans (HC.out _ (((Below.refl _ _).alloc (Nat.le_refl _) _).trans (hb5.mono (Below.size ((Below.refl _ _).alloc (Nat.le_refl _) _))))).1, (HCS.out _ _ _ _).2.trans (HC.out _ (((Below.refl _ _).alloc (Nat.le_refl _) _).trans (hb5.mono (Below.size ((Below.refl _ _).alloc (Nat.le_refl _) _))))).2⟩ | go_keep) (first | (go_at_call 110; rw [HX.out]; refine (R4Parse.calls _ _ _ _ _ _ _ HPP.out).mono ?_; rintro E w5 ⟨rfl, hb5⟩; have qq := HQ4.out _ hb5; obtain ⟨q0, q1, q2, f0, f1, f2⟩ := qq) | (go_at_call 110; rw [HX.out]; refine (R4Parse.calls _ _ _ _ _ _ _ HPP.out).mono ?_; rintro E w5 ⟨rfl, hb5⟩))
   · go_wp2
     go_meet
     have hb := (Below.refl _ _).drew.trans hb5
     exact ⟨w5.heap.size, Nat.lt_of_lt_of_le HLT.out hb.size, Nat.lt_of_lt_of_le HGL.out hb.size, rfl, rfl, blk_new _ _, hb.alloc hb.size _⟩
   have q := (hb5.block wc.heap.size (by simp)).trans (blk_new wc.drew _)
   have hb : Below wc.heap.size wc w5 := (((Below.refl _ _).alloc (Nat.le_refl _) _).drew).trans (hb5.mono (by simp))
   have HQ5 := hi_ q
   have HB5 := hi_ hb
   clear q hb hb5 q0 q1 q2 f0 f1 f2
   go_wp2
   go_meet
   exact ⟨wc.heap.size, HLT.out, HGL.out, rfl, rfl, blk_put (blk_put (blk_put HQ5.out 0 _ rfl) 1 _ rfl) 2 _ rfl, ((HB5.out.setCell (by simp) _).setCell (by simp) _).setCell (by simp) _⟩
  case rest =>
   obtain ⟨b, hb1, hbg, rfl, rfl, hb2, hb3⟩ := hcut
   have H3 := hi_ (HQ.out.below hb3)
   have HR3 := hi_ ((hb3.block _ HLT.out).trans HW.out)
   have HB3 := hi_ hb2
   have HBG := hi_ hbg
   clear hb2 hb3 c0 c1 w00 w01 w02 hbg
   obtain ⟨e, he⟩ : ∃ e, (NumP.parse a.numL).2 = e := ⟨_, rfl⟩
   rw [he]
   have HEE := hi_ he
   clear he
   by_cases he0 : e = 0
   · have e1 : (e != 0) = false := by simp [he0]
     have HNS : Hid (a.numS = ⟨s.drop q, a.o, 0⟩) := hi_ (by unfold S.numS; rw [HEE.out, he0, HP.out.2.2]; simp [HE.out])
     clear he0
     have HR5 := HR3
     have HB5 := HB3
     have H5 : Hid (Rf s w _ g a.numS q o) := hi_ (by rw [HNS.out]; exact H3.out)
     go_wp2_with (first | (refine wpList_load_row rfl 32 (.tmp 4) rfl b rfl 32 _ (0, 0) _ HB5.out Tryz.underlying32 rfl (by kernel_rfl) ?_) | (refine row_event rfl 35 (.tmp 2) (.tmp 59) rfl w1.heap.size _ rfl rfl 35 _ HR5.out (by kernel_rfl) rfl rfl ?_; intro w6 hr6 hk6))
     have h6 := H5.out.far hk6 (Nat.ne_of_gt H.out.lt) H.out.kp.size
     exact bodyPost_ret (results_cell_row rfl _ _ w1.heap.size 35 _ (0, 0) _ rfl hr6 Tryz.underlying35 rfl (by kernel_rfl)) rfl ⟨_, a.numV, q, o, rfl, Jw.flat w6 _ a.numV rfl rfl, h6, fun _ => rfl⟩
   have e1 : (e != 0) = true := by simp [he0]
   have HNS : Hid (a.numS = S.fail ⟨s.drop q, a.o, 0⟩ e) := hi_ (by unfold S.numS S.fail; rw [HEE.out, HP.out.2.2]; simp [he0, HE.out])
   have HE0 := hi_ he0
   clear he0
   go_wp2_with fail
   refine (fail15 H3.out.now e HE0.out).mono ?_
   rintro E w4 ⟨rfl, h4⟩
   have HR5 := hi_ (h4.keep HR3.out (Nat.ne_of_gt H.out.lt))
   have HB5 := hi_ (h4.keep HB3.out (Nat.ne_of_gt HBG.out))
   have H5 : Hid (Rf s w w4 g a.numS q o) := hi_ (by rw [HNS.out]; exact H3.out.trans h4)
   clear h4
   go_wp2_with (first | (refine wpList_load_row rfl 32 (.tmp 4) rfl b rfl 32 _ (0, 0) _ HB5.out Tryz.underlying32 rfl (by kernel_rfl) ?_) | (refine row_event rfl 35 (.tmp 2) (.tmp 59) rfl w1.heap.size _ rfl rfl 35 _ HR5.out (by kernel_rfl) rfl rfl ?_; intro w6 hr6 hk6))
   have h6 := H5.out.far hk6 (Nat.ne_of_gt H.out.lt) H.out.kp.size
   exact bodyPost_ret (results_cell_row rfl _ _ w1.heap.size 35 _ (0, 0) _ rfl hr6 Tryz.underlying35 rfl (by kernel_rfl)) rfl ⟨_, a.numV, q, o, rfl, Jw.flat w6 _ a.numV rfl rfl, h6, fun _ => rfl⟩
def goF {σ : Type} (st : σ → S → σ × S) (p : UInt8) (x : σ) (b : S) : σ × S :=
 ((listLoop st ((st x b).2.s.length + 1) (st x b).1 (st x b).2).1, ((listLoop st ((st x b).2.s.length + 1) (st x b).1 (st x b).2).2.need [p]).left)
theorem listG_F {σ : Type} (st : σ → S → σ × S) (p : UInt8) (x : σ) (a : S) : listG st [p] x a = if a.took [p] = true then (x, (a.take [p]).left) else goF st p x (a.take [p]) := rfl
theorem took_pk (a : S) (c : UInt8) (hc : c ≠ 0) : a.took [c] = (decide (pk a.skip.s = (c.toNat : Int)) && (a.e == 0)) := by
 unfold S.took Lib.hasPrefix
 congr 1
 cases hs : a.skip.s with
 | nil =>
  rw [show [c].isPrefixOf ([] : List UInt8) = false from rfl]
  refine Eq.symm ?_
  rw [decide_eq_false_iff_not]
  intro h
  have : c.toNat = 0 := by have h2 : (0 : Int) = (c.toNat : Int) := h; omega
  exact hc (by rw [← UInt8.toNat_inj]; exact this)
 | cons d l =>
  have : pk (d :: l) = (d.toNat : Int) := rfl
  rw [this]
  by_cases h : d = c
  · subst h; simp [List.isPrefixOf]
  have h2 : ¬ ((d.toNat : Int) = (c.toNat : Int)) := fun e => h ((byte_eq d c).1 e)
  have h3 : ([c].isPrefixOf (d :: l)) = false := by simp [List.isPrefixOf]; exact fun e => h e.symm
  rw [h3]; exact (decide_eq_false_iff_not.2 h2).symm
theorem take_pk (a : S) (c : UInt8) (hc : c ≠ 0) (he : a.e = 0) (h : pk a.skip.s = (c.toNat : Int)) : a.took [c] = true ∧ a.take [c] = ⟨a.skip.s.tail, a.o, 0⟩ := by
 have ht : a.took [c] = true := by rw [took_pk a c hc, he]; simpa using h
 refine ⟨ht, ?_⟩
 rw [take_yes ht, he]
 have hp : Lib.hasPrefix a.skip.s [c] = true := by unfold S.took at ht; simp only [Bool.and_eq_true] at ht; exact ht.1
 unfold Lib.trimPrefix
 rw [hp]
 simp
theorem loop_fuel {σ : Type} {st : σ → S → σ × S} (hst : ∀ x b, (st x b).2.s.length ≤ b.s.length) : ∀ (n m : Nat) (x : σ) (a : S), a.s.length < n → a.s.length < m → listLoop st n x a = listLoop st m x a
 | 0, _, _, _, h, _ => absurd h (by omega)
 | _, 0, _, _, _, h => absurd h (by omega)
 | n + 1, m + 1, x, a, h, k => by
  rw [listLoop, listLoop]
  by_cases ht : a.took [44] = true
  · rw [if_pos ht, if_pos ht]
    have h1 := took_lt a 44 ht
    have h2 := hst x (a.take [44])
    exact loop_fuel hst n m _ _ (by omega) (by omega)
  rw [if_neg ht, if_neg ht]
theorem goF_bad {σ : Type} {st : σ → S → σ × S} (p : UInt8) (x : σ) (b : S) (h : (st x b).2.e ≠ 0) : (goF st p x b).2.e = (st x b).2.e := by
 have h3 := loop_bad st h ((st x b).2.s.length + 1) (st x b).1
 have h4 := need_e (by rw [h3]; exact h) [p]
 show ((listLoop st _ _ _).2.need [p]).e = _
 rw [h4, h3]
theorem goF_more {σ : Type} {st : σ → S → σ × S} (hst : ∀ x b, (st x b).2.s.length ≤ b.s.length) (p : UInt8) (x : σ) (b : S) (h : (st x b).2.e = 0) (hk : pk (st x b).2.skip.s = 44) :
    goF st p x b = goF st p (st x b).1 ⟨(st x b).2.skip.s.tail, (st x b).2.o, 0⟩ := by
 obtain ⟨h1, h2⟩ := take_pk (st x b).2 44 (by decide) h hk
 have h3 := took_lt (st x b).2 44 h1
 unfold goF
 rw [listLoop, if_pos h1]
 rw [h2] at h3 ⊢
 have h4 := hst (st x b).1 ⟨(st x b).2.skip.s.tail, (st x b).2.o, 0⟩
 rw [loop_fuel hst (st x b).2.s.length ((st (st x b).1 ⟨(st x b).2.skip.s.tail, (st x b).2.o, 0⟩).2.s.length + 1) _ _ (by omega) (by omega)]
theorem loop_stop {σ : Type} {st : σ → S → σ × S} (n : Nat) (x : σ) (a : S) (hk : pk a.skip.s ≠ 44) : listLoop st (n + 1) x a = (x, a.skip) := by
 have ht : a.took [44] = false := by rw [took_pk a 44 (by decide)]; simp [show ¬ (pk a.skip.s = (44 : Int)) from hk]
 rw [listLoop, ht, if_neg (by decide), take_no ht]
theorem goF_end {σ : Type} {st : σ → S → σ × S} (p : UInt8) (hp : p ≠ 0) (x : σ) (b : S) (h : (st x b).2.e = 0) (hk : pk (st x b).2.skip.s ≠ 44) (hq : pk (st x b).2.skip.s = (p.toNat : Int)) :
    goF st p x b = ((st x b).1, ⟨(st x b).2.skip.s.tail, (st x b).2.o - 1, 0⟩) := by
 unfold goF
 rw [loop_stop _ _ _ hk]
 have hs := skip2 (st x b).2
 obtain ⟨h1, h2⟩ := take_pk (st x b).2.skip p hp h (by rw [hs]; exact hq)
 unfold S.need
 rw [if_pos h1, h2, hs]
 rfl
theorem goF_form {σ : Type} {st : σ → S → σ × S} (p : UInt8) (hp : p ≠ 0) (x : σ) (b : S) (h : (st x b).2.e = 0) (hk : pk (st x b).2.skip.s ≠ 44) (hq : pk (st x b).2.skip.s ≠ (p.toNat : Int)) :
    (goF st p x b).2.e = 11 := by
 unfold goF
 rw [loop_stop _ _ _ hk]
 have hs := skip2 (st x b).2
 have ht : (st x b).2.skip.took [p] = false := by rw [took_pk _ p hp, hs]; simp [hq]
 show ((st x b).2.skip.need [p]).e = 11
 unfold S.need
 rw [ht, if_neg (by decide)]
 exact fail_e0 (by rw [take_e]; exact h) 11
theorem Rf.bad {s : List UInt8} {w w1 : World} {g : Nat} {a b : S} {p : Nat} {o : Int} (h : Rf s w w1 g a p o) (he : a.e ≠ 0) (hb : b.e = a.e) : Rf s w w1 g b p o := ⟨by rw [hb]; exact h.cell, h.kp, h.gl, h.sl, h.pl, fun e => absurd (hb.symm.trans e) he⟩
def OKn (n : Nat) (b : S) : Prop := b.e = 0 → 0 ≤ b.o ∧ b.o ≤ 16 ∧ b.o + n = 17
structure Lw (w : World) (base b : Nat) (kind : Int) (x : List S28 × List ByteArray) : Prop where
  vc : ∃ v6 v7, w.heap[b]? = some (.cells #[.int .i64 kind, .bool false, .bool false, .string ⟨#[]⟩, .int .i64 0, .string ⟨#[]⟩, v6, v7] 35 (0, 0)) ∧ k35.R 35 w base (fun k => some k ≠ v7.ownBlock) v6 x.1 ∧ Kd.string.R 9 w base (fun _ => True) v7 x.2
  lt : b < base ∧ base ≤ w.heap.size
theorem Lw.kept {w w' : World} {base b g : Nat} {kind : Int} {x : List S28 × List ByteArray} (h : Lw w base b kind x) (k : w.grownBy w' (some g)) (hg : g < b) : Lw w' base b kind x := by
 obtain ⟨v6, v7, hv, hr, hn⟩ := h.vc
 have hlt := h.lt
 exact ⟨⟨v6, v7, (k.block b (Array.getElem?_eq_some_iff.1 hv).1 (fun e => by injection e with e; omega)).trans hv,
  Kd.R_mono (Kd.R_grown (Kd.R_bound hr) k (fun i hi e => by have := hi.2.1; injection e with e; omega)) (fun _ hk => hk.1),
  Kd.R_mono (Kd.R_grown (Kd.R_bound hn) k (fun i hi e => by have := hi.2.1; injection e with e; omega)) (fun _ _ => trivial)⟩, hlt.1, Nat.le_trans hlt.2 k.size⟩
def vA (k : Int) : Array Value := #[.int .i64 k, .bool false, .bool false, .string ⟨#[]⟩, .int .i64 0, .string ⟨#[]⟩, .slice none 0 0, .slice none 0 0]
theorem enter_deep {a : S} (he : a.e = 0) (h : a.o = 16) : a.enter.e = 35 := by
 have h1 : a.enter0 = a.fail 35 := by unfold S.enter0; rw [if_pos h]
 have h2 : (a.fail 35).e = 35 := fail_e0 he 35
 unfold S.enter S.enter1
 rw [h1, if_neg (by rw [h2]; decide)]
 exact h2
theorem enter_ok {a : S} (he : a.e = 0) (h : a.o ≠ 16) : a.enter = ⟨a.s.tail, a.o + 1, 0⟩ := by
 have h1 : a.enter0 = a := by unfold S.enter0; rw [if_neg h]
 unfold S.enter S.enter1
 rw [h1, if_pos he, he]
theorem Rf.grow {s : List UInt8} {w w1 w2 : World} {g : Nat} {row : Option Nat} {a : S} {p : Nat} {o : Int} (h : Rf s w w1 g a p o) (k : w1.grownBy w2 row) (hr : ∀ i, row = some i → i ≠ g ∧ w.heap.size ≤ i) : Rf s w w2 g a p o :=
 ⟨(k.block g h.lt (fun e => (hr g e.symm).1 rfl)).trans h.cell, ⟨k.os.trans h.kp.os, k.tape.trans h.kp.tape, k.output.trans h.kp.output, Nat.le_trans h.kp.size k.size,
  fun i hi hne => (k.block i (Nat.lt_of_lt_of_le hi h.kp.size) (fun e => by have := (hr i e.symm).2; omega)).trans (h.kp.block i hi hne)⟩, h.gl, h.sl, h.pl, h.ok⟩
set_option maxRecDepth 100000 in
set_option maxHeartbeats 8000000 in
theorem arr15 (fv : S → S28 × S) (n : Nat) (HV : WC 37 #[] (OKn n) fv) (hbad : ∀ b, b.e ≠ 0 → (fv b).2.e = b.e) (hlen : ∀ b, (fv b).2.s.length ≤ b.s.length) (hskip : ∀ b, fv b.skip = fv b) (hopen : ∀ b, (fv b).2.o = b.o) :
    WC 75 #[.int .i64 4, .int .u8 93] (fun b => b.e = 0 ∧ pk b.s = 91 ∧ OKn (n + 1) b) (S.arr fv) := by
 intro s w w1 g a p o h hs ha
 show Calls Tryz.prog 75 #[.pointer (some ⟨g, 0, none⟩), .int .i64 4, .int .u8 93] w1 _
 have H := hi_ h
 have HS := hi_ hs
 have HE := hi_ ha.1
 have HK := hi_ ha.2.1
 have HO := hi_ (ha.2.2 ha.1)
 have HVV := hi_ HV
 have HBD := hi_ (And.intro hbad (And.intro hlen (And.intro hskip hopen)))
 have HD := hi_ (h.ok ha.1)
 have hoo : o = a.o := (h.ok ha.1).2.2
 subst hoo
 have HB0 : Hid (Below w1.heap.size w1 ((w1.alloc (.cells zA 35)).alloc (.cells zA 35))) := hi_ ((Below.alloc (Below.refl _ _) (Nat.le_refl _) _).trans ((Below.alloc (Below.refl _ _) (Nat.le_refl _) _).mono (by simp)))
 have HST : Hid (S.arr fv a = (⟨4, false, z24, ⟨#[]⟩, (listG (arrT fv) [93] [] a.enter).1, []⟩, (listG (arrT fv) [93] [] a.enter).2)) := hi_ rfl
 have HAB : Hid (∀ x b, b.e ≠ 0 → (arrT fv x b).2.e = b.e) := hi_ (fun x b h => hbad b h)
 clear h hs ha HV hbad hlen hskip hopen
 have HBB : Hid (∀ o1 o2, Below w1.heap.size w1 ((w1.alloc o1).alloc o2)) := hi_ (fun o1 o2 => (Below.alloc (Below.refl _ _) (Nat.le_refl _) o1).trans ((Below.alloc (Below.refl _ _) (Nat.le_refl _) o2).mono (by simp)))
 have cc : ∀ o1 o2, ((w1.alloc o1).alloc o2).cell? ⟨g, 2, none⟩ = some (.int .i64 a.o) := fun o1 o2 => (H.out.below (HBB.out o1 o2)).c2
 have HWb : Hid (Below w1.heap.size w1 ((w1.alloc (.cells zA 35)).alloc (.cells (vA 4) 35))) := hi_ (HBB.out _ _)
 have HN0 : Hid (((w1.alloc (.cells zA 35)).alloc (.cells (vA 4) 35)).heap[w1.heap.size]? = some (.cells zA 35 (0, 0))) := hi_ (blk_alloc (blk_new w1 _) _)
 have HN1 : Hid (((w1.alloc (.cells zA 35)).alloc (.cells (vA 4) 35)).heap[w1.heap.size + 1]? = some (.cells (vA 4) 35 (0, 0))) := hi_ (by have := blk_new (w1.alloc (.cells zA 35)) (.cells (vA 4) 35); simpa using this)
 have HSZ : Hid (((w1.alloc (.cells zA 35)).alloc (.cells (vA 4) 35)).heap.size = w1.heap.size + 2) := hi_ (by simp)
 by_cases ho : a.o = 16
 · have e1 : (a.o == 16) = true := by simpa using ho
   have HEN := hi_ (listG_e HAB.out [93] [] (a := a.enter) (by rw [enter_deep HE.out ho]; decide))
   have HE35 := hi_ (enter_deep HE.out ho)
   clear ho
   go_enter Tryz.func75, Tryz.ntmps75
   go_wp2_with fail
   refine (fail15 (H.out.below HWb.out).now 35 (by decide)).mono ?_
   rintro E w4 ⟨rfl, h4⟩
   have HR4 := hi_ (h4.keep HN0.out (Nat.ne_of_gt H.out.lt))
   have HV4 := hi_ (h4.keep HN1.out (by have := H.out.lt; omega))
   have H4 := hi_ ((H.out.below HWb.out).trans h4)
   clear h4 cc
   go_wp2_with (first | (refine wpList_load_row rfl 35 (.tmp 7) rfl (w1.heap.size + 1) rfl 35 _ (0, 0) _ HV4.out Tryz.underlying35 rfl (by kernel_rfl) ?_) | (refine row_event rfl 35 (.tmp 6) (.tmp 18) rfl w1.heap.size _ rfl rfl 35 _ HR4.out (by kernel_rfl) rfl rfl ?_; intro w5 hr5 hk5))
   have h5 := H4.out.far hk5 (Nat.ne_of_gt H.out.lt) H.out.kp.size
   have he35 : (S.arr fv a).2.e = 35 := by rw [HST.out]; exact HEN.out.trans HE35.out
   have hf35 : (a.fail 35).e = 35 := fail_e0 HE.out 35
   exact bodyPost_ret (results_cell_row rfl _ _ w1.heap.size 35 _ (0, 0) _ rfl hr5 Tryz.underlying35 rfl (by kernel_rfl)) rfl ⟨_, S28.mk 4 false z24 ⟨#[]⟩ [] [], p, a.o, rfl, Jw.flat w5 _ (S28.mk 4 false z24 ⟨#[]⟩ [] []) rfl rfl, h5.bad (by rw [hf35]; decide) (by rw [he35, hf35]), fun e => absurd (he35.symm.trans e) (by decide)⟩
 · have e1 : (a.o == 16) = false := by simpa using ho
   have HEN := hi_ (enter_ok HE.out ho)
   have HNO : Hid (a.o + 1 ≤ 16) := hi_ (by have := HO.out; omega)
   clear ho
   have cp : ∀ o1 o2, ((w1.alloc o1).alloc o2).cell? ⟨g, 1, none⟩ = some (.int .i64 p) := fun o1 o2 => (H.out.below (HBB.out o1 o2)).c1
   have fp : ∀ o1 o2 j, ((w1.alloc o1).alloc o2).frozen? ⟨g, j, none⟩ = false := fun o1 o2 j => (H.out.below (HBB.out o1 o2)).fz j
   have hp1 : p + 1 ≤ s.length ∧ s.drop (p + 1) = a.s.tail := by
    obtain ⟨b, l, hd, hb, hl, hle⟩ := drop_pk (s := s) (p := p) (c := 91) (by rw [HD.out.2.1]; exact HK.out) (by decide)
    exact ⟨hle, by rw [hl, ← HD.out.2.1, hd]; rfl⟩
   have hsl := HS.out
   have hob := HO.out
   have hS1 := (H.out.below HWb.out).s1 (p + 1) ⟨a.s.tail, a.o, a.e⟩ rfl (by omega) (fun _ => ⟨hp1.1, hp1.2, rfl⟩)
   have hS2 := hS1.s2 (wrap64 (a.o + 1)) a.enter (by rw [HEN.out]; exact HE.out.symm) (fun _ => ⟨hp1.1, by rw [HEN.out]; exact hp1.2, by rw [HEN.out, w64 (by omega) (by omega)]⟩)
   have hwp : ((p + 1 : Nat) : Int) = wrap64 ((p : Int) + 1) := (w1n p s.length (by omega) (by omega)).symm
   rw [hwp] at hS2
   have HS2 := hi_ hS2
   have HN02 : Hid _ := hi_ ((Below.heap_setCell ((((w1.alloc (.cells zA 35)).alloc (.cells (vA 4) 35))).setCell ⟨g, 1, none⟩ (.int .i64 (wrap64 ((p : Int) + 1)))) ⟨g, 2, none⟩ (.int .i64 (wrap64 (a.o + 1))) w1.heap.size (Nat.ne_of_gt H.out.lt)).trans ((Below.heap_setCell (((w1.alloc (.cells zA 35)).alloc (.cells (vA 4) 35))) ⟨g, 1, none⟩ (.int .i64 (wrap64 ((p : Int) + 1))) w1.heap.size (Nat.ne_of_gt H.out.lt)).trans HN0.out))
   have HN12 : Hid _ := hi_ ((Below.heap_setCell ((((w1.alloc (.cells zA 35)).alloc (.cells (vA 4) 35))).setCell ⟨g, 1, none⟩ (.int .i64 (wrap64 ((p : Int) + 1)))) ⟨g, 2, none⟩ (.int .i64 (wrap64 (a.o + 1))) (w1.heap.size + 1) (by have := H.out.lt; show w1.heap.size + 1 ≠ g; omega)).trans ((Below.heap_setCell (((w1.alloc (.cells zA 35)).alloc (.cells (vA 4) 35))) ⟨g, 1, none⟩ (.int .i64 (wrap64 ((p : Int) + 1))) (w1.heap.size + 1) (by have := H.out.lt; show w1.heap.size + 1 ≠ g; omega)).trans HN1.out))
   have HP1 := hi_ hp1
   clear hS1 hS2 hwp hp1 hsl hob
   go_enter Tryz.func75, Tryz.ntmps75
   go_wp2_with fail
   refine (blanks15 HS2.out.now).mono ?_
   rintro E w4 ⟨rfl, q, h4⟩
   have HR4 := hi_ (h4.keep HN02.out (Nat.ne_of_gt H.out.lt))
   have HV4 := hi_ (h4.keep HN12.out (by have := H.out.lt; omega))
   have H4 := hi_ (HS2.out.trans h4)
   have HL4 : Hid (w1.heap.size + 2 ≤ w4.heap.size) := hi_ (by have := h4.kp.size; have := HSZ.out; simp at *; omega)
   clear h4 cc cp fp
   go_wp2_with fail
   refine (peek15 H4.out.now).mono ?_
   rintro E w5 ⟨rfl, h5⟩
   have HR5 := hi_ (h5.keep HR4.out (Nat.ne_of_gt H.out.lt))
   have HV5 := hi_ (h5.keep HV4.out (by have := H.out.lt; omega))
   have H5 := hi_ (H4.out.trans h5)
   have HL5 : Hid (w1.heap.size + 2 ≤ w5.heap.size) := hi_ (Nat.le_trans HL4.out h5.kp.size)
   clear h5
   obtain ⟨c, hc⟩ : ∃ c, pk (s.drop q) = c := ⟨_, rfl⟩
   rw [hc]
   have hee : a.enter.e = 0 := by rw [HEN.out]
   have HEE := hi_ hee
   have HD5 := hi_ (H5.out.ok hee)
   have HC : Hid (pk a.enter.skip.s = c) := hi_ (by rw [← HD5.out.2.1]; exact hc)
   clear hc hee
   by_cases k93 : c = 93
   · subst k93
     have HT := hi_ (take_pk a.enter 93 (by decide) HEE.out HC.out)
     have HS7 : Hid (∀ v1 v2, ((w5.setCell ⟨g, 1, none⟩ v1).setCell ⟨g, 2, none⟩ v2).heap[w1.heap.size]? = some (.cells zA 35 (0, 0)) ∧ ((w5.setCell ⟨g, 1, none⟩ v1).setCell ⟨g, 2, none⟩ v2).heap[w1.heap.size + 1]? = some (.cells (vA 4) 35 (0, 0))) := hi_ (fun v1 v2 =>
      ⟨(Below.heap_setCell _ ⟨g, 2, none⟩ v2 w1.heap.size (Nat.ne_of_gt H.out.lt)).trans ((Below.heap_setCell _ ⟨g, 1, none⟩ v1 w1.heap.size (Nat.ne_of_gt H.out.lt)).trans HR5.out),
       (Below.heap_setCell _ ⟨g, 2, none⟩ v2 (w1.heap.size + 1) (by have := H.out.lt; show w1.heap.size + 1 ≠ g; omega)).trans ((Below.heap_setCell _ ⟨g, 1, none⟩ v1 (w1.heap.size + 1) (by have := H.out.lt; show w1.heap.size + 1 ≠ g; omega)).trans HV5.out)⟩)
     have hq1 : q + 1 ≤ s.length ∧ s.drop (q + 1) = a.enter.skip.s.tail := by
      obtain ⟨b, l, hd, hb, hl, hle⟩ := drop_pk (s := s) (p := q) (c := 93) (by rw [HD5.out.2.1]; exact HC.out) (by decide)
      exact ⟨hle, by rw [hl, ← HD5.out.2.1, hd]; rfl⟩
     have hsl := HS.out
     have hob := HO.out
     have heo : wrap64 (a.o + 1) = a.o + 1 := w64 (by omega) (by omega)
     have hr7 : (S.arr fv a).2 = ⟨a.enter.skip.s.tail, a.o + 1 - 1, 0⟩ := by
      rw [HST.out, listG_F, if_pos HT.out.1, HT.out.2]
      show S.left ⟨_, a.enter.o, 0⟩ = _
      rw [HEN.out]
      rfl
     have hr8 : (S.arr fv a).1 = S28.mk 4 false z24 ⟨#[]⟩ [] [] := by rw [HST.out, listG_F, if_pos HT.out.1]
     have h6 := (H5.out.s1 (q + 1) ⟨a.enter.skip.s.tail, a.o + 1, a.enter.skip.e⟩ rfl (by omega) (fun _ => ⟨hq1.1, hq1.2, heo⟩)).s2 (wrap64 (wrap64 (a.o + 1) - 1)) (S.arr fv a).2 (by rw [hr7]; exact HEE.out.symm) (fun _ => ⟨hq1.1, by rw [hr7]; exact hq1.2, by rw [hr7, heo, w64 (by omega) (by omega)]⟩)
     have hwp : ((q + 1 : Nat) : Int) = wrap64 ((q : Int) + 1) := (w1n q s.length (by omega) (by omega)).symm
     rw [hwp] at h6
     have H6 := hi_ h6
     have H8 := hi_ hr8
     clear hq1 hsl hob heo hr7 h6 hwp hr8
     have cp := H5.out.c1
     have co := H5.out.c2
     have fp := H5.out.fz
     go_wp2_with (first | (refine wpList_load_row rfl 35 (.tmp 7) rfl (w1.heap.size + 1) rfl 35 _ (0, 0) _ (HS7.out _ _).2 Tryz.underlying35 rfl (by kernel_rfl) ?_) | (refine row_event rfl 35 (.tmp 6) (.tmp 53) rfl w1.heap.size _ rfl rfl 35 _ (HS7.out _ _).1 (by kernel_rfl) rfl rfl ?_; intro w7 hr7 hk7))
     have h7 := H6.out.far hk7 (Nat.ne_of_gt H.out.lt) H.out.kp.size
     exact bodyPost_ret (results_cell_row rfl _ _ w1.heap.size 35 _ (0, 0) _ rfl hr7 Tryz.underlying35 rfl (by kernel_rfl)) rfl ⟨_, S28.mk 4 false z24 ⟨#[]⟩ [] [], q + 1, _, rfl, Jw.flat w7 _ (S28.mk 4 false z24 ⟨#[]⟩ [] []) rfl rfl, h7, fun _ => H8.out.symm⟩
   have e93 : (c == 93) = false := by simpa using k93
   have HG : Hid (listG (arrT fv) [93] [] a.enter = goF (arrT fv) 93 [] a.enter.skip) := hi_ (by
    have ht : a.enter.took [93] = false := by rw [took_pk _ 93 (by decide), HC.out]; rw [show decide (c = ((93 : UInt8).toNat : Int)) = false from decide_eq_false k93]; rfl
    rw [listG_F, ht, if_neg (by decide), take_no ht])
   clear HC
   go_wp2_with fail
   go_loopg [] (s.length + 1) (fun kq wx => ∃ (x : List S28) (b : S) (qq : Nat), Hid (Rf s w wx g b qq (a.o + 1)) ∧ Hid (b.e = 0 ∧ b.o = a.o + 1 ∧ b.s.length < kq + 0 ∧ x.length + b.s.length ≤ s.length + 1 ∧ goF (arrT fv) 93 x b = goF (arrT fv) 93 [] a.enter.skip) ∧ Hid (Lw wx (w1.heap.size + 2) (w1.heap.size + 1) 4 (x, [])) ∧ Hid (wx.heap[w1.heap.size]? = some (.cells zA 35 (0, 0))))
   case atStart =>
    have hob := HO.out
    have heo : wrap64 (a.o + 1) = a.o + 1 := w64 (by omega) (by omega)
    have h5 := H5.out
    rw [heo] at h5
    have hl : a.enter.skip.s.length ≤ s.length := by rw [← HD5.out.2.1, List.length_drop]; omega
    exact ⟨[], a.enter.skip, q, hi_ h5, hi_ ⟨HEE.out, by show a.enter.o = _; rw [HEN.out], by omega, by simp; omega, rfl⟩,
     hi_ ⟨⟨_, _, HV5.out, Kd.R_nil _ _ _ _ _, Kd.R_nil _ _ _ _ _⟩, by omega, HL5.out⟩, HR5⟩
   case round =>
    obtain ⟨x, b, qq, HQ, HP, HW, HZ⟩ := hrel
    obtain ⟨v6, v7, hb7, h67⟩ := HW.out.vc
    have ce := HQ.out.c3
    rw [HP.out.1] at ce
    have H7 := hi_ h67
    have HB7 := hi_ hb7
    obtain ⟨A, cap, rfl⟩ := Kd.R_slice h67.1
    clear h67 hb7
    go_wp2_with fail
    refine (blanks15 HQ.out.now).mono ?_
    rintro E w7 ⟨rfl, q7, h7⟩
    have HR7 := hi_ (h7.keep HZ.out (Nat.ne_of_gt H.out.lt))
    have HV7 := hi_ (h7.keep HB7.out (by have := H.out.lt; omega))
    have HQ7 := hi_ (HQ.out.trans h7)
    have HK7 := hi_ h7.kp
    clear h7 ce
    go_wp2_with fail
    have c6 : w7.drew.cell? ⟨w1.heap.size + 1, 6, none⟩ = some (.slice A x.length cap) := (blk_cell HV7.out 6).trans rfl
    refine start_ (n := 8) (S := fun w' => w'.cell? ⟨w1.heap.size + 1, 6, none⟩ = some (.slice A x.length cap)) (ds := [7]) #[false, false, false, false, false, false, false, false] (by kernel_rfl) rfl rfl c6 (fun hHeld => ?_)
    refine pure_ (i := 0) (N := some 63) (v := ?_) (a' := ?_) #[true, false, false, false, false, false, false, false] rfl rfl (by kernel_rfl) (fun _ _ _ h => h) (Or.inl ⟨by rfl, ?_⟩) ?_ ?_
    rotate_left
    · intro w'
      go_simp
      with_reducible rfl
    rotate_left
    · simp only [Act.put, List.setIfInBounds_toArray, List.set_cons_zero, List.set_cons_succ]
      rfl
    refine take_ (i := 1) (N := some 64) (v := ?_) (a' := ?_) #[true, true, false, false, false, false, false, false] rfl rfl (by kernel_rfl) (fun _ _ _ h => h) (Or.inl ⟨by rfl, ?_⟩) hHeld ?_ ?_
    rotate_left
    · intro w' s0
      go_simp
      with_reducible rfl
    rotate_left
    · simp only [Act.put, List.setIfInBounds_toArray, List.set_cons_zero, List.set_cons_succ]
      rfl
    refine pure_ (i := 2) (N := some 65) (v := ?_) (a' := ?_) #[true, true, true, false, false, false, false, false] rfl rfl (by kernel_rfl) (fun _ _ _ h => h) (Or.inl ⟨by rfl, ?_⟩) ?_ ?_
    rotate_left
    · intro w'
      go_simp
      with_reducible rfl
    rotate_left
    · simp only [Act.put, List.setIfInBounds_toArray, List.set_cons_zero, List.set_cons_succ]
      rfl
    refine one_ (i := 3) (N := some 66) #[true, true, true, true, false, false, false, false] rfl rfl (by kernel_rfl) (by decide) (fun K hK => ?_)
    refine goes_ Tryz.func37 (by kernel_rfl) rfl #[.pointer (some ⟨g, 0, none⟩)] (by rfl) rfl rfl (by (try simp only [List.map_toArray, List.map_cons, List.map_nil]); rfl) ?_
    have hbs : b.skip.e = 0 ∧ b.skip.o = a.o + 1 := ⟨HP.out.1, HP.out.2.1⟩
    have hokb : OKn n b.skip := fun _ => by have := HO.out; have := hbs.2; have := HNO.out; refine ⟨by omega, by omega, ?_⟩; push_cast at *; omega
    refine (HVV.out s _ _ g b.skip q7 _ (HQ7.out.d).now HS.out hokb).mono ?_
    rintro E w8 ⟨v8, y8, q8, u8, rfl, hj8, h8, h8e⟩
    refine ⟨_, rfl, ?_⟩
    obtain ⟨cs, rfl, hs8, ho8, hi8, hM8⟩ := hj8.of
    obtain ⟨va, vb, hcs, -, -⟩ := k35_openM hM8
    subst hcs
    have hvb8 := h8.keep (blk_drew HV7.out) (show w1.heap.size + 1 ≠ g by have := H.out.lt; omega)
    refine hK.out _ _ ((blk_cell hvb8 6).trans rfl) (fun hHeld => ?_)
    clear hK K
    refine norm_ (a' := ?_) ?_ ?_
    rotate_left
    · show Act.put _ (some 66) _ = _
      simp only [Act.put, List.setIfInBounds_toArray, List.set_cons_zero, List.set_cons_succ]
      rfl
    have HM8 := hi_ hM8
    have HB8 := hi_ hvb8
    clear hs8 ho8 hi8 hM8 hvb8
    refine one_ (i := 4) (N := some 67) #[true, true, true, true, true, false, false, false] rfl rfl (by kernel_rfl) (by decide) (fun K hK => ?_)
    refine value_ (v := .slice (some ⟨w8.heap.size, 0, none⟩) 1 1) (w1 := w8.alloc (.cells [.int .i64 y8.f0, .bool y8.f1, .bool y8.f2.f0, .string y8.f2.f1, .int .i64 y8.f2.f2, .string y8.f3, va, vb].toArray 35)) (by rfl) rfl ?_ ?_
    · clear hHeld
      go_simp
    refine hK.out _ _ ((blk_cell (blk_alloc HB8.out _) 6).trans rfl) (fun hHeld => ?_)
    clear hK K
    refine norm_ (a' := ?_) ?_ ?_
    rotate_left
    · show Act.put _ (some 67) _ = _
      simp only [Act.put, List.setIfInBounds_toArray, List.set_cons_zero, List.set_cons_succ]
      rfl
    have hb6 := Kd.R_bound H7.out.1
    have hb7' := Kd.R_bound H7.out.2
    have hk8 := grown_trans (grown_trans HK7.out (grown_below ((Below.refl _ _).drew) (some g))) h8.kp
    have hgb : g < w1.heap.size := H.out.lt
    have hz7 := HK7.out.size
    have hz8 : w7.heap.size ≤ w8.heap.size := h8.kp.size
    have hl7 := HW.out.lt.2
    have hpl := HP.out.2.2.2.1
    have hsl := HS.out
    have hR8 : k35.R 35 w8 (w1.heap.size + 2) (fun k => some k ≠ v7.ownBlock) (.slice A x.length cap) x := Kd.R_mono (Kd.R_grown hb6 hk8 (fun k hk e => by injection e with e; have := hk.2.1; omega)) (fun k hk => hk.1)
    have hM8 : k35.M w8 (w1.heap.size + 2) (fun k => w7.heap.size ≤ k) y8 [.int .i64 y8.f0, .bool y8.f1, .bool y8.f2.f0, .string y8.f2.f1, .int .i64 y8.f2.f2, .string y8.f3, va, vb] := k35.M_lower (by have h := hz7; show w1.heap.size + 2 ≤ w7.heap.size; omega) (k35.M_mono (fun k hk => hk.2.1) (k35.M_bound HM8.out))
    refine one_ (i := 5) (N := some 68) #[true, true, true, true, true, true, false, false] rfl rfl (by kernel_rfl) (by decide) (fun K hK => ?_)
    refine Kd.R_append_step k35 (w0 := w8) (w1.heap.size + 2) (by rfl) (.tmp 64) (.tmp 67) 33 35 (.agg zA) 112 rfl Tryz.underlying33 info35 rfl (by decide) (by decide) (.slice A x.length cap) x y8 [.int .i64 y8.f0, .bool y8.f1, .bool y8.f2.f0, .string y8.f2.f1, .int .i64 y8.f2.f2, .string y8.f3, va, vb] (fun k => some k ≠ v7.ownBlock) (fun k => w7.heap.size ≤ k) rfl rfl hM8 (fun k hk => ⟨fun e => by have := (hb7'.1 k e.symm).2.2.1; omega, fun e => by have := (hb6.1 k e.symm).2.2.1; omega⟩) (fun k hk e => by have := (hb7'.1 k e.symm).2.2.1; omega) hR8 (Below.refl _ _) (by omega) (by omega) ?_
    intro v1 wa hR1 hBa hga hat
    obtain ⟨A1, cap1, rfl⟩ := Kd.R_slice hR1
    have hvo : ∀ k, (Value.slice A x.length cap).ownBlock = some k → w1.heap.size + 2 ≤ k ∧ k < w8.heap.size := fun k e => ⟨(hb6.1 k e).2.1, by have := (hb6.1 k e).2.2.1; omega⟩
    have hva := (hga.block (w1.heap.size + 1) (Array.getElem?_eq_some_iff.1 HB8.out).1 (fun e => by have := (hvo _ e.symm).1; omega)).trans HB8.out
    refine hK.out _ _ ((blk_cell hva 6).trans rfl) (fun hHeld => ?_)
    clear hK K
    refine norm_ (a' := ?_) ?_ ?_
    rotate_left
    · show Act.put _ (some 68) _ = _
      simp only [Act.put, List.setIfInBounds_toArray, List.set_cons_zero, List.set_cons_succ]
      rfl
    refine pure_ (i := 6) (N := some 69) (v := ?_) (a' := ?_) #[true, true, true, true, true, true, true, false] rfl rfl (by kernel_rfl) (fun _ _ _ h => h) (Or.inl ⟨by rfl, ?_⟩) ?_ ?_
    rotate_left
    · intro w'
      go_simp
      with_reducible rfl
    rotate_left
    · simp only [Act.put, List.setIfInBounds_toArray, List.set_cons_zero, List.set_cons_succ]
      rfl
    have hca := (blk_cell hva 6).trans rfl
    have hfa := blk_frozen hva 6
    refine last_ (i := 7) (N := none) #[true, true, true, true, true, true, true, true] rfl rfl (by kernel_rfl) (by decide) (fun K hK => ?_)
    refine skip_ (w1 := wa.setCell ⟨w1.heap.size + 1, 6, none⟩ (.slice A1 (x ++ [y8]).length cap1)) (by rfl) rfl ?_ ?_
    · clear hHeld
      go_simp
    refine hK.out _ _ ?_
    refine done_ (by kernel_rfl) ?_
    clear hK K
    have hwl := H.out.kp.size
    have h9 := (((HQ7.out.d).trans h8).grow hga (fun i e => ⟨by have := hvo i e; omega, by have := hvo i e; omega⟩)).far (grown_set wa (w1.heap.size + 1) 6 (.slice A1 (x ++ [y8]).length cap1)) (by omega) (by omega)
    have h7r : Kd.string.R 9 (wa.setCell ⟨w1.heap.size + 1, 6, none⟩ (.slice A1 (x ++ [y8]).length cap1)) (w1.heap.size + 2) (fun _ => True) v7 ([] : List ByteArray) :=
     Kd.R_mono (Kd.R_far (Kd.R_bound (Kd.R_grown2 (Kd.R_mono (Kd.R_grown hb7' hk8 (fun k hk e => by injection e with e; have := hk.2.1; omega)) (fun _ _ => trivial)) rfl hga (fun k e => (hb6.1 k e).1))) (p := ⟨w1.heap.size + 1, 6, none⟩) (fun k hk => by have := hk.2.1; show k ≠ w1.heap.size + 1; omega) _) (fun _ _ => trivial)
    have h6r := Kd.R_mono (ok' := fun k => some k ≠ v7.ownBlock) (Kd.R_far (Kd.R_bound hR1) (p := ⟨w1.heap.size + 1, 6, none⟩) (fun k hk => by have := hk.2.1; show k ≠ w1.heap.size + 1; omega) (.slice A1 (x ++ [y8]).length cap1)) (fun _ hk => hk.1)
    have hz9 := (Below.heap_setCell wa ⟨w1.heap.size + 1, 6, none⟩ (.slice A1 (x ++ [y8]).length cap1) w1.heap.size (by show w1.heap.size ≠ w1.heap.size + 1; omega)).trans ((hga.block w1.heap.size (by have := hz7; have := HL5.out; omega) (fun e => by have := (hvo _ e.symm).1; omega)).trans ((hk8.block w1.heap.size (by omega) (fun e => by injection e with e; omega)).trans HZ.out))
    have HL9 : Hid (Lw (wa.setCell ⟨w1.heap.size + 1, 6, none⟩ (.slice A1 (x ++ [y8]).length cap1)) (w1.heap.size + 2) (w1.heap.size + 1) 4 (x ++ [y8], [])) := hi_ ⟨⟨_, v7, blk_put hva 6 _ rfl, h6r, h7r⟩, by omega, by have := hga.size; simp only [World.setCell, Array.size_modify] at *; omega⟩
    have H9 := hi_ h9
    have HZ9 := hi_ hz9
    have HE8 := hi_ h8e
    have hlx : (x ++ [y8]).length = x.length + 1 := by simp
    rw [hlx] at H9 HL9 HZ9
    clear hlx
    clear hz9 h9 h6r h7r hva hca hfa hvo hR1 hBa hga hat hM8 hR8 hb6 hb7' hk8 hgb hz7 hz8 hl7 hpl hsl hwl h8 h8e c6 hHeld
    go_wp2_with fail
    refine (blanks15 H9.out.now).mono ?_
    rintro E w10 ⟨rfl, q10, h10⟩
    have HL10 := hi_ (HL9.out.kept h10.kp (by have := H.out.lt; omega))
    have HZ10 := hi_ (h10.keep HZ9.out (Nat.ne_of_gt H.out.lt))
    have H10 := hi_ (H9.out.trans h10)
    clear h10
    go_wp2_with fail
    refine (peek15 H10.out.now).mono ?_
    rintro E w11 ⟨rfl, h11⟩
    have HL11 := hi_ (HL10.out.kept h11.kp (by have := H.out.lt; omega))
    have HZ11 := hi_ (h11.keep HZ10.out (Nat.ne_of_gt H.out.lt))
    have H11 := hi_ (H10.out.trans h11)
    clear h11
    obtain ⟨c1, hc1⟩ : ∃ c1, pk (s.drop q10) = c1 := ⟨_, rfl⟩
    rw [hc1]
    have HC1 := hi_ hc1
    have ce := H11.out.c3
    clear hc1
    by_cases hee : (fv b.skip).2.e ≠ 0
    · have e1 : ((fv b.skip).2.e == 0) = false := by simpa using hee
      have e2 : ((fv b.skip).2.e != 0) = true := by simpa using hee
      have HEE := hi_ hee
      clear hee
      go_wp2_with fail
      refine (fail15 H11.out.now 11 (by decide)).mono ?_
      rintro E w12 ⟨rfl, h12⟩
      obtain ⟨z6, z7, hz, hz6, hz7⟩ := (HL11.out.kept h12.kp (by have := H.out.lt; omega)).vc
      have HM12 := hi_ (k35_mkM w12 _ (fun _ => True) (S28.mk 4 false z24 ⟨#[]⟩ (x ++ [y8]) []) (Kd.R_mono hz6 (fun _ _ => trivial)) hz7)
      have HO12 : Hid ((#[.int .i64 4, .bool false, .bool false, .string ⟨#[]⟩, .int .i64 0, .string ⟨#[]⟩, z6, z7] : Array Value).toList.all (·.oneCell') = true) := hi_ (List.all_eq_true.2 (fun u hu => k35.K_one (k35.K_of_M HM12.out) u hu))
      have HZ := hi_ hz
      have HZ12 := hi_ (h12.keep HZ11.out (Nat.ne_of_gt H.out.lt))
      have H12 := hi_ (H11.out.trans h12)
      clear h12 hz hz6 hz7 ce
      go_wp2_with (first | (refine wpList_load_row rfl 35 (.tmp 7) rfl (w1.heap.size + 1) rfl 35 _ (0, 0) _ HZ.out Tryz.underlying35 rfl (by kernel_rfl) ?_) | (refine row_event rfl 35 (.tmp 6) (.tmp 93) rfl w1.heap.size _ rfl rfl 35 _ HZ12.out (by kernel_rfl) rfl HO12.out ?_; intro w13 hr13 hk13))
      have h13 := H12.out.far hk13 (Nat.ne_of_gt H.out.lt) H.out.kp.size
      have hf : ((fv b.skip).2.skip.fail 11).e = (fv b.skip).2.e := fail_e HEE.out 11
      have hg2 : (S.arr fv a).2.e = (fv b.skip).2.e := by
       rw [HST.out, HG.out, ← HP.out.2.2.2.2]
       have hq : (arrT fv x b).2 = (fv b.skip).2 := by show (fv b).2 = _; rw [HBD.out.2.2.1 b]
       rw [← hq]
       exact goF_bad 93 x b (by rw [hq]; exact HEE.out)
      exact bodyPost_ret (results_cell_row rfl _ _ w1.heap.size 35 _ (0, 0) _ rfl hr13 Tryz.underlying35 rfl (by kernel_rfl)) rfl ⟨_, S28.mk 4 false z24 ⟨#[]⟩ (x ++ [y8]) [], q10, u8, rfl, Jw.up HM12.out hk13 (by omega) (by omega), h13.bad (by rw [hf]; exact HEE.out) (by rw [hg2, hf]), fun e => absurd (hg2.symm.trans e) HEE.out⟩
    replace hee : (fv b.skip).2.e = 0 := Classical.not_not.1 hee
    have e1 : ((fv b.skip).2.e == 0) = true := by simpa using hee
    have e2 : ((fv b.skip).2.e != 0) = false := by simp [hee]
    have HEE := hi_ hee
    clear hee
    have HQ11 := hi_ (H11.out.ok HEE.out)
    have hu : u8 = a.o + 1 := HQ11.out.2.2.trans ((HBD.out.2.2.2 b.skip).trans HP.out.2.1)
    subst hu
    have HY : Hid (arrT fv x b = (x ++ [y8], (fv b.skip).2)) := hi_ (by unfold arrT; rw [HE8.out HEE.out, HBD.out.2.2.1 b])
    have HC : Hid (pk (arrT fv x b).2.skip.s = c1) := hi_ (by rw [HY.out]; show pk (fv b.skip).2.skip.s = c1; rw [← HQ11.out.2.1]; exact HC1.out)
    have HYE : Hid ((arrT fv x b).2.e = 0) := hi_ (by rw [HY.out]; exact HEE.out)
    have HYL : Hid (∀ x b, (arrT fv x b).2.s.length ≤ b.s.length) := hi_ (fun x b => HBD.out.2.1 b)
    by_cases k44 : c1 = 44
    · have e44 : (c1 == 44) = true := by simpa using k44
      have n44 : (c1 != 44) = false := by simp [k44]
      have k93' : c1 ≠ 93 := by omega
      have e93' : (c1 == 93) = false := by simpa using k93'
      have n93 : (c1 != 93) = true := by simpa using k93'
      have HC44 := hi_ k44
      clear k44 k93'
      have hq1 : q10 + 1 ≤ s.length ∧ s.drop (q10 + 1) = (fv b.skip).2.skip.s.tail := by
       obtain ⟨b0, l, hd, hb, hl, hle⟩ := drop_pk (s := s) (p := q10) (c := 44) (by rw [HC1.out]; exact HC44.out) (by decide)
       exact ⟨hle, by rw [hl, ← HQ11.out.2.1, hd]; rfl⟩
      have hsl := HS.out
      have h12 := H11.out.s1 (q10 + 1) ⟨(fv b.skip).2.skip.s.tail, a.o + 1, (fv b.skip).2.skip.e⟩ rfl (by omega) (fun _ => ⟨hq1.1, hq1.2, rfl⟩)
      have hwp : ((q10 + 1 : Nat) : Int) = wrap64 ((q10 : Int) + 1) := (w1n q10 s.length (by omega) (by omega)).symm
      rw [hwp] at h12
      have H12 := hi_ h12
      have HL12 := hi_ (HL11.out.kept (grown_set w11 g 1 (.int .i64 (wrap64 ((q10 : Int) + 1)))) (by have := H.out.lt; omega))
      have HZ12 := hi_ ((Below.heap_setCell w11 ⟨g, 1, none⟩ (.int .i64 (wrap64 ((q10 : Int) + 1))) w1.heap.size (Nat.ne_of_gt H.out.lt)).trans HZ11.out)
      have hlt : (fv b.skip).2.skip.s.tail.length + 1 ≤ b.s.length := by
       have h1 := skip_len (fv b.skip).2
       have h2 := HBD.out.2.1 b.skip
       have h3 := skip_len b
       have h4 : s.drop q10 = (fv b.skip).2.skip.s := HQ11.out.2.1
       have h5 : 0 < (fv b.skip).2.skip.s.length := by rw [← h4, List.length_drop]; omega
       rw [List.length_tail]
       omega
      have HLT := hi_ hlt
      have HHP := hi_ hwp
      clear hq1 hsl h12 hlt hwp
      have cp := H11.out.c1
      have fp := H11.out.fz
      go_wp2_with fail
      go_roundg ((fv b.skip).2.skip.s.tail.length + 1)
      case measure => have := HLT.out; have := HP.out.2.2.1; omega
      case rel =>
       refine ⟨x ++ [y8], ⟨(fv b.skip).2.skip.s.tail, a.o + 1, 0⟩, q10 + 1, ?_, hi_ ⟨rfl, rfl, by show (fv b.skip).2.skip.s.tail.length < _; omega, ?_, ?_⟩, HL12, HZ12⟩
       · have h := H12.out
         have : (fv b.skip).2.skip.e = 0 := HEE.out
         rw [this] at h
         exact hi_ h
       · have h1 := HLT.out
         have h2 := HP.out.2.2.2.1
         show (x ++ [y8]).length + (fv b.skip).2.skip.s.tail.length ≤ _
         rw [List.length_append, List.length_singleton]
         omega
       have h1 := goF_more (st := arrT fv) HYL.out 93 x b HYE.out (by rw [HC.out]; exact HC44.out)
       rw [← HP.out.2.2.2.2, h1, HY.out]
       show goF (arrT fv) 93 (x ++ [y8]) _ = goF (arrT fv) 93 (x ++ [y8]) ⟨(fv b.skip).2.skip.s.tail, (fv b.skip).2.o, 0⟩
       rw [show (fv b.skip).2.o = a.o + 1 from (HBD.out.2.2.2 b.skip).trans HP.out.2.1]
    have e44 : (c1 == 44) = false := by simpa using k44
    have n44 : (c1 != 44) = true := by simpa using k44
    have HK44 := hi_ k44
    clear k44
    by_cases k93' : c1 = 93
    · have e93' : (c1 == 93) = true := by simpa using k93'
      have n93 : (c1 != 93) = false := by simp [k93']
      have HC93 := hi_ k93'
      clear k93'
      have hq1 : q10 + 1 ≤ s.length ∧ s.drop (q10 + 1) = (fv b.skip).2.skip.s.tail := by
       obtain ⟨b0, l, hd, hb, hl, hle⟩ := drop_pk (s := s) (p := q10) (c := 93) (by rw [HC1.out]; exact HC93.out) (by decide)
       exact ⟨hle, by rw [hl, ← HQ11.out.2.1, hd]; rfl⟩
      have hr : S.arr fv a = (⟨4, false, z24, ⟨#[]⟩, x ++ [(fv b.skip).1], []⟩, ⟨(fv b.skip).2.skip.s.tail, a.o + 1 - 1, 0⟩) := by
       have h1 := goF_end (st := arrT fv) 93 (by decide) x b HYE.out (by rw [HC.out]; exact HK44.out) (by rw [HC.out]; exact HC93.out)
       rw [HST.out, HG.out, ← HP.out.2.2.2.2, h1, HY.out, HE8.out HEE.out]
       show _ = (_, (⟨_, a.o + 1 - 1, 0⟩ : S))
       rw [show (fv b.skip).2.o = a.o + 1 from (HBD.out.2.2.2 b.skip).trans HP.out.2.1]
      have hsl := HS.out
      have hob := HO.out
      have h12 := (H11.out.s1 (q10 + 1) ⟨(fv b.skip).2.skip.s.tail, a.o + 1, (fv b.skip).2.skip.e⟩ rfl (by omega) (fun _ => ⟨hq1.1, hq1.2, rfl⟩)).s2 (wrap64 a.o) (S.arr fv a).2 (by rw [hr]; exact HEE.out.symm) (fun _ => ⟨hq1.1, by rw [hr]; exact hq1.2, by rw [hr, w64 (by omega) (by omega)]; show a.o = a.o + 1 - 1; omega⟩)
      have hwp : ((q10 + 1 : Nat) : Int) = wrap64 ((q10 : Int) + 1) := (w1n q10 s.length (by omega) (by omega)).symm
      rw [hwp] at h12
      have H12 := hi_ h12
      obtain ⟨z6, z7, hz, hz6, hz7⟩ := ((HL11.out.kept (grown_set w11 g 1 (.int .i64 (wrap64 ((q10 : Int) + 1)))) (by have := H.out.lt; omega)).kept (grown_set _ g 2 (.int .i64 (wrap64 a.o))) (by have := H.out.lt; omega)).vc
      have HM12 := hi_ (k35_mkM _ _ (fun _ => True) (S28.mk 4 false z24 ⟨#[]⟩ (x ++ [y8]) []) (Kd.R_mono hz6 (fun _ _ => trivial)) hz7)
      have HO12 : Hid ((#[.int .i64 4, .bool false, .bool false, .string ⟨#[]⟩, .int .i64 0, .string ⟨#[]⟩, z6, z7] : Array Value).toList.all (·.oneCell') = true) := hi_ (List.all_eq_true.2 (fun u hu => k35.K_one (k35.K_of_M HM12.out) u hu))
      have HZ := hi_ hz
      have HZ12 := hi_ ((Below.heap_setCell (w11.setCell ⟨g, 1, none⟩ (.int .i64 (wrap64 ((q10 : Int) + 1)))) ⟨g, 2, none⟩ (.int .i64 (wrap64 a.o)) w1.heap.size (Nat.ne_of_gt H.out.lt)).trans ((Below.heap_setCell w11 ⟨g, 1, none⟩ (.int .i64 (wrap64 ((q10 : Int) + 1))) w1.heap.size (Nat.ne_of_gt H.out.lt)).trans HZ11.out))
      have HR1 := hi_ hr
      clear hq1 hr hsl hob h12 hwp hz hz6 hz7
      have cp := H11.out.c1
      have co := H11.out.c2
      have fp := H11.out.fz
      go_wp2_with (first | (refine wpList_load_row rfl 35 (.tmp 7) rfl (w1.heap.size + 1) rfl 35 _ (0, 0) _ HZ.out Tryz.underlying35 rfl (by kernel_rfl) ?_) | (refine row_event rfl 35 (.tmp 6) (.tmp 111) rfl w1.heap.size _ rfl rfl 35 _ HZ12.out (by kernel_rfl) rfl HO12.out ?_; intro w13 hr13 hk13))
      have h13 := H12.out.far hk13 (Nat.ne_of_gt H.out.lt) H.out.kp.size
      exact bodyPost_ret (results_cell_row rfl _ _ w1.heap.size 35 _ (0, 0) _ rfl hr13 Tryz.underlying35 rfl (by kernel_rfl)) rfl ⟨_, S28.mk 4 false z24 ⟨#[]⟩ (x ++ [y8]) [], q10 + 1, _, rfl, Jw.up HM12.out hk13 (by omega) (by omega), h13, fun e => by rw [HR1.out, HE8.out HEE.out]⟩
    have e93' : (c1 == 93) = false := by simpa using k93'
    have n93 : (c1 != 93) = true := by simpa using k93'
    have HK93 := hi_ k93'
    clear k93'
    go_wp2_with fail
    refine (fail15 H11.out.now 11 (by decide)).mono ?_
    rintro E w12 ⟨rfl, h12⟩
    obtain ⟨z6, z7, hz, hz6, hz7⟩ := (HL11.out.kept h12.kp (by have := H.out.lt; omega)).vc
    have HM12 := hi_ (k35_mkM w12 _ (fun _ => True) (S28.mk 4 false z24 ⟨#[]⟩ (x ++ [y8]) []) (Kd.R_mono hz6 (fun _ _ => trivial)) hz7)
    have HO12 : Hid ((#[.int .i64 4, .bool false, .bool false, .string ⟨#[]⟩, .int .i64 0, .string ⟨#[]⟩, z6, z7] : Array Value).toList.all (·.oneCell') = true) := hi_ (List.all_eq_true.2 (fun u hu => k35.K_one (k35.K_of_M HM12.out) u hu))
    have HZ := hi_ hz
    have HZ12 := hi_ (h12.keep HZ11.out (Nat.ne_of_gt H.out.lt))
    have H12 := hi_ (H11.out.trans h12)
    clear h12 hz hz6 hz7 ce
    go_wp2_with (first | (refine wpList_load_row rfl 35 (.tmp 7) rfl (w1.heap.size + 1) rfl 35 _ (0, 0) _ HZ.out Tryz.underlying35 rfl (by kernel_rfl) ?_) | (refine row_event rfl 35 (.tmp 6) (.tmp 93) rfl w1.heap.size _ rfl rfl 35 _ HZ12.out (by kernel_rfl) rfl HO12.out ?_; intro w13 hr13 hk13))
    have h13 := H12.out.far hk13 (Nat.ne_of_gt H.out.lt) H.out.kp.size
    have hf : ((fv b.skip).2.skip.fail 11).e = 11 := fail_e0 HEE.out 11
    have hg2 : (S.arr fv a).2.e = 11 := by
     rw [HST.out, HG.out, ← HP.out.2.2.2.2]
     exact goF_form 93 (by decide) x b HYE.out (by rw [HC.out]; exact HK44.out) (by rw [HC.out]; exact HK93.out)
    exact bodyPost_ret (results_cell_row rfl _ _ w1.heap.size 35 _ (0, 0) _ rfl hr13 Tryz.underlying35 rfl (by kernel_rfl)) rfl ⟨_, S28.mk 4 false z24 ⟨#[]⟩ (x ++ [y8]) [], q10, a.o + 1, rfl, Jw.up HM12.out hk13 (by omega) (by omega), h13.bad (by rw [hf]; decide) (by rw [hg2, hf]), fun e => absurd (hg2.symm.trans e) (by decide)⟩
theorem rowM {α : Type} {d : Kd α} {e : TypeId} {w : World} {base : Nat} {ok : Nat → Prop} {A : Option Addr} {n c : Nat} {xs : List α} (h : d.R e w base ok (.slice A n c) xs) :
    n = xs.length ∧ xs.length ≤ c ∧ ReadsRow (d.M w base ok) d.sz w A xs.length xs := by
 obtain ⟨A', c', he, hl, hr⟩ := OwnRow.reads h.2
 injection he with h1 h2 h3
 subst h1 h2 h3
 exact ⟨rfl, hl, hr.imp_ (Below.refl _ _) (fun p c hp => d.M_mono (fun k hk => hk.1) hp)⟩
theorem rr_take {α : Type} {R : α → List Value → Prop} {size : Nat} {w : World} {A : Option Addr} {xs : List α} {m : Nat} (h : ReadsRow R size w A xs.length xs) (hm : m ≤ xs.length) : ReadsRow R size w A m (xs.take m) := by
 have hl : (xs.take m).length = m := by rw [List.length_take]; omega
 refine ⟨hl, by have := h.2.1; omega, fun hp => ?_⟩
 obtain ⟨ad, e, hc⟩ := h.2.2 (by omega)
 refine ⟨ad, e, fun j p hj => hc j p ?_⟩
 rw [List.getElem?_take] at hj
 split at hj
 · exact hj
 cases hj
theorem rr_drop {α : Type} {R : α → List Value → Prop} {size : Nat} {w : World} {A : Option Addr} {xs : List α} {m c : Nat} (h : ReadsRow R size w A xs.length xs) (hm : m ≤ xs.length) (hc : xs.length ≤ c) :
    ReadsRow R size w (if c = m then A else A.map (·.add (m * size))) (xs.length - m) (xs.drop m) := by
 have hl : (xs.drop m).length = xs.length - m := List.length_drop
 refine ⟨hl, by have := h.2.1; omega, fun hp => ?_⟩
 obtain ⟨ad, rfl, hcell⟩ := h.2.2 (by omega)
 rw [if_neg (by omega)]
 refine ⟨ad.add (m * size), rfl, fun j p hj => ?_⟩
 rw [List.getElem?_drop] at hj
 obtain ⟨cs, h1, h2, h3⟩ := hcell (m + j) p hj
 refine ⟨cs, h1, h2, fun i u hu => ?_⟩
 rw [add_add, show m * size + (j * size + i) = (m + j) * size + i by rw [Nat.add_mul]; omega]
 exact h3 i u hu
theorem exec_cut_hi {o : Oper} {a : Act} {x y : Operand} {t e : TypeId} {A : Option Addr} {n c m : Nat} (ho : o.op = .slice t x none (some y) none) (hx : a.eval x = .slice A n c) (hy : a.eval y = .int .i64 m)
    (ht : Tryz.prog.underlying t = some (.slice e)) (hi : ((Tryz.prog.info? e).map (·.size)).isSome = true) (h : m ≤ c) (W : World) : (execOp a.eval o).run Tryz.prog W = .ok (.value (.slice A m c)) W := by
 obtain ⟨i, hi⟩ : ∃ i, Tryz.prog.info? e = some i := by
  cases he : Tryz.prog.info? e with
  | none => rw [he] at hi; cases hi
  | some i => exact ⟨i, rfl⟩
 have hel : Tryz.prog.elem t = e := by simp [Program.elem, ht]
 have hu : Tryz.prog.underlying t = some (.slice (Tryz.prog.elem t)) := by rw [hel]; exact ht
 unfold execOp
 simp only [ho, hx, hy, Option.map_none, Option.map_some]
 rw [Sem.run_bind, run_sliceAt_slice W t _ _ _ _ hu, run_slice_h W t A n c hu .i64 m (by omega) (by omega), hel]
 simp [sizeOf, typeInfo, hi, sliced, Result.andThen]
 cases A with
 | none => simp
 | some ad => simp [Addr.add]
theorem exec_cut_lo {o : Oper} {a : Act} {x y : Operand} {t e : TypeId} {A : Option Addr} {n c m size : Nat} (ho : o.op = .slice t x (some y) none none) (hx : a.eval x = .slice A n c) (hy : a.eval y = .int .i64 m)
    (ht : Tryz.prog.underlying t = some (.slice e)) (hi : (Tryz.prog.info? e).map (·.size) = some size) (h : m ≤ n) {A' : Option Addr} (hA : (if c = m then A else A.map (·.add (m * size))) = A') (W : World) : (execOp a.eval o).run Tryz.prog W = .ok (.value (.slice A' (n - m) (c - m))) W := by
 subst hA
 obtain ⟨i, hi, hsz⟩ := Option.map_eq_some_iff.1 hi
 have hel : Tryz.prog.elem t = e := by simp [Program.elem, ht]
 have hu : Tryz.prog.underlying t = some (.slice (Tryz.prog.elem t)) := by rw [hel]; exact ht
 unfold execOp
 simp only [ho, hx, hy, Option.map_none, Option.map_some]
 rw [Sem.run_bind, run_sliceAt_slice W t _ _ _ _ hu, run_slice_l W t A n c hu .i64 m (by omega) (by omega), hel]
 simp [sizeOf, typeInfo, hi, hsz, sliced, Result.andThen]
structure Mw (w0 w : World) (lo m hi : Nat) (v6 v7 : Value) (xs : List S28) (ns : List ByteArray) (x : S28) (cs : List Value) (z6 z7 : Value) (X : List S28) (N : List ByteArray) : Prop where
  src : w.heap[m]? = some (.cells #[.int .i64 5, .bool false, .bool false, .string ⟨#[]⟩, .int .i64 0, .string ⟨#[]⟩, v6, v7] 35 (0, 0))
  val : w.heap[hi]? = some (.cells cs.toArray 35 (0, 0))
  out : w.heap[hi + 1]? = some (.cells #[.int .i64 5, .bool false, .bool false, .string ⟨#[]⟩, .int .i64 0, .string ⟨#[]⟩, z6, z7] 35 (0, 0))
  res : w.heap[m + 1]? = some (.cells zA 35 (0, 0))
  r6 : k35.R 35 w lo (fun k => k < hi ∧ k ≠ m ∧ k ≠ m + 1) v6 xs
  r7 : Kd.string.R 9 w lo (fun k => k < hi ∧ k ≠ m ∧ k ≠ m + 1) v7 ns
  x : k35.M w lo (fun k => k < hi ∧ k ≠ m ∧ k ≠ m + 1) x cs
  q6 : k35.R 35 w lo (fun k => (k < hi ∨ hi + 2 ≤ k) ∧ k ≠ m ∧ k ≠ m + 1 ∧ some k ≠ z7.ownBlock) z6 X
  q7 : Kd.string.R 9 w lo (fun k => hi + 2 ≤ k) z7 N
  own : ∀ k, z6.ownBlock = some k → hi + 2 ≤ k
  lt : lo ≤ m ∧ m + 2 ≤ hi ∧ hi + 2 ≤ w.heap.size
  bel : Below hi w0 w
section
variable {w0 w wa : World} {lo m hi : Nat} {v6 v7 : Value} {xs : List S28} {ns : List ByteArray} {x : S28} {cs : List Value} {z6 z7 : Value} {X : List S28} {N : List ByteArray}
theorem Mw.below (h : Mw w0 w lo m hi v6 v7 xs ns x cs z6 z7 X N) (k : Below w.heap.size w wa) : Mw w0 wa lo m hi v6 v7 xs ns x cs z6 z7 X N :=
 have lt := h.lt
 ⟨(k.block m (by omega)).trans h.src, (k.block hi (by omega)).trans h.val, (k.block (hi + 1) (by omega)).trans h.out, (k.block (m + 1) (by omega)).trans h.res, Kd.R_below h.r6 k, Kd.R_below h.r7 k, Kd.M_below h.x k, Kd.R_below h.q6 k, Kd.R_below h.q7 k, h.own, ⟨lt.1, lt.2.1, Nat.le_trans lt.2.2 k.size⟩, h.bel.trans (k.mono (by omega))⟩
theorem Mw.drew (h : Mw w0 w lo m hi v6 v7 xs ns x cs z6 z7 X N) : Mw w0 w.drew lo m hi v6 v7 xs ns x cs z6 z7 X N := h.below (Below.refl _ _).drew
theorem Mw.names (h : Mw w0 w lo m hi v6 v7 xs ns x cs z6 z7 X N) {v1 : Value} {N1 : List ByteArray} (hR : Kd.string.R 9 wa lo (fun k => hi + 2 ≤ k) v1 N1) (hg : w.grownBy wa z7.ownBlock) (hat : v1.ownBlock = z7.ownBlock ∨ ∃ b, v1.ownBlock = some b ∧ w.heap.size ≤ b) :
    Mw w0 (wa.setCell ⟨hi + 1, 7, none⟩ v1) lo m hi v6 v7 xs ns x cs z6 v1 X N1 ∧ wa.heap[hi + 1]? = some (.cells #[.int .i64 5, .bool false, .bool false, .string ⟨#[]⟩, .int .i64 0, .string ⟨#[]⟩, z6, z7] 35 (0, 0)) ∧ wa.heap[m]? = some (.cells #[.int .i64 5, .bool false, .bool false, .string ⟨#[]⟩, .int .i64 0, .string ⟨#[]⟩, v6, v7] 35 (0, 0)) := by
 have lt := h.lt
 have own7 : ∀ k, z7.ownBlock = some k → hi + 2 ≤ k := h.q7.1
 have hne : ∀ k, some k ≠ z7.ownBlock → k < w.heap.size → some k ≠ v1.ownBlock := fun k h1 h2 => by
  rcases hat with e | ⟨b, e, hb⟩
  · rw [e]; exact h1
  rw [e]; intro e2; injection e2 with e2; omega
 have blk : ∀ k (ob : Obj), k < hi + 2 → w.heap[k]? = some ob → wa.heap[k]? = some ob := fun k ob hk e => (hg.block k (by omega) (fun e2 => by have := own7 k e2.symm; omega)).trans e
 have far : ∀ k (ob : Obj), k ≠ hi + 1 → wa.heap[k]? = some ob → (wa.setCell ⟨hi + 1, 7, none⟩ v1).heap[k]? = some ob := fun k ob hk e => (Below.heap_setCell wa ⟨hi + 1, 7, none⟩ v1 k hk).trans e
 have ho := blk (hi + 1) _ (by omega) h.out
 have hF := grown_set wa (hi + 1) 7 v1
 refine ⟨⟨far _ _ (by omega) (blk _ _ (by omega) h.src), far _ _ (by omega) (blk _ _ (by omega) h.val), blk_put ho 7 v1 rfl, far _ _ (by omega) (blk _ _ (by omega) h.res), ?_, ?_, ?_, ?_, ?_, h.own, ⟨lt.1, lt.2.1, ?_⟩, (h.bel.grown hg (by omega) (fun k e => by have := own7 k e; omega)).setCell (by show hi ≤ hi + 1; omega) v1⟩, ho, blk _ _ (by omega) h.src⟩
 · exact Kd.R_far (Kd.R_grown h.r6 hg (fun k hk e => by have := own7 k e.symm; omega)) (p := ⟨hi + 1, 7, none⟩) (fun k hk => by show k ≠ hi + 1; omega) v1
 · exact Kd.R_far (Kd.R_grown h.r7 hg (fun k hk e => by have := own7 k e.symm; omega)) (p := ⟨hi + 1, 7, none⟩) (fun k hk => by show k ≠ hi + 1; omega) v1
 · exact Kd.M_far (Kd.M_grown h.x hg (fun k hk e => by have := own7 k e.symm; omega)) (p := ⟨hi + 1, 7, none⟩) (fun k hk => by show k ≠ hi + 1; omega) v1
 · have h1 := Kd.R_bound h.q6
   have h2 := Kd.R_grown h1 hg (fun k hk => hk.1.2.2.2)
   exact Kd.R_far (Kd.R_mono h2 (fun k hk => ⟨hk.1.1, hk.1.2.1, hk.1.2.2.1, hne k hk.1.2.2.2 hk.2.2.1⟩)) (p := ⟨hi + 1, 7, none⟩) (fun k hk => by have := hk.1; show k ≠ hi + 1; omega) v1
 · exact Kd.R_far hR (p := ⟨hi + 1, 7, none⟩) (fun k hk => by show k ≠ hi + 1; omega) v1
 · have := hg.size; have := hF.size; omega
theorem Mw.items (h : Mw w0 w lo m hi v6 v7 xs ns x cs z6 z7 X N) {v1 : Value} {X1 : List S28} (hR : k35.R 35 wa lo (fun k => (k < hi ∨ hi + 2 ≤ k) ∧ k ≠ m ∧ k ≠ m + 1 ∧ some k ≠ z7.ownBlock) v1 X1) (hg : w.grownBy wa z6.ownBlock) (hat : v1.ownBlock = z6.ownBlock ∨ ∃ b, v1.ownBlock = some b ∧ w.heap.size ≤ b) :
    Mw w0 (wa.setCell ⟨hi + 1, 6, none⟩ v1) lo m hi v6 v7 xs ns x cs v1 z7 X1 N ∧ wa.heap[hi + 1]? = some (.cells #[.int .i64 5, .bool false, .bool false, .string ⟨#[]⟩, .int .i64 0, .string ⟨#[]⟩, z6, z7] 35 (0, 0)) ∧ wa.heap[m]? = some (.cells #[.int .i64 5, .bool false, .bool false, .string ⟨#[]⟩, .int .i64 0, .string ⟨#[]⟩, v6, v7] 35 (0, 0)) := by
 have lt := h.lt
 have own6 := h.own
 have blk : ∀ k (ob : Obj), k < hi + 2 → w.heap[k]? = some ob → wa.heap[k]? = some ob := fun k ob hk e => (hg.block k (by omega) (fun e2 => by have := own6 k e2.symm; omega)).trans e
 have far : ∀ k (ob : Obj), k ≠ hi + 1 → wa.heap[k]? = some ob → (wa.setCell ⟨hi + 1, 6, none⟩ v1).heap[k]? = some ob := fun k ob hk e => (Below.heap_setCell wa ⟨hi + 1, 6, none⟩ v1 k hk).trans e
 have ho := blk (hi + 1) _ (by omega) h.out
 have hF := grown_set wa (hi + 1) 6 v1
 refine ⟨⟨far _ _ (by omega) (blk _ _ (by omega) h.src), far _ _ (by omega) (blk _ _ (by omega) h.val), blk_put ho 6 v1 rfl, far _ _ (by omega) (blk _ _ (by omega) h.res), ?_, ?_, ?_, ?_, ?_, ?_, ⟨lt.1, lt.2.1, ?_⟩, (h.bel.grown hg (by omega) (fun k e => by have := own6 k e; omega)).setCell (by show hi ≤ hi + 1; omega) v1⟩, ho, blk _ _ (by omega) h.src⟩
 · exact Kd.R_far (Kd.R_grown h.r6 hg (fun k hk e => by have := own6 k e.symm; omega)) (p := ⟨hi + 1, 6, none⟩) (fun k hk => by show k ≠ hi + 1; omega) v1
 · exact Kd.R_far (Kd.R_grown h.r7 hg (fun k hk e => by have := own6 k e.symm; omega)) (p := ⟨hi + 1, 6, none⟩) (fun k hk => by show k ≠ hi + 1; omega) v1
 · exact Kd.M_far (Kd.M_grown h.x hg (fun k hk e => by have := own6 k e.symm; omega)) (p := ⟨hi + 1, 6, none⟩) (fun k hk => by show k ≠ hi + 1; omega) v1
 · exact Kd.R_far hR (p := ⟨hi + 1, 6, none⟩) (fun k hk => by have := hk.1; show k ≠ hi + 1; omega) v1
 · have h1 : Kd.string.R 9 w lo (fun k => hi + 2 ≤ k ∧ some k ≠ z6.ownBlock) z7 N := by
     obtain ⟨h1, inner, h2, h3⟩ := h.q7
     exact ⟨fun k hk => ⟨h1 k hk, fun e => (h.q6.1 k e.symm).2.2.2 hk.symm⟩, inner, h2, h3⟩
   exact Kd.R_far (Kd.R_mono (Kd.R_grown h1 hg (fun k hk => hk.2)) (fun k hk => hk.1)) (p := ⟨hi + 1, 6, none⟩) (fun k hk => by show k ≠ hi + 1; omega) v1
 · intro k e
   rcases hat with e2 | ⟨b, e2, hb⟩
   · exact own6 k (e2.symm.trans e)
   rw [e] at e2; injection e2 with e2; omega
 · have := hg.size; have := hF.size; omega
section
variable {ops : Array Oper} {rest : List Oper} {o : Oper} {a : Act} {Q : Exit → Act → World → Prop} {Kc : Act → World → Prop}
theorem Mw.step7 (h : Mw w0 w lo m hi v6 v7 xs ns x cs z6 z7 X N) {t1 t2 : Tmp} {A : Option Addr} {n c : Nat} {ys : List ByteArray} (hw : Region.wanted o (yielded ops a.tmps) = true) (ho : o.op = .call { callee := .builtin .append, args := #[.tmp t1, .tmp t2], argTypes := #[26, 26] })
    (hs : a.eval (.tmp t1) = z7) (hx : a.eval (.tmp t2) = .slice A n c) (HR : ReadsRow (Kd.string.M w lo (fun k => k < hi ∧ k ≠ m ∧ k ≠ m + 1)) 1 w A n ys) (hl : N.length + n ≤ 1000000)
    (H : ∀ A1 n1 c1 wa, n1 = (N ++ ys).length → Mw w0 (wa.setCell ⟨hi + 1, 7, none⟩ (.slice A1 n1 c1)) lo m hi v6 v7 xs ns x cs z6 (.slice A1 n1 c1) X (N ++ ys) → wa.heap[hi + 1]? = some (.cells #[.int .i64 5, .bool false, .bool false, .string ⟨#[]⟩, .int .i64 0, .string ⟨#[]⟩, z6, z7] 35 (0, 0)) ∧ wa.heap[m]? = some (.cells #[.int .i64 5, .bool false, .bool false, .string ⟨#[]⟩, .int .i64 0, .string ⟨#[]⟩, v6, v7] 35 (0, 0)) → Kc (a.put o.dst (.slice A1 n1 c1)) wa) :
    if Region.wanted o (yielded ops a.tmps) = true then Oper.wp Tryz.prog o a w Kc Q else Kc (a.put o.dst undef) w := by
 refine Kd.R_append_rows_step Kd.string (w0 := w) lo hw (.tmp t1) (.tmp t2) 26 9 (.string ⟨#[]⟩) 16 ho Tryz.underlying26 info9 rfl (by decide) (by decide) z7 N ys A n c (fun k => hi + 2 ≤ k) (fun _ => False) hs hx h.q7 HR (fun _ _ h => h) (fun k hk => hk.elim) (fun k hk => by have := h.lt.2.2; omega) (Below.refl _ _) (by have := h.lt; omega) (by omega) ?_
 intro v1 wa hR hB hg hat
 obtain ⟨A1, c1, rfl⟩ := Kd.R_slice hR
 obtain ⟨q1, q2⟩ := h.names hR hg hat
 exact H A1 _ c1 wa rfl q1 q2
theorem Mw.step6 (h : Mw w0 w lo m hi v6 v7 xs ns x cs z6 z7 X N) {t1 t2 : Tmp} {A : Option Addr} {n c : Nat} {ys : List S28} (hw : Region.wanted o (yielded ops a.tmps) = true) (ho : o.op = .call { callee := .builtin .append, args := #[.tmp t1, .tmp t2], argTypes := #[33, 33] })
    (hs : a.eval (.tmp t1) = z6) (hx : a.eval (.tmp t2) = .slice A n c) (HR : ReadsRow (k35.M w lo (fun k => k < hi ∧ k ≠ m ∧ k ≠ m + 1)) 8 w A n ys) (hl : X.length + n ≤ 1000000)
    (H : ∀ A1 n1 c1 wa, n1 = (X ++ ys).length → Mw w0 (wa.setCell ⟨hi + 1, 6, none⟩ (.slice A1 n1 c1)) lo m hi v6 v7 xs ns x cs (.slice A1 n1 c1) z7 (X ++ ys) N → wa.heap[hi + 1]? = some (.cells #[.int .i64 5, .bool false, .bool false, .string ⟨#[]⟩, .int .i64 0, .string ⟨#[]⟩, z6, z7] 35 (0, 0)) ∧ wa.heap[m]? = some (.cells #[.int .i64 5, .bool false, .bool false, .string ⟨#[]⟩, .int .i64 0, .string ⟨#[]⟩, v6, v7] 35 (0, 0)) → Kc (a.put o.dst (.slice A1 n1 c1)) wa) :
    if Region.wanted o (yielded ops a.tmps) = true then Oper.wp Tryz.prog o a w Kc Q else Kc (a.put o.dst undef) w := by
 have lt := h.lt
 have b7 := (Kd.R_bound h.q7).1
 refine Kd.R_append_rows_step k35 (w0 := w) lo hw (.tmp t1) (.tmp t2) 33 35 (.agg zA) 112 ho Tryz.underlying33 info35 rfl (by decide) (by decide) z6 X ys A n c _ (fun k => k < hi ∧ k ≠ m ∧ k ≠ m + 1) hs hx h.q6 HR (fun _ _ h => h) (fun k hk => ⟨⟨.inl hk.1, hk.2.1, hk.2.2, fun e => by have := (b7 k e.symm).1; omega⟩, fun e => by have := h.own k e.symm; omega⟩)
  (fun k hk => ⟨.inr (by omega), by omega, by omega, fun e => by have := (b7 k e.symm).2.2.1; omega⟩) (Below.refl _ _) (by omega) (by omega) ?_
 intro v1 wa hR hB hg hat
 obtain ⟨A1, c1, rfl⟩ := Kd.R_slice hR
 obtain ⟨q1, q2⟩ := h.items hR hg hat
 exact H A1 _ c1 wa rfl q1 q2
theorem Mw.one7 (h : Mw w0 w lo m hi v6 v7 xs ns x cs z6 z7 X N) {t1 t2 : Tmp} {y : ByteArray} (hgd : o.guard = none) (ho : o.op = .call { callee := .builtin .append, args := #[.tmp t1, .tmp t2], argTypes := #[26, 26] })
    (hs : a.eval (.tmp t1) = z7) {b : Nat} (hx : a.eval (.tmp t2) = .slice (some ⟨b, 0, none⟩) 1 1) (hbw : b = w.heap.size) (hl : N.length + 1 ≤ 1000000)
    (H : ∀ A1 n1 c1 wa, n1 = (N ++ [y]).length → Mw w0 (wa.setCell ⟨hi + 1, 7, none⟩ (.slice A1 n1 c1)) lo m hi v6 v7 xs ns x cs z6 (.slice A1 n1 c1) X (N ++ [y]) → wa.heap[hi + 1]? = some (.cells #[.int .i64 5, .bool false, .bool false, .string ⟨#[]⟩, .int .i64 0, .string ⟨#[]⟩, z6, z7] 35 (0, 0)) ∧ wa.heap[m]? = some (.cells #[.int .i64 5, .bool false, .bool false, .string ⟨#[]⟩, .int .i64 0, .string ⟨#[]⟩, v6, v7] 35 (0, 0)) → wpList Tryz.prog ops Q rest (a.put o.dst (.slice A1 n1 c1)) wa) :
    wpList Tryz.prog ops Q (o :: rest) a (w.alloc (.cells #[.string y] 9)) := by
 subst hbw
 refine Kd.R_append Kd.string (w0 := w) lo hgd (.tmp t1) (.tmp t2) 26 9 (.string ⟨#[]⟩) 16 ho Tryz.underlying26 info9 rfl (by decide) (by decide) z7 N y [.string y] (fun k => hi + 2 ≤ k) (fun _ => False) hs hx rfl (fun k hk => hk.elim) (fun k hk => by have := h.lt.2.2; omega) h.q7 (Below.refl _ _) (by have := h.lt; omega) (by omega) ?_
 intro v1 wa hR hB hg hat
 obtain ⟨A1, c1, rfl⟩ := Kd.R_slice hR
 obtain ⟨q1, q2⟩ := h.names hR hg hat
 exact H A1 _ c1 wa rfl q1 q2
theorem Mw.one6 (h : Mw w0 w lo m hi v6 v7 xs ns x cs z6 z7 X N) {t1 t2 : Tmp} (hgd : o.guard = none) (ho : o.op = .call { callee := .builtin .append, args := #[.tmp t1, .tmp t2], argTypes := #[33, 33] })
    (hs : a.eval (.tmp t1) = z6) {b : Nat} (hx : a.eval (.tmp t2) = .slice (some ⟨b, 0, none⟩) 1 1) (hbw : b = w.heap.size) (hl : X.length + 1 ≤ 1000000)
    (H : ∀ A1 n1 c1 wa, n1 = (X ++ [x]).length → Mw w0 (wa.setCell ⟨hi + 1, 6, none⟩ (.slice A1 n1 c1)) lo m hi v6 v7 xs ns x cs (.slice A1 n1 c1) z7 (X ++ [x]) N → wa.heap[hi + 1]? = some (.cells #[.int .i64 5, .bool false, .bool false, .string ⟨#[]⟩, .int .i64 0, .string ⟨#[]⟩, z6, z7] 35 (0, 0)) ∧ wa.heap[m]? = some (.cells #[.int .i64 5, .bool false, .bool false, .string ⟨#[]⟩, .int .i64 0, .string ⟨#[]⟩, v6, v7] 35 (0, 0)) → wpList Tryz.prog ops Q rest (a.put o.dst (.slice A1 n1 c1)) wa) :
    wpList Tryz.prog ops Q (o :: rest) a (w.alloc (.cells cs.toArray 35)) := by
 have lt := h.lt
 have b7 := (Kd.R_bound h.q7).1
 subst hbw
 refine Kd.R_append k35 (w0 := w) lo hgd (.tmp t1) (.tmp t2) 33 35 (.agg zA) 112 ho Tryz.underlying33 info35 rfl (by decide) (by decide) z6 X x cs _ (fun k => k < hi ∧ k ≠ m ∧ k ≠ m + 1) hs hx h.x (fun k hk => ⟨⟨.inl hk.1, hk.2.1, hk.2.2, fun e => by have := (b7 k e.symm).1; omega⟩, fun e => by have := h.own k e.symm; omega⟩)
  (fun k hk => ⟨.inr (by omega), by omega, by omega, fun e => by have := (b7 k e.symm).2.2.1; omega⟩) h.q6 (Below.refl _ _) (by omega) (by omega) ?_
 intro v1 wa hR hB hg hat
 obtain ⟨A1, c1, rfl⟩ := Kd.R_slice hR
 obtain ⟨q1, q2⟩ := h.items hR hg hat
 exact H A1 _ c1 wa rfl q1 q2
end
end
end Js
end Go.Proofs.YtapcpndplnkfjaaGreatDoor
