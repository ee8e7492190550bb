/- What the law rests on, part 3: joined by a program of this session (claimx.py). -/
import Derived.Test.YtapcpndplnkfjaaGreatDoorOrderKeysB
set_option linter.unusedVariables false
set_option linter.unusedSimpArgs false
namespace Go.Proofs.YtapcpndplnkfjaaGreatDoor
open Go.RowKit Go.Proofs.YtapcpndplnkfjaaGreatDoorW.PrintWords Go.Proofs.YtapcpndplnkfjaaGreatDoorW.PrintLast Go.Proofs.YtapcpndplnkfjaaGreatDoorW.PrintMore
namespace Js
theorem ofL_bytes (b : ByteArray) : ofL b.data.toList = b := by cases b; simp [ofL]
def encL (x : Int) : List UInt8 := (Utf8.encode x).data.toList
theorem ofL_enc (x : Int) : ofL (encL x) = Utf8.encode x := ofL_bytes _
theorem encL_len (x : Int) : (encL x).length ≤ 4 := by
 unfold encL Utf8.encode
 simp only []
 generalize (if Utf8.valid x = true then x.toNat else Utf8.runeError) = c
 by_cases h1 : c < 128
 · rw [if_pos h1]; simp
 rw [if_neg h1]
 by_cases h2 : c < 2048
 · rw [if_pos h2]; simp
 rw [if_neg h2]
 by_cases h3 : c < 65536
 · rw [if_pos h3]; simp
 rw [if_neg h3]; simp
theorem fail_s (a : S) (x : Int) : (a.fail x).s = a.s := by unfold S.fail; split <;> rfl
theorem fail_o (a : S) (x : Int) : (a.fail x).o = a.o := by unfold S.fail; split <;> rfl
theorem four_len (a : S) : a.four.2.s.length ≤ a.s.length := by
 unfold S.four
 split
 · rw [fail_s]
   exact Nat.le_refl _
 cases fourLoop a.low (a.low.size + 1) 0 0 with
 | none => simp [fourV, fail_s]
 | some x => simp [fourV]
theorem four_o (a : S) : a.four.2.o = a.o := by
 unfold S.four
 split
 · rw [fail_o]
 cases fourLoop a.low (a.low.size + 1) 0 0 with
 | none => simp [fourV, fail_o]
 | some x => rfl
def signX (x y : Int) : Int := wrap32 (wrap32 (65536 + (x - 55296) * 1024 + y) - 56320)
def S.pre (a : S) : S := { a with s := Lib.trimPrefix a.s [92, 117] }
def S.sgn (x : Int) (c : S) : List UInt8 × S := (encL (signX x c.four.1), if c.four.1 < 56320 ∨ 57343 < c.four.1 then c.four.2.fail 11 else c.four.2)
def S.sign (a : S) : List UInt8 × S :=
 if a.four.1 < 55296 ∨ 57343 < a.four.1 then (encL a.four.1, a.four.2) else
 if 56320 ≤ a.four.1 ∨ Lib.hasPrefix a.four.2.s [92, 117] = false then ([], a.four.2.fail 11) else S.sgn a.four.1 a.four.2.pre
set_option maxRecDepth 100000 in
set_option maxHeartbeats 8000000 in
theorem sign_calls {w w1 : World} {g : Nat} {a : S} (h : Rd w w1 g a) (hl : a.s.length ≤ 1000000) :
    Calls Tryz.prog 146 #[.pointer (some ⟨g, 0, none⟩)] w1 fun E w' => E = .returned (.string (ofL a.sign.1)) ∧ Rd w w' g a.sign.2 := by
 have H := hi_ h
 obtain ⟨R, hR⟩ : ∃ R, a.sign = R := ⟨_, rfl⟩
 have HR : Hid ((if a.four.1 < 55296 ∨ 57343 < a.four.1 then (encL a.four.1, a.four.2) else if 56320 ≤ a.four.1 ∨ Lib.hasPrefix a.four.2.s [92, 117] = false then ([], a.four.2.fail 11) else S.sgn a.four.1 a.four.2.pre) = R) := hi_ hR
 have HL := hi_ (Nat.le_trans (four_len a) hl)
 have HL0 := hi_ hl
 rw [hR]
 clear h hR hl
 go_enter Tryz.func146, Tryz.ntmps146
 go_wp2_with fail
 refine (four_calls H.out HL0.out).mono ?_
 rintro E w2 ⟨rfl, h2⟩
 have H2 := hi_ h2
 clear h2 H HL0
 obtain ⟨p, hp⟩ : ∃ p, a.four = p := ⟨_, rfl⟩
 obtain ⟨x, b⟩ := p
 rw [hp] at HR H2 HL ⊢
 clear hp
 have HR2 : Hid ((if x < 55296 ∨ 57343 < x then (encL x, b) else if 56320 ≤ x ∨ Lib.hasPrefix b.s [92, 117] = false then ([], b.fail 11) else S.sgn x b.pre) = R) := HR
 have HL2 : Hid (b.s.length ≤ 1000000) := HL
 have H3 : Hid (Rd w w2 g b) := H2
 clear HR HL H2
 by_cases hx : x < 55296
 · have HRR : Hid ((encL x, b) = R) := hi_ (by have := HR2.out; rw [if_pos (.inl hx)] at this; exact this)
   go_wp2_with fail
   go_ret
   exact ⟨by rw [← HRR.out]; show _ = Ending.returned (.string (ofL (encL x))); rw [ofL_enc]; rfl, by rw [← HRR.out]; exact H3.out⟩
 by_cases hx2 : 57343 < x
 · have HRR : Hid ((encL x, b) = R) := hi_ (by have := HR2.out; rw [if_pos (.inr hx2)] at this; exact this)
   have q1 : (x < 55296) = False := by simp; omega
   have q2 : (57343 < x) = True := by simp; omega
   clear hx hx2
   go_wp2_with fail
   go_ret
   exact ⟨by rw [← HRR.out]; show _ = Ending.returned (.string (ofL (encL x))); rw [ofL_enc]; rfl, by rw [← HRR.out]; exact H3.out⟩
 have q1 : (x < 55296) = False := by simp; omega
 have q2 : (57343 < x) = False := by simp; omega
 have c0 := H3.out.c0
 have HR3 : Hid ((if 56320 ≤ x ∨ Lib.hasPrefix b.s [92, 117] = false then ([], b.fail 11) else S.sgn x b.pre) = R) := hi_ (by have := HR2.out; rw [if_neg (by omega)] at this; exact this)
 have HX := hi_ (And.intro hx hx2)
 clear hx hx2 HR2
 go_wp2_with fail
 refine (Tryz.strings_CutPrefix _ _ _).mono ?_
 rintro E w4 ⟨rfl, rfl⟩
 have e1 : (ofL b.s).data.toList = b.s := by simp [ofL]
 have e2 : (⟨#[92, 117]⟩ : ByteArray).data.toList = [92, 117] := rfl
 have HPRE : Hid (b.pre = { b with s := Lib.trimPrefix b.s [92, 117] }) := hi_ rfl
 rw [e1, e2]
 clear e1 e2
 obtain ⟨is, his⟩ : ∃ is, Lib.hasPrefix b.s [92, 117] = is := ⟨_, rfl⟩
 obtain ⟨rest, hrest⟩ : ∃ r, Lib.trimPrefix b.s [92, 117] = r := ⟨_, rfl⟩
 have HLR : Hid (rest.length ≤ 1000000) := hi_ (by rw [← hrest]; unfold Lib.trimPrefix; have := HL2.out; split <;> (try simp) <;> omega)
 rw [hrest] at HPRE
 rw [his, hrest]
 rw [his] at HR3
 clear his hrest
 have f0 := H3.out.fz 0
 by_cases hx3 : 56320 ≤ x
 · have HRR : Hid (([], b.fail 11) = R) := hi_ (by have := HR3.out; rw [if_pos (.inl hx3)] at this; exact this)
   go_wp2_with fail
   refine (fail_calls H3.out.now 11).mono ?_
   rintro E w6 ⟨rfl, h6⟩
   have h6 := H3.out.trans h6
   go_wp2_with fail
   go_ret
   exact ⟨by rw [← HRR.out]; rfl, by rw [← HRR.out]; exact h6⟩
 cases is with
 | false =>
  have HRR : Hid (([], b.fail 11) = R) := hi_ (by have := HR3.out; rw [if_pos (.inr rfl)] at this; exact this)
  have q3 : (56320 ≤ x) = False := by simp; omega
  clear hx3
  go_wp2_with fail
  refine (fail_calls H3.out.now 11).mono ?_
  rintro E w6 ⟨rfl, h6⟩
  have h6 := H3.out.trans h6
  go_wp2_with fail
  go_ret
  exact ⟨by rw [← HRR.out]; rfl, by rw [← HRR.out]; exact h6⟩
 | true =>
  have HRR : Hid (S.sgn x b.pre = R) := hi_ (by have := HR3.out; rw [if_neg (by simp; omega)] at this; exact this)
  have q3 : (56320 ≤ x) = False := by simp; omega
  have HX3 := hi_ hx3
  clear hx3 HR3
  go_wp2_with fail
  have H5 : Hid (Rd w (w4.setCell ⟨g, 0, none⟩ (.string ⟨rest.toArray⟩)) g b.pre) := hi_ (by rw [HPRE.out]; exact H3.out.s0 rest)
  generalize w4.setCell ⟨g, 0, none⟩ (.string ⟨rest.toArray⟩) = w5 at *
  clear c0 f0
  refine (four_calls H5.out.now (by rw [HPRE.out]; exact HLR.out)).mono ?_
  rintro E w6 ⟨rfl, h6⟩
  have H6 := hi_ (H5.out.trans h6)
  have HRR2 : Hid ((encL (signX x b.pre.four.1), if b.pre.four.1 < 56320 ∨ 57343 < b.pre.four.1 then b.pre.four.2.fail 11 else b.pre.four.2) = R) := HRR
  clear h6 H5 HRR
  obtain ⟨p, hp⟩ : ∃ p, b.pre.four = p := ⟨_, rfl⟩
  obtain ⟨y, c⟩ := p
  rw [hp] at HRR2 H6 ⊢
  clear hp
  have H7 : Hid (Rd w w6 g c) := H6
  have HRR3 : Hid ((encL (signX x y), if y < 56320 ∨ 57343 < y then c.fail 11 else c) = R) := HRR2
  clear H6 HRR2
  have q4 : (55296 : Int) ≤ x := HX.out.1
  have q5 : x < 56320 := by have := HX3.out; omega
  clear q1 q2 q3
  by_cases hy : y < 56320
  · have HF : Hid ((encL (signX x y), c.fail 11) = R) := hi_ (by have := HRR3.out; rw [if_pos (.inl hy)] at this; exact this)
    skip
    go_wp2_with fail
    refine (fail_calls H7.out.now 11).mono ?_
    rintro E w8 ⟨rfl, h8⟩
    have h8 := H7.out.trans h8
    go_wp2_with fail
    go_ret
    exact ⟨by rw [← HF.out]; show _ = Ending.returned (.string (ofL (encL (signX x y)))); rw [ofL_enc]; rfl, by rw [← HF.out]; exact h8⟩
  by_cases hy2 : 57343 < y
  · have HF : Hid ((encL (signX x y), c.fail 11) = R) := hi_ (by have := HRR3.out; rw [if_pos (.inr hy2)] at this; exact this)
    have r1 : (y < 56320) = False := by simp; omega
    have r2 : (57343 < y) = True := by simp; omega
    clear hy hy2
    go_wp2_with fail
    refine (fail_calls H7.out.now 11).mono ?_
    rintro E w8 ⟨rfl, h8⟩
    have h8 := H7.out.trans h8
    go_wp2_with fail
    go_ret
    exact ⟨by rw [← HF.out]; show _ = Ending.returned (.string (ofL (encL (signX x y)))); rw [ofL_enc]; rfl, by rw [← HF.out]; exact h8⟩
  have HF : Hid ((encL (signX x y), c) = R) := hi_ (by have := HRR3.out; rw [if_neg (by omega)] at this; exact this)
  have r1 : (y < 56320) = False := by simp; omega
  have r2 : (57343 < y) = False := by simp; omega
  clear hy hy2
  go_wp2_with fail
  go_ret
  exact ⟨by rw [← HF.out]; show _ = Ending.returned (.string (ofL (encL (signX x y)))); rw [ofL_enc]; rfl, by rw [← HF.out]; exact H7.out⟩
def escA : ByteArray := ⟨#[34, 92, 47, 98, 102, 110, 114, 116]⟩
def escB : ByteArray := ⟨#[34, 92, 47, 8, 12, 10, 13, 9]⟩
def escL (i : Int) : List UInt8 := (escB.extract i.toNat (i.toNat + 1)).data.toList
def escI (c : UInt8) : Int := Lib.indexByte escA.data.toList c
theorem indexByte_le : ∀ (l : List UInt8) (c : UInt8), Lib.indexByte l c + 1 ≤ l.length
 | [], _ => by simp [Lib.indexByte]
 | b :: l, c => by
  have := indexByte_le l c
  unfold Lib.indexByte
  split
  · simp; omega
  split
  · simp; omega
  simp; omega
theorem escI_b (c : UInt8) : -1 ≤ escI c ∧ escI c ≤ 7 := by
 refine ⟨Lib.indexByte_ge _ _, ?_⟩
 have := indexByte_le escA.data.toList c
 have h8 : escA.data.toList.length = 8 := rfl
 unfold escI
 omega
def S.escT (c : UInt8) (b : S) : List UInt8 × S := if c = 117 then b.sign else if escI c < 0 then ([], b.fail 11) else (escL (escI c), b)
def S.esc (a : S) : List UInt8 × S := match a.s with
 | [] => ([], a.fail 11)
 | c :: l => S.escT c { a with s := l }
theorem sgn_len (x : Int) (c : S) : (S.sgn x c).2.s.length ≤ c.s.length ∧ (S.sgn x c).1.length ≤ 4 ∧ (S.sgn x c).2.o = c.o := by
 refine ⟨?_, encL_len _, ?_⟩
 · unfold S.sgn; simp only []; split
   · rw [fail_s]; exact four_len c
   exact four_len c
 unfold S.sgn; simp only []; split
 · rw [fail_o]; exact four_o c
 exact four_o c
theorem sign_len (a : S) : a.sign.2.s.length ≤ a.s.length ∧ a.sign.1.length ≤ 4 ∧ a.sign.2.o = a.o := by
 have h1 := four_len a
 have h2 := four_o a
 unfold S.sign
 split
 · exact ⟨h1, encL_len _, h2⟩
 split
 · exact ⟨by rw [fail_s]; exact h1, by simp, by rw [fail_o]; exact h2⟩
 have h3 := sgn_len a.four.1 a.four.2.pre
 have h4 : a.four.2.pre.s.length ≤ a.four.2.s.length := by
  unfold S.pre Lib.trimPrefix; simp only []; split <;> simp
 exact ⟨by omega, h3.2.1, h3.2.2.trans h2⟩
theorem esc_len (a : S) : a.esc.2.s.length ≤ a.s.length ∧ a.esc.1.length ≤ 16 ∧ a.esc.2.o = a.o := by
 unfold S.esc
 split
 · rename_i h; exact ⟨by rw [fail_s]; exact Nat.le_refl _, by simp, by rw [fail_o]⟩
 rename_i c l h
 rw [h]
 unfold S.escT
 split
 · have := sign_len { a with s := l }
   exact ⟨by have := this.1; simp at this ⊢; omega, by omega, this.2.2⟩
 split
 · exact ⟨by rw [fail_s]; simp, by simp, by rw [fail_o]⟩
 exact ⟨by simp, by unfold escL; simp; omega, rfl⟩
set_option maxRecDepth 100000 in
set_option maxHeartbeats 8000000 in
theorem esc_calls : ECalls (fun a => a.s.length ≤ 1000000) S.esc := by
 intro w w1 g a h hl
 have H := hi_ h
 have c0 := h.c0
 have f0 := h.fz 0
 have HL := hi_ hl
 cases hs : a.s with
 | nil =>
  have HR : Hid (a.esc = ([], a.fail 11)) := hi_ (by unfold S.esc; rw [hs])
  rw [HR.out]
  rw [hs] at c0
  have hE : ofL [] = (⟨#[]⟩ : ByteArray) := rfl
  rw [hE] at c0 ⊢
  clear h hs hl hE
  go_enter Tryz.func119, Tryz.ntmps119
  go_wp2_with fail
  refine (fail_calls H.out.now 11).mono ?_
  rintro E w2 ⟨rfl, h2⟩
  have h2 := H.out.trans h2
  go_wp2_with fail
  go_ret
  exact ⟨rfl, h2⟩
 | cons c l =>
  have HR : Hid (a.esc = S.escT c { a with s := l }) := hi_ (by unfold S.esc; rw [hs])
  rw [HR.out]
  obtain ⟨R, hR⟩ : ∃ R, S.escT c { a with s := l } = R := ⟨_, rfl⟩
  have HR2 : Hid ((if c = 117 then S.sign { a with s := l } else if escI c < 0 then ([], S.fail { a with s := l } 11) else (escL (escI c), { a with s := l })) = R) := hi_ hR
  rw [hR]
  obtain ⟨s, hS⟩ : ∃ s, ofL a.s = s := ⟨_, rfl⟩
  rw [hS] at c0
  have hz : 0 < s.size := by rw [← hS, ofL_size, hs]; simp
  have hzI : (0 : Int) < (s.size : Int) := by omega
  have hz1 : (1 : Int) ≤ (s.size : Int) := by omega
  have hne : s.toList.isEmpty = false := by rw [← hS, hs, ofL_toList]; rfl
  have HB0 : Hid (s[0]'hz = c) := hi_ (by subst hS; simp only [hs]; rfl)
  have HX : Hid (s.extract 1 s.size = ofL l) := hi_ (by rw [← hS, ofL_ext, ofL_size, List.take_length, hs]; rfl)
  have HBL : Hid (l.length ≤ 1000000) := hi_ (by rw [hs] at hl; simp at hl; omega)
  obtain ⟨b, hb⟩ : ∃ b : S, b = { a with s := l } := ⟨_, rfl⟩
  have HB := hi_ hb
  rw [← hb] at HR2
  have hcc : escA = ⟨#[34, 92, 47, 98, 102, 110, 114, 116]⟩ := rfl
  have HC := hi_ hcc
  have hcd : escB = ⟨#[34, 92, 47, 8, 12, 10, 13, 9]⟩ := rfl
  have HD := hi_ hcd
  clear h hs hl hR HR hS hb hcc hcd
  by_cases h117 : c = 117
  · have e117 : (((s[0]'hz).toNat : Int) == 117) = true := by rw [HB0.out, h117]; rfl
    have HRR : Hid (b.sign = R) := hi_ (by have := HR2.out; rw [if_pos h117] at this; exact this)
    clear HR2 h117
    go_enter Tryz.func119, Tryz.ntmps119
    go_wp2_with fail
    rw [HX.out]
    have H2 : Hid (Rd w (w1.setCell ⟨g, 0, none⟩ (.string (ofL l))) g b) := hi_ (by rw [HB.out]; exact H.out.s0 l)
    refine (sign_calls H2.out.now (by rw [HB.out]; exact HBL.out)).mono ?_
    rintro E w3 ⟨rfl, h3⟩
    have h3 := H2.out.trans h3
    go_wp2_with fail
    go_ret
    exact ⟨by rw [← HRR.out]; rfl, by rw [← HRR.out]; exact h3⟩
  · have e117 : (((s[0]'hz).toNat : Int) == 117) = false := by
      rw [HB0.out]; simp
      intro e; exact h117 (UInt8.toNat_inj.1 (by have : c.toNat = 117 := by exact_mod_cast e
                                                 simpa using this))
    have HR3 : Hid ((if escI c < 0 then ([], b.fail 11) else (escL (escI c), b)) = R) := hi_ (by have := HR2.out; rw [if_neg h117] at this; exact this)
    clear HR2 h117
    have hbb := escI_b c
    have HJ : Hid (Lib.indexByte escA.data.toList (((s[0]'hz).toNat : Int)).toNat.toUInt8 = escI c) := hi_ (by rw [HB0.out]; unfold escI; simp)
    obtain ⟨i, hi⟩ : ∃ i, escI c = i := ⟨_, rfl⟩
    rw [hi] at HR3 HJ hbb
    clear hi
    go_enter Tryz.func119, Tryz.ntmps119
    go_wp2_with fail
    rw [HX.out]
    have H2 : Hid (Rd w (w1.setCell ⟨g, 0, none⟩ (.string (ofL l))) g b) := hi_ (by rw [HB.out]; exact H.out.s0 l)
    generalize w1.setCell ⟨g, 0, none⟩ (.string (ofL l)) = w2 at *
    refine (Tryz.strings_IndexByte _ _ _).mono ?_
    rintro E w3 ⟨rfl, rfl⟩
    have hA : (⟨#[34, 92, 47, 98, 102, 110, 114, 116]⟩ : ByteArray).data.toList = escA.data.toList := rfl
    rw [hA, HJ.out]
    clear hA c0 f0
    by_cases h0 : i < 0
    · have HRR : Hid (([], b.fail 11) = R) := hi_ (by have := HR3.out; rw [if_pos h0] at this; exact this)
      go_wp2_with fail
      refine (fail_calls H2.out.now 11).mono ?_
      rintro E w6 ⟨rfl, h6⟩
      have h6 := H2.out.trans h6
      go_wp2_with fail
      go_ret
      exact ⟨by rw [← HRR.out]; rfl, by rw [← HRR.out]; exact h6⟩
    · have HRR : Hid ((escL i, b) = R) := hi_ (by have := HR3.out; rw [if_neg h0] at this; exact this)
      have h0' : (0 : Int) ≤ i := by omega
      have h7 : i ≤ 7 := hbb.2
      obtain ⟨n, rfl⟩ : ∃ n : Nat, i = (n : Int) := ⟨i.toNat, by omega⟩
      clear h0 hbb HR3
      go_wp2_with fail
      go_ret
      exact ⟨by rw [← HRR.out]; show _ = Ending.returned (.string (ofL (escB.extract (n : Int).toNat ((n : Int).toNat + 1)).data.toList)); rw [ofL_bytes]; rfl, by rw [← HRR.out]; exact H2.out⟩
theorem good_esc : GoodE (fun a => a.s.length ≤ 1000000) S.esc := ⟨fun a _ => (esc_len a).1, fun a _ => (esc_len a).2.1⟩
def S.st (a : S) : List UInt8 × S := a.str S.esc
theorem st_calls {w w1 : World} {g : Nat} {a : S} (h : Rd w w1 g a) (hs : a.s ≠ []) (hl : a.s.length ≤ 1000000) :
    Calls Tryz.prog 94 #[.pointer (some ⟨g, 0, none⟩)] w1 fun E w' => E = .returned (.string (ofL a.st.1)) ∧ Rd w w' g a.st.2 :=
 str_calls esc_calls good_esc h hs hl (fun _ _ _ h => h) (fun b _ => (esc_len b).2.2)
theorem text_v : VCalls 67 (fun a => a.s ≠ [] ∧ a.s.length ≤ 1000000) (fun a => (⟨3, false, z24, ofL a.st.1, [], []⟩, a.st.2)) := fun w w1 g a h ok =>
 text_calls esc_calls good_esc w w1 g a h ⟨ok.1, ok.2, fun _ _ _ h => h, fun b _ => (esc_len b).2.2⟩
theorem plain_le (a : S) : a.plain.1 ≤ a.s.length ∧ (a.plain.2 = true → a.plain.1 < a.s.length) := by
 have := plainF_le (ofL a.s) ((ofL a.s).size + 1) 0 (by omega) (by omega)
 rw [ofL_size] at this
 unfold S.plain
 rw [ofL_size]
 exact this
theorem loop_len : ∀ (n : Nat) (out : List UInt8) (a : S), (strLoop S.esc n out a).2.s.length ≤ a.s.length ∧ (strLoop S.esc n out a).2.o = a.o ∧ (a.e ≠ 0 → (strLoop S.esc n out a).2.e ≠ 0)
 | 0, out, a => ⟨Nat.le_refl _, rfl, fun h => h⟩
 | n + 1, out, a => by
  rw [strLoop]
  split
  · exact ⟨Nat.le_refl _, rfl, fun h => h⟩
  rename_i h0
  split
  · exact ⟨by rw [fail_s]; exact Nat.le_refl _, by rw [fail_o], fun h => absurd h h0⟩
  have hc : a.cut.s.length ≤ a.s.length := by unfold S.cut; simp
  split
  · exact ⟨hc, rfl, fun h => absurd h h0⟩
  have h1 := esc_len a.cut
  have h2 := loop_len n (out ++ a.s.take a.plain.1 ++ (S.esc a.cut).1) (S.esc a.cut).2
  exact ⟨by omega, h2.2.1.trans h1.2.2, fun h => absurd h h0⟩
theorem st_len (a : S) : a.st.2.s.length ≤ a.s.length ∧ a.st.2.o = a.o ∧ (a.e ≠ 0 → a.st.2.e ≠ 0) := by
 have := loop_len (a.s.length + 1) [] a.tl
 have h2 : a.tl.s.length ≤ a.s.length := by unfold S.tl; simp
 exact ⟨Nat.le_trans this.1 h2, this.2.1, this.2.2⟩
theorem Ar.kept {w w' : World} {base b rb g : Nat} {xs : List S28} (h : Ar w base b rb g xs) (k : w.grownBy w' (some g)) : Ar w' base b rb g xs := by
 obtain ⟨v6, hv, hr⟩ := h.vc
 exact ⟨(k.block rb (Array.getElem?_eq_some_iff.1 h.rc).1 (by simpa using h.ne.2.1)).trans h.rc,
  ⟨v6, (k.block b (Array.getElem?_eq_some_iff.1 hv).1 (by simpa using h.ne.1)).trans hv, Kd.R_mono (Kd.R_grown (Kd.R_bound hr) k (fun i hi e => by have := hi.2.1; have := h.lt.2.2.1; injection e with e; omega)) (fun _ _ => trivial)⟩,
  ⟨h.lt.1, h.lt.2.1, h.lt.2.2.1, Nat.le_trans h.lt.2.2.2 k.size⟩, h.ne⟩
structure Good (fv : S → S28 × S) (ok Q : S → Prop) : Prop where
  ok_ : ∀ a, Q a → ok a
  next : ∀ a, Q a → Q (fv a).2
  take : ∀ a q, Q a → Q (a.take q)
  len : ∀ a, Q a → (fv a).2.s.length ≤ a.s.length
  bnd : ∀ a, Q a → 0 ≤ a.o ∧ a.o ≤ 1000 ∧ a.s.length ≤ 900000
def arrT (fv : S → S28 × S) (xs : List S28) (b : S) : List S28 × S := (xs ++ [(fv b).1], (fv b).2)
def S.arr (fv : S → S28 × S) (a : S) : S28 × S := let r := listF (arrT fv) [93] [] a; (⟨4, false, z24, ⟨#[]⟩, r.1, []⟩, r.2)
theorem arr_thing {fv : S → S28 × S} {ok Q : S → Prop} (HV : VCalls 34 ok fv) (HG : Good fv ok Q) {w : World} {base b rb g : Nat} (hb : w.heap.size ≤ b) (hbase : w.heap.size ≤ base) :
    Thing w g 96 #[.pointer (some ⟨b, 0, none⟩), .pointer (some ⟨rb, 0, none⟩)] (fun w' xs => Ar w' base b rb g xs) (arrT fv) (fun xs a => xs.length + a.s.length ≤ 900000 ∧ Q a) (fun xs a => xs.length + a.s.length ≤ 900001 ∧ Q a) where
 calls := fun w1 x a h hI hP => arr_step fv ok HV h hI (HG.ok_ a hP.2) hb hbase (by have := hP.1; omega)
 kept := fun w1 w2 x h k => h.kept k
 len := fun x a hP => HG.len a hP.2
 step := fun x a hP => ⟨by have := HG.len a hP.2; have := hP.1; show (x ++ [(fv a).1]).length + (fv a).2.s.length ≤ 900001; simp; omega, HG.next a hP.2⟩
 more := fun x a hP ht => ⟨by have := took_lt a 44 ht; have := hP.1; omega, HG.take a _ hP.2⟩
 open_ := fun x a hP => ⟨(HG.bnd a hP.2).1, (HG.bnd a hP.2).2.1⟩
set_option maxRecDepth 100000 in
set_option maxHeartbeats 8000000 in
theorem array_calls {fv : S → S28 × S} {ok Q : S → Prop} (HV : VCalls 34 ok fv) (HG : Good fv ok Q) :
    VCalls 68 (fun a => (0 ≤ a.o ∧ a.o ≤ 100) ∧ a.s ≠ [] ∧ (0 ≤ a.enter.o ∧ a.enter.o ≤ 1000) ∧ Q (a.enter.take [93])) (S.arr fv) := by
 intro w w1 g a h hok
 have H := hi_ h
 have HOK := hi_ hok
 have HVG := hi_ (And.intro HV HG)
 clear h hok HV HG
 go_enter Tryz.func68, Tryz.ntmps68
 obtain ⟨w2, hw2⟩ : ∃ w2, w2 = (w1.alloc (.cells #[.pointer (some ⟨g, 0, none⟩)] 77)).alloc (.cells #[.int .i64 0, .bool false, .bool false, .string ⟨#[]⟩, .int .i64 0, .string ⟨#[]⟩, .slice none 0 0, .slice none 0 0] 28) := ⟨_, rfl⟩
 have HW2 := hi_ hw2
 clear hw2
 have hsz : w2.heap.size = w1.heap.size + 2 := by rw [HW2.out]; simp
 have HSZ := hi_ hsz
 clear hsz
 have H2 : Hid (Rd w w2 g a) := hi_ (by rw [HW2.out]; exact H.out.below ((Below.alloc (Below.refl _ _) (Nat.le_refl _) _).alloc (by simp) _))
 have hrb : w2.heap[w1.heap.size]? = some (.cells #[.pointer (some ⟨g, 0, none⟩)] 77 (0, 0)) := by rw [HW2.out]; exact blk_alloc (blk_new w1 _) _
 have hrz : w2.heap[w1.heap.size + 1]? = some (.cells #[.int .i64 0, .bool false, .bool false, .string ⟨#[]⟩, .int .i64 0, .string ⟨#[]⟩, .slice none 0 0, .slice none 0 0] 28 (0, 0)) := by
  rw [HW2.out]; have := blk_new (w1.alloc (.cells #[.pointer (some ⟨g, 0, none⟩)] 77)) (.cells #[.int .i64 0, .bool false, .bool false, .string ⟨#[]⟩, .int .i64 0, .string ⟨#[]⟩, .slice none 0 0, .slice none 0 0] 28); simpa using this
 have hvb : (w2.alloc (.cells #[.int .i64 4, .bool false, .bool false, .string ⟨#[]⟩, .int .i64 0, .string ⟨#[]⟩, .slice none 0 0, .slice none 0 0] 28)).heap[w1.heap.size + 1 + 1]? = some (.cells #[.int .i64 4, .bool false, .bool false, .string ⟨#[]⟩, .int .i64 0, .string ⟨#[]⟩, .slice none 0 0, .slice none 0 0] 28 (0, 0)) := by
  have := blk_new w2 (.cells #[.int .i64 4, .bool false, .bool false, .string ⟨#[]⟩, .int .i64 0, .string ⟨#[]⟩, .slice none 0 0, .slice none 0 0] 28); rw [HSZ.out] at this; exact this
 have hgl := H.out.lt
 have HAR : Hid (Ar (w2.alloc (.cells #[.int .i64 4, .bool false, .bool false, .string ⟨#[]⟩, .int .i64 0, .string ⟨#[]⟩, .slice none 0 0, .slice none 0 0] 28)) (w1.heap.size + 3) (w1.heap.size + 1 + 1) w1.heap.size g []) := hi_
  ⟨blk_alloc hrb _, ⟨_, hvb, Kd.R_nil _ _ _ _ _⟩, ⟨by omega, by omega, by omega, by simp [HSZ.out]⟩, ⟨by omega, by omega, by omega⟩⟩
 have HRZ := hi_ hrz
 have HGL := hi_ hgl
 have HT := hi_ (arr_thing HVG.out.1 HVG.out.2 (w := w2) (base := w1.heap.size + 3) (b := w1.heap.size + 1 + 1) (rb := w1.heap.size) (g := g) (by have := HSZ.out; omega) (by have := HSZ.out; omega))
 have HPX : Hid (Q (a.enter.take [93])) := hi_ HOK.out.2.2.2
 clear hrb hrz hvb hgl
 go_wp2_with fail
 rw [← HW2.out]
 refine (list_67 HT.out [93] (H2.out.now.below (Below.alloc (Below.refl _ _) (Nat.le_refl _) _)) HAR.out HOK.out.1 HOK.out.2.1 (fun _ => ⟨by have := (HVG.out.2.bnd _ HPX.out).2.2; simp; omega, HPX.out⟩) HOK.out.2.2.1).mono ?_
 rintro E w4 ⟨rfl, h4, hA4⟩
 obtain ⟨v6, hv6, hr6⟩ := hA4.vc
 have HR4 := hi_ (h4.keep HRZ.out (by have := HGL.out; omega))
 have HV6 := hi_ hv6
 have H4 := hi_ (H2.out.trans h4)
 have HX4 := hi_ (k28.M_mono (ok' := fun _ => True) (fun _ _ => trivial) (k28_mkM w4 (w1.heap.size + 3) (fun _ => True) (S.arr fv a).1 (v6 := v6) hr6 (Kd.R_nil _ _ _ _ _ : Kd.string.R 9 w4 (w1.heap.size + 3) (fun _ => True) (.slice none 0 0) [])))
 have hone : (#[.int .i64 4, .bool false, .bool false, .string ⟨#[]⟩, .int .i64 0, .string ⟨#[]⟩, v6, .slice none 0 0] : Array Value).toList.all (·.oneCell') = true := List.all_eq_true.2 (fun u hu => k28.K_one (k28.K_of_M HX4.out) u hu)
 have HON := hi_ hone
 have HLW := hi_ H.out.kp.size
 clear h4 hA4 hv6 hr6 hone
 go_wp2_with (first | (refine wpList_load_row rfl 28 (.tmp 3) rfl (w1.heap.size + 1 + 1) rfl 28 _ (0, 0) _ HV6.out Tryz.underlying28 rfl (by kernel_rfl) ?_) | (refine row_event rfl 28 (.tmp 2) (.tmp 8) rfl (w1.heap.size + 1) _ rfl rfl 28 _ HR4.out (by kernel_rfl) rfl HON.out ?_; intro w9 hr9 hk9))
 refine bodyPost_ret (results_cell_row rfl _ _ (w1.heap.size + 1) 28 _ (0, 0) _ rfl hr9 Tryz.underlying28 rfl (by kernel_rfl)) rfl ⟨_, rfl, Jv.up HX4.out hk9 (by omega) (by omega), ?_⟩
 exact H4.out.far hk9 (by have := HGL.out; omega) (by have := HLW.out; omega)
structure Ob (w : World) (base b rb g : Nat) (xs : List S28) (ns : List ByteArray) : Prop where
  rc : w.heap[rb]? = some (.cells #[.pointer (some ⟨g, 0, none⟩)] 77 (0, 0))
  vc : ∃ v6 v7, w.heap[b]? = some (.cells #[.int .i64 5, .bool false, .bool false, .string ⟨#[]⟩, .int .i64 0, .string ⟨#[]⟩, v6, v7] 28 (0, 0)) ∧ k28.R 28 w base (fun k => some k ≠ v7.ownBlock) v6 xs ∧ Kd.string.R 9 w base (fun _ => True) v7 ns
  lt : b < base ∧ rb < base ∧ g < base ∧ base ≤ w.heap.size
  ne : b ≠ g ∧ rb ≠ g ∧ b ≠ rb
theorem Ob.kept {w w' : World} {base b rb g : Nat} {xs : List S28} {ns : List ByteArray} (h : Ob w base b rb g xs ns) (k : w.grownBy w' (some g)) : Ob w' base b rb g xs ns := by
 obtain ⟨v6, v7, hv, hr, hn⟩ := h.vc
 exact ⟨(k.block rb (Array.getElem?_eq_some_iff.1 h.rc).1 (by simpa using h.ne.2.1)).trans h.rc,
  ⟨v6, v7, (k.block b (Array.getElem?_eq_some_iff.1 hv).1 (by simpa using h.ne.1)).trans hv,
   Kd.R_mono (Kd.R_grown (Kd.R_bound hr) k (fun i hi e => by have := hi.2.1; have := h.lt.2.2.1; injection e with e; omega)) (fun _ hk => hk.1),
   Kd.R_mono (Kd.R_grown (Kd.R_bound hn) k (fun i hi e => by have := hi.2.1; have := h.lt.2.2.1; injection e with e; omega)) (fun _ _ => trivial)⟩,
  ⟨h.lt.1, h.lt.2.1, h.lt.2.2.1, Nat.le_trans h.lt.2.2.2 k.size⟩, h.ne⟩
def put {α : Type} (l : List α) (i : Nat) (x : α) : List α := l.take i ++ [x] ++ l.drop i
def S.twice (a : S) (is : Bool) : S := if is = true then a.fail 31 else a
def objN (a : S) : ByteArray := ofL a.skip.st.1
def objA (ns : List ByteArray) (a : S) : S := (S.twice a.skip.st.2 (has ns (objN a))).need [58]
def objT (fv : S → S28 × S) (p : List S28 × List ByteArray) (a : S) : (List S28 × List ByteArray) × S :=
 if Lib.hasPrefix a.skip.s [34] = false then (p, a.skip.fail 11) else
 ((put p.1 (pos p.2 (objN a)) (fv (objA p.2 a)).1, put p.2 (pos p.2 (objN a)) (objN a)), (fv (objA p.2 a)).2)
structure ObP (W w : World) (base b rb g lo hi : Nat) (a : S) (v6 v7 : Value) (xs : List S28) (ns : List ByteArray) (x : S28) (cs : List Value) : Prop where
  rd : Rd w W g a
  rc : W.heap[rb]? = some (.cells #[.pointer (some ⟨g, 0, none⟩)] 77 (0, 0))
  vc : W.heap[b]? = some (.cells #[.int .i64 5, .bool false, .bool false, .string ⟨#[]⟩, .int .i64 0, .string ⟨#[]⟩, v6, v7] 28 (0, 0))
  r6 : k28.R 28 W base (fun k => some k ≠ v7.ownBlock) v6 xs
  r7 : Kd.string.R 9 W base (fun _ => True) v7 ns
  x : k28.M W lo (fun k => k < hi) x cs
  lt : base ≤ lo ∧ lo ≤ hi ∧ hi ≤ W.heap.size
  own : (∀ k, v6.ownBlock = some k → k < lo) ∧ ∀ k, v7.ownBlock = some k → k < lo ∨ hi ≤ k
theorem ObP.below {W W' w : World} {base b rb g lo hi : Nat} {a : S} {v6 v7 : Value} {xs : List S28} {ns : List ByteArray} {x : S28} {cs : List Value} (h : ObP W w base b rb g lo hi a v6 v7 xs ns x cs) (k : Below W.heap.size W W') : ObP W' w base b rb g lo hi a v6 v7 xs ns x cs :=
 ⟨h.rd.below k, (k.block rb (Array.getElem?_eq_some_iff.1 h.rc).1).trans h.rc, (k.block b (Array.getElem?_eq_some_iff.1 h.vc).1).trans h.vc, Kd.R_below h.r6 k, Kd.R_below h.r7 k, Kd.M_below h.x k, ⟨h.lt.1, h.lt.2.1, Nat.le_trans h.lt.2.2 k.size⟩, h.own⟩
theorem ObP.drew {W w : World} {base b rb g lo hi : Nat} {a : S} {v6 v7 : Value} {xs : List S28} {ns : List ByteArray} {x : S28} {cs : List Value} (h : ObP W w base b rb g lo hi a v6 v7 xs ns x cs) : ObP W.drew w base b rb g lo hi a v6 v7 xs ns x cs := h.below (Below.refl _ _).drew
theorem ObP.calls {W w : World} {base b rb g lo hi ms i : Nat} {a : S} {v6 v7 : Value} {xs : List S28} {ns : List ByteArray} {x : S28} {cs : List Value} {name : ByteArray} (h : ObP W w base b rb g lo hi a v6 v7 xs ns x cs)
    (hms : W.heap[ms]? = some (.cells #[.string name] 9 (0, 0))) (hlo : ∀ k, v7.ownBlock = some k → k < ms) (hi' : i ≤ ns.length) (hl : ns.length ≤ 1000000) (hb : w.heap.size ≤ b) (hbase : w.heap.size ≤ base) (hlt : b < base ∧ rb < base ∧ g < base) (h7 : ∀ k, v7.ownBlock = some k → k < lo) :
    Calls Tryz.prog 99 #[v7, .int .i64 i, .slice (some ⟨ms, 0, none⟩) 1 1] W fun E w' => ∃ vn, E = .returned vn ∧ Rd w w' g a ∧ w'.heap[rb]? = some (.cells #[.pointer (some ⟨g, 0, none⟩)] 77 (0, 0)) ∧
     w'.heap[b]? = some (.cells #[.int .i64 5, .bool false, .bool false, .string ⟨#[]⟩, .int .i64 0, .string ⟨#[]⟩, v6, v7] 28 (0, 0)) ∧ k28.R 28 w' base (fun k => some k ≠ vn.ownBlock) v6 xs ∧ Kd.string.R 9 w' base (fun _ => True) vn (put ns i name) ∧
     k28.M w' lo (fun k => k < hi ∧ some k ≠ vn.ownBlock) x cs ∧ W.grownBy w' v7.ownBlock ∧ (vn.ownBlock = v7.ownBlock ∨ vn.ownBlock = some W.heap.size) := by
 have hown7 : ∀ k, v7.ownBlock = some k → base ≤ k := fun k e => (Kd.R_bound h.r7).1 k e |>.2.1
 refine (insT_R (x := name) (xcs := [.string name]) (m := ms) (okp := fun _ => False) h.r7 (show Kd.string.M W base (fun _ => False) name [.string name] from rfl) (fun k hk => hk.elim) (fun _ _ => trivial) hi' hl (Nat.le_trans h.lt.1 (Nat.le_trans h.lt.2.1 h.lt.2.2)) hms (fun e => by have := hlo ms e.symm; omega)).mono ?_
 rintro E w' ⟨vn, rfl, hR, hg, hat⟩
 have hsz := hg.size
 have hne : ∀ k, some k ≠ v7.ownBlock → k < W.heap.size → some k ≠ vn.ownBlock := fun k h1 h2 => by
  rcases hat with e | e
  · rw [e]; exact h1
  rw [e]; intro e2; injection e2 with e2; omega
 refine ⟨vn, rfl, h.rd.grow hg (fun k e => ?_), (hg.block rb (Array.getElem?_eq_some_iff.1 h.rc).1 (fun e => by have := hown7 rb e.symm; omega)).trans h.rc, (hg.block b (Array.getElem?_eq_some_iff.1 h.vc).1 (fun e => by have := hown7 b e.symm; omega)).trans h.vc, ?_, hR, ?_, hg, hat⟩
 · have := hown7 k e; exact ⟨by omega, by omega⟩
 · refine Kd.R_mono (Kd.R_grown (Kd.R_bound h.r6) hg (fun k hk e => hk.1 e)) (fun k hk => hne k hk.1 hk.2.2.1)
 · refine k28.M_mono (fun k hk => ⟨hk.1, hne k (fun e => ?_) hk.2.2.1⟩) (Kd.M_grown (k28.M_bound h.x) hg (fun k hk e => ?_))
   · have := h7 k e.symm; have := hk.2.1; omega
   have := h7 k e.symm; have := hk.2.1; omega
theorem exec_row {o : Oper} {a : Act} {W : World} {x : Operand} {g : Nat} {cells : Array Value} (ho : o.op = .load 28 x) (hx : a.eval x = .pointer (some ⟨g, 0, none⟩)) (hg : W.heap[g]? = some (.cells cells 28 (0, 0))) (hi : (Tryz.prog.info? 28).map (·.size) = some cells.size) :
    (execOp a.eval o).run Tryz.prog W = .ok (.value (.agg cells)) W := by
 unfold execOp
 simp only [ho, hx, Instr.loadAt, Instr.sureAddr, Sem.run_bind, Sem.run_pure, Result.andThen_ok, run_loadVar_row W g 28 28 cells (0, 0) _ hg Tryz.underlying28 rfl hi]
theorem fold8 (cs : List Value) (h : cs.length = 8) : List.foldl (fun (cs : Array Value) (x : Value × Nat) => cs.setIfInBounds x.snd x.fst) #[.int .i64 0, .bool false, .bool false, .string ⟨#[]⟩, .int .i64 0, .string ⟨#[]⟩, .slice none 0 0, .slice none 0 0] cs.zipIdx = cs.toArray := by
 rcases cs with _ | ⟨a, _ | ⟨b, _ | ⟨c, _ | ⟨d, _ | ⟨e, _ | ⟨f, _ | ⟨g, _ | ⟨k, _ | ⟨l, t⟩⟩⟩⟩⟩⟩⟩⟩⟩ <;> first | (exfalso; simp at h; done) | (exfalso; simp at h; omega) | (clear h; simp [List.zipIdx]; done) | rfl
set_option maxRecDepth 100000 in
set_option maxHeartbeats 8000000 in
theorem obj_step (fv : S → S28 × S) (ok : S → Prop) (HV : VCalls 34 ok fv) {w w1 : World} {g b rb base : Nat} {a : S} {xs : List S28} {ns : List ByteArray} (h : Rd w w1 g a) (hA : Ob w1 base b rb g xs ns) (hok : ok (objA ns a)) (hb : w.heap.size ≤ b) (hbase : w.heap.size ≤ base)
    (hl : xs.length ≤ 1000000 ∧ ns.length = xs.length ∧ a.s.length ≤ 1000000) :
    Calls Tryz.prog 97 #[.pointer (some ⟨rb, 0, none⟩), .pointer (some ⟨b, 0, none⟩)] w1 fun E w' => E = .returned (.tuple #[]) ∧ Rd w w' g (objT fv (xs, ns) a).2 ∧ Ob w' base b rb g (objT fv (xs, ns) a).1.1 (objT fv (xs, ns) a).1.2 := by
 have HVX := hi_ HV
 have HOK := hi_ hok
 have H := hi_ h
 have HA := hi_ hA
 have HLL := hi_ (And.intro hb (And.intro hbase hl))
 obtain ⟨R, hR⟩ : ∃ R, objT fv (xs, ns) a = R := ⟨_, rfl⟩
 have HR : Hid ((if Lib.hasPrefix a.skip.s [34] = false then ((xs, ns), a.skip.fail 11) else ((put xs (pos ns (objN a)) (fv (objA ns a)).1, put ns (pos ns (objN a)) (objN a)), (fv (objA ns a)).2)) = R) := hi_ hR
 rw [hR]
 have cr : w1.cell? ⟨rb, 0, none⟩ = some (.pointer (some ⟨g, 0, none⟩)) := (blk_cell hA.rc 0).trans rfl
 clear HV hok h hA hb hbase hl hR
 go_enter Tryz.func97, Tryz.ntmps97
 go_wp2_with fail
 refine (skip_calls H.out.now).mono ?_
 rintro E w2 ⟨rfl, h2⟩
 have HA2 := hi_ (HA.out.kept h2.kp)
 have H2 := hi_ (H.out.trans h2)
 clear h2 cr H HA
 have cr : w2.cell? ⟨rb, 0, none⟩ = some (.pointer (some ⟨g, 0, none⟩)) := (blk_cell HA2.out.rc 0).trans rfl
 have c0 := H2.out.c0
 go_wp2_with fail
 refine (Tryz.strings_HasPrefix _ _ _).mono ?_
 rintro E w3 ⟨rfl, rfl⟩
 have e1 : (ofL a.skip.s).data.toList = a.skip.s := by simp [ofL]
 have e2 : (⟨#[34]⟩ : ByteArray).data.toList = [34] := rfl
 rw [e1, e2]
 clear e1 e2
 cases hp : Lib.hasPrefix a.skip.s [34] with
 | false =>
  have HRR : Hid (((xs, ns), a.skip.fail 11) = R) := hi_ (by have := HR.out; rw [hp, if_pos rfl] at this; exact this)
  clear hp HR
  go_wp2_with fail
  refine (fail_calls H2.out.now 11).mono ?_
  rintro E w4 ⟨rfl, h4⟩
  have HA4 := hi_ (HA2.out.kept h4.kp)
  have H4 := hi_ (H2.out.trans h4)
  clear h4
  go_wp2_with fail
  exact bodyPost_ret (results_none rfl _ _ _) rfl ⟨rfl, by rw [← HRR.out]; exact H4.out, by rw [← HRR.out]; exact HA4.out⟩
 | true =>
  have HRR : Hid (((put xs (pos ns (objN a)) (fv (objA ns a)).1, put ns (pos ns (objN a)) (objN a)), (fv (objA ns a)).2) = R) := hi_ (by have := HR.out; rw [hp, if_neg (by simp)] at this; exact this)
  have hne : a.skip.s ≠ [] := fun e => by rw [e] at hp; cases hp
  have hll : a.skip.s.length ≤ 1000000 := by
   have : a.skip.s.length ≤ a.s.length := by unfold S.skip Lib.trimLeftS; exact (List.dropWhile_sublist _).length_le
   have := HLL.out.2.2.2.2; omega
  have HSS : Hid (Calls Tryz.prog 94 #[.pointer (some ⟨g, 0, none⟩)] w3 fun E w' => E = .returned (.string (objN a)) ∧ Rd w3 w' g a.skip.st.2) := hi_ (st_calls H2.out.now hne hll)
  clear hp HR hne hll c0
  go_wp2_with fail
  refine HSS.out.mono ?_
  rintro E w4 ⟨rfl, h4⟩
  have HA4 := hi_ (HA2.out.kept h4.kp)
  have H4 := hi_ (H2.out.trans h4)
  clear h4 cr HSS HA2 H2
  obtain ⟨v6, v7, hv, hr6, hr7⟩ := HA4.out.vc
  have cr : w4.cell? ⟨rb, 0, none⟩ = some (.pointer (some ⟨g, 0, none⟩)) := (blk_cell HA4.out.rc 0).trans rfl
  have c5 : w4.cell? ⟨b, 5, none⟩ = some (.slice none 0 0) ∨ True := .inr trivial
  have c7 : w4.cell? ⟨b, 7, none⟩ = some v7 := (blk_cell hv 7).trans rfl
  have HSE := hi_ (search_calls (objN a) hr7 (by have := HLL.out.2.2; omega))
  clear hv hr6 hr7 c5
  go_wp2_with fail
  refine HSE.out.mono ?_
  rintro E w5 ⟨rfl, q, rfl⟩
  obtain ⟨i, hi⟩ : ∃ i, pos ns (objN a) = i := ⟨_, rfl⟩
  obtain ⟨is, his⟩ : ∃ is, has ns (objN a) = is := ⟨_, rfl⟩
  have HI := hi_ hi
  have HIS := hi_ his
  rw [hi, his]
  clear hi his HSE c7
  have HA5 : Hid (Ob (w4.drewN q) base b rb g xs ns) := hi_ (HA4.out.kept ⟨rfl, rfl, rfl, Nat.le_refl _, fun _ _ _ => rfl⟩)
  have H5 : Hid (Rd w (w4.drewN q) g a.skip.st.2) := hi_ (H4.out.dN q)
  generalize w4.drewN q = w5 at *
  clear H4 HA4 cr
  have cr : w5.cell? ⟨rb, 0, none⟩ = some (.pointer (some ⟨g, 0, none⟩)) := (blk_cell HA5.out.rc 0).trans rfl
  go_upto_if 25 with (fail)
  go_cut [] (fun wx => Hid (Rd w wx g (S.twice a.skip.st.2 is)) ∧ Hid (Ob wx base b rb g xs ns))
  · cases is with
    | true =>
     go_wp2_with fail
     refine (fail_calls H5.out.now 31).mono ?_
     rintro E w6 ⟨rfl, h6⟩
     have HA6 := hi_ (HA5.out.kept h6.kp)
     have H6 := hi_ (H5.out.trans h6)
     go_wp2_with fail
     go_meet
     exact ⟨H6, HA6⟩
    | false =>
     go_wp2_with fail
     go_meet
     exact ⟨H5, HA5⟩
  obtain ⟨H6, HA6⟩ := hcut
  have HQ : Hid (S.twice a.skip.st.2 is = S.twice a.skip.st.2 (has ns (objN a))) := hi_ (by rw [HIS.out])
  rw [HQ.out] at H6
  clear H5 HA5 cr HQ
  have cr : wc.cell? ⟨rb, 0, none⟩ = some (.pointer (some ⟨g, 0, none⟩)) := (blk_cell HA6.out.rc 0).trans rfl
  go_wp2_with fail
  refine (need_calls H6.out.now [58]).mono ?_
  rintro E w7 ⟨rfl, h7⟩
  have HA7 := hi_ (HA6.out.kept h7.kp)
  have H7 : Hid (Rd w w7 g (objA ns a)) := hi_ (H6.out.trans h7)
  clear h7 H6 HA6 cr
  have cr : w7.cell? ⟨rb, 0, none⟩ = some (.pointer (some ⟨g, 0, none⟩)) := (blk_cell HA7.out.rc 0).trans rfl
  go_wp2_with fail
  refine (HVX.out _ _ g _ H7.out.now HOK.out).mono ?_
  rintro E w8 ⟨v, rfl, hv, h8⟩
  have HA8 := hi_ (HA7.out.kept h8.kp)
  have H8 := hi_ (H7.out.trans h8)
  have H78 := hi_ h8
  obtain ⟨cs, rfl, hl8, ho8, hi8, hM⟩ := hv.of
  have HM := hi_ hM
  have H1C := hi_ (fun u hu => k28.K_one (k28.K_of_M hM) u hu)
  clear hv h8 hM cr
  have HI8 := hi_ hi8
  have HO8 := hi_ ho8
  have HL8 := hi_ hl8
  clear hi8 ho8 hl8
  have HN8 : Hid ((w8.alloc (.cells zA 28)).heap[w8.heap.size]? = some (.cells zA 28 (0, 0))) := hi_ (blk_new w8 (.cells zA 28))
  have hcs0 : Hid (zA.size = cs.toArray.size) := hi_ (by rw [HL8.out]; rfl)
  go_wp2_with (refine row_event rfl 28 (.tmp 5) (.tmp 31) rfl w8.heap.size _ rfl rfl 28 _ HN8.out HI8.out hcs0.out HO8.out ?_; intro w9 hr9 hk9)
  have HB0 : Below w8.heap.size w8 (w8.alloc (.cells zA 28)) := Below.alloc (Below.refl _ _) (Nat.le_refl _) _
  have HB89 : Below w8.heap.size w8 w9 := HB0.grown hk9 HB0.size (fun i e => Nat.le_of_eq (Option.some.inj e))
  have hk78 := H78.out.kp
  have HOB := hi_ (And.intro HA7.out.lt HA7.out.ne)
  obtain ⟨v6, v7, hv, hr6, hr7⟩ := HA7.out.vc
  obtain ⟨A6, c6, hq6⟩ := Kd.R_slice hr6
  obtain ⟨A7, c7, hq7⟩ := Kd.R_slice hr7
  subst hq6 hq7
  have HP : Hid (ObP w9 w base b rb g w7.heap.size w8.heap.size (fv (objA ns a)).2 (.slice A6 xs.length c6) (.slice A7 ns.length c7) xs ns (fv (objA ns a)).1 cs) := hi_
   ⟨H8.out.below HB89, (HB89.block rb (Array.getElem?_eq_some_iff.1 HA8.out.rc).1).trans HA8.out.rc,
    (HB89.block b (Nat.lt_of_lt_of_le (Array.getElem?_eq_some_iff.1 hv).1 hk78.size)).trans ((hk78.block b (Array.getElem?_eq_some_iff.1 hv).1 (by simpa using HOB.out.2.1)).trans hv),
    Kd.R_below (Kd.R_mono (Kd.R_grown (Kd.R_bound hr6) hk78 (fun i hi e => by have := hi.2.1; have := HOB.out.1.2.2.1; injection e with e; omega)) (fun _ hk => hk.1)) HB89,
    Kd.R_below (Kd.R_mono (Kd.R_grown (Kd.R_bound hr7) hk78 (fun i hi e => by have := hi.2.1; have := HOB.out.1.2.2.1; injection e with e; omega)) (fun _ _ => trivial)) HB89,
    Kd.M_below (k28.M_mono (fun k hk => hk.2.2.1) (k28.M_bound HM.out)) HB89,
    ⟨HOB.out.1.2.2.2, hk78.size, HB89.size⟩,
    fun k e => ((Kd.R_bound hr6).1 k e).2.2.1, fun k e => .inl ((Kd.R_bound hr7).1 k e).2.2.1⟩
  have H70 : Hid (∀ k, (Value.slice A7 ns.length c7).ownBlock = some k → k < w7.heap.size) := hi_ (fun k e => ((Kd.R_bound hr7).1 k e).2.2.1)
  have HR9 := hi_ hr9
  clear hv hr6 hr7 hr9 hk9 HB0 HB89 hk78 HA7 HA8 H7 H8 H78 HN8 hcs0 HM HVX HOK HIS
  refine start_ (n := 16) (S := fun w' => w'.heap[b]? = some (.cells #[.int .i64 5, .bool false, .bool false, .string ⟨#[]⟩, .int .i64 0, .string ⟨#[]⟩, .slice A6 xs.length c6, .slice A7 ns.length c7] 28 (0, 0)) ∧ w'.heap[w8.heap.size]? = some (.cells cs.toArray 28 (0, 0))) (ds := [11, 13, 14, 15]) #[false, false, false, false, false, false, false, false, false, false, false, false, false, false, false, false] (by kernel_rfl) rfl rfl ⟨HP.out.vc, HR9.out⟩ (fun hHeld => ?_)
  refine pure_ (i := 0) (N := some 32) (v := ?_) (a' := ?_) #[true, false, false, false, false, false, false, false, false, false, false, false, false, false, false, false] rfl rfl (by kernel_rfl) (fun _ _ _ h => h) (Or.inl ⟨by rfl, ?_⟩) ?_ ?_
  rotate_left
  · intro w'
    go_simp
    with_reducible rfl
  rotate_left
  · simp only [Act.put, List.setIfInBounds_toArray, List.set_cons_zero, List.set_cons_succ]
    rfl
  refine pure_ (i := 2) (N := some 34) (v := ?_) (a' := ?_) #[true, false, true, false, false, false, false, false, false, false, false, false, false, false, false, false] rfl rfl (by kernel_rfl) (fun _ _ _ h => h) (Or.inl ⟨by rfl, ?_⟩) ?_ ?_
  rotate_left
  · intro w'
    go_simp
    with_reducible rfl
  rotate_left
  · simp only [Act.put, List.setIfInBounds_toArray, List.set_cons_zero, List.set_cons_succ]
    rfl
  refine pure_ (i := 3) (N := some 35) (v := ?_) (a' := ?_) #[true, false, true, true, false, false, false, false, false, false, false, false, false, false, false, false] rfl rfl (by kernel_rfl) (fun _ _ _ h => h) (Or.inl ⟨by rfl, ?_⟩) ?_ ?_
  rotate_left
  · intro w'
    go_simp
    with_reducible rfl
  rotate_left
  · simp only [Act.put, List.setIfInBounds_toArray, List.set_cons_zero, List.set_cons_succ]
    rfl
  refine pure_ (i := 6) (N := some 38) (v := ?_) (a' := ?_) #[true, false, true, true, false, false, true, false, false, false, false, false, false, false, false, false] rfl rfl (by kernel_rfl) (fun _ _ _ h => h) (Or.inl ⟨by rfl, ?_⟩) ?_ ?_
  rotate_left
  · intro w'
    go_simp
    with_reducible rfl
  rotate_left
  · simp only [Act.put, List.setIfInBounds_toArray, List.set_cons_zero, List.set_cons_succ]
    rfl
  refine pure_ (i := 8) (N := some 40) (v := ?_) (a' := ?_) #[true, false, true, true, false, false, true, false, true, false, false, false, false, false, false, false] rfl rfl (by kernel_rfl) (fun _ _ _ h => h) (Or.inl ⟨by rfl, ?_⟩) ?_ ?_
  rotate_left
  · intro w'
    go_simp
    with_reducible rfl
  rotate_left
  · simp only [Act.put, List.setIfInBounds_toArray, List.set_cons_zero, List.set_cons_succ]
    rfl
  refine take_ (i := 1) (N := some 33) (v := ?_) (a' := ?_) #[true, true, true, true, false, false, true, false, true, false, false, false, false, false, false, false] rfl rfl (by kernel_rfl) (fun _ _ _ h => h) (Or.inl ⟨by rfl, ?_⟩) hHeld ?_ ?_
  rotate_left
  · rintro w' ⟨s0, s1⟩
    have q : w'.cell? ⟨b, 7, none⟩ = some (.slice A7 ns.length c7) := (blk_cell s0 7).trans rfl
    go_simp
    with_reducible rfl
  rotate_left
  · simp only [Act.put, List.setIfInBounds_toArray, List.set_cons_zero, List.set_cons_succ]
    rfl
  refine take_ (i := 7) (N := some 39) (v := ?_) (a' := ?_) #[true, true, true, true, false, false, true, true, true, false, false, false, false, false, false, false] rfl rfl (by kernel_rfl) (fun _ _ _ h => h) (Or.inl ⟨by rfl, ?_⟩) hHeld ?_ ?_
  rotate_left
  · rintro w' ⟨s0, s1⟩
    have q : w'.cell? ⟨b, 6, none⟩ = some (.slice A6 xs.length c6) := (blk_cell s0 6).trans rfl
    go_simp
    with_reducible rfl
  rotate_left
  · simp only [Act.put, List.setIfInBounds_toArray, List.set_cons_zero, List.set_cons_succ]
    rfl
  refine take_ (i := 9) (N := some 41) (v := .agg cs.toArray) (a' := ?_) #[true, true, true, true, false, false, true, true, true, true, false, false, false, false, false, false] rfl rfl (by kernel_rfl) (fun _ _ _ h => h) (Or.inl ⟨by rfl, ?_⟩) hHeld ?_ ?_
  · rintro w' ⟨s0, s1⟩
    exact exec_row rfl rfl s1 HI8.out
  rotate_left
  · simp only [Act.put, List.setIfInBounds_toArray, List.set_cons_zero, List.set_cons_succ]
    rfl
  have HI2 : Hid (i ≤ ns.length) := hi_ (by rw [← HI.out]; exact pos_le _ _)
  have HL2 : Hid (ns.length ≤ 1000000) := hi_ (by have := HLL.out.2.2; omega)
  have HSZ : Hid (w7.heap.size ≤ w8.heap.size ∧ w8.heap.size < w9.heap.size) := hi_ ⟨HP.out.lt.2.1, (Array.getElem?_eq_some_iff.1 HR9.out).1⟩
  refine join_ (σ := Value × Nat × Nat) 4 #[true, true, true, true, true, true, true, true, true, true, true, false, true, false, false, false] (fun s => [(36, .slice (some ⟨s.2.1, 0, none⟩) 1 1), (37, s.1), (42, .slice (some ⟨s.2.2, 0, none⟩) 1 1), (44, .pointer (some ⟨b, 7, none⟩))])
   (fun s w' => Rd w w' g (fv (objA ns a)).2 ∧ w'.heap[rb]? = some (.cells #[.pointer (some ⟨g, 0, none⟩)] 77 (0, 0)) ∧ w'.heap[b]? = some (.cells #[.int .i64 5, .bool false, .bool false, .string ⟨#[]⟩, .int .i64 0, .string ⟨#[]⟩, .slice A6 xs.length c6, .slice A7 ns.length c7] 28 (0, 0)) ∧ k28.R 28 w' base (fun k => some k ≠ s.1.ownBlock) (.slice A6 xs.length c6) xs ∧ Kd.string.R 9 w' base (fun _ => True) s.1 (put ns i (objN a)) ∧
    k28.M w' w7.heap.size (fun k => k < w8.heap.size ∧ some k ≠ s.1.ownBlock) (fv (objA ns a)).1 cs ∧ w'.heap[s.2.2]? = some (.cells cs.toArray 28 (0, 0)) ∧ w8.heap.size ≤ s.2.2) ?_ ?_
  rotate_left
  · intro hCont
    refine two_ (i := 4) (j := 10) (Ni := some 36) (Nj := some 42) #[true, true, true, true, true, false, true, true, true, true, false, false, false, false, false, false] #[true, true, true, true, false, false, true, true, true, true, true, false, false, false, false, false] rfl rfl rfl rfl (by kernel_rfl) (by decide) (by decide) (fun K hK => ?_) (fun K hK => ?_)
    ·
     refine value_ (v := .slice (some ⟨w9.heap.size, 0, none⟩) 1 1) (w1 := w9.drew.alloc (.cells #[.string (objN a)] 9)) (by rfl) rfl ?_ ?_
     · go_simp; try rfl
     have HP1 := hi_ (HP.out.drew.below (Below.alloc (Below.refl _ _) (Nat.le_refl _) (.cells #[.string (objN a)] 9)))
     have HX1 := hi_ (blk_alloc (w := w9.drew) HR9.out (.cells #[.string (objN a)] 9))
     have HMS := hi_ (blk_new w9.drew (.cells #[.string (objN a)] 9))
     have HWS : Hid ((w9.drew.alloc (.cells #[.string (objN a)] 9)).heap.size = w9.heap.size + 1) := hi_ (by simp)
     refine hK.out _ _ ⟨HP1.out.vc, HX1.out⟩ (fun hHeld => ?_)
     clear hK K
     refine norm_ (a' := ?_) ?_ ?_
     rotate_left
     · show Act.put _ (some 36) _ = _
       simp only [Act.put, List.setIfInBounds_toArray, List.set_cons_zero, List.set_cons_succ]
       rfl
     generalize w9.drew.alloc (.cells #[.string (objN a)] 9) = W1 at *
     refine two_ (i := 5) (j := 10) (Ni := some 37) (Nj := some 42) #[true, true, true, true, true, true, true, true, true, true, false, false, false, false, false, false] #[true, true, true, true, true, false, true, true, true, true, true, false, false, false, false, false] rfl rfl rfl rfl (by kernel_rfl) (by decide) (by decide) (fun K hK => ?_) (fun K hK => ?_)
     · refine goes_ Tryz.func99 (by kernel_rfl) rfl #[.slice A7 ns.length c7, .int .i64 i, .slice (some ⟨w9.heap.size, 0, none⟩) 1 1] (by rfl) rfl rfl (by (try simp only [List.map_toArray, List.map_cons, List.map_nil]); rfl) ?_
       refine (ObP.calls HP1.out HMS.out (fun k e => by have := H70.out k e; have := HSZ.out; have := HWS.out; simp at *; omega) HI2.out HL2.out HLL.out.1 HLL.out.2.1 ⟨HOB.out.1.1, HOB.out.1.2.1, HOB.out.1.2.2.1⟩ H70.out).mono ?_
       rintro E w4 ⟨vn, rfl, q1, q2, q3, q4, q5, q6, q7, q8⟩
       refine ⟨_, rfl, ?_⟩
       have hx4 := (q7.block w8.heap.size (Array.getElem?_eq_some_iff.1 HX1.out).1 (fun e => by have := H70.out _ e.symm; have := HSZ.out; omega)).trans HX1.out
       refine hK.out _ _ ⟨q3, hx4⟩ (fun hHeld => ?_)
       clear hK K
       refine norm_ (a' := ?_) ?_ ?_
       rotate_left
       · show Act.put _ (some 37) _ = _
         simp only [Act.put, List.setIfInBounds_toArray, List.set_cons_zero, List.set_cons_succ]
         rfl
       refine pure_ (i := 12) (N := some 44) (v := ?_) (a' := ?_) #[true, true, true, true, true, true, true, true, true, true, false, false, true, false, false, false] rfl rfl (by kernel_rfl) (fun _ _ _ h => h) (Or.inl ⟨by rfl, ?_⟩) ?_ ?_
       rotate_left
       · intro w'
         go_simp
         with_reducible rfl
       rotate_left
       · simp only [Act.put, List.setIfInBounds_toArray, List.set_cons_zero, List.set_cons_succ]
         rfl
       refine one_ (i := 10) (N := some 42) #[true, true, true, true, true, true, true, true, true, true, true, false, true, false, false, false] rfl rfl (by kernel_rfl) (by decide) (fun K hK => ?_)
       refine value_ (v := .slice (some ⟨w4.heap.size, 0, none⟩) 1 1) (w1 := w4.alloc (.cells cs.toArray 28)) (by rfl) rfl ?_ ?_
       · go_simp; rw [fold8 cs (by simpa using HL8.out)]; simp only [show cs.length = 8 by simpa using HL8.out]; go_simp; try rfl
       have k4 : Below w4.heap.size w4 (w4.alloc (.cells cs.toArray 28)) := Below.alloc (Below.refl _ _) (Nat.le_refl _) _
       refine hK.out _ _ ⟨blk_alloc q3 _, blk_alloc hx4 _⟩ (fun hHeld => ?_)
       clear hK K
       refine norm_ (a' := ?_) ?_ ?_
       rotate_left
       · show Act.put _ (some 42) _ = _
         simp only [Act.put, List.setIfInBounds_toArray, List.set_cons_zero, List.set_cons_succ]
         rfl
       refine norm_ (by simp only [putAll, Act.put, List.setIfInBounds_toArray, List.set_cons_zero, List.set_cons_succ]) (hCont (vn, w9.heap.size, w4.heap.size) _ ⟨q1.below k4, blk_alloc q2 _, blk_alloc q3 _, Kd.R_below q4 k4, Kd.R_below q5 k4, Kd.M_below q6 k4, blk_new w4 _, by have := q7.size; have := HWS.out; have := HSZ.out; show w8.heap.size ≤ w4.heap.size; omega⟩)
     refine value_ (v := .slice (some ⟨W1.heap.size, 0, none⟩) 1 1) (w1 := W1.alloc (.cells cs.toArray 28)) (by rfl) rfl ?_ ?_
     · go_simp; rw [fold8 cs (by simpa using HL8.out)]; simp only [show cs.length = 8 by simpa using HL8.out]; go_simp; try rfl
     have HP2 := hi_ (HP1.out.below (Below.alloc (Below.refl _ _) (Nat.le_refl _) (.cells cs.toArray 28)))
     have HX2 := hi_ (blk_alloc HX1.out (.cells cs.toArray 28))
     have HMS2 := hi_ (blk_alloc HMS.out (.cells cs.toArray 28))
     have HMX := hi_ (blk_new W1 (.cells cs.toArray 28))
     refine hK.out _ _ ⟨HP2.out.vc, HX2.out⟩ (fun hHeld => ?_)
     clear hK K
     refine norm_ (a' := ?_) ?_ ?_
     rotate_left
     · show Act.put _ (some 42) _ = _
       simp only [Act.put, List.setIfInBounds_toArray, List.set_cons_zero, List.set_cons_succ]
       rfl
     refine one_ (i := 5) (N := some 37) #[true, true, true, true, true, true, true, true, true, true, true, false, false, false, false, false] rfl rfl (by kernel_rfl) (by decide) (fun K hK => ?_)
     refine goes_ Tryz.func99 (by kernel_rfl) rfl #[.slice A7 ns.length c7, .int .i64 i, .slice (some ⟨w9.heap.size, 0, none⟩) 1 1] (by rfl) rfl rfl (by (try simp only [List.map_toArray, List.map_cons, List.map_nil]); rfl) ?_
     refine (ObP.calls HP2.out HMS2.out (fun k e => by have := H70.out k e; have := HSZ.out; have := HWS.out; simp at *; omega) HI2.out HL2.out HLL.out.1 HLL.out.2.1 ⟨HOB.out.1.1, HOB.out.1.2.1, HOB.out.1.2.2.1⟩ H70.out).mono ?_
     rintro E w4 ⟨vn, rfl, q1, q2, q3, q4, q5, q6, q7, q8⟩
     refine ⟨_, rfl, ?_⟩
     have hx4 := (q7.block w8.heap.size (Array.getElem?_eq_some_iff.1 HX2.out).1 (fun e => by have := H70.out _ e.symm; have := HSZ.out; omega)).trans HX2.out
     have hmx4 := (q7.block _ (Array.getElem?_eq_some_iff.1 HMX.out).1 (fun e => by have := H70.out _ e.symm; have := HSZ.out; have := HWS.out; simp at *; omega)).trans HMX.out
     refine hK.out _ _ ⟨q3, hx4⟩ (fun hHeld => ?_)
     clear hK K
     refine norm_ (a' := ?_) ?_ ?_
     rotate_left
     · show Act.put _ (some 37) _ = _
       simp only [Act.put, List.setIfInBounds_toArray, List.set_cons_zero, List.set_cons_succ]
       rfl
     refine pure_ (i := 12) (N := some 44) (v := ?_) (a' := ?_) #[true, true, true, true, true, true, true, true, true, true, true, false, true, false, false, false] rfl rfl (by kernel_rfl) (fun _ _ _ h => h) (Or.inl ⟨by rfl, ?_⟩) ?_ ?_
     rotate_left
     · intro w'
       go_simp
       with_reducible rfl
     rotate_left
     · simp only [Act.put, List.setIfInBounds_toArray, List.set_cons_zero, List.set_cons_succ]
       rfl
     refine norm_ (by simp only [putAll, Act.put, List.setIfInBounds_toArray, List.set_cons_zero, List.set_cons_succ]) (hCont (vn, w9.heap.size, W1.heap.size) _ ⟨q1, q2, q3, q4, q5, q6, hmx4, by have := HWS.out; have := HSZ.out; show w8.heap.size ≤ W1.heap.size; omega⟩)
    · refine value_ (v := .slice (some ⟨w9.heap.size, 0, none⟩) 1 1) (w1 := w9.drew.alloc (.cells cs.toArray 28)) (by rfl) rfl ?_ ?_
      · go_simp; rw [fold8 cs (by simpa using HL8.out)]; simp only [show cs.length = 8 by simpa using HL8.out]; go_simp; try rfl
      have HP1 := hi_ (HP.out.drew.below (Below.alloc (Below.refl _ _) (Nat.le_refl _) (.cells cs.toArray 28)))
      have HX1 := hi_ (blk_alloc (w := w9.drew) HR9.out (.cells cs.toArray 28))
      have HMX := hi_ (blk_new w9.drew (.cells cs.toArray 28))
      have HWS : Hid ((w9.drew.alloc (.cells cs.toArray 28)).heap.size = w9.heap.size + 1) := hi_ (by simp)
      refine hK.out _ _ ⟨HP1.out.vc, HX1.out⟩ (fun hHeld => ?_)
      clear hK K
      refine norm_ (a' := ?_) ?_ ?_
      rotate_left
      · show Act.put _ (some 42) _ = _
        simp only [Act.put, List.setIfInBounds_toArray, List.set_cons_zero, List.set_cons_succ]
        rfl
      generalize w9.drew.alloc (.cells cs.toArray 28) = W1 at *
      refine one_ (i := 4) (N := some 36) #[true, true, true, true, true, false, true, true, true, true, true, false, false, false, false, false] rfl rfl (by kernel_rfl) (by decide) (fun K hK => ?_)
      refine value_ (v := .slice (some ⟨W1.heap.size, 0, none⟩) 1 1) (w1 := W1.alloc (.cells #[.string (objN a)] 9)) (by rfl) rfl ?_ ?_
      · go_simp; try rfl
      have HP2 := hi_ (HP1.out.below (Below.alloc (Below.refl _ _) (Nat.le_refl _) (.cells #[.string (objN a)] 9)))
      have HX2 := hi_ (blk_alloc HX1.out (.cells #[.string (objN a)] 9))
      have HMX2 := hi_ (blk_alloc HMX.out (.cells #[.string (objN a)] 9))
      have HMS2 := hi_ (blk_new W1 (.cells #[.string (objN a)] 9))
      refine hK.out _ _ ⟨HP2.out.vc, HX2.out⟩ (fun hHeld => ?_)
      clear hK K
      refine norm_ (a' := ?_) ?_ ?_
      rotate_left
      · show Act.put _ (some 36) _ = _
        simp only [Act.put, List.setIfInBounds_toArray, List.set_cons_zero, List.set_cons_succ]
        rfl
      refine one_ (i := 5) (N := some 37) #[true, true, true, true, true, true, true, true, true, true, true, false, false, false, false, false] rfl rfl (by kernel_rfl) (by decide) (fun K hK => ?_)
      refine goes_ Tryz.func99 (by kernel_rfl) rfl #[.slice A7 ns.length c7, .int .i64 i, .slice (some ⟨W1.heap.size, 0, none⟩) 1 1] (by rfl) rfl rfl (by (try simp only [List.map_toArray, List.map_cons, List.map_nil]); rfl) ?_
      refine (ObP.calls HP2.out HMS2.out (fun k e => by have := H70.out k e; have := HSZ.out; have := HWS.out; simp at *; omega) HI2.out HL2.out HLL.out.1 HLL.out.2.1 ⟨HOB.out.1.1, HOB.out.1.2.1, HOB.out.1.2.2.1⟩ H70.out).mono ?_
      rintro E w4 ⟨vn, rfl, q1, q2, q3, q4, q5, q6, q7, q8⟩
      refine ⟨_, rfl, ?_⟩
      have hx4 := (q7.block w8.heap.size (Array.getElem?_eq_some_iff.1 HX2.out).1 (fun e => by have := H70.out _ e.symm; have := HSZ.out; omega)).trans HX2.out
      have hmx4 := (q7.block _ (Array.getElem?_eq_some_iff.1 HMX2.out).1 (fun e => by have := H70.out _ e.symm; have := HSZ.out; have := HWS.out; simp at *; omega)).trans HMX2.out
      refine hK.out _ _ ⟨q3, hx4⟩ (fun hHeld => ?_)
      clear hK K
      refine norm_ (a' := ?_) ?_ ?_
      rotate_left
      · show Act.put _ (some 37) _ = _
        simp only [Act.put, List.setIfInBounds_toArray, List.set_cons_zero, List.set_cons_succ]
        rfl
      refine pure_ (i := 12) (N := some 44) (v := ?_) (a' := ?_) #[true, true, true, true, true, true, true, true, true, true, true, false, true, false, false, false] rfl rfl (by kernel_rfl) (fun _ _ _ h => h) (Or.inl ⟨by rfl, ?_⟩) ?_ ?_
      rotate_left
      · intro w'
        go_simp
        with_reducible rfl
      rotate_left
      · simp only [Act.put, List.setIfInBounds_toArray, List.set_cons_zero, List.set_cons_succ]
        rfl
      refine norm_ (by simp only [putAll, Act.put, List.setIfInBounds_toArray, List.set_cons_zero, List.set_cons_succ]) (hCont (vn, W1.heap.size, w9.heap.size) _ ⟨q1, q2, q3, q4, q5, q6, hmx4, by have := HWS.out; have := HSZ.out; show w8.heap.size ≤ w9.heap.size; omega⟩)
  rintro ⟨vn, ms, mx⟩ W ⟨q1, q2, q3, q4, q5, q6, q7, q8⟩
  dsimp only at q4 q5 q6 q7 q8
  obtain ⟨An, nn, cn, hvn⟩ : ∃ A n c, vn = .slice A n c := by obtain ⟨A, c, e⟩ := Kd.R_slice q5; exact ⟨_, _, _, e⟩
  subst hvn
  have HB0 : Hid (∀ k, (Value.slice A6 xs.length c6).ownBlock = some k → base ≤ k ∧ k < w7.heap.size ∧ some k ≠ (Value.slice An nn cn).ownBlock) := hi_ (fun k e => ⟨((Kd.R_bound q4).1 k e).2.1, HP.out.own.1 k e, q4.1 k e⟩)
  have hmxs := (Array.getElem?_eq_some_iff.1 q7).1
  have hlt := HP.out.lt
  have HIN := hi_ (insV_R (i := i) (m := mx) q4 (k28.M_lower (base' := base) hlt.1 (k28.M_bound q6)) (fun k hk => ⟨hk.1.2, fun e => by have := (HB0.out k e.symm).2.1; have := hk.2.1; omega⟩) (fun k hk e => by have := ((Kd.R_bound q5).1 k e.symm).2.2.1; omega)
   (by have := HI2.out; have := HLL.out.2.2; omega) (by have := HLL.out.2.2; omega) (by omega) q7 (fun e => by have := (HB0.out mx e.symm).2.1; omega))
  have HQ := hi_ (And.intro q1 (And.intro q2 q3))
  have HR7 : Hid (Kd.string.R 9 W base (fun k => (Value.slice An nn cn).ownBlock = some k) (.slice An nn cn) (put ns i (objN a))) := hi_ ⟨fun k hk => hk, q5.2⟩
  have HWZ : Hid (base ≤ W.heap.size) := hi_ (by omega)
  clear q1 q2 q3 q4 q5 q6 q7 q8 hmxs hlt
  refine norm_ (a' := ?_) ?_ ?_
  rotate_left
  · simp only [putAll, Act.put, List.setIfInBounds_toArray, List.set_cons_zero, List.set_cons_succ]
    rfl
  refine last_ (i := 11) (N := some 43) #[true, true, true, true, true, true, true, true, true, true, true, true, true, false, false, false] rfl rfl (by kernel_rfl) (by decide) (fun K hK => ?_)
  refine goes_ Tryz.func100 (by kernel_rfl) rfl #[.slice A6 xs.length c6, .int .i64 i, .slice (some ⟨mx, 0, none⟩) 1 1] (by rfl) rfl rfl (by (try simp only [List.map_toArray, List.map_cons, List.map_nil]); rfl) ?_
  refine HIN.out.mono ?_
  rintro E w5 ⟨v1, rfl, hR, hg, hat⟩
  obtain ⟨A1, n1, c1, hv1⟩ : ∃ A n c, v1 = .slice A n c := by obtain ⟨A, c, e⟩ := Kd.R_slice hR; exact ⟨_, _, _, e⟩
  subst hv1
  change k28.R 28 w5 base _ _ (put xs i (fv (objA ns a)).1) at hR
  refine ⟨_, rfl, ?_⟩
  refine hK.out _ _ ?_
  clear hK K
  refine norm_ (a' := ?_) ?_ ?_
  rotate_left
  · show Act.put _ (some 43) _ = _
    simp only [Act.put, List.setIfInBounds_toArray, List.set_cons_zero, List.set_cons_succ]
    rfl
  have hv5 := (hg.block b (Array.getElem?_eq_some_iff.1 HQ.out.2.2).1 (fun e => by have := (HB0.out b e.symm).1; have := HOB.out.1.1; omega)).trans HQ.out.2.2
  have hr5 := (hg.block rb (Array.getElem?_eq_some_iff.1 HQ.out.2.1).1 (fun e => by have := (HB0.out rb e.symm).1; have := HOB.out.1.2.1; omega)).trans HQ.out.2.1
  have H5 := hi_ (HQ.out.1.grow hg (fun k e => by have := (HB0.out k e).1; have := HOB.out.1.2.2.1; have := HLL.out.2.1; exact ⟨by omega, by omega⟩))
  have HR5 := hi_ hR
  have HN5 : Hid (Kd.string.R 9 w5 base (fun _ => True) (.slice An nn cn) (put ns i (objN a))) := hi_ (Kd.R_mono (Kd.R_grown (Kd.R_bound HR7.out) hg (fun k hk e => (HB0.out k e.symm).2.2 hk.1.symm)) (fun _ _ => trivial))
  have HSZ5 := hi_ hg.size
  clear hR hg hat HIN
  have hv6 := blk_put hv5 7 (.slice An nn cn) rfl
  have hv7 := blk_put hv6 6 (.slice A1 n1 c1) rfl
  have hr6 := (Below.heap_setCell w5 ⟨b, 7, none⟩ (.slice An nn cn) rb (fun e => HOB.out.2.2.2 e.symm)).trans hr5
  have hr7 := (Below.heap_setCell (w5.setCell ⟨b, 7, none⟩ (.slice An nn cn)) ⟨b, 6, none⟩ (.slice A1 n1 c1) rb (fun e => HOB.out.2.2.2 e.symm)).trans hr6
  have HV := hi_ (And.intro hv7 hr7)
  have cA : w5.cell? ⟨b, 7, none⟩ = some (.slice A7 ns.length c7) := (blk_cell hv5 7).trans rfl
  have fA := blk_frozen hv5 7
  have cB : (w5.setCell ⟨b, 7, none⟩ (.slice An nn cn)).cell? ⟨b, 6, none⟩ = some (.slice A6 xs.length c6) := (blk_cell hv6 6).trans rfl
  have fB := blk_frozen hv6 6
  clear hv5 hr5 hv6 hv7 hr6 hr7
  refine last_ (i := 13) (N := none) #[true, true, true, true, true, true, true, true, true, true, true, true, true, true, false, false] rfl rfl (by kernel_rfl) (by decide) (fun K hK => ?_)
  refine skip_ (w1 := w5.setCell ⟨b, 7, none⟩ (.slice An nn cn)) (by rfl) rfl ?_ ?_
  · go_simp
  refine hK.out _ _ ?_
  clear hK K cA fA
  refine last_ (i := 14) (N := some 45) #[true, true, true, true, true, true, true, true, true, true, true, true, true, true, true, false] rfl rfl (by kernel_rfl) (by decide) (fun K hK => ?_)
  refine value_ (v := .pointer (some ⟨b, 6, none⟩)) (w1 := w5.setCell ⟨b, 7, none⟩ (.slice An nn cn)) (by rfl) rfl ?_ ?_
  · go_simp
  refine hK.out _ _ ?_
  clear hK K
  refine norm_ (a' := ?_) ?_ ?_
  rotate_left
  · show Act.put _ (some 45) _ = _
    simp only [Act.put, List.setIfInBounds_toArray, List.set_cons_zero, List.set_cons_succ]
    rfl
  refine last_ (i := 15) (N := none) #[true, true, true, true, true, true, true, true, true, true, true, true, true, true, true, true] rfl rfl (by kernel_rfl) (by decide) (fun K hK => ?_)
  refine skip_ (w1 := (w5.setCell ⟨b, 7, none⟩ (.slice An nn cn)).setCell ⟨b, 6, none⟩ (.slice A1 n1 c1)) (by rfl) rfl ?_ ?_
  · go_simp
  refine hK.out _ _ ?_
  refine done_ (by kernel_rfl) ?_
  clear hK K cB fB
  go_end0
  rw [← HRR.out, HI.out]
  refine ⟨rfl, (H5.out.far (grown_set _ b 7 _) HOB.out.2.1 HLL.out.1).far (grown_set _ b 6 _) HOB.out.2.1 HLL.out.1, HV.out.2, ⟨_, _, HV.out.1, ?_, ?_⟩, ⟨HOB.out.1.1, HOB.out.1.2.1, HOB.out.1.2.2.1, ?_⟩, HOB.out.2⟩
  · exact Kd.R_mono (Kd.R_far (Kd.R_bound (Kd.R_mono (Kd.R_far (Kd.R_bound HR5.out) (p := ⟨b, 7, none⟩) (fun k hk => by have := hk.2.1; have := HOB.out.1.1; show k ≠ b; omega) (.slice An nn cn)) (fun _ hk => hk.1))) (p := ⟨b, 6, none⟩) (fun k hk => by have := hk.2.1; have := HOB.out.1.1; show k ≠ b; omega) (.slice A1 n1 c1)) (fun _ hk => hk.1)
  · exact Kd.R_mono (Kd.R_far (Kd.R_bound (Kd.R_mono (Kd.R_far (Kd.R_bound HN5.out) (p := ⟨b, 7, none⟩) (fun k hk => by have := hk.2.1; have := HOB.out.1.1; show k ≠ b; omega) (.slice An nn cn)) (fun _ _ => trivial))) (p := ⟨b, 6, none⟩) (fun k hk => by have := hk.2.1; have := HOB.out.1.1; show k ≠ b; omega) (.slice A1 n1 c1)) (fun _ _ => trivial)
  have h1 := HQ.out.1.kp.size; have h2 := HSZ5.out; have h3 := HLL.out; have h4 := (grown_set w5 b 7 (.slice An nn cn)).size; have h5 := (grown_set (w5.setCell ⟨b, 7, none⟩ (.slice An nn cn)) b 6 (.slice A1 n1 c1)).size; have h6 := HWZ.out; omega
section
variable {σ : Type}
set_option maxRecDepth 100000 in
set_option maxHeartbeats 8000000 in
theorem list_68 {w w1 : World} {g : Nat} {cap : Array Value} {Inv : World → σ → Prop} {st : σ → S → σ × S} {P P1 : σ → S → Prop} (HT : Thing w g 97 cap Inv st P P1) (p : List UInt8) {x : σ} {a : S} (h : Rd w w1 g a) (hI : Inv w1 x) (ho : 0 ≤ a.o ∧ a.o ≤ 100) (hs : a.s ≠ [])
    (hP : a.enter.took p = false → P x (a.enter.take p)) (hop : 0 ≤ a.enter.o ∧ a.enter.o ≤ 1000) :
    Calls Tryz.prog 95 #[.pointer (some ⟨g, 0, none⟩), .string (ofL p), .func (.func 97) #[] cap] w1 fun E w' => E = .returned (.tuple #[]) ∧ Rd w w' g (listF st p x a).2 ∧ Inv w' (listF st p x a).1 := by
 have H := hi_ h
 have HI := hi_ hI
 have HTT := hi_ HT
 have HOS := hi_ (And.intro ho hs)
 have HP := hi_ hP
 have HOP := hi_ hop
 obtain ⟨R, hR⟩ : ∃ R, listF st p x a = R := ⟨_, rfl⟩
 have HR := hi_ hR
 rw [hR]
 clear h hI HT ho hs hP hop hR
 go_enter Tryz.func95, Tryz.ntmps95
 go_wp2_with fail
 refine (enter_calls H.out.now HOS.out.1 HOS.out.2).mono ?_
 rintro E w2 ⟨rfl, h2⟩
 have HI2 := hi_ (HTT.out.kept _ _ _ HI.out h2.kp)
 have H2 := hi_ (H.out.trans h2)
 clear h2
 go_wp2_with fail
 refine (took_calls H2.out.now p).mono ?_
 rintro E w3 ⟨rfl, h3⟩
 have HI3 := hi_ (HTT.out.kept _ _ _ HI2.out h3.kp)
 have H3 := hi_ (H2.out.trans h3)
 clear h3
 cases hk : a.enter.took p with
 | true =>
  have HF : Hid ((a.enter.take p).left = R.2 ∧ R.1 = x) := hi_ (by rw [← HR.out]; unfold listF; rw [if_pos hk]; exact ⟨rfl, rfl⟩)
  have c1 := H3.out.c1
  have f1 := H3.out.fz 1
  have o0 : 0 ≤ (a.enter.take p).o := by rw [take_o]; exact HOP.out.1
  have o1 : (a.enter.take p).o ≤ 1000 := by rw [take_o]; exact HOP.out.2
  clear hk
  go_wp2
  go_end0
  exact ⟨rfl, by rw [← HF.out.1]; exact H3.out.s1 _, by rw [HF.out.2]; exact HTT.out.kept _ _ _ HI3.out (grown_set _ _ _ _)⟩
 | false =>
  have HF : Hid (listLoop st ((st x (a.enter.take p)).2.s.length + 1) (st x (a.enter.take p)).1 (st x (a.enter.take p)).2 = (R.1, (listLoop st ((st x (a.enter.take p)).2.s.length + 1) (st x (a.enter.take p)).1 (st x (a.enter.take p)).2).2) ∧ ((listLoop st ((st x (a.enter.take p)).2.s.length + 1) (st x (a.enter.take p)).1 (st x (a.enter.take p)).2).2.need p).left = R.2) := hi_ (by
   rw [← HR.out]; unfold listF; rw [if_neg (by rw [hk]; simp)]; exact ⟨rfl, rfl⟩)
  have HPx := hi_ (HP.out hk)
  clear hk
  go_wp2_with fail
  refine (HTT.out.calls _ _ _ H3.out HI3.out HPx.out).mono ?_
  rintro E w4 ⟨rfl, h4, hI4⟩
  have H4 := hi_ h4
  have HI4 := hi_ hI4
  have HP4 := hi_ (HTT.out.step _ _ HPx.out)
  clear h4 hI4
  generalize hx1 : (st x (a.enter.take p)).1 = x1 at *
  generalize ha1 : (st x (a.enter.take p)).2 = a1 at *
  generalize hq : (listLoop st (a1.s.length + 1) x1 a1).2 = q at *
  go_wp2_with fail
  go_loopg [] a1.s.length (fun gk wr => ∃ y b k, gk = b.s.length ∧ b.s.length < k ∧ Rd w wr g b ∧ Inv wr y ∧ P1 y b ∧ listLoop st k y b = (R.1, q))
  case atStart => exact ⟨x1, a1, a1.s.length + 1, rfl, Nat.lt_succ_self _, H4.out, HI4.out, HP4.out, HF.out.1⟩
  case round =>
   obtain ⟨y, b, k, rfl, hk, hrd, hinv, hp1, hll⟩ := hrel
   have H5 := hi_ hrd
   have HI5 := hi_ hinv
   have HP5 := hi_ hp1
   have HLL := hi_ hll
   have HK := hi_ hk
   clear hrd hinv hp1 hll hk
   go_wp2_with fail
   refine (took_calls H5.out.now [44]).mono ?_
   rintro E w6 ⟨rfl, h6⟩
   have HI6 := hi_ (HTT.out.kept _ _ _ HI5.out h6.kp)
   have H6 := hi_ (H5.out.trans h6)
   clear h6
   cases hk : b.took [44] with
   | true =>
    have HPy := hi_ (HTT.out.more _ _ HP5.out hk)
    have HLT := hi_ (took_lt b 44 hk)
    have HL2 : Hid (listLoop st (k - 1) (st y (b.take [44])).1 (st y (b.take [44])).2 = (R.1, q)) := hi_ (by
     have hl := HLL.out
     obtain ⟨k', rfl⟩ : ∃ k', k = k' + 1 := ⟨k - 1, by have := HK.out; omega⟩
     rw [listLoop, if_pos hk] at hl
     exact hl)
    clear hk
    go_wp2_with fail
    refine (HTT.out.calls _ _ _ H6.out HI6.out HPy.out).mono ?_
    rintro E w7 ⟨rfl, h7, hI7⟩
    have H7 := hi_ h7
    have HI7 := hi_ hI7
    clear h7 hI7
    go_wp2
    go_roundg ((st y (b.take [44])).2.s.length)
    case measure => have := HTT.out.len _ _ HPy.out; have := HLT.out; omega
    case rel => exact ⟨_, _, k - 1, rfl, by have := HTT.out.len _ _ HPy.out; have := HLT.out; have := HK.out; omega, H7.out, HI7.out, HTT.out.step _ _ HPy.out, HL2.out⟩
   | false =>
    have HQ : Hid (y = R.1 ∧ b.take [44] = q) := hi_ (by
     have hl := HLL.out
     obtain ⟨k', rfl⟩ : ∃ k', k = k' + 1 := ⟨k - 1, by have := HK.out; omega⟩
     rw [listLoop, if_neg (by rw [hk]; simp)] at hl
     injection hl with h1 h2
     exact ⟨h1, h2⟩)
    have HOB := hi_ (HTT.out.open_ _ _ HP5.out)
    clear hk
    go_wp2_with fail
    refine (need_calls H6.out.now p).mono ?_
    rintro E w8 ⟨rfl, h8⟩
    have HI8 := hi_ (HTT.out.kept _ _ _ HI6.out h8.kp)
    have H8 := hi_ (H6.out.trans h8)
    clear h8
    have c1 := H8.out.c1
    have f1 := H8.out.fz 1
    have o0 : 0 ≤ ((b.take [44]).need p).o := by rw [need_o, take_o]; exact HOB.out.1
    have o1 : ((b.take [44]).need p).o ≤ 1000 := by rw [need_o, take_o]; exact HOB.out.2
    go_wp2
    go_end0
    exact ⟨rfl, by rw [← HF.out.2, ← HQ.out.2]; exact H8.out.s1 _, by rw [← HQ.out.1]; exact HTT.out.kept _ _ _ HI8.out (grown_set _ _ _ _)⟩
end
structure GoodO (fv : S → S28 × S) (ok Q : S → Prop) : Prop extends Good fv ok Q where
  obj : ∀ a ns, Q a → Q (objA ns a)
  bad : ∀ a, Q a → Q (a.skip.fail 11)
theorem twice_s (a : S) (b : Bool) : (a.twice b).s = a.s := by unfold S.twice; split <;> simp [fail_s]
theorem trim_len (l p : List UInt8) : (Lib.trimPrefix l p).length ≤ l.length := by unfold Lib.trimPrefix; split <;> simp
theorem take_len (a : S) (p : List UInt8) : (a.take p).s.length ≤ a.s.length := by
 have h := skip_len a
 unfold S.take
 split
 · exact Nat.le_trans (trim_len _ _) h
 exact h
theorem need_len (a : S) (p : List UInt8) : (a.need p).s.length ≤ a.s.length := by
 unfold S.need
 split
 · exact take_len a p
 rw [fail_s]; exact take_len a p
theorem objA_len (ns : List ByteArray) (a : S) : (objA ns a).s.length ≤ a.s.length := by
 unfold objA
 have h1 := need_len (S.twice a.skip.st.2 (has ns (objN a))) [58]
 rw [twice_s] at h1
 have h2 := (st_len a.skip).1
 have h3 := skip_len a
 omega
theorem put_length {α : Type} (l : List α) (i : Nat) (x : α) : (put l i x).length = l.length + 1 := by unfold put; simp; omega
theorem obj_thing {fv : S → S28 × S} {ok Q : S → Prop} (HV : VCalls 34 ok fv) (HG : GoodO fv ok Q) {w : World} {base b rb g : Nat} (hb : w.heap.size ≤ b) (hbase : w.heap.size ≤ base) :
    Thing w g 97 #[.pointer (some ⟨rb, 0, none⟩), .pointer (some ⟨b, 0, none⟩)] (fun w' p => Ob w' base b rb g p.1 p.2) (objT fv) (fun p a => p.1.length + a.s.length ≤ 900000 ∧ p.2.length = p.1.length ∧ Q a) (fun p a => p.1.length + a.s.length ≤ 900001 ∧ p.2.length = p.1.length ∧ Q a) where
 calls := fun w1 p a h hI hP => obj_step fv ok HV h hI (HG.ok_ _ (HG.obj a _ hP.2.2)) hb hbase ⟨by have := hP.1; omega, hP.2.1, by have := (HG.bnd a hP.2.2).2.2; omega⟩
 kept := fun w1 w2 p h k => h.kept k
 len := fun p a hP => by
  unfold objT
  split
  · rw [fail_s]; exact skip_len a
  rename_i h; exact Nat.le_trans (HG.len _ (HG.obj a _ hP.2.2)) (objA_len _ _)
 step := fun p a hP => by
  unfold objT
  split
  · exact ⟨by have h1 := skip_len a; have h2 := hP.1; show p.1.length + (a.skip.fail 11).s.length ≤ 900001; rw [fail_s]; omega, hP.2.1, HG.bad a hP.2.2⟩
  rename_i h
  have hq := HG.obj a p.2 hP.2.2
  exact ⟨by have h1 := HG.len _ hq; have h2 := objA_len p.2 a; have h3 := hP.1; show (put p.1 _ _).length + (fv (objA p.2 a)).2.s.length ≤ 900001; rw [put_length]; omega, by simp only [put_length]; rw [hP.2.1], HG.next _ hq⟩
 more := fun p a hP ht => ⟨by have := took_lt a 44 ht; have := hP.1; omega, hP.2.1, HG.take a _ hP.2.2⟩
 open_ := fun p a hP => ⟨(HG.bnd a hP.2.2).1, (HG.bnd a hP.2.2).2.1⟩
def S.obj (fv : S → S28 × S) (a : S) : S28 × S := let r := listF (objT fv) [125] ([], []) a; (⟨5, false, z24, ⟨#[]⟩, r.1.1, r.1.2⟩, r.2)
set_option maxRecDepth 100000 in
set_option maxHeartbeats 8000000 in
theorem object_calls {fv : S → S28 × S} {ok Q : S → Prop} (HV : VCalls 34 ok fv) (HG : GoodO fv ok Q) :
    VCalls 69 (fun a => (0 ≤ a.o ∧ a.o ≤ 100) ∧ a.s ≠ [] ∧ (0 ≤ a.enter.o ∧ a.enter.o ≤ 1000) ∧ Q (a.enter.take [125])) (S.obj fv) := by
 intro w w1 g a h hok
 have H := hi_ h
 have HOK := hi_ hok
 have HVG := hi_ (And.intro HV HG)
 clear h hok HV HG
 go_enter Tryz.func69, Tryz.ntmps69
 obtain ⟨w2, hw2⟩ : ∃ w2, w2 = (w1.alloc (.cells #[.pointer (some ⟨g, 0, none⟩)] 77)).alloc (.cells #[.int .i64 0, .bool false, .bool false, .string ⟨#[]⟩, .int .i64 0, .string ⟨#[]⟩, .slice none 0 0, .slice none 0 0] 28) := ⟨_, rfl⟩
 have HW2 := hi_ hw2
 clear hw2
 have hsz : w2.heap.size = w1.heap.size + 2 := by rw [HW2.out]; simp
 have HSZ := hi_ hsz
 clear hsz
 have H2 : Hid (Rd w w2 g a) := hi_ (by rw [HW2.out]; exact H.out.below ((Below.alloc (Below.refl _ _) (Nat.le_refl _) _).alloc (by simp) _))
 have hrb : w2.heap[w1.heap.size]? = some (.cells #[.pointer (some ⟨g, 0, none⟩)] 77 (0, 0)) := by rw [HW2.out]; exact blk_alloc (blk_new w1 _) _
 have hrz : w2.heap[w1.heap.size + 1]? = some (.cells #[.int .i64 0, .bool false, .bool false, .string ⟨#[]⟩, .int .i64 0, .string ⟨#[]⟩, .slice none 0 0, .slice none 0 0] 28 (0, 0)) := by
  rw [HW2.out]; have := blk_new (w1.alloc (.cells #[.pointer (some ⟨g, 0, none⟩)] 77)) (.cells #[.int .i64 0, .bool false, .bool false, .string ⟨#[]⟩, .int .i64 0, .string ⟨#[]⟩, .slice none 0 0, .slice none 0 0] 28); simpa using this
 have hvb : (w2.alloc (.cells #[.int .i64 5, .bool false, .bool false, .string ⟨#[]⟩, .int .i64 0, .string ⟨#[]⟩, .slice none 0 0, .slice none 0 0] 28)).heap[w1.heap.size + 1 + 1]? = some (.cells #[.int .i64 5, .bool false, .bool false, .string ⟨#[]⟩, .int .i64 0, .string ⟨#[]⟩, .slice none 0 0, .slice none 0 0] 28 (0, 0)) := by
  have := blk_new w2 (.cells #[.int .i64 5, .bool false, .bool false, .string ⟨#[]⟩, .int .i64 0, .string ⟨#[]⟩, .slice none 0 0, .slice none 0 0] 28); rw [HSZ.out] at this; exact this
 have hgl := H.out.lt
 have HAR : Hid (Ob (w2.alloc (.cells #[.int .i64 5, .bool false, .bool false, .string ⟨#[]⟩, .int .i64 0, .string ⟨#[]⟩, .slice none 0 0, .slice none 0 0] 28)) (w1.heap.size + 3) (w1.heap.size + 1 + 1) w1.heap.size g [] []) := hi_
  ⟨blk_alloc hrb _, ⟨_, _, hvb, Kd.R_nil _ _ _ _ _, Kd.R_nil _ _ _ _ _⟩, ⟨by omega, by omega, by omega, by simp [HSZ.out]⟩, ⟨by omega, by omega, by omega⟩⟩
 have HRZ := hi_ hrz
 have HGL := hi_ hgl
 have HT := hi_ (obj_thing HVG.out.1 HVG.out.2 (w := w2) (base := w1.heap.size + 3) (b := w1.heap.size + 1 + 1) (rb := w1.heap.size) (g := g) (by have := HSZ.out; omega) (by have := HSZ.out; omega))
 have HPX : Hid (Q (a.enter.take [125])) := hi_ HOK.out.2.2.2
 clear hrb hrz hvb hgl
 go_wp2_with fail
 rw [← HW2.out]
 refine (list_68 HT.out [125] (x := (([] : List S28), ([] : List ByteArray))) (H2.out.now.below (Below.alloc (Below.refl _ _) (Nat.le_refl _) _)) HAR.out HOK.out.1 HOK.out.2.1 (fun _ => ⟨by have := (HVG.out.2.bnd _ HPX.out).2.2; simp; omega, rfl, HPX.out⟩) HOK.out.2.2.1).mono ?_
 rintro E w4 ⟨rfl, h4, hA4⟩
 obtain ⟨v6, v7, hv6, hr6, hr7⟩ := hA4.vc
 have HR4 := hi_ (h4.keep HRZ.out (by have := HGL.out; omega))
 have HV6 := hi_ hv6
 have H4 := hi_ (H2.out.trans h4)
 have HX4 := hi_ (k28.M_mono (ok' := fun _ => True) (fun _ _ => trivial) (k28_mkM w4 (w1.heap.size + 3) (fun _ => True) (S.obj fv a).1 (v6 := v6) (Kd.R_mono hr6 (fun _ _ => trivial)) hr7))
 have hone : (#[.int .i64 5, .bool false, .bool false, .string ⟨#[]⟩, .int .i64 0, .string ⟨#[]⟩, v6, v7] : Array Value).toList.all (·.oneCell') = true := List.all_eq_true.2 (fun u hu => k28.K_one (k28.K_of_M HX4.out) u hu)
 have HON := hi_ hone
 have HLW := hi_ H.out.kp.size
 clear h4 hA4 hv6 hr6 hr7 hone
 go_wp2_with (first | (refine wpList_load_row rfl 28 (.tmp 3) rfl (w1.heap.size + 1 + 1) rfl 28 _ (0, 0) _ HV6.out Tryz.underlying28 rfl (by kernel_rfl) ?_) | (refine row_event rfl 28 (.tmp 2) (.tmp 8) rfl (w1.heap.size + 1) _ rfl rfl 28 _ HR4.out (by kernel_rfl) rfl HON.out ?_; intro w9 hr9 hk9))
 refine bodyPost_ret (results_cell_row rfl _ _ (w1.heap.size + 1) 28 _ (0, 0) _ rfl hr9 Tryz.underlying28 rfl (by kernel_rfl)) rfl ⟨_, rfl, Jv.up HX4.out hk9 (by omega) (by omega), ?_⟩
 exact H4.out.far hk9 (by have := HGL.out; omega) (by have := HLW.out; omega)
def textV (a : S) : S28 × S := (⟨3, false, z24, ofL a.st.1, [], []⟩, a.st.2)
def fvN : Nat → S → S28 × S
 | 0, a => (z28, a.skip)
 | n + 1, a => S.value textV (S.arr (fvN n)) (S.obj (fvN n)) a
structure Keeps (a b : S) : Prop where
  len : b.s.length ≤ a.s.length
  o : b.o = a.o
  e : a.e ≠ 0 → b.e ≠ 0
theorem Keeps.refl (a : S) : Keeps a a := ⟨Nat.le_refl _, rfl, fun h => h⟩
theorem Keeps.trans {a b c : S} (h : Keeps a b) (k : Keeps b c) : Keeps a c := ⟨Nat.le_trans k.len h.len, k.o.trans h.o, fun x => k.e (h.e x)⟩
theorem keeps_skip (a : S) : Keeps a a.skip := ⟨skip_len a, rfl, fun h => h⟩
theorem keeps_fail (a : S) (x : Int) (hx : x ≠ 0) : Keeps a (a.fail x) := ⟨by rw [fail_s]; exact Nat.le_refl _, fail_o a x, fun h => by unfold S.fail; simp [h]⟩
theorem keeps_take (a : S) (p : List UInt8) : Keeps a (a.take p) := ⟨take_len a p, take_o a p, fun h => by unfold S.take; split <;> exact h⟩
theorem keeps_need (a : S) (p : List UInt8) : Keeps a (a.need p) := by
 unfold S.need
 split
 · exact keeps_take a p
 exact (keeps_take a p).trans (keeps_fail _ 11 (by decide))
theorem keeps_st (a : S) : Keeps a a.st.2 := ⟨(st_len a).1, (st_len a).2.1, (st_len a).2.2⟩
theorem keeps_num (a : S) : Keeps a a.numS := by
 unfold S.numS
 refine ⟨numR_le a, ?_, fun h => ?_⟩
 · simp only []; split
   · rfl
   exact fail_o _ _
 simp only []; split
 · exact h
 exact (keeps_fail a _ (by assumption)).e h
theorem keeps_objA (ns : List ByteArray) (a : S) : Keeps a (objA ns a) := by
 unfold objA
 refine ((keeps_skip a).trans (keeps_st _)).trans (Keeps.trans ?_ (keeps_need _ _))
 unfold S.twice
 split
 · exact keeps_fail _ 31 (by decide)
 exact Keeps.refl _
theorem keeps_loop {σ : Type} {st : σ → S → σ × S} (h : ∀ x a, Keeps a (st x a).2) : ∀ n x a, Keeps a (listLoop st n x a).2
 | 0, x, a => Keeps.refl a
 | n + 1, x, a => by
  unfold listLoop
  split
  · exact ((keeps_take a _).trans (h _ _)).trans (keeps_loop h n _ _)
  exact keeps_take a _
theorem enter_facts (a : S) : a.enter.s.length ≤ a.s.length ∧ a.enter.o = a.o + 1 ∧ (a.e ≠ 0 → a.enter.e ≠ 0) ∧ (a.o = 16 → a.enter.e ≠ 0) := by
 have h0 : a.enter0.s = a.s ∧ a.enter0.o = a.o ∧ (a.e ≠ 0 → a.enter0.e ≠ 0) ∧ (a.o = 16 → a.enter0.e ≠ 0) := by
  unfold S.enter0
  split
  · exact ⟨fail_s _ _, fail_o _ _, (keeps_fail a 35 (by decide)).e, fun _ => by unfold S.fail; simp only []; split <;> simp_all⟩
  exact ⟨rfl, rfl, fun h => h, fun h => by contradiction⟩
 unfold S.enter S.enter1
 split
 · rename_i h; exact ⟨by simp [h0.1], by simp [h0.2.1], fun x => absurd h (h0.2.2.1 x), fun x => absurd h (h0.2.2.2 x)⟩
 rename_i h; exact ⟨by simp [h0.1], by simp [h0.2.1], fun _ => h, fun _ => h⟩
theorem keeps_list {σ : Type} {st : σ → S → σ × S} (h : ∀ x a, Keeps a (st x a).2) (p : List UInt8) (x : σ) (a : S) : Keeps a (listF st p x a).2 := by
 have he := enter_facts a
 have hl : ∀ b, Keeps a.enter b → Keeps a b.left := fun b k => ⟨Nat.le_trans k.len he.1, by unfold S.left; simp only []; rw [k.o, he.2.1]; omega, fun x => k.e (he.2.2.1 x)⟩
 unfold listF
 split
 · exact hl _ (keeps_take _ _)
 exact hl _ (((keeps_take _ _).trans (h _ _)).trans ((keeps_loop h _ _ _).trans (keeps_need _ _)))
theorem keeps_value {ft fa fo : S → S28 × S} (h1 : ∀ a, Keeps a (ft a).2) (h2 : ∀ a, Keeps a (fa a).2) (h3 : ∀ a, Keeps a (fo a).2) (a : S) : Keeps a (S.value ft fa fo a).2 := by
 refine (keeps_skip a).trans ?_
 unfold S.value
 generalize a.skip = b
 unfold S.value1
 repeat' split
 all_goals first | exact Keeps.refl _ | exact keeps_fail _ 11 (by decide) | exact keeps_need _ _ | exact h1 _ | exact h2 _ | exact h3 _ | exact keeps_num _
theorem keeps_fv : ∀ n a, Keeps a (fvN n a).2
 | 0, a => keeps_skip a
 | n + 1, a => keeps_value (ft := textV) (fa := S.arr (fvN n)) (fo := S.obj (fvN n)) (fun a => keeps_st a) (fun a => keeps_list (st := arrT (fvN n)) (fun x a => keeps_fv n a) [93] [] a) (fun a => keeps_list (st := objT (fvN n)) (fun x a => by
     unfold objT
     split
     · exact (keeps_skip a).trans (keeps_fail _ 11 (by decide))
     exact (keeps_objA _ a).trans (keeps_fv n _)) [125] ([], []) a) a
def Qn (n : Nat) (a : S) : Prop := a.s.length ≤ 900000 ∧ a.o + n = 17 ∧ (n = 0 → a.e ≠ 0) ∧ n ≤ 17
theorem Qn.keeps {n : Nat} {a b : S} (h : Qn n a) (k : Keeps a b) : Qn n b := ⟨Nat.le_trans k.len h.1, by rw [k.o]; exact h.2.1, fun e => k.e (h.2.2.1 e), h.2.2.2⟩
theorem good_n (n : Nat) : GoodO (fvN n) (Qn n) (Qn n) where
 ok_ := fun a h => h
 next := fun a h => h.keeps (keeps_fv n a)
 take := fun a q h => h.keeps (keeps_take a q)
 len := fun a h => (keeps_fv n a).len
 bnd := fun a h => ⟨by have := h.2.1; have := h.2.2.2; omega, by have := h.2.1; omega, h.1⟩
 obj := fun a ns h => h.keeps (keeps_objA ns a)
 bad := fun a h => h.keeps ((keeps_skip a).trans (keeps_fail _ 11 (by decide)))
theorem Qn.enter {n : Nat} {a : S} (h : Qn (n + 1) a) : Qn n a.enter := by
 have he := enter_facts a
 exact ⟨Nat.le_trans he.1 h.1, by rw [he.2.1]; have := h.2.1; push_cast at this; omega, fun e => he.2.2.2 (by have := h.2.1; subst e; push_cast at this; omega), by have := h.2.2.2; omega⟩
theorem v_none (fn : Nat) (f : S → S28 × S) : VCalls fn (fun _ => False) f := fun _ _ _ _ _ h => h.elim
theorem value_n : ∀ n, VCalls 34 (Qn n) (fvN n)
 | 0 => fun w w1 g a h hq => by
  have hv := value_calls textV textV textV _ _ _ (v_none 67 textV) (v_none 68 textV) (v_none 69 textV) w w1 g a h ⟨by have := hq.1; omega, fun e => absurd e (hq.2.2.1 rfl)⟩
  have : S.value textV textV textV a = (z28, a.skip) := by unfold S.value S.value1; rw [if_pos (show a.skip.e ≠ 0 from hq.2.2.1 rfl)]
  rw [this] at hv
  exact hv
 | n + 1 => fun w w1 g a h hq => by
  have hs : Qn (n + 1) a.skip := hq.keeps (keeps_skip a)
  have hne : ∀ c, a.skip.s.head? = some c → a.skip.s ≠ [] := fun c e e2 => by rw [e2] at e; cases e
  have hen := hs.enter
  have hb : ∀ q, (0 ≤ a.skip.o ∧ a.skip.o ≤ 100) ∧ (0 ≤ a.skip.enter.o ∧ a.skip.enter.o ≤ 1000) ∧ Qn n (a.skip.enter.take q) := fun q =>
   ⟨⟨by have := hs.2.1; have := hs.2.2.2; push_cast at *; omega, by have := hs.2.1; push_cast at *; omega⟩, ⟨((good_n n).bnd _ hen).1, ((good_n n).bnd _ hen).2.1⟩, hen.keeps (keeps_take _ q)⟩
  exact value_calls textV (S.arr (fvN n)) (S.obj (fvN n)) _ _ _ text_v (array_calls (value_n n) (good_n n).toGood) (object_calls (value_n n) (good_n n)) w w1 g a h
   ⟨by have := hq.1; omega, fun _ => ⟨fun e => ⟨hne _ e, by have := hs.1; omega⟩, fun e => ⟨(hb [93]).1, hne _ e, (hb [93]).2.1, (hb [93]).2.2⟩, fun e => ⟨(hb [125]).1, hne _ e, (hb [125]).2.1, (hb [125]).2.2⟩⟩⟩
theorem json_calls (s : List UInt8) (w : World) (hT : Tabs w) :
    Calls Tryz.prog 16 #[.string (ofL s)] w fun E w' => ∃ v, E = .returned (.tuple #[v, .int .i64 (parseV (fvN 17) s).2]) ∧ Jv w' w.heap.size v (parseV (fvN 17) s).1 ∧ Below w.heap.size w w' :=
 parse_calls (fvN 17) (Qn 17) (value_n 17) s w hT (fun h => ⟨by show s.length ≤ 900000; omega, rfl, (fun e => absurd e (by decide)), Nat.le_refl _⟩)
end Js
theorem ct_info5 : (Tryz.prog.info? 5).map (fun i => (i.zero, i.size, i.bytes)) = some (some (.int .u8 0), 1, 1) := by kernel_rfl
set_option maxRecDepth 100000 in
set_option maxHeartbeats 2000000 in
theorem clone_calls (A0 : Option Addr) (c0 : Nat) (l0 : List Int) (w : World) (hr0 : Kd.C (Kd.int .u8) w A0 l0.length l0) (hc0 : l0.length ≤ c0) (hb : l0.length ≤ 1000000) :
    Calls Tryz.prog 44 #[.slice A0 l0.length c0] w fun e w' => ∃ v0_ : Value, e = .returned v0_ ∧ Kd.R (Kd.int .u8) 5 w' w.heap.size (fun _ => True) v0_ l0 ∧ Below w.heap.size w w' := by
 have hn63 : l0.length ≤ 9223372036854775807 := hr0.2.1
 have HR := hi_ hr0
 have HBd := hi_ hb
 clear hr0 hb
 have q38 : ∀ (w : World) (a : Option Addr) (n c : Nat), (binOp .eql 38 (.slice a n c) (.slice none 0 0)).run Tryz.prog w = .ok (.bool a.isNone) w := fun w a n c => Lib.run_eql_slice_nil w _ _ a n c 0 0 Tryz.underlying38
 cases A0 with
 | none =>
  have hl0 : l0.length = 0 := by
   rcases Nat.eq_zero_or_pos l0.length with h | h
   · exact h
   obtain ⟨ad, e, _⟩ := HR.out.2.2 h; cases e
  have : l0 = [] := List.eq_nil_of_length_eq_zero hl0
  subst this
  clear HR hn63 HBd hc0 hl0
  go_enter Tryz.func44, Tryz.ntmps44
  go_wp2_with fail
  go_ret
  exact ⟨_, rfl, Kd.R_nil _ _ _ _ _, Below.refl _ _⟩
 | some ad =>
  have hC1 := Kd.C_below HR.out (below_alloc (Below.refl w.heap.size w) (.cells #[] 5))
  have hR0 : Kd.R (Kd.int .u8) 5 (w.alloc (.cells #[] 5)) w.heap.size (fun _ => True) (.slice (some ⟨w.heap.size, 0, none⟩) 0 0) [] := Kd.R_of_own (enc := Value.int .u8) (xs := []) ⟨rfl, .inr ⟨w.heap.size, 0, #[], rfl, Nat.le_refl _, heap_alloc_new w _, Nat.le_refl _, by simp [maxLen], rfl, rfl⟩⟩ (fun _ _ => trivial)
  have hle : (([] : List Int).length + l0.length) * 1 ≤ 140737488355328 := by have := HBd.out; simp; omega
  go_enter Tryz.func44, Tryz.ntmps44
  go_wp2_with (at_builtin; refine Kd.R_append_row (Value.int .u8) 0 (w0 := w) w.heap.size rfl (.tmp 5) (.tmp 6) 38 5 (.int .u8 0) 1 rfl Tryz.underlying38 ct_info5 rfl (by decide) _ [] l0 _ l0.length c0 (fun _ => True) rfl rfl (fun _ _ => trivial) hR0 hC1 (below_alloc (Below.refl _ _) _) (by simp) hle ?_; intro v2 w2 hR2 hB2 hg2 hat2)
  go_ret
  exact ⟨_, rfl, hR2, hB2⟩
structure Wt (w : World) (base g : Nat) (bs : List Int) : Prop where
  lo : base ≤ g
  v : ∃ v, w.heap[g]? = some (.cells #[v] 152 (0, 0)) ∧ Kd.R (Kd.int .u8) 5 w base (fun k => k ≠ g) v bs
theorem Wt.lt {w : World} {base g : Nat} {bs : List Int} (h : Wt w base g bs) : g < w.heap.size := by
 obtain ⟨v, h, _⟩ := h.v; exact (Array.getElem?_eq_some_iff.1 h).1
set_option maxRecDepth 100000 in
set_option maxHeartbeats 2000000 in
theorem newWriter_calls (w : World) :
    Calls Tryz.prog 77 #[] w fun e w' => e = .returned (.pointer (some ⟨w.heap.size, 0, none⟩)) ∧ Wt w' w.heap.size w.heap.size [] ∧ Below w.heap.size w w' := by
 go_enter Tryz.func77, Tryz.ntmps77
 go_wp2_with fail
 go_ret
 exact ⟨rfl, ⟨Nat.le_refl _, _, heap_alloc_new w _, Kd.R_nil _ _ _ _ _⟩, below_alloc (Below.refl _ _) _⟩
set_option maxRecDepth 100000 in
set_option maxHeartbeats 2000000 in
theorem out_calls (w : World) (base g : Nat) (bs : List Int) (h : Wt w base g bs) (hb : bs.length ≤ 1000000) :
    Calls Tryz.prog 79 #[.pointer (some ⟨g, 0, none⟩)] w fun e w' => ∃ v0_ : Value, e = .returned v0_ ∧ Kd.R (Kd.int .u8) 5 w' w.heap.size (fun _ => True) v0_ bs ∧ Below w.heap.size w w' := by
 obtain ⟨v, h1, h2⟩ := h.v
 obtain ⟨A, c, rfl, hl, hC⟩ := Kd.R_reads h2
 have hcell : w.cell? ⟨g, 0, none⟩ = some (.slice A bs.length c) := (blk_cell h1 0).trans rfl
 clear h h1 h2
 go_enter Tryz.func79, Tryz.ntmps79
 go_wp2_with fail
 refine (clone_calls A c bs w hC hl hb).mono ?_
 rintro e w' ⟨v0, rfl, hR, hB⟩
 go_wp2_with fail
 go_ret
 exact ⟨_, rfl, hR, hB⟩
theorem may_calls (n : Int) (w : World) : Calls Tryz.prog 111 #[.int .i64 n] w fun e w' => e = .returned (.bool (decide (1 ≤ n) && decide (n ≤ 8))) ∧ w' = w := by
 by_cases h1 : 1 ≤ n
 · by_cases h2 : n ≤ 8
   · go_enter Tryz.func111, Tryz.ntmps111
     go_wp2_with fail
     go_ret
     simp [h1, h2]
   go_enter Tryz.func111, Tryz.ntmps111
   go_wp2_with fail
   go_ret
   simp [h1, h2]
 go_enter Tryz.func111, Tryz.ntmps111
 go_wp2_with fail
 go_ret
 simp; omega
set_option maxRecDepth 100000 in
set_option maxHeartbeats 2000000 in
theorem wnum_calls (w : World) (base g : Nat) (bs : List Int) (x : Int) (n : Nat) (h : Wt w base g bs) (hx : 0 ≤ x ∧ x ≤ 18446744073709551615) (hn : 1 ≤ n ∧ n ≤ 8) (hb : bs.length ≤ 1000000) :
    Calls Tryz.prog 78 #[.pointer (some ⟨g, 0, none⟩), .int .u64 x, .int .i64 n] w fun e w' => e = .returned (.tuple #[]) ∧ Wt w' base g (bs ++ (List.range n).map (fun i => x / 2 ^ (8 * (n - 1 - i)) % 256)) ∧ Below base w w' := by
 have HW := hi_ h
 clear h
 go_enter Tryz.func78, Tryz.ntmps78
 go_wp2_with fail
 refine (may_calls n _).mono ?_
 rintro e w1 ⟨rfl, rfl⟩
 have hm : (decide ((1 : Int) ≤ n) && decide ((n : Int) ≤ 8)) = true := by simp; omega
 go_wp2_with fail
 clear hm
 go_loopw [15] (fun vi w' => ∃ k : Nat, k ≤ n ∧ vi = .int .i64 k ∧ Hid (Wt w' base g (bs ++ (List.range k).map (fun i => x / 2 ^ (8 * (n - 1 - i)) % 256))) ∧ Hid (Below base w1 w')) (fun vi _ => n - (intOf vi).toNat)
 case atStart => exact ⟨0, by omega, rfl, by simpa using HW, hi_ (Below.refl _ _)⟩
 case round =>
  obtain ⟨k, hk, rfl, HW2, HB2⟩ := hrel
  by_cases hkn : k < n
  · have hs : (bs ++ (List.range k).map (fun i => x / 2 ^ (8 * (n - 1 - i)) % 256)).length = bs.length + k := by simp
    obtain ⟨v, hv1, hv2⟩ := HW2.out.v
    have hcell : wr.cell? ⟨g, 0, none⟩ = some v := (blk_cell hv1 0).trans rfl
    have hfz := blk_frozen hv1 0
    have hlo := HW2.out.lo
    have hv1 := blk_drew hv1
    have hv2 := Kd.R_drew hv2
    have HB2 := hi_ (below_drew1 HB2.out)
    clear HW
    obtain ⟨m, hm⟩ : ∃ m, m = 8 * (n - 1 - k) := ⟨_, rfl⟩
    have hw : wrap64 (8 * wrap64 (wrap64 ((n : Int) - 1) - k)) = (m : Int) := by unfold wrap64; omega
    have hmin : min m 64 = m := by omega
    have HM := hi_ hm
    clear hm
    have hcell' : wr.drew.cell? ⟨g, 0, none⟩ = some v := hcell
    go_upto_region 4 with fail
    refine start_ (n := 18) (S := fun w' => w'.cell? ⟨g, 0, none⟩ = some v) (ds := [17]) #[false, false, false, false, false, false, false, false, false, false, false, false, false, false, false, false, false, false] (by kernel_rfl) rfl rfl hcell (fun hHeld => ?_)
    generalize wr.drew = wd at hv1 hv2 hfz HB2 hHeld ⊢
    refine pure_ (i := 0) (N := some 18) (v := ?_) (a' := ?_) #[true, false, false, false, false, false, false, false, false, false, false, false, false, false, false, false, false, false] rfl rfl (by kernel_rfl) (fun _ _ _ h => h) (Or.inl ⟨by rfl, ?_⟩) ?_ ?_
    rotate_left
    · intro w'
      go_simp
      with_reducible rfl
    rotate_left
    · simp only [Act.put, List.setIfInBounds_toArray, List.set_cons_zero, List.set_cons_succ, i64_w, i32_w]
      rfl
    refine pure_ (i := 1) (N := some 19) (v := ?_) (a' := ?_) #[true, true, false, false, false, false, false, false, false, false, false, false, false, false, false, false, false, false] rfl rfl (by kernel_rfl) (fun _ _ _ h => h) (Or.inl ⟨by rfl, ?_⟩) ?_ ?_
    rotate_left
    · intro w'
      go_simp
      with_reducible rfl
    rotate_left
    · simp only [Act.put, List.setIfInBounds_toArray, List.set_cons_zero, List.set_cons_succ, i64_w, i32_w]
      rfl
    refine pure_ (i := 2) (N := some 20) (v := ?_) (a' := ?_) #[true, true, true, false, false, false, false, false, false, false, false, false, false, false, false, false, false, false] rfl rfl (by kernel_rfl) (fun _ _ _ h => h) (Or.inl ⟨by rfl, ?_⟩) ?_ ?_
    rotate_left
    · intro w'
      go_simp
      with_reducible rfl
    rotate_left
    · simp only [Act.put, List.setIfInBounds_toArray, List.set_cons_zero, List.set_cons_succ, i64_w, i32_w]
      rfl
    refine pure_ (i := 3) (N := some 21) (v := ?_) (a' := ?_) #[true, true, true, true, false, false, false, false, false, false, false, false, false, false, false, false, false, false] rfl rfl (by kernel_rfl) (fun _ _ _ h => h) (Or.inl ⟨by rfl, ?_⟩) ?_ ?_
    rotate_left
    · intro w'
      go_simp
      with_reducible rfl
    rotate_left
    · simp only [Act.put, List.setIfInBounds_toArray, List.set_cons_zero, List.set_cons_succ, i64_w, i32_w]
      rfl
    refine take_ (i := 4) (N := some 22) (v := ?_) (a' := ?_) #[true, true, true, true, true, false, false, false, false, false, false, false, false, false, false, false, false, false] rfl rfl (by kernel_rfl) (fun _ _ _ h => h) (Or.inl ⟨by rfl, ?_⟩) hHeld ?_ ?_
    rotate_left
    · rintro w' s0
      go_simp
      with_reducible rfl
    rotate_left
    · simp only [Act.put, List.setIfInBounds_toArray, List.set_cons_zero, List.set_cons_succ, i64_w, i32_w]
      rfl
    refine pure_ (i := 5) (N := some 23) (v := ?_) (a' := ?_) #[true, true, true, true, true, true, false, false, false, false, false, false, false, false, false, false, false, false] rfl rfl (by kernel_rfl) (fun _ _ _ h => h) (Or.inl ⟨by rfl, ?_⟩) ?_ ?_
    rotate_left
    · intro w'
      go_simp
      with_reducible rfl
    rotate_left
    · simp only [Act.put, List.setIfInBounds_toArray, List.set_cons_zero, List.set_cons_succ, i64_w, i32_w]
      rfl
    refine pure_ (i := 6) (N := some 24) (v := ?_) (a' := ?_) #[true, true, true, true, true, true, true, false, false, false, false, false, false, false, false, false, false, false] rfl rfl (by kernel_rfl) (fun _ _ _ h => h) (Or.inl ⟨by rfl, ?_⟩) ?_ ?_
    rotate_left
    · intro w'
      go_simp
      with_reducible rfl
    rotate_left
    · simp only [Act.put, List.setIfInBounds_toArray, List.set_cons_zero, List.set_cons_succ, i64_w, i32_w]
      rfl
    refine pure_ (i := 7) (N := some 25) (v := ?_) (a' := ?_) #[true, true, true, true, true, true, true, true, false, false, false, false, false, false, false, false, false, false] rfl rfl (by kernel_rfl) (fun _ _ _ h => h) (Or.inl ⟨by rfl, ?_⟩) ?_ ?_
    rotate_left
    · intro w'
      go_simp
      with_reducible rfl
    rotate_left
    · simp only [Act.put, List.setIfInBounds_toArray, List.set_cons_zero, List.set_cons_succ, i64_w, i32_w]
      rfl
    refine pure_ (i := 8) (N := some 26) (v := ?_) (a' := ?_) #[true, true, true, true, true, true, true, true, true, false, false, false, false, false, false, false, false, false] rfl rfl (by kernel_rfl) (fun _ _ _ h => h) (Or.inl ⟨by rfl, ?_⟩) ?_ ?_
    rotate_left
    · intro w'
      go_simp
      with_reducible rfl
    rotate_left
    · simp only [Act.put, List.setIfInBounds_toArray, List.set_cons_zero, List.set_cons_succ, i64_w, i32_w]
      rfl
    refine pure_ (i := 9) (N := some 27) (v := ?_) (a' := ?_) #[true, true, true, true, true, true, true, true, true, true, false, false, false, false, false, false, false, false] rfl rfl (by kernel_rfl) (fun _ _ _ h => h) (Or.inl ⟨by rfl, ?_⟩) ?_ ?_
    rotate_left
    · intro w'
      go_simp
      with_reducible rfl
    rotate_left
    · simp only [Act.put, List.setIfInBounds_toArray, List.set_cons_zero, List.set_cons_succ, i64_w, i32_w]
      rfl
    refine pure_ (i := 10) (N := some 28) (v := ?_) (a' := ?_) #[true, true, true, true, true, true, true, true, true, true, true, false, false, false, false, false, false, false] rfl rfl (by kernel_rfl) (fun _ _ _ h => h) (Or.inl ⟨by rfl, ?_⟩) ?_ ?_
    rotate_left
    · intro w'
      go_simp
      with_reducible rfl
    rotate_left
    · simp only [Act.put, List.setIfInBounds_toArray, List.set_cons_zero, List.set_cons_succ, i64_w, i32_w]
      rfl
    refine pure_ (i := 11) (N := some 29) (v := ?_) (a' := ?_) #[true, true, true, true, true, true, true, true, true, true, true, true, false, false, false, false, false, false] rfl rfl (by kernel_rfl) (fun _ _ _ h => h) (Or.inl ⟨by rfl, ?_⟩) ?_ ?_
    rotate_left
    · intro w'
      go_simp
      with_reducible rfl
    rotate_left
    · simp only [Act.put, List.setIfInBounds_toArray, List.set_cons_zero, List.set_cons_succ, i64_w, i32_w]
      rfl
    refine pure_ (i := 12) (N := some 30) (v := ?_) (a' := ?_) #[true, true, true, true, true, true, true, true, true, true, true, true, true, false, false, false, false, false] rfl rfl (by kernel_rfl) (fun _ _ _ h => h) (Or.inl ⟨by rfl, ?_⟩) ?_ ?_
    rotate_left
    · intro w'
      go_simp
      with_reducible rfl
    rotate_left
    · simp only [Act.put, List.setIfInBounds_toArray, List.set_cons_zero, List.set_cons_succ, i64_w, i32_w]
      rfl
    have hgl : g < wd.heap.size := (Array.getElem?_eq_some_iff.1 hv1).1
    refine one_ (i := 13) (N := some 31) #[true, true, true, true, true, true, true, true, true, true, true, true, true, true, false, false, false, false] rfl rfl (by kernel_rfl) (by decide) (fun K hK => ?_)
    refine value_ (v := .slice (some ⟨wd.heap.size, 0, none⟩) 1 1) (w1 := wd.alloc (.cells #[.int .u8 (IntKind.u8.wrap (x / 2 ^ m))] 5)) (by rfl) rfl ?_ ?_
    · go_simp
    have hS1 : (wd.alloc (.cells #[.int .u8 (IntKind.u8.wrap (x / 2 ^ m))] 5)).cell? ⟨g, 0, none⟩ = some v := (blk_cell (blk_alloc hv1 _) 0).trans rfl
    refine hK.out _ _ hS1 (fun hHeld => ?_)
    clear hK K
    refine norm_ (a' := ?_) ?_ ?_
    rotate_left
    · show Act.put _ (some 31) _ = _
      simp only [Act.put, List.setIfInBounds_toArray, List.set_cons_zero, List.set_cons_succ, i64_w, i32_w]
      rfl
    refine one_ (i := 14) (N := some 32) #[true, true, true, true, true, true, true, true, true, true, true, true, true, true, true, false, false, false] rfl rfl (by kernel_rfl) (by decide) (fun K hK => ?_)
    refine Kd.R_append_step (Kd.int .u8) (w0 := w1) base (by rfl) (.tmp 22) (.tmp 31) 38 5 (.int .u8 0) 1 rfl Tryz.underlying38 ct_info5 rfl (by decide) (by decide) v _ (IntKind.u8.wrap (x / 2 ^ m)) [.int .u8 (IntKind.u8.wrap (x / 2 ^ m))] (fun k => k ≠ g) (fun _ => False) rfl rfl rfl (fun _ hk => hk.elim) (fun k hk => by omega) hv2 HB2.out (Nat.le_of_lt (Nat.lt_of_le_of_lt hlo hgl)) (by omega) ?_
    intro v1 wa hR1 hBa hga hat
    obtain ⟨A1, c1, rfl⟩ := Kd.R_slice hR1
    have hva : wa.heap[g]? = some (.cells #[v] 152 (0, 0)) := (hga.block g hgl (fun e => (hv2.1 g e.symm) rfl)).trans hv1
    refine hK.out _ _ ((blk_cell hva 0).trans rfl) (fun hHeld => ?_)
    clear hK K
    refine norm_ (a' := ?_) ?_ ?_
    rotate_left
    · show Act.put _ (some 32) _ = _
      simp only [Act.put, List.setIfInBounds_toArray, List.set_cons_zero, List.set_cons_succ, i64_w, i32_w]
      rfl
    refine pure_ (i := 15) (N := some 33) (v := ?_) (a' := ?_) #[true, true, true, true, true, true, true, true, true, true, true, true, true, true, true, true, false, false] rfl rfl (by kernel_rfl) (fun _ _ _ h => h) (Or.inl ⟨by rfl, ?_⟩) ?_ ?_
    rotate_left
    · intro w'
      go_simp
      with_reducible rfl
    rotate_left
    · simp only [Act.put, List.setIfInBounds_toArray, List.set_cons_zero, List.set_cons_succ, i64_w, i32_w]
      rfl
    refine pure_ (i := 16) (N := some 34) (v := ?_) (a' := ?_) #[true, true, true, true, true, true, true, true, true, true, true, true, true, true, true, true, true, false] rfl rfl (by kernel_rfl) (fun _ _ _ h => h) (Or.inl ⟨by rfl, ?_⟩) ?_ ?_
    rotate_left
    · intro w'
      go_simp
      with_reducible rfl
    rotate_left
    · simp only [Act.put, List.setIfInBounds_toArray, List.set_cons_zero, List.set_cons_succ, i64_w, i32_w]
      rfl
    have hca : wa.cell? ⟨g, 0, none⟩ = some v := (blk_cell hva 0).trans rfl
    have hfa := blk_frozen hva 0
    refine last_ (i := 17) (N := none) #[true, true, true, true, true, true, true, true, true, true, true, true, true, true, true, true, true, true] rfl rfl (by kernel_rfl) (by decide) (fun K hK => ?_)
    refine skip_ (w1 := ?_) (by rfl) rfl ?_ ?_
    rotate_left
    · go_simp
      rfl
    refine hK.out _ _ ?_
    refine done_ (by kernel_rfl) ?_
    clear hK K
    have hW3 : Wt (wa.setCell ⟨g, 0, none⟩ (.slice A1 _ c1)) base g _ := ⟨hlo, _, blk_put (cs := #[v]) hva 0 _ rfl, Kd.R_far hR1 (fun k hk => hk) _⟩
    have hB3 := fun u => hBa.setCell (p := ⟨g, 0, none⟩) hlo u
    have e1 : (bs ++ List.map (fun i => x / 2 ^ (8 * (n - 1 - i)) % 256) (List.range k) ++ [IntKind.u8.wrap (x / 2 ^ m)]) = bs ++ List.map (fun i => x / 2 ^ (8 * (n - 1 - i)) % 256) (List.range (k + 1)) := by rw [List.range_succ, List.map_append, List.append_assoc]; simp [HM.out, IntKind.wrap_u8]
    have e2 : (bs ++ List.map (fun i => x / 2 ^ (8 * (n - 1 - i)) % 256) (List.range (k + 1))).length = bs.length + (k + 1) := by simp
    rw [e1, e2] at hW3
    go_wp2_with fail
    exact ⟨⟨k + 1, by omega, by simp, hi_ hW3, hi_ (hB3 _)⟩, by simp [intOf]; omega⟩
  have : k = n := by omega
  subst this
  go_wp2_with fail
  go_end0
  exact ⟨rfl, HW2.out, HB2.out⟩
namespace Js
theorem new_one (w : World) (x : Int) (g : Nat) (hg : w.heap.size = g) : Kd.R (Kd.int .u8) 5 (w.alloc (.cells #[.int .u8 x] 5)) g (fun _ => True) (.slice (some ⟨g, 0, none⟩) 1 1) [x] := by
 subst hg
 exact Kd.R_of_own (enc := Value.int .u8) (xs := [x]) ⟨rfl, .inr ⟨w.heap.size, 1, #[.int .u8 x], rfl, Nat.le_refl _, heap_alloc_new w _, by simp, by unfold maxLen; omega, rfl, rfl⟩⟩ (fun _ _ => trivial)
theorem new_oneC (w : World) (x : Int) (g : Nat) (hg : w.heap.size = g) : Kd.C (Kd.int .u8) (w.alloc (.cells #[.int .u8 x] 5)) (some ⟨g, 0, none⟩) 1 [x] := by
 obtain ⟨A, c, he, hl, hC⟩ := Kd.R_reads (new_one w x g hg)
 injection he with h1 h2 h3
 subst h1
 exact hC
theorem not8 (y : Int) (h : 0 ≤ y ∧ y < 256) : bits .xor .u8 IntKind.u8.max y = 255 - y := by
 have : ∀ n : Fin 256, bits .xor .u8 IntKind.u8.max (n.val : Int) = 255 - (n.val : Int) := by decide +kernel
 have h2 := this ⟨y.toNat, by omega⟩
 have e : ((⟨y.toNat, by omega⟩ : Fin 256).val : Int) = y := by show (y.toNat : Int) = y; omega
 rwa [e] at h2
theorem u8_at {w : World} {A : Option Addr} {xs : List Int} (h : Kd.C (Kd.int .u8) w A xs.length xs) (i : Nat) (hi : i < xs.length) : ∃ ad, A = some ad ∧ w.cell? (ad.add i) = some (.int .u8 (xs.getD i 0)) := by
 obtain ⟨ad, c, e, hs, hk, hcell⟩ := ReadsRow.get_ h 0 (i : Int) (by omega) (by omega)
 refine ⟨ad, e, ?_⟩
 obtain rfl : c = [Value.int .u8 (xs.getD i 0)] := by simpa [Kd.int, Kd.scalar] using hk
 have := hcell 0 _ rfl
 simpa [Kd.int, Kd.scalar] using this
def dgs (D : List UInt8) : List Int := D.map fun c => (c.toNat : Int) - 47
def heightL (h : Int) : List Int := [h / 256 % 256, h % 256]
def numI (D : List UInt8) (e : Int) : List Int := heightL (D.length + e + 2000) ++ dgs D ++ [0]
def numberL (d : Bool) (D : List UInt8) (e : Int) : List Int :=
 if D = [] then [1] else if d = true then 0 :: (numI D e).map (fun c => 255 - c) else 2 :: numI D e
set_option maxRecDepth 100000 in
set_option maxHeartbeats 2000000 in
theorem number_nil (k : Int) (b d : Bool) (t : ByteArray) (x : Int) (A B : Option Addr) (n m c c' : Nat) (w : World) :
    Calls Tryz.prog 40 #[.agg #[.int .i64 k, .bool b, .bool d, .string ⟨#[]⟩, .int .i64 x, .string t, .slice A n c, .slice B m c']] w fun e w' => ∃ v0_ : Value, e = .returned v0_ ∧ Kd.R (Kd.int .u8) 5 w' w.heap.size (fun _ => True) v0_ [1] ∧ Below w.heap.size w w' := by
 go_enter Tryz.func40, Tryz.ntmps40
 go_wp2
 go_ret
 refine ⟨_, rfl, ?_, below_alloc (below_alloc (below_alloc (Below.refl _ _) _) _) _⟩
 exact Kd.R_lower (base := w.heap.size + 1 + 1) (new_one _ 1 _ (by simp)) (by omega)
theorem dgs_snoc (D : List UInt8) (k : Nat) (h : k < D.length) : dgs (D.take (k + 1)) = dgs (D.take k) ++ [(D[k].toNat : Int) - 47] := by
 unfold dgs; rw [List.take_succ_eq_append_getElem h, List.map_append]; rfl
theorem numI_bd (D : List UInt8) (e : Int) (hd : D.all NumP.isD = true) : ∀ y ∈ numI D e, 0 ≤ y ∧ y < 256 := by
 intro y hy
 unfold numI at hy
 simp only [List.mem_append, List.mem_singleton] at hy
 rcases hy with (hy | hy) | hy
 · simp only [heightL, List.mem_cons, List.not_mem_nil, or_false] at hy; rcases hy with rfl | rfl <;> omega
 · obtain ⟨c, hc, rfl⟩ := List.mem_map.1 hy
   have := List.all_eq_true.1 hd c hc
   simp only [NumP.isD, decide_eq_true_eq] at this
   omega
 subst hy; omega
set_option maxRecDepth 100000 in
set_option maxHeartbeats 4000000 in
theorem number_some (k : Int) (b d : Bool) (D : List UInt8) (t : ByteArray) (x : Int) (A B : Option Addr) (n m c c' : Nat) (w : World) (hD : D ≠ []) (hl : D.length ≤ 40) (hd : D.all NumP.isD = true) (hx : -999 ≤ x ∧ x ≤ 999) :
    Calls Tryz.prog 40 #[.agg #[.int .i64 k, .bool b, .bool d, .string (ofL D), .int .i64 x, .string t, .slice A n c, .slice B m c']] w fun e w' => ∃ v0_ : Value, e = .returned v0_ ∧ Kd.R (Kd.int .u8) 5 w' w.heap.size (fun _ => True) v0_ (numberL d D x) ∧ Below w.heap.size w w' := by
 have hs : (ofL D).size = D.length := ofL_size D
 have hne : (ofL D).toList ≠ [] := by rw [ofL_toList]; exact hD
 have hne' : (ofL D).toList.isEmpty = false := by rw [ofL_toList]; cases D <;> simp_all
 have HD := hi_ hd
 have HS := hi_ hs
 have hs1 : ((ofL D).size : Int) ≤ 40 := by omega
 have hs2 : (0 : Int) ≤ ((ofL D).size : Int) := by omega
 obtain ⟨hx1, hx2⟩ := hx
 clear hs hd
 obtain ⟨z, hz⟩ : ∃ z, (ofL D).size = z := ⟨_, rfl⟩
 have HZ := hi_ hz
 go_enter Tryz.func40, Tryz.ntmps40
 go_wp2_with fail
 refine (newWriter_calls _).mono ?_
 rintro E w2 ⟨rfl, hW, hB⟩
 have hB0 := hi_ hB
 have hBw : Below w.heap.size w w2 := (below_alloc (below_alloc (Below.refl _ _) _) _).trans (hB.mono (by simp; omega))
 have hsz : ∀ o p, ((w.alloc o).alloc p).heap.size = w.heap.size + 2 := fun o p => by simp
 simp only [hsz] at hW
 have hblk : w2.heap[w.heap.size + 1]? = some (.cells #[.bool d, .string (ofL D), .int .i64 x] 24 (0, 0)) := by
  refine (hB.block _ (by simp)).trans ?_
  have := blk_new (w.alloc (.cells #[.int .i64 k, .bool b, .bool d, .string (ofL D), .int .i64 x, .string t, .slice A n c, .slice B m c'] 28)) (.cells #[.bool d, .string (ofL D), .int .i64 x] 24)
  simpa using this
 have HBK := hi_ hblk
 have HBW := hi_ hBw
 have HW := hi_ hW
 have hsz2 : w.heap.size + 2 ≤ w2.heap.size := by have := hB.size; simp at this; omega
 have c0 : w2.cell? ⟨w.heap.size + 1, 0, none⟩ = some (.bool d) := (blk_cell hblk 0).trans rfl
 have c1 : w2.cell? ⟨w.heap.size + 1, 1, none⟩ = some (.string (ofL D)) := (blk_cell hblk 1).trans rfl
 have c2 : w2.cell? ⟨w.heap.size + 1, 2, none⟩ = some (.int .i64 x) := (blk_cell hblk 2).trans rfl
 clear hW hB hB0 hblk hBw hsz
 go_wp2_with fail
 have hb1 : w.heap.size + 1 < w.heap.size + 1 + 1 := by omega
 refine (wnum_calls w2 (w.heap.size + 1 + 1) (w.heap.size + 1 + 1) [] _ 2 HW.out (by omega) (by omega) (by simp)).mono ?_
 rintro E w3 ⟨rfl, hW, hB⟩
 have e3 : ([] : List Int) ++ (List.range 2).map (fun i => ((z : Int) + x + 2000) / 2 ^ (8 * (2 - 1 - i)) % 256) = heightL (D.length + x + 2000) := by
  have : (z : Int) = (D.length : Int) := by rw [← HZ.out, HS.out]
  simp [List.range, List.range.loop, heightL, this]
 rw [e3] at hW
 clear e3
 have HW3 := hi_ hW
 have HB3 := hi_ hB
 clear hW hB HW
 have HBK3 := hi_ ((HB3.out.block _ hb1).trans HBK.out)
 have HBW3 := hi_ (HBW.out.trans (HB3.out.mono (by omega)))
 clear c0 c1 c2 HBK HBW HB3 hsz2
 have c1 : w3.cell? ⟨w.heap.size + 1, 1, none⟩ = some (.string (ofL D)) := (blk_cell HBK3.out 1).trans rfl
 go_wp2_with fail
 clear c1
 go_loopw [30] (fun vi w' => ∃ i : Nat, i ≤ D.length ∧ vi = .int .i64 i ∧ Hid (Wt w' (w.heap.size + 1 + 1) (w.heap.size + 1 + 1) (heightL (D.length + x + 2000) ++ dgs (D.take i))) ∧ Hid (Below (w.heap.size + 1 + 1) w3 w')) (fun vi _ => D.length - (intOf vi).toNat)
 case atStart => exact ⟨0, by omega, rfl, hi_ (by simpa [dgs] using HW3.out), hi_ (Below.refl _ _)⟩
 case round =>
  obtain ⟨i, hi, rfl, HWi, HBi⟩ := hrel
  have HBKi := hi_ ((HBi.out.block _ hb1).trans HBK3.out)
  have c1 : wr.cell? ⟨w.heap.size + 1, 1, none⟩ = some (.string (ofL D)) := (blk_cell HBKi.out 1).trans rfl
  have hzl : z = D.length := by rw [← HZ.out, HS.out]
  by_cases hik : i < D.length
  · have hiz : i < z := by omega
    have hda : NumP.isD D[i] = true := List.all_eq_true.1 HD.out _ (List.getElem_mem hik)
    have hdg : 48 ≤ D[i].toNat ∧ D[i].toNat ≤ 57 := by simpa [NumP.isD] using hda
    clear hzl
    go_wp2_with fail
    have hiz' : i < (ofL D).size := by omega
    obtain ⟨y, hy⟩ : ∃ y : Nat, y = ((ofL D)[i]'hiz').toNat := ⟨_, rfl⟩
    rw [← hy]
    have hy2 : y = D[i].toNat := hy
    have hsn : Hid (dgs (D.take (i + 1)) = dgs (D.take i) ++ [(y : Int) - 47]) := hi_ (by rw [hy2]; exact dgs_snoc D i hik)
    have hdg : 48 ≤ y ∧ y ≤ 57 := by rw [hy2]; exact hdg
    clear hy
    refine (wnum_calls wr (w.heap.size + 1 + 1) (w.heap.size + 1 + 1) _ _ 1 HWi.out (by omega) (by omega) (by simp [heightL, dgs]; omega)).mono ?_
    rintro E w4 ⟨rfl, hW, hB⟩
    have e3 : (List.range 1).map (fun j => (((y : Int) - 48 + 1) % 256) / 2 ^ (8 * (1 - 1 - j)) % 256) = [(y : Int) - 47] := by
     simp [List.range, List.range.loop]; omega
    rw [e3, List.append_assoc, ← hsn.out] at hW
    have HW4 := hi_ hW
    have HB4 := hi_ (HBi.out.trans (hB.mono (Nat.le_refl _)))
    clear hW hB e3 hda hdg
    go_wp2_with fail
    exact ⟨⟨i + 1, by omega, by simp, HW4, HB4⟩, by simp [intOf]; omega⟩
  have : i = D.length := by omega
  subst this
  rw [List.take_length] at HWi
  have hiz : ¬ (D.length < z) := by omega
  clear hzl
  go_wp2_with fail
  refine (wnum_calls wr (w.heap.size + 1 + 1) (w.heap.size + 1 + 1) _ _ 1 HWi.out (by omega) (by omega) (by simp [heightL, dgs]; omega)).mono ?_
  rintro E w4 ⟨rfl, hW, hB⟩
  have e3 : (List.range 1).map (fun j => (0 : Int) / 2 ^ (8 * (1 - 1 - j)) % 256) = [0] := by simp [List.range, List.range.loop]
  rw [e3] at hW
  have HW4 : Hid (Wt w4 (w.heap.size + 1 + 1) (w.heap.size + 1 + 1) (numI D x)) := hi_ (by unfold numI; exact hW)
  have HB4 := hi_ (HBi.out.trans (hB.mono (Nat.le_refl _)))
  clear hW hB e3
  go_wp2_with fail
  refine (out_calls w4 (w.heap.size + 1 + 1) (w.heap.size + 1 + 1) _ HW4.out (by simp [numI, heightL, dgs]; omega)).mono ?_
  rintro E w5 ⟨v, rfl, hR, hB⟩
  have hB5 : Below w.heap.size w w5 := HBW3.out.trans ((HB4.out.mono (by omega)).trans (hB.mono (by have := HB4.out.size; have := HBW3.out.size; omega)))
  have hbk5 := (hB.block (w.heap.size + 1) (by have := HW4.out.lt; omega)).trans ((HB4.out.block _ hb1).trans HBK3.out)
  have c0 : w5.cell? ⟨w.heap.size + 1, 0, none⟩ = some (.bool d) := (blk_cell hbk5 0).trans rfl
  have hsz5 : w.heap.size + 2 ≤ w4.heap.size := by have := HW4.out.lt; omega
  have hlen : (numI D x).length = D.length + 3 := by simp [numI, heightL, dgs]
  have HB5 := hi_ hB5
  obtain ⟨A5, c5, rfl, hl5, hC⟩ := Kd.R_reads hR
  have HR := hi_ hR
  have HC := hi_ hC
  clear hB hB5 hbk5 hR hC c1
  have HLEN := hi_ hlen
  clear hlen
  have hl1 : ∀ j : Int, ([j].length + (numI D x).length) * 1 ≤ 140737488355328 := fun j => by rw [HLEN.out]; simp; omega
  have hOn : ∀ j : Int, Kd.R (Kd.int .u8) 5 (w5.alloc (.cells #[.int .u8 j] 5)) w.heap.size (fun _ => True) (.slice (some ⟨w5.heap.size, 0, none⟩) 1 1) [j] := fun j => Kd.R_lower (new_one w5 j _ rfl) HB5.out.size
  have hCn : ∀ o, Kd.C (Kd.int .u8) (w5.alloc o) A5 (numI D x).length (numI D x) := fun o => Kd.C_below HC.out (below_alloc (Below.refl _ _) o)
  have hBn : ∀ o, Below w.heap.size w (w5.alloc o) := fun o => below_alloc HB5.out o
  have hsn : ∀ o, w.heap.size ≤ (w5.alloc o).heap.size := fun o => (hBn o).size
  have HP := hi_ (And.intro hl1 (And.intro hOn (And.intro hCn (And.intro hBn hsn))))
  clear hl1 hOn hCn hBn hsn
  cases d with
  | false =>
   have HF : Hid (numberL false D x = 2 :: numI D x) := hi_ (by unfold numberL; rw [if_neg hD]; rfl)
   go_wp2_with (at_builtin; refine Kd.R_append_row (Value.int .u8) 0 (w0 := w) w.heap.size rfl (.tmp 50) (.tmp 51) 38 5 (.int .u8 0) 1 rfl Tryz.underlying38 ct_info5 rfl (by decide) _ [2] (numI D x) A5 (numI D x).length c5 (fun _ => True) rfl rfl (fun _ _ => trivial) (HP.out.2.1 2) (HP.out.2.2.1 _) (HP.out.2.2.2.1 _) (HP.out.2.2.2.2 _) (HP.out.1 2) ?_; intro v2 w6 hR2 hB2 hg2 hat2)
   go_ret
   exact ⟨_, rfl, by rw [HF.out]; exact hR2, hB2⟩
  | true =>
   have HF : Hid (numberL true D x = [0] ++ (numI D x).map (fun c => 255 - c)) := hi_ (by unfold numberL; rw [if_neg hD]; rfl)
   obtain ⟨ad, rfl, -⟩ := u8_at HC.out 0 (by rw [HLEN.out]; omega)
   obtain ⟨L, hL⟩ : ∃ L, (numI D x).length = L := ⟨_, rfl⟩
   have HL := hi_ hL
   have hL2 : L ≤ 43 := by have := HLEN.out; omega
   rw [hL]
   clear hL
   go_wp2_with fail
   go_loopw [7, 56] (fun v vi w' => ∃ i : Nat, i ≤ L ∧ vi = .int .i64 i ∧ Hid (Kd.R (Kd.int .u8) 5 w' w5.heap.size (fun _ => True) v ([0] ++ ((numI D x).take i).map (fun c => 255 - c))) ∧ Hid (Below w5.heap.size w5 w')) (fun _ vi _ => L - (intOf vi).toNat)
   case atStart => exact ⟨0, by omega, rfl, hi_ (by simpa using new_one w5 0 _ rfl), hi_ (below_alloc (Below.refl _ _) _)⟩
   case round =>
    obtain ⟨i, hi, rfl, HRi, HBi⟩ := hrel
    by_cases hik : i < L
    · obtain ⟨ad', e', hc⟩ := u8_at HC.out i (by rw [HL.out]; exact hik)
      injection e' with e'
      subst e'
      have hc' := pw_cell_below HBi.out hc
      obtain ⟨y, hy⟩ : ∃ y, y = (numI D x).getD i 0 := ⟨_, rfl⟩
      rw [← hy] at hc'
      have hib : i < (numI D x).length := by rw [HL.out]; exact hik
      have hyb : 0 ≤ y ∧ y < 256 := numI_bd D x HD.out y (by rw [hy, List.getD_eq_getElem?_getD, List.getElem?_eq_getElem hib]; exact List.getElem_mem hib)
      have HN := hi_ (not8 y hyb)
      have ht : (numI D x).take (i + 1) = (numI D x).take i ++ [y] := by rw [List.take_succ_eq_append_getElem hib, hy, List.getD_eq_getElem?_getD, List.getElem?_eq_getElem hib]; rfl
      have HTK := hi_ ht
      have HLN : Hid (([0] ++ ((numI D x).take i).map (fun c => 255 - c)).length = i + 1) := hi_ (by rw [List.length_append, List.length_map, List.length_take, HL.out]; simp; omega)
      clear hc hy hib hyb ht
      obtain ⟨RR, hRR⟩ : ∃ RR, RR = [0] ++ ((numI D x).take i).map (fun c => 255 - c) := ⟨_, rfl⟩
      rw [← hRR] at HRi HLN
      have HRR := hi_ hRR
      clear hRR
      go_wp2_with (at_builtin; refine Kd.R_append_row (Value.int .u8) 0 (w0 := w5) w5.heap.size rfl (.tmp 60) (.tmp 63) 38 5 (.int .u8 0) 1 rfl Tryz.underlying38 ct_info5 rfl (by decide) _ RR [bits .xor .u8 IntKind.u8.max y] (some ⟨wr.heap.size, 0, none⟩) 1 1 (fun _ => True) rfl rfl (fun _ _ => trivial) (Kd.R_below HRi.out (below_alloc (Below.refl _ _) _)) (new_oneC wr _ _ rfl) (below_alloc HBi.out _) (below_alloc HBi.out _).size (by rw [HLN.out]; omega) ?_; intro v2 w6 hR2 hB2 hg2 hat2)
      rw [HN.out, HRR.out, List.append_assoc] at hR2
      exact ⟨⟨i + 1, by omega, by simp, hi_ (by rw [HTK.out, List.map_append]; exact hR2), hi_ hB2⟩, by simp [intOf]; omega⟩
    have : i = L := by omega
    subst this
    have ht : (numI D x).take i = numI D x := by rw [← HL.out]; exact List.take_length
    rw [ht] at HRi
    clear ht
    go_wp2_with fail
    go_ret
    exact ⟨_, rfl, by rw [HF.out]; exact Kd.R_lower HRi.out HB5.out.size, HB5.out.trans (HBi.out.mono HB5.out.size)⟩
def escO (c : UInt8) : List Int := if c = 0 then [0, 255] else [(c.toNat : Int)]
def textL (s : List UInt8) : List Int := s.flatMap escO ++ [0, 0]
theorem escO_len (s : List UInt8) : (s.flatMap escO).length ≤ 2 * s.length := by
 induction s with
 | nil => simp
 | cons c t ih => rw [List.flatMap_cons, List.length_append]; unfold escO at *; split <;> simp at * <;> omega
theorem text_l0 (s : List UInt8) (hs : s.length ≤ 1000000) (n : Nat) : ∀ (i k : Nat) (out : List Int), i + n = s.length → n < k → out.length ≤ 2 * i →
    order_text.l0 k (ofL s) out (s.length : Int) (i : Int) = some (out ++ textL (s.drop i)) := by
 induction n with
 | zero =>
  intro i k out hi hk ho
  obtain ⟨k, rfl⟩ : ∃ m, k = m + 1 := ⟨k - 1, by omega⟩
  simp only [order_text.l0]
  rw [if_neg (by omega), List.drop_of_length_le (by omega)]
  simp only [Option.bind_some]
  rw [if_pos (by simp; omega)]
  rfl
 | succ n ih =>
  intro i k out hi hk ho
  obtain ⟨k, rfl⟩ : ∃ m, k = m + 1 := ⟨k - 1, by omega⟩
  have hl : i < s.length := by omega
  have hb := bt_ofL s i hl
  have hw : wrap64 ((i : Int) + 1) = ((i + 1 : Nat) : Int) := by unfold wrap64; omega
  have hd : s.drop i = s[i] :: s.drop (i + 1) := List.drop_eq_getElem_cons hl
  have ht : textL (s.drop i) = escO s[i] ++ textL (s.drop (i + 1)) := by rw [hd]; simp only [textL, List.flatMap_cons, List.append_assoc]
  rw [ht]
  unfold escO
  simp only [order_text.l0]
  rw [if_pos (by omega), if_pos (by omega), if_pos (by rw [ofL_size]; omega), if_pos (by omega), hb]
  simp only [Option.bind_some]
  rw [hw]
  by_cases h0 : s[i] = 0
  · have h1 : (s[i].toNat : Int) = 0 := by rw [h0]; rfl
    rw [if_pos h1, if_pos (by simp; omega), ih (i + 1) k _ (by omega) (by omega) (by simp; omega), if_pos h0]
    simp only [List.append_assoc, List.cons_append, List.nil_append]
    rw [h1]
  · have h1 : ¬ (s[i].toNat : Int) = 0 := fun e => h0 (by apply UInt8.toNat_inj.1; have : s[i].toNat = 0 := by exact_mod_cast e
                                                          rw [this]; rfl)
    rw [if_neg h1, ih (i + 1) k _ (by omega) (by omega) (by simp; omega), if_neg h0, List.append_assoc]
theorem text_f (s : List UInt8) (hs : s.length ≤ 1000000) : order_text.f (s.length + 1) (ofL s) = some (textL s) := by
 unfold order_text.f
 rw [ofL_size]
 simpa using text_l0 s hs s.length 0 (s.length + 1) [] (by omega) (by omega) (by simp)
def keyL (x : S28) : List Int × Int :=
 if x.f0 = 0 then ([1], 0) else
 if x.f0 = 1 then ([if x.f1 = true then 3 else 2], 0) else
 if x.f0 = 2 then (4 :: numberL x.f2.f0 x.f2.f1.data.toList x.f2.f2, 0) else
 if x.f0 = 3 then (5 :: textL x.f3.data.toList, 0) else ([], 36)
theorem numberL_len (d : Bool) (D : List UInt8) (e : Int) (h : D.length ≤ 40) : (numberL d D e).length ≤ 100 := by
 unfold numberL
 split
 · simp
 split <;> simp [numI, heightL, dgs] <;> omega
def okNum (n : S24) : Prop := n.f1.data.toList.length ≤ 40 ∧ n.f1.data.toList.all NumP.isD = true ∧ -999 ≤ n.f2 ∧ n.f2 ≤ 999
theorem onum_calls (k : Int) (b d : Bool) (D : ByteArray) (t : ByteArray) (x : Int) (A B : Option Addr) (n m c c' : Nat) (w : World) (h : okNum ⟨d, D, x⟩) :
    Calls Tryz.prog 40 #[.agg #[.int .i64 k, .bool b, .bool d, .string D, .int .i64 x, .string t, .slice A n c, .slice B m c']] w fun e w' => ∃ v0_ : Value, e = .returned v0_ ∧ Kd.R (Kd.int .u8) 5 w' w.heap.size (fun _ => True) v0_ (numberL d D.data.toList x) ∧ Below w.heap.size w w' := by
 by_cases hD : D.data.toList = []
 · have e : D = ⟨#[]⟩ := by
     cases D with | mk a => cases a with | mk l => simp at hD; rw [hD]
   subst e
   have : numberL d ([] : List UInt8) x = [1] := by unfold numberL; rw [if_pos rfl]
   rw [show (⟨#[]⟩ : ByteArray).data.toList = [] from rfl, this]
   exact number_nil k b d t x A B n m c c' w
 · have := number_some k b d D.data.toList t x A B n m c c' w hD h.1 h.2.1 h.2.2
   rwa [show ofL D.data.toList = D from rfl] at this
set_option maxRecDepth 100000 in
set_option maxHeartbeats 4000000 in
theorem key_calls (x : S28) (hx : 0 ≤ x.f0 ∧ x.f0 ≤ 5) (hn : okNum x.f2) (ht : x.f3.data.toList.length ≤ 1000000) (A B : Option Addr) (n m c c' : Nat) (w : World) (hT : KTabs w) :
    Calls Tryz.prog 18 #[.agg #[.int .i64 x.f0, .bool x.f1, .bool x.f2.f0, .string x.f2.f1, .int .i64 x.f2.f2, .string x.f3, .slice A n c, .slice B m c']] w fun e w' => ∃ v0_ : Value, e = .returned (.tuple #[v0_, .int .i64 (keyL x).2]) ∧ Kd.R (Kd.int .u8) 5 w' w.heap.size (fun _ => True) v0_ (keyL x).1 ∧ Below w.heap.size w w' := by
 obtain ⟨k, b, ⟨d, D, e⟩, t, its, ns⟩ := x
 have HN := hi_ hn
 have HT := hi_ ht
 have HTB := hi_ hT
 simp only at hx
 obtain ⟨h0, h5⟩ := hx
 have hc : k = 0 ∨ k = 1 ∨ k = 2 ∨ k = 3 ∨ (4 ≤ k ∧ k ≤ 5) := by omega
 clear hn ht hT h0 h5
 have hsz : ∀ o, (w.alloc o).heap.size = w.heap.size + 1 := fun o => by simp
 have KC : ∀ k : Int, 0 ≤ k ∧ k ≤ 5 → ∀ o, Calls Tryz.prog 20 #[.agg #[.int .i64 k, .bool b, .bool d, .string D, .int .i64 e, .string t, .slice A n c, .slice B m c']] (w.alloc o) fun E w' => E = .returned (.tuple #[.int .u8 (k1 k), .int .u8 (k2 k)]) ∧ Hid (Below w.heap.size w w') ∧ Hid (w'.heap[w.heap.size]? = some o) ∧ Hid (w.heap.size < w'.heap.size) :=
  fun k hk o => (kind_calls k hk b d D t e A B n m c c' _ (HTB.out.below (below_alloc (Below.refl _ _) o))).mono fun E w' ⟨h1, h2⟩ =>
   ⟨h1, hi_ ((below_alloc (Below.refl _ _) o).trans (h2.mono (by rw [hsz]; omega))), hi_ ((h2.block _ (by rw [hsz]; omega)).trans (by simpa using heap_alloc_new w o)), hi_ (by have := h2.size; rw [hsz] at this; omega)⟩
 have HK := hi_ KC
 clear KC hsz
 rcases hc with rfl | rfl | rfl | rfl | ⟨h4, h5⟩
 · go_enter Tryz.func18, Tryz.ntmps18
   go_wp2_with fail
   refine (HK.out 0 (by decide) _).mono ?_
   rintro E w2 ⟨rfl, HB, HBK, HS⟩
   rw [show k1 0 = 1 from rfl, show k2 0 = 2 from rfl]
   have c0 : w2.cell? ⟨w.heap.size, 0, none⟩ = some (.int .i64 0) := (blk_cell HBK.out 0).trans rfl
   go_wp2_with fail
   go_ret2
   exact ⟨_, rfl, Kd.R_lower (new_one w2 1 _ rfl) HB.out.size, below_alloc HB.out _⟩
 · go_enter Tryz.func18, Tryz.ntmps18
   go_wp2_with fail
   refine (HK.out 1 (by decide) _).mono ?_
   rintro E w2 ⟨rfl, HB, HBK, HS⟩
   rw [show k1 1 = 2 from rfl, show k2 1 = 4 from rfl]
   have c0 : w2.cell? ⟨w.heap.size, 0, none⟩ = some (.int .i64 1) := (blk_cell HBK.out 0).trans rfl
   have c1 : w2.cell? ⟨w.heap.size, 1, none⟩ = some (.bool b) := (blk_cell HBK.out 1).trans rfl
   cases b with
   | true =>
    go_wp2_with fail
    go_ret2
    exact ⟨_, rfl, Kd.R_lower (new_one w2 3 _ rfl) HB.out.size, below_alloc HB.out _⟩
   | false =>
    go_wp2_with fail
    go_ret2
    exact ⟨_, rfl, Kd.R_lower (new_one w2 2 _ rfl) HB.out.size, below_alloc HB.out _⟩
 · go_enter Tryz.func18, Tryz.ntmps18
   go_wp2_with fail
   refine (HK.out 2 (by decide) _).mono ?_
   rintro E w2 ⟨rfl, HB, HBK, HS⟩
   rw [show k1 2 = 4 from rfl, show k2 2 = 5 from rfl]
   have c0 : w2.cell? ⟨w.heap.size, 0, none⟩ = some (.int .i64 2) := (blk_cell HBK.out 0).trans rfl
   have c1 : w2.cell? ⟨w.heap.size, 1, none⟩ = some (.bool b) := (blk_cell HBK.out 1).trans rfl
   have c2 : w2.cell? ⟨w.heap.size, 2, none⟩ = some (.bool d) := (blk_cell HBK.out 2).trans rfl
   have c3 : w2.cell? ⟨w.heap.size, 3, none⟩ = some (.string D) := (blk_cell HBK.out 3).trans rfl
   have c4 : w2.cell? ⟨w.heap.size, 4, none⟩ = some (.int .i64 e) := (blk_cell HBK.out 4).trans rfl
   have c5 : w2.cell? ⟨w.heap.size, 5, none⟩ = some (.string t) := (blk_cell HBK.out 5).trans rfl
   have c6 : w2.cell? ⟨w.heap.size, 6, none⟩ = some (.slice A n c) := (blk_cell HBK.out 6).trans rfl
   have c7 : w2.cell? ⟨w.heap.size, 7, none⟩ = some (.slice B m c') := (blk_cell HBK.out 7).trans rfl
   have hs := HS.out
   go_wp2_with fail
   refine (onum_calls 2 b d D t e A B n m c c' _ HN.out).mono ?_
   rintro E w3 ⟨v0, rfl, hR, hB⟩
   obtain ⟨A3, c3', rfl, hl3, hC⟩ := Kd.R_reads hR
   have hB3 : Below w.heap.size w w3 := (below_alloc HB.out _).trans (hB.mono (by simp; omega))
   have hO : Kd.R (Kd.int .u8) 5 w3 w2.heap.size (fun _ => True) (.slice (some ⟨w2.heap.size, 0, none⟩) 1 1) [4] := Kd.R_below (new_one w2 4 _ rfl) hB
   obtain ⟨NL, hNL⟩ : ∃ NL, NL = numberL d D.data.toList e := ⟨_, rfl⟩
   rw [← hNL] at hC hl3 hR ⊢
   have hle : NL.length ≤ 100 := by rw [hNL]; exact numberL_len _ _ _ HN.out.1
   have HNL := hi_ hNL
   clear hNL hR hB
   go_wp2_with (at_builtin; refine Kd.R_append_row (Value.int .u8) 0 (w0 := w) w.heap.size rfl (.tmp 24) (.tmp 26) 38 5 (.int .u8 0) 1 rfl Tryz.underlying38 ct_info5 rfl (by decide) _ [4] NL A3 NL.length c3' (fun _ => True) rfl rfl (fun _ _ => trivial) (Kd.R_lower hO HB.out.size) hC hB3 hB3.size (by simp; omega) ?_; intro v2 w6 hR2 hB2 hg2 hat2)
   go_ret2
   refine ⟨_, rfl, ?_, hB2⟩
   have : keyL ⟨2, b, ⟨d, D, e⟩, t, its, ns⟩ = (4 :: NL, 0) := by rw [HNL.out]; rfl
   rw [this]
   exact hR2
 · go_enter Tryz.func18, Tryz.ntmps18
   go_wp2_with fail
   refine (HK.out 3 (by decide) _).mono ?_
   rintro E w2 ⟨rfl, HB, HBK, HS⟩
   rw [show k1 3 = 5 from rfl, show k2 3 = 6 from rfl]
   have c0 : w2.cell? ⟨w.heap.size, 0, none⟩ = some (.int .i64 3) := (blk_cell HBK.out 0).trans rfl
   have c5 : w2.cell? ⟨w.heap.size, 5, none⟩ = some (.string t) := (blk_cell HBK.out 5).trans rfl
   have hs := HS.out
   go_wp2_with fail
   refine (order_text.calls _ (ofL t.data.toList) _ _ (text_f _ HT.out)).mono ?_
   rintro E w3 ⟨v0, rfl, hR, hB⟩
   obtain ⟨A3, c3', rfl, hl3, hC⟩ := Kd.R_reads hR
   have hB3 : Below w.heap.size w w3 := (below_alloc HB.out _).trans (hB.mono (by simp; omega))
   have hO : Kd.R (Kd.int .u8) 5 w3 w2.heap.size (fun _ => True) (.slice (some ⟨w2.heap.size, 0, none⟩) 1 1) [5] := Kd.R_below (new_one w2 5 _ rfl) hB
   obtain ⟨NL, hNL⟩ : ∃ NL, NL = textL t.data.toList := ⟨_, rfl⟩
   rw [← hNL] at hC hl3 hR ⊢
   have hle : NL.length ≤ 3000000 := by rw [hNL]; have := escO_len t.data.toList; have := HT.out; unfold textL; rw [List.length_append]; simp only [List.length_cons, List.length_nil]; omega
   have HNL := hi_ hNL
   clear hNL hR hB
   go_wp2_with (at_builtin; refine Kd.R_append_row (Value.int .u8) 0 (w0 := w) w.heap.size rfl (.tmp 31) (.tmp 34) 38 5 (.int .u8 0) 1 rfl Tryz.underlying38 ct_info5 rfl (by decide) _ [5] NL A3 NL.length c3' (fun _ => True) rfl rfl (fun _ _ => trivial) (Kd.R_lower hO HB.out.size) hC hB3 hB3.size (by simp; omega) ?_; intro v2 w6 hR2 hB2 hg2 hat2)
   go_ret2
   refine ⟨_, rfl, ?_, hB2⟩
   have : keyL ⟨3, b, ⟨d, D, e⟩, t, its, ns⟩ = (5 :: NL, 0) := by rw [HNL.out]; rfl
   rw [this]
   exact hR2
 · have q0 : (k == 0) = false := by simp; omega
   have q1 : (k == 1) = false := by simp; omega
   have q2 : (k == 2) = false := by simp; omega
   have q3 : (k == 3) = false := by simp; omega
   have hF : keyL ⟨k, b, ⟨d, D, e⟩, t, its, ns⟩ = ([], 36) := by unfold keyL; simp only []; rw [if_neg (by omega), if_neg (by omega), if_neg (by omega), if_neg (by omega)]
   have HF := hi_ hF
   clear hF
   go_enter Tryz.func18, Tryz.ntmps18
   go_wp2_with fail
   refine (HK.out k (by omega) _).mono ?_
   rintro E w2 ⟨rfl, HB, HBK, HS⟩
   have c0 : w2.cell? ⟨w.heap.size, 0, none⟩ = some (.int .i64 k) := (blk_cell HBK.out 0).trans rfl
   go_wp2_with fail
   go_ret2
   rw [HF.out]
   exact ⟨_, rfl, Kd.R_nil _ _ _ _ _, HB.out⟩
theorem right_ok {n : NumP.NumV} (h : NumP.right n = true) : okNum ⟨n.1, ofL n.2.1, n.2.2⟩ := by
 unfold NumP.right at h
 unfold okNum
 split at h
 · rename_i h0
   simp only [Bool.and_eq_true, beq_iff_eq] at h
   rw [h0, h.2]
   exact ⟨Nat.zero_le _, rfl, by show (-999 : Int) ≤ 0; omega, by show (0 : Int) ≤ 999; omega⟩
 simp only [Bool.and_eq_true, decide_eq_true_eq] at h
 exact ⟨h.1.1.2, h.1.1.1.1.1, h.1.2, h.2⟩
theorem parse_ok (l : List UInt8) : okNum ⟨(NumP.parse l).1.1, ofL (NumP.parse l).1.2.1, (NumP.parse l).1.2.2⟩ := by
 have hz : okNum ⟨NumP.zero.1, ofL NumP.zero.2.1, NumP.zero.2.2⟩ := ⟨by decide, by decide, by decide, by decide⟩
 unfold NumP.parse
 split
 · split
   · rename_i h; exact right_ok h
   exact hz
 exact hz
theorem loop_out : ∀ (n : Nat) (out : List UInt8) (a : S), (strLoop S.esc n out a).1.length ≤ out.length + 17 * a.s.length
 | 0, out, a => by unfold strLoop; show out.length ≤ _; omega
 | n + 1, out, a => by
  unfold strLoop
  have ht : (a.s.take a.plain.1).length ≤ a.s.length := by rw [List.length_take]; omega
  split
  · show out.length ≤ _; omega
  split
  · simp only [List.length_append]; omega
  rename_i h2
  split
  · simp only [List.length_append]; omega
  have h3 : a.plain.1 < a.s.length := (plain_le a).2 (by simpa using h2)
  have h4 := loop_out n (out ++ a.s.take a.plain.1 ++ a.cut.esc.1) a.cut.esc.2
  have h5 := esc_len a.cut
  have h6 : a.cut.s.length = a.s.length - (a.plain.1 + 1) := by unfold S.cut; simp
  have h7 : (a.s.take a.plain.1).length = a.plain.1 := by rw [List.length_take]; omega
  simp only [List.length_append] at h4
  refine Nat.le_trans h4 ?_
  omega
structure Top (N : Nat) (x : S28) : Prop where
  k : 0 ≤ x.f0 ∧ x.f0 ≤ 5
  n : okNum x.f2
  t : x.f3.data.toList.length ≤ 17 * N
theorem top_z (N : Nat) : Top N z28 := ⟨by decide, ⟨by decide, by decide, by decide, by decide⟩, by show (0 : Nat) ≤ _; omega⟩
theorem top_fv (n : Nat) (a : S) : Top a.s.length (fvN n a).1 := by
 cases n with
 | zero => exact top_z _
 | succ n =>
  have hl : a.skip.s.length ≤ a.s.length := skip_len a
  show Top _ (S.value textV (S.arr (fvN n)) (S.obj (fvN n)) a).1
  unfold S.value
  generalize a.skip = b at hl ⊢
  unfold S.value1
  have hz : okNum z24 := ⟨by decide, by decide, by decide, by decide⟩
  have h0 : ∀ k c, (0 ≤ k ∧ k ≤ (5 : Int)) → Top a.s.length (S28.mk k c z24 ⟨#[]⟩ [] []) := fun k c hk => ⟨hk, hz, by show (0 : Nat) ≤ _; omega⟩
  repeat' split
  all_goals first | exact top_z _ | exact h0 _ _ (by decide) | skip
  · refine ⟨by show (0 : Int) ≤ 3 ∧ (3 : Int) ≤ 5; decide, hz, ?_⟩
    show (strLoop S.esc (b.s.length + 1) [] b.tl).1.length ≤ _
    have := loop_out (b.s.length + 1) [] b.tl
    have h2 : b.tl.s.length ≤ b.s.length := by unfold S.tl; simp
    simp only [List.length_nil] at this
    omega
  · exact ⟨by show (0 : Int) ≤ 4 ∧ (4 : Int) ≤ 5; decide, hz, by show (0 : Nat) ≤ _; omega⟩
  · exact ⟨by show (0 : Int) ≤ 5 ∧ (5 : Int) ≤ 5; decide, hz, by show (0 : Nat) ≤ _; omega⟩
  exact ⟨by show (0 : Int) ≤ 2 ∧ (2 : Int) ≤ 5; decide, parse_ok _, by show (0 : Nat) ≤ _; omega⟩
theorem top_parse (s : List UInt8) : Top s.length (parseV (fvN 17) s).1 := by
 unfold parseV
 split
 · exact top_z _
 split
 · exact top_fv 17 ⟨s, 0, 0⟩
 exact top_z _
structure JC (w : World) (x : S28) (A : Option Addr) (n c : Nat) (B : Option Addr) (m c' : Nat) : Prop where
  ln : n = x.f4.length
  nc : n ≤ c
  i : k28.C w A n x.f4
  lm : m = x.f5.length
  mc : m ≤ c'
  s : Kd.string.C w B m x.f5
theorem JC.below {w w' : World} {x : S28} {A B : Option Addr} {n c m c' : Nat} (h : JC w x A n c B m c') (hb : Below w.heap.size w w') : JC w' x A n c B m c' :=
 ⟨h.ln, h.nc, Kd.C_below h.i hb, h.lm, h.mc, Kd.C_below h.s hb⟩
theorem eight {w : World} {g : Nat} {a0 a1 a2 a3 a4 a5 a6 a7 : Value} {t : TypeId} (h : w.heap[g]? = some (.cells #[a0, a1, a2, a3, a4, a5, a6, a7] t (0, 0))) :
    w.cell? ⟨g, 0, none⟩ = some a0 ∧ w.cell? ⟨g, 1, none⟩ = some a1 ∧ w.cell? ⟨g, 2, none⟩ = some a2 ∧ w.cell? ⟨g, 3, none⟩ = some a3 ∧ w.cell? ⟨g, 4, none⟩ = some a4 ∧ w.cell? ⟨g, 5, none⟩ = some a5 ∧ w.cell? ⟨g, 6, none⟩ = some a6 ∧ w.cell? ⟨g, 7, none⟩ = some a7 :=
 ⟨(blk_cell h 0).trans rfl, (blk_cell h 1).trans rfl, (blk_cell h 2).trans rfl, (blk_cell h 3).trans rfl, (blk_cell h 4).trans rfl, (blk_cell h 5).trans rfl, (blk_cell h 6).trans rfl, (blk_cell h 7).trans rfl⟩
theorem kept {W w' : World} {o : Obj} (hb : Below (W.alloc o).heap.size (W.alloc o) w') : w'.heap[W.heap.size]? = some o ∧ W.heap.size < w'.heap.size := by
 have h := hb.size
 have h2 : (W.alloc o).heap.size = W.heap.size + 1 := by simp
 exact ⟨(hb.block _ (by omega)).trans (heap_alloc_new W o), by omega⟩
theorem thru {W w' : World} {g : Nat} {o : Obj} (h : W.heap[g]? = some o) (hb : Below W.heap.size W w') : w'.heap[g]? = some o := (hb.block _ (blk_lt h)).trans h
def pv (s : List UInt8) : S28 × Int := parseV (fvN 17) s
theorem jparse (s : List UInt8) (w : World) (hT : Tabs w) (x : S28) (e : Int) (h : pv s = (x, e)) :
    Calls Tryz.prog 16 #[.string (ofL s)] w fun E w' => ∃ A n c B m c', E = .returned (.tuple #[.agg #[.int .i64 x.f0, .bool x.f1, .bool x.f2.f0, .string x.f2.f1, .int .i64 x.f2.f2, .string x.f3, .slice A n c, .slice B m c'], .int .i64 e]) ∧
     JC w' x A n c B m c' ∧ Below w.heap.size w w' := by
 have hx : x = (parseV (fvN 17) s).1 := by rw [show parseV (fvN 17) s = (x, e) from h]
 have he : e = (parseV (fvN 17) s).2 := by rw [show parseV (fvN 17) s = (x, e) from h]
 subst hx he
 refine (json_calls s w hT).mono fun E w' ⟨v, h1, ⟨cs, h2, h3⟩, h4⟩ => ?_
 obtain ⟨v6, v7, rfl, g6, g7⟩ := k28_openM h3
 obtain ⟨A, c, rfl, hl6, h6⟩ := Kd.R_reads g6
 obtain ⟨B, c', rfl, hl7, h7⟩ := Kd.R_reads g7
 exact ⟨A, _, c, B, _, c', by rw [h1, h2], ⟨rfl, hl6, h6, rfl, hl7, h7⟩, h4⟩
theorem p7 : pv [55] = (⟨2, false, ⟨false, ⟨#[55]⟩, 0⟩, ⟨#[]⟩, [], []⟩, 0) := by kernel_rfl
theorem pA : pv [91, 93] = (⟨4, false, ⟨false, ⟨#[]⟩, 0⟩, ⟨#[]⟩, [], []⟩, 0) := by kernel_rfl
theorem str_run (w : World) (A : Option Addr) (n c : Nat) (xs : List Int) (h : (Kd.int .u8).C w A n xs) : (convert 38 9 (.slice A n c)).run Tryz.prog w = .ok (.string (strOfNums xs)) w :=
 Kd.C_string Tryz.underlying38 Tryz.underlying5 Tryz.underlying9 h
theorem okNum7 : okNum ⟨false, ⟨#[55]⟩, 0⟩ := ⟨by decide, by decide, by decide, by decide⟩
theorem okNumZ : okNum ⟨false, ⟨#[]⟩, 0⟩ := ⟨by decide, by decide, by decide, by decide⟩
set_option maxRecDepth 100000 in
set_option maxHeartbeats 4000000 in
theorem awake17_calls (w : World) (hT : KTabs w) : Calls Tryz.prog 15 #[] w fun e w' => e = .returned (.bool true) ∧ Below w.heap.size w w' := by
 have HT := hi_ hT
 clear hT
 go_enter Tryz.func15, Tryz.ntmps15
 go_wp2_with fail
 refine (jparse [55] w HT.out.t _ _ p7).mono ?_
 rintro E w1 ⟨A, n, c, B, m, c', rfl, hJ, hB⟩
 have HJ := hi_ hJ
 have HB := hi_ hB
 clear hJ hB
 go_wp2_with fail
 refine (jparse [91, 93] _ (HT.out.below (below_alloc HB.out _)).t _ _ pA).mono ?_
 rintro E w2 ⟨A2, n2, c2, B2, m2, c2', rfl, hJ2, hB2⟩
 obtain ⟨hk1, hs1⟩ := kept hB2
 obtain ⟨q0, q1, q2, q3, q4, q5, q6, q7⟩ := eight hk1
 have HK1 := hi_ hk1
 have HB2 := hi_ ((below_alloc HB.out _).trans (hB2.mono (by have := HB.out.size; simp; omega)))
 clear hk1 hB2 hJ2 HJ
 go_wp2_with fail
 have hB2a := fun o => below_alloc HB2.out o
 refine (key_calls ⟨2, false, ⟨false, ⟨#[55]⟩, 0⟩, ⟨#[]⟩, [], []⟩ (by decide) okNum7 (by decide) A B n m c c' _ (HT.out.below (hB2a _))).mono ?_
 rintro E w3 ⟨v, rfl, hR, hB3⟩
 rw [show keyL ⟨2, false, ⟨false, ⟨#[55]⟩, 0⟩, ⟨#[]⟩, [], []⟩ = ([4, 2, 7, 209, 8, 0], 0) by decide +kernel] at hR ⊢
 obtain ⟨hk2, hs2⟩ := kept hB3
 obtain ⟨p0, p1, p2, p3, p4, p5, p6, p7⟩ := eight hk2
 have hk1 := thru (blk_alloc HK1.out _) hB3
 obtain ⟨q0, q1, q2, q3, q4, q5, q6, q7⟩ := eight hk1
 have hs13 := Nat.lt_trans hs1 hs2
 have HK1 := hi_ hk1
 have HB3 := hi_ ((hB2a _).trans (hB3.mono (hB2a _).size))
 obtain ⟨A3, c3, rfl, hl3, hC3⟩ := Kd.R_reads hR
 have HC3 := hi_ hC3
 clear hk1 hk2 hB3 hB2a hR hC3 hs1
 go_wp2_with fail
 refine (key_calls ⟨4, false, ⟨false, ⟨#[]⟩, 0⟩, ⟨#[]⟩, [], []⟩ (by decide) okNumZ (by decide) A2 B2 n2 m2 c2 c2' _ (HT.out.below HB3.out)).mono ?_
 rintro E w4 ⟨v, rfl, hR, hB4⟩
 rw [show keyL ⟨4, false, ⟨false, ⟨#[]⟩, 0⟩, ⟨#[]⟩, [], []⟩ = ([], 36) by decide +kernel] at hR ⊢
 have hk1 := thru HK1.out hB4
 obtain ⟨q0, q1, q2, q3, q4, q5, q6, q7⟩ := eight hk1
 have HB4 := hi_ (HB3.out.trans (hB4.mono HB3.out.size))
 have HC4 := hi_ (Kd.C_below HC3.out hB4)
 clear p0 p1 p2 p3 p4 p5 p6 p7 hk1 hB4 HC3 hR
 go_wp2_with fail
 refine (kind_calls 2 (by decide) false false ⟨#[55]⟩ ⟨#[]⟩ 0 A B n m c c' _ (HT.out.below HB4.out)).mono ?_
 rintro E w5 ⟨rfl, hB5⟩
 rw [show k1 2 = 4 from rfl, show k2 2 = 5 from rfl]
 have hst : (convert 38 9 (.slice A3 6 c3)).run Tryz.prog w5 = .ok (.string ⟨#[4, 2, 7, 209, 8, 0]⟩) w5 :=
  (str_run w5 A3 6 c3 _ (Kd.C_below HC4.out hB5)).trans (by rw [show strOfNums [4, 2, 7, 209, 8, 0] = ⟨#[4, 2, 7, 209, 8, 0]⟩ by kernel_rfl])
 have HB5 := hi_ (HB4.out.trans (hB5.mono HB4.out.size))
 clear hB5
 go_wp2_with fail
 go_ret
 exact ⟨rfl, HB5.out⟩
end Js
end Go.Proofs.YtapcpndplnkfjaaGreatDoor
namespace Go.Proofs
open Go.Shelf Go.RowKit
end Go.Proofs
namespace Go.Proofs.YtapcpndplnkfjaaGreatDoor
open Go.RowKit Go.Proofs.YtapcpndplnkfjaaGreatDoorW.PrintWords Go.Proofs.YtapcpndplnkfjaaGreatDoorW.PrintLast Go.Proofs.YtapcpndplnkfjaaGreatDoorW.PrintMore
namespace Js
end Js
end Go.Proofs.YtapcpndplnkfjaaGreatDoor
namespace Go.Proofs.YtapcpndplnkfjaaGreatDoor
open Go.RowKit Go.Proofs.YtapcpndplnkfjaaGreatDoorW.PrintWords
end Go.Proofs.YtapcpndplnkfjaaGreatDoor
namespace Go.Proofs.YtapcpndplnkfjaaGreatDoor
open Go.RowKit Go.Proofs.YtapcpndplnkfjaaGreatDoorW.PrintWords Go.Proofs.YtapcpndplnkfjaaGreatDoorW.PrintLast Go.Proofs.YtapcpndplnkfjaaGreatDoorW.PrintMore
attribute [local go_sem] max2_int min2_int max_two min_two max_three min_three max_four min_four
def IsS84 (w0 W : World) (g : Nat) (f0 : ByteArray) (f1 : Int) (f2 : Int) (f3 : Int) : Prop := W.heap[g]? = some (.cells #[.string f0, .int .i64 f1, .int .i64 f2, .int .i64 f3] 84 (0, 0)) ∧ w0.heap.size ≤ g
theorem IsS84.grown {w0 W : World} {g : Nat} {f0 : ByteArray} {f1 : Int} {f2 : Int} {f3 : Int} {W1 : World} {row : Option Nat} (h : IsS84 w0 W g f0 f1 f2 f3) (hw : W.grownBy W1 row) (hne : some g ≠ row) : IsS84 w0 W1 g f0 f1 f2 f3 := by
 obtain ⟨hb, hg⟩ := h
 exact ⟨blk_grown hb hw hne, hg⟩
theorem IsS84.below {w0 W : World} {g : Nat} {f0 : ByteArray} {f1 : Int} {f2 : Int} {f3 : Int} {W1 : World} (h : IsS84 w0 W g f0 f1 f2 f3) (hw : Below W.heap.size W W1) : IsS84 w0 W1 g f0 f1 f2 f3 := h.grown (grown_of_below hw none) (by simp)
theorem IsS84.alloc {w0 W : World} {g : Nat} {f0 : ByteArray} {f1 : Int} {f2 : Int} {f3 : Int} (h : IsS84 w0 W g f0 f1 f2 f3) (o : Obj) : IsS84 w0 (W.alloc o) g f0 f1 f2 f3 := h.below (below_alloc (Below.refl _ _) o)
theorem IsS84.drewN {w0 W : World} {g : Nat} {f0 : ByteArray} {f1 : Int} {f2 : Int} {f3 : Int} (h : IsS84 w0 W g f0 f1 f2 f3) (m : Nat) : IsS84 w0 (W.drewN m) g f0 f1 f2 f3 := h
theorem IsS84.drew {w0 W : World} {g : Nat} {f0 : ByteArray} {f1 : Int} {f2 : Int} {f3 : Int} (h : IsS84 w0 W g f0 f1 f2 f3) : IsS84 w0 W.drew g f0 f1 f2 f3 := h
theorem IsS84.ge {w0 W : World} {g : Nat} {f0 : ByteArray} {f1 : Int} {f2 : Int} {f3 : Int} (h : IsS84 w0 W g f0 f1 f2 f3) : w0.heap.size ≤ g := by
 obtain ⟨hb, hg⟩ := h
 exact hg
theorem cellS84_0 {W : World} {g : Nat} {f0 : ByteArray} {f1 : Int} {f2 : Int} {f3 : Int} (h : W.heap[g]? = some (.cells #[.string f0, .int .i64 f1, .int .i64 f2, .int .i64 f3] 84 (0, 0))) : W.cell? ⟨g, 0, none⟩ = some (.string f0) := (blk_cell h 0).trans rfl
theorem IsS84.set_0 {w0 W : World} {g : Nat} {f0 : ByteArray} {f1 : Int} {f2 : Int} {f3 : Int} (h : IsS84 w0 W g f0 f1 f2 f3) (x : ByteArray) : IsS84 w0 (W.setCell ⟨g, 0, none⟩ (.string x)) g x f1 f2 f3 := by
 obtain ⟨hb, hg⟩ := h
 exact ⟨by simpa using blk_set hb 0 (.string x), hg⟩
theorem cellS84_1 {W : World} {g : Nat} {f0 : ByteArray} {f1 : Int} {f2 : Int} {f3 : Int} (h : W.heap[g]? = some (.cells #[.string f0, .int .i64 f1, .int .i64 f2, .int .i64 f3] 84 (0, 0))) : W.cell? ⟨g, 1, none⟩ = some (.int .i64 f1) := (blk_cell h 1).trans rfl
theorem IsS84.set_1 {w0 W : World} {g : Nat} {f0 : ByteArray} {f1 : Int} {f2 : Int} {f3 : Int} (h : IsS84 w0 W g f0 f1 f2 f3) (x : Int) : IsS84 w0 (W.setCell ⟨g, 1, none⟩ (.int .i64 x)) g f0 x f2 f3 := by
 obtain ⟨hb, hg⟩ := h
 exact ⟨by simpa using blk_set hb 1 (.int .i64 x), hg⟩
theorem cellS84_2 {W : World} {g : Nat} {f0 : ByteArray} {f1 : Int} {f2 : Int} {f3 : Int} (h : W.heap[g]? = some (.cells #[.string f0, .int .i64 f1, .int .i64 f2, .int .i64 f3] 84 (0, 0))) : W.cell? ⟨g, 2, none⟩ = some (.int .i64 f2) := (blk_cell h 2).trans rfl
theorem IsS84.set_2 {w0 W : World} {g : Nat} {f0 : ByteArray} {f1 : Int} {f2 : Int} {f3 : Int} (h : IsS84 w0 W g f0 f1 f2 f3) (x : Int) : IsS84 w0 (W.setCell ⟨g, 2, none⟩ (.int .i64 x)) g f0 f1 x f3 := by
 obtain ⟨hb, hg⟩ := h
 exact ⟨by simpa using blk_set hb 2 (.int .i64 x), hg⟩
theorem cellS84_3 {W : World} {g : Nat} {f0 : ByteArray} {f1 : Int} {f2 : Int} {f3 : Int} (h : W.heap[g]? = some (.cells #[.string f0, .int .i64 f1, .int .i64 f2, .int .i64 f3] 84 (0, 0))) : W.cell? ⟨g, 3, none⟩ = some (.int .i64 f3) := (blk_cell h 3).trans rfl
theorem IsS84.set_3 {w0 W : World} {g : Nat} {f0 : ByteArray} {f1 : Int} {f2 : Int} {f3 : Int} (h : IsS84 w0 W g f0 f1 f2 f3) (x : Int) : IsS84 w0 (W.setCell ⟨g, 3, none⟩ (.int .i64 x)) g f0 f1 f2 x := by
 obtain ⟨hb, hg⟩ := h
 exact ⟨by simpa using blk_set hb 3 (.int .i64 x), hg⟩
def R5_fail.f (s0_0 : ByteArray) (s0_1 : Int) (s0_2 : Int) (s0_3 : Int) (a1 : Int) : Option (ByteArray × Int × Int × Int) := if s0_3 = 0 then (some (s0_0, s0_1, s0_2, a1)) else (some (s0_0, s0_1, s0_2, s0_3))
set_option maxHeartbeats 8000000 in
set_option maxRecDepth 100000 in
theorem R5_fail.calls (g : Nat) (s0_0 : ByteArray) (s0_1 : Int) (s0_2 : Int) (s0_3 : Int) (a1 : Int) (r1 : ByteArray) (r2 : Int) (r3 : Int) (r4 : Int) (w0 w : World) (hI : IsS84 w0 w g s0_0 s0_1 s0_2 s0_3) (hB : Below w0.heap.size w0 w) (h : R5_fail.f s0_0 s0_1 s0_2 s0_3 a1 = some (r1, r2, r3, r4)) :
    Calls Tryz.prog 39 #[.pointer (some ⟨g, 0, none⟩), .int .i64 a1] w fun e w' => e = .returned (.tuple #[]) ∧ IsS84 w0 w' g r1 r2 r3 r4 ∧ Below w0.heap.size w0 w' ∧ KeepBut w w' g none := by
 have HI0 := Aside0.mk hI
 have HK := Aside0.mk (KeepBut.refl w g none)
 have HL := Aside0.mk hB.size
 clear hI
 have HW0 := Aside0.mk hB.size
 have HB := Aside0.mk hB
 clear hB
 have H : (if s0_3 = 0 then (some (s0_0, s0_1, s0_2, a1)) else (some (s0_0, s0_1, s0_2, s0_3))) = some (r1, r2, r3, r4) := h
 clear h
 by_cases c3 : s0_3 = 0
 · rw [if_pos c3] at H
   obtain ⟨rfl, rfl, rfl, rfl⟩ := H
   obtain ⟨HGz4, hgz4⟩ := HI0.out
   have hcz4_0 := cellS84_0 HGz4
   have hcz4_1 := cellS84_1 HGz4
   have hcz4_2 := cellS84_2 HGz4
   have hcz4_3 := cellS84_3 HGz4
   have hfz4_0 := blk_frozen HGz4 0
   have hfz4_1 := blk_frozen HGz4 1
   have hfz4_2 := blk_frozen HGz4 2
   have hfz4_3 := blk_frozen HGz4 3
   clear HGz4 hgz4
   go_enter Tryz.func39, Tryz.ntmps39
   go_wp2
   (go_end0)
   exact ⟨by (simp [errW_none, errW_some] <;> rfl), by repeat ((with_reducible first | exact HI0.out | apply IsS84.set_3)), by repeat ((with_reducible first | exact HB.out | refine below_set ?_ (IsS84.ge HI0.out))), by repeat ((with_reducible first | exact HK.out | apply KeepBut.set_ ))⟩
 · rw [if_neg c3] at H
   obtain ⟨rfl, rfl, rfl, rfl⟩ := H
   obtain ⟨HGz5, hgz5⟩ := HI0.out
   have hcz5_0 := cellS84_0 HGz5
   have hcz5_1 := cellS84_1 HGz5
   have hcz5_2 := cellS84_2 HGz5
   have hcz5_3 := cellS84_3 HGz5
   clear HGz5 hgz5
   go_enter Tryz.func39, Tryz.ntmps39
   go_wp2
   (go_end0)
   exact ⟨by (simp [errW_none, errW_some] <;> rfl), by repeat ((with_reducible (exact HI0.out))), by repeat ((with_reducible (exact HB.out))), by repeat ((with_reducible (exact HK.out)))⟩
def R5_peek.f (s0_0 : ByteArray) (s0_1 : Int) (s0_2 : Int) (s0_3 : Int) : Option (Int × ByteArray × Int × Int × Int) := if s0_1 ≥ (s0_0.size : Int) then (some (0, s0_0, s0_1, s0_2, s0_3)) else (if 0 ≤ s0_1 then (if s0_1 < (s0_0.size : Int) then (some (bt s0_0 s0_1, s0_0, s0_1, s0_2, s0_3)) else (none)) else (none))
set_option maxHeartbeats 8000000 in
set_option maxRecDepth 100000 in
theorem R5_peek.calls (g : Nat) (s0_0 : ByteArray) (s0_1 : Int) (s0_2 : Int) (s0_3 : Int) (r1 : Int) (r2 : ByteArray) (r3 : Int) (r4 : Int) (r5 : Int) (w0 w : World) (hI : IsS84 w0 w g s0_0 s0_1 s0_2 s0_3) (hB : Below w0.heap.size w0 w) (h : R5_peek.f s0_0 s0_1 s0_2 s0_3 = some (r1, r2, r3, r4, r5)) :
    Calls Tryz.prog 72 #[.pointer (some ⟨g, 0, none⟩)] w fun e w' => e = .returned (.int .u8 r1) ∧ IsS84 w0 w' g r2 r3 r4 r5 ∧ Below w0.heap.size w0 w' ∧ KeepBut w w' g none := by
 have HI0 := Aside0.mk hI
 have HK := Aside0.mk (KeepBut.refl w g none)
 have HL := Aside0.mk hB.size
 clear hI
 have HW0 := Aside0.mk hB.size
 have HB := Aside0.mk hB
 clear hB
 have H : (if s0_1 ≥ (s0_0.size : Int) then (some (0, s0_0, s0_1, s0_2, s0_3)) else (if 0 ≤ s0_1 then (if s0_1 < (s0_0.size : Int) then (some (bt s0_0 s0_1, s0_0, s0_1, s0_2, s0_3)) else (none)) else (none))) = some (r1, r2, r3, r4, r5) := h
 clear h
 by_cases c2 : s0_1 ≥ (s0_0.size : Int)
 · rw [if_pos c2] at H
   have c2b0 : decide ((s0_0.size : Int) ≤ s0_1) = true := decide_eq_true c2
   obtain ⟨rfl, rfl, rfl, rfl, rfl⟩ := H
   obtain ⟨HGz3, hgz3⟩ := HI0.out
   have hcz3_0 := cellS84_0 HGz3
   have hcz3_1 := cellS84_1 HGz3
   have hcz3_2 := cellS84_2 HGz3
   have hcz3_3 := cellS84_3 HGz3
   clear HGz3 hgz3
   go_enter Tryz.func72, Tryz.ntmps72
   go_wp2
   repeat (go_quiet (fail); try go_wp2)
   go_ret
   exact ⟨by (rfl), by repeat ((with_reducible first | exact HI0.out | apply IsS84.drewN )), by repeat ((with_reducible first | exact HB.out | apply pw_below_drewN )), by repeat ((with_reducible first | exact HK.out | apply keep_drewN ))⟩
 · rw [if_neg c2] at H
   have c2b0 : decide ((s0_0.size : Int) ≤ s0_1) = false := decide_eq_false c2
   by_cases c4 : 0 ≤ s0_1
   · rw [if_pos c4] at H
     have c4b0 : decide (0 ≤ s0_1) = true := decide_eq_true c4
     by_cases c5 : s0_1 < (s0_0.size : Int)
     · rw [if_pos c5] at H
       have c5b0 : decide (s0_1 < (s0_0.size : Int)) = true := decide_eq_true c5
       obtain ⟨rfl, rfl, rfl, rfl, rfl⟩ := H
       obtain ⟨HGz7, hgz7⟩ := HI0.out
       have hcz7_0 := cellS84_0 HGz7
       have hcz7_1 := cellS84_1 HGz7
       have hcz7_2 := cellS84_2 HGz7
       have hcz7_3 := cellS84_3 HGz7
       clear HGz7 hgz7
       have p6 : 0 ≤ (s0_1 : Int) := of_decide_eq_true (by (with_reducible assumption))
       have q6 : s0_1 < (s0_0.size : Int) := of_decide_eq_true (by (with_reducible assumption))
       have hx6 := bt_at s0_0 s0_1
       go_enter Tryz.func72, Tryz.ntmps72
       go_wp2
       repeat (go_quiet (fail); try go_wp2)
       go_ret
       exact ⟨by (rfl), by repeat ((with_reducible first | exact HI0.out | apply IsS84.drewN )), by repeat ((with_reducible first | exact HB.out | apply pw_below_drewN )), by repeat ((with_reducible first | exact HK.out | apply keep_drewN ))⟩
     rw [if_neg c5] at H
     exact absurd H (by simp)
   rw [if_neg c4] at H
   exact absurd H (by simp)
mutual
def R5Long.j2 : Nat → ByteArray → Int → Int → Int → Option (Int)
 | 0, _, _, _, _ => none
 | k + 1, x0, x4, x5, x6 => if (x0.size : Int) < x4 then (some 0) else (R5Long.l0 k x0 x4 x5 x6 1)
def R5Long.l0 : Nat → ByteArray → Int → Int → Int → Int → Option (Int)
 | 0, _, _, _, _, _ => none
 | k + 1, x0, x4, x5, x6, x7 => if x7 < x4 then (if 0 ≤ x7 then (if x7 < (x0.size : Int) then (if (bt x0 x7) < 128 then (some 0) else (if (bt x0 x7) > 191 then (some 0) else (R5Long.l0 k x0 x4 x5 (wrap64 ((wrap64 ((wrap64 (64 * x6)) + (wrap64 (bt x0 x7)))) - 128)) (wrap64 (x7 + 1))))) else (none)) else (none)) else (if x6 < x5 then (some 0) else (if x6 > 1114111 then (some 0) else (if x6 ≥ 55296 then (if x6 ≤ 57343 then (some 0) else (some x4)) else (some x4))))
def R5Long.j0 : Nat → ByteArray → Int → Bool → Option (Int)
 | 0, _, _, _ => none
 | k + 1, x0, x3, x17 => if x17 = true then (R5Long.j2 k x0 2 128 (wrap64 (x3 - 192))) else (if x3 ≥ 224 then (R5Long.j1 k x0 x3 (decide (x3 < 240))) else (R5Long.j1 k x0 x3 false))
def R5Long.j1 : Nat → ByteArray → Int → Bool → Option (Int)
 | 0, _, _, _ => none
 | k + 1, x0, x3, x26 => if x26 = true then (R5Long.j2 k x0 3 2048 (wrap64 (x3 - 224))) else (if x3 ≥ 240 then (if x3 < 248 then (R5Long.j2 k x0 4 65536 (wrap64 (x3 - 240))) else (some 0)) else (some 0))
end
def R5Long.f (k : Nat) (a0 : ByteArray) : Option (Int) := if a0.toList = ([] : List UInt8) then (some 0) else (if 0 < (a0.size : Int) then (if (wrap64 (bt a0 0)) < 128 then (some 1) else (if (wrap64 (bt a0 0)) ≥ 192 then (R5Long.j0 k a0 (wrap64 (bt a0 0)) (decide ((wrap64 (bt a0 0)) < 224))) else (R5Long.j0 k a0 (wrap64 (bt a0 0)) false))) else (none))
set_option maxHeartbeats 8000000 in
set_option maxRecDepth 100000 in
theorem R5Long.calls (k : Nat) (a0 : ByteArray) (r : Int) (w : World) (h : R5Long.f k a0 = some r) :
    Calls Tryz.prog 106 #[.string a0] w fun e w' => e = .returned (.int .i64 r) ∧ Drawn0 w w' := by
 have H : (if a0.toList = ([] : List UInt8) then (some 0) else (if 0 < (a0.size : Int) then (if (wrap64 (bt a0 0)) < 128 then (some 1) else (if (wrap64 (bt a0 0)) ≥ 192 then (R5Long.j0 k a0 (wrap64 (bt a0 0)) (decide ((wrap64 (bt a0 0)) < 224))) else (R5Long.j0 k a0 (wrap64 (bt a0 0)) false))) else (none))) = some r := h
 clear h
 by_cases c2 : a0.toList = ([] : List UInt8)
 · rw [if_pos c2] at H
   have c2b0 : (a0.toList == ([] : List UInt8)) = true := beq_iff_eq.mpr c2
   obtain rfl := Option.some.inj H
   go_enter Tryz.func106, Tryz.ntmps106
   go_wp2
   go_ret
   exact ⟨by (rfl), by repeat (exact Drawn0.refl _)⟩
 · rw [if_neg c2] at H
   have c2b0 : (a0.toList == ([] : List UInt8)) = false := beq_eq_false_iff_ne.mpr c2
   by_cases c3 : 0 < (a0.size : Int)
   · rw [if_pos c3] at H
     have c3b0 : decide (0 < (a0.size : Int)) = true := decide_eq_true c3
     have c3b1 : decide (0 < a0.size) = true := decide_eq_true (by omega)
     clear c3
     have HC5 := Aside0.mk H
     have p4 : 0 ≤ (0 : Int) := (by omega)
     have q4 : 0 < a0.size := (by have : (0 : Int) < (a0.size : Int) := of_decide_eq_true (by (with_reducible assumption)); omega)
     have hx4 : ∀ h : 0 < a0.size, ((a0[0]'h).toNat : Int) = bt a0 0 := bt_at a0 0
     clear p4
     have qi4 : (0 < (a0.size : Int)) = True := eq_true (of_decide_eq_true (by (with_reducible assumption)))
     go_enter Tryz.func106, Tryz.ntmps106
     go_upto_block 0 with (fail)
     go_cut [4, 5, 6] (fun v4 v5 v6 wc => ∃ (kq : Nat) (x4_4 : Int) (x5_4 : Int) (x6_4 : Int), v4 = .int .i64 x4_4 ∧ v5 = .int .i64 x5_4 ∧ v6 = .int .i64 x6_4 ∧ Aside0 (R5Long.j2 kq a0 x4_4 x5_4 x6_4 = some r) ∧ Aside0 (kq ≤ k) ∧ Drawn0 w wc)
     case first =>
      have H := HC5.out
      clear HC5
      by_cases c6 : (wrap64 (bt a0 0)) < 128
      · rw [if_pos c6] at H
        have c6b0 : decide ((wrap64 (bt a0 0)) < 128) = true := decide_eq_true c6
        (skip)
        obtain rfl := Option.some.inj H
        go_wp2
        go_ret
        exact ⟨by (rfl), by repeat (exact Drawn0.refl _)⟩
      rw [if_neg c6] at H
      have c6b0 : decide ((wrap64 (bt a0 0)) < 128) = false := decide_eq_false c6
      clear c6
      (skip)
      have HC7 := Aside0.mk H
      go_upto_region 10 with (fail)
      go_cut [17] (fun v17 wc => ∃ (kq : Nat) (x17_6 : Bool), v17 = .bool x17_6 ∧ Aside0 (R5Long.j0 kq a0 (wrap64 (bt a0 0)) x17_6 = some r) ∧ Aside0 (kq ≤ k) ∧ Drawn0 w wc)
      case first =>
       have H := HC7.out
       clear HC7
       by_cases c8 : (wrap64 (bt a0 0)) ≥ 192
       · rw [if_pos c8] at H
         have c8b0 : decide (192 ≤ (wrap64 (bt a0 0))) = true := decide_eq_true c8
         (skip)
         have H' := Aside0.mk H
         go_wp2
         go_meet
         case rel => exact ⟨_, (decide ((wrap64 (bt a0 0)) < 224)), (by (rfl)), H', ⟨by (omega)⟩, by repeat (exact Drawn0.refl _)⟩
       rw [if_neg c8] at H
       have c8b0 : decide (192 ≤ (wrap64 (bt a0 0))) = false := decide_eq_false c8
       (skip)
       have H' := Aside0.mk H
       go_wp2
       go_meet
       case rel => exact ⟨_, (false), (by (rfl)), H', ⟨by (omega)⟩, by repeat (exact Drawn0.refl _)⟩
      case rest =>
       clear HC7
       try clear c2
       try clear q4
       try clear hx4
       try clear qi4
       obtain ⟨kq, x17_6, rfl, HA, HJ6, ⟨mc6, rfl⟩⟩ := hcut
       cases kq with
       | zero => exact absurd HA.out (by simp [R5Long.j0])
       | succ kj6 =>
        have H := HA.out
        clear HA
        simp only [R5Long.j0] at H
        by_cases c9 : x17_6 = true
        · subst c9
          have H1 : (R5Long.j2 kj6 a0 2 128 (wrap64 ((wrap64 (bt a0 0)) - 192))) = some r := by rw [if_pos rfl] at H; exact H
          have H := H1
          clear H1
          have H' := Aside0.mk H
          go_wp2
          go_meet
          case rel => exact ⟨_, (2), (128), (wrap64 ((wrap64 (bt a0 0)) - 192)), (by (rfl)), (by (rfl)), (by (rfl)), H', ⟨by have := HJ6.out; (omega)⟩, by repeat (first | exact Drawn0.refl _ | apply Drawn0.step)⟩
        replace c9 := Bool.eq_false_iff.mpr c9
        subst c9
        have H1 : (if (wrap64 (bt a0 0)) ≥ 224 then (R5Long.j1 kj6 a0 (wrap64 (bt a0 0)) (decide ((wrap64 (bt a0 0)) < 240))) else (R5Long.j1 kj6 a0 (wrap64 (bt a0 0)) false)) = some r := by rw [if_neg (show ¬ (false = true) by decide)] at H; exact H
        have H := H1
        clear H1
        have HC10 := Aside0.mk H
        go_upto_region 14 with (fail)
        go_cut [26] (fun v26 wc => ∃ (kq : Nat) (x26_9 : Bool), v26 = .bool x26_9 ∧ Aside0 (R5Long.j1 kq a0 (wrap64 (bt a0 0)) x26_9 = some r) ∧ Aside0 (kq ≤ kj6) ∧ Drawn0 w wc)
        case first =>
         have H := HC10.out
         clear HC10
         by_cases c11 : (wrap64 (bt a0 0)) ≥ 224
         · rw [if_pos c11] at H
           have c11b0 : decide (224 ≤ (wrap64 (bt a0 0))) = true := decide_eq_true c11
           (skip)
           have H' := Aside0.mk H
           go_wp2
           go_meet
           case rel => exact ⟨_, (decide ((wrap64 (bt a0 0)) < 240)), (by (rfl)), H', ⟨by have := HJ6.out; (omega)⟩, by repeat (first | exact Drawn0.refl _ | apply Drawn0.step)⟩
         rw [if_neg c11] at H
         have c11b0 : decide (224 ≤ (wrap64 (bt a0 0))) = false := decide_eq_false c11
         (skip)
         have H' := Aside0.mk H
         go_wp2
         go_meet
         case rel => exact ⟨_, (false), (by (rfl)), H', ⟨by have := HJ6.out; (omega)⟩, by repeat (first | exact Drawn0.refl _ | apply Drawn0.step)⟩
        case rest =>
         clear HC10
         obtain ⟨kq, x26_9, rfl, HA, HJ9, ⟨mc9, rfl⟩⟩ := hcut
         cases kq with
         | zero => exact absurd HA.out (by simp [R5Long.j1])
         | succ kj9 =>
          have H := HA.out
          clear HA
          simp only [R5Long.j1] at H
          by_cases c12 : x26_9 = true
          · subst c12
            have H1 : (R5Long.j2 kj9 a0 3 2048 (wrap64 ((wrap64 (bt a0 0)) - 224))) = some r := by rw [if_pos rfl] at H; exact H
            have H := H1
            clear H1
            have H' := Aside0.mk H
            go_wp2
            go_meet
            case rel => exact ⟨_, (3), (2048), (wrap64 ((wrap64 (bt a0 0)) - 224)), (by (rfl)), (by (rfl)), (by (rfl)), H', ⟨by have := HJ6.out; have := HJ9.out; (omega)⟩, by repeat (first | exact Drawn0.refl _ | apply Drawn0.step)⟩
          replace c12 := Bool.eq_false_iff.mpr c12
          subst c12
          have H1 : (if (wrap64 (bt a0 0)) ≥ 240 then (if (wrap64 (bt a0 0)) < 248 then (R5Long.j2 kj9 a0 4 65536 (wrap64 ((wrap64 (bt a0 0)) - 240))) else (some 0)) else (some 0)) = some r := by rw [if_neg (show ¬ (false = true) by decide)] at H; exact H
          have H := H1
          clear H1
          by_cases c13 : (wrap64 (bt a0 0)) ≥ 240
          · rw [if_pos c13] at H
            have c13b0 : decide (240 ≤ (wrap64 (bt a0 0))) = true := decide_eq_true c13
            clear c13
            by_cases c14 : (wrap64 (bt a0 0)) < 248
            · rw [if_pos c14] at H
              have c14b0 : decide ((wrap64 (bt a0 0)) < 248) = true := decide_eq_true c14
              clear c14
              have H' := Aside0.mk H
              go_wp2
              go_meet
              case rel => exact ⟨_, (4), (65536), (wrap64 ((wrap64 (bt a0 0)) - 240)), (by (rfl)), (by (rfl)), (by (rfl)), H', ⟨by have := HJ6.out; have := HJ9.out; (omega)⟩, by repeat (first | exact Drawn0.refl _ | apply Drawn0.step)⟩
            rw [if_neg c14] at H
            have c14b0 : decide ((wrap64 (bt a0 0)) < 248) = false := decide_eq_false c14
            obtain rfl := Option.some.inj H
            go_wp2
            go_ret
            exact ⟨by (rfl), by repeat (first | exact Drawn0.refl _ | apply Drawn0.step)⟩
          rw [if_neg c13] at H
          have c13b0 : decide (240 ≤ (wrap64 (bt a0 0))) = false := decide_eq_false c13
          obtain rfl := Option.some.inj H
          go_wp2
          go_ret
          exact ⟨by (rfl), by repeat (first | exact Drawn0.refl _ | apply Drawn0.step)⟩
     case rest =>
      clear HC5
      try clear c2
      try clear q4
      try clear hx4
      try clear qi4
      obtain ⟨kq, x4_4, x5_4, x6_4, rfl, rfl, rfl, HA, HJ4, ⟨mc4, rfl⟩⟩ := hcut
      cases kq with
      | zero => exact absurd HA.out (by simp [R5Long.j2])
      | succ kj4 =>
       have H := HA.out
       clear HA
       simp only [R5Long.j2] at H
       by_cases c15 : (a0.size : Int) < x4_4
       · rw [if_pos c15] at H
         have c15b0 : decide ((a0.size : Int) < x4_4) = true := decide_eq_true c15
         obtain rfl := Option.some.inj H
         go_wp2
         go_ret
         exact ⟨by (rfl), by repeat (first | exact Drawn0.refl _ | apply Drawn0.step)⟩
       rw [if_neg c15] at H
       have c15b0 : decide ((a0.size : Int) < x4_4) = false := decide_eq_false c15
       clear c15
       have H' := Aside0.mk H
       go_wp2
       go_loopg [6, 7] kj4 (fun kq v6 v7 w' => ∃ (x6_2 : Int) (x7_2 : Int), v6 = .int .i64 x6_2 ∧ v7 = .int .i64 x7_2 ∧ Aside0 (R5Long.l0 kq a0 x4_4 x5_4 x6_2 x7_2 = some r) ∧ Aside0 (kq ≤ kj4) ∧ Drawn0 w w')
       case atStart => exact ⟨(x6_4), (1), (by (rfl)), (by (rfl)), H', ⟨Nat.le_refl _⟩, by repeat (first | exact Drawn0.refl _ | apply Drawn0.step)⟩
       case round =>
        clear H'
        obtain ⟨x6_2, x7_2, rfl, rfl, HA, HK2, ⟨m2, rfl⟩⟩ := hrel
        cases gk with
        | zero => exact absurd HA.out (by simp [R5Long.l0])
        | succ k2 =>
         have H := HA.out
         clear HA
         simp only [R5Long.l0] at H
         by_cases c16 : x7_2 < x4_4
         · rw [if_pos c16] at H
           have c16b0 : decide (x7_2 < x4_4) = true := decide_eq_true c16
           clear c16
           by_cases c17 : 0 ≤ x7_2
           · rw [if_pos c17] at H
             have c17b0 : decide (0 ≤ x7_2) = true := decide_eq_true c17
             clear c17
             by_cases c18 : x7_2 < (a0.size : Int)
             · rw [if_pos c18] at H
               have c18b0 : decide (x7_2 < (a0.size : Int)) = true := decide_eq_true c18
               clear c18
               by_cases c20 : (bt a0 x7_2) < 128
               · rw [if_pos c20] at H
                 have c20b0 : decide ((bt a0 x7_2) < 128) = true := decide_eq_true c20
                 obtain rfl := Option.some.inj H
                 have p19 : 0 ≤ (x7_2 : Int) := of_decide_eq_true (by (with_reducible assumption))
                 have q19 : x7_2 < (a0.size : Int) := of_decide_eq_true (by (with_reducible assumption))
                 have hx19 := bt_at a0 x7_2
                 go_wp2
                 go_ret
                 exact ⟨by (rfl), by repeat (first | exact Drawn0.refl _ | apply Drawn0.step)⟩
               rw [if_neg c20] at H
               have c20b0 : decide ((bt a0 x7_2) < 128) = false := decide_eq_false c20
               clear c20
               by_cases c22 : (bt a0 x7_2) > 191
               · rw [if_pos c22] at H
                 have c22b0 : decide (191 < (bt a0 x7_2)) = true := decide_eq_true c22
                 obtain rfl := Option.some.inj H
                 have p19 : 0 ≤ (x7_2 : Int) := of_decide_eq_true (by (with_reducible assumption))
                 have q19 : x7_2 < (a0.size : Int) := of_decide_eq_true (by (with_reducible assumption))
                 have hx19 := bt_at a0 x7_2
                 have p21 : 0 ≤ (x7_2 : Int) := of_decide_eq_true (by (with_reducible assumption))
                 have q21 : x7_2 < (a0.size : Int) := of_decide_eq_true (by (with_reducible assumption))
                 have hx21 := bt_at a0 x7_2
                 go_wp2
                 go_ret
                 exact ⟨by (rfl), by repeat (first | exact Drawn0.refl _ | apply Drawn0.step)⟩
               rw [if_neg c22] at H
               have c22b0 : decide (191 < (bt a0 x7_2)) = false := decide_eq_false c22
               clear c22
               have H' := Aside0.mk H
               have p19 : 0 ≤ (x7_2 : Int) := of_decide_eq_true (by (with_reducible assumption))
               have q19 : x7_2 < (a0.size : Int) := of_decide_eq_true (by (with_reducible assumption))
               have hx19 := bt_at a0 x7_2
               have p21 : 0 ≤ (x7_2 : Int) := of_decide_eq_true (by (with_reducible assumption))
               have q21 : x7_2 < (a0.size : Int) := of_decide_eq_true (by (with_reducible assumption))
               have hx21 := bt_at a0 x7_2
               have p23 : 0 ≤ (x7_2 : Int) := of_decide_eq_true (by (with_reducible assumption))
               have q23 : x7_2 < (a0.size : Int) := of_decide_eq_true (by (with_reducible assumption))
               have hx23 := bt_at a0 x7_2
               go_wp2
               go_roundg k2
               case measure => have := HJ4.out; have := HK2.out; omega
               case rel => exact ⟨(wrap64 ((wrap64 ((wrap64 (64 * x6_2)) + (wrap64 (bt a0 x7_2)))) - 128)), (wrap64 (x7_2 + 1)), (by (rfl)), (by (rfl)), H', ⟨by have := HJ4.out; have := HK2.out; omega⟩, by repeat (first | exact Drawn0.refl _ | apply Drawn0.step)⟩
             rw [if_neg c18] at H
             exact absurd H (by simp)
           rw [if_neg c17] at H
           exact absurd H (by simp)
         rw [if_neg c16] at H
         have c16b0 : decide (x7_2 < x4_4) = false := decide_eq_false c16
         by_cases c24 : x6_2 < x5_4
         · rw [if_pos c24] at H
           have c24b0 : decide (x6_2 < x5_4) = true := decide_eq_true c24
           obtain rfl := Option.some.inj H
           go_wp2
           go_ret
           exact ⟨by (rfl), by repeat (first | exact Drawn0.refl _ | apply Drawn0.step)⟩
         rw [if_neg c24] at H
         have c24b0 : decide (x6_2 < x5_4) = false := decide_eq_false c24
         by_cases c25 : x6_2 > 1114111
         · rw [if_pos c25] at H
           have c25b0 : decide (1114111 < x6_2) = true := decide_eq_true c25
           obtain rfl := Option.some.inj H
           go_wp2
           go_ret
           exact ⟨by (rfl), by repeat (first | exact Drawn0.refl _ | apply Drawn0.step)⟩
         rw [if_neg c25] at H
         have c25b0 : decide (1114111 < x6_2) = false := decide_eq_false c25
         by_cases c26 : x6_2 ≥ 55296
         · rw [if_pos c26] at H
           have c26b0 : decide (55296 ≤ x6_2) = true := decide_eq_true c26
           by_cases c27 : x6_2 ≤ 57343
           · rw [if_pos c27] at H
             have c27b0 : decide (x6_2 ≤ 57343) = true := decide_eq_true c27
             obtain rfl := Option.some.inj H
             go_wp2
             go_ret
             exact ⟨by (rfl), by repeat (first | exact Drawn0.refl _ | apply Drawn0.step)⟩
           rw [if_neg c27] at H
           have c27b0 : decide (x6_2 ≤ 57343) = false := decide_eq_false c27
           obtain rfl := Option.some.inj H
           go_wp2
           go_ret
           exact ⟨by (rfl), by repeat (first | exact Drawn0.refl _ | apply Drawn0.step)⟩
         rw [if_neg c26] at H
         have c26b0 : decide (55296 ≤ x6_2) = false := decide_eq_false c26
         obtain rfl := Option.some.inj H
         go_wp2
         go_ret
         exact ⟨by (rfl), by repeat (first | exact Drawn0.refl _ | apply Drawn0.step)⟩
   rw [if_neg c3] at H
   exact absurd H (by simp)
mutual
def R5_four.l0 : Nat → Int → Int → ByteArray → Int → Int → Int → Option (Int × ByteArray × Int × Int × Int)
 | 0, _, _, _, _, _, _ => none
 | k + 1, x3, x4, x1000, x1001, x1002, x1003 => if x4 < 4 then ((R5_peek.f x1000 x1001 x1002 x1003).bind fun bt101 => (if (wrap64 (bt101.1)) ≥ 48 then (R5_four.j1 k x3 x4 (wrap64 (bt101.1)) (decide ((wrap64 (bt101.1)) ≤ 57)) bt101.2.1 bt101.2.2.1 bt101.2.2.2.1 bt101.2.2.2.2) else (R5_four.j1 k x3 x4 (wrap64 (bt101.1)) false bt101.2.1 bt101.2.2.1 bt101.2.2.2.1 bt101.2.2.2.2))) else (some (x3, x1000, x1001, x1002, x1003))
def R5_four.j1 : Nat → Int → Int → Int → Bool → ByteArray → Int → Int → Int → Option (Int × ByteArray × Int × Int × Int)
 | 0, _, _, _, _, _, _, _, _ => none
 | k + 1, x3, x4, x5, x15, x1000, x1001, x1002, x1003 => if x15 = true then (R5_four.l0 k (wrap64 ((wrap64 ((wrap64 (16 * x3)) + x5)) - 48)) (wrap64 (x4 + 1)) x1000 (wrap64 (x1001 + 1)) x1002 x1003) else (if x5 ≥ 97 then (R5_four.j2 k x3 x4 x5 (decide (x5 ≤ 102)) x1000 x1001 x1002 x1003) else (R5_four.j2 k x3 x4 x5 false x1000 x1001 x1002 x1003))
def R5_four.j2 : Nat → Int → Int → Int → Bool → ByteArray → Int → Int → Int → Option (Int × ByteArray × Int × Int × Int)
 | 0, _, _, _, _, _, _, _, _ => none
 | k + 1, x3, x4, x5, x27, x1000, x1001, x1002, x1003 => if x27 = true then (R5_four.l0 k (wrap64 ((wrap64 ((wrap64 (16 * x3)) + x5)) - 87)) (wrap64 (x4 + 1)) x1000 (wrap64 (x1001 + 1)) x1002 x1003) else (if x5 ≥ 65 then (if x5 ≤ 70 then (R5_four.l0 k (wrap64 ((wrap64 ((wrap64 (16 * x3)) + x5)) - 55)) (wrap64 (x4 + 1)) x1000 (wrap64 (x1001 + 1)) x1002 x1003) else ((R5_fail.f x1000 x1001 x1002 x1003 11).bind fun bt106 => (some (0, bt106.1, bt106.2.1, bt106.2.2.1, bt106.2.2.2)))) else ((R5_fail.f x1000 x1001 x1002 x1003 11).bind fun bt110 => (some (0, bt110.1, bt110.2.1, bt110.2.2.1, bt110.2.2.2))))
end
def R5_four.f (k : Nat) (s0_0 : ByteArray) (s0_1 : Int) (s0_2 : Int) (s0_3 : Int) : Option (Int × ByteArray × Int × Int × Int) := R5_four.l0 k 0 0 s0_0 s0_1 s0_2 s0_3
set_option maxHeartbeats 8000000 in
set_option maxRecDepth 100000 in
theorem R5_four.calls (k : Nat) (g : Nat) (s0_0 : ByteArray) (s0_1 : Int) (s0_2 : Int) (s0_3 : Int) (r1 : Int) (r2 : ByteArray) (r3 : Int) (r4 : Int) (r5 : Int) (w0 w : World) (hI : IsS84 w0 w g s0_0 s0_1 s0_2 s0_3) (hB : Below w0.heap.size w0 w) (h : R5_four.f k s0_0 s0_1 s0_2 s0_3 = some (r1, r2, r3, r4, r5)) :
    Calls Tryz.prog 138 #[.pointer (some ⟨g, 0, none⟩)] w fun e w' => e = .returned (.int .i64 r1) ∧ IsS84 w0 w' g r2 r3 r4 r5 ∧ Below w0.heap.size w0 w' ∧ KeepBut w w' g none := by
 have HI0 := Aside0.mk hI
 have HK := Aside0.mk (KeepBut.refl w g none)
 have HL := Aside0.mk hB.size
 clear hI
 have HW0 := Aside0.mk hB.size
 have HB := Aside0.mk hB
 clear hB
 have H : (R5_four.l0 k 0 0 s0_0 s0_1 s0_2 s0_3) = some (r1, r2, r3, r4, r5) := h
 clear h
 have H' := Aside0.mk H
 go_enter Tryz.func138, Tryz.ntmps138
 go_wp2
 go_loopg [3, 4] k (fun kq v3 v4 w' => ∃ (x3_1 : Int) (x4_1 : Int) (x1000_1 : ByteArray) (x1001_1 : Int) (x1002_1 : Int) (x1003_1 : Int), v3 = .int .i64 x3_1 ∧ v4 = .int .i64 x4_1 ∧ Aside0 (R5_four.l0 kq x3_1 x4_1 x1000_1 x1001_1 x1002_1 x1003_1 = some (r1, r2, r3, r4, r5)) ∧ Aside0 (kq ≤ k) ∧ Aside0 (IsS84 w0 w' g x1000_1 x1001_1 x1002_1 x1003_1) ∧ Aside0 (KeepBut w w' g none) ∧ Aside0 (Below w0.heap.size w0 w'))
 case atStart => exact ⟨(0), (0), (s0_0), (s0_1), (s0_2), (s0_3), (by (rfl)), (by (rfl)), H', ⟨Nat.le_refl _⟩, ⟨by repeat ((with_reducible (exact HI0.out)))⟩, ⟨by repeat ((with_reducible (exact HK.out)))⟩, ⟨by repeat ((with_reducible (exact HB.out)))⟩⟩
 case round =>
  clear H'
  obtain ⟨x3_1, x4_1, x1000_1, x1001_1, x1002_1, x1003_1, rfl, rfl, HA, HK1, HI0, HK, HB⟩ := hrel
  cases gk with
  | zero => exact absurd HA.out (by simp [R5_four.l0])
  | succ k1 =>
   have H := HA.out
   clear HA
   simp only [R5_four.l0] at H
   by_cases c2 : x4_1 < 4
   · rw [if_pos c2] at H
     have c2b0 : decide (x4_1 < 4) = true := decide_eq_true c2
     replace H := Option.bind_eq_some_iff.mp H
     obtain ⟨⟨t101, t102, t103, t104, t105⟩, A30, H⟩ := H
     have A3 := Aside0.mk A30
     clear A30
     have HC4 := Aside0.mk H
     go_upto_region 8 with (((with_reducible refine gate_callee (f := 72) rfl ?_); refine goesL_ (some 11) rfl rfl Tryz.func72 (by kernel_rfl) rfl #[.pointer (some ⟨g, 0, none⟩)] rfl (by (try simp only [List.map_toArray, List.map_cons, List.map_nil]); (rfl)) ?_; (with_reducible refine (R5_peek.calls g x1000_1 x1001_1 x1002_1 x1003_1 t101 t102 t103 t104 t105 w0 _ ?side1 ?side2 A3.out).mono ?_); (case side1 => repeat ((with_reducible (exact HI0.out)))); (case side2 => repeat ((with_reducible (exact HB.out)))); rintro e w5 ⟨rfl, hi, hb, hk⟩; refine ⟨_, rfl, ?_⟩; have n0_ := Aside0.mk (KeepBut.trans (by repeat ((with_reducible (exact HK.out)))) hk (.inl rfl)); have n1_ := Aside0.mk (hb); have n2_ := Aside0.mk (hi); clear HK; clear HB; clear HI0; have HK := n0_; have HB := n1_; have HI0 := n2_; clear n0_ n1_ n2_; (try clear hb); (try clear hk); (try clear hi)))
     (skip)
     go_cut [15] (fun v15 wc => ∃ (kq : Nat) (x15_3 : Bool), v15 = .bool x15_3 ∧ Aside0 (R5_four.j1 kq x3_1 x4_1 (wrap64 (t101)) x15_3 t102 t103 t104 t105 = some (r1, r2, r3, r4, r5)) ∧ Aside0 (kq ≤ k1) ∧ Aside0 (IsS84 w0 wc g t102 t103 t104 t105) ∧ Aside0 (KeepBut w wc g none) ∧ Aside0 (Below w0.heap.size w0 wc))
     case first =>
      have H := HC4.out
      clear HC4
      by_cases c6 : (wrap64 (t101)) ≥ 48
      · rw [if_pos c6] at H
        have c6b0 : decide (48 ≤ (wrap64 (t101))) = true := decide_eq_true c6
        (skip)
        have H' := Aside0.mk H
        go_wp2
        go_meet
        case rel => exact ⟨_, (decide ((wrap64 (t101)) ≤ 57)), (by (rfl)), H', ⟨by have := HK1.out; (omega)⟩, ⟨by repeat ((with_reducible (exact HI0.out)))⟩, ⟨by repeat ((with_reducible (exact HK.out)))⟩, ⟨by repeat ((with_reducible (exact HB.out)))⟩⟩
      rw [if_neg c6] at H
      have c6b0 : decide (48 ≤ (wrap64 (t101))) = false := decide_eq_false c6
      (skip)
      have H' := Aside0.mk H
      go_wp2
      go_meet
      case rel => exact ⟨_, (false), (by (rfl)), H', ⟨by have := HK1.out; (omega)⟩, ⟨by repeat ((with_reducible (exact HI0.out)))⟩, ⟨by repeat ((with_reducible (exact HK.out)))⟩, ⟨by repeat ((with_reducible (exact HB.out)))⟩⟩
     case rest =>
      clear HC4
      try clear c2b0
      obtain ⟨kq, x15_3, rfl, HA, HJ3, HI0, HK, HB⟩ := hcut
      cases kq with
      | zero => exact absurd HA.out (by simp [R5_four.j1])
      | succ kj3 =>
       have H := HA.out
       clear HA
       simp only [R5_four.j1] at H
       by_cases c7 : x15_3 = true
       · subst c7
         have H1 : (R5_four.l0 kj3 (wrap64 ((wrap64 ((wrap64 (16 * x3_1)) + (wrap64 (t101)))) - 48)) (wrap64 (x4_1 + 1)) t102 (wrap64 (t103 + 1)) t104 t105) = some (r1, r2, r3, r4, r5) := by rw [if_pos rfl] at H; exact H
         have H := H1
         clear H1
         have H' := Aside0.mk H
         obtain ⟨HGz8, hgz8⟩ := HI0.out
         have hcz8_0 := cellS84_0 HGz8
         have hcz8_1 := cellS84_1 HGz8
         have hcz8_2 := cellS84_2 HGz8
         have hcz8_3 := cellS84_3 HGz8
         have hfz8_0 := blk_frozen HGz8 0
         have hfz8_1 := blk_frozen HGz8 1
         have hfz8_2 := blk_frozen HGz8 2
         have hfz8_3 := blk_frozen HGz8 3
         clear HGz8 hgz8
         go_wp2
         go_roundg kj3
         case measure => have := HK1.out; have := HJ3.out; omega
         case rel => exact ⟨(wrap64 ((wrap64 ((wrap64 (16 * x3_1)) + (wrap64 (t101)))) - 48)), (wrap64 (x4_1 + 1)), (t102), (wrap64 (t103 + 1)), (t104), (t105), (by (rfl)), (by (rfl)), H', ⟨by have := HK1.out; have := HJ3.out; omega⟩, ⟨by repeat ((with_reducible first | exact HI0.out | apply IsS84.set_1 ))⟩, ⟨by repeat ((with_reducible first | exact HK.out | apply KeepBut.set_ ))⟩, ⟨by repeat ((with_reducible first | exact HB.out | refine below_set ?_ (IsS84.ge HI0.out)))⟩⟩
       replace c7 := Bool.eq_false_iff.mpr c7
       subst c7
       have H1 : (if (wrap64 (t101)) ≥ 97 then (R5_four.j2 kj3 x3_1 x4_1 (wrap64 (t101)) (decide ((wrap64 (t101)) ≤ 102)) t102 t103 t104 t105) else (R5_four.j2 kj3 x3_1 x4_1 (wrap64 (t101)) false t102 t103 t104 t105)) = some (r1, r2, r3, r4, r5) := by rw [if_neg (show ¬ (false = true) by decide)] at H; exact H
       have H := H1
       clear H1
       have HC9 := Aside0.mk H
       go_upto_region 10 with (fail)
       go_cut [27] (fun v27 wc => ∃ (kq : Nat) (x27_8 : Bool), v27 = .bool x27_8 ∧ Aside0 (R5_four.j2 kq x3_1 x4_1 (wrap64 (t101)) x27_8 t102 t103 t104 t105 = some (r1, r2, r3, r4, r5)) ∧ Aside0 (kq ≤ kj3) ∧ Aside0 (IsS84 w0 wc g t102 t103 t104 t105) ∧ Aside0 (KeepBut w wc g none) ∧ Aside0 (Below w0.heap.size w0 wc))
       case first =>
        have H := HC9.out
        clear HC9
        by_cases c10 : (wrap64 (t101)) ≥ 97
        · rw [if_pos c10] at H
          have c10b0 : decide (97 ≤ (wrap64 (t101))) = true := decide_eq_true c10
          (skip)
          have H' := Aside0.mk H
          go_wp2
          go_meet
          case rel => exact ⟨_, (decide ((wrap64 (t101)) ≤ 102)), (by (rfl)), H', ⟨by have := HK1.out; have := HJ3.out; (omega)⟩, ⟨by repeat ((with_reducible (exact HI0.out)))⟩, ⟨by repeat ((with_reducible (exact HK.out)))⟩, ⟨by repeat ((with_reducible (exact HB.out)))⟩⟩
        rw [if_neg c10] at H
        have c10b0 : decide (97 ≤ (wrap64 (t101))) = false := decide_eq_false c10
        (skip)
        have H' := Aside0.mk H
        go_wp2
        go_meet
        case rel => exact ⟨_, (false), (by (rfl)), H', ⟨by have := HK1.out; have := HJ3.out; (omega)⟩, ⟨by repeat ((with_reducible (exact HI0.out)))⟩, ⟨by repeat ((with_reducible (exact HK.out)))⟩, ⟨by repeat ((with_reducible (exact HB.out)))⟩⟩
       case rest =>
        clear HC9
        obtain ⟨kq, x27_8, rfl, HA, HJ8, HI0, HK, HB⟩ := hcut
        cases kq with
        | zero => exact absurd HA.out (by simp [R5_four.j2])
        | succ kj8 =>
         have H := HA.out
         clear HA
         simp only [R5_four.j2] at H
         by_cases c11 : x27_8 = true
         · subst c11
           have H1 : (R5_four.l0 kj8 (wrap64 ((wrap64 ((wrap64 (16 * x3_1)) + (wrap64 (t101)))) - 87)) (wrap64 (x4_1 + 1)) t102 (wrap64 (t103 + 1)) t104 t105) = some (r1, r2, r3, r4, r5) := by rw [if_pos rfl] at H; exact H
           have H := H1
           clear H1
           have H' := Aside0.mk H
           obtain ⟨HGz12, hgz12⟩ := HI0.out
           have hcz12_0 := cellS84_0 HGz12
           have hcz12_1 := cellS84_1 HGz12
           have hcz12_2 := cellS84_2 HGz12
           have hcz12_3 := cellS84_3 HGz12
           have hfz12_0 := blk_frozen HGz12 0
           have hfz12_1 := blk_frozen HGz12 1
           have hfz12_2 := blk_frozen HGz12 2
           have hfz12_3 := blk_frozen HGz12 3
           clear HGz12 hgz12
           go_wp2
           go_roundg kj8
           case measure => have := HK1.out; have := HJ3.out; have := HJ8.out; omega
           case rel => exact ⟨(wrap64 ((wrap64 ((wrap64 (16 * x3_1)) + (wrap64 (t101)))) - 87)), (wrap64 (x4_1 + 1)), (t102), (wrap64 (t103 + 1)), (t104), (t105), (by (rfl)), (by (rfl)), H', ⟨by have := HK1.out; have := HJ3.out; have := HJ8.out; omega⟩, ⟨by repeat ((with_reducible first | exact HI0.out | apply IsS84.set_1 ))⟩, ⟨by repeat ((with_reducible first | exact HK.out | apply KeepBut.set_ ))⟩, ⟨by repeat ((with_reducible first | exact HB.out | refine below_set ?_ (IsS84.ge HI0.out)))⟩⟩
         replace c11 := Bool.eq_false_iff.mpr c11
         subst c11
         have H1 : (if (wrap64 (t101)) ≥ 65 then (if (wrap64 (t101)) ≤ 70 then (R5_four.l0 kj8 (wrap64 ((wrap64 ((wrap64 (16 * x3_1)) + (wrap64 (t101)))) - 55)) (wrap64 (x4_1 + 1)) t102 (wrap64 (t103 + 1)) t104 t105) else ((R5_fail.f t102 t103 t104 t105 11).bind fun bt106 => (some (0, bt106.1, bt106.2.1, bt106.2.2.1, bt106.2.2.2)))) else ((R5_fail.f t102 t103 t104 t105 11).bind fun bt110 => (some (0, bt110.1, bt110.2.1, bt110.2.2.1, bt110.2.2.2)))) = some (r1, r2, r3, r4, r5) := by rw [if_neg (show ¬ (false = true) by decide)] at H; exact H
         have H := H1
         clear H1
         by_cases c13 : (wrap64 (t101)) ≥ 65
         · rw [if_pos c13] at H
           have c13b0 : decide (65 ≤ (wrap64 (t101))) = true := decide_eq_true c13
           by_cases c14 : (wrap64 (t101)) ≤ 70
           · rw [if_pos c14] at H
             have c14b0 : decide ((wrap64 (t101)) ≤ 70) = true := decide_eq_true c14
             have H' := Aside0.mk H
             obtain ⟨HGz15, hgz15⟩ := HI0.out
             have hcz15_0 := cellS84_0 HGz15
             have hcz15_1 := cellS84_1 HGz15
             have hcz15_2 := cellS84_2 HGz15
             have hcz15_3 := cellS84_3 HGz15
             have hfz15_0 := blk_frozen HGz15 0
             have hfz15_1 := blk_frozen HGz15 1
             have hfz15_2 := blk_frozen HGz15 2
             have hfz15_3 := blk_frozen HGz15 3
             clear HGz15 hgz15
             go_wp2
             go_roundg kj8
             case measure => have := HK1.out; have := HJ3.out; have := HJ8.out; omega
             case rel => exact ⟨(wrap64 ((wrap64 ((wrap64 (16 * x3_1)) + (wrap64 (t101)))) - 55)), (wrap64 (x4_1 + 1)), (t102), (wrap64 (t103 + 1)), (t104), (t105), (by (rfl)), (by (rfl)), H', ⟨by have := HK1.out; have := HJ3.out; have := HJ8.out; omega⟩, ⟨by repeat ((with_reducible first | exact HI0.out | apply IsS84.set_1 ))⟩, ⟨by repeat ((with_reducible first | exact HK.out | apply KeepBut.set_ ))⟩, ⟨by repeat ((with_reducible first | exact HB.out | refine below_set ?_ (IsS84.ge HI0.out)))⟩⟩
           rw [if_neg c14] at H
           have c14b0 : decide ((wrap64 (t101)) ≤ 70) = false := decide_eq_false c14
           replace H := Option.bind_eq_some_iff.mp H
           obtain ⟨⟨t106, t107, t108, t109⟩, A160, H⟩ := H
           have A16 := Aside0.mk A160
           clear A160
           obtain ⟨rfl, rfl, rfl, rfl, rfl⟩ := H
           go_wp2_with (((with_reducible refine gate_callee (f := 39) rfl ?_); refine goesL_ (some 14) rfl rfl Tryz.func39 (by kernel_rfl) rfl #[.pointer (some ⟨g, 0, none⟩), .int .i64 11] rfl (by (try simp only [List.map_toArray, List.map_cons, List.map_nil]); (rfl)) ?_; (with_reducible refine (R5_fail.calls g t102 t103 t104 t105 11 t106 t107 t108 t109 w0 _ ?side1 ?side2 A16.out).mono ?_); (case side1 => repeat ((with_reducible (exact HI0.out)))); (case side2 => repeat ((with_reducible (exact HB.out)))); rintro e w17 ⟨rfl, hi, hb, hk⟩; refine ⟨_, rfl, ?_⟩; have n0_ := Aside0.mk (KeepBut.trans (by repeat ((with_reducible (exact HK.out)))) hk (.inl rfl)); have n1_ := Aside0.mk (hb); have n2_ := Aside0.mk (hi); clear HK; clear HB; clear HI0; have HK := n0_; have HB := n1_; have HI0 := n2_; clear n0_ n1_ n2_; (try clear hb); (try clear hk); (try clear hi)))
           go_ret
           exact ⟨by (rfl), by repeat ((with_reducible (exact HI0.out))), by repeat ((with_reducible (exact HB.out))), by repeat ((with_reducible (exact HK.out)))⟩
         rw [if_neg c13] at H
         have c13b0 : decide (65 ≤ (wrap64 (t101))) = false := decide_eq_false c13
         replace H := Option.bind_eq_some_iff.mp H
         obtain ⟨⟨t110, t111, t112, t113⟩, A180, H⟩ := H
         have A18 := Aside0.mk A180
         clear A180
         obtain ⟨rfl, rfl, rfl, rfl, rfl⟩ := H
         go_wp2_with (((with_reducible refine gate_callee (f := 39) rfl ?_); refine goesL_ (some 14) rfl rfl Tryz.func39 (by kernel_rfl) rfl #[.pointer (some ⟨g, 0, none⟩), .int .i64 11] rfl (by (try simp only [List.map_toArray, List.map_cons, List.map_nil]); (rfl)) ?_; (with_reducible refine (R5_fail.calls g t102 t103 t104 t105 11 t110 t111 t112 t113 w0 _ ?side1 ?side2 A18.out).mono ?_); (case side1 => repeat ((with_reducible (exact HI0.out)))); (case side2 => repeat ((with_reducible (exact HB.out)))); rintro e w19 ⟨rfl, hi, hb, hk⟩; refine ⟨_, rfl, ?_⟩; have n0_ := Aside0.mk (KeepBut.trans (by repeat ((with_reducible (exact HK.out)))) hk (.inl rfl)); have n1_ := Aside0.mk (hb); have n2_ := Aside0.mk (hi); clear HK; clear HB; clear HI0; have HK := n0_; have HB := n1_; have HI0 := n2_; clear n0_ n1_ n2_; (try clear hb); (try clear hk); (try clear hi)))
         go_ret
         exact ⟨by (rfl), by repeat ((with_reducible (exact HI0.out))), by repeat ((with_reducible (exact HB.out))), by repeat ((with_reducible (exact HK.out)))⟩
   rw [if_neg c2] at H
   have c2b0 : decide (x4_1 < 4) = false := decide_eq_false c2
   obtain ⟨rfl, rfl, rfl, rfl, rfl⟩ := H
   go_wp2
   go_ret
   exact ⟨by (rfl), by repeat ((with_reducible (exact HI0.out))), by repeat ((with_reducible (exact HB.out))), by repeat ((with_reducible (exact HK.out)))⟩
def R5Sign.f (a0 : Int) : Option (ByteArray) := if a0 < 128 then (some (strOfNums (([(a0) % 256] : List Int)))) else (if a0 < 2048 then (some (strOfNums (([(wrap64 (192 + (wrap64 (Int.tdiv a0 64)))) % 256, (wrap64 (128 + (Int.tmod a0 64))) % 256] : List Int)))) else (if a0 < 65536 then (some (strOfNums (([(wrap64 (224 + (wrap64 (Int.tdiv a0 4096)))) % 256, (wrap64 (128 + (Int.tmod (wrap64 (Int.tdiv a0 64)) 64))) % 256, (wrap64 (128 + (Int.tmod a0 64))) % 256] : List Int)))) else (some (strOfNums (([(wrap64 (240 + (wrap64 (Int.tdiv a0 262144)))) % 256, (wrap64 (128 + (Int.tmod (wrap64 (Int.tdiv a0 4096)) 64))) % 256, (wrap64 (128 + (Int.tmod (wrap64 (Int.tdiv a0 64)) 64))) % 256, (wrap64 (128 + (Int.tmod a0 64))) % 256] : List Int))))))
set_option maxHeartbeats 8000000 in
set_option maxRecDepth 100000 in
theorem R5Sign.calls (a0 : Int) (r : ByteArray) (w : World) (h : R5Sign.f a0 = some r) :
    Calls Tryz.prog 139 #[.int .i64 a0] w fun e w' => e = .returned (.string r) ∧ Below w.heap.size w w' := by
 have HB := Aside0.mk (Below.refl w.heap.size w)
 have H : (if a0 < 128 then (some (strOfNums (([(a0) % 256] : List Int)))) else (if a0 < 2048 then (some (strOfNums (([(wrap64 (192 + (wrap64 (Int.tdiv a0 64)))) % 256, (wrap64 (128 + (Int.tmod a0 64))) % 256] : List Int)))) else (if a0 < 65536 then (some (strOfNums (([(wrap64 (224 + (wrap64 (Int.tdiv a0 4096)))) % 256, (wrap64 (128 + (Int.tmod (wrap64 (Int.tdiv a0 64)) 64))) % 256, (wrap64 (128 + (Int.tmod a0 64))) % 256] : List Int)))) else (some (strOfNums (([(wrap64 (240 + (wrap64 (Int.tdiv a0 262144)))) % 256, (wrap64 (128 + (Int.tmod (wrap64 (Int.tdiv a0 4096)) 64))) % 256, (wrap64 (128 + (Int.tmod (wrap64 (Int.tdiv a0 64)) 64))) % 256, (wrap64 (128 + (Int.tmod a0 64))) % 256] : List Int))))))) = some r := h
 clear h
 by_cases c2 : a0 < 128
 · rw [if_pos c2] at H
   have c2b0 : decide (a0 < 128) = true := decide_eq_true c2
   obtain ⟨y114, hy114⟩ : ∃ y_ : List Int, y_ = (([(a0) % 256] : List Int)) := ⟨_, rfl⟩
   replace H : (some (strOfNums y114)) = some r := by (rw [hy114]; with_reducible exact H)
   have Ny114 := Aside0.mk hy114
   clear hy114
   obtain rfl := Option.some.inj H
   go_enter Tryz.func139, Tryz.ntmps139
   go_wp2_with (((with_reducible refine gate_dst (N := 8) rfl ?_); refine Kd.R_lit (Kd.int .u8) _ 5 ?hg (N := 8) ?hd (xs := ([(a0) % 256] : List Int)) (inner := [.int .u8 ((a0) % 256)]) (ok := fun _ => True) (okp := fun _ => True) ?hr ?hp (fun _ hk => hk) trivial (Below.refl _ _) (Nat.le_refl _) (by simp) ?_; (case hd => rfl); (case hg => rfl); (case hr => (go_simp; done)); (case hp => exact (Reps.one (show Kd.M (Kd.int .u8) _ _ _ ((a0) % 256) [.int .u8 ((a0) % 256)] from rfl) (Reps.none _ _))); intro v115 w3 ho4 hb hg_ hnew_; clear hg_ hnew_; (rw [← Ny114.out] at ho4); have n0_ := Aside0.mk (Kd.R_lower ho4 (below_size (by repeat ((with_reducible (exact HB.out)))))); have n1_ := Aside0.mk (below_step (by repeat ((with_reducible (exact HB.out)))) hb); clear HB; have HO116 := n0_; have HB := n1_; clear n0_ n1_; clear hb ho4; have hcv5 := own_string (P := Tryz.prog) Tryz.underlying38 Tryz.underlying5 Tryz.underlying9 (Kd.own_of_R HO116.out)))
   go_ret
   exact ⟨by (rfl), by repeat ((with_reducible (exact HB.out)))⟩
 · rw [if_neg c2] at H
   have c2b0 : decide (a0 < 128) = false := decide_eq_false c2
   clear c2
   by_cases c6 : a0 < 2048
   · rw [if_pos c6] at H
     have c6b0 : decide (a0 < 2048) = true := decide_eq_true c6
     clear c6
     obtain ⟨y117, hy117⟩ : ∃ y_ : List Int, y_ = (([(wrap64 (192 + (wrap64 (Int.tdiv a0 64)))) % 256, (wrap64 (128 + (Int.tmod a0 64))) % 256] : List Int)) := ⟨_, rfl⟩
     replace H : (some (strOfNums y117)) = some r := by (rw [hy117]; with_reducible exact H)
     have Ny117 := Aside0.mk hy117
     clear hy117
     obtain rfl := Option.some.inj H
     go_enter Tryz.func139, Tryz.ntmps139
     go_wp2_with (((with_reducible refine gate_dst (N := 21) rfl ?_); refine Kd.R_lit (Kd.int .u8) _ 5 ?hg (N := 21) ?hd (xs := ([(wrap64 (192 + (wrap64 (Int.tdiv a0 64)))) % 256, (wrap64 (128 + (Int.tmod a0 64))) % 256] : List Int)) (inner := [.int .u8 ((wrap64 (192 + (wrap64 (Int.tdiv a0 64)))) % 256), .int .u8 ((wrap64 (128 + (Int.tmod a0 64))) % 256)]) (ok := fun _ => True) (okp := fun _ => True) ?hr ?hp (fun _ hk => hk) trivial (Below.refl _ _) (Nat.le_refl _) (by simp) ?_; (case hd => rfl); (case hg => rfl); (case hr => (go_simp; done)); (case hp => exact (Reps.one (show Kd.M (Kd.int .u8) _ _ _ ((wrap64 (192 + (wrap64 (Int.tdiv a0 64)))) % 256) [.int .u8 ((wrap64 (192 + (wrap64 (Int.tdiv a0 64)))) % 256)] from rfl) (Reps.one (show Kd.M (Kd.int .u8) _ _ _ ((wrap64 (128 + (Int.tmod a0 64))) % 256) [.int .u8 ((wrap64 (128 + (Int.tmod a0 64))) % 256)] from rfl) (Reps.none _ _)))); intro v118 w7 ho8 hb hg_ hnew_; clear hg_ hnew_; (rw [← Ny117.out] at ho8); have n0_ := Aside0.mk (Kd.R_lower ho8 (below_size (by repeat ((with_reducible (exact HB.out)))))); have n1_ := Aside0.mk (below_step (by repeat ((with_reducible (exact HB.out)))) hb); clear HB; have HO119 := n0_; have HB := n1_; clear n0_ n1_; clear hb ho8; have hcv9 := own_string (P := Tryz.prog) Tryz.underlying38 Tryz.underlying5 Tryz.underlying9 (Kd.own_of_R HO119.out)))
     go_ret
     exact ⟨by (rfl), by repeat ((with_reducible (exact HB.out)))⟩
   rw [if_neg c6] at H
   have c6b0 : decide (a0 < 2048) = false := decide_eq_false c6
   clear c6
   by_cases c10 : a0 < 65536
   · rw [if_pos c10] at H
     have c10b0 : decide (a0 < 65536) = true := decide_eq_true c10
     clear c10
     obtain ⟨y120, hy120⟩ : ∃ y_ : List Int, y_ = (([(wrap64 (224 + (wrap64 (Int.tdiv a0 4096)))) % 256, (wrap64 (128 + (Int.tmod (wrap64 (Int.tdiv a0 64)) 64))) % 256, (wrap64 (128 + (Int.tmod a0 64))) % 256] : List Int)) := ⟨_, rfl⟩
     replace H : (some (strOfNums y120)) = some r := by (rw [hy120]; with_reducible exact H)
     have Ny120 := Aside0.mk hy120
     clear hy120
     obtain rfl := Option.some.inj H
     go_enter Tryz.func139, Tryz.ntmps139
     go_wp2_with (((with_reducible refine gate_dst (N := 39) rfl ?_); refine Kd.R_lit (Kd.int .u8) _ 5 ?hg (N := 39) ?hd (xs := ([(wrap64 (224 + (wrap64 (Int.tdiv a0 4096)))) % 256, (wrap64 (128 + (Int.tmod (wrap64 (Int.tdiv a0 64)) 64))) % 256, (wrap64 (128 + (Int.tmod a0 64))) % 256] : List Int)) (inner := [.int .u8 ((wrap64 (224 + (wrap64 (Int.tdiv a0 4096)))) % 256), .int .u8 ((wrap64 (128 + (Int.tmod (wrap64 (Int.tdiv a0 64)) 64))) % 256), .int .u8 ((wrap64 (128 + (Int.tmod a0 64))) % 256)]) (ok := fun _ => True) (okp := fun _ => True) ?hr ?hp (fun _ hk => hk) trivial (Below.refl _ _) (Nat.le_refl _) (by simp) ?_; (case hd => rfl); (case hg => rfl); (case hr => (go_simp; done)); (case hp => exact (Reps.one (show Kd.M (Kd.int .u8) _ _ _ ((wrap64 (224 + (wrap64 (Int.tdiv a0 4096)))) % 256) [.int .u8 ((wrap64 (224 + (wrap64 (Int.tdiv a0 4096)))) % 256)] from rfl) (Reps.one (show Kd.M (Kd.int .u8) _ _ _ ((wrap64 (128 + (Int.tmod (wrap64 (Int.tdiv a0 64)) 64))) % 256) [.int .u8 ((wrap64 (128 + (Int.tmod (wrap64 (Int.tdiv a0 64)) 64))) % 256)] from rfl) (Reps.one (show Kd.M (Kd.int .u8) _ _ _ ((wrap64 (128 + (Int.tmod a0 64))) % 256) [.int .u8 ((wrap64 (128 + (Int.tmod a0 64))) % 256)] from rfl) (Reps.none _ _))))); intro v121 w11 ho12 hb hg_ hnew_; clear hg_ hnew_; (rw [← Ny120.out] at ho12); have n0_ := Aside0.mk (Kd.R_lower ho12 (below_size (by repeat ((with_reducible (exact HB.out)))))); have n1_ := Aside0.mk (below_step (by repeat ((with_reducible (exact HB.out)))) hb); clear HB; have HO122 := n0_; have HB := n1_; clear n0_ n1_; clear hb ho12; have hcv13 := own_string (P := Tryz.prog) Tryz.underlying38 Tryz.underlying5 Tryz.underlying9 (Kd.own_of_R HO122.out)))
     go_ret
     exact ⟨by (rfl), by repeat ((with_reducible (exact HB.out)))⟩
   rw [if_neg c10] at H
   have c10b0 : decide (a0 < 65536) = false := decide_eq_false c10
   clear c10
   obtain ⟨y123, hy123⟩ : ∃ y_ : List Int, y_ = (([(wrap64 (240 + (wrap64 (Int.tdiv a0 262144)))) % 256, (wrap64 (128 + (Int.tmod (wrap64 (Int.tdiv a0 4096)) 64))) % 256, (wrap64 (128 + (Int.tmod (wrap64 (Int.tdiv a0 64)) 64))) % 256, (wrap64 (128 + (Int.tmod a0 64))) % 256] : List Int)) := ⟨_, rfl⟩
   replace H : (some (strOfNums y123)) = some r := by (rw [hy123]; with_reducible exact H)
   have Ny123 := Aside0.mk hy123
   clear hy123
   obtain rfl := Option.some.inj H
   go_enter Tryz.func139, Tryz.ntmps139
   go_wp2_with (((with_reducible refine gate_dst (N := 59) rfl ?_); refine Kd.R_lit (Kd.int .u8) _ 5 ?hg (N := 59) ?hd (xs := ([(wrap64 (240 + (wrap64 (Int.tdiv a0 262144)))) % 256, (wrap64 (128 + (Int.tmod (wrap64 (Int.tdiv a0 4096)) 64))) % 256, (wrap64 (128 + (Int.tmod (wrap64 (Int.tdiv a0 64)) 64))) % 256, (wrap64 (128 + (Int.tmod a0 64))) % 256] : List Int)) (inner := [.int .u8 ((wrap64 (240 + (wrap64 (Int.tdiv a0 262144)))) % 256), .int .u8 ((wrap64 (128 + (Int.tmod (wrap64 (Int.tdiv a0 4096)) 64))) % 256), .int .u8 ((wrap64 (128 + (Int.tmod (wrap64 (Int.tdiv a0 64)) 64))) % 256), .int .u8 ((wrap64 (128 + (Int.tmod a0 64))) % 256)]) (ok := fun _ => True) (okp := fun _ => True) ?hr ?hp (fun _ hk => hk) trivial (Below.refl _ _) (Nat.le_refl _) (by simp) ?_; (case hd => rfl); (case hg => rfl); (case hr => (go_simp; done)); (case hp => exact (Reps.one (show Kd.M (Kd.int .u8) _ _ _ ((wrap64 (240 + (wrap64 (Int.tdiv a0 262144)))) % 256) [.int .u8 ((wrap64 (240 + (wrap64 (Int.tdiv a0 262144)))) % 256)] from rfl) (Reps.one (show Kd.M (Kd.int .u8) _ _ _ ((wrap64 (128 + (Int.tmod (wrap64 (Int.tdiv a0 4096)) 64))) % 256) [.int .u8 ((wrap64 (128 + (Int.tmod (wrap64 (Int.tdiv a0 4096)) 64))) % 256)] from rfl) (Reps.one (show Kd.M (Kd.int .u8) _ _ _ ((wrap64 (128 + (Int.tmod (wrap64 (Int.tdiv a0 64)) 64))) % 256) [.int .u8 ((wrap64 (128 + (Int.tmod (wrap64 (Int.tdiv a0 64)) 64))) % 256)] from rfl) (Reps.one (show Kd.M (Kd.int .u8) _ _ _ ((wrap64 (128 + (Int.tmod a0 64))) % 256) [.int .u8 ((wrap64 (128 + (Int.tmod a0 64))) % 256)] from rfl) (Reps.none _ _)))))); intro v124 w14 ho15 hb hg_ hnew_; clear hg_ hnew_; (rw [← Ny123.out] at ho15); have n0_ := Aside0.mk (Kd.R_lower ho15 (below_size (by repeat ((with_reducible (exact HB.out)))))); have n1_ := Aside0.mk (below_step (by repeat ((with_reducible (exact HB.out)))) hb); clear HB; have HO125 := n0_; have HB := n1_; clear n0_ n1_; clear hb ho15; have hcv16 := own_string (P := Tryz.prog) Tryz.underlying38 Tryz.underlying5 Tryz.underlying9 (Kd.own_of_R HO125.out)))
   go_ret
   exact ⟨by (rfl), by repeat ((with_reducible (exact HB.out)))⟩
mutual
def R5_escape.j0 : Nat → Int → Int → Bool → ByteArray → Int → Int → Int → Option (ByteArray × ByteArray × Int × Int × Int)
 | 0, _, _, _, _, _, _, _ => none
 | k + 1, x3, x15, x16, x1000, x1001, x1002, x1003 => if x16 = true then (some (strOfNums (([x3] : List Int)), x1000, x1001, x1002, x1003)) else (if x15 = 98 then (some ((⟨#[8]⟩ : ByteArray), x1000, x1001, x1002, x1003)) else (if x15 = 102 then (some ((⟨#[12]⟩ : ByteArray), x1000, x1001, x1002, x1003)) else (if x15 = 110 then (some ((⟨#[10]⟩ : ByteArray), x1000, x1001, x1002, x1003)) else (if x15 = 114 then (some ((⟨#[13]⟩ : ByteArray), x1000, x1001, x1002, x1003)) else (if x15 = 116 then (some ((⟨#[9]⟩ : ByteArray), x1000, x1001, x1002, x1003)) else (if x15 = 117 then ((R5_four.f k x1000 x1001 x1002 x1003).bind fun bt134 => (if bt134.1 < 55296 then (R5_escape.j1 k bt134.1 true bt134.2.1 bt134.2.2.1 bt134.2.2.2.1 bt134.2.2.2.2) else (R5_escape.j1 k bt134.1 (decide (bt134.1 > 57343)) bt134.2.1 bt134.2.2.1 bt134.2.2.2.1 bt134.2.2.2.2))) else ((R5_fail.f x1000 x1001 x1002 x1003 11).bind fun bt168 => (some ((⟨#[]⟩ : ByteArray), bt168.1, bt168.2.1, bt168.2.2.1, bt168.2.2.2)))))))))
def R5_escape.j1 : Nat → Int → Bool → ByteArray → Int → Int → Int → Option (ByteArray × ByteArray × Int × Int × Int)
 | 0, _, _, _, _, _, _ => none
 | k + 1, x4, x42, x1000, x1001, x1002, x1003 => if x42 = true then ((R5Sign.f x4).bind fun t139 => (some (t139, x1000, x1001, x1002, x1003))) else (if x4 ≥ 56320 then (R5_escape.j2 k x4 true x1000 x1001 x1002 x1003) else ((R5_peek.f x1000 x1001 x1002 x1003).bind fun bt140 => (R5_escape.j2 k x4 (bt140.1 != 92) bt140.2.1 bt140.2.2.1 bt140.2.2.2.1 bt140.2.2.2.2)))
def R5_escape.j2 : Nat → Int → Bool → ByteArray → Int → Int → Int → Option (ByteArray × ByteArray × Int × Int × Int)
 | 0, _, _, _, _, _, _ => none
 | k + 1, x4, x51, x1000, x1001, x1002, x1003 => if x51 = true then ((R5_fail.f x1000 x1001 x1002 x1003 11).bind fun bt145 => (some ((⟨#[]⟩ : ByteArray), bt145.1, bt145.2.1, bt145.2.2.1, bt145.2.2.2))) else ((R5_peek.f x1000 (wrap64 (x1001 + 1)) x1002 x1003).bind fun bt149 => (if bt149.1 = 117 then ((R5_four.f k bt149.2.1 (wrap64 (bt149.2.2.1 + 1)) bt149.2.2.2.1 bt149.2.2.2.2).bind fun bt158 => (if bt158.1 < 56320 then (R5_escape.j3 k x4 bt158.1 true bt158.2.1 bt158.2.2.1 bt158.2.2.2.1 bt158.2.2.2.2) else (R5_escape.j3 k x4 bt158.1 (decide (bt158.1 > 57343)) bt158.2.1 bt158.2.2.1 bt158.2.2.2.1 bt158.2.2.2.2))) else ((R5_fail.f bt149.2.1 bt149.2.2.1 bt149.2.2.2.1 bt149.2.2.2.2 11).bind fun bt154 => (some ((⟨#[]⟩ : ByteArray), bt154.1, bt154.2.1, bt154.2.2.1, bt154.2.2.2)))))
def R5_escape.j3 : Nat → Int → Int → Bool → ByteArray → Int → Int → Int → Option (ByteArray × ByteArray × Int × Int × Int)
 | 0, _, _, _, _, _, _, _ => none
 | k + 1, x4, x5, x80, x1000, x1001, x1002, x1003 => if x80 = true then ((R5_fail.f x1000 x1001 x1002 x1003 11).bind fun bt163 => (some ((⟨#[]⟩ : ByteArray), bt163.1, bt163.2.1, bt163.2.2.1, bt163.2.2.2))) else ((R5Sign.f (wrap64 ((wrap64 ((wrap64 (65536 + (wrap64 (1024 * (wrap64 (x4 - 55296)))))) + x5)) - 56320))).bind fun t167 => (some (t167, x1000, x1001, x1002, x1003)))
end
def R5_escape.f (k : Nat) (s0_0 : ByteArray) (s0_1 : Int) (s0_2 : Int) (s0_3 : Int) : Option (ByteArray × ByteArray × Int × Int × Int) := (R5_peek.f s0_0 s0_1 s0_2 s0_3).bind fun bt126 => (if bt126.1 = 34 then (R5_escape.j0 k bt126.1 bt126.1 (bt126.1 == 34) bt126.2.1 (wrap64 (bt126.2.2.1 + 1)) bt126.2.2.2.1 bt126.2.2.2.2) else (if bt126.1 = 92 then (R5_escape.j0 k bt126.1 bt126.1 (bt126.1 == 92) bt126.2.1 (wrap64 (bt126.2.2.1 + 1)) bt126.2.2.2.1 bt126.2.2.2.2) else (R5_escape.j0 k bt126.1 bt126.1 (bt126.1 == 47) bt126.2.1 (wrap64 (bt126.2.2.1 + 1)) bt126.2.2.2.1 bt126.2.2.2.2)))
set_option maxHeartbeats 8000000 in
set_option maxRecDepth 100000 in
theorem R5_escape.calls (k : Nat) (g : Nat) (s0_0 : ByteArray) (s0_1 : Int) (s0_2 : Int) (s0_3 : Int) (r1 : ByteArray) (r2 : ByteArray) (r3 : Int) (r4 : Int) (r5 : Int) (w0 w : World) (hI : IsS84 w0 w g s0_0 s0_1 s0_2 s0_3) (hB : Below w0.heap.size w0 w) (h : R5_escape.f k s0_0 s0_1 s0_2 s0_3 = some (r1, r2, r3, r4, r5)) :
    Calls Tryz.prog 107 #[.pointer (some ⟨g, 0, none⟩)] w fun e w' => e = .returned (.string r1) ∧ IsS84 w0 w' g r2 r3 r4 r5 ∧ Below w0.heap.size w0 w' ∧ KeepBut w w' g none := by
 have HI0 := Aside0.mk hI
 have HK := Aside0.mk (KeepBut.refl w g none)
 have HL := Aside0.mk hB.size
 clear hI
 have HW0 := Aside0.mk hB.size
 have HB := Aside0.mk hB
 clear hB
 have H : ((R5_peek.f s0_0 s0_1 s0_2 s0_3).bind fun bt126 => (if bt126.1 = 34 then (R5_escape.j0 k bt126.1 bt126.1 (bt126.1 == 34) bt126.2.1 (wrap64 (bt126.2.2.1 + 1)) bt126.2.2.2.1 bt126.2.2.2.2) else (if bt126.1 = 92 then (R5_escape.j0 k bt126.1 bt126.1 (bt126.1 == 92) bt126.2.1 (wrap64 (bt126.2.2.1 + 1)) bt126.2.2.2.1 bt126.2.2.2.2) else (R5_escape.j0 k bt126.1 bt126.1 (bt126.1 == 47) bt126.2.1 (wrap64 (bt126.2.2.1 + 1)) bt126.2.2.2.1 bt126.2.2.2.2)))) = some (r1, r2, r3, r4, r5) := h
 clear h
 replace H := Option.bind_eq_some_iff.mp H
 obtain ⟨⟨t126, t127, t128, t129, t130⟩, A20, H⟩ := H
 have A2 := Aside0.mk A20
 have HC3 := Aside0.mk H
 go_enter Tryz.func107, Tryz.ntmps107
 go_upto_if 16 with (((with_reducible refine gate_callee (f := 72) rfl ?_); refine goesL_ (some 7) rfl rfl Tryz.func72 (by kernel_rfl) rfl #[.pointer (some ⟨g, 0, none⟩)] rfl (by (try simp only [List.map_toArray, List.map_cons, List.map_nil]); (rfl)) ?_; (with_reducible refine (R5_peek.calls g s0_0 s0_1 s0_2 s0_3 t126 t127 t128 t129 t130 w0 _ ?side1 ?side2 A2.out).mono ?_); (case side1 => repeat ((with_reducible (exact HI0.out)))); (case side2 => repeat ((with_reducible (exact HB.out)))); rintro e w4 ⟨rfl, hi, hb, hk⟩; refine ⟨_, rfl, ?_⟩; have n0_ := Aside0.mk (KeepBut.trans (by repeat ((with_reducible (exact HK.out)))) hk (.inl rfl)); have n1_ := Aside0.mk (hb); have n2_ := Aside0.mk (hi); clear HK; clear HB; clear HI0; have HK := n0_; have HB := n1_; have HI0 := n2_; clear n0_ n1_ n2_; (try clear hb); (try clear hk); (try clear hi); obtain ⟨HGz5, hgz5⟩ := HI0.out; have hcz5_0 := cellS84_0 HGz5; have hcz5_1 := cellS84_1 HGz5; have hcz5_2 := cellS84_2 HGz5; have hcz5_3 := cellS84_3 HGz5; have hfz5_0 := blk_frozen HGz5 0; have hfz5_1 := blk_frozen HGz5 1; have hfz5_2 := blk_frozen HGz5 2; have hfz5_3 := blk_frozen HGz5 3; clear HGz5 hgz5))
 (skip)
 go_cut [16] (fun v16 wc => ∃ (kq : Nat) (x16_2 : Bool), v16 = .bool x16_2 ∧ Aside0 (R5_escape.j0 kq t126 t126 x16_2 t127 (wrap64 (t128 + 1)) t129 t130 = some (r1, r2, r3, r4, r5)) ∧ Aside0 (kq ≤ k) ∧ Aside0 (IsS84 w0 wc g t127 (wrap64 (t128 + 1)) t129 t130) ∧ Aside0 (KeepBut w wc g none) ∧ Aside0 (Below w0.heap.size w0 wc))
 case first =>
  by_cases c6 : t126 = 34
  · rw [if_pos c6] at H
    have c6b0 : (t126 == 34) = true := beq_iff_eq.mpr c6
    have c6b1 : (t126 != 34) = false := bne_eq_false_iff_eq.mpr c6
    clear c6
    (rw [c6b0])
    have H' := Aside0.mk H
    go_wp2
    go_meet
    case rel => exact ⟨_, ((t126 == 34)), (by (simp [*]; done)), H', ⟨by (omega)⟩, ⟨by repeat ((with_reducible first | exact HI0.out | apply IsS84.set_1 ))⟩, ⟨by repeat ((with_reducible first | exact HK.out | apply KeepBut.set_ ))⟩, ⟨by repeat ((with_reducible first | exact HB.out | refine below_set ?_ (IsS84.ge HI0.out)))⟩⟩
  rw [if_neg c6] at H
  have c6b0 : (t126 == 34) = false := beq_eq_false_iff_ne.mpr c6
  have c6b1 : (t126 != 34) = true := bne_iff_ne.mpr c6
  (rw [c6b0])
  by_cases c7 : t126 = 92
  · rw [if_pos c7] at H
    have c7b0 : (t126 == 92) = true := beq_iff_eq.mpr c7
    have c7b1 : (t126 != 92) = false := bne_eq_false_iff_eq.mpr c7
    clear c7
    have H' := Aside0.mk H
    go_wp2
    go_meet
    case rel => exact ⟨_, ((t126 == 92)), (by (simp [*]; done)), H', ⟨by (omega)⟩, ⟨by repeat ((with_reducible first | exact HI0.out | apply IsS84.set_1 ))⟩, ⟨by repeat ((with_reducible first | exact HK.out | apply KeepBut.set_ ))⟩, ⟨by repeat ((with_reducible first | exact HB.out | refine below_set ?_ (IsS84.ge HI0.out)))⟩⟩
  rw [if_neg c7] at H
  have H' := Aside0.mk H
  go_wp2
  go_meet
  case rel => exact ⟨_, ((t126 == 47)), (by (rfl)), H', ⟨by (omega)⟩, ⟨by repeat ((with_reducible first | exact HI0.out | apply IsS84.set_1 ))⟩, ⟨by repeat ((with_reducible first | exact HK.out | apply KeepBut.set_ ))⟩, ⟨by repeat ((with_reducible first | exact HB.out | refine below_set ?_ (IsS84.ge HI0.out)))⟩⟩
 case rest =>
  obtain ⟨kq, x16_2, rfl, HA, HJ2, HI0, HK, HB⟩ := hcut
  cases kq with
  | zero => exact absurd HA.out (by simp [R5_escape.j0])
  | succ kj2 =>
   have H := HA.out
   clear HA
   simp only [R5_escape.j0] at H
   by_cases c8 : x16_2 = true
   · subst c8
     have H1 : (some (strOfNums (([t126] : List Int)), t127, (wrap64 (t128 + 1)), t129, t130)) = some (r1, r2, r3, r4, r5) := by rw [if_pos rfl] at H; exact H
     have H := H1
     obtain ⟨y131, hy131⟩ : ∃ y_ : List Int, y_ = (([t126] : List Int)) := ⟨_, rfl⟩
     replace H : (some (strOfNums y131, t127, (wrap64 (t128 + 1)), t129, t130)) = some (r1, r2, r3, r4, r5) := by (rw [hy131]; with_reducible exact H)
     have Ny131 := Aside0.mk hy131
     clear hy131
     obtain ⟨rfl, rfl, rfl, rfl, rfl⟩ := H
     go_wp2_with (((with_reducible refine gate_dst (N := 21) rfl ?_); refine Kd.R_lit (Kd.int .u8) _ 5 ?hg (N := 21) ?hd (xs := ([t126] : List Int)) (inner := [.int .u8 t126]) (ok := fun _ => True) (okp := fun _ => True) ?hr ?hp (fun _ hk => hk) trivial (Below.refl _ _) (Nat.le_refl _) (by simp) ?_; (case hd => rfl); (case hg => rfl); (case hr => (go_simp; done)); (case hp => exact (Reps.one (show Kd.M (Kd.int .u8) _ _ _ t126 [.int .u8 t126] from rfl) (Reps.none _ _))); intro v132 w9 ho10 hb hg_ hnew_; clear hg_ hnew_; (rw [← Ny131.out] at ho10); have n0_ := Aside0.mk (Kd.R_lower ho10 (keep_size (w := w) (g := g) (row := none) (by repeat ((with_reducible (exact HK.out)))))); have n1_ := Aside0.mk (IsS84.below (by repeat ((with_reducible (exact HI0.out)))) hb); have n2_ := Aside0.mk (KeepBut.trans (by repeat ((with_reducible (exact HK.out)))) (KeepBut.of_below hb g none) (.inl rfl)); have n3_ := Aside0.mk (below_step (by repeat ((with_reducible (exact HB.out)))) hb); clear HI0; clear HK; clear HB; have HO133 := n0_; have HI0 := n1_; have HK := n2_; have HB := n3_; clear n0_ n1_ n2_ n3_; clear hb ho10; have hcv11 := own_string (P := Tryz.prog) Tryz.underlying38 Tryz.underlying5 Tryz.underlying9 (Kd.own_of_R HO133.out)))
     go_ret
     exact ⟨by (rfl), by repeat ((with_reducible (exact HI0.out))), by repeat ((with_reducible (exact HB.out))), by repeat ((with_reducible (exact HK.out)))⟩
   replace c8 := Bool.eq_false_iff.mpr c8
   subst c8
   have H1 : (if t126 = 98 then (some ((⟨#[8]⟩ : ByteArray), t127, (wrap64 (t128 + 1)), t129, t130)) else (if t126 = 102 then (some ((⟨#[12]⟩ : ByteArray), t127, (wrap64 (t128 + 1)), t129, t130)) else (if t126 = 110 then (some ((⟨#[10]⟩ : ByteArray), t127, (wrap64 (t128 + 1)), t129, t130)) else (if t126 = 114 then (some ((⟨#[13]⟩ : ByteArray), t127, (wrap64 (t128 + 1)), t129, t130)) else (if t126 = 116 then (some ((⟨#[9]⟩ : ByteArray), t127, (wrap64 (t128 + 1)), t129, t130)) else (if t126 = 117 then ((R5_four.f kj2 t127 (wrap64 (t128 + 1)) t129 t130).bind fun bt134 => (if bt134.1 < 55296 then (R5_escape.j1 kj2 bt134.1 true bt134.2.1 bt134.2.2.1 bt134.2.2.2.1 bt134.2.2.2.2) else (R5_escape.j1 kj2 bt134.1 (decide (bt134.1 > 57343)) bt134.2.1 bt134.2.2.1 bt134.2.2.2.1 bt134.2.2.2.2))) else ((R5_fail.f t127 (wrap64 (t128 + 1)) t129 t130 11).bind fun bt168 => (some ((⟨#[]⟩ : ByteArray), bt168.1, bt168.2.1, bt168.2.2.1, bt168.2.2.2))))))))) = some (r1, r2, r3, r4, r5) := by rw [if_neg (show ¬ (false = true) by decide)] at H; exact H
   by_cases c12 : t126 = 98
   · rw [if_pos c12] at H
     have c12b0 : (t126 == 98) = true := beq_iff_eq.mpr c12
     have c12b1 : (t126 != 98) = false := bne_eq_false_iff_eq.mpr c12
     obtain ⟨rfl, rfl, rfl, rfl, rfl⟩ := H
     go_wp2
     go_ret
     exact ⟨by (rfl), by repeat ((with_reducible (exact HI0.out))), by repeat ((with_reducible (exact HB.out))), by repeat ((with_reducible (exact HK.out)))⟩
   rw [if_neg c12] at H
   have c12b0 : (t126 == 98) = false := beq_eq_false_iff_ne.mpr c12
   have c12b1 : (t126 != 98) = true := bne_iff_ne.mpr c12
   by_cases c13 : t126 = 102
   · rw [if_pos c13] at H
     have c13b0 : (t126 == 102) = true := beq_iff_eq.mpr c13
     have c13b1 : (t126 != 102) = false := bne_eq_false_iff_eq.mpr c13
     obtain ⟨rfl, rfl, rfl, rfl, rfl⟩ := H
     go_wp2
     go_ret
     exact ⟨by (rfl), by repeat ((with_reducible (exact HI0.out))), by repeat ((with_reducible (exact HB.out))), by repeat ((with_reducible (exact HK.out)))⟩
   rw [if_neg c13] at H
   have c13b0 : (t126 == 102) = false := beq_eq_false_iff_ne.mpr c13
   have c13b1 : (t126 != 102) = true := bne_iff_ne.mpr c13
   by_cases c14 : t126 = 110
   · rw [if_pos c14] at H
     have c14b0 : (t126 == 110) = true := beq_iff_eq.mpr c14
     have c14b1 : (t126 != 110) = false := bne_eq_false_iff_eq.mpr c14
     obtain ⟨rfl, rfl, rfl, rfl, rfl⟩ := H
     go_wp2
     go_ret
     exact ⟨by (rfl), by repeat ((with_reducible (exact HI0.out))), by repeat ((with_reducible (exact HB.out))), by repeat ((with_reducible (exact HK.out)))⟩
   rw [if_neg c14] at H
   have c14b0 : (t126 == 110) = false := beq_eq_false_iff_ne.mpr c14
   have c14b1 : (t126 != 110) = true := bne_iff_ne.mpr c14
   by_cases c15 : t126 = 114
   · rw [if_pos c15] at H
     have c15b0 : (t126 == 114) = true := beq_iff_eq.mpr c15
     have c15b1 : (t126 != 114) = false := bne_eq_false_iff_eq.mpr c15
     obtain ⟨rfl, rfl, rfl, rfl, rfl⟩ := H
     go_wp2
     go_ret
     exact ⟨by (rfl), by repeat ((with_reducible (exact HI0.out))), by repeat ((with_reducible (exact HB.out))), by repeat ((with_reducible (exact HK.out)))⟩
   rw [if_neg c15] at H
   have c15b0 : (t126 == 114) = false := beq_eq_false_iff_ne.mpr c15
   have c15b1 : (t126 != 114) = true := bne_iff_ne.mpr c15
   by_cases c16 : t126 = 116
   · rw [if_pos c16] at H
     have c16b0 : (t126 == 116) = true := beq_iff_eq.mpr c16
     have c16b1 : (t126 != 116) = false := bne_eq_false_iff_eq.mpr c16
     obtain ⟨rfl, rfl, rfl, rfl, rfl⟩ := H
     go_wp2
     go_ret
     exact ⟨by (rfl), by repeat ((with_reducible (exact HI0.out))), by repeat ((with_reducible (exact HB.out))), by repeat ((with_reducible (exact HK.out)))⟩
   rw [if_neg c16] at H
   have c16b0 : (t126 == 116) = false := beq_eq_false_iff_ne.mpr c16
   have c16b1 : (t126 != 116) = true := bne_iff_ne.mpr c16
   by_cases c17 : t126 = 117
   · rw [if_pos c17] at H
     have c17b0 : (t126 == 117) = true := beq_iff_eq.mpr c17
     have c17b1 : (t126 != 117) = false := bne_eq_false_iff_eq.mpr c17
     replace H := Option.bind_eq_some_iff.mp H
     obtain ⟨⟨t134, t135, t136, t137, t138⟩, A180, H⟩ := H
     have A18 := Aside0.mk A180
     have HC19 := Aside0.mk H
     go_upto_region 20 with (((with_reducible refine gate_callee (f := 138) rfl ?_); refine goesL_ (some 36) rfl rfl Tryz.func138 (by kernel_rfl) rfl #[.pointer (some ⟨g, 0, none⟩)] rfl (by (try simp only [List.map_toArray, List.map_cons, List.map_nil]); (rfl)) ?_; (with_reducible refine (R5_four.calls kj2 g t127 (wrap64 (t128 + 1)) t129 t130 t134 t135 t136 t137 t138 w0 _ ?side1 ?side2 A18.out).mono ?_); (case side1 => repeat ((with_reducible (exact HI0.out)))); (case side2 => repeat ((with_reducible (exact HB.out)))); rintro e w20 ⟨rfl, hi, hb, hk⟩; refine ⟨_, rfl, ?_⟩; have n0_ := Aside0.mk (KeepBut.trans (by repeat ((with_reducible (exact HK.out)))) hk (.inl rfl)); have n1_ := Aside0.mk (hb); have n2_ := Aside0.mk (hi); clear HK; clear HB; clear HI0; have HK := n0_; have HB := n1_; have HI0 := n2_; clear n0_ n1_ n2_; (try clear hb); (try clear hk); (try clear hi)))
     (skip)
     go_cut [42] (fun v42 wc => ∃ (kq : Nat) (x42_18 : Bool), v42 = .bool x42_18 ∧ Aside0 (R5_escape.j1 kq t134 x42_18 t135 t136 t137 t138 = some (r1, r2, r3, r4, r5)) ∧ Aside0 (kq ≤ kj2) ∧ Aside0 (IsS84 w0 wc g t135 t136 t137 t138) ∧ Aside0 (KeepBut w wc g none) ∧ Aside0 (Below w0.heap.size w0 wc))
     case first =>
      by_cases c21 : t134 < 55296
      · rw [if_pos c21] at H
        have c21b0 : decide (t134 < 55296) = true := decide_eq_true c21
        (skip)
        have H' := Aside0.mk H
        go_wp2
        go_meet
        case rel => exact ⟨_, (true), (by (rfl)), H', ⟨by have := HJ2.out; (omega)⟩, ⟨by repeat ((with_reducible (exact HI0.out)))⟩, ⟨by repeat ((with_reducible (exact HK.out)))⟩, ⟨by repeat ((with_reducible (exact HB.out)))⟩⟩
      rw [if_neg c21] at H
      have c21b0 : decide (t134 < 55296) = false := decide_eq_false c21
      (skip)
      have H' := Aside0.mk H
      go_wp2
      go_meet
      case rel => exact ⟨_, (decide (t134 > 57343)), (by (rfl)), H', ⟨by have := HJ2.out; (omega)⟩, ⟨by repeat ((with_reducible (exact HI0.out)))⟩, ⟨by repeat ((with_reducible (exact HK.out)))⟩, ⟨by repeat ((with_reducible (exact HB.out)))⟩⟩
     case rest =>
      obtain ⟨kq, x42_18, rfl, HA, HJ18, HI0, HK, HB⟩ := hcut
      cases kq with
      | zero => exact absurd HA.out (by simp [R5_escape.j1])
      | succ kj18 =>
       have H := HA.out
       clear HA
       simp only [R5_escape.j1] at H
       by_cases c22 : x42_18 = true
       · subst c22
         have H1 : ((R5Sign.f t134).bind fun t139 => (some (t139, t135, t136, t137, t138))) = some (r1, r2, r3, r4, r5) := by rw [if_pos rfl] at H; exact H
         replace H := Option.bind_eq_some_iff.mp H
         obtain ⟨t139, A230, H⟩ := H
         have A23 := Aside0.mk A230
         simp only [Option.some.injEq, Prod.mk.injEq] at H
         obtain ⟨rfl, rfl, rfl, rfl, rfl⟩ := H
         go_wp2_with (((with_reducible refine gate_callee (f := 139) rfl ?_); refine goesL_ (some 44) rfl rfl Tryz.func139 (by kernel_rfl) rfl #[.int .i64 t134] rfl (by (try simp only [List.map_toArray, List.map_cons, List.map_nil]); (rfl)) ?_; (with_reducible refine (R5Sign.calls t134 t139 _ A23.out).mono ?_); rintro e w24 ⟨rfl, hb⟩; refine ⟨_, rfl, ?_⟩; have n0_ := Aside0.mk (IsS84.below (by repeat ((with_reducible (exact HI0.out)))) hb); have n1_ := Aside0.mk (KeepBut.trans (by repeat ((with_reducible (exact HK.out)))) (KeepBut.of_below hb g none) (.inl rfl)); have n2_ := Aside0.mk (below_step (by repeat ((with_reducible (exact HB.out)))) hb); clear HI0; clear HK; clear HB; have HI0 := n0_; have HK := n1_; have HB := n2_; clear n0_ n1_ n2_; (try clear hb)))
         go_ret
         exact ⟨by (rfl), by repeat ((with_reducible (exact HI0.out))), by repeat ((with_reducible (exact HB.out))), by repeat ((with_reducible (exact HK.out)))⟩
       replace c22 := Bool.eq_false_iff.mpr c22
       subst c22
       have H1 : (if t134 ≥ 56320 then (R5_escape.j2 kj18 t134 true t135 t136 t137 t138) else ((R5_peek.f t135 t136 t137 t138).bind fun bt140 => (R5_escape.j2 kj18 t134 (bt140.1 != 92) bt140.2.1 bt140.2.2.1 bt140.2.2.2.1 bt140.2.2.2.2))) = some (r1, r2, r3, r4, r5) := by rw [if_neg (show ¬ (false = true) by decide)] at H; exact H
       have HC25 := Aside0.mk H
       go_upto_region 22 with (fail)
       go_cut [51] (fun v51 wc => ∃ (kq : Nat) (x51_24 : Bool) (x1000_24 : ByteArray) (x1001_24 : Int) (x1002_24 : Int) (x1003_24 : Int), v51 = .bool x51_24 ∧ Aside0 (R5_escape.j2 kq t134 x51_24 x1000_24 x1001_24 x1002_24 x1003_24 = some (r1, r2, r3, r4, r5)) ∧ Aside0 (kq ≤ kj18) ∧ Aside0 (IsS84 w0 wc g x1000_24 x1001_24 x1002_24 x1003_24) ∧ Aside0 (KeepBut w wc g none) ∧ Aside0 (Below w0.heap.size w0 wc))
       case first =>
        by_cases c26 : t134 ≥ 56320
        · rw [if_pos c26] at H
          have c26b0 : decide (56320 ≤ t134) = true := decide_eq_true c26
          (skip)
          have H' := Aside0.mk H
          go_wp2
          go_meet
          case rel => exact ⟨_, (true), (t135), (t136), (t137), (t138), (by (rfl)), H', ⟨by have := HJ2.out; have := HJ18.out; (omega)⟩, ⟨by repeat ((with_reducible (exact HI0.out)))⟩, ⟨by repeat ((with_reducible (exact HK.out)))⟩, ⟨by repeat ((with_reducible (exact HB.out)))⟩⟩
        rw [if_neg c26] at H
        have c26b0 : decide (56320 ≤ t134) = false := decide_eq_false c26
        (skip)
        replace H := Option.bind_eq_some_iff.mp H
        obtain ⟨⟨t140, t141, t142, t143, t144⟩, A270, H⟩ := H
        replace H : (R5_escape.j2 kj18 t134 (t140 != 92) t141 t142 t143 t144) = some (r1, r2, r3, r4, r5) := H
        have A27 := Aside0.mk A270
        have H' := Aside0.mk H
        go_wp2_with ((go_at_call 72; (with_reducible refine (R5_peek.calls g t135 t136 t137 t138 t140 t141 t142 t143 t144 w0 _ ?side1 ?side2 A27.out).mono ?_); (case side1 => repeat ((with_reducible (exact HI0.out)))); (case side2 => repeat ((with_reducible (exact HB.out)))); rintro e w28 ⟨rfl, hi, hb, hk⟩; have n0_ := Aside0.mk (KeepBut.trans (by repeat ((with_reducible (exact HK.out)))) hk (.inl rfl)); have n1_ := Aside0.mk (hb); have n2_ := Aside0.mk (hi); clear HK; clear HB; clear HI0; have HK := n0_; have HB := n1_; have HI0 := n2_; clear n0_ n1_ n2_; (try clear hb); (try clear hk); (try clear hi)))
        go_meet
        case rel => exact ⟨_, ((t140 != 92)), (t141), (t142), (t143), (t144), (by (rfl)), H', ⟨by have := HJ2.out; have := HJ18.out; (omega)⟩, ⟨by repeat ((with_reducible (exact HI0.out)))⟩, ⟨by repeat ((with_reducible (exact HK.out)))⟩, ⟨by repeat ((with_reducible (exact HB.out)))⟩⟩
       case rest =>
        obtain ⟨kq, x51_24, x1000_24, x1001_24, x1002_24, x1003_24, rfl, HA, HJ24, HI0, HK, HB⟩ := hcut
        cases kq with
        | zero => exact absurd HA.out (by simp [R5_escape.j2])
        | succ kj24 =>
         have H := HA.out
         clear HA
         simp only [R5_escape.j2] at H
         by_cases c29 : x51_24 = true
         · subst c29
           have H1 : ((R5_fail.f x1000_24 x1001_24 x1002_24 x1003_24 11).bind fun bt145 => (some ((⟨#[]⟩ : ByteArray), bt145.1, bt145.2.1, bt145.2.2.1, bt145.2.2.2))) = some (r1, r2, r3, r4, r5) := by rw [if_pos rfl] at H; exact H
           replace H := Option.bind_eq_some_iff.mp H
           obtain ⟨⟨t145, t146, t147, t148⟩, A300, H⟩ := H
           have A30 := Aside0.mk A300
           obtain ⟨rfl, rfl, rfl, rfl, rfl⟩ := H
           go_wp2_with (((with_reducible refine gate_callee (f := 39) rfl ?_); refine goesL_ (some 53) rfl rfl Tryz.func39 (by kernel_rfl) rfl #[.pointer (some ⟨g, 0, none⟩), .int .i64 11] rfl (by (try simp only [List.map_toArray, List.map_cons, List.map_nil]); (rfl)) ?_; (with_reducible refine (R5_fail.calls g x1000_24 x1001_24 x1002_24 x1003_24 11 t145 t146 t147 t148 w0 _ ?side1 ?side2 A30.out).mono ?_); (case side1 => repeat ((with_reducible (exact HI0.out)))); (case side2 => repeat ((with_reducible (exact HB.out)))); rintro e w31 ⟨rfl, hi, hb, hk⟩; refine ⟨_, rfl, ?_⟩; have n0_ := Aside0.mk (KeepBut.trans (by repeat ((with_reducible (exact HK.out)))) hk (.inl rfl)); have n1_ := Aside0.mk (hb); have n2_ := Aside0.mk (hi); clear HK; clear HB; clear HI0; have HK := n0_; have HB := n1_; have HI0 := n2_; clear n0_ n1_ n2_; (try clear hb); (try clear hk); (try clear hi)))
           go_ret
           exact ⟨by (rfl), by repeat ((with_reducible (exact HI0.out))), by repeat ((with_reducible (exact HB.out))), by repeat ((with_reducible (exact HK.out)))⟩
         replace c29 := Bool.eq_false_iff.mpr c29
         subst c29
         have H1 : ((R5_peek.f x1000_24 (wrap64 (x1001_24 + 1)) x1002_24 x1003_24).bind fun bt149 => (if bt149.1 = 117 then ((R5_four.f kj24 bt149.2.1 (wrap64 (bt149.2.2.1 + 1)) bt149.2.2.2.1 bt149.2.2.2.2).bind fun bt158 => (if bt158.1 < 56320 then (R5_escape.j3 kj24 t134 bt158.1 true bt158.2.1 bt158.2.2.1 bt158.2.2.2.1 bt158.2.2.2.2) else (R5_escape.j3 kj24 t134 bt158.1 (decide (bt158.1 > 57343)) bt158.2.1 bt158.2.2.1 bt158.2.2.2.1 bt158.2.2.2.2))) else ((R5_fail.f bt149.2.1 bt149.2.2.1 bt149.2.2.2.1 bt149.2.2.2.2 11).bind fun bt154 => (some ((⟨#[]⟩ : ByteArray), bt154.1, bt154.2.1, bt154.2.2.1, bt154.2.2.2))))) = some (r1, r2, r3, r4, r5) := by rw [if_neg (show ¬ (false = true) by decide)] at H; exact H
         replace H := Option.bind_eq_some_iff.mp H
         obtain ⟨⟨t149, t150, t151, t152, t153⟩, A320, H⟩ := H
         have A32 := Aside0.mk A320
         by_cases c33 : t149 = 117
         · rw [if_pos c33] at H
           have c33b0 : (t149 == 117) = true := beq_iff_eq.mpr c33
           have c33b1 : (t149 != 117) = false := bne_eq_false_iff_eq.mpr c33
           replace H := Option.bind_eq_some_iff.mp H
           obtain ⟨⟨t158, t159, t160, t161, t162⟩, A340, H⟩ := H
           have A34 := Aside0.mk A340
           have HC35 := Aside0.mk H
           obtain ⟨HGz36, hgz36⟩ := HI0.out
           have hcz36_0 := cellS84_0 HGz36
           have hcz36_1 := cellS84_1 HGz36
           have hcz36_2 := cellS84_2 HGz36
           have hcz36_3 := cellS84_3 HGz36
           have hfz36_0 := blk_frozen HGz36 0
           have hfz36_1 := blk_frozen HGz36 1
           have hfz36_2 := blk_frozen HGz36 2
           have hfz36_3 := blk_frozen HGz36 3
           clear HGz36 hgz36
           go_upto_region 31 with (first | ((with_reducible refine gate_callee (f := 72) rfl ?_); refine goesL_ (some 62) rfl rfl Tryz.func72 (by kernel_rfl) rfl #[.pointer (some ⟨g, 0, none⟩)] rfl (by (try simp only [List.map_toArray, List.map_cons, List.map_nil]); (rfl)) ?_; (with_reducible refine (R5_peek.calls g x1000_24 (wrap64 (x1001_24 + 1)) x1002_24 x1003_24 t149 t150 t151 t152 t153 w0 _ ?side1 ?side2 A32.out).mono ?_); (case side1 => repeat ((with_reducible first | exact HI0.out | apply IsS84.set_1 ))); (case side2 => repeat ((with_reducible first | exact HB.out | refine below_set ?_ (IsS84.ge HI0.out)))); rintro e w37 ⟨rfl, hi, hb, hk⟩; refine ⟨_, rfl, ?_⟩; have n0_ := Aside0.mk (KeepBut.trans (by repeat ((with_reducible first | exact HK.out | apply KeepBut.set_ ))) hk (.inl rfl)); have n1_ := Aside0.mk (hb); have n2_ := Aside0.mk (hi); clear HK; clear HB; clear HI0; have HK := n0_; have HB := n1_; have HI0 := n2_; clear n0_ n1_ n2_; (try clear hb); (try clear hk); (try clear hi); obtain ⟨HGz38, hgz38⟩ := HI0.out; have hcz38_0 := cellS84_0 HGz38; have hcz38_1 := cellS84_1 HGz38; have hcz38_2 := cellS84_2 HGz38; have hcz38_3 := cellS84_3 HGz38; have hfz38_0 := blk_frozen HGz38 0; have hfz38_1 := blk_frozen HGz38 1; have hfz38_2 := blk_frozen HGz38 2; have hfz38_3 := blk_frozen HGz38 3; clear HGz38 hgz38) | ((with_reducible refine gate_callee (f := 138) rfl ?_); refine goesL_ (some 74) rfl rfl Tryz.func138 (by kernel_rfl) rfl #[.pointer (some ⟨g, 0, none⟩)] rfl (by (try simp only [List.map_toArray, List.map_cons, List.map_nil]); (rfl)) ?_; (with_reducible refine (R5_four.calls kj24 g t150 (wrap64 (t151 + 1)) t152 t153 t158 t159 t160 t161 t162 w0 _ ?side1 ?side2 A34.out).mono ?_); (case side1 => repeat ((with_reducible first | exact HI0.out | apply IsS84.set_1 ))); (case side2 => repeat ((with_reducible first | exact HB.out | refine below_set ?_ (IsS84.ge HI0.out)))); rintro e w39 ⟨rfl, hi, hb, hk⟩; refine ⟨_, rfl, ?_⟩; have n0_ := Aside0.mk (KeepBut.trans (by repeat ((with_reducible first | exact HK.out | apply KeepBut.set_ ))) hk (.inl rfl)); have n1_ := Aside0.mk (hb); have n2_ := Aside0.mk (hi); clear HK; clear HB; clear HI0; have HK := n0_; have HB := n1_; have HI0 := n2_; clear n0_ n1_ n2_; (try clear hb); (try clear hk); (try clear hi)))
           (skip)
           go_cut [80] (fun v80 wc => ∃ (kq : Nat) (x80_34 : Bool), v80 = .bool x80_34 ∧ Aside0 (R5_escape.j3 kq t134 t158 x80_34 t159 t160 t161 t162 = some (r1, r2, r3, r4, r5)) ∧ Aside0 (kq ≤ kj24) ∧ Aside0 (IsS84 w0 wc g t159 t160 t161 t162) ∧ Aside0 (KeepBut w wc g none) ∧ Aside0 (Below w0.heap.size w0 wc))
           case first =>
            by_cases c40 : t158 < 56320
            · rw [if_pos c40] at H
              have c40b0 : decide (t158 < 56320) = true := decide_eq_true c40
              (skip)
              have H' := Aside0.mk H
              go_wp2
              go_meet
              case rel => exact ⟨_, (true), (by (rfl)), H', ⟨by have := HJ2.out; have := HJ18.out; have := HJ24.out; (omega)⟩, ⟨by repeat ((with_reducible (exact HI0.out)))⟩, ⟨by repeat ((with_reducible (exact HK.out)))⟩, ⟨by repeat ((with_reducible (exact HB.out)))⟩⟩
            rw [if_neg c40] at H
            have c40b0 : decide (t158 < 56320) = false := decide_eq_false c40
            (skip)
            have H' := Aside0.mk H
            go_wp2
            go_meet
            case rel => exact ⟨_, (decide (t158 > 57343)), (by (rfl)), H', ⟨by have := HJ2.out; have := HJ18.out; have := HJ24.out; (omega)⟩, ⟨by repeat ((with_reducible (exact HI0.out)))⟩, ⟨by repeat ((with_reducible (exact HK.out)))⟩, ⟨by repeat ((with_reducible (exact HB.out)))⟩⟩
           case rest =>
            obtain ⟨kq, x80_34, rfl, HA, HJ34, HI0, HK, HB⟩ := hcut
            cases kq with
            | zero => exact absurd HA.out (by simp [R5_escape.j3])
            | succ kj34 =>
             have H := HA.out
             clear HA
             simp only [R5_escape.j3] at H
             by_cases c41 : x80_34 = true
             · subst c41
               have H1 : ((R5_fail.f t159 t160 t161 t162 11).bind fun bt163 => (some ((⟨#[]⟩ : ByteArray), bt163.1, bt163.2.1, bt163.2.2.1, bt163.2.2.2))) = some (r1, r2, r3, r4, r5) := by rw [if_pos rfl] at H; exact H
               replace H := Option.bind_eq_some_iff.mp H
               obtain ⟨⟨t163, t164, t165, t166⟩, A420, H⟩ := H
               have A42 := Aside0.mk A420
               obtain ⟨rfl, rfl, rfl, rfl, rfl⟩ := H
               go_wp2_with (((with_reducible refine gate_callee (f := 39) rfl ?_); refine goesL_ (some 82) rfl rfl Tryz.func39 (by kernel_rfl) rfl #[.pointer (some ⟨g, 0, none⟩), .int .i64 11] rfl (by (try simp only [List.map_toArray, List.map_cons, List.map_nil]); (rfl)) ?_; (with_reducible refine (R5_fail.calls g t159 t160 t161 t162 11 t163 t164 t165 t166 w0 _ ?side1 ?side2 A42.out).mono ?_); (case side1 => repeat ((with_reducible (exact HI0.out)))); (case side2 => repeat ((with_reducible (exact HB.out)))); rintro e w43 ⟨rfl, hi, hb, hk⟩; refine ⟨_, rfl, ?_⟩; have n0_ := Aside0.mk (KeepBut.trans (by repeat ((with_reducible (exact HK.out)))) hk (.inl rfl)); have n1_ := Aside0.mk (hb); have n2_ := Aside0.mk (hi); clear HK; clear HB; clear HI0; have HK := n0_; have HB := n1_; have HI0 := n2_; clear n0_ n1_ n2_; (try clear hb); (try clear hk); (try clear hi)))
               go_ret
               exact ⟨by (rfl), by repeat ((with_reducible (exact HI0.out))), by repeat ((with_reducible (exact HB.out))), by repeat ((with_reducible (exact HK.out)))⟩
             replace c41 := Bool.eq_false_iff.mpr c41
             subst c41
             have H1 : ((R5Sign.f (wrap64 ((wrap64 ((wrap64 (65536 + (wrap64 (1024 * (wrap64 (t134 - 55296)))))) + t158)) - 56320))).bind fun t167 => (some (t167, t159, t160, t161, t162))) = some (r1, r2, r3, r4, r5) := by rw [if_neg (show ¬ (false = true) by decide)] at H; exact H
             replace H := Option.bind_eq_some_iff.mp H
             obtain ⟨t167, A440, H⟩ := H
             have A44 := Aside0.mk A440
             simp only [Option.some.injEq, Prod.mk.injEq] at H
             obtain ⟨rfl, rfl, rfl, rfl, rfl⟩ := H
             go_wp2_with (((with_reducible refine gate_callee (f := 139) rfl ?_); refine goesL_ (some 90) rfl rfl Tryz.func139 (by kernel_rfl) rfl #[.int .i64 (wrap64 ((wrap64 ((wrap64 (65536 + (wrap64 (1024 * (wrap64 (t134 - 55296)))))) + t158)) - 56320))] rfl (by (try simp only [List.map_toArray, List.map_cons, List.map_nil]); (rfl)) ?_; (with_reducible refine (R5Sign.calls (wrap64 ((wrap64 ((wrap64 (65536 + (wrap64 (1024 * (wrap64 (t134 - 55296)))))) + t158)) - 56320)) t167 _ A44.out).mono ?_); rintro e w45 ⟨rfl, hb⟩; refine ⟨_, rfl, ?_⟩; have n0_ := Aside0.mk (IsS84.below (by repeat ((with_reducible (exact HI0.out)))) hb); have n1_ := Aside0.mk (KeepBut.trans (by repeat ((with_reducible (exact HK.out)))) (KeepBut.of_below hb g none) (.inl rfl)); have n2_ := Aside0.mk (below_step (by repeat ((with_reducible (exact HB.out)))) hb); clear HI0; clear HK; clear HB; have HI0 := n0_; have HK := n1_; have HB := n2_; clear n0_ n1_ n2_; (try clear hb)))
             go_ret
             exact ⟨by (rfl), by repeat ((with_reducible (exact HI0.out))), by repeat ((with_reducible (exact HB.out))), by repeat ((with_reducible (exact HK.out)))⟩
         rw [if_neg c33] at H
         replace H := Option.bind_eq_some_iff.mp H
         obtain ⟨⟨t154, t155, t156, t157⟩, A460, H⟩ := H
         have A46 := Aside0.mk A460
         obtain ⟨rfl, rfl, rfl, rfl, rfl⟩ := H
         obtain ⟨HGz47, hgz47⟩ := HI0.out
         have hcz47_0 := cellS84_0 HGz47
         have hcz47_1 := cellS84_1 HGz47
         have hcz47_2 := cellS84_2 HGz47
         have hcz47_3 := cellS84_3 HGz47
         have hfz47_0 := blk_frozen HGz47 0
         have hfz47_1 := blk_frozen HGz47 1
         have hfz47_2 := blk_frozen HGz47 2
         have hfz47_3 := blk_frozen HGz47 3
         clear HGz47 hgz47
         go_wp2_with (first | ((with_reducible refine gate_callee (f := 72) rfl ?_); refine goesL_ (some 62) rfl rfl Tryz.func72 (by kernel_rfl) rfl #[.pointer (some ⟨g, 0, none⟩)] rfl (by (try simp only [List.map_toArray, List.map_cons, List.map_nil]); (rfl)) ?_; (with_reducible refine (R5_peek.calls g x1000_24 (wrap64 (x1001_24 + 1)) x1002_24 x1003_24 t149 t150 t151 t152 t153 w0 _ ?side1 ?side2 A32.out).mono ?_); (case side1 => repeat ((with_reducible first | exact HI0.out | apply IsS84.set_1 ))); (case side2 => repeat ((with_reducible first | exact HB.out | refine below_set ?_ (IsS84.ge HI0.out)))); rintro e w48 ⟨rfl, hi, hb, hk⟩; refine ⟨_, rfl, ?_⟩; have n0_ := Aside0.mk (KeepBut.trans (by repeat ((with_reducible first | exact HK.out | apply KeepBut.set_ ))) hk (.inl rfl)); have n1_ := Aside0.mk (hb); have n2_ := Aside0.mk (hi); clear HK; clear HB; clear HI0; have HK := n0_; have HB := n1_; have HI0 := n2_; clear n0_ n1_ n2_; (try clear hb); (try clear hk); (try clear hi)) | ((with_reducible refine gate_callee (f := 39) rfl ?_); refine goesL_ (some 65) rfl rfl Tryz.func39 (by kernel_rfl) rfl #[.pointer (some ⟨g, 0, none⟩), .int .i64 11] rfl (by (try simp only [List.map_toArray, List.map_cons, List.map_nil]); (rfl)) ?_; (with_reducible refine (R5_fail.calls g t150 t151 t152 t153 11 t154 t155 t156 t157 w0 _ ?side1 ?side2 A46.out).mono ?_); (case side1 => repeat ((with_reducible (exact HI0.out)))); (case side2 => repeat ((with_reducible (exact HB.out)))); rintro e w49 ⟨rfl, hi, hb, hk⟩; refine ⟨_, rfl, ?_⟩; have n0_ := Aside0.mk (KeepBut.trans (by repeat ((with_reducible (exact HK.out)))) hk (.inl rfl)); have n1_ := Aside0.mk (hb); have n2_ := Aside0.mk (hi); clear HK; clear HB; clear HI0; have HK := n0_; have HB := n1_; have HI0 := n2_; clear n0_ n1_ n2_; (try clear hb); (try clear hk); (try clear hi)))
         go_ret
         exact ⟨by (rfl), by repeat ((with_reducible (exact HI0.out))), by repeat ((with_reducible (exact HB.out))), by repeat ((with_reducible (exact HK.out)))⟩
   rw [if_neg c17] at H
   replace H := Option.bind_eq_some_iff.mp H
   obtain ⟨⟨t168, t169, t170, t171⟩, A500, H⟩ := H
   have A50 := Aside0.mk A500
   obtain ⟨rfl, rfl, rfl, rfl, rfl⟩ := H
   go_wp2_with (((with_reducible refine gate_callee (f := 39) rfl ?_); refine goesL_ (some 92) rfl rfl Tryz.func39 (by kernel_rfl) rfl #[.pointer (some ⟨g, 0, none⟩), .int .i64 11] rfl (by (try simp only [List.map_toArray, List.map_cons, List.map_nil]); (rfl)) ?_; (with_reducible refine (R5_fail.calls g t127 (wrap64 (t128 + 1)) t129 t130 11 t168 t169 t170 t171 w0 _ ?side1 ?side2 A50.out).mono ?_); (case side1 => repeat ((with_reducible (exact HI0.out)))); (case side2 => repeat ((with_reducible (exact HB.out)))); rintro e w51 ⟨rfl, hi, hb, hk⟩; refine ⟨_, rfl, ?_⟩; have n0_ := Aside0.mk (KeepBut.trans (by repeat ((with_reducible (exact HK.out)))) hk (.inl rfl)); have n1_ := Aside0.mk (hb); have n2_ := Aside0.mk (hi); clear HK; clear HB; clear HI0; have HK := n0_; have HB := n1_; have HI0 := n2_; clear n0_ n1_ n2_; (try clear hb); (try clear hk); (try clear hi)))
   go_ret
   exact ⟨by (rfl), by repeat ((with_reducible (exact HI0.out))), by repeat ((with_reducible (exact HB.out))), by repeat ((with_reducible (exact HK.out)))⟩
end Go.Proofs.YtapcpndplnkfjaaGreatDoor
