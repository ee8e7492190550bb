/- Of three numbers the order is one. -/
import Derived.Test.YtbgigckmehgcpaaDoorNumB
import Derived.Test.YtbgigckmehgcpaaDoorPrx13
namespace Go.Proofs.YtbgigckmehgcpaaDoor
open Go.RowKit Go.Proofs.YtbgigckmehgcpaaDoorW.PrintWords Pr
theorem right_f2 (d : Bool) (D : List UInt8) (e : Int) (hD : D.length ≤ 9223372036854775807) : Pa.num_Right.f d (ofL D) e = some (NumP.right (d, D, e)) := by
  unfold Pa.num_Right.f NumP.right
  rw [ofL_toList]
  by_cases h0 : D = []
  · subst h0
    rw [if_pos rfl, if_pos rfl]; simp
  · rw [if_neg h0, if_neg h0, run_f D (by omega)]
    simp only [Option.bind_some, ofL_toList]
    cases hR : D.dropWhile NumP.isD with
    | cons x y =>
      rw [if_neg (by simp)]
      have : D.all NumP.isD = false := by rw [all_drop, hR]; rfl
      rw [this]; simp
    | nil =>
      have hall : D.all NumP.isD = true := by rw [all_drop, hR]; rfl
      have htw : D.takeWhile NumP.isD = D := by
        have := List.takeWhile_append_dropWhile (p := NumP.isD) (l := D)
        rw [hR, List.append_nil] at this; exact this
      have hpos : 0 < D.length := by cases D with | nil => exact absurd rfl h0 | cons _ _ => simp
      have hw : wrap64 ((D.length : Int) - 1) = ((D.length - 1 : Nat) : Int) := by unfold wrap64; omega
      rw [if_pos rfl, htw, ofL_size, if_pos (by omega), hw]
      have hb0 : bt (ofL D) 0 = ((D[0]'hpos).toNat : Int) := bt_ofL D 0 hpos
      have hb1 := bt_ofL D (D.length - 1) (by omega)
      have q0 : D.head? = some D[0] := by cases D with | nil => exact absurd rfl h0 | cons _ _ => rfl
      have q1 : D.getLast? = some (D[D.length - 1]'(by omega)) := by rw [List.getLast?_eq_getElem?]; exact List.getElem?_eq_getElem _
      rw [hall, q0, q1, hb0, hb1]
      have h48 : (48 : Int) = ((48 : UInt8).toNat : Int) := rfl
      rw [h48]
      by_cases e0 : D[0] = 48
      · rw [if_pos ((head_byte _ _).2 e0), e0]; simp
      · rw [if_neg (fun z => e0 ((head_byte _ _).1 z)), if_pos (by omega), if_pos (by omega)]
        by_cases e1 : D[D.length - 1]'(by omega) = 48
        · rw [if_pos ((head_byte _ _).2 e1), e1]; simp
        · rw [if_neg (fun z => e1 ((head_byte _ _).1 z))]
          by_cases e2 : (D.length : Int) ≤ 40
          · rw [if_pos e2]
            by_cases e3 : e ≥ -999
            · rw [if_pos e3]
              have : decide (D.length ≤ 40) = true := by simp; omega
              simp [e0, e1, this, show -999 ≤ e from e3]
            · rw [if_neg e3]
              have : ¬ (-999 ≤ e) := e3
              simp [this]
          · rw [if_neg e2]
            have : ¬ D.length ≤ 40 := by omega
            simp [this]
theorem cmpI_anti (a b : Int) : cmpI a b = - cmpI b a := by unfold cmpI; (repeat' split) <;> omega
theorem cmpI_vals (a b : Int) : (a < b ∧ cmpI a b = -1) ∨ (a = b ∧ cmpI a b = 0) ∨ (a > b ∧ cmpI a b = 1) := by unfold cmpI; (repeat' split) <;> omega
theorem cmpB_anti : ∀ a b : List UInt8, Lib.compareBytes a b = - Lib.compareBytes b a
  | [], [] => rfl
  | [], _ :: _ => rfl
  | _ :: _, [] => rfl
  | x :: a, y :: b => by
    simp only [Lib.compareBytes]
    by_cases h : x < y
    · have h2 : ¬ y < x := by rw [UInt8.lt_iff_toNat_lt] at *; omega
      simp [h, h2]
    · by_cases h2 : y < x
      · simp [h, h2]
      · simp only [h, h2, if_false]; exact cmpB_anti a b
theorem cmpB_zero : ∀ a b : List UInt8, Lib.compareBytes a b = 0 → a = b
  | [], [], _ => rfl
  | [], _ :: _, h => by simp [Lib.compareBytes] at h
  | _ :: _, [], h => by simp [Lib.compareBytes] at h
  | x :: a, y :: b, h => by
    simp only [Lib.compareBytes] at h
    by_cases h1 : x < y
    · simp [h1] at h
    · by_cases h2 : y < x
      · simp [h1, h2] at h
      · simp only [h1, h2, if_false] at h
        have : x = y := by rw [← UInt8.toNat_inj]; rw [UInt8.lt_iff_toNat_lt] at *; omega
        rw [this, cmpB_zero a b h]
theorem cmpB_trans : ∀ a b c : List UInt8, Lib.compareBytes a b ≤ 0 → Lib.compareBytes b c ≤ 0 → Lib.compareBytes a c ≤ 0
  | [], _, [], _, _ => by simp [Lib.compareBytes]
  | [], _, _ :: _, _, _ => by simp [Lib.compareBytes]
  | _ :: _, [], _, h, _ => by simp [Lib.compareBytes] at h
  | _ :: _, _ :: _, [], _, h => by simp [Lib.compareBytes] at h
  | x :: a, y :: b, z :: c, h1, h2 => by
    simp only [Lib.compareBytes] at *
    by_cases p : x < y
    · by_cases q : y < z
      · have : x < z := by rw [UInt8.lt_iff_toNat_lt] at *; omega
        simp [this]
      · by_cases q2 : z < y
        · simp [q, q2] at h2
        · have : x < z := by rw [UInt8.lt_iff_toNat_lt] at *; omega
          simp [this]
    · by_cases p2 : y < x
      · simp [p, p2] at h1
      · have exy : x = y := by rw [← UInt8.toNat_inj]; rw [UInt8.lt_iff_toNat_lt] at *; omega
        subst exy
        simp only [p, if_false] at h1
        by_cases q : x < z
        · simp [q]
        · by_cases q2 : z < x
          · simp [q, q2] at h2
          · simp only [q, q2, if_false] at h2 ⊢
            exact cmpB_trans a b c h1 h2
theorem cmpA_anti (a b : NumP.NumV) : cmpA a b = - cmpA b a := by
  unfold cmpA
  have h := cmpI_anti ((a.2.1.length : Int) + a.2.2) ((b.2.1.length : Int) + b.2.2)
  have h2 := cmpB_anti a.2.1 b.2.1
  split <;> split <;> omega
theorem cmpA_trans (a b c : NumP.NumV) (h1 : cmpA a b ≤ 0) (h2 : cmpA b c ≤ 0) : cmpA a c ≤ 0 := by
  unfold cmpA at *
  have t := cmpB_trans a.2.1 b.2.1 c.2.1
  generalize (a.2.1.length : Int) + a.2.2 = x at *
  generalize (b.2.1.length : Int) + b.2.2 = y at *
  generalize (c.2.1.length : Int) + c.2.2 = z at *
  rcases cmpI_vals x y with ⟨p, q⟩ | ⟨p, q⟩ | ⟨p, q⟩ <;> rcases cmpI_vals y z with ⟨p', q'⟩ | ⟨p', q'⟩ | ⟨p', q'⟩ <;> rcases cmpI_vals x z with ⟨p'', q''⟩ | ⟨p'', q''⟩ | ⟨p'', q''⟩ <;> rw [q] at h1 <;> rw [q'] at h2 <;> rw [q''] <;> simp at h1 h2 ⊢ <;> first | omega | exact t h1 h2
theorem side_vals (a : NumP.NumV) : (sideP a = 0 ∧ a.2.1 = []) ∨ (sideP a = -1 ∧ a.2.1 ≠ [] ∧ a.1 = true) ∨ (sideP a = 1 ∧ a.2.1 ≠ [] ∧ a.1 = false) := by
  unfold sideP
  by_cases h : a.2.1 = []
  · left; exact ⟨if_pos h, h⟩
  · right; rw [if_neg h]
    cases a.1 with
    | true => left; exact ⟨rfl, h, rfl⟩
    | false => right; exact ⟨rfl, h, rfl⟩
/-- how two stand, by their sides -/
theorem cmpP_cases (a b : NumP.NumV) : cmpP a b = if sideP a < sideP b then -1 else if sideP a > sideP b then 1 else sideP a * cmpA a b := by
  unfold cmpP
  rcases cmpI_vals (sideP a) (sideP b) with ⟨p, q⟩ | ⟨p, q⟩ | ⟨p, q⟩
  · rw [q, if_pos (.inl (by omega)), if_pos p]
  · rw [q]
    by_cases h : sideP a = 0
    · rw [if_pos (.inr h), if_neg (by omega), if_neg (by omega), h]; omega
    · rw [if_neg (by rintro (z | z); exact z rfl; exact h z), if_neg (by omega), if_neg (by omega)]
  · rw [q, if_pos (.inl (by omega)), if_neg (by omega), if_pos p]
theorem cmpP_anti (a b : NumP.NumV) : cmpP a b = - cmpP b a := by
  rw [cmpP_cases, cmpP_cases, cmpA_anti a b]
  rcases side_vals a with ⟨h, -⟩ | ⟨h, -⟩ | ⟨h, -⟩ <;> rcases side_vals b with ⟨h', -⟩ | ⟨h', -⟩ | ⟨h', -⟩ <;> rw [h, h'] <;> simp
theorem cmpP_trans (a b c : NumP.NumV) (h1 : cmpP a b ≤ 0) (h2 : cmpP b c ≤ 0) : cmpP a c ≤ 0 := by
  rw [cmpP_cases] at *
  have t := cmpA_trans a b c
  have t' := cmpA_trans c b a
  have a1 := cmpA_anti a b
  have a2 := cmpA_anti b c
  have a3 := cmpA_anti a c
  rcases side_vals a with ⟨h, -⟩ | ⟨h, -⟩ | ⟨h, -⟩ <;> rcases side_vals b with ⟨h', -⟩ | ⟨h', -⟩ | ⟨h', -⟩ <;> rcases side_vals c with ⟨h'', -⟩ | ⟨h'', -⟩ | ⟨h'', -⟩ <;> rw [h, h'] at h1 <;> rw [h', h''] at h2 <;> rw [h, h''] <;> simp at h1 h2 ⊢ <;> first | omega | exact t h1 h2 | (have := t' (by omega) (by omega); omega)
theorem cmpP_zero (a b : NumP.NumV) (ha : NumP.right a = true) (hb : NumP.right b = true) (h : cmpP a b = 0) : a = b := by
  rw [cmpP_cases] at h
  obtain ⟨ad, aD, ae⟩ := a
  obtain ⟨bd, bD, be⟩ := b
  have z : ∀ d e, NumP.right (d, [], e) = true → d = false ∧ e = 0 := fun d e hr => by
    unfold NumP.right at hr; rw [if_pos rfl] at hr
    simpa using hr
  have fin : ∀ s : Int, s ≠ 0 → s * cmpA (ad, aD, ae) (bd, bD, be) = 0 → aD = bD ∧ ae = be := fun s hs hm => by
    have hc : cmpA (ad, aD, ae) (bd, bD, be) = 0 := by rcases Int.mul_eq_zero.1 hm with q | q; exact absurd q hs; exact q
    unfold cmpA at hc
    simp only at hc
    rcases cmpI_vals ((aD.length : Int) + ae) ((bD.length : Int) + be) with ⟨p, q⟩ | ⟨p, q⟩ | ⟨p, q⟩
    · rw [q] at hc; simp at hc
    · rw [q, if_pos rfl] at hc
      have e := cmpB_zero _ _ hc
      subst e; exact ⟨rfl, by omega⟩
    · rw [q] at hc; simp at hc
  rcases side_vals (ad, aD, ae) with ⟨s, u⟩ | ⟨s, u, v⟩ | ⟨s, u, v⟩ <;> rcases side_vals (bd, bD, be) with ⟨s', u'⟩ | ⟨s', u', v'⟩ | ⟨s', u', v'⟩ <;> rw [s, s'] at h
  · simp only at u u'; subst u; subst u'
    obtain ⟨r1, r2⟩ := z _ _ ha
    obtain ⟨r3, r4⟩ := z _ _ hb
    rw [r1, r2, r3, r4]
  · simp at h
  · simp at h
  · simp at h
  · rw [if_neg (by omega), if_neg (by omega)] at h
    obtain ⟨r1, r2⟩ := fin (-1) (by omega) h
    simp only at v v'; rw [r1, r2, v, v']
  · simp at h
  · simp at h
  · simp at h
  · rw [if_neg (by omega), if_neg (by omega)] at h
    obtain ⟨r1, r2⟩ := fin 1 (by omega) h
    simp only at v v'; rw [r1, r2, v, v']
theorem cmpP_flip (a b : NumP.NumV) (ha : a.2.1 ≠ []) (hb : b.2.1 ≠ []) : cmpP (!a.1, a.2.1, a.2.2) (!b.1, b.2.1, b.2.2) = - cmpP a b := by
  have hA : cmpA (!a.1, a.2.1, a.2.2) (!b.1, b.2.1, b.2.2) = cmpA a b := rfl
  have fl : ∀ n : NumP.NumV, n.2.1 ≠ [] → sideP (!n.1, n.2.1, n.2.2) = - sideP n := fun n hn => by
    unfold sideP
    simp only [if_neg hn]
    cases n.1 <;> simp
  rw [cmpP_cases, cmpP_cases, hA, fl a ha, fl b hb]
  rcases side_vals a with ⟨h, -⟩ | ⟨h, -⟩ | ⟨h, -⟩ <;> rcases side_vals b with ⟨h', -⟩ | ⟨h', -⟩ | ⟨h', -⟩ <;> rw [h, h'] <;> simp
theorem cmpP_bd (a b : NumP.NumV) : -1 ≤ cmpP a b ∧ cmpP a b ≤ 1 := by
  have := cmpA_bd a b
  rw [cmpP_cases]
  rcases side_vals a with ⟨h, -⟩ | ⟨h, -⟩ | ⟨h, -⟩ <;> rcases side_vals b with ⟨h', -⟩ | ⟨h', -⟩ | ⟨h', -⟩ <;> rw [h, h'] <;> simp <;> omega
theorem pick {α : Type} (f : Bool → α) (x y z : Int) (h1 : x ≤ 0 → y ≤ 0 → z ≤ 0) (h2 : 0 ≤ x → 0 ≤ y → 0 ≤ z) :
    (if x ≤ 0 then (if y ≤ 0 then (if z > 0 then (f true) else (if x ≥ 0 then (if y ≥ 0 then (f (decide (z < 0))) else (f false)) else (f false))) else (if x ≥ 0 then (if y ≥ 0 then (f (decide (z < 0))) else (f false)) else (f false))) else (if x ≥ 0 then (if y ≥ 0 then (f (decide (z < 0))) else (f false)) else (f false))) = f false := by
  have key : (if x ≥ 0 then (if y ≥ 0 then (f (decide (z < 0))) else (f false)) else (f false)) = f false := by
    by_cases a : x ≥ 0
    · rw [if_pos a]
      by_cases b : y ≥ 0
      · rw [if_pos b, decide_eq_false (by have := h2 a b; omega)]
      · rw [if_neg b]
    · rw [if_neg a]
  rw [key]
  by_cases a : x ≤ 0
  · rw [if_pos a]
    by_cases b : y ≤ 0
    · rw [if_pos b, if_neg (by have := h1 a b; omega)]
    · rw [if_neg b]
  · rw [if_neg a]
def ordC (d1 : Bool) (D1 : List UInt8) (e1 : Int) (d2 : Bool) (D2 : List UInt8) (e2 : Int) (k : Nat) (t209 t210 t211 t212 : Int) : Option Bool :=
  (if t209 = (wrap64 (-t212)) then (if ((t209 == 0) != (d1 == d2 && ((ofL D1).toList == (ofL D2).toList && (e1 == e2)))) = true then (rubricatorlaw14_NumOrders.j1 k t209 true d1 (ofL D1) e1 d2 (ofL D2) e2) else (if t209 ≤ 0 then (if t210 ≤ 0 then (if t211 > 0 then (rubricatorlaw14_NumOrders.j1 k t209 true d1 (ofL D1) e1 d2 (ofL D2) e2) else (if t209 ≥ 0 then (if t210 ≥ 0 then (rubricatorlaw14_NumOrders.j1 k t209 (decide (t211 < 0)) d1 (ofL D1) e1 d2 (ofL D2) e2) else (rubricatorlaw14_NumOrders.j1 k t209 false d1 (ofL D1) e1 d2 (ofL D2) e2)) else (rubricatorlaw14_NumOrders.j1 k t209 false d1 (ofL D1) e1 d2 (ofL D2) e2))) else (if t209 ≥ 0 then (if t210 ≥ 0 then (rubricatorlaw14_NumOrders.j1 k t209 (decide (t211 < 0)) d1 (ofL D1) e1 d2 (ofL D2) e2) else (rubricatorlaw14_NumOrders.j1 k t209 false d1 (ofL D1) e1 d2 (ofL D2) e2)) else (rubricatorlaw14_NumOrders.j1 k t209 false d1 (ofL D1) e1 d2 (ofL D2) e2))) else (if t209 ≥ 0 then (if t210 ≥ 0 then (rubricatorlaw14_NumOrders.j1 k t209 (decide (t211 < 0)) d1 (ofL D1) e1 d2 (ofL D2) e2) else (rubricatorlaw14_NumOrders.j1 k t209 false d1 (ofL D1) e1 d2 (ofL D2) e2)) else (rubricatorlaw14_NumOrders.j1 k t209 false d1 (ofL D1) e1 d2 (ofL D2) e2)))) else (rubricatorlaw14_NumOrders.j1 k t209 true d1 (ofL D1) e1 d2 (ofL D2) e2))
theorem NumOrders (d1 : Bool) (b1 : ByteArray) (e1 : Int) (d2 : Bool) (b2 : ByteArray) (e2 : Int) (d3 : Bool) (b3 : ByteArray) (e3 : Int) (s1 : b1.size ≤ 9223372036854775807) (s2 : b2.size ≤ 9223372036854775807) (s3 : b3.size ≤ 9223372036854775807) :
    ∃ k, rubricatorlaw14_NumOrders.f k d1 b1 e1 d2 b2 e2 d3 b3 e3 = some true := by
  have sz : ∀ b : ByteArray, b.data.toList.length = b.size := fun b => by show b.data.toList.length = b.data.size; exact Array.length_toList
  rw [← sz] at s1 s2 s3
  rw [← ofL_of b1, ← ofL_of b2, ← ofL_of b3]
  generalize b1.data.toList = D1 at *
  generalize b2.data.toList = D2 at *
  generalize b3.data.toList = D3 at *
  have r1 : num_Right.f d1 (ofL D1) e1 = some (NumP.right (d1, D1, e1)) := right_f2 d1 D1 e1 s1
  have r2 : num_Right.f d2 (ofL D2) e2 = some (NumP.right (d2, D2, e2)) := right_f2 d2 D2 e2 s2
  have r3 : num_Right.f d3 (ofL D3) e3 = some (NumP.right (d3, D3, e3)) := right_f2 d3 D3 e3 s3
  apply Ev.rounds
  have skip : Ev (fun k => rubricatorlaw14_NumOrders.j0 k true d1 (ofL D1) e1 d2 (ofL D2) e2 d3 (ofL D3) e3) true := Ev.step (f := fun _ => some true) (fun k => by simp only [rubricatorlaw14_NumOrders.j0, if_true]) (Ev.now _)
  cases h1 : NumP.right (d1, D1, e1) with
  | false =>
    refine Ev.congr (fun k => ?_) skip
    unfold rubricatorlaw14_NumOrders.f rubricatorlaw14_awake.f
    simp only [Option.bind_some, if_true]; rw [r1, h1]; rfl
  | true =>
  cases h2 : NumP.right (d2, D2, e2) with
  | false =>
    refine Ev.congr (fun k => ?_) skip
    unfold rubricatorlaw14_NumOrders.f rubricatorlaw14_awake.f
    simp only [Option.bind_some, if_true]; rw [r1, h1]; simp only [Option.bind_some, if_true]; rw [r2, h2]; rfl
  | true =>
  cases h3 : NumP.right (d3, D3, e3) with
  | false =>
    refine Ev.congr (fun k => ?_) skip
    unfold rubricatorlaw14_NumOrders.f rubricatorlaw14_awake.f
    simp only [Option.bind_some, if_true]; rw [r1, h1]; simp only [Option.bind_some, if_true]; rw [r2, h2]; simp only [Option.bind_some, if_true]; rw [r3, h3]; rfl
  | true =>
    refine Ev.congr (f := fun k => rubricatorlaw14_NumOrders.j0 k false d1 (ofL D1) e1 d2 (ofL D2) e2 d3 (ofL D3) e3) (fun k => ?_) ?_
    · unfold rubricatorlaw14_NumOrders.f rubricatorlaw14_awake.f
      simp only [Option.bind_some, if_true]; rw [r1, h1]; simp only [Option.bind_some, if_true]; rw [r2, h2]; simp only [Option.bind_some, if_true]; rw [r3, h3]; rfl
    obtain ⟨p1, p2, p3⟩ := right_bd' h1
    obtain ⟨q1, q2, q3⟩ := right_bd' h2
    obtain ⟨t1, t2, t3⟩ := right_bd' h3
    have c12 := compare_ev (d1, D1, e1) (d2, D2, e2) (by simp only; omega) (by simp only; omega)
    have c23 := compare_ev (d2, D2, e2) (d3, D3, e3) (by simp only; omega) (by simp only; omega)
    have c13 := compare_ev (d1, D1, e1) (d3, D3, e3) (by simp only; omega) (by simp only; omega)
    have c21 := compare_ev (d2, D2, e2) (d1, D1, e1) (by simp only; omega) (by simp only; omega)
    have cfl := compare_ev (!d1, D1, e1) (!d2, D2, e2) (by simp only; omega) (by simp only; omega)
    have hx := cmpP_bd (d1, D1, e1) (d2, D2, e2)
    have ha := cmpP_anti (d1, D1, e1) (d2, D2, e2)
    have hz : (cmpP (d1, D1, e1) (d2, D2, e2) == 0) = (d1 == d2 && (D1 == D2 && (e1 == e2))) := by
      rw [Bool.eq_iff_iff]
      simp only [beq_iff_eq, Bool.and_eq_true]
      constructor
      · intro z
        have := cmpP_zero _ _ h1 h2 z
        simpa using this
      · rintro ⟨rfl, rfl, rfl⟩; exact cmpP_self _
    have hle := cmpP_trans (d1, D1, e1) (d2, D2, e2) (d3, D3, e3)
    have hge : 0 ≤ cmpP (d1, D1, e1) (d2, D2, e2) → 0 ≤ cmpP (d2, D2, e2) (d3, D3, e3) → 0 ≤ cmpP (d1, D1, e1) (d3, D3, e3) := fun u v => by
      have w1 := cmpP_anti (d2, D2, e2) (d3, D3, e3)
      have w2 := cmpP_anti (d1, D1, e1) (d3, D3, e3)
      have := cmpP_trans (d3, D3, e3) (d2, D2, e2) (d1, D1, e1) (by omega) (by omega)
      omega
    have hfl := cmpP_flip (d1, D1, e1) (d2, D2, e2)
    generalize cmpP (d1, D1, e1) (d2, D2, e2) = x at *
    generalize cmpP (d2, D2, e2) (d3, D3, e3) = y at *
    generalize cmpP (d1, D1, e1) (d3, D3, e3) = z at *
    generalize cmpP (d2, D2, e2) (d1, D1, e1) = w at *
    refine Ev.step (f := fun k => (num_Compare.f k d1 (ofL D1) e1 d2 (ofL D2) e2).bind fun t209 => ((num_Compare.f k d2 (ofL D2) e2 d3 (ofL D3) e3).bind fun t210 => ((num_Compare.f k d1 (ofL D1) e1 d3 (ofL D3) e3).bind fun t211 => ((num_Compare.f k d2 (ofL D2) e2 d1 (ofL D1) e1).bind fun t212 => ordC d1 D1 e1 d2 D2 e2 k t209 t210 t211 t212)))) (fun k => ?_) ?_
    · simp only [rubricatorlaw14_NumOrders.j0, ordC]; rw [if_neg (by simp)]
    · refine Ev.bind c12 (Ev.bind c23 (Ev.bind c13 (Ev.bind c21 ?_)))
      refine Ev.congr (f := fun k => rubricatorlaw14_NumOrders.j1 k x false d1 (ofL D1) e1 d2 (ofL D2) e2) (fun k => ?_) ?_
      · unfold ordC
        rw [if_pos (by rw [ha]; unfold wrap64; omega), ofL_toList, ofL_toList, hz, if_neg (by simp)]
        exact pick (fun b => rubricatorlaw14_NumOrders.j1 k x b d1 (ofL D1) e1 d2 (ofL D2) e2) x y z hle hge
      · by_cases hD1 : D1 = []
        · refine Ev.step (f := fun _ => some true) (fun k => ?_) (Ev.now _)
          simp only [rubricatorlaw14_NumOrders.j1, ofL_toList]; rw [if_neg (by simp), if_pos hD1]
        · by_cases hD2 : D2 = []
          · refine Ev.step (f := fun _ => some true) (fun k => ?_) (Ev.now _)
            simp only [rubricatorlaw14_NumOrders.j1, ofL_toList]; rw [if_neg (by simp), if_neg hD1, if_pos hD2]
          · rw [hfl hD1 hD2] at cfl
            refine Ev.step (f := fun k => (num_Compare.f k (!d1) (ofL D1) e1 (!d2) (ofL D2) e2).bind fun t => some (t == wrap64 (-x))) (fun k => ?_) (Ev.bind cfl ?_)
            · simp only [rubricatorlaw14_NumOrders.j1, ofL_toList]; rw [if_neg (by simp), if_neg hD1, if_neg hD2]
            · refine Ev.congr (fun k => ?_) (Ev.now _)
              rw [show wrap64 (-x) = -x by unfold wrap64; omega]; simp
end Go.Proofs.YtbgigckmehgcpaaDoor
