/- Numbers' texts: plain lists, no program. -/
namespace Go.Proofs.YtbgigckmehgcpaaDoor.NumP
/-! Numbers' texts: the plain law. -/
def isD (c : UInt8) : Bool := decide (48 ≤ c.toNat ∧ c.toNat ≤ 57)
def isZ (c : UInt8) : Bool := c == 48
def val (l : List UInt8) : Int := l.foldl (fun n c => 10 * n + ((c.toNat : Int) - 48)) 0
def lstrip (l : List UInt8) : List UInt8 := l.dropWhile isZ
def rstrip (l : List UInt8) : List UInt8 := (l.reverse.dropWhile isZ).reverse
def pow (l : List UInt8) : Int := if (lstrip l).length > 10 then 1099511627776 else val (lstrip l)
abbrev NumV := Bool × List UInt8 × Int
def zero : NumV := (false, [], 0)
def form (d : Bool) (D : List UInt8) (e : Int) : NumV :=
  if rstrip (lstrip D) = [] then zero else (d, rstrip (lstrip D), e + (lstrip D).length - (rstrip (lstrip D)).length)
def right (n : NumV) : Bool :=
  if n.2.1 = [] then !n.1 && n.2.2 == 0
  else n.2.1.all isD && n.2.1.head? != some 48 && n.2.1.getLast? != some 48 && decide (n.2.1.length ≤ 40) && decide (-999 ≤ n.2.2) && decide (n.2.2 ≤ 999)
def dropSign (l : List UInt8) : List UInt8 := if l.head? = some 45 then l.tail else l
/-- what is behind the whole part: the part behind the point (if a point is there), and what is left -/
def dotP (r : List UInt8) : List UInt8 := if r.head? = some 46 then r.tail.takeWhile isD else []
def dotR (r : List UInt8) : List UInt8 := if r.head? = some 46 then r.tail.dropWhile isD else r
def dotB (r : List UInt8) : Bool := r.head? == some 46 && (dotP r).isEmpty
def isE (r : List UInt8) : Bool := r.head? == some 101 || r.head? == some 69
def isS (r : List UInt8) : Bool := r.head? == some 43 || r.head? == some 45
def expT (r : List UInt8) : List UInt8 := if isS r.tail then r.tail.tail else r.tail
def expL (r : List UInt8) : Bool := isE r && r.tail.head? == some 45
def expP (r : List UInt8) : List UInt8 := if isE r then (expT r).takeWhile isD else []
def expR (r : List UInt8) : List UInt8 := if isE r then (expT r).dropWhile isD else r
def expB (r : List UInt8) : Bool := isE r && (expP r).isEmpty
def wholeB (W : List UInt8) : Bool := W.isEmpty || (decide (1 < W.length) && W.head? == some 48)
def down (l : List UInt8) : Bool := l.head? == some 45
def whole (l : List UInt8) : List UInt8 := (dropSign l).takeWhile isD
def rest1 (l : List UInt8) : List UInt8 := (dropSign l).dropWhile isD
def rest2 (l : List UInt8) : List UInt8 := dotR (rest1 l)
def rest3 (l : List UInt8) : List UInt8 := expR (rest2 l)
def bad (l : List UInt8) : Bool := wholeB (whole l) || dotB (rest1 l) || expB (rest2 l)
def ok (l : List UInt8) : Bool := !bad l && (rest3 l).isEmpty
def num (l : List UInt8) : NumV :=
  form (down l) (whole l ++ dotP (rest1 l)) ((if expL (rest2 l) then - pow (expP (rest2 l)) else pow (expP (rest2 l))) - (dotP (rest1 l)).length)
def parse (l : List UInt8) : NumV × Int :=
  if ok l then (if right (num l) then (num l, 0) else (zero, 13)) else (zero, 11)

/-! what composed texts are cut into -/
def sgn (d : Bool) : List UInt8 := if d then [45] else []
def dot (P : List UInt8) : List UInt8 := if P.isEmpty then [] else 46 :: P
theorem isD_sign {c : UInt8} (h : isD c = true) : c ≠ 45 ∧ c ≠ 46 ∧ c ≠ 101 ∧ c ≠ 69 ∧ c ≠ 43 := by
  simp only [isD, decide_eq_true_eq] at h
  refine ⟨?_, ?_, ?_, ?_, ?_⟩ <;> (rintro rfl; simp at h)
theorem takeWhile_app {p : UInt8 → Bool} {a b : List UInt8} (ha : a.all p = true) (hb : ∀ c, b.head? = some c → p c = false) : (a ++ b).takeWhile p = a ∧ (a ++ b).dropWhile p = b := by
  induction a with
  | nil =>
    cases b with
    | nil => simp
    | cons c t => have := hb c rfl; simp [this]
  | cons c t ih =>
    simp only [List.all_cons, Bool.and_eq_true] at ha
    have := ih ha.2
    simp [ha.1, this]
structure Expo (x : List UInt8) (less : Bool) (E : List UInt8) : Prop where
  mk :: (out : (x = [] ∧ less = false ∧ E = []) ∨ (∃ c g, (c = 101 ∨ c = 69) ∧ (g = [] ∧ less = false ∨ g = [43] ∧ less = false ∨ g = [45] ∧ less = true) ∧ E ≠ [] ∧ E.all isD = true ∧ x = c :: g ++ E))
theorem Expo.parts {x : List UInt8} {less : Bool} {E : List UInt8} (h : Expo x less E) : expL x = less ∧ expP x = E ∧ expR x = [] ∧ expB x = false := by
  rcases h.out with ⟨rfl, rfl, rfl⟩ | ⟨c, g, hc, hg, hE, hd, rfl⟩
  · simp [expL, expP, expR, expB, isE]
  · have hce : isE (c :: g ++ E) = true := by rcases hc with rfl | rfl <;> simp [isE]
    obtain ⟨d, t, rfl⟩ : ∃ d t, E = d :: t := by cases E with | nil => exact absurd rfl hE | cons d t => exact ⟨d, t, rfl⟩
    have hd0 : isD d = true := by simp only [List.all_cons, Bool.and_eq_true] at hd; exact hd.1
    obtain ⟨n45, n46, -, -, n43⟩ := isD_sign hd0
    have ht := takeWhile_app (b := []) hd (by simp)
    simp only [List.append_nil] at ht
    have hT : expT (c :: g ++ d :: t) = d :: t ∧ expL (c :: g ++ d :: t) = less := by
      rcases hg with ⟨rfl, rfl⟩ | ⟨rfl, rfl⟩ | ⟨rfl, rfl⟩ <;> simp_all [expT, isS, expL]
    refine ⟨hT.2, ?_, ?_, ?_⟩
    · simp only [expP, hce, hT.1, ht]; rfl
    · simp only [expR, hce, hT.1, ht]; rfl
    · simp only [expB, expP, hce, hT.1, ht]; rfl
theorem Expo.head {x : List UInt8} {less : Bool} {E : List UInt8} (h : Expo x less E) : ∀ c, x.head? = some c → isD c = false ∧ c ≠ 46 := by
  rcases h.out with ⟨rfl, rfl, rfl⟩ | ⟨c, g, hc, hg, hE, hd, rfl⟩
  · simp
  · intro z hz; simp at hz; subst hz; rcases hc with rfl | rfl <;> simp [isD]
/-- a text that is a number's: its parts -/
structure Is (l : List UInt8) (d : Bool) (W P : List UInt8) (less : Bool) (E : List UInt8) : Prop where
  w0 : W ≠ []
  wd : W.all isD = true
  wz : 1 < W.length → W.head? ≠ some 48
  pd : P.all isD = true
  text : ∃ x, Expo x less E ∧ l = sgn d ++ (W ++ (dot P ++ x))
theorem Is.parts {l : List UInt8} {d : Bool} {W P : List UInt8} {less : Bool} {E : List UInt8} (h : Is l d W P less E) :
    ok l = true ∧ down l = d ∧ whole l = W ∧ dotP (rest1 l) = P ∧ expL (rest2 l) = less ∧ expP (rest2 l) = E ∧ (rest1 l).length = l.length - (sgn d).length - W.length ∧ (rest2 l).length + (dot P).length = (rest1 l).length := by
  obtain ⟨x, hx, rfl⟩ := h.text
  obtain ⟨c, t, rfl⟩ : ∃ c t, W = c :: t := by
    have := h.w0
    cases W with | nil => exact absurd rfl this | cons c t => exact ⟨c, t, rfl⟩
  have hc : isD c = true := by have := h.wd; simp only [List.all_cons, Bool.and_eq_true] at this; exact this.1
  obtain ⟨n45, -⟩ := isD_sign hc
  have hds : dropSign (sgn d ++ (c :: t ++ (dot P ++ x))) = c :: t ++ (dot P ++ x) := by
    cases d <;> simp [sgn, dropSign, n45]
  have hdn : down (sgn d ++ (c :: t ++ (dot P ++ x))) = d := by
    cases d <;> simp [sgn, down, n45]
  have hb : ∀ z, (dot P ++ x).head? = some z → isD z = false := by
    intro z hz
    unfold dot at hz
    split at hz
    · exact (hx.head z hz).1
    · simp at hz; subst hz; simp [isD]
  have ht := takeWhile_app h.wd hb
  have hr1 : rest1 (sgn d ++ (c :: t ++ (dot P ++ x))) = dot P ++ x := by unfold rest1; rw [hds]; exact ht.2
  have hw : whole (sgn d ++ (c :: t ++ (dot P ++ x))) = c :: t := by unfold whole; rw [hds]; exact ht.1
  have hdot : dotP (dot P ++ x) = P ∧ dotR (dot P ++ x) = x ∧ dotB (dot P ++ x) = false := by
    cases P with
    | nil =>
      have : x.head? ≠ some 46 := fun e => (hx.head _ e).2 rfl
      simp [dot, dotP, dotR, dotB, this]
    | cons p q =>
      have := takeWhile_app (b := x) h.pd (fun z hz => (hx.head z hz).1)
      simp only [List.cons_append] at this
      simp [dot, dotP, dotR, dotB, this]
  have hp := hx.parts
  have hr2 : rest2 (sgn d ++ (c :: t ++ (dot P ++ x))) = x := by unfold rest2; rw [hr1]; exact hdot.2.1
  have hwB : wholeB (c :: t) = false := by
    have := h.wz
    simp only [wholeB, List.isEmpty_cons, Bool.false_or, Bool.and_eq_false_iff, decide_eq_false_iff_not]
    by_cases e : 1 < (c :: t).length
    · right; simpa using this e
    · left; exact e
  refine ⟨?_, hdn, hw, by rw [hr1]; exact hdot.1, by rw [hr2]; exact hp.1, by rw [hr2]; exact hp.2.1, ?_, ?_⟩
  · unfold ok bad rest3; rw [hw, hr1, hr2, hwB, hdot.2.2, hp.2.2.2, hp.2.2.1]; rfl
  · rw [hr1]; simp only [List.length_append]; omega
  · rw [hr1, hr2]; simp only [List.length_append]; omega
theorem takeWhile_all (p : UInt8 → Bool) (l : List UInt8) : (l.takeWhile p).all p = true := by
  induction l with
  | nil => rfl
  | cons c t ih => by_cases h : p c = true <;> simp [h, ih]
theorem Is.of_ok {l : List UInt8} (h : ok l = true) : Is l (down l) (whole l) (dotP (rest1 l)) (expL (rest2 l)) (expP (rest2 l)) := by
  simp only [ok, bad, Bool.and_eq_true, Bool.not_eq_true', Bool.or_eq_false_iff] at h
  obtain ⟨⟨⟨hW, hP⟩, hE⟩, hR⟩ := h
  have e1 : l = sgn (down l) ++ dropSign l := by
    cases l with
    | nil => rfl
    | cons c t => by_cases e : c = 45 <;> simp [sgn, down, dropSign, e]
  have e2 : dropSign l = whole l ++ rest1 l := (List.takeWhile_append_dropWhile).symm
  have e3 : rest1 l = dot (dotP (rest1 l)) ++ rest2 l := by
    unfold rest2
    generalize rest1 l = r at *
    cases r with
    | nil => rfl
    | cons c t =>
      by_cases e : c = 46
      · subst e
        have hne : dotP (46 :: t) ≠ [] := by
          intro z; simp [dotB, z] at hP
        have : dotP (46 :: t) = t.takeWhile isD := by simp [dotP]
        have hne2 : (dotP (46 :: t)).isEmpty = false := by simpa using hne
        simp only [dot, hne2]
        simp only [this, dotR]
        simp
      · simp [dotP, dotR, dot, e]
  have hx : Expo (rest2 l) (expL (rest2 l)) (expP (rest2 l)) := by
    unfold rest3 at hR
    generalize rest2 l = r at *
    cases hi : isE r with
    | false =>
      simp [expR, hi] at hR
      subst hR
      exact ⟨.inl ⟨rfl, rfl, rfl⟩⟩
    | true =>
      cases r with
      | nil => simp [isE] at hi
      | cons c t =>
        refine ⟨.inr ⟨c, if isS t then t.take 1 else [], ?_, ?_, ?_, ?_, ?_⟩⟩
        · simp [isE] at hi; exact hi
        · cases t with
          | nil => simp [isS, expL]
          | cons g u =>
            simp only [expL, hi]
            by_cases e : g = 43
            · subst e; simp [isS]
            · by_cases e' : g = 45
              · subst e'; simp [isS]
              · simp [isS, e, e']
        · intro z; simp [expB, hi, z] at hE
        · simp only [expP, hi, if_true]; exact takeWhile_all _ _
        · simp only [expR, hi, if_true, List.isEmpty_iff] at hR
          have hz : expP (c :: t) = expT (c :: t) := by
            simp only [expP, hi, if_true]
            have := @List.takeWhile_append_dropWhile _ isD (expT (c :: t))
            rw [hR, List.append_nil] at this; exact this
          rw [hz]
          cases t with
          | nil => simp [expT, isS]
          | cons g u => by_cases e : isS (g :: u) = true <;> simp [expT, e]
  have hw0 : whole l ≠ [] := by intro z; simp [wholeB, z] at hW
  refine ⟨hw0, takeWhile_all _ _, ?_, ?_, rest2 l, hx, ?_⟩
  · intro hl hz
    simp [wholeB, hz] at hW
    omega
  · unfold dotP; split
    · exact takeWhile_all _ _
    · rfl
  · rw [← e3, ← e2, ← e1]
end Go.Proofs.YtbgigckmehgcpaaDoor.NumP
