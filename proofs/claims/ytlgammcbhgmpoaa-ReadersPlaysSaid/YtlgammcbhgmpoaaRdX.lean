/- The walk over ReadersPlays where there is a table. -/
import Derived.Test.YtlgammcbhgmpoaaRdV
namespace Go.Proofs.Ytlgammcbhgmpoaa
open Go.RowKit
theorem own_shape {w : World} {base : Nat} {e : TypeId} {size : Nat} {v : Value} {n : Nat} {xs : List Value} (h : w.ownsRow base e size v n xs) : ∃ a cap, v = .slice a n cap ∧ (0 < n → ∃ g, a = some ⟨g, 0, none⟩) := by
  rcases h.2 with ⟨rfl, rfl⟩ | ⟨g, cap, cur, rfl, _⟩
  · exact ⟨none, 0, rfl, fun h => absurd h (Nat.lt_irrefl _)⟩
  · exact ⟨_, cap, rfl, fun _ => ⟨g, rfl⟩⟩
/-- handles, as cells -/
def hl : List (Int × Int) → List Value
  | [] => []
  | h :: t => .int .i64 h.1 :: .int .u64 h.2 :: hl t
theorem hl_len (hs : List (Int × Int)) : (hl hs).length = hs.length * 2 := by
  induction hs with
  | nil => rfl
  | cons h t ih => simp [hl, ih]; omega
theorem hl_at (hs : List (Int × Int)) (i : Nat) (h : i < hs.length) : (hl hs)[i * 2]? = some (.int .i64 (hs.getD i (0, 0)).1) ∧ (hl hs)[i * 2 + 1]? = some (.int .u64 (hs.getD i (0, 0)).2) := by
  induction hs generalizing i with
  | nil => simp at h
  | cons x t ih =>
    cases i with
    | zero => exact ⟨rfl, rfl⟩
    | succ i =>
      have := ih i (by simpa using h)
      rw [show (i + 1) * 2 = i * 2 + 1 + 1 by omega]
      simpa [hl] using this
theorem hl_push (hs : List (Int × Int)) (s t : Int) : hl (hs ++ [(s, t)]) = hl hs ++ [.int .i64 s, .int .u64 t] := by
  induction hs with
  | nil => rfl
  | cons h r ih => simp [hl, ih]
/-- an act's variable -/
def Av (w : World) (b : Nat) (k a x t : Int) : Prop := w.heap[b]? = some (.cells #[.int .i64 k, .int .i64 a, .int .u64 x, .int .u64 t] 45 (0, 0))
theorem Av.kp {w w' : World} {b B : Nat} {k a x t : Int} (h : Av w b k a x t) (g : Kp B w w') (hne : b ≠ B) : Av w' b k a x t := res_kept g h hne
theorem Av.below {w w' : World} {b : Nat} {k a x t : Int} (h : Av w b k a x t) (g : Below w.heap.size w w') : Av w' b k a x t :=
  (g.block b (Array.getElem?_eq_some_iff.1 h).1).trans h
theorem Av.new (w : World) (k a x t : Int) : Av (w.alloc (.cells #[.int .i64 k, .int .i64 a, .int .u64 x, .int .u64 t] 45)) w.heap.size k a x t := by
  show (w.heap.push _)[w.heap.size]? = _
  simp
theorem Av.c0 {w : World} {b : Nat} {k a x t : Int} (h : Av w b k a x t) : w.cell? ⟨b, 0, none⟩ = some (.int .i64 k) := by rw [cell_of_row _ _ _ _ _ _ h]; rfl
theorem Av.c1 {w : World} {b : Nat} {k a x t : Int} (h : Av w b k a x t) : w.cell? ⟨b, 1, none⟩ = some (.int .i64 a) := by rw [cell_of_row _ _ _ _ _ _ h]; rfl
theorem Av.c2 {w : World} {b : Nat} {k a x t : Int} (h : Av w b k a x t) : w.cell? ⟨b, 2, none⟩ = some (.int .u64 x) := by rw [cell_of_row _ _ _ _ _ _ h]; rfl
theorem Av.c3 {w : World} {b : Nat} {k a x t : Int} (h : Av w b k a x t) : w.cell? ⟨b, 3, none⟩ = some (.int .u64 t) := by rw [cell_of_row _ _ _ _ _ _ h]; rfl
theorem Hv.z {w : World} {b : Nat} {s t : Int} (h : Hv w b s t) (j : Nat) : w.frozen? ⟨b, j, none⟩ = false := by
  unfold Hv at h
  simp [World.frozen?, h]
theorem Hv.put {w : World} {b : Nat} {s t : Int} (h : Hv w b s t) (s' t' : Int) : Hv ((w.setCell ⟨b, 0, none⟩ (.int .i64 s')).setCell ⟨b, 1, none⟩ (.int .u64 t')) b s' t' := by
  unfold Hv at h ⊢
  have := set_blk (i := 1) (set_blk (i := 0) h (.int .i64 s')) (.int .u64 t')
  simpa using this
/-- what holds of the world behind so many acts -/
structure St (w1 w : World) (B n g cap : Nat) (f : Nat → Sl) (lv : Value) (hs : List (Int × Int)) : Prop where
  tb : Tb w B n f
  rf : Rf w (B + 1) g n cap (norm f)
  bl : Below B w1 w
  ow : w.ownsRow (B + 1) 47 2 lv hs.length (hl hs)
theorem St.put {w1 w w' : World} {B n g cap b : Nat} {f : Nat → Sl} {lv : Value} {hs : List (Int × Int)} (h : St w1 w B n g cap f lv hs) (k : Kp b w w') (hb : B < b) (hg : g ≠ b) (hl : lv.ownBlock ≠ some b) : St w1 w' B n g cap f lv hs :=
  ⟨h.tb.kpn k (by omega), World.ownsRow.kept h.rf k (.inr (by simp [Value.ownBlock]; exact hg)), Kp.below h.bl k (by omega) (Nat.le_of_lt h.tb.lt), h.ow.kept k (.inr hl)⟩
theorem St.below {w1 w w' : World} {B n g cap : Nat} {f : Nat → Sl} {lv : Value} {hs : List (Int × Int)} (h : St w1 w B n g cap f lv hs) (k : Below w.heap.size w w') : St w1 w' B n g cap f lv hs :=
  ⟨h.tb.below k, h.rf.below k, blB h.bl k h.tb, own_below h.ow k⟩
theorem own_ne {w : World} {base e size n cap base' e' size' n' g : Nat} {v : Value} {xs xs' : List Value} (h : w.ownsRow base e size (.slice (some ⟨g, 0, none⟩) n cap) n xs) (h' : w.ownsRow base' e' size' v n' xs') (hne : e ≠ e') : v.ownBlock ≠ some g := by
  rcases h.2 with ⟨h0, _⟩ | ⟨g0, cap0, cur, hv, _, hg, _⟩
  · cases h0
  · cases hv
    rcases h'.2 with ⟨rfl, _⟩ | ⟨g1, cap1, cur1, rfl, _, hg1, _⟩
    · simp [Value.ownBlock]
    · intro e1
      simp [Value.ownBlock] at e1
      subst e1
      rw [hg] at hg1
      cases hg1
      exact hne rfl
theorem handle_new1 (w : World) (s t : Int) : ∀ j u, [Value.int .i64 s, Value.int .u64 t][j]? = some u → (w.alloc (.cells #[.int .i64 s, .int .u64 t] 47)).cell? ((⟨w.heap.size, 0, none⟩ : Addr).add j) = some u := by
  intro j u hu
  have h2 : (w.alloc (.cells #[.int .i64 s, .int .u64 t] 47)).heap[w.heap.size]? = some (.cells #[.int .i64 s, .int .u64 t] 47 (0, 0)) := by
    show (w.heap.push _)[w.heap.size]? = _
    simp
  rw [add_at9, cell_of_row _ _ _ _ _ _ h2]
  simpa using hu
theorem push8 {w1 w6 w7 : World} {B n g6 cap6 ba : Nat} {s tt kd at0 x t : Int} {F : Nat → Sl} {v v' : Value} {o : Obj} {hs : List (Int × Int)} (q r : Int) (hst : St w1 w6 B n g6 cap6 F v hs) (hhv : Hv w6 (ba + 1) s tt) (hav : Av w6 ba kd at0 x t)
    (h1 : v.ownBlock ≠ some ba) (h2 : v.ownBlock ≠ some (ba + 1)) (hgrow : (w6.alloc o).grownBy w7 v.ownBlock) (hown : w7.ownsRow (B + 1) 47 2 v' (hs.length + 1) (hl hs ++ [.int .i64 q, .int .u64 r])) :
    Hv w7 (ba + 1) s tt ∧ Av w7 ba kd at0 x t ∧ St w1 w7 B n g6 cap6 F v' (hs ++ [(q, r)]) := by
  have al : Below w6.heap.size w6 (w6.alloc o) := (Below.refl _ _).alloc (Nat.le_refl _) _
  have hB : v.ownBlock ≠ some B := by intro e; have := hst.ow.lt B e; omega
  refine ⟨?_, ?_, ?_⟩
  · have g := hhv.below al
    exact (hgrow.block _ (Array.getElem?_eq_some_iff.1 g).1 (fun e => h2 e.symm)).trans g
  · have g := hav.below al
    exact (hgrow.block _ (Array.getElem?_eq_some_iff.1 g).1 (fun e => h1 e.symm)).trans g
  · refine ⟨(hst.tb.below al).grown hgrow hB, World.ownsRow.kept (hst.rf.below al) hgrow (.inr ?_), (blB hst.bl al hst.tb).grown hgrow ?_ ?_, ?_⟩
    · show some g6 ≠ _
      exact fun e => own_ne hst.rf hst.ow (by decide) e.symm
    · have := hst.tb.lt; simp; omega
    · intro k hk
      have := hst.ow.lt k hk; omega
    · rw [hl_push, List.length_append]; exact hown
set_option maxRecDepth 100000 in
set_option maxHeartbeats 8000000 in
theorem walk8_tb (n : Nat) (z : Int) (a : Option Addr) (len cap : Nat) (K A : Nat → Int) (X T : Nat → Nat) (w : World) (hz : z = (n : Int)) (h1 : 1 ≤ n) (h2 : n ≤ 126) (hA : Acts w a len K A X T) (hX : ∀ i, X i < 18446744073709551616) (hT : ∀ i, T i < 18446744073709551616) :
    Calls Try.prog 8 #[.int .i64 z, .slice a len cap] w fun e w' => e = .returned (.bool true) ∧ Below w.heap.size w w' := by
  subst hz
  have HA := Lib.hid hA
  have HX := Lib.hid hX
  have HT := Lib.hid hT
  have H1 := Lib.hid h1
  have H2 := Lib.hid h2
  have h2I : (n : Int) ≤ 126 := by omega
  clear hA hX hT h1 h2
  go_enter Try.func8, Try.ntmps8
  go_wp2_with fail
  refine (awake9 w).mono ?_
  rintro e w1 ⟨rfl, hb1⟩
  have HB1 := Lib.hid hb1
  clear hb1
  go_simp
  go_wp2_with fail
  refine (new_tb n H1.out H2.out n rfl _).mono ?_
  rintro e w2 ⟨rfl, ht2, hb2⟩
  obtain ⟨B, hB⟩ : ∃ B, B = w1.heap.size := ⟨_, rfl⟩
  rw [← hB] at ht2 hb2 ⊢
  have HT2 := Lib.hid ht2
  have HB2 := Lib.hid hb2
  have HBB := Lib.hid hB
  clear ht2 hb2 hB
  go_simp
  go_wp2_with fail
  refine (new18_yes n H1.out H2.out _).mono ?_
  rintro e w3 ⟨rfl, hr3, hb3⟩
  have hlt2 := HT2.out.lt
  have HS3 : Hid (St w1 w3 B n w2.heap.size n zs (.slice none 0 0) []) := Lib.hid ⟨HT2.out.below hb3, by rw [norm_zs]; exact hr3.mono (by omega), blB HB2.out hb3 HT2.out, World.ownsRow_nil _ _ _ _⟩
  clear hr3 hb3
  generalize w2.heap.size = g3 at *
  go_simp
  go_upto_block 0 with fail
  go_cut [8, 10, 11] (fun s8 s10 s11 wx => Below w.heap.size w wx)
  case rest =>
    have HBR := Lib.hid hcut
    clear hcut HS3
    go_wp2_with (first | (go_at_call 19; refine (begin_nil _ _).mono ?_; rintro e wt1 ⟨rfl, ht1⟩) | (go_at_call 27; refine (txn_nil _ _ _).mono ?_; rintro e wt2 ⟨rfl, ht2⟩) | (go_at_call 21; refine (end_nil _ _ _).mono ?_; rintro e wt3 ⟨rfl, ht3⟩) | (go_at_call 23; refine (dead_nil _ _).mono ?_; rintro e wt4 ⟨rfl, ht4⟩) | (go_at_call 25; refine (clear_nil _).mono ?_; rintro e wt5 ⟨rfl, rfl⟩) | (go_at_call 31; refine (live_nil _).mono ?_; rintro e wt6 ⟨rfl, rfl⟩) | (go_at_call 29; refine (oldest_nil _ _).mono ?_; rintro e wt7 ⟨rfl, rfl⟩))
    go_ret
    have hs0 := HBR.out.size
    have hs1 := ht1.size
    have hs2 := ht2.size
    have hs3 := ht3.size
    simp at hs2
    exact ⟨rfl, ((((HBR.out.trans (ht1.mono hs0)).alloc (by omega) _).trans (ht2.mono (by simp; omega))).trans (ht3.mono (by omega))).trans (ht4.mono (by omega))⟩
  case first =>
    go_wp2_with fail
    go_loopg [8, 10, 11] 60 (fun gk s8 s10 s11 wr => ∃ k g cap' f lv hs, k ≤ len ∧ k ≤ 60 ∧ gk = 60 - k ∧ s8 = .slice (some ⟨g, 0, none⟩) n cap' ∧ s10 = lv ∧ s11 = .int .i64 (k : Nat) ∧ hs.length ≤ k ∧ St w1 wr B n g cap' f lv hs)
    case atStart => exact ⟨0, g3, n, zs, .slice none 0 0, [], Nat.zero_le _, by omega, rfl, rfl, rfl, rfl, Nat.le_refl _, HS3.out⟩
    case round =>
      obtain ⟨k, g, cap', f, lv, hs, hkl, hk60, rfl, rfl, rfl, rfl, hsk, hst⟩ := hrel
      have HS := Lib.hid hst
      clear hst HS3
      by_cases hlt : k < len
      · by_cases h60 : k < 60
        · obtain ⟨b0, o0, rfl, hbw, c0, c1, c2, c3⟩ := HA.out k hlt
          have hbelow : Below w.heap.size w wr := HB1.out.trans (HS.out.bl.mono (by rw [HBB.out]; exact HB1.out.size))
          have d0 := (hbelow.cell (p := ⟨b0, o0 + k * 4, none⟩) hbw).trans c0
          have d1 := (hbelow.cell (p := ⟨b0, o0 + k * 4 + 1, none⟩) hbw).trans c1
          have d2 := (hbelow.cell (p := ⟨b0, o0 + k * 4 + 2, none⟩) hbw).trans c2
          have d3 := (hbelow.cell (p := ⟨b0, o0 + k * 4 + 3, none⟩) hbw).trans c3
          have hxk := HX.out k
          have htk := HT.out k
          clear c0 c1 c2 c3 hbelow
          obtain ⟨kd, hkd⟩ : ∃ v, v = K k := ⟨_, rfl⟩
          obtain ⟨at0, hat⟩ : ∃ v, v = A k := ⟨_, rfl⟩
          obtain ⟨x, hx⟩ : ∃ v, v = X k := ⟨_, rfl⟩
          obtain ⟨t, ht⟩ : ∃ v, v = T k := ⟨_, rfl⟩
          rw [← hkd] at d0
          rw [← hat] at d1
          rw [← hx] at d2 hxk
          rw [← ht] at d3 htk
          clear hkd hat hx ht
          obtain ⟨la, lcap, hlv, hla⟩ := own_shape HS.out.ow
          have HLA := Lib.hid hla
          subst hlv
          clear hla
          obtain ⟨lk, hlk⟩ : ∃ lk, lk = hs.length := ⟨_, rfl⟩
          rw [← hlk] at HS HLA hsk ⊢
          have HLK := Lib.hid hlk
          clear hlk
          have h60i : (k : Int) < 60 := by omega
          have hlti : (k : Int) < (len : Int) := by omega
          clear h60
          have HXK := Lib.hid hxk
          have HTK := Lib.hid htk
          clear hxk htk
          go_upto_region 14 with fail
          have hBwr : B < wr.heap.size := HS.out.tb.lt
          have hnew1 : Below wr.heap.size wr (wr.alloc (.cells #[.int .i64 kd, .int .i64 at0, .int .u64 (x : Int), .int .u64 (t : Int)] 45)) := (Below.refl _ _).alloc (Nat.le_refl _) _
          have hnew2 : Below (wr.heap.size + 1) (wr.alloc (.cells #[.int .i64 kd, .int .i64 at0, .int .u64 (x : Int), .int .u64 (t : Int)] 45)) ((wr.alloc (.cells #[.int .i64 kd, .int .i64 at0, .int .u64 (x : Int), .int .u64 (t : Int)] 45)).alloc (.cells #[.int .i64 at0, .int .u64 (t : Int)] 47)) := (Below.refl _ _).alloc (by simp) _
          have hav : Av ((wr.alloc (.cells #[.int .i64 kd, .int .i64 at0, .int .u64 (x : Int), .int .u64 (t : Int)] 45)).alloc (.cells #[.int .i64 at0, .int .u64 (t : Int)] 47)) wr.heap.size kd at0 x t := (Av.new wr kd at0 x t).below (by simpa using hnew2)
          have hhv : Hv ((wr.alloc (.cells #[.int .i64 kd, .int .i64 at0, .int .u64 (x : Int), .int .u64 (t : Int)] 45)).alloc (.cells #[.int .i64 at0, .int .u64 (t : Int)] 47)) (wr.heap.size + 1) at0 t := by
            have := Hv.new (wr.alloc (.cells #[.int .i64 kd, .int .i64 at0, .int .u64 (x : Int), .int .u64 (t : Int)] 45)) at0 t
            simpa using this
          have HS4 := Lib.hid (HS.out.below (hnew1.trans (hnew2.mono (Nat.le_succ _))))
          have HAV := Lib.hid hav
          have HHV := Lib.hid hhv
          have HGB : Hid (g < wr.heap.size ∧ ∀ b, la = some ⟨b, 0, none⟩ → b < wr.heap.size) := Lib.hid ⟨HS.out.rf.lt.2, fun b e => by subst e; exact (HS.out.ow.lt b rfl).2⟩
          have HGC : Hid (∀ b, (Value.slice la lk lcap).ownBlock = some b → b < wr.heap.size) := Lib.hid (fun b e => (HS.out.ow.lt b e).2)
          clear d0 d1 d2 d3 HS hnew1 hnew2 hav hhv
          generalize (wr.alloc (.cells #[.int .i64 kd, .int .i64 at0, .int .u64 (x : Int), .int .u64 (t : Int)] 45)).alloc (.cells #[.int .i64 at0, .int .u64 (t : Int)] 47) = w4 at *
          generalize wr.heap.size = ba at *
          go_cut [90] (fun s90 wx => wx = w4 ∧ s90 = .bool (decide (0 < lk) && decide (3 < t)))
          case first =>
            as_aux_lemma =>
              have c3 := HAV.out.c3
              by_cases hl0 : 0 < lk
              · have hl0i : (0 : Int) < (lk : Int) := by omega
                by_cases ht3 : 3 < t
                · have e : (decide (0 < lk) && decide (3 < t)) = true := by simp [hl0, ht3]
                  have ht3i : decide ((3 : Int) < (t : Int)) = true := by simp; omega
                  have E := Lib.hid e
                  clear e hl0 ht3
                  go_wp2_with fail
                  go_meet
                  exact ⟨rfl, by rw [E.out]⟩
                · have e : (decide (0 < lk) && decide (3 < t)) = false := by simp [ht3]
                  have ht3i : decide ((3 : Int) < (t : Int)) = false := by simp; omega
                  have E := Lib.hid e
                  clear e hl0 ht3
                  go_wp2_with fail
                  go_meet
                  exact ⟨rfl, by rw [E.out]⟩
              · have e : (decide (0 < lk) && decide (3 < t)) = false := by simp [hl0]
                obtain rfl : lk = 0 := by omega
                have E := Lib.hid e
                clear e hl0
                go_wp2_with fail
                go_meet
                exact ⟨rfl, by rw [E.out]⟩
          case rest =>
            obtain ⟨rfl, rfl⟩ := hcut
            have hc : (decide (0 < lk) && decide (3 < t)) = true → 0 < lk := by simp; omega
            have HC := Lib.hid hc
            clear hc
            generalize (decide (0 < lk) && decide (3 < t)) = c at *
            go_upto_if 90 with fail
            go_cut [] (fun wx => ∃ s tt : Int, Hv wx (ba + 1) s tt ∧ Av wx ba kd at0 x t ∧ St w1 wx B n g cap' f (.slice la lk lcap) hs)
            case first =>
              as_aux_lemma =>
                cases c
                · go_wp2_with fail
                  go_meet
                  exact ⟨at0, t, HHV.out, HAV.out, HS4.out⟩
                · have hlk0 := HC.out rfl
                  obtain ⟨gl, rfl⟩ := HLA.out hlk0
                  have c3 := HAV.out.c3
                  have hm : t % lk < lk := Nat.mod_lt _ hlk0
                  have hat := hl_at hs (t % lk) (by rw [← HLK.out]; exact hm)
                  have e0 := HS4.out.ow
                  rw [← HLK.out] at e0
                  have f0 := World.ownsRow.cellAt e0 (t % lk * 2) (by omega)
                  have f1 := World.ownsRow.cellAt e0 (t % lk * 2 + 1) (by omega)
                  rw [hat.1] at f0
                  rw [hat.2] at f1
                  obtain ⟨m, hmm⟩ : ∃ m, m = t % lk := ⟨_, rfl⟩
                  have hmi : (t : Int).tmod (lk : Int) = (m : Int) := by rw [hmm]; exact (Int.ofNat_tmod t lk).symm
                  have hme : (t : Int) % (lk : Int) = (m : Int) := by rw [hmm]; exact (Int.natCast_emod t lk).symm
                  rw [← hmm] at f0 f1 hm
                  have z0 := HHV.out.z 0
                  have z1 := HHV.out.z 1
                  have b0' := HHV.out.c0
                  have b1' := HHV.out.c1
                  have hlki : (lk : Int) < 61 := by omega
                  have hlk0i : ((lk : Int) == 0) = false := by simp; omega
                  clear hat e0 hmm
                  go_wp2_with fail
                  go_meet
                  have kk := (Kp.set (ba + 1) 0 wc (.int .i64 (hs.getD m (0, 0)).1)).trans (Kp.set (ba + 1) 1 _ (.int .u64 (hs.getD m (0, 0)).2))
                  exact ⟨_, _, HHV.out.put _ _, HAV.out.kp kk (by omega), HS4.out.put kk (by omega) (by have := HGB.out.1; omega) (by intro e; cases e; have := HGB.out.2 (ba + 1) rfl; omega)⟩
            case rest =>
              obtain ⟨s, tt, hhv, hav, hst⟩ := hcut
              clear HHV HAV HS4 HTK
              have HHV := Lib.hid hhv
              have HAV := Lib.hid hav
              have HS4 := Lib.hid hst
              clear hhv hav hst
              have c0 := HAV.out.c0
              go_upto_block 2 with fail
              clear c0
              generalize bits .and .i64 kd 7 = m at *
              go_cut [8, 10] (fun s8 s10 wx => ∃ (g' cap2 : Nat) (f' : Nat → Sl) (lv' : Value) (hs' : List (Int × Int)), s8 = .slice (some ⟨g', 0, none⟩) n cap2 ∧ s10 = lv' ∧ hs'.length ≤ k + 1 ∧ Hv wx (ba + 1) s tt ∧ Av wx ba kd at0 x t ∧ St w1 wx B n g' cap2 f' lv' hs')
              case first =>
                have a0 := HAV.out.c0
                have a1 := HAV.out.c1
                have a2 := HAV.out.c2
                have v0 := HHV.out.c0
                have v1 := HHV.out.c1
                by_cases m5 : m = 5
                · subst m5
                  as_aux_lemma =>
                    by_cases hr : at0 < 0 ∨ (n : Int) ≤ at0
                    · have HR := Lib.hid hr
                      clear hr
                      go_wp2_with fail
                      refine (dead_low B n f at0 _ HS4.out.tb HR.out).mono ?_
                      rintro e w5 ⟨rfl, hb5⟩
                      have HS5 := Lib.hid (HS4.out.below hb5)
                      have HHV5 := Lib.hid (HHV.out.below hb5)
                      have HAV5 := Lib.hid (HAV.out.below hb5)
                      clear hb5 a0 a1 a2 v0 v1
                      have a1 := HAV5.out.c1
                      go_simp
                      go_wp2_with fail
                      refine (dead24_low (some ⟨g, 0, none⟩) n cap' at0 w5 HR.out).mono ?_
                      rintro e w6 ⟨rfl, rfl⟩
                      go_simp
                      go_wp2_with fail
                      go_meet
                      exact ⟨g, cap', f, _, hs, rfl, rfl, by have := HLK.out; omega, HHV5.out, HAV5.out, HS5.out⟩
                    · obtain ⟨i, rfl⟩ : ∃ i : Nat, at0 = (i : Int) := ⟨at0.toNat, by omega⟩
                      have hin : i < n := by omega
                      clear hr
                      cases hii : (f i).is
                      · have HII := Lib.hid hii
                        clear hii
                        go_wp2_with fail
                        refine (dead_off B n f i _ HS4.out.tb hin HII.out).mono ?_
                        rintro e w5 ⟨rfl, hb5⟩
                        have HS5 := Lib.hid (HS4.out.below hb5)
                        have HHV5 := Lib.hid (HHV.out.below hb5)
                        have HAV5 := Lib.hid (HAV.out.below hb5)
                        clear hb5 a0 a1 a2 v0 v1
                        have a1 := HAV5.out.c1
                        go_simp
                        go_wp2_with fail
                        refine (dead24_off (B + 1) g n cap' (norm f) i w5 HS5.out.rf hin (by rw [norm_is]; exact HII.out)).mono ?_
                        rintro e w6 ⟨rfl, rfl⟩
                        go_simp
                        go_wp2_with fail
                        go_meet
                        exact ⟨g, cap', f, _, hs, rfl, rfl, by have := HLK.out; omega, HHV5.out, HAV5.out, HS5.out⟩
                      · have HII := Lib.hid hii
                        clear hii
                        go_wp2_with fail
                        refine (dead_yes B n f i _ HS4.out.tb hin HII.out).mono ?_
                        rintro e w5 ⟨rfl, ht5, hk5⟩
                        have HT5 := Lib.hid ht5
                        have HB5 := Lib.hid (kpB HS4.out.bl hk5 HS4.out.tb)
                        have HR5 := Lib.hid (HS4.out.rf.kp hk5 (Nat.lt_succ_self B))
                        have HO5 := Lib.hid (own_kp HS4.out.ow hk5 (Nat.lt_succ_self B))
                        have HHV5 := Lib.hid (HHV.out.kp hk5 (by omega))
                        have HAV5 := Lib.hid (HAV.out.kp hk5 (by omega))
                        clear ht5 hk5 a0 a1 a2 v0 v1
                        have a1 := HAV5.out.c1
                        go_simp
                        go_wp2_with fail
                        refine (dead24_yes (B + 1) g n cap' (norm f) i w5 HR5.out H2.out hin (by rw [norm_is]; exact HII.out)).mono ?_
                        rintro e w6 ⟨⟨g6, cap6, rfl, hr6⟩, hb6⟩
                        rw [← norm_dead f i HII.out] at hr6
                        have HR6 := Lib.hid hr6
                        have HB6 := Lib.hid hb6
                        clear hr6 hb6
                        go_simp
                        go_wp2_with fail
                        go_meet
                        exact ⟨g6, cap6, _, _, hs, rfl, rfl, by have := HLK.out; omega, HHV5.out.below HB6.out, HAV5.out.below HB6.out, ⟨HT5.out.below HB6.out, HR6.out, blB HB5.out HB6.out HT5.out, own_below HO5.out HB6.out⟩⟩
                · by_cases m6 : m = 6
                  · subst m6
                    as_aux_lemma =>
                      go_wp2_with fail
                      refine (clear_any B n f _ HS4.out.tb).mono ?_
                      rintro e w5 ⟨rfl, ht5, hk5⟩
                      have HT5 := Lib.hid ht5
                      have HB5 := Lib.hid (kpB HS4.out.bl hk5 HS4.out.tb)
                      have HR5 := Lib.hid (HS4.out.rf.kp hk5 (Nat.lt_succ_self B))
                      have HO5 := Lib.hid (own_kp HS4.out.ow hk5 (Nat.lt_succ_self B))
                      have HHV5 := Lib.hid (HHV.out.kp hk5 (by omega))
                      have HAV5 := Lib.hid (HAV.out.kp hk5 (by omega))
                      clear ht5 hk5 a0 a1 a2 v0 v1
                      have HCL := Lib.hid (clear26 (B + 1) g n cap' (norm f) w5 HR5.out H2.out)
                      rw [norm_clrN, ← norm_clr] at HCL
                      generalize ((clrN f n : Nat) : Int) = cn at *
                      go_simp
                      go_wp2_with fail
                      refine HCL.out.mono ?_
                      rintro e w6 ⟨⟨g6, cap6, rfl, hr6⟩, hb6⟩
                      have HR6 := Lib.hid hr6
                      have HB6 := Lib.hid hb6
                      clear hr6 hb6 HCL
                      go_simp
                      go_wp2_with fail
                      go_meet
                      exact ⟨g6, cap6, _, _, hs, rfl, rfl, by have := HLK.out; omega, HHV5.out.below HB6.out, HAV5.out.below HB6.out, ⟨HT5.out.below HB6.out, HR6.out, blB HB5.out HB6.out HT5.out, own_below HO5.out HB6.out⟩⟩
                  · by_cases m3 : m = 3
                    · subst m3
                      as_aux_lemma =>
                        by_cases hg : Gd f n s tt
                        · obtain ⟨i, hsi, hin, hii, hti⟩ := hg
                          subst hsi
                          have HII := Lib.hid hii
                          have HTI := Lib.hid hti
                          clear hii hti
                          go_wp2_with fail
                          refine (endY B n f i (i : Int) tt _ HS4.out.tb rfl hin HII.out HTI.out).mono ?_
                          rintro e w5 ⟨rfl, ht5, hk5⟩
                          have HT5 := Lib.hid ht5
                          have HB5 := Lib.hid (kpB HS4.out.bl hk5 HS4.out.tb)
                          have HR5 := Lib.hid (HS4.out.rf.kp hk5 (Nat.lt_succ_self B))
                          have HO5 := Lib.hid (own_kp HS4.out.ow hk5 (Nat.lt_succ_self B))
                          have HHV5 := Lib.hid (HHV.out.kp hk5 (by omega))
                          have HAV5 := Lib.hid (HAV.out.kp hk5 (by omega))
                          clear ht5 hk5 a0 a1 a2 v0 v1
                          have v0 := HHV5.out.c0
                          have v1 := HHV5.out.c1
                          have HE := Lib.hid (end22_yes (B + 1) g n cap' (norm f) i (i : Int) tt w5 HR5.out H2.out rfl hin (by rw [norm_is]; exact HII.out) (by rw [norm_turn]; exact HTI.out))
                          rw [← norm_ended] at HE
                          go_simp
                          go_wp2_with fail
                          refine HE.out.mono ?_
                          rintro e w6 ⟨⟨g6, cap6, rfl, hr6⟩, hb6⟩
                          have HR6 := Lib.hid hr6
                          have HB6 := Lib.hid hb6
                          clear hr6 hb6 HE
                          go_simp
                          go_wp2_with fail
                          go_meet
                          exact ⟨g6, cap6, _, _, hs, rfl, rfl, by have := HLK.out; omega, HHV5.out.below HB6.out, HAV5.out.below HB6.out, ⟨HT5.out.below HB6.out, HR6.out, blB HB5.out HB6.out HT5.out, own_below HO5.out HB6.out⟩⟩
                        · have HG := Lib.hid hg
                          clear hg
                          go_wp2_with fail
                          refine (end_no B n f s tt _ HS4.out.tb HG.out).mono ?_
                          rintro e w5 ⟨rfl, hb5⟩
                          have HS5 := Lib.hid (HS4.out.below hb5)
                          have HHV5 := Lib.hid (HHV.out.below hb5)
                          have HAV5 := Lib.hid (HAV.out.below hb5)
                          clear hb5 a0 a1 a2 v0 v1
                          have v0 := HHV5.out.c0
                          have v1 := HHV5.out.c1
                          have HE := Lib.hid (end22_no (B + 1) g n cap' (norm f) s tt w5 HS5.out.rf (fun q => HG.out ((norm_gd f n s tt).1 q)))
                          go_simp
                          go_wp2_with fail
                          refine HE.out.mono ?_
                          rintro e w6 ⟨rfl, rfl⟩
                          clear HE
                          go_simp
                          go_wp2_with fail
                          go_meet
                          exact ⟨g, cap', f, _, hs, rfl, rfl, by have := HLK.out; omega, HHV5.out, HAV5.out, HS5.out⟩
                    · by_cases m4 : m = 4
                      · subst m4
                        as_aux_lemma =>
                          by_cases hg : Gd f n s tt
                          · obtain ⟨i, hsi, hin, hii, hti⟩ := hg
                            subst hsi
                            have HII := Lib.hid hii
                            have HTI := Lib.hid hti
                            clear hii hti
                            go_wp2_with fail
                            refine (endY B n f i (i : Int) tt _ HS4.out.tb rfl hin HII.out HTI.out).mono ?_
                            rintro e w5 ⟨rfl, ht5, hk5⟩
                            have HT5 := Lib.hid ht5
                            have HB5 := Lib.hid (kpB HS4.out.bl hk5 HS4.out.tb)
                            have HR5 := Lib.hid (HS4.out.rf.kp hk5 (Nat.lt_succ_self B))
                            have HO5 := Lib.hid (own_kp HS4.out.ow hk5 (Nat.lt_succ_self B))
                            have HHV5 := Lib.hid (HHV.out.kp hk5 (by omega))
                            have HAV5 := Lib.hid (HAV.out.kp hk5 (by omega))
                            clear ht5 hk5 a0 a1 a2 v0 v1
                            have v0 := HHV5.out.c0
                            have v1 := HHV5.out.c1
                            have HE := Lib.hid (end22_yes (B + 1) g n cap' (norm f) i (i : Int) tt w5 HR5.out H2.out rfl hin (by rw [norm_is]; exact HII.out) (by rw [norm_turn]; exact HTI.out))
                            rw [← norm_ended] at HE
                            go_simp
                            go_wp2_with fail
                            refine HE.out.mono ?_
                            rintro e w6 ⟨⟨g6, cap6, rfl, hr6⟩, hb6⟩
                            have HR6 := Lib.hid hr6
                            have HB6 := Lib.hid hb6
                            clear hr6 hb6 HE
                            go_simp
                            go_wp2_with fail
                            go_meet
                            exact ⟨g6, cap6, _, _, hs, rfl, rfl, by have := HLK.out; omega, HHV5.out.below HB6.out, HAV5.out.below HB6.out, ⟨HT5.out.below HB6.out, HR6.out, blB HB5.out HB6.out HT5.out, own_below HO5.out HB6.out⟩⟩
                          · have HG := Lib.hid hg
                            clear hg
                            go_wp2_with fail
                            refine (end_no B n f s tt _ HS4.out.tb HG.out).mono ?_
                            rintro e w5 ⟨rfl, hb5⟩
                            have HS5 := Lib.hid (HS4.out.below hb5)
                            have HHV5 := Lib.hid (HHV.out.below hb5)
                            have HAV5 := Lib.hid (HAV.out.below hb5)
                            clear hb5 a0 a1 a2 v0 v1
                            have v0 := HHV5.out.c0
                            have v1 := HHV5.out.c1
                            have HE := Lib.hid (end22_no (B + 1) g n cap' (norm f) s tt w5 HS5.out.rf (fun q => HG.out ((norm_gd f n s tt).1 q)))
                            go_simp
                            go_wp2_with fail
                            refine HE.out.mono ?_
                            rintro e w6 ⟨rfl, rfl⟩
                            clear HE
                            go_simp
                            go_wp2_with fail
                            go_meet
                            exact ⟨g, cap', f, _, hs, rfl, rfl, by have := HLK.out; omega, HHV5.out, HAV5.out, HS5.out⟩
                      · by_cases m0 : m = 0
                        · subst m0
                          obtain ⟨i, hin, hlow, hfree⟩ := first_free f n
                          have HLOW := Lib.hid hlow
                          have HFREE := Lib.hid hfree
                          have HIN := Lib.hid hin
                          clear hlow hfree hin
                          by_cases hi : i < n
                          · skip
                            as_aux_lemma =>
                              obtain ⟨tn, htn⟩ : ∃ tn : Nat, tn = ((f i).turn + 1) % 18446744073709551616 := ⟨_, rfl⟩
                              have HTN := Lib.hid htn
                              have HI := Lib.hid hi
                              clear htn hi
                              go_wp2_with fail
                              refine (beginY B n f x i (x : Int) (i : Int) (tn : Int) _ HS4.out.tb rfl rfl HXK.out HI.out HLOW.out (HFREE.out HI.out) (by rw [HTN.out])).mono ?_
                              rintro e w5 ⟨rfl, ht5, hk5⟩
                              have HT5 := Lib.hid ht5
                              have HB5 := Lib.hid (kpB HS4.out.bl hk5 HS4.out.tb)
                              have HR5 := Lib.hid (HS4.out.rf.kp hk5 (Nat.lt_succ_self B))
                              have HO5 := Lib.hid (own_kp HS4.out.ow hk5 (Nat.lt_succ_self B))
                              have HHV5 := Lib.hid (HHV.out.kp hk5 (by omega))
                              have HAV5 := Lib.hid (HAV.out.kp hk5 (by omega))
                              clear ht5 hk5 a0 a1 a2 v0 v1
                              have a2 : ∀ o, (w5.alloc o).cell? ⟨ba, 2, none⟩ = some (.int .u64 (x : Int)) := fun o => (HAV5.out.below ((Below.refl _ _).alloc (Nat.le_refl _) o)).c2
                              have HE := Lib.hid (fun o => begin20_any (B + 1) g n cap' (norm f) x i (w5.alloc o) (HR5.out.alloc o) H2.out (Nat.le_of_lt HI.out) (fun j hj => by rw [norm_is]; exact HLOW.out j hj) (fun h => by rw [norm_is]; exact HFREE.out h))
                              go_simp
                              go_wp2_with fail
                              refine (HE.out _).mono ?_
                              rintro e w6 ⟨⟨g6, cap6, he, hr6⟩, hb6⟩
                              rw [if_pos HI.out] at he hr6
                              rw [norm_turn, ← HTN.out] at he
                              rw [← norm_begun] at hr6
                              subst he
                              have HR6 := Lib.hid hr6
                              have HB6 := Lib.hid hb6
                              have hx6 : Hv w6 w5.heap.size (i : Int) (tn : Int) := (Hv.new w5 _ _).below hb6
                              have hal : Below w5.heap.size w5 w6 := ((Below.refl _ _).alloc (Nat.le_refl _) _).trans (hb6.mono (by simp))
                              have HAL := Lib.hid hal
                              have HX6 := Lib.hid hx6
                              have v0 := hx6.c0
                              have v1 := hx6.c1
                              have hso := own_below HO5.out hal
                              have hST6 : St w1 w6 B n g6 cap6 (begun f i x) (.slice la lk lcap) hs := ⟨HT5.out.below hal, hr6, blB HB5.out hal HT5.out, hso⟩
                              rw [← HLK.out] at hso
                              have HSO := Lib.hid hso
                              have HST6 := Lib.hid hST6
                              have HB16 : Hid (B + 1 ≤ w6.heap.size) := Lib.hid (hST6.tb.lt)
                              obtain ⟨i0, ki0, kz0, kz1, kz2⟩ := info_parts info47
                              have HI0 := Lib.hid (And.intro ki0 (And.intro kz0 (And.intro kz1 kz2)))
                              clear hr6 hb6 HE hx6 hal a2 hso hST6 ki0 kz0 kz1 kz2
                              go_simp
                              go_wp2_with (at_builtin; refine wpList_append_own _ rfl _ _ 42 rfl (B + 1) 47 i0 (.agg #[.int .i64 0, .int .u64 0]) 2 16 Try.underlying42 HI0.out.1 HI0.out.2.1 HI0.out.2.2.1 HI0.out.2.2.2 rfl (by decide) _ lk (hl hs) rfl (HSO.out.alloc _) ⟨w6.heap.size, 0, none⟩ 1 1 [.int .i64 (i : Int), .int .u64 (tn : Int)] rfl rfl ?c2 ?c3 ?c4 ?c5 ?c6 ?_)
                              case c2 => exact handle_new1 _ _ _
                              case c3 => exact handle_one _ _
                              case c4 => simp [maxLen]; omega
                              case c5 => omega
                              case c6 => have := HB16.out; simp; omega
                              intro v' w7 hown hgrow hnil
                              rw [HLK.out] at hown
                              have hp := push8 (i : Int) (tn : Int) HST6.out (HHV5.out.below HAL.out) (HAV5.out.below HAL.out) (fun e => absurd (HGC.out _ e) (Nat.lt_irrefl _)) (fun e => by have := HGC.out _ e; omega) hgrow hown
                              have HP := Lib.hid hp
                              clear hown hgrow hnil hp
                              go_simp
                              go_wp2_with fail
                              go_meet
                              exact ⟨g6, cap6, _, v', hs ++ [((i : Int), (tn : Int))], rfl, rfl, by have := HLK.out; simp; omega, HP.out.1, HP.out.2.1, HP.out.2.2⟩
                          · skip
                            as_aux_lemma =>
                              have hall : ∀ j, j < n → (f j).is = true := fun j hj => HLOW.out j (by have := HIN.out; omega)
                              have HALL := Lib.hid hall
                              clear hi hall HFREE HLOW HIN
                              go_wp2_with fail
                              refine (beginN B n f x (x : Int) _ HS4.out.tb rfl HXK.out HALL.out).mono ?_
                              rintro e w5 ⟨rfl, ht5, hk5⟩
                              have HT5 := Lib.hid ht5
                              have HB5 := Lib.hid (kpB HS4.out.bl hk5 HS4.out.tb)
                              have HR5 := Lib.hid (HS4.out.rf.kp hk5 (Nat.lt_succ_self B))
                              have HO5 := Lib.hid (own_kp HS4.out.ow hk5 (Nat.lt_succ_self B))
                              have HHV5 := Lib.hid (HHV.out.kp hk5 (by omega))
                              have HAV5 := Lib.hid (HAV.out.kp hk5 (by omega))
                              clear ht5 hk5 a0 a1 a2 v0 v1
                              have a2 : ∀ o, (w5.alloc o).cell? ⟨ba, 2, none⟩ = some (.int .u64 (x : Int)) := fun o => (HAV5.out.below ((Below.refl _ _).alloc (Nat.le_refl _) o)).c2
                              have HE := Lib.hid (fun o => begin20_any (B + 1) g n cap' (norm f) x n (w5.alloc o) (HR5.out.alloc o) H2.out (Nat.le_refl _) (fun j hj => by rw [norm_is]; exact HALL.out j hj) (fun h => absurd h (Nat.lt_irrefl _)))
                              go_simp
                              go_wp2_with fail
                              refine (HE.out _).mono ?_
                              rintro e w6 ⟨⟨g6, cap6, he, hr6⟩, hb6⟩
                              rw [if_neg (Nat.lt_irrefl _)] at he hr6
                              subst he
                              have hx6 : Hv w6 w5.heap.size 0 0 := (Hv.new w5 _ _).below hb6
                              have hal : Below w5.heap.size w5 w6 := ((Below.refl _ _).alloc (Nat.le_refl _) _).trans (hb6.mono (by simp))
                              have HAL := Lib.hid hal
                              have v0 := hx6.c0
                              have v1 := hx6.c1
                              have hso := own_below HO5.out hal
                              have hST6 : St w1 w6 B n g6 cap6 f (.slice la lk lcap) hs := ⟨HT5.out.below hal, hr6, blB HB5.out hal HT5.out, hso⟩
                              have HST6 := Lib.hid hST6
                              clear hr6 hb6 HE hx6 hal a2 hso hST6
                              go_simp
                              go_wp2_with fail
                              go_meet
                              exact ⟨g6, cap6, f, _, hs, rfl, rfl, by have := HLK.out; omega, HHV5.out.below HAL.out, HAV5.out.below HAL.out, HST6.out⟩
                        · by_cases m1 : m = 1
                          · subst m1
                            obtain ⟨i, hin, hlow, hfree⟩ := first_free f n
                            have HLOW := Lib.hid hlow
                            have HFREE := Lib.hid hfree
                            have HIN := Lib.hid hin
                            clear hlow hfree hin
                            by_cases hi : i < n
                            · skip
                              as_aux_lemma =>
                                obtain ⟨tn, htn⟩ : ∃ tn : Nat, tn = ((f i).turn + 1) % 18446744073709551616 := ⟨_, rfl⟩
                                have HTN := Lib.hid htn
                                have HI := Lib.hid hi
                                clear htn hi
                                go_wp2_with fail
                                refine (beginY B n f x i (x : Int) (i : Int) (tn : Int) _ HS4.out.tb rfl rfl HXK.out HI.out HLOW.out (HFREE.out HI.out) (by rw [HTN.out])).mono ?_
                                rintro e w5 ⟨rfl, ht5, hk5⟩
                                have HT5 := Lib.hid ht5
                                have HB5 := Lib.hid (kpB HS4.out.bl hk5 HS4.out.tb)
                                have HR5 := Lib.hid (HS4.out.rf.kp hk5 (Nat.lt_succ_self B))
                                have HO5 := Lib.hid (own_kp HS4.out.ow hk5 (Nat.lt_succ_self B))
                                have HHV5 := Lib.hid (HHV.out.kp hk5 (by omega))
                                have HAV5 := Lib.hid (HAV.out.kp hk5 (by omega))
                                clear ht5 hk5 a0 a1 a2 v0 v1
                                have a2 : ∀ o, (w5.alloc o).cell? ⟨ba, 2, none⟩ = some (.int .u64 (x : Int)) := fun o => (HAV5.out.below ((Below.refl _ _).alloc (Nat.le_refl _) o)).c2
                                have HE := Lib.hid (fun o => begin20_any (B + 1) g n cap' (norm f) x i (w5.alloc o) (HR5.out.alloc o) H2.out (Nat.le_of_lt HI.out) (fun j hj => by rw [norm_is]; exact HLOW.out j hj) (fun h => by rw [norm_is]; exact HFREE.out h))
                                go_simp
                                go_wp2_with fail
                                refine (HE.out _).mono ?_
                                rintro e w6 ⟨⟨g6, cap6, he, hr6⟩, hb6⟩
                                rw [if_pos HI.out] at he hr6
                                rw [norm_turn, ← HTN.out] at he
                                rw [← norm_begun] at hr6
                                subst he
                                have HR6 := Lib.hid hr6
                                have HB6 := Lib.hid hb6
                                have hx6 : Hv w6 w5.heap.size (i : Int) (tn : Int) := (Hv.new w5 _ _).below hb6
                                have hal : Below w5.heap.size w5 w6 := ((Below.refl _ _).alloc (Nat.le_refl _) _).trans (hb6.mono (by simp))
                                have HAL := Lib.hid hal
                                have HX6 := Lib.hid hx6
                                have v0 := hx6.c0
                                have v1 := hx6.c1
                                have hso := own_below HO5.out hal
                                have hST6 : St w1 w6 B n g6 cap6 (begun f i x) (.slice la lk lcap) hs := ⟨HT5.out.below hal, hr6, blB HB5.out hal HT5.out, hso⟩
                                rw [← HLK.out] at hso
                                have HSO := Lib.hid hso
                                have HST6 := Lib.hid hST6
                                have HB16 : Hid (B + 1 ≤ w6.heap.size) := Lib.hid (hST6.tb.lt)
                                obtain ⟨i0, ki0, kz0, kz1, kz2⟩ := info_parts info47
                                have HI0 := Lib.hid (And.intro ki0 (And.intro kz0 (And.intro kz1 kz2)))
                                clear hr6 hb6 HE hx6 hal a2 hso hST6 ki0 kz0 kz1 kz2
                                go_simp
                                go_wp2_with (at_builtin; refine wpList_append_own _ rfl _ _ 42 rfl (B + 1) 47 i0 (.agg #[.int .i64 0, .int .u64 0]) 2 16 Try.underlying42 HI0.out.1 HI0.out.2.1 HI0.out.2.2.1 HI0.out.2.2.2 rfl (by decide) _ lk (hl hs) rfl (HSO.out.alloc _) ⟨w6.heap.size, 0, none⟩ 1 1 [.int .i64 (i : Int), .int .u64 (tn : Int)] rfl rfl ?c2 ?c3 ?c4 ?c5 ?c6 ?_)
                                case c2 => exact handle_new1 _ _ _
                                case c3 => exact handle_one _ _
                                case c4 => simp [maxLen]; omega
                                case c5 => omega
                                case c6 => have := HB16.out; simp; omega
                                intro v' w7 hown hgrow hnil
                                rw [HLK.out] at hown
                                have hp := push8 (i : Int) (tn : Int) HST6.out (HHV5.out.below HAL.out) (HAV5.out.below HAL.out) (fun e => absurd (HGC.out _ e) (Nat.lt_irrefl _)) (fun e => by have := HGC.out _ e; omega) hgrow hown
                                have HP := Lib.hid hp
                                clear hown hgrow hnil hp
                                go_simp
                                go_wp2_with fail
                                go_meet
                                exact ⟨g6, cap6, _, v', hs ++ [((i : Int), (tn : Int))], rfl, rfl, by have := HLK.out; simp; omega, HP.out.1, HP.out.2.1, HP.out.2.2⟩
                            · skip
                              as_aux_lemma =>
                                have hall : ∀ j, j < n → (f j).is = true := fun j hj => HLOW.out j (by have := HIN.out; omega)
                                have HALL := Lib.hid hall
                                clear hi hall HFREE HLOW HIN
                                go_wp2_with fail
                                refine (beginN B n f x (x : Int) _ HS4.out.tb rfl HXK.out HALL.out).mono ?_
                                rintro e w5 ⟨rfl, ht5, hk5⟩
                                have HT5 := Lib.hid ht5
                                have HB5 := Lib.hid (kpB HS4.out.bl hk5 HS4.out.tb)
                                have HR5 := Lib.hid (HS4.out.rf.kp hk5 (Nat.lt_succ_self B))
                                have HO5 := Lib.hid (own_kp HS4.out.ow hk5 (Nat.lt_succ_self B))
                                have HHV5 := Lib.hid (HHV.out.kp hk5 (by omega))
                                have HAV5 := Lib.hid (HAV.out.kp hk5 (by omega))
                                clear ht5 hk5 a0 a1 a2 v0 v1
                                have a2 : ∀ o, (w5.alloc o).cell? ⟨ba, 2, none⟩ = some (.int .u64 (x : Int)) := fun o => (HAV5.out.below ((Below.refl _ _).alloc (Nat.le_refl _) o)).c2
                                have HE := Lib.hid (fun o => begin20_any (B + 1) g n cap' (norm f) x n (w5.alloc o) (HR5.out.alloc o) H2.out (Nat.le_refl _) (fun j hj => by rw [norm_is]; exact HALL.out j hj) (fun h => absurd h (Nat.lt_irrefl _)))
                                go_simp
                                go_wp2_with fail
                                refine (HE.out _).mono ?_
                                rintro e w6 ⟨⟨g6, cap6, he, hr6⟩, hb6⟩
                                rw [if_neg (Nat.lt_irrefl _)] at he hr6
                                subst he
                                have hx6 : Hv w6 w5.heap.size 0 0 := (Hv.new w5 _ _).below hb6
                                have hal : Below w5.heap.size w5 w6 := ((Below.refl _ _).alloc (Nat.le_refl _) _).trans (hb6.mono (by simp))
                                have HAL := Lib.hid hal
                                have v0 := hx6.c0
                                have v1 := hx6.c1
                                have hso := own_below HO5.out hal
                                have hST6 : St w1 w6 B n g6 cap6 f (.slice la lk lcap) hs := ⟨HT5.out.below hal, hr6, blB HB5.out hal HT5.out, hso⟩
                                have HST6 := Lib.hid hST6
                                clear hr6 hb6 HE hx6 hal a2 hso hST6
                                go_simp
                                go_wp2_with fail
                                go_meet
                                exact ⟨g6, cap6, f, _, hs, rfl, rfl, by have := HLK.out; omega, HHV5.out.below HAL.out, HAV5.out.below HAL.out, HST6.out⟩
                          · by_cases m2 : m = 2
                            · subst m2
                              obtain ⟨i, hin, hlow, hfree⟩ := first_free f n
                              have HLOW := Lib.hid hlow
                              have HFREE := Lib.hid hfree
                              have HIN := Lib.hid hin
                              clear hlow hfree hin
                              by_cases hi : i < n
                              · skip
                                as_aux_lemma =>
                                  obtain ⟨tn, htn⟩ : ∃ tn : Nat, tn = ((f i).turn + 1) % 18446744073709551616 := ⟨_, rfl⟩
                                  have HTN := Lib.hid htn
                                  have HI := Lib.hid hi
                                  clear htn hi
                                  go_wp2_with fail
                                  refine (beginY B n f x i (x : Int) (i : Int) (tn : Int) _ HS4.out.tb rfl rfl HXK.out HI.out HLOW.out (HFREE.out HI.out) (by rw [HTN.out])).mono ?_
                                  rintro e w5 ⟨rfl, ht5, hk5⟩
                                  have HT5 := Lib.hid ht5
                                  have HB5 := Lib.hid (kpB HS4.out.bl hk5 HS4.out.tb)
                                  have HR5 := Lib.hid (HS4.out.rf.kp hk5 (Nat.lt_succ_self B))
                                  have HO5 := Lib.hid (own_kp HS4.out.ow hk5 (Nat.lt_succ_self B))
                                  have HHV5 := Lib.hid (HHV.out.kp hk5 (by omega))
                                  have HAV5 := Lib.hid (HAV.out.kp hk5 (by omega))
                                  clear ht5 hk5 a0 a1 a2 v0 v1
                                  have a2 : ∀ o, (w5.alloc o).cell? ⟨ba, 2, none⟩ = some (.int .u64 (x : Int)) := fun o => (HAV5.out.below ((Below.refl _ _).alloc (Nat.le_refl _) o)).c2
                                  have HE := Lib.hid (fun o => begin20_any (B + 1) g n cap' (norm f) x i (w5.alloc o) (HR5.out.alloc o) H2.out (Nat.le_of_lt HI.out) (fun j hj => by rw [norm_is]; exact HLOW.out j hj) (fun h => by rw [norm_is]; exact HFREE.out h))
                                  go_simp
                                  go_wp2_with fail
                                  refine (HE.out _).mono ?_
                                  rintro e w6 ⟨⟨g6, cap6, he, hr6⟩, hb6⟩
                                  rw [if_pos HI.out] at he hr6
                                  rw [norm_turn, ← HTN.out] at he
                                  rw [← norm_begun] at hr6
                                  subst he
                                  have HR6 := Lib.hid hr6
                                  have HB6 := Lib.hid hb6
                                  have hx6 : Hv w6 w5.heap.size (i : Int) (tn : Int) := (Hv.new w5 _ _).below hb6
                                  have hal : Below w5.heap.size w5 w6 := ((Below.refl _ _).alloc (Nat.le_refl _) _).trans (hb6.mono (by simp))
                                  have HAL := Lib.hid hal
                                  have HX6 := Lib.hid hx6
                                  have v0 := hx6.c0
                                  have v1 := hx6.c1
                                  have hso := own_below HO5.out hal
                                  have hST6 : St w1 w6 B n g6 cap6 (begun f i x) (.slice la lk lcap) hs := ⟨HT5.out.below hal, hr6, blB HB5.out hal HT5.out, hso⟩
                                  rw [← HLK.out] at hso
                                  have HSO := Lib.hid hso
                                  have HST6 := Lib.hid hST6
                                  have HB16 : Hid (B + 1 ≤ w6.heap.size) := Lib.hid (hST6.tb.lt)
                                  obtain ⟨i0, ki0, kz0, kz1, kz2⟩ := info_parts info47
                                  have HI0 := Lib.hid (And.intro ki0 (And.intro kz0 (And.intro kz1 kz2)))
                                  clear hr6 hb6 HE hx6 hal a2 hso hST6 ki0 kz0 kz1 kz2
                                  go_simp
                                  go_wp2_with (at_builtin; refine wpList_append_own _ rfl _ _ 42 rfl (B + 1) 47 i0 (.agg #[.int .i64 0, .int .u64 0]) 2 16 Try.underlying42 HI0.out.1 HI0.out.2.1 HI0.out.2.2.1 HI0.out.2.2.2 rfl (by decide) _ lk (hl hs) rfl (HSO.out.alloc _) ⟨w6.heap.size, 0, none⟩ 1 1 [.int .i64 (i : Int), .int .u64 (tn : Int)] rfl rfl ?c2 ?c3 ?c4 ?c5 ?c6 ?_)
                                  case c2 => exact handle_new1 _ _ _
                                  case c3 => exact handle_one _ _
                                  case c4 => simp [maxLen]; omega
                                  case c5 => omega
                                  case c6 => have := HB16.out; simp; omega
                                  intro v' w7 hown hgrow hnil
                                  rw [HLK.out] at hown
                                  have hp := push8 (i : Int) (tn : Int) HST6.out (HHV5.out.below HAL.out) (HAV5.out.below HAL.out) (fun e => absurd (HGC.out _ e) (Nat.lt_irrefl _)) (fun e => by have := HGC.out _ e; omega) hgrow hown
                                  have HP := Lib.hid hp
                                  clear hown hgrow hnil hp
                                  go_simp
                                  go_wp2_with fail
                                  go_meet
                                  exact ⟨g6, cap6, _, v', hs ++ [((i : Int), (tn : Int))], rfl, rfl, by have := HLK.out; simp; omega, HP.out.1, HP.out.2.1, HP.out.2.2⟩
                              · skip
                                as_aux_lemma =>
                                  have hall : ∀ j, j < n → (f j).is = true := fun j hj => HLOW.out j (by have := HIN.out; omega)
                                  have HALL := Lib.hid hall
                                  clear hi hall HFREE HLOW HIN
                                  go_wp2_with fail
                                  refine (beginN B n f x (x : Int) _ HS4.out.tb rfl HXK.out HALL.out).mono ?_
                                  rintro e w5 ⟨rfl, ht5, hk5⟩
                                  have HT5 := Lib.hid ht5
                                  have HB5 := Lib.hid (kpB HS4.out.bl hk5 HS4.out.tb)
                                  have HR5 := Lib.hid (HS4.out.rf.kp hk5 (Nat.lt_succ_self B))
                                  have HO5 := Lib.hid (own_kp HS4.out.ow hk5 (Nat.lt_succ_self B))
                                  have HHV5 := Lib.hid (HHV.out.kp hk5 (by omega))
                                  have HAV5 := Lib.hid (HAV.out.kp hk5 (by omega))
                                  clear ht5 hk5 a0 a1 a2 v0 v1
                                  have a2 : ∀ o, (w5.alloc o).cell? ⟨ba, 2, none⟩ = some (.int .u64 (x : Int)) := fun o => (HAV5.out.below ((Below.refl _ _).alloc (Nat.le_refl _) o)).c2
                                  have HE := Lib.hid (fun o => begin20_any (B + 1) g n cap' (norm f) x n (w5.alloc o) (HR5.out.alloc o) H2.out (Nat.le_refl _) (fun j hj => by rw [norm_is]; exact HALL.out j hj) (fun h => absurd h (Nat.lt_irrefl _)))
                                  go_simp
                                  go_wp2_with fail
                                  refine (HE.out _).mono ?_
                                  rintro e w6 ⟨⟨g6, cap6, he, hr6⟩, hb6⟩
                                  rw [if_neg (Nat.lt_irrefl _)] at he hr6
                                  subst he
                                  have hx6 : Hv w6 w5.heap.size 0 0 := (Hv.new w5 _ _).below hb6
                                  have hal : Below w5.heap.size w5 w6 := ((Below.refl _ _).alloc (Nat.le_refl _) _).trans (hb6.mono (by simp))
                                  have HAL := Lib.hid hal
                                  have v0 := hx6.c0
                                  have v1 := hx6.c1
                                  have hso := own_below HO5.out hal
                                  have hST6 : St w1 w6 B n g6 cap6 f (.slice la lk lcap) hs := ⟨HT5.out.below hal, hr6, blB HB5.out hal HT5.out, hso⟩
                                  have HST6 := Lib.hid hST6
                                  clear hr6 hb6 HE hx6 hal a2 hso hST6
                                  go_simp
                                  go_wp2_with fail
                                  go_meet
                                  exact ⟨g6, cap6, f, _, hs, rfl, rfl, by have := HLK.out; omega, HHV5.out.below HAL.out, HAV5.out.below HAL.out, HST6.out⟩
                            · go_wp2_with fail
                              go_meet
                              exact ⟨g, cap', f, _, hs, rfl, rfl, by have := HLK.out; omega, HHV.out, HAV.out, HS4.out⟩
              case rest =>
                as_aux_lemma =>
                  obtain ⟨g', cap2, f', lv', hs', rfl, rfl, hsk', hhv, hav, hst⟩ := hcut
                  clear HS4 HHV HAV HLA HLK HGB HGC HC hsk
                  have HHV := Lib.hid hhv
                  have HAV := Lib.hid hav
                  have HS := Lib.hid hst
                  clear hhv hav hst
                  have v0 := HHV.out.c0
                  have v1 := HHV.out.c1
                  by_cases hg : Gd f' n s tt
                  · obtain ⟨i, hsi, hin, hii, hti⟩ := hg
                    subst hsi
                    have HII := Lib.hid hii
                    have HTI := Lib.hid hti
                    clear hii hti
                    go_wp2_with fail
                    refine (txnY B n f' i (i : Int) tt ((f' i).txn : Int) _ HS.out.tb rfl hin HII.out HTI.out rfl).mono ?_
                    rintro e w5 ⟨rfl, hb5⟩
                    have HS5 := Lib.hid (HS.out.below hb5)
                    have HHV5 := Lib.hid (HHV.out.below hb5)
                    have HAV5 := Lib.hid (HAV.out.below hb5)
                    have HGD := Lib.hid (good28_gd (B + 1) g' n cap2 (norm f') (i : Int) tt w5 HS5.out.rf ((norm_gd f' n (i : Int) tt).2 ⟨i, rfl, hin, HII.out, HTI.out⟩))
                    clear hb5 v0 v1
                    have v0 := HHV5.out.c0
                    have v1 := HHV5.out.c1
                    have v2 := HS5.out.rf.txn i hin
                    rw [norm_on f' i HII.out] at v2
                    generalize ((f' i).txn : Int) = ftx at *
                    have a2 := HAV5.out.c2
                    have HO1 := Lib.hid (fun (m1 : Nat) => (oldest_any B n f' x (w5.drewN m1) HS5.out.tb).mono fun _ w'' (h : _ ∧ _) => (⟨h.1, m1, h.2.symm⟩ : _ ∧ ∃ n, w'' = w5.drewN n))
                    have HO2 := Lib.hid (fun (m1 : Nat) => (oldest30 (B + 1) g' n cap2 (norm f') x (w5.drewN m1) HS5.out.rf H2.out).mono fun _ w'' (h : _ ∧ _) => (⟨h.1, m1, h.2.symm⟩ : _ ∧ ∃ n, w'' = w5.drewN n))
                    have HO3 := Lib.hid (fun (m1 : Nat) => (live_any B n f' (w5.drewN m1) HS5.out.tb).mono fun _ w'' (h : _ ∧ _) => (⟨h.1, m1, h.2.symm⟩ : _ ∧ ∃ n, w'' = w5.drewN n))
                    have HO4 := Lib.hid (fun (m1 : Nat) => (live32 (B + 1) g' n cap2 (norm f') (w5.drewN m1) HS5.out.rf H2.out).mono fun _ w'' (h : _ ∧ _) => (⟨h.1, m1, h.2.symm⟩ : _ ∧ ∃ n, w'' = w5.drewN n))
                    rw [norm_oldest] at HO2
                    rw [norm_live] at HO4
                    generalize ((oldest f' x n : Nat) : Int) = ovv at *
                    generalize ((live f' n : Nat) : Int) = lvv at *
                    go_simp
                    go_wp2_with (go_at_call 28; refine HGD.out.mono ?_; rintro e w6 ⟨rfl, rfl⟩)
                    go_quiet ((first | (go_at_call 29; exact HO1.out _) | (go_at_call 30; exact HO2.out _) | (go_at_call 31; exact HO3.out _) | (go_at_call 32; exact HO4.out _)))
                    go_wp2
                    go_roundg (60 - (k + 1))
                    case measure => omega
                    case rel => exact ⟨k + 1, g', cap2, f', _, hs', by omega, by omega, rfl, rfl, rfl, by go_num, hsk', ⟨HS5.out.tb, HS5.out.rf, dN HS5.out.bl _, HS5.out.ow⟩⟩
                  · have HG := Lib.hid hg
                    clear hg
                    go_wp2_with fail
                    refine (txn_no B n f' s tt _ HS.out.tb HG.out).mono ?_
                    rintro e w5 ⟨rfl, hb5⟩
                    have HS5 := Lib.hid (HS.out.below hb5)
                    have HHV5 := Lib.hid (HHV.out.below hb5)
                    have HAV5 := Lib.hid (HAV.out.below hb5)
                    have HGD := Lib.hid (good28_no (B + 1) g' n cap2 (norm f') s tt w5 HS5.out.rf (fun q => HG.out ((norm_gd f' n s tt).1 q)))
                    clear hb5 v0 v1
                    have v0 := HHV5.out.c0
                    have v1 := HHV5.out.c1
                    have a2 := HAV5.out.c2
                    have HO1 := Lib.hid (fun (m1 : Nat) => (oldest_any B n f' x (w5.drewN m1) HS5.out.tb).mono fun _ w'' (h : _ ∧ _) => (⟨h.1, m1, h.2.symm⟩ : _ ∧ ∃ n, w'' = w5.drewN n))
                    have HO2 := Lib.hid (fun (m1 : Nat) => (oldest30 (B + 1) g' n cap2 (norm f') x (w5.drewN m1) HS5.out.rf H2.out).mono fun _ w'' (h : _ ∧ _) => (⟨h.1, m1, h.2.symm⟩ : _ ∧ ∃ n, w'' = w5.drewN n))
                    have HO3 := Lib.hid (fun (m1 : Nat) => (live_any B n f' (w5.drewN m1) HS5.out.tb).mono fun _ w'' (h : _ ∧ _) => (⟨h.1, m1, h.2.symm⟩ : _ ∧ ∃ n, w'' = w5.drewN n))
                    have HO4 := Lib.hid (fun (m1 : Nat) => (live32 (B + 1) g' n cap2 (norm f') (w5.drewN m1) HS5.out.rf H2.out).mono fun _ w'' (h : _ ∧ _) => (⟨h.1, m1, h.2.symm⟩ : _ ∧ ∃ n, w'' = w5.drewN n))
                    rw [norm_oldest] at HO2
                    rw [norm_live] at HO4
                    generalize ((oldest f' x n : Nat) : Int) = ovv at *
                    generalize ((live f' n : Nat) : Int) = lvv at *
                    go_simp
                    go_wp2_with (go_at_call 28; refine HGD.out.mono ?_; rintro e w6 ⟨rfl, rfl⟩)
                    go_quiet ((first | (go_at_call 29; exact HO1.out _) | (go_at_call 30; exact HO2.out _) | (go_at_call 31; exact HO3.out _) | (go_at_call 32; exact HO4.out _)))
                    go_wp2
                    go_roundg (60 - (k + 1))
                    case measure => omega
                    case rel => exact ⟨k + 1, g', cap2, f', _, hs', by omega, by omega, rfl, rfl, rfl, by go_num, hsk', ⟨HS5.out.tb, HS5.out.rf, dN HS5.out.bl _, HS5.out.ow⟩⟩
        · obtain rfl : k = 60 := by omega
          have hlti : (60 : Int) < (len : Int) := by omega
          go_wp2
          go_meet
          exact HB1.out.trans (HS.out.bl.mono (by rw [HBB.out]; exact HB1.out.size))
      · obtain rfl : k = len := by omega
        go_wp2
        go_meet
        exact HB1.out.trans (HS.out.bl.mono (by rw [HBB.out]; exact HB1.out.size))
end Go.Proofs.Ytlgammcbhgmpoaa

