/-
  The walk of DeadlinesKnots.
-/
import Derived.Test.YtcppijoccolmkaaS
import Derived.OpenShut
namespace Go.Proofs.Ytcppijoccolmkaa
open Go.RowKit

set_option maxHeartbeats 4000000 in
set_option maxRecDepth 100000 in
theorem Knots_A_out (due grace : Int) (lin : Bool) (A : Option Addr) (c : Nat) (l : List (Int × Int)) (iN k : Nat) (late : Int) (w : World)
    (hs : StepsAt w w.heap.size A l) (h20 : l.length ≤ 20) (hl0 : 0 < l.length) (hi : iN ≤ 255) (hk : iN % l.length = k) (hv : vldB due grace l = true) (xa xp ya yp : Int) (hx : l.getD k (0, 0) = (xa, xp)) (hy : l.getD (k + 1) (0, 0) = (ya, yp)) (h9 : 0 < xa) (ht : late < 0 ∨ 1099511627776 < late ∨ late ≤ xa) :
    Calls Try.prog 4 #[.agg #[.int .i64 due, .int .i64 grace, .bool lin, .slice A l.length c], .int .u8 iN, .int .i64 late] w fun e w' => e = .returned (.bool true) ∧ Below w.heap.size w w' := by
  have HB0 := Lib.hid ((Below.refl _ w).alloc (Nat.le_refl _) (polObj due grace lin A l.length c))
  have g20 : decide ((20 : Int) < (l.length : Int)) = false := by simp; omega
  have g0 : ((l.length : Int) == 0) = false := beq_eq_false_iff_ne.2 (by omega)
  have g1 : (1 : Int) ≤ (l.length : Int) := by omega
  have hkl : k < l.length := by rw [← hk]; exact Nat.mod_lt _ hl0
  have hkm : (iN : Int) % (l.length : Int) = (k : Int) := by rw [← hk]; simp
  have hi0 : (0 : Int) ≤ (iN : Int) := by omega
  have hi1 : (iN : Int) ≤ 255 := by omega
  obtain ⟨_, _, hok⟩ := vld_parts hv
  have hrx := okAt_rng (okTo_at hkl hok)
  rw [hx] at hrx
  obtain ⟨⟨xa0, xa1⟩, xp0, xp1⟩ := hrx
  dsimp only at xa0 xa1 xp0 xp1
  have hFa : fac true l xa = 100 * xp := by have := knot_at hok hkl (by rw [hx]; exact h9); rw [hx] at this; exact this
  obtain ⟨f1, f2, hf⟩ : ∃ f1 f2 : Int, (f1, f2) = fr xp 100 := ⟨_, _, rfl⟩
  have of := frOk_pct xp0 xp1
  rw [← hf] at of
  have HM : Hid (∀ X, Calls Try.prog 14 #[.int .i64 xp, .int .i64 100] X fun e w' => e = .returned (.tuple #[.agg #[.int .i64 f1, .int .i64 f2], .int .i64 0]) ∧ Below X.heap.size X w') := Lib.hid fun X => by
    have q := rMake_ok xp 100 X xp0 (by omega) (by omega) (by omega)
    have e1 : f1 = xp / (Int.gcd xp 100 : Nat) := congrArg Prod.fst hf
    have e2 : f2 = 100 / (Int.gcd xp 100 : Nat) := congrArg Prod.snd hf
    rw [e1, e2]; exact q
  have HOF := Lib.hid of
  have HFr := Lib.hid hf
  have HT := Lib.hid ht
  have HFa := Lib.hid hFa
  have HX := Lib.hid hx
  have HY := Lib.hid hy
  have HS0 := Lib.hid hs
  have HOK := Lib.hid hok
  clear hx hy hok of hf hk ht hFa hs
  go_enter Try.func4, Try.ntmps4
  go_wp2_with fail
  refine (awake_any _).mono ?_
  rintro e w1 ⟨rfl, hb1⟩
  have hz1 := hb1.size
  simp only [World.size_alloc] at hz1
  have hB1 := hb1.mono (B' := w.heap.size + 1) (by simp)
  have HB1 := Lib.hid (HB0.out.trans (hb1.mono (by simp)))
  have c0 : w1.cell? ⟨w.heap.size, 0, none⟩ = some (.int .i64 due) := by rw [bcell hB1 _ _ (by omega)]; simp [go_sem]
  have c1 : w1.cell? ⟨w.heap.size, 1, none⟩ = some (.int .i64 grace) := by rw [bcell hB1 _ _ (by omega)]; simp [go_sem]
  have c2 : w1.cell? ⟨w.heap.size, 2, none⟩ = some (.bool lin) := by rw [bcell hB1 _ _ (by omega)]; simp [go_sem]
  have c3 : w1.cell? ⟨w.heap.size, 3, none⟩ = some (.slice A l.length c) := by rw [bcell hB1 _ _ (by omega)]; simp [go_sem]
  have z2 : w1.frozen? ⟨w.heap.size, 2, none⟩ = false := by rw [(bboth hB1).2 _ _ (by omega)]; simp [go_sem]
  have gz : w.heap.size < w1.heap.size := by omega
  clear hb1 hB1 HB0
  go_wp2_with fail
  obtain ⟨W1, hW1⟩ : ∃ W1, W1 = w1.setCell ⟨w.heap.size, 2, none⟩ (.bool true) := ⟨_, rfl⟩
  rw [← hW1]
  have q0 : W1.cell? ⟨w.heap.size, 0, none⟩ = some (.int .i64 due) := by rw [hW1, cs_far (by omega)]; exact c0
  have q1 : W1.cell? ⟨w.heap.size, 1, none⟩ = some (.int .i64 grace) := by rw [hW1, cs_far (by omega)]; exact c1
  have q2 : W1.cell? ⟨w.heap.size, 2, none⟩ = some (.bool true) := by rw [hW1, cs_same (by rw [c2]; rfl)]
  have q3 : W1.cell? ⟨w.heap.size, 3, none⟩ = some (.slice A l.length c) := by rw [hW1, cs_far (by omega)]; exact c3
  have hWB1 : Below w.heap.size w W1 := by rw [hW1]; exact HB1.out.setCell (p := ⟨w.heap.size, 2, none⟩) (by dsimp only; omega) _
  have gW1 : w.heap.size < W1.heap.size := World.block_lt_of_cell? W1 ⟨w.heap.size, 0, none⟩ q0
  have HSW1 := Lib.hid ((HS0.out.below hWB1).more (Nat.le_of_lt gW1))
  have HWB1 := Lib.hid hWB1
  have H0 : Hid (PS W1 w.heap.size due grace true A l.length c W1) := ⟨⟨⟨q0, q1⟩, q2, q3⟩, Below.refl _ _⟩
  clear hW1 hWB1 c0 c1 c2 c3 z2 hz1 gz HB1
  refine (Valid_any _ _ _ _ _ _ _ HSW1.out (by omega)).mono ?_
  rintro e w2 ⟨rfl, hb2⟩
  obtain ⟨⟨⟨d0, d1⟩, d2, d3⟩, _⟩ := ps_of H0.out hb2
  have hz2 := hb2.size
  obtain ⟨b, off, hA, hbl, hc⟩ := (HSW1.out.later hb2) hl0
  subst hA
  have s0 := (hc k hkl).1
  have s1 := (hc k hkl).2
  rw [HX.out] at s0 s1
  dsimp only at s0 s1
  have HB2 := Lib.hid hb2
  clear hb2 hc q0 q1 q2 q3
  go_wp2_with fail
  refine (HM.out _).mono ?_
  rintro e w3 ⟨rfl, hb3⟩
  have hz3 := hb3.size
  simp only [World.size_alloc] at hz3
  have hB3 : Below W1.heap.size W1 w3 := (HB2.out.alloc HB2.out.size _).trans (hb3.mono (by simp; omega))
  have x0 : w3.cell? ⟨w2.heap.size, 0, none⟩ = some (.int .i64 xa) := by rw [bcell hb3 _ _ (by simp)]; simp [go_sem]
  have x1 : w3.cell? ⟨w2.heap.size, 1, none⟩ = some (.int .i64 xp) := by rw [bcell hb3 _ _ (by simp)]; simp [go_sem]
  have HB3 := Lib.hid hB3
  clear hb3 hB3 d0 d1 d2 d3 s0 s1
  go_wp2_with fail
  obtain ⟨W, hW⟩ : ∃ W, W = w3.alloc (.cells #[.int .i64 f1, .int .i64 f2] 27) := ⟨_, rfl⟩
  rw [← hW]
  have hWB : Below W1.heap.size W1 W := by rw [hW]; exact HB3.out.alloc HB3.out.size _
  have hWs : w3.heap.size < W.heap.size := by rw [hW]; simp
  have m0 : W.cell? ⟨w3.heap.size, 0, none⟩ = some (.int .i64 f1) := by rw [hW]; simp [go_sem]
  have m1 : W.cell? ⟨w3.heap.size, 1, none⟩ = some (.int .i64 f2) := by rw [hW]; simp [go_sem]
  have n0 : W.cell? ⟨w2.heap.size, 0, none⟩ = some (.int .i64 xa) := by rw [hW, World.cell?_alloc_lt _ _ _ (by dsimp only; omega)]; exact x0
  have n1 : W.cell? ⟨w2.heap.size, 1, none⟩ = some (.int .i64 xp) := by rw [hW, World.cell?_alloc_lt _ _ _ (by dsimp only; omega)]; exact x1
  have hK : ∀ X, Below W.heap.size W X → ((((X.cell? ⟨w.heap.size, 0, none⟩ = some (.int .i64 due) ∧ X.cell? ⟨w.heap.size, 1, none⟩ = some (.int .i64 grace)) ∧ (X.cell? ⟨w.heap.size, 2, none⟩ = some (.bool true) ∧ X.cell? ⟨w.heap.size, 3, none⟩ = some (.slice (some ⟨b, off, none⟩) l.length c))) ∧ (X.cell? ⟨w2.heap.size, 0, none⟩ = some (.int .i64 xa) ∧ X.cell? ⟨w2.heap.size, 1, none⟩ = some (.int .i64 xp))) ∧ (X.cell? ⟨w3.heap.size, 0, none⟩ = some (.int .i64 f1) ∧ X.cell? ⟨w3.heap.size, 1, none⟩ = some (.int .i64 f2))) ∧ Below W.heap.size W X := fun X hX => by
    have hc := bcell hX
    exact ⟨⟨⟨(ps_of H0.out (hWB.trans (hX.mono hWB.size))).1, (hc _ _ (by omega)).trans n0, (hc _ _ (by omega)).trans n1⟩, (hc _ _ hWs).trans m0, (hc _ _ hWs).trans m1⟩, hX⟩
  have HSW := Lib.hid (HSW1.out.later hWB)
  have HF9 : Hid (∀ X, Below W.heap.size W X → Calls Try.prog 11 #[.agg #[.int .i64 due, .int .i64 grace, .bool true, .slice (some ⟨b, off, none⟩) l.length c], .int .i64 xa] X fun e w' => e = .returned (.agg #[.int .i64 f1, .int .i64 f2]) ∧ Below X.heap.size X w') := Lib.hid fun X hX => Factor_val due grace true _ c l xa X (HSW.out.later hX) (by omega) hv xa0 xa1 f1 f2 (by rw [HFa.out, fr_pct]; exact HFr.out)
  have HK := Lib.hid hK
  have HWB := Lib.hid (HWB1.out.trans (hWB.mono (Nat.le_of_lt gW1)))
  have hKd := hK _ (Below.refl _ _)
  obtain ⟨⟨⟨⟨⟨e0, e1⟩, e2, e3⟩, e4, e5⟩, e6, e7⟩, _⟩ := hKd
  clear hK hWB hW m0 m1 n0 n1 x0 x1
  have h9' : decide (0 < xa) = true := by simpa using h9
  go_region_held3 (fun X => ((((X.cell? ⟨w.heap.size, 0, none⟩ = some (.int .i64 due) ∧ X.cell? ⟨w.heap.size, 1, none⟩ = some (.int .i64 grace)) ∧ (X.cell? ⟨w.heap.size, 2, none⟩ = some (.bool true) ∧ X.cell? ⟨w.heap.size, 3, none⟩ = some (.slice (some ⟨b, off, none⟩) l.length c))) ∧ (X.cell? ⟨w2.heap.size, 0, none⟩ = some (.int .i64 xa) ∧ X.cell? ⟨w2.heap.size, 1, none⟩ = some (.int .i64 xp))) ∧ (X.cell? ⟨w3.heap.size, 0, none⟩ = some (.int .i64 f1) ∧ X.cell? ⟨w3.heap.size, 1, none⟩ = some (.int .i64 f2))) ∧ Below W.heap.size W X)
    (first | exact HK.out _ (Below.refl _ _).drew | exact HK.out _ hB4)
    (first | (go_at_call 11; refine (HF9.out _ (Below.refl _ _).drew).mono ?_; rintro e w4 ⟨rfl, hb4⟩; have hB4 := (Below.refl W.heap.size W).drew.trans (hb4.mono (Nat.le_refl _))))
  all_goals
    have HB4 := Lib.hid hB4
    clear hb4 hB4 e0 e1 e2 e3 e4 e5 e6 e7
    obtain ⟨⟨⟨⟨⟨e0, e1⟩, e2, e3⟩, e4, e5⟩, e6, e7⟩, _⟩ := HK.out _ HB4.out
    have hz4 := HB4.out.size
    have gw4 : w.heap.size < w4.heap.size := by omega
    have gx4 : w2.heap.size < w4.heap.size := by omega
    have gf4 : w3.heap.size < w4.heap.size := by omega
    rcases Int.lt_or_le late 0 with h1 | h1
    · go_wp2_with fail
      go_ret
      exact ⟨rfl, HWB.out.trans (HB4.out.mono HWB.out.size)⟩
    · have h1' : decide (late < 0) = false := by simp; omega
      rcases Int.lt_or_le 1099511627776 late with h2 | h2
      · go_wp2_with fail
        go_ret
        exact ⟨rfl, HWB.out.trans (HB4.out.mono HWB.out.size)⟩
      · have h2' : decide (1099511627776 < late) = false := by simp; omega
        have h3 : late ≤ xa := by have := HT.out; omega
        go_wp2_with fail
        go_ret
        exact ⟨rfl, HWB.out.trans (HB4.out.mono HWB.out.size)⟩

set_option maxHeartbeats 4000000 in
set_option maxRecDepth 100000 in
theorem Knots_A_far (due grace : Int) (lin : Bool) (A : Option Addr) (c : Nat) (l : List (Int × Int)) (iN k : Nat) (late : Int) (w : World)
    (hs : StepsAt w w.heap.size A l) (h20 : l.length ≤ 20) (hl0 : 0 < l.length) (hi : iN ≤ 255) (hk : iN % l.length = k) (hv : vldB due grace l = true) (xa xp ya yp : Int) (hx : l.getD k (0, 0) = (xa, xp)) (hy : l.getD (k + 1) (0, 0) = (ya, yp)) (h9 : 0 < xa) (ht0 : 0 ≤ late) (ht1 : late ≤ 1099511627776) (ht2 : xa < late) (hk1 : k + 1 < l.length) (ht3 : ya < late) :
    Calls Try.prog 4 #[.agg #[.int .i64 due, .int .i64 grace, .bool lin, .slice A l.length c], .int .u8 iN, .int .i64 late] w fun e w' => e = .returned (.bool true) ∧ Below w.heap.size w w' := by
  have HB0 := Lib.hid ((Below.refl _ w).alloc (Nat.le_refl _) (polObj due grace lin A l.length c))
  have g20 : decide ((20 : Int) < (l.length : Int)) = false := by simp; omega
  have g0 : ((l.length : Int) == 0) = false := beq_eq_false_iff_ne.2 (by omega)
  have g1 : (1 : Int) ≤ (l.length : Int) := by omega
  have hkl : k < l.length := by rw [← hk]; exact Nat.mod_lt _ hl0
  have hkm : (iN : Int) % (l.length : Int) = (k : Int) := by rw [← hk]; simp
  have hi0 : (0 : Int) ≤ (iN : Int) := by omega
  have hi1 : (iN : Int) ≤ 255 := by omega
  obtain ⟨_, _, hok⟩ := vld_parts hv
  have hrx := okAt_rng (okTo_at hkl hok)
  rw [hx] at hrx
  obtain ⟨⟨xa0, xa1⟩, xp0, xp1⟩ := hrx
  dsimp only at xa0 xa1 xp0 xp1
  have hFa : fac true l xa = 100 * xp := by have := knot_at hok hkl (by rw [hx]; exact h9); rw [hx] at this; exact this
  have hry := okAt_rng (okTo_at hk1 hok)
  rw [hy] at hry
  obtain ⟨⟨ya0, ya1⟩, yp0, yp1⟩ := hry
  dsimp only at ya0 ya1 yp0 yp1
  have i2 : ((k : Int) + 1).toNat = k + 1 := by omega
  have i3 : (k : Int) + 1 < (l.length : Int) := by omega
  have i4 : (0 : Int) ≤ (k : Int) + 1 := by omega
  obtain ⟨f1, f2, hf⟩ : ∃ f1 f2 : Int, (f1, f2) = fr xp 100 := ⟨_, _, rfl⟩
  have of := frOk_pct xp0 xp1
  rw [← hf] at of
  have HM : Hid (∀ X, Calls Try.prog 14 #[.int .i64 xp, .int .i64 100] X fun e w' => e = .returned (.tuple #[.agg #[.int .i64 f1, .int .i64 f2], .int .i64 0]) ∧ Below X.heap.size X w') := Lib.hid fun X => by
    have q := rMake_ok xp 100 X xp0 (by omega) (by omega) (by omega)
    have e1 : f1 = xp / (Int.gcd xp 100 : Nat) := congrArg Prod.fst hf
    have e2 : f2 = 100 / (Int.gcd xp 100 : Nat) := congrArg Prod.snd hf
    rw [e1, e2]; exact q
  have HOF := Lib.hid of
  have HFr := Lib.hid hf
  have HFa := Lib.hid hFa
  have HX := Lib.hid hx
  have HY := Lib.hid hy
  have HS0 := Lib.hid hs
  have HOK := Lib.hid hok
  clear hx hy hok of hf hk hFa hs
  go_enter Try.func4, Try.ntmps4
  go_wp2_with fail
  refine (awake_any _).mono ?_
  rintro e w1 ⟨rfl, hb1⟩
  have hz1 := hb1.size
  simp only [World.size_alloc] at hz1
  have hB1 := hb1.mono (B' := w.heap.size + 1) (by simp)
  have HB1 := Lib.hid (HB0.out.trans (hb1.mono (by simp)))
  have c0 : w1.cell? ⟨w.heap.size, 0, none⟩ = some (.int .i64 due) := by rw [bcell hB1 _ _ (by omega)]; simp [go_sem]
  have c1 : w1.cell? ⟨w.heap.size, 1, none⟩ = some (.int .i64 grace) := by rw [bcell hB1 _ _ (by omega)]; simp [go_sem]
  have c2 : w1.cell? ⟨w.heap.size, 2, none⟩ = some (.bool lin) := by rw [bcell hB1 _ _ (by omega)]; simp [go_sem]
  have c3 : w1.cell? ⟨w.heap.size, 3, none⟩ = some (.slice A l.length c) := by rw [bcell hB1 _ _ (by omega)]; simp [go_sem]
  have z2 : w1.frozen? ⟨w.heap.size, 2, none⟩ = false := by rw [(bboth hB1).2 _ _ (by omega)]; simp [go_sem]
  have gz : w.heap.size < w1.heap.size := by omega
  clear hb1 hB1 HB0
  go_wp2_with fail
  obtain ⟨W1, hW1⟩ : ∃ W1, W1 = w1.setCell ⟨w.heap.size, 2, none⟩ (.bool true) := ⟨_, rfl⟩
  rw [← hW1]
  have q0 : W1.cell? ⟨w.heap.size, 0, none⟩ = some (.int .i64 due) := by rw [hW1, cs_far (by omega)]; exact c0
  have q1 : W1.cell? ⟨w.heap.size, 1, none⟩ = some (.int .i64 grace) := by rw [hW1, cs_far (by omega)]; exact c1
  have q2 : W1.cell? ⟨w.heap.size, 2, none⟩ = some (.bool true) := by rw [hW1, cs_same (by rw [c2]; rfl)]
  have q3 : W1.cell? ⟨w.heap.size, 3, none⟩ = some (.slice A l.length c) := by rw [hW1, cs_far (by omega)]; exact c3
  have hWB1 : Below w.heap.size w W1 := by rw [hW1]; exact HB1.out.setCell (p := ⟨w.heap.size, 2, none⟩) (by dsimp only; omega) _
  have gW1 : w.heap.size < W1.heap.size := World.block_lt_of_cell? W1 ⟨w.heap.size, 0, none⟩ q0
  have HSW1 := Lib.hid ((HS0.out.below hWB1).more (Nat.le_of_lt gW1))
  have HWB1 := Lib.hid hWB1
  have H0 : Hid (PS W1 w.heap.size due grace true A l.length c W1) := ⟨⟨⟨q0, q1⟩, q2, q3⟩, Below.refl _ _⟩
  clear hW1 hWB1 c0 c1 c2 c3 z2 hz1 gz HB1
  refine (Valid_any _ _ _ _ _ _ _ HSW1.out (by omega)).mono ?_
  rintro e w2 ⟨rfl, hb2⟩
  obtain ⟨⟨⟨d0, d1⟩, d2, d3⟩, _⟩ := ps_of H0.out hb2
  have hz2 := hb2.size
  obtain ⟨b, off, hA, hbl, hc⟩ := (HSW1.out.later hb2) hl0
  subst hA
  have s0 := (hc k hkl).1
  have s1 := (hc k hkl).2
  rw [HX.out] at s0 s1
  dsimp only at s0 s1
  have HB2 := Lib.hid hb2
  clear hb2 hc q0 q1 q2 q3
  go_wp2_with fail
  refine (HM.out _).mono ?_
  rintro e w3 ⟨rfl, hb3⟩
  have hz3 := hb3.size
  simp only [World.size_alloc] at hz3
  have hB3 : Below W1.heap.size W1 w3 := (HB2.out.alloc HB2.out.size _).trans (hb3.mono (by simp; omega))
  have x0 : w3.cell? ⟨w2.heap.size, 0, none⟩ = some (.int .i64 xa) := by rw [bcell hb3 _ _ (by simp)]; simp [go_sem]
  have x1 : w3.cell? ⟨w2.heap.size, 1, none⟩ = some (.int .i64 xp) := by rw [bcell hb3 _ _ (by simp)]; simp [go_sem]
  have HB3 := Lib.hid hB3
  clear hb3 hB3 d0 d1 d2 d3 s0 s1
  go_wp2_with fail
  obtain ⟨W, hW⟩ : ∃ W, W = w3.alloc (.cells #[.int .i64 f1, .int .i64 f2] 27) := ⟨_, rfl⟩
  rw [← hW]
  have hWB : Below W1.heap.size W1 W := by rw [hW]; exact HB3.out.alloc HB3.out.size _
  have hWs : w3.heap.size < W.heap.size := by rw [hW]; simp
  have m0 : W.cell? ⟨w3.heap.size, 0, none⟩ = some (.int .i64 f1) := by rw [hW]; simp [go_sem]
  have m1 : W.cell? ⟨w3.heap.size, 1, none⟩ = some (.int .i64 f2) := by rw [hW]; simp [go_sem]
  have n0 : W.cell? ⟨w2.heap.size, 0, none⟩ = some (.int .i64 xa) := by rw [hW, World.cell?_alloc_lt _ _ _ (by dsimp only; omega)]; exact x0
  have n1 : W.cell? ⟨w2.heap.size, 1, none⟩ = some (.int .i64 xp) := by rw [hW, World.cell?_alloc_lt _ _ _ (by dsimp only; omega)]; exact x1
  have hK : ∀ X, Below W.heap.size W X → ((((X.cell? ⟨w.heap.size, 0, none⟩ = some (.int .i64 due) ∧ X.cell? ⟨w.heap.size, 1, none⟩ = some (.int .i64 grace)) ∧ (X.cell? ⟨w.heap.size, 2, none⟩ = some (.bool true) ∧ X.cell? ⟨w.heap.size, 3, none⟩ = some (.slice (some ⟨b, off, none⟩) l.length c))) ∧ (X.cell? ⟨w2.heap.size, 0, none⟩ = some (.int .i64 xa) ∧ X.cell? ⟨w2.heap.size, 1, none⟩ = some (.int .i64 xp))) ∧ (X.cell? ⟨w3.heap.size, 0, none⟩ = some (.int .i64 f1) ∧ X.cell? ⟨w3.heap.size, 1, none⟩ = some (.int .i64 f2))) ∧ Below W.heap.size W X := fun X hX => by
    have hc := bcell hX
    exact ⟨⟨⟨(ps_of H0.out (hWB.trans (hX.mono hWB.size))).1, (hc _ _ (by omega)).trans n0, (hc _ _ (by omega)).trans n1⟩, (hc _ _ hWs).trans m0, (hc _ _ hWs).trans m1⟩, hX⟩
  have HSW := Lib.hid (HSW1.out.later hWB)
  have HF9 : Hid (∀ X, Below W.heap.size W X → Calls Try.prog 11 #[.agg #[.int .i64 due, .int .i64 grace, .bool true, .slice (some ⟨b, off, none⟩) l.length c], .int .i64 xa] X fun e w' => e = .returned (.agg #[.int .i64 f1, .int .i64 f2]) ∧ Below X.heap.size X w') := Lib.hid fun X hX => Factor_val due grace true _ c l xa X (HSW.out.later hX) (by omega) hv xa0 xa1 f1 f2 (by rw [HFa.out, fr_pct]; exact HFr.out)
  have HK := Lib.hid hK
  have HWB := Lib.hid (HWB1.out.trans (hWB.mono (Nat.le_of_lt gW1)))
  have hKd := hK _ (Below.refl _ _)
  obtain ⟨⟨⟨⟨⟨e0, e1⟩, e2, e3⟩, e4, e5⟩, e6, e7⟩, _⟩ := hKd
  clear hK hWB hW m0 m1 n0 n1 x0 x1
  have h9' : decide (0 < xa) = true := by simpa using h9
  go_region_held3 (fun X => ((((X.cell? ⟨w.heap.size, 0, none⟩ = some (.int .i64 due) ∧ X.cell? ⟨w.heap.size, 1, none⟩ = some (.int .i64 grace)) ∧ (X.cell? ⟨w.heap.size, 2, none⟩ = some (.bool true) ∧ X.cell? ⟨w.heap.size, 3, none⟩ = some (.slice (some ⟨b, off, none⟩) l.length c))) ∧ (X.cell? ⟨w2.heap.size, 0, none⟩ = some (.int .i64 xa) ∧ X.cell? ⟨w2.heap.size, 1, none⟩ = some (.int .i64 xp))) ∧ (X.cell? ⟨w3.heap.size, 0, none⟩ = some (.int .i64 f1) ∧ X.cell? ⟨w3.heap.size, 1, none⟩ = some (.int .i64 f2))) ∧ Below W.heap.size W X)
    (first | exact HK.out _ (Below.refl _ _).drew | exact HK.out _ hB4)
    (first | (go_at_call 11; refine (HF9.out _ (Below.refl _ _).drew).mono ?_; rintro e w4 ⟨rfl, hb4⟩; have hB4 := (Below.refl W.heap.size W).drew.trans (hb4.mono (Nat.le_refl _))))
  all_goals
    have HB4 := Lib.hid hB4
    clear hb4 hB4 e0 e1 e2 e3 e4 e5 e6 e7
    obtain ⟨⟨⟨⟨⟨e0, e1⟩, e2, e3⟩, e4, e5⟩, e6, e7⟩, _⟩ := HK.out _ HB4.out
    have hz4 := HB4.out.size
    have gw4 : w.heap.size < w4.heap.size := by omega
    have gx4 : w2.heap.size < w4.heap.size := by omega
    have gf4 : w3.heap.size < w4.heap.size := by omega
    have h1' : decide (late < 0) = false := by simp; omega
    have h2' : decide (1099511627776 < late) = false := by simp; omega
    have h3' : decide (late ≤ xa) = false := by simp; omega
    obtain ⟨b', off', hA', hbl', hc'⟩ := (HSW.out.later HB4.out) hl0
    simp only [Option.some.injEq, Addr.mk.injEq, and_true] at hA'
    obtain ⟨rfl, rfl⟩ := hA'
    have s2 := (hc' (k + 1) hk1).1
    have s3 := (hc' (k + 1) hk1).2
    rw [HY.out] at s2 s3
    dsimp only at s2 s3
    clear hc'
    go_wp2_with fail
    go_ret
    exact ⟨rfl, HWB.out.trans ((HB4.out.alloc HB4.out.size _).mono HWB.out.size)⟩

set_option maxHeartbeats 4000000 in
set_option maxRecDepth 100000 in
theorem Knots_A_mid (due grace : Int) (lin : Bool) (A : Option Addr) (c : Nat) (l : List (Int × Int)) (iN k : Nat) (late : Int) (w : World)
    (hs : StepsAt w w.heap.size A l) (h20 : l.length ≤ 20) (hl0 : 0 < l.length) (hi : iN ≤ 255) (hk : iN % l.length = k) (hv : vldB due grace l = true) (xa xp ya yp : Int) (hx : l.getD k (0, 0) = (xa, xp)) (hy : l.getD (k + 1) (0, 0) = (ya, yp)) (h9 : 0 < xa) (ht0 : 0 ≤ late) (ht1 : late ≤ 1099511627776) (ht2 : xa < late) (hk1 : k + 1 < l.length) (ht3 : late ≤ ya) :
    Calls Try.prog 4 #[.agg #[.int .i64 due, .int .i64 grace, .bool lin, .slice A l.length c], .int .u8 iN, .int .i64 late] w fun e w' => e = .returned (.bool true) ∧ Below w.heap.size w w' := by
  have HB0 := Lib.hid ((Below.refl _ w).alloc (Nat.le_refl _) (polObj due grace lin A l.length c))
  have g20 : decide ((20 : Int) < (l.length : Int)) = false := by simp; omega
  have g0 : ((l.length : Int) == 0) = false := beq_eq_false_iff_ne.2 (by omega)
  have g1 : (1 : Int) ≤ (l.length : Int) := by omega
  have hkl : k < l.length := by rw [← hk]; exact Nat.mod_lt _ hl0
  have hkm : (iN : Int) % (l.length : Int) = (k : Int) := by rw [← hk]; simp
  have hi0 : (0 : Int) ≤ (iN : Int) := by omega
  have hi1 : (iN : Int) ≤ 255 := by omega
  obtain ⟨_, _, hok⟩ := vld_parts hv
  have hrx := okAt_rng (okTo_at hkl hok)
  rw [hx] at hrx
  obtain ⟨⟨xa0, xa1⟩, xp0, xp1⟩ := hrx
  dsimp only at xa0 xa1 xp0 xp1
  have hFa : fac true l xa = 100 * xp := by have := knot_at hok hkl (by rw [hx]; exact h9); rw [hx] at this; exact this
  have hle : fac true l late ≤ 100 * xp := by have := knot_le (t := late) hok hkl (by rw [hx]; show xa ≤ late; omega) (by omega); rw [hx] at this; exact this
  have hry := okAt_rng (okTo_at hk1 hok)
  rw [hy] at hry
  obtain ⟨⟨ya0, ya1⟩, yp0, yp1⟩ := hry
  dsimp only at ya0 ya1 yp0 yp1
  have i2 : ((k : Int) + 1).toNat = k + 1 := by omega
  have i3 : (k : Int) + 1 < (l.length : Int) := by omega
  have i4 : (0 : Int) ≤ (k : Int) + 1 := by omega
  have hge : 100 * yp ≤ fac true l late := by have := knot_ge (t := late) hok hk1 (by rw [hx]; show xa ≤ late; omega) (by omega) (by rw [hy]; exact ht3); rw [hy] at this; exact this
  obtain ⟨f1, f2, hf⟩ : ∃ f1 f2 : Int, (f1, f2) = fr xp 100 := ⟨_, _, rfl⟩
  have of := frOk_pct xp0 xp1
  rw [← hf] at of
  have HM : Hid (∀ X, Calls Try.prog 14 #[.int .i64 xp, .int .i64 100] X fun e w' => e = .returned (.tuple #[.agg #[.int .i64 f1, .int .i64 f2], .int .i64 0]) ∧ Below X.heap.size X w') := Lib.hid fun X => by
    have q := rMake_ok xp 100 X xp0 (by omega) (by omega) (by omega)
    have e1 : f1 = xp / (Int.gcd xp 100 : Nat) := congrArg Prod.fst hf
    have e2 : f2 = 100 / (Int.gcd xp 100 : Nat) := congrArg Prod.snd hf
    rw [e1, e2]; exact q
  have HOF := Lib.hid of
  have HFr := Lib.hid hf
  have HFa := Lib.hid hFa
  have HX := Lib.hid hx
  have HY := Lib.hid hy
  have HS0 := Lib.hid hs
  have HOK := Lib.hid hok
  clear hx hy hok of hf hk hFa hs
  go_enter Try.func4, Try.ntmps4
  go_wp2_with fail
  refine (awake_any _).mono ?_
  rintro e w1 ⟨rfl, hb1⟩
  have hz1 := hb1.size
  simp only [World.size_alloc] at hz1
  have hB1 := hb1.mono (B' := w.heap.size + 1) (by simp)
  have HB1 := Lib.hid (HB0.out.trans (hb1.mono (by simp)))
  have c0 : w1.cell? ⟨w.heap.size, 0, none⟩ = some (.int .i64 due) := by rw [bcell hB1 _ _ (by omega)]; simp [go_sem]
  have c1 : w1.cell? ⟨w.heap.size, 1, none⟩ = some (.int .i64 grace) := by rw [bcell hB1 _ _ (by omega)]; simp [go_sem]
  have c2 : w1.cell? ⟨w.heap.size, 2, none⟩ = some (.bool lin) := by rw [bcell hB1 _ _ (by omega)]; simp [go_sem]
  have c3 : w1.cell? ⟨w.heap.size, 3, none⟩ = some (.slice A l.length c) := by rw [bcell hB1 _ _ (by omega)]; simp [go_sem]
  have z2 : w1.frozen? ⟨w.heap.size, 2, none⟩ = false := by rw [(bboth hB1).2 _ _ (by omega)]; simp [go_sem]
  have gz : w.heap.size < w1.heap.size := by omega
  clear hb1 hB1 HB0
  go_wp2_with fail
  obtain ⟨W1, hW1⟩ : ∃ W1, W1 = w1.setCell ⟨w.heap.size, 2, none⟩ (.bool true) := ⟨_, rfl⟩
  rw [← hW1]
  have q0 : W1.cell? ⟨w.heap.size, 0, none⟩ = some (.int .i64 due) := by rw [hW1, cs_far (by omega)]; exact c0
  have q1 : W1.cell? ⟨w.heap.size, 1, none⟩ = some (.int .i64 grace) := by rw [hW1, cs_far (by omega)]; exact c1
  have q2 : W1.cell? ⟨w.heap.size, 2, none⟩ = some (.bool true) := by rw [hW1, cs_same (by rw [c2]; rfl)]
  have q3 : W1.cell? ⟨w.heap.size, 3, none⟩ = some (.slice A l.length c) := by rw [hW1, cs_far (by omega)]; exact c3
  have hWB1 : Below w.heap.size w W1 := by rw [hW1]; exact HB1.out.setCell (p := ⟨w.heap.size, 2, none⟩) (by dsimp only; omega) _
  have gW1 : w.heap.size < W1.heap.size := World.block_lt_of_cell? W1 ⟨w.heap.size, 0, none⟩ q0
  have HSW1 := Lib.hid ((HS0.out.below hWB1).more (Nat.le_of_lt gW1))
  have HWB1 := Lib.hid hWB1
  have H0 : Hid (PS W1 w.heap.size due grace true A l.length c W1) := ⟨⟨⟨q0, q1⟩, q2, q3⟩, Below.refl _ _⟩
  clear hW1 hWB1 c0 c1 c2 c3 z2 hz1 gz HB1
  refine (Valid_any _ _ _ _ _ _ _ HSW1.out (by omega)).mono ?_
  rintro e w2 ⟨rfl, hb2⟩
  obtain ⟨⟨⟨d0, d1⟩, d2, d3⟩, _⟩ := ps_of H0.out hb2
  have hz2 := hb2.size
  obtain ⟨b, off, hA, hbl, hc⟩ := (HSW1.out.later hb2) hl0
  subst hA
  have s0 := (hc k hkl).1
  have s1 := (hc k hkl).2
  rw [HX.out] at s0 s1
  dsimp only at s0 s1
  have HB2 := Lib.hid hb2
  clear hb2 hc q0 q1 q2 q3
  go_wp2_with fail
  refine (HM.out _).mono ?_
  rintro e w3 ⟨rfl, hb3⟩
  have hz3 := hb3.size
  simp only [World.size_alloc] at hz3
  have hB3 : Below W1.heap.size W1 w3 := (HB2.out.alloc HB2.out.size _).trans (hb3.mono (by simp; omega))
  have x0 : w3.cell? ⟨w2.heap.size, 0, none⟩ = some (.int .i64 xa) := by rw [bcell hb3 _ _ (by simp)]; simp [go_sem]
  have x1 : w3.cell? ⟨w2.heap.size, 1, none⟩ = some (.int .i64 xp) := by rw [bcell hb3 _ _ (by simp)]; simp [go_sem]
  have HB3 := Lib.hid hB3
  clear hb3 hB3 d0 d1 d2 d3 s0 s1
  go_wp2_with fail
  obtain ⟨W, hW⟩ : ∃ W, W = w3.alloc (.cells #[.int .i64 f1, .int .i64 f2] 27) := ⟨_, rfl⟩
  rw [← hW]
  have hWB : Below W1.heap.size W1 W := by rw [hW]; exact HB3.out.alloc HB3.out.size _
  have hWs : w3.heap.size < W.heap.size := by rw [hW]; simp
  have m0 : W.cell? ⟨w3.heap.size, 0, none⟩ = some (.int .i64 f1) := by rw [hW]; simp [go_sem]
  have m1 : W.cell? ⟨w3.heap.size, 1, none⟩ = some (.int .i64 f2) := by rw [hW]; simp [go_sem]
  have n0 : W.cell? ⟨w2.heap.size, 0, none⟩ = some (.int .i64 xa) := by rw [hW, World.cell?_alloc_lt _ _ _ (by dsimp only; omega)]; exact x0
  have n1 : W.cell? ⟨w2.heap.size, 1, none⟩ = some (.int .i64 xp) := by rw [hW, World.cell?_alloc_lt _ _ _ (by dsimp only; omega)]; exact x1
  have hK : ∀ X, Below W.heap.size W X → ((((X.cell? ⟨w.heap.size, 0, none⟩ = some (.int .i64 due) ∧ X.cell? ⟨w.heap.size, 1, none⟩ = some (.int .i64 grace)) ∧ (X.cell? ⟨w.heap.size, 2, none⟩ = some (.bool true) ∧ X.cell? ⟨w.heap.size, 3, none⟩ = some (.slice (some ⟨b, off, none⟩) l.length c))) ∧ (X.cell? ⟨w2.heap.size, 0, none⟩ = some (.int .i64 xa) ∧ X.cell? ⟨w2.heap.size, 1, none⟩ = some (.int .i64 xp))) ∧ (X.cell? ⟨w3.heap.size, 0, none⟩ = some (.int .i64 f1) ∧ X.cell? ⟨w3.heap.size, 1, none⟩ = some (.int .i64 f2))) ∧ Below W.heap.size W X := fun X hX => by
    have hc := bcell hX
    exact ⟨⟨⟨(ps_of H0.out (hWB.trans (hX.mono hWB.size))).1, (hc _ _ (by omega)).trans n0, (hc _ _ (by omega)).trans n1⟩, (hc _ _ hWs).trans m0, (hc _ _ hWs).trans m1⟩, hX⟩
  have HSW := Lib.hid (HSW1.out.later hWB)
  have HF9 : Hid (∀ X, Below W.heap.size W X → Calls Try.prog 11 #[.agg #[.int .i64 due, .int .i64 grace, .bool true, .slice (some ⟨b, off, none⟩) l.length c], .int .i64 xa] X fun e w' => e = .returned (.agg #[.int .i64 f1, .int .i64 f2]) ∧ Below X.heap.size X w') := Lib.hid fun X hX => Factor_val due grace true _ c l xa X (HSW.out.later hX) (by omega) hv xa0 xa1 f1 f2 (by rw [HFa.out, fr_pct]; exact HFr.out)
  have HK := Lib.hid hK
  have HWB := Lib.hid (HWB1.out.trans (hWB.mono (Nat.le_of_lt gW1)))
  have hKd := hK _ (Below.refl _ _)
  obtain ⟨⟨⟨⟨⟨e0, e1⟩, e2, e3⟩, e4, e5⟩, e6, e7⟩, _⟩ := hKd
  clear hK hWB hW m0 m1 n0 n1 x0 x1
  have h9' : decide (0 < xa) = true := by simpa using h9
  go_region_held3 (fun X => ((((X.cell? ⟨w.heap.size, 0, none⟩ = some (.int .i64 due) ∧ X.cell? ⟨w.heap.size, 1, none⟩ = some (.int .i64 grace)) ∧ (X.cell? ⟨w.heap.size, 2, none⟩ = some (.bool true) ∧ X.cell? ⟨w.heap.size, 3, none⟩ = some (.slice (some ⟨b, off, none⟩) l.length c))) ∧ (X.cell? ⟨w2.heap.size, 0, none⟩ = some (.int .i64 xa) ∧ X.cell? ⟨w2.heap.size, 1, none⟩ = some (.int .i64 xp))) ∧ (X.cell? ⟨w3.heap.size, 0, none⟩ = some (.int .i64 f1) ∧ X.cell? ⟨w3.heap.size, 1, none⟩ = some (.int .i64 f2))) ∧ Below W.heap.size W X)
    (first | exact HK.out _ (Below.refl _ _).drew | exact HK.out _ hB4)
    (first | (go_at_call 11; refine (HF9.out _ (Below.refl _ _).drew).mono ?_; rintro e w4 ⟨rfl, hb4⟩; have hB4 := (Below.refl W.heap.size W).drew.trans (hb4.mono (Nat.le_refl _))))
  all_goals
    have HB4 := Lib.hid hB4
    clear hb4 hB4 e0 e1 e2 e3 e4 e5 e6 e7
    obtain ⟨⟨⟨⟨⟨e0, e1⟩, e2, e3⟩, e4, e5⟩, e6, e7⟩, _⟩ := HK.out _ HB4.out
    have hz4 := HB4.out.size
    have gw4 : w.heap.size < w4.heap.size := by omega
    have gx4 : w2.heap.size < w4.heap.size := by omega
    have gf4 : w3.heap.size < w4.heap.size := by omega
    have h1' : decide (late < 0) = false := by simp; omega
    have h2' : decide (1099511627776 < late) = false := by simp; omega
    have h3' : decide (late ≤ xa) = false := by simp; omega
    obtain ⟨b', off', hA', hbl', hc'⟩ := (HSW.out.later HB4.out) hl0
    simp only [Option.some.injEq, Addr.mk.injEq, and_true] at hA'
    obtain ⟨rfl, rfl⟩ := hA'
    have s2 := (hc' (k + 1) hk1).1
    have s3 := (hc' (k + 1) hk1).2
    rw [HY.out] at s2 s3
    dsimp only at s2 s3
    clear hc'
    have h5' : decide (ya < late) = false := by simp; omega
    obtain ⟨g1, g2, hg⟩ : ∃ g1 g2 : Int, (g1, g2) = fr yp 100 := ⟨_, _, rfl⟩
    have og := frOk_pct yp0 yp1
    rw [← hg] at og
    have HM2 : Hid (∀ X, Calls Try.prog 14 #[.int .i64 yp, .int .i64 100] X fun e w' => e = .returned (.tuple #[.agg #[.int .i64 g1, .int .i64 g2], .int .i64 0]) ∧ Below X.heap.size X w') := Lib.hid fun X => by
      have q := rMake_ok yp 100 X yp0 (by omega) (by omega) (by omega)
      have e1 : g1 = yp / (Int.gcd yp 100 : Nat) := congrArg Prod.fst hg
      have e2 : g2 = 100 / (Int.gcd yp 100 : Nat) := congrArg Prod.snd hg
      rw [e1, e2]; exact q
    have hcg := cmp_ge_pct (n := fac true l late) (p := yp) hge
    rw [← hg] at hcg
    have HOG := Lib.hid og
    clear og hg
    go_wp2_with fail
    refine (HM2.out _).mono ?_
    rintro e w5 ⟨rfl, hb5⟩
    have hz5 := hb5.size
    simp only [World.size_alloc] at hz5
    have hc5 := bboth hb5
    have t0 : w5.cell? ⟨w4.heap.size, 0, none⟩ = some (.int .i64 0) := by rw [hc5.1 _ _ (by simp)]; simp [go_sem]
    have t1 : w5.cell? ⟨w4.heap.size, 1, none⟩ = some (.int .i64 1) := by rw [hc5.1 _ _ (by simp)]; simp [go_sem]
    have u0 : w5.frozen? ⟨w4.heap.size, 0, none⟩ = false := by rw [hc5.2 _ _ (by simp)]; simp [go_sem]
    have u1 : w5.frozen? ⟨w4.heap.size, 1, none⟩ = false := by rw [hc5.2 _ _ (by simp)]; simp [go_sem]
    have hB5 : Below W.heap.size W w5 := (HB4.out.alloc HB4.out.size _).trans (hb5.mono (by simp; omega))
    have g5 : w4.heap.size < w5.heap.size := by omega
    have HB5 := Lib.hid hB5
    clear hb5 hc5 hB5 e0 e1 e2 e3 e4 e5 e6 e7 s2 s3
    go_wp2_with fail
    obtain ⟨V, hV⟩ : ∃ V, V = (w5.setCell ⟨w4.heap.size, 0, none⟩ (.int .i64 g1)).setCell ⟨w4.heap.size, 1, none⟩ (.int .i64 g2) := ⟨_, rfl⟩
    rw [← hV]
    have hk2 := two_set (w := w5) (b := w4.heap.size) (.int .i64 g1) (.int .i64 g2) t0 t1
    rw [← hV] at hk2
    have hVB : Below W.heap.size W V := by rw [hV]; exact (HB5.out.setCell (p := ⟨w4.heap.size, 0, none⟩) (by dsimp only; omega) _).setCell (p := ⟨w4.heap.size, 1, none⟩) (by dsimp only; omega) _
    clear hV t0 t1 u0 u1
    obtain ⟨y1, y2, hyy⟩ : ∃ y1 y2 : Int, (y1, y2) = fr (fac true l late) 10000 := ⟨_, _, rfl⟩
    have oy := frOk_fac (lin := true) (t := late) HOK.out ht0
    have hcf := cmp_le_pct (n := fac true l late) (p := xp) hle
    rw [← HFr.out] at hcf
    rw [← hyy] at hcf hcg oy
    dsimp only at hcf hcg oy
    have hzV := hVB.size
    have gV : w4.heap.size < V.heap.size := World.block_lt_of_cell? V ⟨w4.heap.size, 0, none⟩ hk2.1
    have hL : ∀ X, Below V.heap.size V X → ((((X.cell? ⟨w.heap.size, 0, none⟩ = some (.int .i64 due) ∧ X.cell? ⟨w.heap.size, 1, none⟩ = some (.int .i64 grace)) ∧ (X.cell? ⟨w.heap.size, 2, none⟩ = some (.bool true) ∧ X.cell? ⟨w.heap.size, 3, none⟩ = some (.slice (some ⟨b, off, none⟩) l.length c))) ∧ (X.cell? ⟨w3.heap.size, 0, none⟩ = some (.int .i64 f1) ∧ X.cell? ⟨w3.heap.size, 1, none⟩ = some (.int .i64 f2))) ∧ (X.cell? ⟨w4.heap.size, 0, none⟩ = some (.int .i64 g1) ∧ X.cell? ⟨w4.heap.size, 1, none⟩ = some (.int .i64 g2))) ∧ Below V.heap.size V X := fun X hX => by
      have hc := bcell hX
      have hWX := HK.out _ (hVB.trans (hX.mono hVB.size))
      exact ⟨⟨⟨hWX.1.1.1, hWX.1.2⟩, (hc _ _ gV).trans hk2.1, (hc _ _ gV).trans hk2.2⟩, hX⟩
    have HL := Lib.hid hL
    have HFl : Hid (∀ X, Below V.heap.size V X → Calls Try.prog 11 #[.agg #[.int .i64 due, .int .i64 grace, .bool true, .slice (some ⟨b, off, none⟩) l.length c], .int .i64 late] X fun e w' => e = .returned (.agg #[.int .i64 y1, .int .i64 y2]) ∧ Below X.heap.size X w') := Lib.hid fun X hX => Factor_val due grace true _ c l late X ((HSW.out.later hVB).later hX) (by omega) hv ht0 ht1 y1 y2 hyy
    generalize ec : cmpI (y1 * f2) (f1 * y2) = cc at hcf
    generalize ed : cmpI (y1 * g2) (g1 * y2) = dd at hcg
    have C1 : Hid (∀ X, Calls Try.prog 13 #[.agg #[.int .i64 y1, .int .i64 y2], .agg #[.int .i64 f1, .int .i64 f2]] X fun e w' => e = .returned (.tuple #[.int .i64 cc, .bool true]) ∧ Below X.heap.size X w') := Lib.hid fun X => by rw [← ec]; exact Compare_ok _ _ _ _ X oy HOF.out
    have C2 : Hid (∀ X, Calls Try.prog 13 #[.agg #[.int .i64 y1, .int .i64 y2], .agg #[.int .i64 g1, .int .i64 g2]] X fun e w' => e = .returned (.tuple #[.int .i64 dd, .bool true]) ∧ Below X.heap.size X w') := Lib.hid fun X => by rw [← ed]; exact Compare_ok _ _ _ _ X oy HOG.out
    have HVB := Lib.hid (HWB.out.trans (hVB.mono HWB.out.size))
    have hcf' : decide (cc ≤ 0) = true := by simpa using hcf
    have hcg' : decide (0 ≤ dd) = true := by simpa using hcg
    clear ec ed oy hyy hL hVB hk2
    go_wp2_with fail
    go_region_held3 (fun X => ((((X.cell? ⟨w.heap.size, 0, none⟩ = some (.int .i64 due) ∧ X.cell? ⟨w.heap.size, 1, none⟩ = some (.int .i64 grace)) ∧ (X.cell? ⟨w.heap.size, 2, none⟩ = some (.bool true) ∧ X.cell? ⟨w.heap.size, 3, none⟩ = some (.slice (some ⟨b, off, none⟩) l.length c))) ∧ (X.cell? ⟨w3.heap.size, 0, none⟩ = some (.int .i64 f1) ∧ X.cell? ⟨w3.heap.size, 1, none⟩ = some (.int .i64 f2))) ∧ (X.cell? ⟨w4.heap.size, 0, none⟩ = some (.int .i64 g1) ∧ X.cell? ⟨w4.heap.size, 1, none⟩ = some (.int .i64 g2))) ∧ Below V.heap.size V X)
      (first | exact HL.out _ (Below.refl _ _).drew | exact HL.out _ hB7 | exact HL.out _ hB6)
      (first | (go_at_call 11; refine (HFl.out _ (Below.refl _ _).drew).mono ?_; rintro e w6 ⟨rfl, hb6⟩; have hB6 := (Below.refl V.heap.size V).drew.trans (hb6.mono (Nat.le_refl _)))
             | (go_at_call 13; refine (C1.out _).mono ?_; rintro e w7 ⟨rfl, hb7⟩; have hB7 := hB6.trans (hb7.mono hB6.size)))
    all_goals
      have HB7 := Lib.hid hB7
      clear hb6 hb7 hB6 hB7
      go_wp2_with fail
      go_region_held3 (fun X => ((((X.cell? ⟨w.heap.size, 0, none⟩ = some (.int .i64 due) ∧ X.cell? ⟨w.heap.size, 1, none⟩ = some (.int .i64 grace)) ∧ (X.cell? ⟨w.heap.size, 2, none⟩ = some (.bool true) ∧ X.cell? ⟨w.heap.size, 3, none⟩ = some (.slice (some ⟨b, off, none⟩) l.length c))) ∧ (X.cell? ⟨w3.heap.size, 0, none⟩ = some (.int .i64 f1) ∧ X.cell? ⟨w3.heap.size, 1, none⟩ = some (.int .i64 f2))) ∧ (X.cell? ⟨w4.heap.size, 0, none⟩ = some (.int .i64 g1) ∧ X.cell? ⟨w4.heap.size, 1, none⟩ = some (.int .i64 g2))) ∧ Below V.heap.size V X)
        (first | exact HL.out _ HB7.out.drew | exact HL.out _ hB9 | exact HL.out _ hB8)
        (first | (go_at_call 11; refine (HFl.out _ HB7.out.drew).mono ?_; rintro e w8 ⟨rfl, hb8⟩; have hB8 := HB7.out.drew.trans (hb8.mono HB7.out.drew.size))
               | (go_at_call 13; refine (C2.out _).mono ?_; rintro e w9 ⟨rfl, hb9⟩; have hB9 := hB8.trans (hb9.mono hB8.size)))
      all_goals
        go_wp2_with fail
        go_ret
        exact ⟨rfl, HVB.out.trans (hB9.mono HVB.out.size)⟩

set_option maxHeartbeats 4000000 in
set_option maxRecDepth 100000 in
theorem Knots_A_end (due grace : Int) (lin : Bool) (A : Option Addr) (c : Nat) (l : List (Int × Int)) (iN k : Nat) (late : Int) (w : World)
    (hs : StepsAt w w.heap.size A l) (h20 : l.length ≤ 20) (hl0 : 0 < l.length) (hi : iN ≤ 255) (hk : iN % l.length = k) (hv : vldB due grace l = true) (xa xp ya yp : Int) (hx : l.getD k (0, 0) = (xa, xp)) (hy : l.getD (k + 1) (0, 0) = (ya, yp)) (h9 : 0 < xa) (ht0 : 0 ≤ late) (ht1 : late ≤ 1099511627776) (ht2 : xa < late) (hk1 : l.length ≤ k + 1) :
    Calls Try.prog 4 #[.agg #[.int .i64 due, .int .i64 grace, .bool lin, .slice A l.length c], .int .u8 iN, .int .i64 late] w fun e w' => e = .returned (.bool true) ∧ Below w.heap.size w w' := by
  have HB0 := Lib.hid ((Below.refl _ w).alloc (Nat.le_refl _) (polObj due grace lin A l.length c))
  have g20 : decide ((20 : Int) < (l.length : Int)) = false := by simp; omega
  have g0 : ((l.length : Int) == 0) = false := beq_eq_false_iff_ne.2 (by omega)
  have g1 : (1 : Int) ≤ (l.length : Int) := by omega
  have hkl : k < l.length := by rw [← hk]; exact Nat.mod_lt _ hl0
  have hkm : (iN : Int) % (l.length : Int) = (k : Int) := by rw [← hk]; simp
  have hi0 : (0 : Int) ≤ (iN : Int) := by omega
  have hi1 : (iN : Int) ≤ 255 := by omega
  obtain ⟨_, _, hok⟩ := vld_parts hv
  have hrx := okAt_rng (okTo_at hkl hok)
  rw [hx] at hrx
  obtain ⟨⟨xa0, xa1⟩, xp0, xp1⟩ := hrx
  dsimp only at xa0 xa1 xp0 xp1
  have hFa : fac true l xa = 100 * xp := by have := knot_at hok hkl (by rw [hx]; exact h9); rw [hx] at this; exact this
  have hle : fac true l late ≤ 100 * xp := by have := knot_le (t := late) hok hkl (by rw [hx]; show xa ≤ late; omega) (by omega); rw [hx] at this; exact this
  obtain ⟨f1, f2, hf⟩ : ∃ f1 f2 : Int, (f1, f2) = fr xp 100 := ⟨_, _, rfl⟩
  have of := frOk_pct xp0 xp1
  rw [← hf] at of
  have HM : Hid (∀ X, Calls Try.prog 14 #[.int .i64 xp, .int .i64 100] X fun e w' => e = .returned (.tuple #[.agg #[.int .i64 f1, .int .i64 f2], .int .i64 0]) ∧ Below X.heap.size X w') := Lib.hid fun X => by
    have q := rMake_ok xp 100 X xp0 (by omega) (by omega) (by omega)
    have e1 : f1 = xp / (Int.gcd xp 100 : Nat) := congrArg Prod.fst hf
    have e2 : f2 = 100 / (Int.gcd xp 100 : Nat) := congrArg Prod.snd hf
    rw [e1, e2]; exact q
  have HOF := Lib.hid of
  have HFr := Lib.hid hf
  have HFa := Lib.hid hFa
  have HX := Lib.hid hx
  have HY := Lib.hid hy
  have HS0 := Lib.hid hs
  have HOK := Lib.hid hok
  clear hx hy hok of hf hk hFa hs
  go_enter Try.func4, Try.ntmps4
  go_wp2_with fail
  refine (awake_any _).mono ?_
  rintro e w1 ⟨rfl, hb1⟩
  have hz1 := hb1.size
  simp only [World.size_alloc] at hz1
  have hB1 := hb1.mono (B' := w.heap.size + 1) (by simp)
  have HB1 := Lib.hid (HB0.out.trans (hb1.mono (by simp)))
  have c0 : w1.cell? ⟨w.heap.size, 0, none⟩ = some (.int .i64 due) := by rw [bcell hB1 _ _ (by omega)]; simp [go_sem]
  have c1 : w1.cell? ⟨w.heap.size, 1, none⟩ = some (.int .i64 grace) := by rw [bcell hB1 _ _ (by omega)]; simp [go_sem]
  have c2 : w1.cell? ⟨w.heap.size, 2, none⟩ = some (.bool lin) := by rw [bcell hB1 _ _ (by omega)]; simp [go_sem]
  have c3 : w1.cell? ⟨w.heap.size, 3, none⟩ = some (.slice A l.length c) := by rw [bcell hB1 _ _ (by omega)]; simp [go_sem]
  have z2 : w1.frozen? ⟨w.heap.size, 2, none⟩ = false := by rw [(bboth hB1).2 _ _ (by omega)]; simp [go_sem]
  have gz : w.heap.size < w1.heap.size := by omega
  clear hb1 hB1 HB0
  go_wp2_with fail
  obtain ⟨W1, hW1⟩ : ∃ W1, W1 = w1.setCell ⟨w.heap.size, 2, none⟩ (.bool true) := ⟨_, rfl⟩
  rw [← hW1]
  have q0 : W1.cell? ⟨w.heap.size, 0, none⟩ = some (.int .i64 due) := by rw [hW1, cs_far (by omega)]; exact c0
  have q1 : W1.cell? ⟨w.heap.size, 1, none⟩ = some (.int .i64 grace) := by rw [hW1, cs_far (by omega)]; exact c1
  have q2 : W1.cell? ⟨w.heap.size, 2, none⟩ = some (.bool true) := by rw [hW1, cs_same (by rw [c2]; rfl)]
  have q3 : W1.cell? ⟨w.heap.size, 3, none⟩ = some (.slice A l.length c) := by rw [hW1, cs_far (by omega)]; exact c3
  have hWB1 : Below w.heap.size w W1 := by rw [hW1]; exact HB1.out.setCell (p := ⟨w.heap.size, 2, none⟩) (by dsimp only; omega) _
  have gW1 : w.heap.size < W1.heap.size := World.block_lt_of_cell? W1 ⟨w.heap.size, 0, none⟩ q0
  have HSW1 := Lib.hid ((HS0.out.below hWB1).more (Nat.le_of_lt gW1))
  have HWB1 := Lib.hid hWB1
  have H0 : Hid (PS W1 w.heap.size due grace true A l.length c W1) := ⟨⟨⟨q0, q1⟩, q2, q3⟩, Below.refl _ _⟩
  clear hW1 hWB1 c0 c1 c2 c3 z2 hz1 gz HB1
  refine (Valid_any _ _ _ _ _ _ _ HSW1.out (by omega)).mono ?_
  rintro e w2 ⟨rfl, hb2⟩
  obtain ⟨⟨⟨d0, d1⟩, d2, d3⟩, _⟩ := ps_of H0.out hb2
  have hz2 := hb2.size
  obtain ⟨b, off, hA, hbl, hc⟩ := (HSW1.out.later hb2) hl0
  subst hA
  have s0 := (hc k hkl).1
  have s1 := (hc k hkl).2
  rw [HX.out] at s0 s1
  dsimp only at s0 s1
  have HB2 := Lib.hid hb2
  clear hb2 hc q0 q1 q2 q3
  go_wp2_with fail
  refine (HM.out _).mono ?_
  rintro e w3 ⟨rfl, hb3⟩
  have hz3 := hb3.size
  simp only [World.size_alloc] at hz3
  have hB3 : Below W1.heap.size W1 w3 := (HB2.out.alloc HB2.out.size _).trans (hb3.mono (by simp; omega))
  have x0 : w3.cell? ⟨w2.heap.size, 0, none⟩ = some (.int .i64 xa) := by rw [bcell hb3 _ _ (by simp)]; simp [go_sem]
  have x1 : w3.cell? ⟨w2.heap.size, 1, none⟩ = some (.int .i64 xp) := by rw [bcell hb3 _ _ (by simp)]; simp [go_sem]
  have HB3 := Lib.hid hB3
  clear hb3 hB3 d0 d1 d2 d3 s0 s1
  go_wp2_with fail
  obtain ⟨W, hW⟩ : ∃ W, W = w3.alloc (.cells #[.int .i64 f1, .int .i64 f2] 27) := ⟨_, rfl⟩
  rw [← hW]
  have hWB : Below W1.heap.size W1 W := by rw [hW]; exact HB3.out.alloc HB3.out.size _
  have hWs : w3.heap.size < W.heap.size := by rw [hW]; simp
  have m0 : W.cell? ⟨w3.heap.size, 0, none⟩ = some (.int .i64 f1) := by rw [hW]; simp [go_sem]
  have m1 : W.cell? ⟨w3.heap.size, 1, none⟩ = some (.int .i64 f2) := by rw [hW]; simp [go_sem]
  have n0 : W.cell? ⟨w2.heap.size, 0, none⟩ = some (.int .i64 xa) := by rw [hW, World.cell?_alloc_lt _ _ _ (by dsimp only; omega)]; exact x0
  have n1 : W.cell? ⟨w2.heap.size, 1, none⟩ = some (.int .i64 xp) := by rw [hW, World.cell?_alloc_lt _ _ _ (by dsimp only; omega)]; exact x1
  have hK : ∀ X, Below W.heap.size W X → ((((X.cell? ⟨w.heap.size, 0, none⟩ = some (.int .i64 due) ∧ X.cell? ⟨w.heap.size, 1, none⟩ = some (.int .i64 grace)) ∧ (X.cell? ⟨w.heap.size, 2, none⟩ = some (.bool true) ∧ X.cell? ⟨w.heap.size, 3, none⟩ = some (.slice (some ⟨b, off, none⟩) l.length c))) ∧ (X.cell? ⟨w2.heap.size, 0, none⟩ = some (.int .i64 xa) ∧ X.cell? ⟨w2.heap.size, 1, none⟩ = some (.int .i64 xp))) ∧ (X.cell? ⟨w3.heap.size, 0, none⟩ = some (.int .i64 f1) ∧ X.cell? ⟨w3.heap.size, 1, none⟩ = some (.int .i64 f2))) ∧ Below W.heap.size W X := fun X hX => by
    have hc := bcell hX
    exact ⟨⟨⟨(ps_of H0.out (hWB.trans (hX.mono hWB.size))).1, (hc _ _ (by omega)).trans n0, (hc _ _ (by omega)).trans n1⟩, (hc _ _ hWs).trans m0, (hc _ _ hWs).trans m1⟩, hX⟩
  have HSW := Lib.hid (HSW1.out.later hWB)
  have HF9 : Hid (∀ X, Below W.heap.size W X → Calls Try.prog 11 #[.agg #[.int .i64 due, .int .i64 grace, .bool true, .slice (some ⟨b, off, none⟩) l.length c], .int .i64 xa] X fun e w' => e = .returned (.agg #[.int .i64 f1, .int .i64 f2]) ∧ Below X.heap.size X w') := Lib.hid fun X hX => Factor_val due grace true _ c l xa X (HSW.out.later hX) (by omega) hv xa0 xa1 f1 f2 (by rw [HFa.out, fr_pct]; exact HFr.out)
  have HK := Lib.hid hK
  have HWB := Lib.hid (HWB1.out.trans (hWB.mono (Nat.le_of_lt gW1)))
  have hKd := hK _ (Below.refl _ _)
  obtain ⟨⟨⟨⟨⟨e0, e1⟩, e2, e3⟩, e4, e5⟩, e6, e7⟩, _⟩ := hKd
  clear hK hWB hW m0 m1 n0 n1 x0 x1
  have h9' : decide (0 < xa) = true := by simpa using h9
  go_region_held3 (fun X => ((((X.cell? ⟨w.heap.size, 0, none⟩ = some (.int .i64 due) ∧ X.cell? ⟨w.heap.size, 1, none⟩ = some (.int .i64 grace)) ∧ (X.cell? ⟨w.heap.size, 2, none⟩ = some (.bool true) ∧ X.cell? ⟨w.heap.size, 3, none⟩ = some (.slice (some ⟨b, off, none⟩) l.length c))) ∧ (X.cell? ⟨w2.heap.size, 0, none⟩ = some (.int .i64 xa) ∧ X.cell? ⟨w2.heap.size, 1, none⟩ = some (.int .i64 xp))) ∧ (X.cell? ⟨w3.heap.size, 0, none⟩ = some (.int .i64 f1) ∧ X.cell? ⟨w3.heap.size, 1, none⟩ = some (.int .i64 f2))) ∧ Below W.heap.size W X)
    (first | exact HK.out _ (Below.refl _ _).drew | exact HK.out _ hB4)
    (first | (go_at_call 11; refine (HF9.out _ (Below.refl _ _).drew).mono ?_; rintro e w4 ⟨rfl, hb4⟩; have hB4 := (Below.refl W.heap.size W).drew.trans (hb4.mono (Nat.le_refl _))))
  all_goals
    have HB4 := Lib.hid hB4
    clear hb4 hB4 e0 e1 e2 e3 e4 e5 e6 e7
    obtain ⟨⟨⟨⟨⟨e0, e1⟩, e2, e3⟩, e4, e5⟩, e6, e7⟩, _⟩ := HK.out _ HB4.out
    have hz4 := HB4.out.size
    have gw4 : w.heap.size < w4.heap.size := by omega
    have gx4 : w2.heap.size < w4.heap.size := by omega
    have gf4 : w3.heap.size < w4.heap.size := by omega
    have h1' : decide (late < 0) = false := by simp; omega
    have h2' : decide (1099511627776 < late) = false := by simp; omega
    have h3' : decide (late ≤ xa) = false := by simp; omega
    have i3 : decide ((k : Int) + 1 < (l.length : Int)) = false := by simp; omega
    have i3' : ¬ ((k : Int) + 1 < (l.length : Int)) := by omega
    obtain ⟨g1, g2, hg⟩ : ∃ g1 g2 : Int, (g1, g2) = ((0 : Int), (1 : Int)) := ⟨_, _, rfl⟩
    have hg1 : g1 = 0 := congrArg Prod.fst hg
    have hg2 : g2 = 1 := congrArg Prod.snd hg
    have og : FrOk g1 g2 := by rw [hg1, hg2]; exact frOk_zero
    have hcg : 0 ≤ cmpI ((fr (fac true l late) 10000).1 * g2) (g1 * (fr (fac true l late) 10000).2) := by rw [hg1, hg2]; exact cmp_ge_zero (frOk_fac (lin := true) (t := late) HOK.out ht0).n0
    have HOG := Lib.hid og
    have HG1 := Lib.hid hg1
    have HG2 := Lib.hid hg2
    clear og hg hg1 hg2
    go_wp2_with fail
    obtain ⟨V, hV⟩ : ∃ V, V = w4.alloc (.cells #[.int .i64 0, .int .i64 1] 27) := ⟨_, rfl⟩
    rw [← hV]
    have hk2 : V.cell? ⟨w4.heap.size, 0, none⟩ = some (.int .i64 g1) ∧ V.cell? ⟨w4.heap.size, 1, none⟩ = some (.int .i64 g2) := by rw [hV, HG1.out, HG2.out]; exact ⟨by simp [go_sem], by simp [go_sem]⟩
    have hVB : Below W.heap.size W V := by rw [hV]; exact HB4.out.alloc HB4.out.size _
    clear hV e0 e1 e2 e3 e4 e5 e6 e7
    obtain ⟨y1, y2, hyy⟩ : ∃ y1 y2 : Int, (y1, y2) = fr (fac true l late) 10000 := ⟨_, _, rfl⟩
    have oy := frOk_fac (lin := true) (t := late) HOK.out ht0
    have hcf := cmp_le_pct (n := fac true l late) (p := xp) hle
    rw [← HFr.out] at hcf
    rw [← hyy] at hcf hcg oy
    dsimp only at hcf hcg oy
    have hzV := hVB.size
    have gV : w4.heap.size < V.heap.size := World.block_lt_of_cell? V ⟨w4.heap.size, 0, none⟩ hk2.1
    have hL : ∀ X, Below V.heap.size V X → ((((X.cell? ⟨w.heap.size, 0, none⟩ = some (.int .i64 due) ∧ X.cell? ⟨w.heap.size, 1, none⟩ = some (.int .i64 grace)) ∧ (X.cell? ⟨w.heap.size, 2, none⟩ = some (.bool true) ∧ X.cell? ⟨w.heap.size, 3, none⟩ = some (.slice (some ⟨b, off, none⟩) l.length c))) ∧ (X.cell? ⟨w3.heap.size, 0, none⟩ = some (.int .i64 f1) ∧ X.cell? ⟨w3.heap.size, 1, none⟩ = some (.int .i64 f2))) ∧ (X.cell? ⟨w4.heap.size, 0, none⟩ = some (.int .i64 g1) ∧ X.cell? ⟨w4.heap.size, 1, none⟩ = some (.int .i64 g2))) ∧ Below V.heap.size V X := fun X hX => by
      have hc := bcell hX
      have hWX := HK.out _ (hVB.trans (hX.mono hVB.size))
      exact ⟨⟨⟨hWX.1.1.1, hWX.1.2⟩, (hc _ _ gV).trans hk2.1, (hc _ _ gV).trans hk2.2⟩, hX⟩
    have HL := Lib.hid hL
    have HFl : Hid (∀ X, Below V.heap.size V X → Calls Try.prog 11 #[.agg #[.int .i64 due, .int .i64 grace, .bool true, .slice (some ⟨b, off, none⟩) l.length c], .int .i64 late] X fun e w' => e = .returned (.agg #[.int .i64 y1, .int .i64 y2]) ∧ Below X.heap.size X w') := Lib.hid fun X hX => Factor_val due grace true _ c l late X ((HSW.out.later hVB).later hX) (by omega) hv ht0 ht1 y1 y2 hyy
    generalize ec : cmpI (y1 * f2) (f1 * y2) = cc at hcf
    generalize ed : cmpI (y1 * g2) (g1 * y2) = dd at hcg
    have C1 : Hid (∀ X, Calls Try.prog 13 #[.agg #[.int .i64 y1, .int .i64 y2], .agg #[.int .i64 f1, .int .i64 f2]] X fun e w' => e = .returned (.tuple #[.int .i64 cc, .bool true]) ∧ Below X.heap.size X w') := Lib.hid fun X => by rw [← ec]; exact Compare_ok _ _ _ _ X oy HOF.out
    have C2 : Hid (∀ X, Calls Try.prog 13 #[.agg #[.int .i64 y1, .int .i64 y2], .agg #[.int .i64 g1, .int .i64 g2]] X fun e w' => e = .returned (.tuple #[.int .i64 dd, .bool true]) ∧ Below X.heap.size X w') := Lib.hid fun X => by rw [← ed]; exact Compare_ok _ _ _ _ X oy HOG.out
    have HVB := Lib.hid (HWB.out.trans (hVB.mono HWB.out.size))
    have hcf' : decide (cc ≤ 0) = true := by simpa using hcf
    have hcg' : decide (0 ≤ dd) = true := by simpa using hcg
    clear ec ed oy hyy hL hVB hk2
    go_wp2_with fail
    go_region_held3 (fun X => ((((X.cell? ⟨w.heap.size, 0, none⟩ = some (.int .i64 due) ∧ X.cell? ⟨w.heap.size, 1, none⟩ = some (.int .i64 grace)) ∧ (X.cell? ⟨w.heap.size, 2, none⟩ = some (.bool true) ∧ X.cell? ⟨w.heap.size, 3, none⟩ = some (.slice (some ⟨b, off, none⟩) l.length c))) ∧ (X.cell? ⟨w3.heap.size, 0, none⟩ = some (.int .i64 f1) ∧ X.cell? ⟨w3.heap.size, 1, none⟩ = some (.int .i64 f2))) ∧ (X.cell? ⟨w4.heap.size, 0, none⟩ = some (.int .i64 g1) ∧ X.cell? ⟨w4.heap.size, 1, none⟩ = some (.int .i64 g2))) ∧ Below V.heap.size V X)
      (first | exact HL.out _ (Below.refl _ _).drew | exact HL.out _ hB7 | exact HL.out _ hB6)
      (first | (go_at_call 11; refine (HFl.out _ (Below.refl _ _).drew).mono ?_; rintro e w6 ⟨rfl, hb6⟩; have hB6 := (Below.refl V.heap.size V).drew.trans (hb6.mono (Nat.le_refl _)))
             | (go_at_call 13; refine (C1.out _).mono ?_; rintro e w7 ⟨rfl, hb7⟩; have hB7 := hB6.trans (hb7.mono hB6.size)))
    all_goals
      have HB7 := Lib.hid hB7
      clear hb6 hb7 hB6 hB7
      go_wp2_with fail
      go_region_held3 (fun X => ((((X.cell? ⟨w.heap.size, 0, none⟩ = some (.int .i64 due) ∧ X.cell? ⟨w.heap.size, 1, none⟩ = some (.int .i64 grace)) ∧ (X.cell? ⟨w.heap.size, 2, none⟩ = some (.bool true) ∧ X.cell? ⟨w.heap.size, 3, none⟩ = some (.slice (some ⟨b, off, none⟩) l.length c))) ∧ (X.cell? ⟨w3.heap.size, 0, none⟩ = some (.int .i64 f1) ∧ X.cell? ⟨w3.heap.size, 1, none⟩ = some (.int .i64 f2))) ∧ (X.cell? ⟨w4.heap.size, 0, none⟩ = some (.int .i64 g1) ∧ X.cell? ⟨w4.heap.size, 1, none⟩ = some (.int .i64 g2))) ∧ Below V.heap.size V X)
        (first | exact HL.out _ HB7.out.drew | exact HL.out _ hB9 | exact HL.out _ hB8)
        (first | (go_at_call 11; refine (HFl.out _ HB7.out.drew).mono ?_; rintro e w8 ⟨rfl, hb8⟩; have hB8 := HB7.out.drew.trans (hb8.mono HB7.out.drew.size))
               | (go_at_call 13; refine (C2.out _).mono ?_; rintro e w9 ⟨rfl, hb9⟩; have hB9 := hB8.trans (hb9.mono hB8.size)))
      all_goals
        go_wp2_with fail
        go_ret
        exact ⟨rfl, HVB.out.trans (hB9.mono HVB.out.size)⟩

set_option maxHeartbeats 4000000 in
set_option maxRecDepth 100000 in
theorem Knots_B_out (due grace : Int) (lin : Bool) (A : Option Addr) (c : Nat) (l : List (Int × Int)) (iN k : Nat) (late : Int) (w : World)
    (hs : StepsAt w w.heap.size A l) (h20 : l.length ≤ 20) (hl0 : 0 < l.length) (hi : iN ≤ 255) (hk : iN % l.length = k) (hv : vldB due grace l = true) (xa xp ya yp : Int) (hx : l.getD k (0, 0) = (xa, xp)) (hy : l.getD (k + 1) (0, 0) = (ya, yp)) (h9 : xa = 0) (ht : late < 0 ∨ 1099511627776 < late ∨ late ≤ xa) :
    Calls Try.prog 4 #[.agg #[.int .i64 due, .int .i64 grace, .bool lin, .slice A l.length c], .int .u8 iN, .int .i64 late] w fun e w' => e = .returned (.bool true) ∧ Below w.heap.size w w' := by
  have HB0 := Lib.hid ((Below.refl _ w).alloc (Nat.le_refl _) (polObj due grace lin A l.length c))
  have g20 : decide ((20 : Int) < (l.length : Int)) = false := by simp; omega
  have g0 : ((l.length : Int) == 0) = false := beq_eq_false_iff_ne.2 (by omega)
  have g1 : (1 : Int) ≤ (l.length : Int) := by omega
  have hkl : k < l.length := by rw [← hk]; exact Nat.mod_lt _ hl0
  have hkm : (iN : Int) % (l.length : Int) = (k : Int) := by rw [← hk]; simp
  have hi0 : (0 : Int) ≤ (iN : Int) := by omega
  have hi1 : (iN : Int) ≤ 255 := by omega
  obtain ⟨_, _, hok⟩ := vld_parts hv
  have hrx := okAt_rng (okTo_at hkl hok)
  rw [hx] at hrx
  obtain ⟨⟨xa0, xa1⟩, xp0, xp1⟩ := hrx
  dsimp only at xa0 xa1 xp0 xp1
  obtain ⟨f1, f2, hf⟩ : ∃ f1 f2 : Int, (f1, f2) = fr xp 100 := ⟨_, _, rfl⟩
  have of := frOk_pct xp0 xp1
  rw [← hf] at of
  have HM : Hid (∀ X, Calls Try.prog 14 #[.int .i64 xp, .int .i64 100] X fun e w' => e = .returned (.tuple #[.agg #[.int .i64 f1, .int .i64 f2], .int .i64 0]) ∧ Below X.heap.size X w') := Lib.hid fun X => by
    have q := rMake_ok xp 100 X xp0 (by omega) (by omega) (by omega)
    have e1 : f1 = xp / (Int.gcd xp 100 : Nat) := congrArg Prod.fst hf
    have e2 : f2 = 100 / (Int.gcd xp 100 : Nat) := congrArg Prod.snd hf
    rw [e1, e2]; exact q
  have HOF := Lib.hid of
  have HFr := Lib.hid hf
  have HT := Lib.hid ht
  subst h9
  have h9' : decide ((0 : Int) < 0) = false := by decide
  have HX := Lib.hid hx
  have HY := Lib.hid hy
  have HS0 := Lib.hid hs
  have HOK := Lib.hid hok
  clear hx hy hok of hf hk ht hs
  go_enter Try.func4, Try.ntmps4
  go_wp2_with fail
  refine (awake_any _).mono ?_
  rintro e w1 ⟨rfl, hb1⟩
  have hz1 := hb1.size
  simp only [World.size_alloc] at hz1
  have hB1 := hb1.mono (B' := w.heap.size + 1) (by simp)
  have HB1 := Lib.hid (HB0.out.trans (hb1.mono (by simp)))
  have c0 : w1.cell? ⟨w.heap.size, 0, none⟩ = some (.int .i64 due) := by rw [bcell hB1 _ _ (by omega)]; simp [go_sem]
  have c1 : w1.cell? ⟨w.heap.size, 1, none⟩ = some (.int .i64 grace) := by rw [bcell hB1 _ _ (by omega)]; simp [go_sem]
  have c2 : w1.cell? ⟨w.heap.size, 2, none⟩ = some (.bool lin) := by rw [bcell hB1 _ _ (by omega)]; simp [go_sem]
  have c3 : w1.cell? ⟨w.heap.size, 3, none⟩ = some (.slice A l.length c) := by rw [bcell hB1 _ _ (by omega)]; simp [go_sem]
  have z2 : w1.frozen? ⟨w.heap.size, 2, none⟩ = false := by rw [(bboth hB1).2 _ _ (by omega)]; simp [go_sem]
  have gz : w.heap.size < w1.heap.size := by omega
  clear hb1 hB1 HB0
  go_wp2_with fail
  obtain ⟨W1, hW1⟩ : ∃ W1, W1 = w1.setCell ⟨w.heap.size, 2, none⟩ (.bool true) := ⟨_, rfl⟩
  rw [← hW1]
  have q0 : W1.cell? ⟨w.heap.size, 0, none⟩ = some (.int .i64 due) := by rw [hW1, cs_far (by omega)]; exact c0
  have q1 : W1.cell? ⟨w.heap.size, 1, none⟩ = some (.int .i64 grace) := by rw [hW1, cs_far (by omega)]; exact c1
  have q2 : W1.cell? ⟨w.heap.size, 2, none⟩ = some (.bool true) := by rw [hW1, cs_same (by rw [c2]; rfl)]
  have q3 : W1.cell? ⟨w.heap.size, 3, none⟩ = some (.slice A l.length c) := by rw [hW1, cs_far (by omega)]; exact c3
  have hWB1 : Below w.heap.size w W1 := by rw [hW1]; exact HB1.out.setCell (p := ⟨w.heap.size, 2, none⟩) (by dsimp only; omega) _
  have gW1 : w.heap.size < W1.heap.size := World.block_lt_of_cell? W1 ⟨w.heap.size, 0, none⟩ q0
  have HSW1 := Lib.hid ((HS0.out.below hWB1).more (Nat.le_of_lt gW1))
  have HWB1 := Lib.hid hWB1
  have H0 : Hid (PS W1 w.heap.size due grace true A l.length c W1) := ⟨⟨⟨q0, q1⟩, q2, q3⟩, Below.refl _ _⟩
  clear hW1 hWB1 c0 c1 c2 c3 z2 hz1 gz HB1
  refine (Valid_any _ _ _ _ _ _ _ HSW1.out (by omega)).mono ?_
  rintro e w2 ⟨rfl, hb2⟩
  obtain ⟨⟨⟨d0, d1⟩, d2, d3⟩, _⟩ := ps_of H0.out hb2
  have hz2 := hb2.size
  obtain ⟨b, off, hA, hbl, hc⟩ := (HSW1.out.later hb2) hl0
  subst hA
  have s0 := (hc k hkl).1
  have s1 := (hc k hkl).2
  rw [HX.out] at s0 s1
  dsimp only at s0 s1
  have HB2 := Lib.hid hb2
  clear hb2 hc q0 q1 q2 q3
  go_wp2_with fail
  refine (HM.out _).mono ?_
  rintro e w3 ⟨rfl, hb3⟩
  have hz3 := hb3.size
  simp only [World.size_alloc] at hz3
  have hB3 : Below W1.heap.size W1 w3 := (HB2.out.alloc HB2.out.size _).trans (hb3.mono (by simp; omega))
  have x0 : w3.cell? ⟨w2.heap.size, 0, none⟩ = some (.int .i64 0) := by rw [bcell hb3 _ _ (by simp)]; simp [go_sem]
  have x1 : w3.cell? ⟨w2.heap.size, 1, none⟩ = some (.int .i64 xp) := by rw [bcell hb3 _ _ (by simp)]; simp [go_sem]
  have HB3 := Lib.hid hB3
  clear hb3 hB3 d0 d1 d2 d3 s0 s1
  go_wp2_with fail
  obtain ⟨W, hW⟩ : ∃ W, W = w3.alloc (.cells #[.int .i64 f1, .int .i64 f2] 27) := ⟨_, rfl⟩
  rw [← hW]
  have hWB : Below W1.heap.size W1 W := by rw [hW]; exact HB3.out.alloc HB3.out.size _
  have hWs : w3.heap.size < W.heap.size := by rw [hW]; simp
  have m0 : W.cell? ⟨w3.heap.size, 0, none⟩ = some (.int .i64 f1) := by rw [hW]; simp [go_sem]
  have m1 : W.cell? ⟨w3.heap.size, 1, none⟩ = some (.int .i64 f2) := by rw [hW]; simp [go_sem]
  have n0 : W.cell? ⟨w2.heap.size, 0, none⟩ = some (.int .i64 0) := by rw [hW, World.cell?_alloc_lt _ _ _ (by dsimp only; omega)]; exact x0
  have n1 : W.cell? ⟨w2.heap.size, 1, none⟩ = some (.int .i64 xp) := by rw [hW, World.cell?_alloc_lt _ _ _ (by dsimp only; omega)]; exact x1
  have hK : ∀ X, Below W.heap.size W X → ((((X.cell? ⟨w.heap.size, 0, none⟩ = some (.int .i64 due) ∧ X.cell? ⟨w.heap.size, 1, none⟩ = some (.int .i64 grace)) ∧ (X.cell? ⟨w.heap.size, 2, none⟩ = some (.bool true) ∧ X.cell? ⟨w.heap.size, 3, none⟩ = some (.slice (some ⟨b, off, none⟩) l.length c))) ∧ (X.cell? ⟨w2.heap.size, 0, none⟩ = some (.int .i64 0) ∧ X.cell? ⟨w2.heap.size, 1, none⟩ = some (.int .i64 xp))) ∧ (X.cell? ⟨w3.heap.size, 0, none⟩ = some (.int .i64 f1) ∧ X.cell? ⟨w3.heap.size, 1, none⟩ = some (.int .i64 f2))) ∧ Below W.heap.size W X := fun X hX => by
    have hc := bcell hX
    exact ⟨⟨⟨(ps_of H0.out (hWB.trans (hX.mono hWB.size))).1, (hc _ _ (by omega)).trans n0, (hc _ _ (by omega)).trans n1⟩, (hc _ _ hWs).trans m0, (hc _ _ hWs).trans m1⟩, hX⟩
  have HSW := Lib.hid (HSW1.out.later hWB)
  have HK := Lib.hid hK
  have HWB := Lib.hid (HWB1.out.trans (hWB.mono (Nat.le_of_lt gW1)))
  have hKd := hK _ (Below.refl _ _)
  obtain ⟨⟨⟨⟨⟨e0, e1⟩, e2, e3⟩, e4, e5⟩, e6, e7⟩, _⟩ := hKd
  clear hK hWB hW m0 m1 n0 n1 x0 x1
  go_quiet (fail)
  all_goals
    obtain ⟨w4, hw4⟩ : ∃ w4, w4 = W.drewN nq := ⟨_, rfl⟩
    rw [← hw4]
    have HB4 : Hid (Below W.heap.size W w4) := Lib.hid (by rw [hw4]; exact below_drewN (Below.refl _ _) _)
    clear hw4 e0 e1 e2 e3 e4 e5 e6 e7
    obtain ⟨⟨⟨⟨⟨e0, e1⟩, e2, e3⟩, e4, e5⟩, e6, e7⟩, _⟩ := HK.out _ HB4.out
    have hz4 := HB4.out.size
    have gw4 : w.heap.size < w4.heap.size := by omega
    have gx4 : w2.heap.size < w4.heap.size := by omega
    have gf4 : w3.heap.size < w4.heap.size := by omega
    rcases Int.lt_or_le late 0 with h1 | h1
    · go_wp2_with fail
      go_ret
      exact ⟨rfl, HWB.out.trans (HB4.out.mono HWB.out.size)⟩
    · have h1' : decide (late < 0) = false := by simp; omega
      rcases Int.lt_or_le 1099511627776 late with h2 | h2
      · go_wp2_with fail
        go_ret
        exact ⟨rfl, HWB.out.trans (HB4.out.mono HWB.out.size)⟩
      · have h2' : decide (1099511627776 < late) = false := by simp; omega
        have h3 : late ≤ 0 := by have := HT.out; omega
        go_wp2_with fail
        go_ret
        exact ⟨rfl, HWB.out.trans (HB4.out.mono HWB.out.size)⟩

set_option maxHeartbeats 4000000 in
set_option maxRecDepth 100000 in
theorem Knots_B_far (due grace : Int) (lin : Bool) (A : Option Addr) (c : Nat) (l : List (Int × Int)) (iN k : Nat) (late : Int) (w : World)
    (hs : StepsAt w w.heap.size A l) (h20 : l.length ≤ 20) (hl0 : 0 < l.length) (hi : iN ≤ 255) (hk : iN % l.length = k) (hv : vldB due grace l = true) (xa xp ya yp : Int) (hx : l.getD k (0, 0) = (xa, xp)) (hy : l.getD (k + 1) (0, 0) = (ya, yp)) (h9 : xa = 0) (ht0 : 0 ≤ late) (ht1 : late ≤ 1099511627776) (ht2 : xa < late) (hk1 : k + 1 < l.length) (ht3 : ya < late) :
    Calls Try.prog 4 #[.agg #[.int .i64 due, .int .i64 grace, .bool lin, .slice A l.length c], .int .u8 iN, .int .i64 late] w fun e w' => e = .returned (.bool true) ∧ Below w.heap.size w w' := by
  have HB0 := Lib.hid ((Below.refl _ w).alloc (Nat.le_refl _) (polObj due grace lin A l.length c))
  have g20 : decide ((20 : Int) < (l.length : Int)) = false := by simp; omega
  have g0 : ((l.length : Int) == 0) = false := beq_eq_false_iff_ne.2 (by omega)
  have g1 : (1 : Int) ≤ (l.length : Int) := by omega
  have hkl : k < l.length := by rw [← hk]; exact Nat.mod_lt _ hl0
  have hkm : (iN : Int) % (l.length : Int) = (k : Int) := by rw [← hk]; simp
  have hi0 : (0 : Int) ≤ (iN : Int) := by omega
  have hi1 : (iN : Int) ≤ 255 := by omega
  obtain ⟨_, _, hok⟩ := vld_parts hv
  have hrx := okAt_rng (okTo_at hkl hok)
  rw [hx] at hrx
  obtain ⟨⟨xa0, xa1⟩, xp0, xp1⟩ := hrx
  dsimp only at xa0 xa1 xp0 xp1
  have hry := okAt_rng (okTo_at hk1 hok)
  rw [hy] at hry
  obtain ⟨⟨ya0, ya1⟩, yp0, yp1⟩ := hry
  dsimp only at ya0 ya1 yp0 yp1
  have i2 : ((k : Int) + 1).toNat = k + 1 := by omega
  have i3 : (k : Int) + 1 < (l.length : Int) := by omega
  have i4 : (0 : Int) ≤ (k : Int) + 1 := by omega
  obtain ⟨f1, f2, hf⟩ : ∃ f1 f2 : Int, (f1, f2) = fr xp 100 := ⟨_, _, rfl⟩
  have of := frOk_pct xp0 xp1
  rw [← hf] at of
  have HM : Hid (∀ X, Calls Try.prog 14 #[.int .i64 xp, .int .i64 100] X fun e w' => e = .returned (.tuple #[.agg #[.int .i64 f1, .int .i64 f2], .int .i64 0]) ∧ Below X.heap.size X w') := Lib.hid fun X => by
    have q := rMake_ok xp 100 X xp0 (by omega) (by omega) (by omega)
    have e1 : f1 = xp / (Int.gcd xp 100 : Nat) := congrArg Prod.fst hf
    have e2 : f2 = 100 / (Int.gcd xp 100 : Nat) := congrArg Prod.snd hf
    rw [e1, e2]; exact q
  have HOF := Lib.hid of
  have HFr := Lib.hid hf
  subst h9
  have h9' : decide ((0 : Int) < 0) = false := by decide
  have HX := Lib.hid hx
  have HY := Lib.hid hy
  have HS0 := Lib.hid hs
  have HOK := Lib.hid hok
  clear hx hy hok of hf hk hs
  go_enter Try.func4, Try.ntmps4
  go_wp2_with fail
  refine (awake_any _).mono ?_
  rintro e w1 ⟨rfl, hb1⟩
  have hz1 := hb1.size
  simp only [World.size_alloc] at hz1
  have hB1 := hb1.mono (B' := w.heap.size + 1) (by simp)
  have HB1 := Lib.hid (HB0.out.trans (hb1.mono (by simp)))
  have c0 : w1.cell? ⟨w.heap.size, 0, none⟩ = some (.int .i64 due) := by rw [bcell hB1 _ _ (by omega)]; simp [go_sem]
  have c1 : w1.cell? ⟨w.heap.size, 1, none⟩ = some (.int .i64 grace) := by rw [bcell hB1 _ _ (by omega)]; simp [go_sem]
  have c2 : w1.cell? ⟨w.heap.size, 2, none⟩ = some (.bool lin) := by rw [bcell hB1 _ _ (by omega)]; simp [go_sem]
  have c3 : w1.cell? ⟨w.heap.size, 3, none⟩ = some (.slice A l.length c) := by rw [bcell hB1 _ _ (by omega)]; simp [go_sem]
  have z2 : w1.frozen? ⟨w.heap.size, 2, none⟩ = false := by rw [(bboth hB1).2 _ _ (by omega)]; simp [go_sem]
  have gz : w.heap.size < w1.heap.size := by omega
  clear hb1 hB1 HB0
  go_wp2_with fail
  obtain ⟨W1, hW1⟩ : ∃ W1, W1 = w1.setCell ⟨w.heap.size, 2, none⟩ (.bool true) := ⟨_, rfl⟩
  rw [← hW1]
  have q0 : W1.cell? ⟨w.heap.size, 0, none⟩ = some (.int .i64 due) := by rw [hW1, cs_far (by omega)]; exact c0
  have q1 : W1.cell? ⟨w.heap.size, 1, none⟩ = some (.int .i64 grace) := by rw [hW1, cs_far (by omega)]; exact c1
  have q2 : W1.cell? ⟨w.heap.size, 2, none⟩ = some (.bool true) := by rw [hW1, cs_same (by rw [c2]; rfl)]
  have q3 : W1.cell? ⟨w.heap.size, 3, none⟩ = some (.slice A l.length c) := by rw [hW1, cs_far (by omega)]; exact c3
  have hWB1 : Below w.heap.size w W1 := by rw [hW1]; exact HB1.out.setCell (p := ⟨w.heap.size, 2, none⟩) (by dsimp only; omega) _
  have gW1 : w.heap.size < W1.heap.size := World.block_lt_of_cell? W1 ⟨w.heap.size, 0, none⟩ q0
  have HSW1 := Lib.hid ((HS0.out.below hWB1).more (Nat.le_of_lt gW1))
  have HWB1 := Lib.hid hWB1
  have H0 : Hid (PS W1 w.heap.size due grace true A l.length c W1) := ⟨⟨⟨q0, q1⟩, q2, q3⟩, Below.refl _ _⟩
  clear hW1 hWB1 c0 c1 c2 c3 z2 hz1 gz HB1
  refine (Valid_any _ _ _ _ _ _ _ HSW1.out (by omega)).mono ?_
  rintro e w2 ⟨rfl, hb2⟩
  obtain ⟨⟨⟨d0, d1⟩, d2, d3⟩, _⟩ := ps_of H0.out hb2
  have hz2 := hb2.size
  obtain ⟨b, off, hA, hbl, hc⟩ := (HSW1.out.later hb2) hl0
  subst hA
  have s0 := (hc k hkl).1
  have s1 := (hc k hkl).2
  rw [HX.out] at s0 s1
  dsimp only at s0 s1
  have HB2 := Lib.hid hb2
  clear hb2 hc q0 q1 q2 q3
  go_wp2_with fail
  refine (HM.out _).mono ?_
  rintro e w3 ⟨rfl, hb3⟩
  have hz3 := hb3.size
  simp only [World.size_alloc] at hz3
  have hB3 : Below W1.heap.size W1 w3 := (HB2.out.alloc HB2.out.size _).trans (hb3.mono (by simp; omega))
  have x0 : w3.cell? ⟨w2.heap.size, 0, none⟩ = some (.int .i64 0) := by rw [bcell hb3 _ _ (by simp)]; simp [go_sem]
  have x1 : w3.cell? ⟨w2.heap.size, 1, none⟩ = some (.int .i64 xp) := by rw [bcell hb3 _ _ (by simp)]; simp [go_sem]
  have HB3 := Lib.hid hB3
  clear hb3 hB3 d0 d1 d2 d3 s0 s1
  go_wp2_with fail
  obtain ⟨W, hW⟩ : ∃ W, W = w3.alloc (.cells #[.int .i64 f1, .int .i64 f2] 27) := ⟨_, rfl⟩
  rw [← hW]
  have hWB : Below W1.heap.size W1 W := by rw [hW]; exact HB3.out.alloc HB3.out.size _
  have hWs : w3.heap.size < W.heap.size := by rw [hW]; simp
  have m0 : W.cell? ⟨w3.heap.size, 0, none⟩ = some (.int .i64 f1) := by rw [hW]; simp [go_sem]
  have m1 : W.cell? ⟨w3.heap.size, 1, none⟩ = some (.int .i64 f2) := by rw [hW]; simp [go_sem]
  have n0 : W.cell? ⟨w2.heap.size, 0, none⟩ = some (.int .i64 0) := by rw [hW, World.cell?_alloc_lt _ _ _ (by dsimp only; omega)]; exact x0
  have n1 : W.cell? ⟨w2.heap.size, 1, none⟩ = some (.int .i64 xp) := by rw [hW, World.cell?_alloc_lt _ _ _ (by dsimp only; omega)]; exact x1
  have hK : ∀ X, Below W.heap.size W X → ((((X.cell? ⟨w.heap.size, 0, none⟩ = some (.int .i64 due) ∧ X.cell? ⟨w.heap.size, 1, none⟩ = some (.int .i64 grace)) ∧ (X.cell? ⟨w.heap.size, 2, none⟩ = some (.bool true) ∧ X.cell? ⟨w.heap.size, 3, none⟩ = some (.slice (some ⟨b, off, none⟩) l.length c))) ∧ (X.cell? ⟨w2.heap.size, 0, none⟩ = some (.int .i64 0) ∧ X.cell? ⟨w2.heap.size, 1, none⟩ = some (.int .i64 xp))) ∧ (X.cell? ⟨w3.heap.size, 0, none⟩ = some (.int .i64 f1) ∧ X.cell? ⟨w3.heap.size, 1, none⟩ = some (.int .i64 f2))) ∧ Below W.heap.size W X := fun X hX => by
    have hc := bcell hX
    exact ⟨⟨⟨(ps_of H0.out (hWB.trans (hX.mono hWB.size))).1, (hc _ _ (by omega)).trans n0, (hc _ _ (by omega)).trans n1⟩, (hc _ _ hWs).trans m0, (hc _ _ hWs).trans m1⟩, hX⟩
  have HSW := Lib.hid (HSW1.out.later hWB)
  have HK := Lib.hid hK
  have HWB := Lib.hid (HWB1.out.trans (hWB.mono (Nat.le_of_lt gW1)))
  have hKd := hK _ (Below.refl _ _)
  obtain ⟨⟨⟨⟨⟨e0, e1⟩, e2, e3⟩, e4, e5⟩, e6, e7⟩, _⟩ := hKd
  clear hK hWB hW m0 m1 n0 n1 x0 x1
  go_quiet (fail)
  all_goals
    obtain ⟨w4, hw4⟩ : ∃ w4, w4 = W.drewN nq := ⟨_, rfl⟩
    rw [← hw4]
    have HB4 : Hid (Below W.heap.size W w4) := Lib.hid (by rw [hw4]; exact below_drewN (Below.refl _ _) _)
    clear hw4 e0 e1 e2 e3 e4 e5 e6 e7
    obtain ⟨⟨⟨⟨⟨e0, e1⟩, e2, e3⟩, e4, e5⟩, e6, e7⟩, _⟩ := HK.out _ HB4.out
    have hz4 := HB4.out.size
    have gw4 : w.heap.size < w4.heap.size := by omega
    have gx4 : w2.heap.size < w4.heap.size := by omega
    have gf4 : w3.heap.size < w4.heap.size := by omega
    have h1' : decide (late < 0) = false := by simp; omega
    have h2' : decide (1099511627776 < late) = false := by simp; omega
    have h3' : decide (late ≤ 0) = false := by simp; omega
    obtain ⟨b', off', hA', hbl', hc'⟩ := (HSW.out.later HB4.out) hl0
    simp only [Option.some.injEq, Addr.mk.injEq, and_true] at hA'
    obtain ⟨rfl, rfl⟩ := hA'
    have s2 := (hc' (k + 1) hk1).1
    have s3 := (hc' (k + 1) hk1).2
    rw [HY.out] at s2 s3
    dsimp only at s2 s3
    clear hc'
    go_wp2_with fail
    go_ret
    exact ⟨rfl, HWB.out.trans ((HB4.out.alloc HB4.out.size _).mono HWB.out.size)⟩

set_option maxHeartbeats 4000000 in
set_option maxRecDepth 100000 in
theorem Knots_B_mid (due grace : Int) (lin : Bool) (A : Option Addr) (c : Nat) (l : List (Int × Int)) (iN k : Nat) (late : Int) (w : World)
    (hs : StepsAt w w.heap.size A l) (h20 : l.length ≤ 20) (hl0 : 0 < l.length) (hi : iN ≤ 255) (hk : iN % l.length = k) (hv : vldB due grace l = true) (xa xp ya yp : Int) (hx : l.getD k (0, 0) = (xa, xp)) (hy : l.getD (k + 1) (0, 0) = (ya, yp)) (h9 : xa = 0) (ht0 : 0 ≤ late) (ht1 : late ≤ 1099511627776) (ht2 : xa < late) (hk1 : k + 1 < l.length) (ht3 : late ≤ ya) :
    Calls Try.prog 4 #[.agg #[.int .i64 due, .int .i64 grace, .bool lin, .slice A l.length c], .int .u8 iN, .int .i64 late] w fun e w' => e = .returned (.bool true) ∧ Below w.heap.size w w' := by
  have HB0 := Lib.hid ((Below.refl _ w).alloc (Nat.le_refl _) (polObj due grace lin A l.length c))
  have g20 : decide ((20 : Int) < (l.length : Int)) = false := by simp; omega
  have g0 : ((l.length : Int) == 0) = false := beq_eq_false_iff_ne.2 (by omega)
  have g1 : (1 : Int) ≤ (l.length : Int) := by omega
  have hkl : k < l.length := by rw [← hk]; exact Nat.mod_lt _ hl0
  have hkm : (iN : Int) % (l.length : Int) = (k : Int) := by rw [← hk]; simp
  have hi0 : (0 : Int) ≤ (iN : Int) := by omega
  have hi1 : (iN : Int) ≤ 255 := by omega
  obtain ⟨_, _, hok⟩ := vld_parts hv
  have hrx := okAt_rng (okTo_at hkl hok)
  rw [hx] at hrx
  obtain ⟨⟨xa0, xa1⟩, xp0, xp1⟩ := hrx
  dsimp only at xa0 xa1 xp0 xp1
  have hle : fac true l late ≤ 100 * xp := by have := knot_le (t := late) hok hkl (by rw [hx]; show xa ≤ late; omega) (by omega); rw [hx] at this; exact this
  have hry := okAt_rng (okTo_at hk1 hok)
  rw [hy] at hry
  obtain ⟨⟨ya0, ya1⟩, yp0, yp1⟩ := hry
  dsimp only at ya0 ya1 yp0 yp1
  have i2 : ((k : Int) + 1).toNat = k + 1 := by omega
  have i3 : (k : Int) + 1 < (l.length : Int) := by omega
  have i4 : (0 : Int) ≤ (k : Int) + 1 := by omega
  have hge : 100 * yp ≤ fac true l late := by have := knot_ge (t := late) hok hk1 (by rw [hx]; show xa ≤ late; omega) (by omega) (by rw [hy]; exact ht3); rw [hy] at this; exact this
  obtain ⟨f1, f2, hf⟩ : ∃ f1 f2 : Int, (f1, f2) = fr xp 100 := ⟨_, _, rfl⟩
  have of := frOk_pct xp0 xp1
  rw [← hf] at of
  have HM : Hid (∀ X, Calls Try.prog 14 #[.int .i64 xp, .int .i64 100] X fun e w' => e = .returned (.tuple #[.agg #[.int .i64 f1, .int .i64 f2], .int .i64 0]) ∧ Below X.heap.size X w') := Lib.hid fun X => by
    have q := rMake_ok xp 100 X xp0 (by omega) (by omega) (by omega)
    have e1 : f1 = xp / (Int.gcd xp 100 : Nat) := congrArg Prod.fst hf
    have e2 : f2 = 100 / (Int.gcd xp 100 : Nat) := congrArg Prod.snd hf
    rw [e1, e2]; exact q
  have HOF := Lib.hid of
  have HFr := Lib.hid hf
  subst h9
  have h9' : decide ((0 : Int) < 0) = false := by decide
  have HX := Lib.hid hx
  have HY := Lib.hid hy
  have HS0 := Lib.hid hs
  have HOK := Lib.hid hok
  clear hx hy hok of hf hk hs
  go_enter Try.func4, Try.ntmps4
  go_wp2_with fail
  refine (awake_any _).mono ?_
  rintro e w1 ⟨rfl, hb1⟩
  have hz1 := hb1.size
  simp only [World.size_alloc] at hz1
  have hB1 := hb1.mono (B' := w.heap.size + 1) (by simp)
  have HB1 := Lib.hid (HB0.out.trans (hb1.mono (by simp)))
  have c0 : w1.cell? ⟨w.heap.size, 0, none⟩ = some (.int .i64 due) := by rw [bcell hB1 _ _ (by omega)]; simp [go_sem]
  have c1 : w1.cell? ⟨w.heap.size, 1, none⟩ = some (.int .i64 grace) := by rw [bcell hB1 _ _ (by omega)]; simp [go_sem]
  have c2 : w1.cell? ⟨w.heap.size, 2, none⟩ = some (.bool lin) := by rw [bcell hB1 _ _ (by omega)]; simp [go_sem]
  have c3 : w1.cell? ⟨w.heap.size, 3, none⟩ = some (.slice A l.length c) := by rw [bcell hB1 _ _ (by omega)]; simp [go_sem]
  have z2 : w1.frozen? ⟨w.heap.size, 2, none⟩ = false := by rw [(bboth hB1).2 _ _ (by omega)]; simp [go_sem]
  have gz : w.heap.size < w1.heap.size := by omega
  clear hb1 hB1 HB0
  go_wp2_with fail
  obtain ⟨W1, hW1⟩ : ∃ W1, W1 = w1.setCell ⟨w.heap.size, 2, none⟩ (.bool true) := ⟨_, rfl⟩
  rw [← hW1]
  have q0 : W1.cell? ⟨w.heap.size, 0, none⟩ = some (.int .i64 due) := by rw [hW1, cs_far (by omega)]; exact c0
  have q1 : W1.cell? ⟨w.heap.size, 1, none⟩ = some (.int .i64 grace) := by rw [hW1, cs_far (by omega)]; exact c1
  have q2 : W1.cell? ⟨w.heap.size, 2, none⟩ = some (.bool true) := by rw [hW1, cs_same (by rw [c2]; rfl)]
  have q3 : W1.cell? ⟨w.heap.size, 3, none⟩ = some (.slice A l.length c) := by rw [hW1, cs_far (by omega)]; exact c3
  have hWB1 : Below w.heap.size w W1 := by rw [hW1]; exact HB1.out.setCell (p := ⟨w.heap.size, 2, none⟩) (by dsimp only; omega) _
  have gW1 : w.heap.size < W1.heap.size := World.block_lt_of_cell? W1 ⟨w.heap.size, 0, none⟩ q0
  have HSW1 := Lib.hid ((HS0.out.below hWB1).more (Nat.le_of_lt gW1))
  have HWB1 := Lib.hid hWB1
  have H0 : Hid (PS W1 w.heap.size due grace true A l.length c W1) := ⟨⟨⟨q0, q1⟩, q2, q3⟩, Below.refl _ _⟩
  clear hW1 hWB1 c0 c1 c2 c3 z2 hz1 gz HB1
  refine (Valid_any _ _ _ _ _ _ _ HSW1.out (by omega)).mono ?_
  rintro e w2 ⟨rfl, hb2⟩
  obtain ⟨⟨⟨d0, d1⟩, d2, d3⟩, _⟩ := ps_of H0.out hb2
  have hz2 := hb2.size
  obtain ⟨b, off, hA, hbl, hc⟩ := (HSW1.out.later hb2) hl0
  subst hA
  have s0 := (hc k hkl).1
  have s1 := (hc k hkl).2
  rw [HX.out] at s0 s1
  dsimp only at s0 s1
  have HB2 := Lib.hid hb2
  clear hb2 hc q0 q1 q2 q3
  go_wp2_with fail
  refine (HM.out _).mono ?_
  rintro e w3 ⟨rfl, hb3⟩
  have hz3 := hb3.size
  simp only [World.size_alloc] at hz3
  have hB3 : Below W1.heap.size W1 w3 := (HB2.out.alloc HB2.out.size _).trans (hb3.mono (by simp; omega))
  have x0 : w3.cell? ⟨w2.heap.size, 0, none⟩ = some (.int .i64 0) := by rw [bcell hb3 _ _ (by simp)]; simp [go_sem]
  have x1 : w3.cell? ⟨w2.heap.size, 1, none⟩ = some (.int .i64 xp) := by rw [bcell hb3 _ _ (by simp)]; simp [go_sem]
  have HB3 := Lib.hid hB3
  clear hb3 hB3 d0 d1 d2 d3 s0 s1
  go_wp2_with fail
  obtain ⟨W, hW⟩ : ∃ W, W = w3.alloc (.cells #[.int .i64 f1, .int .i64 f2] 27) := ⟨_, rfl⟩
  rw [← hW]
  have hWB : Below W1.heap.size W1 W := by rw [hW]; exact HB3.out.alloc HB3.out.size _
  have hWs : w3.heap.size < W.heap.size := by rw [hW]; simp
  have m0 : W.cell? ⟨w3.heap.size, 0, none⟩ = some (.int .i64 f1) := by rw [hW]; simp [go_sem]
  have m1 : W.cell? ⟨w3.heap.size, 1, none⟩ = some (.int .i64 f2) := by rw [hW]; simp [go_sem]
  have n0 : W.cell? ⟨w2.heap.size, 0, none⟩ = some (.int .i64 0) := by rw [hW, World.cell?_alloc_lt _ _ _ (by dsimp only; omega)]; exact x0
  have n1 : W.cell? ⟨w2.heap.size, 1, none⟩ = some (.int .i64 xp) := by rw [hW, World.cell?_alloc_lt _ _ _ (by dsimp only; omega)]; exact x1
  have hK : ∀ X, Below W.heap.size W X → ((((X.cell? ⟨w.heap.size, 0, none⟩ = some (.int .i64 due) ∧ X.cell? ⟨w.heap.size, 1, none⟩ = some (.int .i64 grace)) ∧ (X.cell? ⟨w.heap.size, 2, none⟩ = some (.bool true) ∧ X.cell? ⟨w.heap.size, 3, none⟩ = some (.slice (some ⟨b, off, none⟩) l.length c))) ∧ (X.cell? ⟨w2.heap.size, 0, none⟩ = some (.int .i64 0) ∧ X.cell? ⟨w2.heap.size, 1, none⟩ = some (.int .i64 xp))) ∧ (X.cell? ⟨w3.heap.size, 0, none⟩ = some (.int .i64 f1) ∧ X.cell? ⟨w3.heap.size, 1, none⟩ = some (.int .i64 f2))) ∧ Below W.heap.size W X := fun X hX => by
    have hc := bcell hX
    exact ⟨⟨⟨(ps_of H0.out (hWB.trans (hX.mono hWB.size))).1, (hc _ _ (by omega)).trans n0, (hc _ _ (by omega)).trans n1⟩, (hc _ _ hWs).trans m0, (hc _ _ hWs).trans m1⟩, hX⟩
  have HSW := Lib.hid (HSW1.out.later hWB)
  have HK := Lib.hid hK
  have HWB := Lib.hid (HWB1.out.trans (hWB.mono (Nat.le_of_lt gW1)))
  have hKd := hK _ (Below.refl _ _)
  obtain ⟨⟨⟨⟨⟨e0, e1⟩, e2, e3⟩, e4, e5⟩, e6, e7⟩, _⟩ := hKd
  clear hK hWB hW m0 m1 n0 n1 x0 x1
  go_quiet (fail)
  all_goals
    obtain ⟨w4, hw4⟩ : ∃ w4, w4 = W.drewN nq := ⟨_, rfl⟩
    rw [← hw4]
    have HB4 : Hid (Below W.heap.size W w4) := Lib.hid (by rw [hw4]; exact below_drewN (Below.refl _ _) _)
    clear hw4 e0 e1 e2 e3 e4 e5 e6 e7
    obtain ⟨⟨⟨⟨⟨e0, e1⟩, e2, e3⟩, e4, e5⟩, e6, e7⟩, _⟩ := HK.out _ HB4.out
    have hz4 := HB4.out.size
    have gw4 : w.heap.size < w4.heap.size := by omega
    have gx4 : w2.heap.size < w4.heap.size := by omega
    have gf4 : w3.heap.size < w4.heap.size := by omega
    have h1' : decide (late < 0) = false := by simp; omega
    have h2' : decide (1099511627776 < late) = false := by simp; omega
    have h3' : decide (late ≤ 0) = false := by simp; omega
    obtain ⟨b', off', hA', hbl', hc'⟩ := (HSW.out.later HB4.out) hl0
    simp only [Option.some.injEq, Addr.mk.injEq, and_true] at hA'
    obtain ⟨rfl, rfl⟩ := hA'
    have s2 := (hc' (k + 1) hk1).1
    have s3 := (hc' (k + 1) hk1).2
    rw [HY.out] at s2 s3
    dsimp only at s2 s3
    clear hc'
    have h5' : decide (ya < late) = false := by simp; omega
    obtain ⟨g1, g2, hg⟩ : ∃ g1 g2 : Int, (g1, g2) = fr yp 100 := ⟨_, _, rfl⟩
    have og := frOk_pct yp0 yp1
    rw [← hg] at og
    have HM2 : Hid (∀ X, Calls Try.prog 14 #[.int .i64 yp, .int .i64 100] X fun e w' => e = .returned (.tuple #[.agg #[.int .i64 g1, .int .i64 g2], .int .i64 0]) ∧ Below X.heap.size X w') := Lib.hid fun X => by
      have q := rMake_ok yp 100 X yp0 (by omega) (by omega) (by omega)
      have e1 : g1 = yp / (Int.gcd yp 100 : Nat) := congrArg Prod.fst hg
      have e2 : g2 = 100 / (Int.gcd yp 100 : Nat) := congrArg Prod.snd hg
      rw [e1, e2]; exact q
    have hcg := cmp_ge_pct (n := fac true l late) (p := yp) hge
    rw [← hg] at hcg
    have HOG := Lib.hid og
    clear og hg
    go_wp2_with fail
    refine (HM2.out _).mono ?_
    rintro e w5 ⟨rfl, hb5⟩
    have hz5 := hb5.size
    simp only [World.size_alloc] at hz5
    have hc5 := bboth hb5
    have t0 : w5.cell? ⟨w4.heap.size, 0, none⟩ = some (.int .i64 0) := by rw [hc5.1 _ _ (by simp)]; simp [go_sem]
    have t1 : w5.cell? ⟨w4.heap.size, 1, none⟩ = some (.int .i64 1) := by rw [hc5.1 _ _ (by simp)]; simp [go_sem]
    have u0 : w5.frozen? ⟨w4.heap.size, 0, none⟩ = false := by rw [hc5.2 _ _ (by simp)]; simp [go_sem]
    have u1 : w5.frozen? ⟨w4.heap.size, 1, none⟩ = false := by rw [hc5.2 _ _ (by simp)]; simp [go_sem]
    have hB5 : Below W.heap.size W w5 := (HB4.out.alloc HB4.out.size _).trans (hb5.mono (by simp; omega))
    have g5 : w4.heap.size < w5.heap.size := by omega
    have HB5 := Lib.hid hB5
    clear hb5 hc5 hB5 e0 e1 e2 e3 e4 e5 e6 e7 s2 s3
    go_wp2_with fail
    obtain ⟨V, hV⟩ : ∃ V, V = (w5.setCell ⟨w4.heap.size, 0, none⟩ (.int .i64 g1)).setCell ⟨w4.heap.size, 1, none⟩ (.int .i64 g2) := ⟨_, rfl⟩
    rw [← hV]
    have hk2 := two_set (w := w5) (b := w4.heap.size) (.int .i64 g1) (.int .i64 g2) t0 t1
    rw [← hV] at hk2
    have hVB : Below W.heap.size W V := by rw [hV]; exact (HB5.out.setCell (p := ⟨w4.heap.size, 0, none⟩) (by dsimp only; omega) _).setCell (p := ⟨w4.heap.size, 1, none⟩) (by dsimp only; omega) _
    clear hV t0 t1 u0 u1
    obtain ⟨y1, y2, hyy⟩ : ∃ y1 y2 : Int, (y1, y2) = fr (fac true l late) 10000 := ⟨_, _, rfl⟩
    have oy := frOk_fac (lin := true) (t := late) HOK.out ht0
    have hcf := cmp_le_pct (n := fac true l late) (p := xp) hle
    rw [← HFr.out] at hcf
    rw [← hyy] at hcf hcg oy
    dsimp only at hcf hcg oy
    have hzV := hVB.size
    have gV : w4.heap.size < V.heap.size := World.block_lt_of_cell? V ⟨w4.heap.size, 0, none⟩ hk2.1
    have hL : ∀ X, Below V.heap.size V X → ((((X.cell? ⟨w.heap.size, 0, none⟩ = some (.int .i64 due) ∧ X.cell? ⟨w.heap.size, 1, none⟩ = some (.int .i64 grace)) ∧ (X.cell? ⟨w.heap.size, 2, none⟩ = some (.bool true) ∧ X.cell? ⟨w.heap.size, 3, none⟩ = some (.slice (some ⟨b, off, none⟩) l.length c))) ∧ (X.cell? ⟨w3.heap.size, 0, none⟩ = some (.int .i64 f1) ∧ X.cell? ⟨w3.heap.size, 1, none⟩ = some (.int .i64 f2))) ∧ (X.cell? ⟨w4.heap.size, 0, none⟩ = some (.int .i64 g1) ∧ X.cell? ⟨w4.heap.size, 1, none⟩ = some (.int .i64 g2))) ∧ Below V.heap.size V X := fun X hX => by
      have hc := bcell hX
      have hWX := HK.out _ (hVB.trans (hX.mono hVB.size))
      exact ⟨⟨⟨hWX.1.1.1, hWX.1.2⟩, (hc _ _ gV).trans hk2.1, (hc _ _ gV).trans hk2.2⟩, hX⟩
    have HL := Lib.hid hL
    have HFl : Hid (∀ X, Below V.heap.size V X → Calls Try.prog 11 #[.agg #[.int .i64 due, .int .i64 grace, .bool true, .slice (some ⟨b, off, none⟩) l.length c], .int .i64 late] X fun e w' => e = .returned (.agg #[.int .i64 y1, .int .i64 y2]) ∧ Below X.heap.size X w') := Lib.hid fun X hX => Factor_val due grace true _ c l late X ((HSW.out.later hVB).later hX) (by omega) hv ht0 ht1 y1 y2 hyy
    generalize ec : cmpI (y1 * f2) (f1 * y2) = cc at hcf
    generalize ed : cmpI (y1 * g2) (g1 * y2) = dd at hcg
    have C1 : Hid (∀ X, Calls Try.prog 13 #[.agg #[.int .i64 y1, .int .i64 y2], .agg #[.int .i64 f1, .int .i64 f2]] X fun e w' => e = .returned (.tuple #[.int .i64 cc, .bool true]) ∧ Below X.heap.size X w') := Lib.hid fun X => by rw [← ec]; exact Compare_ok _ _ _ _ X oy HOF.out
    have C2 : Hid (∀ X, Calls Try.prog 13 #[.agg #[.int .i64 y1, .int .i64 y2], .agg #[.int .i64 g1, .int .i64 g2]] X fun e w' => e = .returned (.tuple #[.int .i64 dd, .bool true]) ∧ Below X.heap.size X w') := Lib.hid fun X => by rw [← ed]; exact Compare_ok _ _ _ _ X oy HOG.out
    have HVB := Lib.hid (HWB.out.trans (hVB.mono HWB.out.size))
    have hcf' : decide (cc ≤ 0) = true := by simpa using hcf
    have hcg' : decide (0 ≤ dd) = true := by simpa using hcg
    clear ec ed oy hyy hL hVB hk2
    go_wp2_with fail
    go_region_held3 (fun X => ((((X.cell? ⟨w.heap.size, 0, none⟩ = some (.int .i64 due) ∧ X.cell? ⟨w.heap.size, 1, none⟩ = some (.int .i64 grace)) ∧ (X.cell? ⟨w.heap.size, 2, none⟩ = some (.bool true) ∧ X.cell? ⟨w.heap.size, 3, none⟩ = some (.slice (some ⟨b, off, none⟩) l.length c))) ∧ (X.cell? ⟨w3.heap.size, 0, none⟩ = some (.int .i64 f1) ∧ X.cell? ⟨w3.heap.size, 1, none⟩ = some (.int .i64 f2))) ∧ (X.cell? ⟨w4.heap.size, 0, none⟩ = some (.int .i64 g1) ∧ X.cell? ⟨w4.heap.size, 1, none⟩ = some (.int .i64 g2))) ∧ Below V.heap.size V X)
      (first | exact HL.out _ (Below.refl _ _).drew | exact HL.out _ hB7 | exact HL.out _ hB6)
      (first | (go_at_call 11; refine (HFl.out _ (Below.refl _ _).drew).mono ?_; rintro e w6 ⟨rfl, hb6⟩; have hB6 := (Below.refl V.heap.size V).drew.trans (hb6.mono (Nat.le_refl _)))
             | (go_at_call 13; refine (C1.out _).mono ?_; rintro e w7 ⟨rfl, hb7⟩; have hB7 := hB6.trans (hb7.mono hB6.size)))
    all_goals
      have HB7 := Lib.hid hB7
      clear hb6 hb7 hB6 hB7
      go_wp2_with fail
      go_region_held3 (fun X => ((((X.cell? ⟨w.heap.size, 0, none⟩ = some (.int .i64 due) ∧ X.cell? ⟨w.heap.size, 1, none⟩ = some (.int .i64 grace)) ∧ (X.cell? ⟨w.heap.size, 2, none⟩ = some (.bool true) ∧ X.cell? ⟨w.heap.size, 3, none⟩ = some (.slice (some ⟨b, off, none⟩) l.length c))) ∧ (X.cell? ⟨w3.heap.size, 0, none⟩ = some (.int .i64 f1) ∧ X.cell? ⟨w3.heap.size, 1, none⟩ = some (.int .i64 f2))) ∧ (X.cell? ⟨w4.heap.size, 0, none⟩ = some (.int .i64 g1) ∧ X.cell? ⟨w4.heap.size, 1, none⟩ = some (.int .i64 g2))) ∧ Below V.heap.size V X)
        (first | exact HL.out _ HB7.out.drew | exact HL.out _ hB9 | exact HL.out _ hB8)
        (first | (go_at_call 11; refine (HFl.out _ HB7.out.drew).mono ?_; rintro e w8 ⟨rfl, hb8⟩; have hB8 := HB7.out.drew.trans (hb8.mono HB7.out.drew.size))
               | (go_at_call 13; refine (C2.out _).mono ?_; rintro e w9 ⟨rfl, hb9⟩; have hB9 := hB8.trans (hb9.mono hB8.size)))
      all_goals
        go_wp2_with fail
        go_ret
        exact ⟨rfl, HVB.out.trans (hB9.mono HVB.out.size)⟩

set_option maxHeartbeats 4000000 in
set_option maxRecDepth 100000 in
theorem Knots_B_end (due grace : Int) (lin : Bool) (A : Option Addr) (c : Nat) (l : List (Int × Int)) (iN k : Nat) (late : Int) (w : World)
    (hs : StepsAt w w.heap.size A l) (h20 : l.length ≤ 20) (hl0 : 0 < l.length) (hi : iN ≤ 255) (hk : iN % l.length = k) (hv : vldB due grace l = true) (xa xp ya yp : Int) (hx : l.getD k (0, 0) = (xa, xp)) (hy : l.getD (k + 1) (0, 0) = (ya, yp)) (h9 : xa = 0) (ht0 : 0 ≤ late) (ht1 : late ≤ 1099511627776) (ht2 : xa < late) (hk1 : l.length ≤ k + 1) :
    Calls Try.prog 4 #[.agg #[.int .i64 due, .int .i64 grace, .bool lin, .slice A l.length c], .int .u8 iN, .int .i64 late] w fun e w' => e = .returned (.bool true) ∧ Below w.heap.size w w' := by
  have HB0 := Lib.hid ((Below.refl _ w).alloc (Nat.le_refl _) (polObj due grace lin A l.length c))
  have g20 : decide ((20 : Int) < (l.length : Int)) = false := by simp; omega
  have g0 : ((l.length : Int) == 0) = false := beq_eq_false_iff_ne.2 (by omega)
  have g1 : (1 : Int) ≤ (l.length : Int) := by omega
  have hkl : k < l.length := by rw [← hk]; exact Nat.mod_lt _ hl0
  have hkm : (iN : Int) % (l.length : Int) = (k : Int) := by rw [← hk]; simp
  have hi0 : (0 : Int) ≤ (iN : Int) := by omega
  have hi1 : (iN : Int) ≤ 255 := by omega
  obtain ⟨_, _, hok⟩ := vld_parts hv
  have hrx := okAt_rng (okTo_at hkl hok)
  rw [hx] at hrx
  obtain ⟨⟨xa0, xa1⟩, xp0, xp1⟩ := hrx
  dsimp only at xa0 xa1 xp0 xp1
  have hle : fac true l late ≤ 100 * xp := by have := knot_le (t := late) hok hkl (by rw [hx]; show xa ≤ late; omega) (by omega); rw [hx] at this; exact this
  obtain ⟨f1, f2, hf⟩ : ∃ f1 f2 : Int, (f1, f2) = fr xp 100 := ⟨_, _, rfl⟩
  have of := frOk_pct xp0 xp1
  rw [← hf] at of
  have HM : Hid (∀ X, Calls Try.prog 14 #[.int .i64 xp, .int .i64 100] X fun e w' => e = .returned (.tuple #[.agg #[.int .i64 f1, .int .i64 f2], .int .i64 0]) ∧ Below X.heap.size X w') := Lib.hid fun X => by
    have q := rMake_ok xp 100 X xp0 (by omega) (by omega) (by omega)
    have e1 : f1 = xp / (Int.gcd xp 100 : Nat) := congrArg Prod.fst hf
    have e2 : f2 = 100 / (Int.gcd xp 100 : Nat) := congrArg Prod.snd hf
    rw [e1, e2]; exact q
  have HOF := Lib.hid of
  have HFr := Lib.hid hf
  subst h9
  have h9' : decide ((0 : Int) < 0) = false := by decide
  have HX := Lib.hid hx
  have HY := Lib.hid hy
  have HS0 := Lib.hid hs
  have HOK := Lib.hid hok
  clear hx hy hok of hf hk hs
  go_enter Try.func4, Try.ntmps4
  go_wp2_with fail
  refine (awake_any _).mono ?_
  rintro e w1 ⟨rfl, hb1⟩
  have hz1 := hb1.size
  simp only [World.size_alloc] at hz1
  have hB1 := hb1.mono (B' := w.heap.size + 1) (by simp)
  have HB1 := Lib.hid (HB0.out.trans (hb1.mono (by simp)))
  have c0 : w1.cell? ⟨w.heap.size, 0, none⟩ = some (.int .i64 due) := by rw [bcell hB1 _ _ (by omega)]; simp [go_sem]
  have c1 : w1.cell? ⟨w.heap.size, 1, none⟩ = some (.int .i64 grace) := by rw [bcell hB1 _ _ (by omega)]; simp [go_sem]
  have c2 : w1.cell? ⟨w.heap.size, 2, none⟩ = some (.bool lin) := by rw [bcell hB1 _ _ (by omega)]; simp [go_sem]
  have c3 : w1.cell? ⟨w.heap.size, 3, none⟩ = some (.slice A l.length c) := by rw [bcell hB1 _ _ (by omega)]; simp [go_sem]
  have z2 : w1.frozen? ⟨w.heap.size, 2, none⟩ = false := by rw [(bboth hB1).2 _ _ (by omega)]; simp [go_sem]
  have gz : w.heap.size < w1.heap.size := by omega
  clear hb1 hB1 HB0
  go_wp2_with fail
  obtain ⟨W1, hW1⟩ : ∃ W1, W1 = w1.setCell ⟨w.heap.size, 2, none⟩ (.bool true) := ⟨_, rfl⟩
  rw [← hW1]
  have q0 : W1.cell? ⟨w.heap.size, 0, none⟩ = some (.int .i64 due) := by rw [hW1, cs_far (by omega)]; exact c0
  have q1 : W1.cell? ⟨w.heap.size, 1, none⟩ = some (.int .i64 grace) := by rw [hW1, cs_far (by omega)]; exact c1
  have q2 : W1.cell? ⟨w.heap.size, 2, none⟩ = some (.bool true) := by rw [hW1, cs_same (by rw [c2]; rfl)]
  have q3 : W1.cell? ⟨w.heap.size, 3, none⟩ = some (.slice A l.length c) := by rw [hW1, cs_far (by omega)]; exact c3
  have hWB1 : Below w.heap.size w W1 := by rw [hW1]; exact HB1.out.setCell (p := ⟨w.heap.size, 2, none⟩) (by dsimp only; omega) _
  have gW1 : w.heap.size < W1.heap.size := World.block_lt_of_cell? W1 ⟨w.heap.size, 0, none⟩ q0
  have HSW1 := Lib.hid ((HS0.out.below hWB1).more (Nat.le_of_lt gW1))
  have HWB1 := Lib.hid hWB1
  have H0 : Hid (PS W1 w.heap.size due grace true A l.length c W1) := ⟨⟨⟨q0, q1⟩, q2, q3⟩, Below.refl _ _⟩
  clear hW1 hWB1 c0 c1 c2 c3 z2 hz1 gz HB1
  refine (Valid_any _ _ _ _ _ _ _ HSW1.out (by omega)).mono ?_
  rintro e w2 ⟨rfl, hb2⟩
  obtain ⟨⟨⟨d0, d1⟩, d2, d3⟩, _⟩ := ps_of H0.out hb2
  have hz2 := hb2.size
  obtain ⟨b, off, hA, hbl, hc⟩ := (HSW1.out.later hb2) hl0
  subst hA
  have s0 := (hc k hkl).1
  have s1 := (hc k hkl).2
  rw [HX.out] at s0 s1
  dsimp only at s0 s1
  have HB2 := Lib.hid hb2
  clear hb2 hc q0 q1 q2 q3
  go_wp2_with fail
  refine (HM.out _).mono ?_
  rintro e w3 ⟨rfl, hb3⟩
  have hz3 := hb3.size
  simp only [World.size_alloc] at hz3
  have hB3 : Below W1.heap.size W1 w3 := (HB2.out.alloc HB2.out.size _).trans (hb3.mono (by simp; omega))
  have x0 : w3.cell? ⟨w2.heap.size, 0, none⟩ = some (.int .i64 0) := by rw [bcell hb3 _ _ (by simp)]; simp [go_sem]
  have x1 : w3.cell? ⟨w2.heap.size, 1, none⟩ = some (.int .i64 xp) := by rw [bcell hb3 _ _ (by simp)]; simp [go_sem]
  have HB3 := Lib.hid hB3
  clear hb3 hB3 d0 d1 d2 d3 s0 s1
  go_wp2_with fail
  obtain ⟨W, hW⟩ : ∃ W, W = w3.alloc (.cells #[.int .i64 f1, .int .i64 f2] 27) := ⟨_, rfl⟩
  rw [← hW]
  have hWB : Below W1.heap.size W1 W := by rw [hW]; exact HB3.out.alloc HB3.out.size _
  have hWs : w3.heap.size < W.heap.size := by rw [hW]; simp
  have m0 : W.cell? ⟨w3.heap.size, 0, none⟩ = some (.int .i64 f1) := by rw [hW]; simp [go_sem]
  have m1 : W.cell? ⟨w3.heap.size, 1, none⟩ = some (.int .i64 f2) := by rw [hW]; simp [go_sem]
  have n0 : W.cell? ⟨w2.heap.size, 0, none⟩ = some (.int .i64 0) := by rw [hW, World.cell?_alloc_lt _ _ _ (by dsimp only; omega)]; exact x0
  have n1 : W.cell? ⟨w2.heap.size, 1, none⟩ = some (.int .i64 xp) := by rw [hW, World.cell?_alloc_lt _ _ _ (by dsimp only; omega)]; exact x1
  have hK : ∀ X, Below W.heap.size W X → ((((X.cell? ⟨w.heap.size, 0, none⟩ = some (.int .i64 due) ∧ X.cell? ⟨w.heap.size, 1, none⟩ = some (.int .i64 grace)) ∧ (X.cell? ⟨w.heap.size, 2, none⟩ = some (.bool true) ∧ X.cell? ⟨w.heap.size, 3, none⟩ = some (.slice (some ⟨b, off, none⟩) l.length c))) ∧ (X.cell? ⟨w2.heap.size, 0, none⟩ = some (.int .i64 0) ∧ X.cell? ⟨w2.heap.size, 1, none⟩ = some (.int .i64 xp))) ∧ (X.cell? ⟨w3.heap.size, 0, none⟩ = some (.int .i64 f1) ∧ X.cell? ⟨w3.heap.size, 1, none⟩ = some (.int .i64 f2))) ∧ Below W.heap.size W X := fun X hX => by
    have hc := bcell hX
    exact ⟨⟨⟨(ps_of H0.out (hWB.trans (hX.mono hWB.size))).1, (hc _ _ (by omega)).trans n0, (hc _ _ (by omega)).trans n1⟩, (hc _ _ hWs).trans m0, (hc _ _ hWs).trans m1⟩, hX⟩
  have HSW := Lib.hid (HSW1.out.later hWB)
  have HK := Lib.hid hK
  have HWB := Lib.hid (HWB1.out.trans (hWB.mono (Nat.le_of_lt gW1)))
  have hKd := hK _ (Below.refl _ _)
  obtain ⟨⟨⟨⟨⟨e0, e1⟩, e2, e3⟩, e4, e5⟩, e6, e7⟩, _⟩ := hKd
  clear hK hWB hW m0 m1 n0 n1 x0 x1
  go_quiet (fail)
  all_goals
    obtain ⟨w4, hw4⟩ : ∃ w4, w4 = W.drewN nq := ⟨_, rfl⟩
    rw [← hw4]
    have HB4 : Hid (Below W.heap.size W w4) := Lib.hid (by rw [hw4]; exact below_drewN (Below.refl _ _) _)
    clear hw4 e0 e1 e2 e3 e4 e5 e6 e7
    obtain ⟨⟨⟨⟨⟨e0, e1⟩, e2, e3⟩, e4, e5⟩, e6, e7⟩, _⟩ := HK.out _ HB4.out
    have hz4 := HB4.out.size
    have gw4 : w.heap.size < w4.heap.size := by omega
    have gx4 : w2.heap.size < w4.heap.size := by omega
    have gf4 : w3.heap.size < w4.heap.size := by omega
    have h1' : decide (late < 0) = false := by simp; omega
    have h2' : decide (1099511627776 < late) = false := by simp; omega
    have h3' : decide (late ≤ 0) = false := by simp; omega
    have i3 : decide ((k : Int) + 1 < (l.length : Int)) = false := by simp; omega
    have i3' : ¬ ((k : Int) + 1 < (l.length : Int)) := by omega
    obtain ⟨g1, g2, hg⟩ : ∃ g1 g2 : Int, (g1, g2) = ((0 : Int), (1 : Int)) := ⟨_, _, rfl⟩
    have hg1 : g1 = 0 := congrArg Prod.fst hg
    have hg2 : g2 = 1 := congrArg Prod.snd hg
    have og : FrOk g1 g2 := by rw [hg1, hg2]; exact frOk_zero
    have hcg : 0 ≤ cmpI ((fr (fac true l late) 10000).1 * g2) (g1 * (fr (fac true l late) 10000).2) := by rw [hg1, hg2]; exact cmp_ge_zero (frOk_fac (lin := true) (t := late) HOK.out ht0).n0
    have HOG := Lib.hid og
    have HG1 := Lib.hid hg1
    have HG2 := Lib.hid hg2
    clear og hg hg1 hg2
    go_wp2_with fail
    obtain ⟨V, hV⟩ : ∃ V, V = w4.alloc (.cells #[.int .i64 0, .int .i64 1] 27) := ⟨_, rfl⟩
    rw [← hV]
    have hk2 : V.cell? ⟨w4.heap.size, 0, none⟩ = some (.int .i64 g1) ∧ V.cell? ⟨w4.heap.size, 1, none⟩ = some (.int .i64 g2) := by rw [hV, HG1.out, HG2.out]; exact ⟨by simp [go_sem], by simp [go_sem]⟩
    have hVB : Below W.heap.size W V := by rw [hV]; exact HB4.out.alloc HB4.out.size _
    clear hV e0 e1 e2 e3 e4 e5 e6 e7
    obtain ⟨y1, y2, hyy⟩ : ∃ y1 y2 : Int, (y1, y2) = fr (fac true l late) 10000 := ⟨_, _, rfl⟩
    have oy := frOk_fac (lin := true) (t := late) HOK.out ht0
    have hcf := cmp_le_pct (n := fac true l late) (p := xp) hle
    rw [← HFr.out] at hcf
    rw [← hyy] at hcf hcg oy
    dsimp only at hcf hcg oy
    have hzV := hVB.size
    have gV : w4.heap.size < V.heap.size := World.block_lt_of_cell? V ⟨w4.heap.size, 0, none⟩ hk2.1
    have hL : ∀ X, Below V.heap.size V X → ((((X.cell? ⟨w.heap.size, 0, none⟩ = some (.int .i64 due) ∧ X.cell? ⟨w.heap.size, 1, none⟩ = some (.int .i64 grace)) ∧ (X.cell? ⟨w.heap.size, 2, none⟩ = some (.bool true) ∧ X.cell? ⟨w.heap.size, 3, none⟩ = some (.slice (some ⟨b, off, none⟩) l.length c))) ∧ (X.cell? ⟨w3.heap.size, 0, none⟩ = some (.int .i64 f1) ∧ X.cell? ⟨w3.heap.size, 1, none⟩ = some (.int .i64 f2))) ∧ (X.cell? ⟨w4.heap.size, 0, none⟩ = some (.int .i64 g1) ∧ X.cell? ⟨w4.heap.size, 1, none⟩ = some (.int .i64 g2))) ∧ Below V.heap.size V X := fun X hX => by
      have hc := bcell hX
      have hWX := HK.out _ (hVB.trans (hX.mono hVB.size))
      exact ⟨⟨⟨hWX.1.1.1, hWX.1.2⟩, (hc _ _ gV).trans hk2.1, (hc _ _ gV).trans hk2.2⟩, hX⟩
    have HL := Lib.hid hL
    have HFl : Hid (∀ X, Below V.heap.size V X → Calls Try.prog 11 #[.agg #[.int .i64 due, .int .i64 grace, .bool true, .slice (some ⟨b, off, none⟩) l.length c], .int .i64 late] X fun e w' => e = .returned (.agg #[.int .i64 y1, .int .i64 y2]) ∧ Below X.heap.size X w') := Lib.hid fun X hX => Factor_val due grace true _ c l late X ((HSW.out.later hVB).later hX) (by omega) hv ht0 ht1 y1 y2 hyy
    generalize ec : cmpI (y1 * f2) (f1 * y2) = cc at hcf
    generalize ed : cmpI (y1 * g2) (g1 * y2) = dd at hcg
    have C1 : Hid (∀ X, Calls Try.prog 13 #[.agg #[.int .i64 y1, .int .i64 y2], .agg #[.int .i64 f1, .int .i64 f2]] X fun e w' => e = .returned (.tuple #[.int .i64 cc, .bool true]) ∧ Below X.heap.size X w') := Lib.hid fun X => by rw [← ec]; exact Compare_ok _ _ _ _ X oy HOF.out
    have C2 : Hid (∀ X, Calls Try.prog 13 #[.agg #[.int .i64 y1, .int .i64 y2], .agg #[.int .i64 g1, .int .i64 g2]] X fun e w' => e = .returned (.tuple #[.int .i64 dd, .bool true]) ∧ Below X.heap.size X w') := Lib.hid fun X => by rw [← ed]; exact Compare_ok _ _ _ _ X oy HOG.out
    have HVB := Lib.hid (HWB.out.trans (hVB.mono HWB.out.size))
    have hcf' : decide (cc ≤ 0) = true := by simpa using hcf
    have hcg' : decide (0 ≤ dd) = true := by simpa using hcg
    clear ec ed oy hyy hL hVB hk2
    go_wp2_with fail
    go_region_held3 (fun X => ((((X.cell? ⟨w.heap.size, 0, none⟩ = some (.int .i64 due) ∧ X.cell? ⟨w.heap.size, 1, none⟩ = some (.int .i64 grace)) ∧ (X.cell? ⟨w.heap.size, 2, none⟩ = some (.bool true) ∧ X.cell? ⟨w.heap.size, 3, none⟩ = some (.slice (some ⟨b, off, none⟩) l.length c))) ∧ (X.cell? ⟨w3.heap.size, 0, none⟩ = some (.int .i64 f1) ∧ X.cell? ⟨w3.heap.size, 1, none⟩ = some (.int .i64 f2))) ∧ (X.cell? ⟨w4.heap.size, 0, none⟩ = some (.int .i64 g1) ∧ X.cell? ⟨w4.heap.size, 1, none⟩ = some (.int .i64 g2))) ∧ Below V.heap.size V X)
      (first | exact HL.out _ (Below.refl _ _).drew | exact HL.out _ hB7 | exact HL.out _ hB6)
      (first | (go_at_call 11; refine (HFl.out _ (Below.refl _ _).drew).mono ?_; rintro e w6 ⟨rfl, hb6⟩; have hB6 := (Below.refl V.heap.size V).drew.trans (hb6.mono (Nat.le_refl _)))
             | (go_at_call 13; refine (C1.out _).mono ?_; rintro e w7 ⟨rfl, hb7⟩; have hB7 := hB6.trans (hb7.mono hB6.size)))
    all_goals
      have HB7 := Lib.hid hB7
      clear hb6 hb7 hB6 hB7
      go_wp2_with fail
      go_region_held3 (fun X => ((((X.cell? ⟨w.heap.size, 0, none⟩ = some (.int .i64 due) ∧ X.cell? ⟨w.heap.size, 1, none⟩ = some (.int .i64 grace)) ∧ (X.cell? ⟨w.heap.size, 2, none⟩ = some (.bool true) ∧ X.cell? ⟨w.heap.size, 3, none⟩ = some (.slice (some ⟨b, off, none⟩) l.length c))) ∧ (X.cell? ⟨w3.heap.size, 0, none⟩ = some (.int .i64 f1) ∧ X.cell? ⟨w3.heap.size, 1, none⟩ = some (.int .i64 f2))) ∧ (X.cell? ⟨w4.heap.size, 0, none⟩ = some (.int .i64 g1) ∧ X.cell? ⟨w4.heap.size, 1, none⟩ = some (.int .i64 g2))) ∧ Below V.heap.size V X)
        (first | exact HL.out _ HB7.out.drew | exact HL.out _ hB9 | exact HL.out _ hB8)
        (first | (go_at_call 11; refine (HFl.out _ HB7.out.drew).mono ?_; rintro e w8 ⟨rfl, hb8⟩; have hB8 := HB7.out.drew.trans (hb8.mono HB7.out.drew.size))
               | (go_at_call 13; refine (C2.out _).mono ?_; rintro e w9 ⟨rfl, hb9⟩; have hB9 := hB8.trans (hb9.mono hB8.size)))
      all_goals
        go_wp2_with fail
        go_ret
        exact ⟨rfl, HVB.out.trans (hB9.mono HVB.out.size)⟩

set_option maxHeartbeats 1000000 in
theorem Knots_no (due grace : Int) (lin : Bool) (A : Option Addr) (c : Nat) (l : List (Int × Int)) (i late : Int) (w : World)
    (hs : StepsAt w w.heap.size A l) (hl : l.length ≤ 9223372036854775807) (h : 20 < l.length ∨ l.length = 0 ∨ vldB due grace l = false) :
    Calls Try.prog 4 #[.agg #[.int .i64 due, .int .i64 grace, .bool lin, .slice A l.length c], .int .u8 i, .int .i64 late] w fun e w' => e = .returned (.bool true) ∧ Below w.heap.size w w' := by
  have HB0 := Lib.hid ((Below.refl _ w).alloc (Nat.le_refl _) (polObj due grace lin A l.length c))
  have HS0 := Lib.hid hs
  have HH := Lib.hid h
  clear hs h
  by_cases h20 : l.length ≤ 20
  · have g20 : decide ((20 : Int) < (l.length : Int)) = false := by simp; omega
    by_cases hl0 : l.length = 0
    · have g0 : ((l.length : Int) == 0) = true := beq_iff_eq.2 (by omega)
      clear hl0
      go_enter Try.func4, Try.ntmps4
      go_wp2_with fail
      refine (awake_any _).mono ?_
      rintro e w1 ⟨rfl, hb1⟩
      have hz1 := hb1.size
      simp only [World.size_alloc] at hz1
      have hB1 := hb1.mono (B' := w.heap.size + 1) (by simp)
      have HB1 := Lib.hid (HB0.out.trans (hb1.mono (by simp)))
      have c2 : w1.cell? ⟨w.heap.size, 2, none⟩ = some (.bool lin) := by rw [bcell hB1 _ _ (by omega)]; simp [go_sem]
      have c3 : w1.cell? ⟨w.heap.size, 3, none⟩ = some (.slice A l.length c) := by rw [bcell hB1 _ _ (by omega)]; simp [go_sem]
      have z2 : w1.frozen? ⟨w.heap.size, 2, none⟩ = false := by rw [(bboth hB1).2 _ _ (by omega)]; simp [go_sem]
      have gz : w.heap.size < w1.heap.size := by omega
      clear hb1 hB1 HB0
      go_wp2_with fail
      go_ret
      exact ⟨rfl, HB1.out.setCell (p := ⟨w.heap.size, 2, none⟩) (by dsimp only; omega) _⟩
    · have g0 : ((l.length : Int) == 0) = false := beq_eq_false_iff_ne.2 (by omega)
      have hv : vldB due grace l = false := by
        rcases HH.out with h | h | h
        · omega
        · omega
        · exact h
      go_enter Try.func4, Try.ntmps4
      go_wp2_with fail
      refine (awake_any _).mono ?_
      rintro e w1 ⟨rfl, hb1⟩
      have hz1 := hb1.size
      simp only [World.size_alloc] at hz1
      have hB1 := hb1.mono (B' := w.heap.size + 1) (by simp)
      have HB1 := Lib.hid (HB0.out.trans (hb1.mono (by simp)))
      have c0 : w1.cell? ⟨w.heap.size, 0, none⟩ = some (.int .i64 due) := by rw [bcell hB1 _ _ (by omega)]; simp [go_sem]
      have c1 : w1.cell? ⟨w.heap.size, 1, none⟩ = some (.int .i64 grace) := by rw [bcell hB1 _ _ (by omega)]; simp [go_sem]
      have c2 : w1.cell? ⟨w.heap.size, 2, none⟩ = some (.bool lin) := by rw [bcell hB1 _ _ (by omega)]; simp [go_sem]
      have c3 : w1.cell? ⟨w.heap.size, 3, none⟩ = some (.slice A l.length c) := by rw [bcell hB1 _ _ (by omega)]; simp [go_sem]
      have z2 : w1.frozen? ⟨w.heap.size, 2, none⟩ = false := by rw [(bboth hB1).2 _ _ (by omega)]; simp [go_sem]
      have gz : w.heap.size < w1.heap.size := by omega
      clear hb1 hB1 HB0
      go_wp2_with fail
      obtain ⟨W1, hW1⟩ : ∃ W1, W1 = w1.setCell ⟨w.heap.size, 2, none⟩ (.bool true) := ⟨_, rfl⟩
      rw [← hW1]
      have hWB1 : Below w.heap.size w W1 := by rw [hW1]; exact HB1.out.setCell (p := ⟨w.heap.size, 2, none⟩) (by dsimp only; omega) _
      have HSW1 := Lib.hid ((HS0.out.below hWB1).more hWB1.size)
      have HWB1 := Lib.hid hWB1
      clear hW1 hWB1
      refine (Valid_any _ _ _ _ _ _ _ HSW1.out (by omega)).mono ?_
      rintro e w2 ⟨rfl, hb2⟩
      have HB2 := Lib.hid (HWB1.out.trans (hb2.mono HWB1.out.size))
      clear hb2
      go_wp2_with fail
      go_ret
      exact ⟨rfl, HB2.out⟩
  · have g20 : decide ((20 : Int) < (l.length : Int)) = true := by simp; omega
    go_enter Try.func4, Try.ntmps4
    go_wp2_with fail
    refine (awake_any _).mono ?_
    rintro e w1 ⟨rfl, hb1⟩
    have hz1 := hb1.size
    simp only [World.size_alloc] at hz1
    have hB1 := hb1.mono (B' := w.heap.size + 1) (by simp)
    have HB1 := Lib.hid (HB0.out.trans (hb1.mono (by simp)))
    have c2 : w1.cell? ⟨w.heap.size, 2, none⟩ = some (.bool lin) := by rw [bcell hB1 _ _ (by omega)]; simp [go_sem]
    have c3 : w1.cell? ⟨w.heap.size, 3, none⟩ = some (.slice A l.length c) := by rw [bcell hB1 _ _ (by omega)]; simp [go_sem]
    have z2 : w1.frozen? ⟨w.heap.size, 2, none⟩ = false := by rw [(bboth hB1).2 _ _ (by omega)]; simp [go_sem]
    have gz : w.heap.size < w1.heap.size := by omega
    clear hb1 hB1 HB0
    go_wp2_with fail
    go_ret
    exact ⟨rfl, HB1.out.setCell (p := ⟨w.heap.size, 2, none⟩) (by dsimp only; omega) _⟩

theorem Knots_all (due grace : Int) (lin : Bool) (A : Option Addr) (c : Nat) (l : List (Int × Int)) (i late : Int) (w : World)
    (hs : StepsAt w w.heap.size A l) (hl : l.length ≤ 9223372036854775807) (hi : (Lit.int .u8 i).wf = true) :
    Calls Try.prog 4 #[.agg #[.int .i64 due, .int .i64 grace, .bool lin, .slice A l.length c], .int .u8 i, .int .i64 late] w fun e w' => e = .returned (.bool true) ∧ Below w.heap.size w w' := by
  by_cases h : 20 < l.length ∨ l.length = 0 ∨ vldB due grace l = false
  · exact Knots_no due grace lin A c l i late w hs hl h
  · have h20 : l.length ≤ 20 := by omega
    have hl0 : 0 < l.length := by omega
    have hv : vldB due grace l = true := by
      cases e : vldB due grace l with
      | true => rfl
      | false => exact absurd (.inr (.inr e)) h
    obtain ⟨i0, i1⟩ := bounds_u8 hi
    obtain ⟨iN, rfl⟩ := Int.eq_ofNat_of_zero_le i0
    have hi' : iN ≤ 255 := by omega
    obtain ⟨k, hk⟩ : ∃ k, iN % l.length = k := ⟨_, rfl⟩
    have hkl : k < l.length := by rw [← hk]; exact Nat.mod_lt _ hl0
    obtain ⟨⟨xa, xp⟩, hx⟩ : ∃ x, l.getD k (0, 0) = x := ⟨_, rfl⟩
    obtain ⟨⟨ya, yp⟩, hy⟩ : ∃ x, l.getD (k + 1) (0, 0) = x := ⟨_, rfl⟩
    have hrx := (okAt_rng (okTo_at hkl (vld_parts hv).2.2)).1.1
    rw [hx] at hrx
    dsimp only at hrx
    rcases Int.lt_or_le 0 xa with h9 | h9
    · by_cases ht : late < 0 ∨ 1099511627776 < late ∨ late ≤ xa
      · exact Knots_A_out due grace lin A c l iN k late w hs h20 hl0 hi' hk hv xa xp ya yp hx hy h9 ht
      · by_cases hk1 : k + 1 < l.length
        · rcases Int.lt_or_le ya late with h3 | h3
          · exact Knots_A_far due grace lin A c l iN k late w hs h20 hl0 hi' hk hv xa xp ya yp hx hy h9 (by omega) (by omega) (by omega) hk1 h3
          · exact Knots_A_mid due grace lin A c l iN k late w hs h20 hl0 hi' hk hv xa xp ya yp hx hy h9 (by omega) (by omega) (by omega) hk1 h3
        · exact Knots_A_end due grace lin A c l iN k late w hs h20 hl0 hi' hk hv xa xp ya yp hx hy h9 (by omega) (by omega) (by omega) (by omega)
    · have h9' : xa = 0 := by omega
      by_cases ht : late < 0 ∨ 1099511627776 < late ∨ late ≤ xa
      · exact Knots_B_out due grace lin A c l iN k late w hs h20 hl0 hi' hk hv xa xp ya yp hx hy h9' ht
      · by_cases hk1 : k + 1 < l.length
        · rcases Int.lt_or_le ya late with h3 | h3
          · exact Knots_B_far due grace lin A c l iN k late w hs h20 hl0 hi' hk hv xa xp ya yp hx hy h9' (by omega) (by omega) (by omega) hk1 h3
          · exact Knots_B_mid due grace lin A c l iN k late w hs h20 hl0 hi' hk hv xa xp ya yp hx hy h9' (by omega) (by omega) (by omega) hk1 h3
        · exact Knots_B_end due grace lin A c l iN k late w hs h20 hl0 hi' hk hv xa xp ya yp hx hy h9' (by omega) (by omega) (by omega) (by omega)


end Go.Proofs.Ytcppijoccolmkaa
