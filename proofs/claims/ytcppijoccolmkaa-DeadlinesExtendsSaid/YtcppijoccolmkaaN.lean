/-
  The walk of DeadlinesUntil.
-/
import Derived.Test.YtcppijoccolmkaaM
namespace Go.Proofs.Ytcppijoccolmkaa
open Go.RowKit

theorem cmpI_lt {x y : Int} : cmpI x y < 0 ↔ x < y := by
  unfold cmpI; split
  · omega
  · split <;> omega
theorem frOk_pct {pct : Int} (h0 : 0 ≤ pct) (h1 : pct ≤ 100) : FrOk (fr pct 100).1 (fr pct 100).2 := frOk_div _ _ h0 (by omega) (by omega) (by omega)
theorem en_cmp {lin : Bool} {l : List (Int × Int)} {pct t : Int} : enB lin l pct t = true ↔ 0 ≤ cmpI ((fr (fac lin l t) 10000).1 * (fr pct 100).2) ((fr pct 100).1 * (fr (fac lin l t) 10000).2) := by
  rw [cmpI_ge, ← fr_le _ _ _ _ (by omega) (by omega), enB, decide_eq_true_eq]
  omega
theorem en_cmp_not {lin : Bool} {l : List (Int × Int)} {pct t : Int} (h : enB lin l pct t = false) : cmpI ((fr (fac lin l t) 10000).1 * (fr pct 100).2) ((fr pct 100).1 * (fr (fac lin l t) 10000).2) < 0 := by
  rcases Int.lt_or_le (cmpI ((fr (fac lin l t) 10000).1 * (fr pct 100).2) ((fr pct 100).1 * (fr (fac lin l t) 10000).2)) 0 with h' | h'
  · exact h'
  · rw [en_cmp.2 h'] at h; cases h
theorem en_anti {lin : Bool} {l : List (Int × Int)} {pct s t : Int} (hok : okTo l l.length = true) (hs : 0 ≤ s) (hst : s ≤ t) (h : enB lin l pct t = true) : enB lin l pct s = true := by
  have := fac_anti (lin := lin) hok hs hst
  rw [enB, decide_eq_true_eq] at h ⊢
  omega
theorem Factor_val (due grace : Int) (lin : Bool) (A : Option Addr) (c : Nat) (l : List (Int × Int)) (t : Int) (w : World)
    (hs : StepsAt w w.heap.size A l) (hl : l.length ≤ 9223372036854775807) (hv : vldB due grace l = true) (h0 : 0 ≤ t) (h1 : t ≤ 1099511627776) (x1 x2 : Int) (hx : (x1, x2) = fr (fac lin l t) 10000) :
    Calls Try.prog 11 #[.agg #[.int .i64 due, .int .i64 grace, .bool lin, .slice A l.length c], .int .i64 t] w fun e w' => e = .returned (.agg #[.int .i64 x1, .int .i64 x2]) ∧ Below w.heap.size w w' := by
  have q := Factor_any due grace lin A c l t w hs hl
  rw [facF, if_pos ⟨hv, (tmB_iff t).2 ⟨h0, h1⟩⟩, ← hx] at q
  exact q

set_option maxHeartbeats 4000000 in
set_option maxRecDepth 100000 in
theorem UntilLaw_yes (due grace : Int) (lin : Bool) (A : Option Addr) (c : Nat) (l : List (Int × Int)) (pct other : Int) (w : World)
    (hs : StepsAt w w.heap.size A l) (hl : l.length ≤ 9223372036854775807) (h20 : l.length ≤ 20) (hv : vldB due grace l = true) (hp0 : 0 ≤ pct) (hp1 : pct ≤ 100) (hE : enB lin l pct 1099511627776 = false) :
    Calls Try.prog 7 #[.agg #[.int .i64 due, .int .i64 grace, .bool lin, .slice A l.length c], .int .i64 pct, .int .i64 other] w fun e w' => e = .returned (.bool true) ∧ Below w.heap.size w w' := by
  have HS := Lib.hid (hs.alloc (polObj due grace lin A l.length c))
  have HB0 := Lib.hid ((Below.refl _ w).alloc (Nat.le_refl _) (polObj due grace lin A l.length c))
  have g20 : decide ((20 : Int) < (l.length : Int)) = false := by simp; omega
  have hpc : pcB pct = true := (pcB_iff pct).2 ⟨hp0, hp1⟩
  have HP := Lib.hid hpc
  have HEn := Lib.hid hE
  obtain ⟨z1, z2, hz⟩ : ∃ z1 z2 : Int, (z1, z2) = fr pct 100 := ⟨_, _, rfl⟩
  have oz := frOk_pct hp0 hp1
  rw [← hz] at oz
  have HM : Hid (∀ X, Calls Try.prog 14 #[.int .i64 pct, .int .i64 100] X fun e w' => e = .returned (.tuple #[.agg #[.int .i64 z1, .int .i64 z2], .int .i64 0]) ∧ Below X.heap.size X w') := Lib.hid fun X => by
    have q := rMake_ok pct 100 X hp0 (by omega) (by omega) (by omega)
    have e1 : z1 = pct / (Int.gcd pct 100 : Nat) := congrArg Prod.fst hz
    have e2 : z2 = 100 / (Int.gcd pct 100 : Nat) := congrArg Prod.snd hz
    rw [e1, e2]; exact q
  have HZ := Lib.hid hz
  have HOZ := Lib.hid oz
  clear hpc hE hz oz hs
  go_enter Try.func7, Try.ntmps7
  go_wp2_with fail
  refine (awake_any _).mono ?_
  rintro e w1 ⟨rfl, hb1⟩
  have HS1 := Lib.hid (HS.out.later hb1)
  have HB1 := Lib.hid (HB0.out.trans (hb1.mono (by simp)))
  have hz1 := hb1.size
  simp only [World.size_alloc] at hz1
  have hB1 := hb1.mono (B' := w.heap.size + 1) (by simp)
  have c0 : w1.cell? ⟨w.heap.size, 0, none⟩ = some (.int .i64 due) := by rw [bcell hB1 _ _ (by omega)]; simp [go_sem]
  have c1 : w1.cell? ⟨w.heap.size, 1, none⟩ = some (.int .i64 grace) := by rw [bcell hB1 _ _ (by omega)]; simp [go_sem]
  have c2 : w1.cell? ⟨w.heap.size, 2, none⟩ = some (.bool lin) := by rw [bcell hB1 _ _ (by omega)]; simp [go_sem]
  have c3 : w1.cell? ⟨w.heap.size, 3, none⟩ = some (.slice A l.length c) := by rw [bcell hB1 _ _ (by omega)]; simp [go_sem]
  have H0 : Hid (PS w1 w.heap.size due grace lin A l.length c w1) := ⟨⟨⟨c0, c1⟩, c2, c3⟩, Below.refl _ _⟩
  clear hb1 hB1 HB0 HS
  go_wp2_with fail
  refine (Until_some _ _ _ _ _ _ _ _ HS1.out hv HP.out HEn.out).mono ?_
  rintro e w2 ⟨t, t0, t1, et, et', rfl, hb2⟩
  have ET := Lib.hid et
  have ET' := Lib.hid et'
  have hz2 := hb2.size
  have HS2 := Lib.hid (HS1.out.later hb2)
  have HB2 := Lib.hid hb2
  obtain ⟨⟨⟨d0, d1⟩, d2, d3⟩, _⟩ := ps_of H0.out hb2
  clear hb2 et et' c0 c1 c2 c3
  go_wp2_with fail
  refine (Valid_any _ _ _ _ _ _ _ HS2.out hl).mono ?_
  rintro e w3 ⟨rfl, hb3⟩
  have HB3 := Lib.hid (HB2.out.trans (hb3.mono HB2.out.size))
  clear hb3 d0 d1 d2 d3
  have t0' : decide (t < 0) = false := by simp; omega
  have t1' : decide (1099511627776 < t) = false := by simp; omega
  go_wp2_with fail
  refine (HM.out _).mono ?_
  rintro e w4 ⟨rfl, hb4⟩
  have HB4 := Lib.hid (HB3.out.trans (hb4.mono HB3.out.size))
  clear hb4
  go_wp2_with fail
  obtain ⟨W, hW⟩ : ∃ W, W = w4.alloc (.cells #[.int .i64 z1, .int .i64 z2] 27) := ⟨_, rfl⟩
  rw [← hW]
  have hWB : Below w1.heap.size w1 W := by rw [hW]; exact HB4.out.alloc HB4.out.size _
  have hz4 := HB4.out.size
  have hWs : w4.heap.size < W.heap.size := by rw [hW]; simp
  have m0 : W.cell? ⟨w4.heap.size, 0, none⟩ = some (.int .i64 z1) := by rw [hW]; simp [go_sem]
  have m1 : W.cell? ⟨w4.heap.size, 1, none⟩ = some (.int .i64 z2) := by rw [hW]; simp [go_sem]
  have hK : ∀ X, Below W.heap.size W X → (((X.cell? ⟨w.heap.size, 0, none⟩ = some (.int .i64 due) ∧ X.cell? ⟨w.heap.size, 1, none⟩ = some (.int .i64 grace)) ∧ (X.cell? ⟨w.heap.size, 2, none⟩ = some (.bool lin) ∧ X.cell? ⟨w.heap.size, 3, none⟩ = some (.slice A l.length c))) ∧ (X.cell? ⟨w4.heap.size, 0, none⟩ = some (.int .i64 z1) ∧ X.cell? ⟨w4.heap.size, 1, none⟩ = some (.int .i64 z2))) ∧ Below W.heap.size W X := fun X hX => by
    have hc := bcell hX
    exact ⟨⟨(ps_of H0.out (hWB.trans (hX.mono hWB.size))).1, (hc _ _ hWs).trans m0, (hc _ _ hWs).trans m1⟩, hX⟩
  obtain ⟨x1, x2, hx⟩ : ∃ x1 x2 : Int, (x1, x2) = fr (fac lin l t) 10000 := ⟨_, _, rfl⟩
  obtain ⟨y1, y2, hy⟩ : ∃ y1 y2 : Int, (y1, y2) = fr (fac lin l (t + 1)) 10000 := ⟨_, _, rfl⟩
  obtain ⟨_, _, hok⟩ := vld_parts hv
  have ox := frOk_fac (lin := lin) hok t0
  have oy := frOk_fac (lin := lin) (t := t + 1) hok (by omega)
  have k1 := en_cmp.1 ET.out
  have k2 := en_cmp_not ET'.out
  rw [← hx] at ox k1
  rw [← hy] at oy k2
  rw [← HZ.out] at k1 k2
  dsimp only at k1 k2 ox oy
  have HF1 : Hid (∀ X, Below W.heap.size W X → Calls Try.prog 11 #[.agg #[.int .i64 due, .int .i64 grace, .bool lin, .slice A l.length c], .int .i64 t] X fun e w' => e = .returned (.agg #[.int .i64 x1, .int .i64 x2]) ∧ Below X.heap.size X w') := Lib.hid fun X hX => Factor_val due grace lin A c l t X ((HS1.out.later hWB).later hX) hl hv t0 (by omega) x1 x2 hx
  have HF2 : Hid (∀ X, Below W.heap.size W X → Calls Try.prog 11 #[.agg #[.int .i64 due, .int .i64 grace, .bool lin, .slice A l.length c], .int .i64 (t + 1)] X fun e w' => e = .returned (.agg #[.int .i64 y1, .int .i64 y2]) ∧ Below X.heap.size X w') := Lib.hid fun X hX => Factor_val due grace lin A c l (t + 1) X ((HS1.out.later hWB).later hX) hl hv (by omega) (by omega) y1 y2 hy
  generalize ec : cmpI (x1 * z2) (z1 * x2) = cc at k1
  generalize ed : cmpI (y1 * z2) (z1 * y2) = dd at k2
  have C1 : Hid (∀ X, Calls Try.prog 13 #[.agg #[.int .i64 x1, .int .i64 x2], .agg #[.int .i64 z1, .int .i64 z2]] X fun e w' => e = .returned (.tuple #[.int .i64 cc, .bool true]) ∧ Below X.heap.size X w') := Lib.hid fun X => by rw [← ec]; exact Compare_ok _ _ _ _ X ox HOZ.out
  have C2 : Hid (∀ X, Calls Try.prog 13 #[.agg #[.int .i64 y1, .int .i64 y2], .agg #[.int .i64 z1, .int .i64 z2]] X fun e w' => e = .returned (.tuple #[.int .i64 dd, .bool true]) ∧ Below X.heap.size X w') := Lib.hid fun X => by rw [← ed]; exact Compare_ok _ _ _ _ X oy HOZ.out
  have HK := Lib.hid hK
  have HWB := Lib.hid (HB1.out.trans (hWB.mono (by omega)))
  have hwt : IntKind.i64.wrap (t + 1) = t + 1 := IntWalk.i64_in _ (by omega)
  clear ec ed ox oy hx hy hok hK hWB hW m0 m1
  go_region_held3 (fun X => (((X.cell? ⟨w.heap.size, 0, none⟩ = some (.int .i64 due) ∧ X.cell? ⟨w.heap.size, 1, none⟩ = some (.int .i64 grace)) ∧ (X.cell? ⟨w.heap.size, 2, none⟩ = some (.bool lin) ∧ X.cell? ⟨w.heap.size, 3, none⟩ = some (.slice A l.length c))) ∧ (X.cell? ⟨w4.heap.size, 0, none⟩ = some (.int .i64 z1) ∧ X.cell? ⟨w4.heap.size, 1, none⟩ = some (.int .i64 z2))) ∧ Below W.heap.size W X)
    (first | exact HK.out _ (Below.refl _ _).drew | exact HK.out _ hB6 | exact HK.out _ hB5)
    (first | (go_at_call 11; refine (HF1.out _ (Below.refl _ _).drew).mono ?_; rintro e w5 ⟨rfl, hb5⟩; have hB5 := (Below.refl W.heap.size W).drew.trans (hb5.mono (Nat.le_refl _)))
           | (go_at_call 13; refine (C1.out _).mono ?_; rintro e w6 ⟨rfl, hb6⟩; have hB6 := hB5.trans (hb6.mono hB5.size)))
  all_goals
    have HB6 := Lib.hid hB6
    clear hb5 hb6 hB5 hB6
    go_wp2_with fail
    go_region_held3 (fun X => (((X.cell? ⟨w.heap.size, 0, none⟩ = some (.int .i64 due) ∧ X.cell? ⟨w.heap.size, 1, none⟩ = some (.int .i64 grace)) ∧ (X.cell? ⟨w.heap.size, 2, none⟩ = some (.bool lin) ∧ X.cell? ⟨w.heap.size, 3, none⟩ = some (.slice A l.length c))) ∧ (X.cell? ⟨w4.heap.size, 0, none⟩ = some (.int .i64 z1) ∧ X.cell? ⟨w4.heap.size, 1, none⟩ = some (.int .i64 z2))) ∧ Below W.heap.size W X)
      (first | exact HK.out _ HB6.out.drew | exact HK.out _ hB8 | exact HK.out _ hB7)
      (first | (go_at_call 11; refine (HF2.out _ HB6.out.drew).mono ?_; rintro e w7 ⟨rfl, hb7⟩; have hB7 := HB6.out.drew.trans (hb7.mono HB6.out.drew.size))
             | (go_at_call 13; refine (C2.out _).mono ?_; rintro e w8 ⟨rfl, hb8⟩; have hB8 := hB7.trans (hb8.mono hB7.size)))
    all_goals
      have hk1 : decide (0 ≤ cc) = true := by simpa using k1
      have hk2 : decide (dd < 0) = true := by simpa using k2
      go_wp2_with fail
      go_ret
      exact ⟨rfl, HWB.out.trans (hB8.mono HWB.out.size)⟩

set_option maxHeartbeats 4000000 in
set_option maxRecDepth 100000 in
theorem UntilLaw_none (due grace : Int) (lin : Bool) (A : Option Addr) (c : Nat) (l : List (Int × Int)) (pct other : Int) (w : World)
    (hs : StepsAt w w.heap.size A l) (hl : l.length ≤ 9223372036854775807) (h20 : l.length ≤ 20) (hv : vldB due grace l = true) (hp0 : 0 ≤ pct) (hp1 : pct ≤ 100) (hE : enB lin l pct 1099511627776 = true) :
    Calls Try.prog 7 #[.agg #[.int .i64 due, .int .i64 grace, .bool lin, .slice A l.length c], .int .i64 pct, .int .i64 other] w fun e w' => e = .returned (.bool true) ∧ Below w.heap.size w w' := by
  have HS := Lib.hid (hs.alloc (polObj due grace lin A l.length c))
  have HB0 := Lib.hid ((Below.refl _ w).alloc (Nat.le_refl _) (polObj due grace lin A l.length c))
  have gp0 : decide (pct < 0) = false := by simp; omega
  have gp1 : decide (100 < pct) = false := by simp; omega
  have g20 : decide ((20 : Int) < (l.length : Int)) = false := by simp; omega
  have hpc : pcB pct = true := (pcB_iff pct).2 ⟨hp0, hp1⟩
  have HP := Lib.hid hpc
  have HEn := Lib.hid hE
  obtain ⟨z1, z2, hz⟩ : ∃ z1 z2 : Int, (z1, z2) = fr pct 100 := ⟨_, _, rfl⟩
  have oz := frOk_pct hp0 hp1
  rw [← hz] at oz
  have HM : Hid (∀ X, Calls Try.prog 14 #[.int .i64 pct, .int .i64 100] X fun e w' => e = .returned (.tuple #[.agg #[.int .i64 z1, .int .i64 z2], .int .i64 0]) ∧ Below X.heap.size X w') := Lib.hid fun X => by
    have q := rMake_ok pct 100 X hp0 (by omega) (by omega) (by omega)
    have e1 : z1 = pct / (Int.gcd pct 100 : Nat) := congrArg Prod.fst hz
    have e2 : z2 = 100 / (Int.gcd pct 100 : Nat) := congrArg Prod.snd hz
    rw [e1, e2]; exact q
  have HZ := Lib.hid hz
  have HOZ := Lib.hid oz
  clear hpc hE hz oz hs
  go_enter Try.func7, Try.ntmps7
  go_wp2_with fail
  refine (awake_any _).mono ?_
  rintro e w1 ⟨rfl, hb1⟩
  have HS1 := Lib.hid (HS.out.later hb1)
  have HB1 := Lib.hid (HB0.out.trans (hb1.mono (by simp)))
  have hz1 := hb1.size
  simp only [World.size_alloc] at hz1
  have hB1 := hb1.mono (B' := w.heap.size + 1) (by simp)
  have c0 : w1.cell? ⟨w.heap.size, 0, none⟩ = some (.int .i64 due) := by rw [bcell hB1 _ _ (by omega)]; simp [go_sem]
  have c1 : w1.cell? ⟨w.heap.size, 1, none⟩ = some (.int .i64 grace) := by rw [bcell hB1 _ _ (by omega)]; simp [go_sem]
  have c2 : w1.cell? ⟨w.heap.size, 2, none⟩ = some (.bool lin) := by rw [bcell hB1 _ _ (by omega)]; simp [go_sem]
  have c3 : w1.cell? ⟨w.heap.size, 3, none⟩ = some (.slice A l.length c) := by rw [bcell hB1 _ _ (by omega)]; simp [go_sem]
  have H0 : Hid (PS w1 w.heap.size due grace lin A l.length c w1) := ⟨⟨⟨c0, c1⟩, c2, c3⟩, Below.refl _ _⟩
  clear hb1 hB1 HB0 HS
  go_wp2_with fail
  refine (Until_none _ _ _ _ _ _ _ _ HS1.out hl (fun _ _ => HEn.out)).mono ?_
  rintro e w2 ⟨rfl, hb2⟩
  have hz2 := hb2.size
  have HS2 := Lib.hid (HS1.out.later hb2)
  have HB2 := Lib.hid hb2
  obtain ⟨⟨⟨d0, d1⟩, d2, d3⟩, _⟩ := ps_of H0.out hb2
  clear hb2 c0 c1 c2 c3
  go_wp2_with fail
  refine (Valid_any _ _ _ _ _ _ _ HS2.out hl).mono ?_
  rintro e w3 ⟨rfl, hb3⟩
  have HB3 := Lib.hid (HB2.out.trans (hb3.mono HB2.out.size))
  clear hb3 d0 d1 d2 d3
  go_wp2_with fail
  refine (HM.out _).mono ?_
  rintro e w4 ⟨rfl, hb4⟩
  have HB4 := Lib.hid (HB3.out.trans (hb4.mono HB3.out.size))
  clear hb4
  go_wp2_with fail
  obtain ⟨W, hW⟩ : ∃ W, W = w4.alloc (.cells #[.int .i64 z1, .int .i64 z2] 27) := ⟨_, rfl⟩
  rw [← hW]
  have hWB : Below w1.heap.size w1 W := by rw [hW]; exact HB4.out.alloc HB4.out.size _
  have hz4 := HB4.out.size
  have hWs : w4.heap.size < W.heap.size := by rw [hW]; simp
  have m0 : W.cell? ⟨w4.heap.size, 0, none⟩ = some (.int .i64 z1) := by rw [hW]; simp [go_sem]
  have m1 : W.cell? ⟨w4.heap.size, 1, none⟩ = some (.int .i64 z2) := by rw [hW]; simp [go_sem]
  have hK : ∀ X, Below W.heap.size W X → (((X.cell? ⟨w.heap.size, 0, none⟩ = some (.int .i64 due) ∧ X.cell? ⟨w.heap.size, 1, none⟩ = some (.int .i64 grace)) ∧ (X.cell? ⟨w.heap.size, 2, none⟩ = some (.bool lin) ∧ X.cell? ⟨w.heap.size, 3, none⟩ = some (.slice A l.length c))) ∧ (X.cell? ⟨w4.heap.size, 0, none⟩ = some (.int .i64 z1) ∧ X.cell? ⟨w4.heap.size, 1, none⟩ = some (.int .i64 z2))) ∧ Below W.heap.size W X := fun X hX => by
    have hc := bcell hX
    exact ⟨⟨(ps_of H0.out (hWB.trans (hX.mono hWB.size))).1, (hc _ _ hWs).trans m0, (hc _ _ hWs).trans m1⟩, hX⟩
  obtain ⟨o, ho⟩ : ∃ o : Int, (if other < 0 then 0 else other) = o := ⟨_, rfl⟩
  have o0 : 0 ≤ o := by rw [← ho]; split <;> omega
  obtain ⟨t, ht⟩ : ∃ t : Int, (if (1099511627776 : Int) < o then 1099511627776 else o) = t := ⟨_, rfl⟩
  have t0 : 0 ≤ t := by rw [← ht]; split <;> omega
  have t1 : t ≤ 1099511627776 := by rw [← ht]; split <;> omega
  have HO := Lib.hid ho
  clear ho
  have HT := Lib.hid ht
  clear ht
  obtain ⟨x1, x2, hx⟩ : ∃ x1 x2 : Int, (x1, x2) = fr (fac lin l t) 10000 := ⟨_, _, rfl⟩
  obtain ⟨_, _, hok⟩ := vld_parts hv
  have ox := frOk_fac (lin := lin) (t := t) hok (by omega)
  have k1 := en_cmp.1 (en_anti (s := t) hok (by omega) (by omega) HEn.out)
  rw [← hx] at ox k1
  rw [← HZ.out] at k1
  dsimp only at k1 ox
  have HF1 : Hid (∀ X, Below W.heap.size W X → Calls Try.prog 11 #[.agg #[.int .i64 due, .int .i64 grace, .bool lin, .slice A l.length c], .int .i64 t] X fun e w' => e = .returned (.agg #[.int .i64 x1, .int .i64 x2]) ∧ Below X.heap.size X w') := Lib.hid fun X hX => Factor_val due grace lin A c l t X ((HS1.out.later hWB).later hX) hl hv (by omega) (by omega) x1 x2 hx
  generalize ec : cmpI (x1 * z2) (z1 * x2) = cc at k1
  have C1 : Hid (∀ X, Calls Try.prog 13 #[.agg #[.int .i64 x1, .int .i64 x2], .agg #[.int .i64 z1, .int .i64 z2]] X fun e w' => e = .returned (.tuple #[.int .i64 cc, .bool true]) ∧ Below X.heap.size X w') := Lib.hid fun X => by rw [← ec]; exact Compare_ok _ _ _ _ X ox HOZ.out
  have HK := Lib.hid hK
  have HWB := Lib.hid (HB1.out.trans (hWB.mono (by omega)))
  clear ec ox hx hok hK hWB hW m0 m1
  go_region_held3 (fun X => (((X.cell? ⟨w.heap.size, 0, none⟩ = some (.int .i64 due) ∧ X.cell? ⟨w.heap.size, 1, none⟩ = some (.int .i64 grace)) ∧ (X.cell? ⟨w.heap.size, 2, none⟩ = some (.bool lin) ∧ X.cell? ⟨w.heap.size, 3, none⟩ = some (.slice A l.length c))) ∧ (X.cell? ⟨w4.heap.size, 0, none⟩ = some (.int .i64 z1) ∧ X.cell? ⟨w4.heap.size, 1, none⟩ = some (.int .i64 z2))) ∧ Below W.heap.size W X)
    (first | exact HK.out _ (Below.refl _ _).drew | exact HK.out _ hB6 | exact HK.out _ hB5)
    (first | (go_at_call 11; rw [HO.out, HT.out]; refine (HF1.out _ (Below.refl _ _).drew).mono ?_; rintro e w5 ⟨rfl, hb5⟩; have hB5 := (Below.refl W.heap.size W).drew.trans (hb5.mono (Nat.le_refl _)))
           | (go_at_call 13; refine (C1.out _).mono ?_; rintro e w6 ⟨rfl, hb6⟩; have hB6 := hB5.trans (hb6.mono hB5.size)))
  all_goals
    have hk1 : decide (0 ≤ cc) = true := by simpa using k1
    go_wp2_with fail
    go_ret
    exact ⟨rfl, HWB.out.trans (hB6.mono HWB.out.size)⟩

set_option maxHeartbeats 1000000 in
theorem UntilLaw_bad (due grace : Int) (lin : Bool) (A : Option Addr) (c : Nat) (l : List (Int × Int)) (pct other : Int) (w : World)
    (hs : StepsAt w w.heap.size A l) (hl : l.length ≤ 9223372036854775807) (hv : 20 < l.length ∨ vldB due grace l = false ∨ pct < 0 ∨ 100 < pct) :
    Calls Try.prog 7 #[.agg #[.int .i64 due, .int .i64 grace, .bool lin, .slice A l.length c], .int .i64 pct, .int .i64 other] w fun e w' => e = .returned (.bool true) ∧ Below w.heap.size w w' := by
  have HS := Lib.hid (hs.alloc (polObj due grace lin A l.length c))
  have HB0 := Lib.hid ((Below.refl _ w).alloc (Nat.le_refl _) (polObj due grace lin A l.length c))
  by_cases h20 : l.length ≤ 20
  · have g20 : decide ((20 : Int) < (l.length : Int)) = false := by simp; omega
    have hn : vldB due grace l = true → pcB pct = true → enB lin l pct 1099511627776 = true := fun h1 h2 => by
      obtain ⟨p0, p1⟩ := (pcB_iff pct).1 h2
      rcases hv with h | h | h | h
      · omega
      · rw [h1] at h; cases h
      · omega
      · omega
    have HN := Lib.hid hn
    have HV := Lib.hid hv
    clear hn hv hs
    go_enter Try.func7, Try.ntmps7
    go_wp2_with fail
    refine (awake_any _).mono ?_
    rintro e w1 ⟨rfl, hb1⟩
    have HS1 := Lib.hid (HS.out.later hb1)
    have HB1 := Lib.hid (HB0.out.trans (hb1.mono (by simp)))
    have hz1 := hb1.size
    simp only [World.size_alloc] at hz1
    have hB1 := hb1.mono (B' := w.heap.size + 1) (by simp)
    have c0 : w1.cell? ⟨w.heap.size, 0, none⟩ = some (.int .i64 due) := by rw [bcell hB1 _ _ (by omega)]; simp [go_sem]
    have c1 : w1.cell? ⟨w.heap.size, 1, none⟩ = some (.int .i64 grace) := by rw [bcell hB1 _ _ (by omega)]; simp [go_sem]
    have c2 : w1.cell? ⟨w.heap.size, 2, none⟩ = some (.bool lin) := by rw [bcell hB1 _ _ (by omega)]; simp [go_sem]
    have c3 : w1.cell? ⟨w.heap.size, 3, none⟩ = some (.slice A l.length c) := by rw [bcell hB1 _ _ (by omega)]; simp [go_sem]
    have H0 : Hid (PS w1 w.heap.size due grace lin A l.length c w1) := ⟨⟨⟨c0, c1⟩, c2, c3⟩, Below.refl _ _⟩
    clear hb1 hB1 HB0 HS
    go_wp2_with fail
    refine (Until_none _ _ _ _ _ _ _ _ HS1.out hl HN.out).mono ?_
    rintro e w2 ⟨rfl, hb2⟩
    have HS2 := Lib.hid (HS1.out.later hb2)
    have HB2 := Lib.hid hb2
    obtain ⟨⟨⟨d0, d1⟩, d2, d3⟩, _⟩ := ps_of H0.out hb2
    clear hb2 c0 c1 c2 c3
    go_wp2_with fail
    refine (Valid_any _ _ _ _ _ _ _ HS2.out hl).mono ?_
    rintro e w3 ⟨rfl, hb3⟩
    have HB3 := Lib.hid (HB1.out.trans ((HB2.out.trans (hb3.mono HB2.out.size)).mono (by omega)))
    clear hb3 d0 d1 d2 d3
    by_cases h1 : vldB due grace l = true
    · by_cases h2 : pct < 0
      · go_wp2_with fail
        go_ret
        exact ⟨rfl, HB3.out⟩
      · have h3 : 100 < pct := by
          rcases HV.out with h | h | h | h
          · omega
          · rw [h1] at h; cases h
          · omega
          · exact h
        have h2' : decide (pct < 0) = false := by simp; omega
        go_wp2_with fail
        go_ret
        exact ⟨rfl, HB3.out⟩
    · rw [Bool.not_eq_true] at h1
      go_wp2_with fail
      go_ret
      exact ⟨rfl, HB3.out⟩
  · have g20 : decide ((20 : Int) < (l.length : Int)) = true := by simp; omega
    clear hv
    go_enter Try.func7, Try.ntmps7
    go_wp2_with fail
    refine (awake_any _).mono ?_
    rintro e w1 ⟨rfl, hb1⟩
    have HB1 := Lib.hid (HB0.out.trans (hb1.mono (by simp)))
    have c3 : w1.cell? ⟨w.heap.size, 3, none⟩ = some (.slice A l.length c) := by rw [bcell hb1 _ _ (by simp)]; simp [go_sem]
    clear hb1
    go_wp2_with fail
    go_ret
    exact ⟨rfl, HB1.out⟩

theorem UntilLaw_all (due grace : Int) (lin : Bool) (A : Option Addr) (c : Nat) (l : List (Int × Int)) (pct other : Int) (w : World)
    (hs : StepsAt w w.heap.size A l) (hl : l.length ≤ 9223372036854775807) :
    Calls Try.prog 7 #[.agg #[.int .i64 due, .int .i64 grace, .bool lin, .slice A l.length c], .int .i64 pct, .int .i64 other] w fun e w' => e = .returned (.bool true) ∧ Below w.heap.size w w' := by
  by_cases h : 20 < l.length ∨ vldB due grace l = false ∨ pct < 0 ∨ 100 < pct
  · exact UntilLaw_bad due grace lin A c l pct other w hs hl h
  · have h1 : l.length ≤ 20 := by omega
    have hv : vldB due grace l = true := by
      cases e : vldB due grace l with
      | true => rfl
      | false => exact absurd (.inr (.inl e)) h
    have h2 : 0 ≤ pct := by omega
    have h3 : pct ≤ 100 := by omega
    cases hE : enB lin l pct 1099511627776 with
    | true => exact UntilLaw_none due grace lin A c l pct other w hs hl h1 hv h2 h3 hE
    | false => exact UntilLaw_yes due grace lin A c l pct other w hs hl h1 hv h2 h3 hE

end Go.Proofs.Ytcppijoccolmkaa
