/-
  The walk of DeadlinesFactors.
-/
import Derived.Test.YtcppijoccolmkaaFd
namespace Go.Proofs.Ytcppijoccolmkaa
open Go.RowKit

set_option maxHeartbeats 4000000 in
set_option maxRecDepth 100000 in
theorem Factors_some (due grace : Int) (lin : Bool) (A : Option Addr) (c : Nat) (l : List (Int × Int)) (late pct : Int) (B : Option Addr) (d : Nat) (xs : List Int) (al : Int) (w : World)
    (hs : StepsAt w w.heap.size A l) (hx : IntsAt w w.heap.size B xs) (h20 : l.length ≤ 20) (h30 : xs.length ≤ 30) (hv : vldB due grace l = true) (hp0 : 0 ≤ pct) (hp1 : pct ≤ 100) (hE : enB lin l pct 1099511627776 = false) :
    Calls Try.prog 9 #[.agg #[.int .i64 due, .int .i64 grace, .bool lin, .slice A l.length c], .int .i64 late, .int .i64 pct, .slice B xs.length d, .int .i64 al] w fun e w' => e = .returned (.bool true) ∧ Below w.heap.size w w' := by
  have HS := Lib.hid (hs.alloc (polObj due grace lin A l.length c))
  have HX := Lib.hid (hx.later ((Below.refl _ w).alloc (Nat.le_refl _) (polObj due grace lin A l.length c)))
  have HB0 := Lib.hid ((Below.refl _ w).alloc (Nat.le_refl _) (polObj due grace lin A l.length c))
  have g20 : decide ((20 : Int) < (l.length : Int)) = false := by simp; omega
  have g30 : decide ((30 : Int) < (xs.length : Int)) = false := by simp; omega
  have hl : l.length ≤ 9223372036854775807 := by omega
  have HEn := Lib.hid hE
  clear hs hx hE
  go_enter Try.func9, Try.ntmps9
  go_wp2_with fail
  refine (awake_any _).mono ?_
  rintro e w1 ⟨rfl, hb1⟩
  have HS1 := Lib.hid (HS.out.later hb1)
  have HX1 := Lib.hid (HX.out.later hb1)
  have HB1 := Lib.hid (HB0.out.trans (hb1.mono (by simp)))
  have hz1 := hb1.size
  simp only [World.size_alloc] at hz1
  have hB1 := hb1.mono (B' := w.heap.size + 1) (by simp)
  have c0 : w1.cell? ⟨w.heap.size, 0, none⟩ = some (.int .i64 due) := by rw [bcell hB1 _ _ (by omega)]; simp [go_sem]
  have c1 : w1.cell? ⟨w.heap.size, 1, none⟩ = some (.int .i64 grace) := by rw [bcell hB1 _ _ (by omega)]; simp [go_sem]
  have c2 : w1.cell? ⟨w.heap.size, 2, none⟩ = some (.bool lin) := by rw [bcell hB1 _ _ (by omega)]; simp [go_sem]
  have c3 : w1.cell? ⟨w.heap.size, 3, none⟩ = some (.slice A l.length c) := by rw [bcell hB1 _ _ (by omega)]; simp [go_sem]
  have HP0 : Hid (PS w1 w.heap.size due grace lin A l.length c w1) := ⟨⟨⟨c0, c1⟩, c2, c3⟩, Below.refl _ _⟩
  clear hb1 hB1 HB0 HS HX
  go_wp2_with fail
  refine (Until_some _ _ _ _ _ _ _ _ HS1.out hv ((pcB_iff pct).2 ⟨hp0, hp1⟩) HEn.out).mono ?_
  rintro e w2 ⟨t, t0, t1, et, et', rfl, hb2⟩
  have ET := Lib.hid et
  have ET' := Lib.hid et'
  clear et et'
  have HS2 := Lib.hid (HS1.out.later hb2)
  have HX2 := Lib.hid (HX1.out.later hb2)
  obtain ⟨⟨⟨d0, d1⟩, d2, d3⟩, _⟩ := ps_of HP0.out hb2
  have HB2 := Lib.hid hb2
  clear hb2 c0 c1 c2 c3
  go_wp2_with fail
  refine (rUntil_some _ _ _ _ _ _ _ _ HS2.out hv hp0 hp1 HEn.out).mono ?_
  rintro e w3 ⟨t', t0', t1', et, et', rfl, hb3⟩
  have htt : t' = t := by
    obtain ⟨_, _, hok⟩ := vld_parts hv
    rcases Int.lt_trichotomy t' t with h | h | h
    · rw [en_anti hok (by omega) (show t' + 1 ≤ t by omega) ET.out] at et'; cases et'
    · exact h
    · have q := en_anti hok (by omega) (show t + 1 ≤ t' by omega) et
      rw [ET'.out] at q; cases q
  subst htt
  have gtt : (t' == t') = true := by simp
  clear et et'
  have HS3 := Lib.hid (HS2.out.later hb3)
  have HX3 := Lib.hid (HX2.out.later hb3)
  have hb13 := HB2.out.trans (hb3.mono HB2.out.size)
  obtain ⟨⟨⟨e0, e1⟩, e2, e3⟩, _⟩ := ps_of HP0.out hb13
  have HB3 := Lib.hid (HB1.out.trans (hb13.mono (by omega)))
  have gz : w.heap.size ≤ w3.heap.size := by have := hb13.size; omega
  have H0 : Hid (PS w3 w.heap.size due grace lin A l.length c w3) := ⟨⟨⟨e0, e1⟩, e2, e3⟩, Below.refl _ _⟩
  clear hb3 hb13 d0 d1 d2 d3 HS1 HX1 HS2 HX2 HP0 HB2 HB1
  obtain ⟨⟨f1, f2⟩, hf⟩ : ∃ f, facF due grace lin l late = f := ⟨_, rfl⟩
  have K11 : Hid (∀ X, PS w3 w.heap.size due grace lin A l.length c X → Calls Try.prog 11 #[.agg #[.int .i64 due, .int .i64 grace, .bool lin, .slice A l.length c], .int .i64 late] X fun e w' => e = .returned (.agg #[.int .i64 f1, .int .i64 f2]) ∧ Below X.heap.size X w') := Lib.hid fun X h => by have q := Factor_any due grace lin A c l late X (ps_steps HS3 h) hl; rw [hf] at q; exact q
  have K25 : Hid (∀ X, PS w3 w.heap.size due grace lin A l.length c X → Calls Try.prog 25 #[.agg #[.int .i64 due, .int .i64 grace, .bool lin, .slice A l.length c], .int .i64 late] X fun e w' => e = .returned (.agg #[.int .i64 f1, .int .i64 f2]) ∧ Below X.heap.size X w') := Lib.hid fun X h => by have q := rFactor_any due grace lin A c l late X (ps_steps HS3 h) hl; rw [hf] at q; exact q
  have K21 : Hid (∀ X, PS w3 w.heap.size due grace lin A l.length c X → Calls Try.prog 21 #[.slice B xs.length d, .int .i64 al] X (SpendP xs al X)) := Lib.hid fun X h => Spend_any _ _ _ _ _ (HX3.out.later h.2) h30
  have K27 : Hid (∀ X, PS w3 w.heap.size due grace lin A l.length c X → Calls Try.prog 27 #[.slice B xs.length d, .int .i64 al] X (SpendP xs al X)) := Lib.hid fun X h => rSpend_any _ _ _ _ _ (HX3.out.later h.2) h30
  have K26 : Hid (∀ (A1 A2 : Option Addr) (d1 d2 : Nat) (X : World), IntsAt X X.heap.size A1 (spO xs al xs.length) → IntsAt X X.heap.size A2 (spO xs al xs.length) → Calls Try.prog 26 #[.slice A1 xs.length d1, .slice A2 xs.length d2] X fun e w' => e = .returned (.bool true) ∧ Below X.heap.size X w') := Lib.hid fun A1 A2 d1 d2 X h1 h2 => by
    have q := Ints_same A1 A2 d1 d2 _ X h1 h2 (by rw [spO_len]; exact h30)
    rw [spO_len] at q; exact q
  have gf1 : (f1 == f1) = true := by simp
  have gf2 : (f2 == f2) = true := by simp
  clear hf HS3 HX3
  go_wp2_with fail
  go_region_held3 (fun w' => ((w'.cell? ⟨w.heap.size, 0, none⟩ = some (.int .i64 due) ∧ w'.cell? ⟨w.heap.size, 1, none⟩ = some (.int .i64 grace)) ∧ (w'.cell? ⟨w.heap.size, 2, none⟩ = some (.bool lin) ∧ w'.cell? ⟨w.heap.size, 3, none⟩ = some (.slice A l.length c))) ∧ Below w3.heap.size w3 w')
    (first | exact ps_of H0.out (Below.refl _ _).drew | exact hq8 | exact hq7 | exact hq6 | exact hq5 | exact hq4)
    (first | (go_at_call 11; refine (K11.out _ (by assumption)).mono ?_; rintro e w4 ⟨rfl, hb4⟩; have hq4 := ps_call H0 hb4 (by assumption))
           | (go_at_call 25; refine (K25.out _ (by assumption)).mono ?_; rintro e w5 ⟨rfl, hb5⟩; have hq5 := ps_call H0 hb5 (by assumption))
           | (go_at_call 21; refine (K21.out _ (by assumption)).mono ?_; rintro e w6 ⟨A1, d1, rfl, hI1, hb6⟩; have hq6 := ps_call H0 hb6 (by assumption); have HI1 := Lib.hid hI1; clear hI1)
           | (go_at_call 27; refine (K27.out _ (by assumption)).mono ?_; rintro e w7 ⟨A2, d2, rfl, hI2, hb7⟩; have hq7 := ps_call H0 hb7 (by assumption); have HI2 := Lib.hid hI2; have HI3 := Lib.hid (HI1.out.later hb7); clear hI2)
           | (go_at_call 26; refine (K26.out _ _ _ _ _ HI3.out HI2.out).mono ?_; rintro e w8 ⟨rfl, hb8⟩; have hq8 := ps_call H0 hb8 (by assumption)))
  all_goals
    go_wp2_with fail
    go_ret
    exact ⟨rfl, HB3.out.trans (hq8.2.mono gz)⟩

set_option maxHeartbeats 4000000 in
set_option maxRecDepth 100000 in
theorem Factors_none (due grace : Int) (lin : Bool) (A : Option Addr) (c : Nat) (l : List (Int × Int)) (late pct : Int) (B : Option Addr) (d : Nat) (xs : List Int) (al : Int) (w : World)
    (hs : StepsAt w w.heap.size A l) (hx : IntsAt w w.heap.size B xs) (h20 : l.length ≤ 20) (h30 : xs.length ≤ 30) (hE : vldB due grace l = true → pcB pct = true → enB lin l pct 1099511627776 = true) :
    Calls Try.prog 9 #[.agg #[.int .i64 due, .int .i64 grace, .bool lin, .slice A l.length c], .int .i64 late, .int .i64 pct, .slice B xs.length d, .int .i64 al] w fun e w' => e = .returned (.bool true) ∧ Below w.heap.size w w' := by
  have HS := Lib.hid (hs.alloc (polObj due grace lin A l.length c))
  have HX := Lib.hid (hx.later ((Below.refl _ w).alloc (Nat.le_refl _) (polObj due grace lin A l.length c)))
  have HB0 := Lib.hid ((Below.refl _ w).alloc (Nat.le_refl _) (polObj due grace lin A l.length c))
  have g20 : decide ((20 : Int) < (l.length : Int)) = false := by simp; omega
  have g30 : decide ((30 : Int) < (xs.length : Int)) = false := by simp; omega
  have hl : l.length ≤ 9223372036854775807 := by omega
  have HEn := Lib.hid hE
  clear hs hx hE
  go_enter Try.func9, Try.ntmps9
  go_wp2_with fail
  refine (awake_any _).mono ?_
  rintro e w1 ⟨rfl, hb1⟩
  have HS1 := Lib.hid (HS.out.later hb1)
  have HX1 := Lib.hid (HX.out.later hb1)
  have HB1 := Lib.hid (HB0.out.trans (hb1.mono (by simp)))
  have hz1 := hb1.size
  simp only [World.size_alloc] at hz1
  have hB1 := hb1.mono (B' := w.heap.size + 1) (by simp)
  have c0 : w1.cell? ⟨w.heap.size, 0, none⟩ = some (.int .i64 due) := by rw [bcell hB1 _ _ (by omega)]; simp [go_sem]
  have c1 : w1.cell? ⟨w.heap.size, 1, none⟩ = some (.int .i64 grace) := by rw [bcell hB1 _ _ (by omega)]; simp [go_sem]
  have c2 : w1.cell? ⟨w.heap.size, 2, none⟩ = some (.bool lin) := by rw [bcell hB1 _ _ (by omega)]; simp [go_sem]
  have c3 : w1.cell? ⟨w.heap.size, 3, none⟩ = some (.slice A l.length c) := by rw [bcell hB1 _ _ (by omega)]; simp [go_sem]
  have HP0 : Hid (PS w1 w.heap.size due grace lin A l.length c w1) := ⟨⟨⟨c0, c1⟩, c2, c3⟩, Below.refl _ _⟩
  clear hb1 hB1 HB0 HS HX
  go_wp2_with fail
  refine (Until_none _ _ _ _ _ _ _ _ HS1.out hl HEn.out).mono ?_
  rintro e w2 ⟨rfl, hb2⟩
  have HS2 := Lib.hid (HS1.out.later hb2)
  have HX2 := Lib.hid (HX1.out.later hb2)
  obtain ⟨⟨⟨d0, d1⟩, d2, d3⟩, _⟩ := ps_of HP0.out hb2
  have HB2 := Lib.hid hb2
  clear hb2 c0 c1 c2 c3
  go_wp2_with fail
  refine (rUntil_none _ _ _ _ _ _ _ _ HS2.out hl HEn.out).mono ?_
  rintro e w3 ⟨rfl, hb3⟩
  have HS3 := Lib.hid (HS2.out.later hb3)
  have HX3 := Lib.hid (HX2.out.later hb3)
  have hb13 := HB2.out.trans (hb3.mono HB2.out.size)
  obtain ⟨⟨⟨e0, e1⟩, e2, e3⟩, _⟩ := ps_of HP0.out hb13
  have HB3 := Lib.hid (HB1.out.trans (hb13.mono (by omega)))
  have gz : w.heap.size ≤ w3.heap.size := by have := hb13.size; omega
  have H0 : Hid (PS w3 w.heap.size due grace lin A l.length c w3) := ⟨⟨⟨e0, e1⟩, e2, e3⟩, Below.refl _ _⟩
  clear hb3 hb13 d0 d1 d2 d3 HS1 HX1 HS2 HX2 HP0 HB2 HB1
  obtain ⟨⟨f1, f2⟩, hf⟩ : ∃ f, facF due grace lin l late = f := ⟨_, rfl⟩
  have K11 : Hid (∀ X, PS w3 w.heap.size due grace lin A l.length c X → Calls Try.prog 11 #[.agg #[.int .i64 due, .int .i64 grace, .bool lin, .slice A l.length c], .int .i64 late] X fun e w' => e = .returned (.agg #[.int .i64 f1, .int .i64 f2]) ∧ Below X.heap.size X w') := Lib.hid fun X h => by have q := Factor_any due grace lin A c l late X (ps_steps HS3 h) hl; rw [hf] at q; exact q
  have K25 : Hid (∀ X, PS w3 w.heap.size due grace lin A l.length c X → Calls Try.prog 25 #[.agg #[.int .i64 due, .int .i64 grace, .bool lin, .slice A l.length c], .int .i64 late] X fun e w' => e = .returned (.agg #[.int .i64 f1, .int .i64 f2]) ∧ Below X.heap.size X w') := Lib.hid fun X h => by have q := rFactor_any due grace lin A c l late X (ps_steps HS3 h) hl; rw [hf] at q; exact q
  have K21 : Hid (∀ X, PS w3 w.heap.size due grace lin A l.length c X → Calls Try.prog 21 #[.slice B xs.length d, .int .i64 al] X (SpendP xs al X)) := Lib.hid fun X h => Spend_any _ _ _ _ _ (HX3.out.later h.2) h30
  have K27 : Hid (∀ X, PS w3 w.heap.size due grace lin A l.length c X → Calls Try.prog 27 #[.slice B xs.length d, .int .i64 al] X (SpendP xs al X)) := Lib.hid fun X h => rSpend_any _ _ _ _ _ (HX3.out.later h.2) h30
  have K26 : Hid (∀ (A1 A2 : Option Addr) (d1 d2 : Nat) (X : World), IntsAt X X.heap.size A1 (spO xs al xs.length) → IntsAt X X.heap.size A2 (spO xs al xs.length) → Calls Try.prog 26 #[.slice A1 xs.length d1, .slice A2 xs.length d2] X fun e w' => e = .returned (.bool true) ∧ Below X.heap.size X w') := Lib.hid fun A1 A2 d1 d2 X h1 h2 => by
    have q := Ints_same A1 A2 d1 d2 _ X h1 h2 (by rw [spO_len]; exact h30)
    rw [spO_len] at q; exact q
  have gf1 : (f1 == f1) = true := by simp
  have gf2 : (f2 == f2) = true := by simp
  clear hf HS3 HX3
  go_wp2_with fail
  go_region_held3 (fun w' => ((w'.cell? ⟨w.heap.size, 0, none⟩ = some (.int .i64 due) ∧ w'.cell? ⟨w.heap.size, 1, none⟩ = some (.int .i64 grace)) ∧ (w'.cell? ⟨w.heap.size, 2, none⟩ = some (.bool lin) ∧ w'.cell? ⟨w.heap.size, 3, none⟩ = some (.slice A l.length c))) ∧ Below w3.heap.size w3 w')
    (first | exact ps_of H0.out (Below.refl _ _).drew | exact hq8 | exact hq7 | exact hq6 | exact hq5 | exact hq4)
    (first | (go_at_call 11; refine (K11.out _ (by assumption)).mono ?_; rintro e w4 ⟨rfl, hb4⟩; have hq4 := ps_call H0 hb4 (by assumption))
           | (go_at_call 25; refine (K25.out _ (by assumption)).mono ?_; rintro e w5 ⟨rfl, hb5⟩; have hq5 := ps_call H0 hb5 (by assumption))
           | (go_at_call 21; refine (K21.out _ (by assumption)).mono ?_; rintro e w6 ⟨A1, d1, rfl, hI1, hb6⟩; have hq6 := ps_call H0 hb6 (by assumption); have HI1 := Lib.hid hI1; clear hI1)
           | (go_at_call 27; refine (K27.out _ (by assumption)).mono ?_; rintro e w7 ⟨A2, d2, rfl, hI2, hb7⟩; have hq7 := ps_call H0 hb7 (by assumption); have HI2 := Lib.hid hI2; have HI3 := Lib.hid (HI1.out.later hb7); clear hI2)
           | (go_at_call 26; refine (K26.out _ _ _ _ _ HI3.out HI2.out).mono ?_; rintro e w8 ⟨rfl, hb8⟩; have hq8 := ps_call H0 hb8 (by assumption)))
  all_goals
    go_wp2_with fail
    go_ret
    exact ⟨rfl, HB3.out.trans (hq8.2.mono gz)⟩

set_option maxHeartbeats 400000 in
theorem Factors_no (due grace : Int) (lin : Bool) (A : Option Addr) (c : Nat) (l : List (Int × Int)) (late pct : Int) (B : Option Addr) (d : Nat) (xs : List Int) (al : Int) (w : World)
    (hl : l.length ≤ 9223372036854775807) (hxl : xs.length ≤ 9223372036854775807) (h : 20 < l.length ∨ 30 < xs.length) :
    Calls Try.prog 9 #[.agg #[.int .i64 due, .int .i64 grace, .bool lin, .slice A l.length c], .int .i64 late, .int .i64 pct, .slice B xs.length d, .int .i64 al] w fun e w' => e = .returned (.bool true) ∧ Below w.heap.size w w' := by
  have HB0 := Lib.hid ((Below.refl _ w).alloc (Nat.le_refl _) (polObj due grace lin A l.length c))
  by_cases h20 : l.length ≤ 20
  · have g20 : decide ((20 : Int) < (l.length : Int)) = false := by simp; omega
    have g30 : decide ((30 : Int) < (xs.length : Int)) = true := by simp; omega
    clear h
    go_enter Try.func9, Try.ntmps9
    go_wp2_with fail
    refine (awake_any _).mono ?_
    rintro e w1 ⟨rfl, hb1⟩
    have HB1 := Lib.hid (HB0.out.trans (hb1.mono (by simp)))
    have c3 : w1.cell? ⟨w.heap.size, 3, none⟩ = some (.slice A l.length c) := by rw [bcell hb1 _ _ (by simp)]; simp [go_sem]
    clear hb1
    go_wp2_with fail
    go_ret
    exact ⟨rfl, HB1.out⟩
  · have g20 : decide ((20 : Int) < (l.length : Int)) = true := by simp; omega
    clear h
    go_enter Try.func9, Try.ntmps9
    go_wp2_with fail
    refine (awake_any _).mono ?_
    rintro e w1 ⟨rfl, hb1⟩
    have HB1 := Lib.hid (HB0.out.trans (hb1.mono (by simp)))
    have c3 : w1.cell? ⟨w.heap.size, 3, none⟩ = some (.slice A l.length c) := by rw [bcell hb1 _ _ (by simp)]; simp [go_sem]
    clear hb1
    go_wp2_with fail
    go_ret
    exact ⟨rfl, HB1.out⟩

theorem Factors_all (due grace : Int) (lin : Bool) (A : Option Addr) (c : Nat) (l : List (Int × Int)) (late pct : Int) (B : Option Addr) (d : Nat) (xs : List Int) (al : Int) (w : World)
    (hs : StepsAt w w.heap.size A l) (hl : l.length ≤ 9223372036854775807) (hx : IntsAt w w.heap.size B xs) (hxl : xs.length ≤ 9223372036854775807) :
    Calls Try.prog 9 #[.agg #[.int .i64 due, .int .i64 grace, .bool lin, .slice A l.length c], .int .i64 late, .int .i64 pct, .slice B xs.length d, .int .i64 al] w fun e w' => e = .returned (.bool true) ∧ Below w.heap.size w w' := by
  by_cases h : 20 < l.length ∨ 30 < xs.length
  · exact Factors_no due grace lin A c l late pct B d xs al w hl hxl h
  · by_cases hE : vldB due grace l = true → pcB pct = true → enB lin l pct 1099511627776 = true
    · exact Factors_none due grace lin A c l late pct B d xs al w hs hx (by omega) (by omega) hE
    · have hv : vldB due grace l = true := by
        cases e : vldB due grace l with
        | true => rfl
        | false => exact absurd (fun h => by rw [e] at h; cases h) hE
      have hp : pcB pct = true := by
        cases e : pcB pct with
        | true => rfl
        | false => exact absurd (fun _ h => by rw [e] at h; cases h) hE
      have he : enB lin l pct 1099511627776 = false := by
        cases e : enB lin l pct 1099511627776 with
        | true => exact absurd (fun _ _ => e) hE
        | false => rfl
      obtain ⟨p0, p1⟩ := (pcB_iff pct).1 hp
      exact Factors_some due grace lin A c l late pct B d xs al w hs hx (by omega) (by omega) hv p0 p1 he

end Go.Proofs.Ytcppijoccolmkaa
