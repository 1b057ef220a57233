/-
  The contracts of the reference's Factor and Until.
-/
import Derived.Test.YtcppijoccolmkaaFc
import Derived.Test.YtcppijoccolmkaaW
namespace Go.Proofs.Ytcppijoccolmkaa
open Go.RowKit

theorem rparts_any (due grace : Int) (lin : Bool) (A : Option Addr) (c : Nat) (l : List (Int × Int)) (t : Int) (w : World)
    (hs : StepsAt w w.heap.size A l) (hl : l.length ≤ 16) (hok : okTo l l.length = true) (ht0 : 0 ≤ t) (ht1 : t ≤ 1099511627776) :
    Calls Try.prog 38 #[.agg #[.int .i64 due, .int .i64 grace, .bool lin, .slice A l.length c], .int .i64 t] w fun e w' => e = .returned (.int .i64 (fac lin l t)) ∧ Below w.heap.size w w' := by
  cases lin with
  | true => exact rparts_lin due grace A c l t w hs hl hok ht0 ht1
  | false => exact rparts_stp due grace A c l t w hs hl hok ht0

theorem rMake_fr (n : Int) (w : World) (h0 : 0 ≤ n) (h1 : n ≤ 10000) :
    Calls Try.prog 14 #[.int .i64 n, .int .i64 10000] w fun e w' => e = .returned (.tuple #[frV (fr n 10000), .int .i64 0]) ∧ Below w.heap.size w w' :=
  rMake_ok n 10000 w h0 h1 (by omega) (by omega)

set_option maxHeartbeats 400000 in
theorem rFactor_yes (due grace : Int) (lin : Bool) (A : Option Addr) (c : Nat) (l : List (Int × Int)) (t : Int) (w : World)
    (hs : StepsAt w w.heap.size A l) (hv : vldB due grace l = true) (ht0 : 0 ≤ t) (ht1 : t ≤ 1099511627776) :
    Calls Try.prog 25 #[polV due grace lin A l.length c, .int .i64 t] w fun e w' => e = .returned (frV (fr (fac lin l t) 10000)) ∧ Below w.heap.size w w' := by
  obtain ⟨_, hl, hok⟩ := vld_parts hv
  obtain ⟨r0, r1⟩ := fac_rng (lin := lin) (t := t) hok ht0
  have htm : tmB t = true := (tmB_iff t).2 ⟨ht0, ht1⟩
  obtain ⟨x, hx⟩ : ∃ x, x = fr (fac lin l t) 10000 := ⟨_, rfl⟩
  have hmk : ∀ w, Calls Try.prog 14 #[.int .i64 (fac lin l t), .int .i64 10000] w fun e w' => e = .returned (.tuple #[frV x, .int .i64 0]) ∧ Below w.heap.size w w' := fun w => by
    rw [hx]; exact rMake_fr _ w r0 r1
  rw [← hx]
  have HM := Lib.hid hmk
  have HOK := Lib.hid hok
  have HS := Lib.hid ((hs.alloc (polObj due grace lin A l.length c)).alloc (.cells #[.int .i64 0, .int .i64 0] 27))
  clear hx hmk hok
  obtain ⟨x1, x2⟩ := x
  go_enter Try.func25, Try.ntmps25
  go_wp2_with fail
  refine (rValid_any _ _ _ _ _ _ _ HS.out (by omega)).mono ?_
  rintro e w1 ⟨rfl, hb1⟩
  have HS1 := Lib.hid (HS.out.later hb1)
  have hc1 := bcell hb1
  have hz1 := hb1.size
  simp only [World.size_alloc] at hc1 hz1
  have g1 : w.heap.size < w1.heap.size := by omega
  have g2 : w.heap.size + 1 < w1.heap.size := by omega
  have g3 : w.heap.size < w.heap.size + 1 + 1 := by omega
  go_wp2_with fail
  refine (rtime_any _ _).mono ?_
  rintro e w1' ⟨rfl, rfl⟩
  go_wp2_with fail
  refine (rparts_any _ _ _ _ _ _ _ _ HS1.out hl HOK.out ht0 ht1).mono ?_
  rintro e w2 ⟨rfl, hb2⟩
  have hz2 := hb2.size
  go_wp2_with fail
  refine (HM.out _).mono ?_
  rintro e w3 ⟨rfl, hb3⟩
  have hz3 := hb3.size
  have hB2 : Below (w.heap.size + 1 + 1) ((w.alloc (polObj due grace lin A l.length c)).alloc (.cells #[.int .i64 0, .int .i64 0] 27)) w3 := by
    have h1 := hb1.mono (B' := w.heap.size + 1 + 1) (by simp)
    exact h1.trans ((hb2.mono (by omega)).trans (hb3.mono (by omega)))
  obtain ⟨hc3, hf3⟩ := bboth hB2
  have k0 : w3.cell? ⟨w.heap.size + 1, 0, none⟩ = some (.int .i64 0) := by rw [hc3 _ _ (by omega)]; simp [go_sem]
  have k1 : w3.cell? ⟨w.heap.size + 1, 1, none⟩ = some (.int .i64 0) := by rw [hc3 _ _ (by omega)]; simp [go_sem]
  have f0 : w3.frozen? ⟨w.heap.size + 1, 0, none⟩ = false := by rw [hf3 _ _ (by omega)]; simp [go_sem]
  have f1 : w3.frozen? ⟨w.heap.size + 1, 1, none⟩ = false := by rw [hf3 _ _ (by omega)]; simp [go_sem]
  have g4 : w.heap.size + 1 < w3.heap.size := by omega
  have HB := Lib.hid hB2
  clear hc1 hc3 hf3 hb1 hb2 hb3 hB2 hs
  go_wp2_with fail
  have k := two_set (w := w3) (b := w.heap.size + 1) (u0 := .int .i64 0) (u1 := .int .i64 0) (.int .i64 x1) (.int .i64 x2) k0 k1
  refine bodyPost_ret (v := .agg #[.int .i64 x1, .int .i64 x2]) (by simp [results, Try.results25, go_sem, k.1, k.2, g4]) rfl ⟨rfl, ?_⟩
  have q := (((HB.out).mono (B' := w.heap.size) (by omega)).setCell (p := ⟨w.heap.size + 1, 0, none⟩) (by dsimp only; omega) (.int .i64 x1)).setCell (p := ⟨w.heap.size + 1, 1, none⟩) (by dsimp only; omega) (.int .i64 x2)
  exact (((Below.refl _ w).alloc (Nat.le_refl _) _).alloc (by simp) _).trans (q.alloc (by simp; omega) _)

/-- No factor. -/
theorem rFactor_no (due grace : Int) (lin : Bool) (A : Option Addr) (c : Nat) (l : List (Int × Int)) (t : Int) (w : World)
    (hs : StepsAt w w.heap.size A l) (hl : l.length ≤ 9223372036854775807) (hv : vldB due grace l = false ∨ tmB t = false) :
    Calls Try.prog 25 #[polV due grace lin A l.length c, .int .i64 t] w fun e w' => e = .returned (frV (0, 0)) ∧ Below w.heap.size w w' := by
  have HS := Lib.hid ((hs.alloc (polObj due grace lin A l.length c)).alloc (.cells #[.int .i64 0, .int .i64 0] 27))
  by_cases h : vldB due grace l = true
  · have h' : tmB t = false := by rcases hv with e | e
                                  · rw [h] at e; cases e
                                  · exact e
    clear hv
    go_enter Try.func25, Try.ntmps25
    go_wp2_with fail
    refine (rValid_any _ _ _ _ _ _ _ HS.out (by omega)).mono ?_
    rintro e w1 ⟨rfl, hb1⟩
    obtain ⟨hc1, hf1⟩ := bboth hb1
    have hz1 := hb1.size
    simp only [World.size_alloc] at hc1 hz1 hf1
    have g2 : w.heap.size + 1 < w1.heap.size := by omega
    have k0 : w1.cell? ⟨w.heap.size + 1, 0, none⟩ = some (.int .i64 0) := by rw [hc1 _ _ (by omega)]; simp [go_sem]
    have k1 : w1.cell? ⟨w.heap.size + 1, 1, none⟩ = some (.int .i64 0) := by rw [hc1 _ _ (by omega)]; simp [go_sem]
    have f0 : w1.frozen? ⟨w.heap.size + 1, 0, none⟩ = false := by rw [hf1 _ _ (by omega)]; simp [go_sem]
    have f1 : w1.frozen? ⟨w.heap.size + 1, 1, none⟩ = false := by rw [hf1 _ _ (by omega)]; simp [go_sem]
    have HB := Lib.hid hb1
    clear hc1 hf1 hb1
    go_wp2_with fail
    refine (rtime_any _ _).mono ?_
    rintro e w1' ⟨rfl, rfl⟩
    go_wp2_with fail
    have k := two_set (w := w1) (b := w.heap.size + 1) (u0 := .int .i64 0) (u1 := .int .i64 0) (.int .i64 0) (.int .i64 0) k0 k1
    refine bodyPost_ret (v := .agg #[.int .i64 0, .int .i64 0]) (by simp [results, Try.results25, go_sem, k.1, k.2]) rfl ⟨rfl, ?_⟩
    have q := (((HB.out).mono (B' := w.heap.size) (by simp; omega)).setCell (p := ⟨w.heap.size + 1, 0, none⟩) (by dsimp only; omega) (.int .i64 0)).setCell (p := ⟨w.heap.size + 1, 1, none⟩) (by dsimp only; omega) (.int .i64 0)
    exact (((Below.refl _ w).alloc (Nat.le_refl _) _).alloc (by simp) _).trans q
  · rw [Bool.not_eq_true] at h
    clear hv
    go_enter Try.func25, Try.ntmps25
    go_wp2_with fail
    refine (rValid_any _ _ _ _ _ _ _ HS.out (by omega)).mono ?_
    rintro e w1 ⟨rfl, hb1⟩
    obtain ⟨hc1, hf1⟩ := bboth hb1
    have hz1 := hb1.size
    simp only [World.size_alloc] at hc1 hz1 hf1
    have g2 : w.heap.size + 1 < w1.heap.size := by omega
    have k0 : w1.cell? ⟨w.heap.size + 1, 0, none⟩ = some (.int .i64 0) := by rw [hc1 _ _ (by omega)]; simp [go_sem]
    have k1 : w1.cell? ⟨w.heap.size + 1, 1, none⟩ = some (.int .i64 0) := by rw [hc1 _ _ (by omega)]; simp [go_sem]
    have f0 : w1.frozen? ⟨w.heap.size + 1, 0, none⟩ = false := by rw [hf1 _ _ (by omega)]; simp [go_sem]
    have f1 : w1.frozen? ⟨w.heap.size + 1, 1, none⟩ = false := by rw [hf1 _ _ (by omega)]; simp [go_sem]
    have HB := Lib.hid hb1
    clear hc1 hf1 hb1
    go_wp2_with fail
    have k := two_set (w := w1) (b := w.heap.size + 1) (u0 := .int .i64 0) (u1 := .int .i64 0) (.int .i64 0) (.int .i64 0) k0 k1
    refine bodyPost_ret (v := .agg #[.int .i64 0, .int .i64 0]) (by simp [results, Try.results25, go_sem, k.1, k.2]) rfl ⟨rfl, ?_⟩
    have q := (((HB.out).mono (B' := w.heap.size) (by simp; omega)).setCell (p := ⟨w.heap.size + 1, 0, none⟩) (by dsimp only; omega) (.int .i64 0)).setCell (p := ⟨w.heap.size + 1, 1, none⟩) (by dsimp only; omega) (.int .i64 0)
    exact (((Below.refl _ w).alloc (Nat.le_refl _) _).alloc (by simp) _).trans q

theorem rFactor_any (due grace : Int) (lin : Bool) (A : Option Addr) (c : Nat) (l : List (Int × Int)) (t : Int) (w : World)
    (hs : StepsAt w w.heap.size A l) (hl : l.length ≤ 9223372036854775807) :
    Calls Try.prog 25 #[.agg #[.int .i64 due, .int .i64 grace, .bool lin, .slice A l.length c], .int .i64 t] w fun e w' => e = .returned (.agg #[.int .i64 (facF due grace lin l t).1, .int .i64 (facF due grace lin l t).2]) ∧ Below w.heap.size w w' := by
  by_cases h : vldB due grace l = true ∧ tmB t = true
  · rw [facF, if_pos h]
    exact rFactor_yes due grace lin A c l t w hs h.1 ((tmB_iff t).1 h.2).1 ((tmB_iff t).1 h.2).2
  · rw [facF, if_neg h]
    refine rFactor_no due grace lin A c l t w hs hl ?_
    by_cases hv : vldB due grace l = true
    · exact .inr (by rw [← Bool.not_eq_true]; exact fun ht => h ⟨hv, ht⟩)
    · exact .inl (by rw [← Bool.not_eq_true]; exact hv)

theorem en_eq (lin : Bool) (l : List (Int × Int)) (pct t : Int) : decide (100 * pct ≤ fac lin l t) = enB lin l pct t := rfl

set_option maxHeartbeats 1000000 in
theorem rUntil_some (due grace : Int) (lin : Bool) (A : Option Addr) (c : Nat) (l : List (Int × Int)) (pct : Int) (w : World)
    (hs : StepsAt w w.heap.size A l) (hv : vldB due grace l = true) (hp0 : 0 ≤ pct) (hp1 : pct ≤ 100) (hE : enB lin l pct 1099511627776 = false) :
    Calls Try.prog 24 #[.agg #[.int .i64 due, .int .i64 grace, .bool lin, .slice A l.length c], .int .i64 pct] w (UntilP lin l pct w) := by
  obtain ⟨_, hl, hok⟩ := vld_parts hv
  have gp0 : decide (pct < 0) = false := by simp; omega
  have gp1 : decide (100 < pct) = false := by simp; omega
  have HS := Lib.hid (hs.alloc (polObj due grace lin A l.length c))
  have HOK := Lib.hid hok
  have ez := en_zero (lin := lin) (l := l) hp1
  have EZ := Lib.hid ez
  have hfr := fun t (h : 0 ≤ t) => fac_rng (lin := lin) (t := t) hok h
  have HFR := Lib.hid hfr
  have HEn := Lib.hid hE
  clear hok hs ez hfr hE
  go_enter Try.func24, Try.ntmps24
  go_wp2_with fail
  refine (rValid_any _ _ _ _ _ _ _ HS.out (by omega)).mono ?_
  rintro e w1 ⟨rfl, hb1⟩
  have hz1 := hb1.size
  simp only [World.size_alloc] at hz1
  have hB1 := hb1.mono (B' := w.heap.size + 1) (by simp)
  have c0 : w1.cell? ⟨w.heap.size, 0, none⟩ = some (.int .i64 due) := by rw [bcell hB1 _ _ (by omega)]; simp [go_sem]
  have c1 : w1.cell? ⟨w.heap.size, 1, none⟩ = some (.int .i64 grace) := by rw [bcell hB1 _ _ (by omega)]; simp [go_sem]
  have c2 : w1.cell? ⟨w.heap.size, 2, none⟩ = some (.bool lin) := by rw [bcell hB1 _ _ (by omega)]; simp [go_sem]
  have c3 : w1.cell? ⟨w.heap.size, 3, none⟩ = some (.slice A l.length c) := by rw [bcell hB1 _ _ (by omega)]; simp [go_sem]
  have H0 : Hid (PS w1 w.heap.size due grace lin A l.length c w1) := ⟨⟨⟨c0, c1⟩, c2, c3⟩, Below.refl _ _⟩
  have HS1 := Lib.hid (HS.out.later hb1)
  have HB1 := Lib.hid (below_fin (hb1.mono (by simp)))
  have gz : w.heap.size ≤ w1.heap.size := by omega
  clear hb1 hB1
  obtain ⟨fm, hfm⟩ : ∃ fm, fac lin l 1099511627776 = fm := ⟨_, rfl⟩
  have HM : Hid (∀ X, Below w1.heap.size w1 X → Calls Try.prog 38 #[.agg #[.int .i64 due, .int .i64 grace, .bool lin, .slice A l.length c], .int .i64 1099511627776] X fun e w' => e = .returned (.int .i64 fm) ∧ Below X.heap.size X w') := Lib.hid fun X hX => by rw [← hfm]; exact rparts_any _ _ _ _ _ _ _ _ (HS1.out.later hX) hl HOK.out (by omega) (by omega)
  have hfm1 := HFR.out 1099511627776 (by omega)
  rw [hfm] at hfm1
  have hen : decide (100 * pct ≤ fm) = false := by rw [← hfm, en_eq]; exact HEn.out
  clear hfm
  go_wp2_with fail
  refine (HM.out _ (Below.refl _ _)).mono ?_
  rintro e w2 ⟨rfl, hb2⟩
  have HB2 := Lib.hid hb2
  clear hb2
  go_wp2_with fail
  go_loopw [6, 7] (fun lo hi wr => UntI lin l pct w1.heap.size w1 lo hi wr) (fun lo hi _ => (intOf hi - intOf lo).toNat)
  case atStart => exact ⟨0, 1099511627776, by omega, by omega, by omega, rfl, rfl, EZ.out, HEn.out, HB2.out⟩
  case round =>
    obtain ⟨a, b, ha, hab, hb, rfl, rfl, ea, eb, hB⟩ := hrel
    have HBr := Lib.hid hB
    have EA := Lib.hid ea
    have EB := Lib.hid eb
    obtain ⟨⟨⟨d0, d1⟩, d2, d3⟩, _⟩ := ps_of H0.out hB
    have hzr := hB.size
    have gwr : w.heap.size < wr.heap.size := by omega
    clear hB ea eb c0 c1 c2 c3
    by_cases hlt : 1 < b - a
    · obtain ⟨ft, hft⟩ : ∃ ft, fac lin l ((a + b) / 2) = ft := ⟨_, rfl⟩
      have HT : Hid (Calls Try.prog 38 #[.agg #[.int .i64 due, .int .i64 grace, .bool lin, .slice A l.length c], .int .i64 ((a + b) / 2)] wr fun e w' => e = .returned (.int .i64 ft) ∧ Below wr.heap.size wr w') := Lib.hid (by rw [← hft]; exact rparts_any _ _ _ _ _ _ _ _ (HS1.out.later HBr.out) hl HOK.out (by omega) (by omega))
      have hft1 := HFR.out ((a + b) / 2) (by omega)
      rw [hft] at hft1
      have hq : enB lin l pct ((a + b) / 2) = decide (100 * pct ≤ ft) := by rw [← hft, en_eq]
      have HQ := Lib.hid hq
      clear hft hq
      by_cases hm : 100 * pct ≤ ft
      · have hm' : decide (100 * pct ≤ ft) = true := by simpa using hm
        go_wp2_with fail
        refine HT.out.mono ?_
        rintro e w3 ⟨rfl, hb3⟩
        have HB3 := Lib.hid (HBr.out.trans (hb3.mono HBr.out.size))
        clear hb3
        go_wp2_with fail
        go_roundw
        case rel => exact ⟨(a + b) / 2, b, by omega, by omega, hb, rfl, rfl, by rw [HQ.out]; exact hm', EB.out, HB3.out⟩
        case measure => simp [intOf]; omega
      · have hm' : decide (100 * pct ≤ ft) = false := by simpa using hm
        go_wp2_with fail
        refine HT.out.mono ?_
        rintro e w3 ⟨rfl, hb3⟩
        have HB3 := Lib.hid (HBr.out.trans (hb3.mono HBr.out.size))
        clear hb3
        go_wp2_with fail
        go_roundw
        case rel => exact ⟨a, (a + b) / 2, ha, by omega, by omega, rfl, rfl, EA.out, by rw [HQ.out]; exact hm', HB3.out⟩
        case measure => simp [intOf]; omega
    · go_wp2_with fail
      go_ret2
      obtain rfl : b = a + 1 := by omega
      exact ⟨a, ha, by omega, EA.out, EB.out, rfl, HB1.out.trans (HBr.out.mono gz)⟩

set_option maxHeartbeats 1000000 in
theorem rUntil_none (due grace : Int) (lin : Bool) (A : Option Addr) (c : Nat) (l : List (Int × Int)) (pct : Int) (w : World)
    (hs : StepsAt w w.heap.size A l) (hl0 : l.length ≤ 9223372036854775807) (hE : vldB due grace l = true → pcB pct = true → enB lin l pct 1099511627776 = true) :
    Calls Try.prog 24 #[.agg #[.int .i64 due, .int .i64 grace, .bool lin, .slice A l.length c], .int .i64 pct] w fun e w' => e = .returned (.tuple #[.int .i64 0, .bool false]) ∧ Below w.heap.size w w' := by
  have HS := Lib.hid (hs.alloc (polObj due grace lin A l.length c))
  have HEn := Lib.hid hE
  clear hs hE
  go_enter Try.func24, Try.ntmps24
  go_wp2_with fail
  refine (rValid_any _ _ _ _ _ _ _ HS.out (by omega)).mono ?_
  rintro e w1 ⟨rfl, hb1⟩
  have hz1 := hb1.size
  simp only [World.size_alloc] at hz1
  have hB1 := hb1.mono (B' := w.heap.size + 1) (by simp)
  have c0 : w1.cell? ⟨w.heap.size, 0, none⟩ = some (.int .i64 due) := by rw [bcell hB1 _ _ (by omega)]; simp [go_sem]
  have c1 : w1.cell? ⟨w.heap.size, 1, none⟩ = some (.int .i64 grace) := by rw [bcell hB1 _ _ (by omega)]; simp [go_sem]
  have c2 : w1.cell? ⟨w.heap.size, 2, none⟩ = some (.bool lin) := by rw [bcell hB1 _ _ (by omega)]; simp [go_sem]
  have c3 : w1.cell? ⟨w.heap.size, 3, none⟩ = some (.slice A l.length c) := by rw [bcell hB1 _ _ (by omega)]; simp [go_sem]
  have HS1 := Lib.hid (HS.out.later hb1)
  have HB1 := Lib.hid (below_fin (hb1.mono (by simp)))
  have gz : w.heap.size ≤ w1.heap.size := by omega
  clear hb1 hB1
  by_cases hv : vldB due grace l = true
  · by_cases h1 : pct < 0
    · go_wp2_with fail
      go_ret2
      exact ⟨rfl, HB1.out⟩
    · have h1' : decide (pct < 0) = false := by simpa using h1
      by_cases h2 : 100 < pct
      · go_wp2_with fail
        go_ret2
        exact ⟨rfl, HB1.out⟩
      · have h2' : decide (100 < pct) = false := by simpa using h2
        obtain ⟨_, hl, hok⟩ := vld_parts hv
        obtain ⟨fm, hfm⟩ : ∃ fm, fac lin l 1099511627776 = fm := ⟨_, rfl⟩
        have HM : Hid (∀ X, Below w1.heap.size w1 X → Calls Try.prog 38 #[.agg #[.int .i64 due, .int .i64 grace, .bool lin, .slice A l.length c], .int .i64 1099511627776] X fun e w' => e = .returned (.int .i64 fm) ∧ Below X.heap.size X w') := Lib.hid fun X hX => by rw [← hfm]; exact rparts_any _ _ _ _ _ _ _ _ (HS1.out.later hX) hl hok (by omega) (by omega)
        have hfm1 := fac_rng (lin := lin) (t := 1099511627776) hok (by omega)
        rw [hfm] at hfm1
        have hen : decide (100 * pct ≤ fm) = true := by rw [← hfm, en_eq]; exact HEn.out hv ((pcB_iff pct).2 ⟨by omega, by omega⟩)
        clear hfm hok
        go_wp2_with fail
        refine (HM.out _ (Below.refl _ _)).mono ?_
        rintro e w2 ⟨rfl, hb2⟩
        have HB2 := Lib.hid (HB1.out.trans (hb2.mono gz))
        clear hb2
        go_wp2_with fail
        go_ret2
        exact ⟨rfl, HB2.out⟩
  · rw [Bool.not_eq_true] at hv
    go_wp2_with fail
    go_ret2
    exact ⟨rfl, HB1.out⟩

end Go.Proofs.Ytcppijoccolmkaa
