/-
  The contracts of deadlines.Factor and deadlines.Late.
-/
import Derived.Test.YtcppijoccolmkaaH
namespace Go.Proofs.Ytcppijoccolmkaa
open Go.RowKit

/-- A fraction in lowest terms. -/
def fr (n d : Int) : Int × Int := (n / (Int.gcd n d : Nat), d / (Int.gcd n d : Nat))
abbrev frV (x : Int × Int) : Value := .agg #[.int .i64 x.1, .int .i64 x.2]
abbrev polV (due grace : Int) (lin : Bool) (A : Option Addr) (n c : Nat) : Value := .agg #[.int .i64 due, .int .i64 grace, .bool lin, .slice A n c]

theorem vld_parts {due grace : Int} {l : List (Int × Int)} (h : vldB due grace l = true) : ((0 ≤ due ∧ due ≤ 1099511627776) ∧ (0 ≤ grace ∧ grace ≤ 1099511627776)) ∧ l.length ≤ 16 ∧ okTo l l.length = true := by
  simp only [vldB, Bool.and_eq_true, decide_eq_true_eq] at h
  exact ⟨⟨(tmB_iff _).1 h.1.1.1, (tmB_iff _).1 h.1.1.2⟩, h.1.2, h.2⟩

theorem StepsAt.alloc {w : World} {A : Option Addr} {l : List (Int × Int)} (h : StepsAt w w.heap.size A l) (o : Obj) : StepsAt (w.alloc o) (w.alloc o).heap.size A l :=
  (h.below ((Below.refl _ w).alloc (Nat.le_refl _) _)).more (by simp)
theorem StepsAt.later {w w' : World} {A : Option Addr} {l : List (Int × Int)} (h : StepsAt w w.heap.size A l) (hb : Below w.heap.size w w') : StepsAt w' w'.heap.size A l :=
  (h.below hb).more hb.size

theorem Make_fr (n : Int) (w : World) (h0 : 0 ≤ n) (h1 : n ≤ 10000) :
    Calls Try.prog 30 #[.int .i64 n, .int .i64 10000] w fun e w' => e = .returned (.tuple #[frV (fr n 10000), .int .i64 0]) ∧ Below w.heap.size w w' :=
  Make_ok n 10000 w h0 h1 (by omega) (by omega)

set_option maxHeartbeats 400000 in
theorem Factor_yes (due grace : Int) (lin : Bool) (A : Option Addr) (c : Nat) (l : List (Int × Int)) (t : Int) (w : World)
    (hs : StepsAt w w.heap.size A l) (hv : vldB due grace l = true) (ht0 : 0 ≤ t) (ht1 : t ≤ 1099511627776) :
    Calls Try.prog 11 #[polV due grace lin A l.length c, .int .i64 t] w fun e w' => e = .returned (frV (fr (fac lin l t) 10000)) ∧ Below w.heap.size w w' := by
  obtain ⟨_, hl, hok⟩ := vld_parts hv
  obtain ⟨r0, r1⟩ := fac_rng (lin := lin) (t := t) hok ht0
  have htm : tmB t = true := (tmB_iff t).2 ⟨ht0, ht1⟩
  obtain ⟨x, hx⟩ : ∃ x, x = fr (fac lin l t) 10000 := ⟨_, rfl⟩
  have hmk : ∀ w, Calls Try.prog 30 #[.int .i64 (fac lin l t), .int .i64 10000] w fun e w' => e = .returned (.tuple #[frV x, .int .i64 0]) ∧ Below w.heap.size w w' := fun w => by
    rw [hx]; exact Make_fr _ w r0 r1
  rw [← hx]
  have HM := Lib.hid hmk
  have HOK := Lib.hid hok
  have HS := Lib.hid ((hs.alloc (polObj due grace lin A l.length c)).alloc (.cells #[.int .i64 0, .int .i64 0] 27))
  clear hx hmk hok
  obtain ⟨x1, x2⟩ := x
  go_enter Try.func11, Try.ntmps11
  go_wp2_with fail
  refine (Valid_any _ _ _ _ _ _ _ HS.out (by omega)).mono ?_
  rintro e w1 ⟨rfl, hb1⟩
  have HS1 := Lib.hid (HS.out.later hb1)
  have hc1 := bcell hb1
  have hz1 := hb1.size
  simp only [World.size_alloc] at hc1 hz1
  have g1 : w.heap.size < w1.heap.size := by omega
  have g2 : w.heap.size + 1 < w1.heap.size := by omega
  have g3 : w.heap.size < w.heap.size + 1 + 1 := by omega
  go_wp2_with fail
  refine (isTime_any _ _).mono ?_
  rintro e w1' ⟨rfl, rfl⟩
  go_wp2_with fail
  refine (factor_any _ _ _ _ _ _ _ _ HS1.out hl HOK.out ht0 ht1).mono ?_
  rintro e w2 ⟨rfl, hb2⟩
  have hz2 := hb2.size
  go_wp2_with fail
  refine (HM.out _).mono ?_
  rintro e w3 ⟨rfl, hb3⟩
  have hz3 := hb3.size
  have hB2 : Below (w.heap.size + 1 + 1) ((w.alloc (polObj due grace lin A l.length c)).alloc (.cells #[.int .i64 0, .int .i64 0] 27)) w3 := by
    have h1 := hb1.mono (B' := w.heap.size + 1 + 1) (by simp)
    exact h1.trans ((hb2.mono (by omega)).trans (hb3.mono (by omega)))
  obtain ⟨hc3, hf3⟩ := bboth hB2
  have k0 : w3.cell? ⟨w.heap.size + 1, 0, none⟩ = some (.int .i64 0) := by rw [hc3 _ _ (by omega)]; simp [go_sem]
  have k1 : w3.cell? ⟨w.heap.size + 1, 1, none⟩ = some (.int .i64 0) := by rw [hc3 _ _ (by omega)]; simp [go_sem]
  have f0 : w3.frozen? ⟨w.heap.size + 1, 0, none⟩ = false := by rw [hf3 _ _ (by omega)]; simp [go_sem]
  have f1 : w3.frozen? ⟨w.heap.size + 1, 1, none⟩ = false := by rw [hf3 _ _ (by omega)]; simp [go_sem]
  have g4 : w.heap.size + 1 < w3.heap.size := by omega
  have HB := Lib.hid hB2
  clear hc1 hc3 hf3 hb1 hb2 hb3 hB2 hs
  go_wp2_with fail
  have k := two_set (w := w3) (b := w.heap.size + 1) (u0 := .int .i64 0) (u1 := .int .i64 0) (.int .i64 x1) (.int .i64 x2) k0 k1
  refine bodyPost_ret (v := .agg #[.int .i64 x1, .int .i64 x2]) (by simp [results, Try.results11, go_sem, k.1, k.2, g4]) rfl ⟨rfl, ?_⟩
  have q := (((HB.out).mono (B' := w.heap.size) (by omega)).setCell (p := ⟨w.heap.size + 1, 0, none⟩) (by dsimp only; omega) (.int .i64 x1)).setCell (p := ⟨w.heap.size + 1, 1, none⟩) (by dsimp only; omega) (.int .i64 x2)
  exact (((Below.refl _ w).alloc (Nat.le_refl _) _).alloc (by simp) _).trans (q.alloc (by simp; omega) _)

/-- No factor. -/
theorem Factor_no (due grace : Int) (lin : Bool) (A : Option Addr) (c : Nat) (l : List (Int × Int)) (t : Int) (w : World)
    (hs : StepsAt w w.heap.size A l) (hl : l.length ≤ 9223372036854775807) (hv : vldB due grace l = false ∨ tmB t = false) :
    Calls Try.prog 11 #[polV due grace lin A l.length c, .int .i64 t] w fun e w' => e = .returned (frV (0, 0)) ∧ Below w.heap.size w w' := by
  have HS := Lib.hid ((hs.alloc (polObj due grace lin A l.length c)).alloc (.cells #[.int .i64 0, .int .i64 0] 27))
  by_cases h : vldB due grace l = true
  · have h' : tmB t = false := by rcases hv with e | e
                                  · rw [h] at e; cases e
                                  · exact e
    clear hv
    go_enter Try.func11, Try.ntmps11
    go_wp2_with fail
    refine (Valid_any _ _ _ _ _ _ _ HS.out (by omega)).mono ?_
    rintro e w1 ⟨rfl, hb1⟩
    obtain ⟨hc1, hf1⟩ := bboth hb1
    have hz1 := hb1.size
    simp only [World.size_alloc] at hc1 hz1 hf1
    have g2 : w.heap.size + 1 < w1.heap.size := by omega
    have k0 : w1.cell? ⟨w.heap.size + 1, 0, none⟩ = some (.int .i64 0) := by rw [hc1 _ _ (by omega)]; simp [go_sem]
    have k1 : w1.cell? ⟨w.heap.size + 1, 1, none⟩ = some (.int .i64 0) := by rw [hc1 _ _ (by omega)]; simp [go_sem]
    have f0 : w1.frozen? ⟨w.heap.size + 1, 0, none⟩ = false := by rw [hf1 _ _ (by omega)]; simp [go_sem]
    have f1 : w1.frozen? ⟨w.heap.size + 1, 1, none⟩ = false := by rw [hf1 _ _ (by omega)]; simp [go_sem]
    have HB := Lib.hid hb1
    clear hc1 hf1 hb1
    go_wp2_with fail
    refine (isTime_any _ _).mono ?_
    rintro e w1' ⟨rfl, rfl⟩
    go_wp2_with fail
    have k := two_set (w := w1) (b := w.heap.size + 1) (u0 := .int .i64 0) (u1 := .int .i64 0) (.int .i64 0) (.int .i64 0) k0 k1
    refine bodyPost_ret (v := .agg #[.int .i64 0, .int .i64 0]) (by simp [results, Try.results11, go_sem, k.1, k.2]) rfl ⟨rfl, ?_⟩
    have q := (((HB.out).mono (B' := w.heap.size) (by simp; omega)).setCell (p := ⟨w.heap.size + 1, 0, none⟩) (by dsimp only; omega) (.int .i64 0)).setCell (p := ⟨w.heap.size + 1, 1, none⟩) (by dsimp only; omega) (.int .i64 0)
    exact (((Below.refl _ w).alloc (Nat.le_refl _) _).alloc (by simp) _).trans q
  · rw [Bool.not_eq_true] at h
    clear hv
    go_enter Try.func11, Try.ntmps11
    go_wp2_with fail
    refine (Valid_any _ _ _ _ _ _ _ HS.out (by omega)).mono ?_
    rintro e w1 ⟨rfl, hb1⟩
    obtain ⟨hc1, hf1⟩ := bboth hb1
    have hz1 := hb1.size
    simp only [World.size_alloc] at hc1 hz1 hf1
    have g2 : w.heap.size + 1 < w1.heap.size := by omega
    have k0 : w1.cell? ⟨w.heap.size + 1, 0, none⟩ = some (.int .i64 0) := by rw [hc1 _ _ (by omega)]; simp [go_sem]
    have k1 : w1.cell? ⟨w.heap.size + 1, 1, none⟩ = some (.int .i64 0) := by rw [hc1 _ _ (by omega)]; simp [go_sem]
    have f0 : w1.frozen? ⟨w.heap.size + 1, 0, none⟩ = false := by rw [hf1 _ _ (by omega)]; simp [go_sem]
    have f1 : w1.frozen? ⟨w.heap.size + 1, 1, none⟩ = false := by rw [hf1 _ _ (by omega)]; simp [go_sem]
    have HB := Lib.hid hb1
    clear hc1 hf1 hb1
    go_wp2_with fail
    have k := two_set (w := w1) (b := w.heap.size + 1) (u0 := .int .i64 0) (u1 := .int .i64 0) (.int .i64 0) (.int .i64 0) k0 k1
    refine bodyPost_ret (v := .agg #[.int .i64 0, .int .i64 0]) (by simp [results, Try.results11, go_sem, k.1, k.2]) rfl ⟨rfl, ?_⟩
    have q := (((HB.out).mono (B' := w.heap.size) (by simp; omega)).setCell (p := ⟨w.heap.size + 1, 0, none⟩) (by dsimp only; omega) (.int .i64 0)).setCell (p := ⟨w.heap.size + 1, 1, none⟩) (by dsimp only; omega) (.int .i64 0)
    exact (((Below.refl _ w).alloc (Nat.le_refl _) _).alloc (by simp) _).trans q

/-- The lateness. -/
def lateI (due grace : Int) (l : List (Int × Int)) (d t : Int) : Int := if vldB due grace l = true ∧ tmB d = true ∧ tmB t = true then (if grace < t - d then t - d else 0) else -1

set_option maxHeartbeats 400000 in
theorem Late_any (due grace : Int) (lin : Bool) (A : Option Addr) (c : Nat) (l : List (Int × Int)) (d t : Int) (w : World)
    (hs : StepsAt w w.heap.size A l) (hl : l.length ≤ 9223372036854775807) :
    Calls Try.prog 19 #[polV due grace lin A l.length c, .int .i64 d, .int .i64 t] w fun e w' => e = .returned (.int .i64 (lateI due grace l d t)) ∧ Below w.heap.size w w' := by
  have HS := Lib.hid (hs.alloc (polObj due grace lin A l.length c))
  by_cases hv : vldB due grace l = true
  · by_cases hd : tmB d = true
    · by_cases ht : tmB t = true
      · obtain ⟨d0, d1⟩ := (tmB_iff d).1 hd
        obtain ⟨t0, t1⟩ := (tmB_iff t).1 ht
        by_cases hg : grace < t - d
        · have e : lateI due grace l d t = t - d := by rw [lateI, if_pos ⟨hv, hd, ht⟩, if_pos hg]
          rw [e]
          clear e
          go_enter Try.func19, Try.ntmps19
          go_wp2_with fail
          refine (Valid_any _ _ _ _ _ _ _ HS.out (by omega)).mono ?_
          rintro e w1 ⟨rfl, hb1⟩
          have k1 : w1.cell? ⟨w.heap.size, 1, none⟩ = some (.int .i64 grace) := by rw [bcell hb1 _ _ (by simp)]; simp [go_sem]
          have HB := Lib.hid hb1
          clear hb1
          go_wp2_with (go_at_call 29; refine (isTime_any _ _).mono ?_; rintro e w' ⟨rfl, rfl⟩)
          go_ret
          exact ⟨rfl, below_fin (HB.out.mono (by simp))⟩
        · have e : lateI due grace l d t = 0 := by rw [lateI, if_pos ⟨hv, hd, ht⟩, if_neg hg]
          rw [e]
          clear e
          go_enter Try.func19, Try.ntmps19
          go_wp2_with fail
          refine (Valid_any _ _ _ _ _ _ _ HS.out (by omega)).mono ?_
          rintro e w1 ⟨rfl, hb1⟩
          have k1 : w1.cell? ⟨w.heap.size, 1, none⟩ = some (.int .i64 grace) := by rw [bcell hb1 _ _ (by simp)]; simp [go_sem]
          have HB := Lib.hid hb1
          clear hb1
          go_wp2_with (go_at_call 29; refine (isTime_any _ _).mono ?_; rintro e w' ⟨rfl, rfl⟩)
          go_ret
          exact ⟨rfl, below_fin (HB.out.mono (by simp))⟩
      · have e : lateI due grace l d t = -1 := by rw [lateI, if_neg (fun h => ht h.2.2)]
        rw [Bool.not_eq_true] at ht
        rw [e]
        clear e
        go_enter Try.func19, Try.ntmps19
        go_wp2_with fail
        refine (Valid_any _ _ _ _ _ _ _ HS.out (by omega)).mono ?_
        rintro e w1 ⟨rfl, hb1⟩
        have HB := Lib.hid hb1
        clear hb1
        go_wp2_with (go_at_call 29; refine (isTime_any _ _).mono ?_; rintro e w' ⟨rfl, rfl⟩)
        go_ret
        exact ⟨rfl, below_fin (HB.out.mono (by simp))⟩
    · have e : lateI due grace l d t = -1 := by rw [lateI, if_neg (fun h => hd h.2.1)]
      rw [Bool.not_eq_true] at hd
      rw [e]
      clear e
      go_enter Try.func19, Try.ntmps19
      go_wp2_with fail
      refine (Valid_any _ _ _ _ _ _ _ HS.out (by omega)).mono ?_
      rintro e w1 ⟨rfl, hb1⟩
      have HB := Lib.hid hb1
      clear hb1
      go_wp2_with (go_at_call 29; refine (isTime_any _ _).mono ?_; rintro e w' ⟨rfl, rfl⟩)
      go_ret
      exact ⟨rfl, below_fin (HB.out.mono (by simp))⟩
  · have e : lateI due grace l d t = -1 := by rw [lateI, if_neg (fun h => hv h.1)]
    rw [Bool.not_eq_true] at hv
    rw [e]
    clear e
    go_enter Try.func19, Try.ntmps19
    go_wp2_with fail
    refine (Valid_any _ _ _ _ _ _ _ HS.out (by omega)).mono ?_
    rintro e w1 ⟨rfl, hb1⟩
    have HB := Lib.hid hb1
    clear hb1
    go_wp2_with (go_at_call 29; refine (isTime_any _ _).mono ?_; rintro e w' ⟨rfl, rfl⟩)
    go_ret
    exact ⟨rfl, below_fin (HB.out.mono (by simp))⟩

end Go.Proofs.Ytcppijoccolmkaa
