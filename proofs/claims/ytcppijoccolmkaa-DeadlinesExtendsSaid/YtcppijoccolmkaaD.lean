/-
  The contracts of the functions on fractions: Make, Compare.
-/
import Derived.Test.YtcppijoccolmkaaC
namespace Go.Proofs.Ytcppijoccolmkaa
open Go.RowKit

set_option maxHeartbeats 400000 in
theorem rreduce_ok (n d : Int) (w : World) (h0 : 0 ≤ n) (h1 : n ≤ 10000) (h2 : 1 ≤ d) (h3 : d ≤ 10000) :
    Calls Try.prog 34 #[.int .i64 n, .int .i64 d] w fun e w' => e = .returned (.tuple #[.agg #[.int .i64 (n / (Int.gcd n d : Nat)), .int .i64 (d / (Int.gcd n d : Nat))], .int .i64 0]) ∧ Below w.heap.size w w' := by
  have hd0 : decide (d < 0) = false := by simp; omega
  obtain ⟨g, hg⟩ : ∃ g, g = Int.gcd n d := ⟨_, rfl⟩
  have hp : 0 < Int.gcd n d := Int.gcd_pos_of_ne_zero_right _ (by omega)
  have hg1 : (1 : Int) ≤ (g : Int) := by omega
  have hg0 : ((g : Int) == 0) = false := by simp; omega
  have hdiv : ∀ w, Calls Try.prog 43 #[.int .i64 n, .int .i64 d] w fun e w' => e = .returned (.int .i64 (g : Nat)) ∧ ∃ n, w' = w.drewN n := fun w => by
    rw [hg]; exact rgcd_any _ _ _ (by omega) (by omega) (by omega) (by omega)
  have HD := Lib.hid hdiv
  have hF := frOk_div n d h0 h1 h2 h3
  rw [← hg] at hF ⊢
  have q0 := hF.n0
  have q1 := hF.n1
  have q2 := hF.d0
  have q3 := hF.d1
  have q4 : -1000000000 ≤ n / (g : Int) := by omega
  clear hdiv hg hp hF
  go_enter Try.func34, Try.ntmps34
  go_wp2_with (go_at_call 43; refine (HD.out _).mono ?_; rintro e w' ⟨rfl, m, rfl⟩)
  go_region
  all_goals
    go_wp2
    refine bodyPost_ret (v := .tuple #[.agg #[.int .i64 (n / (g : Int)), .int .i64 (d / (g : Int))], .int .i64 0]) (by simp [results, Try.results34, go_sem]) rfl ⟨rfl, ?_⟩
    exact ((((below_drewN ((Below.refl _ w).alloc (Nat.le_refl _) _) _).setCell (p := ⟨w.heap.size, 0, none⟩) (Nat.le_refl _) _).setCell (p := ⟨w.heap.size, 1, none⟩) (Nat.le_refl _) _).alloc (by simp) _)

set_option maxHeartbeats 400000 in
theorem Make1_any (a : Int) (w : World) (h0 : 0 ≤ a) (ha : a ≤ 1000000000000000) :
    Calls Try.prog 39 #[.int .i64 a] w fun e w' => e = .returned (.bool true) ∧ w = w' := by
  have h1 : -1000000000000000 ≤ a := by omega
  go_enter Try.func39, Try.ntmps39
  go_wp2
  go_ret
  exact ⟨rfl, rfl⟩

set_option maxHeartbeats 400000 in
theorem Make_ok (n d : Int) (w : World) (h0 : 0 ≤ n) (h1 : n ≤ 10000) (h2 : 1 ≤ d) (h3 : d ≤ 10000) :
    Calls Try.prog 30 #[.int .i64 n, .int .i64 d] w fun e w' => e = .returned (.tuple #[.agg #[.int .i64 (n / (Int.gcd n d : Nat)), .int .i64 (d / (Int.gcd n d : Nat))], .int .i64 0]) ∧ Below w.heap.size w w' := by
  have hd0 : (d == 0) = false := by simp; omega
  have hr := fun w => reduced_ok n d w h0 h1 h2 h3
  generalize n / (Int.gcd n d : Nat) = x at *
  generalize d / (Int.gcd n d : Nat) = y at *
  have HR := Lib.hid hr
  clear hr
  go_enter Try.func30, Try.ntmps30
  go_wp2_with (first | (go_at_call 39; refine (Make1_any _ _ (by omega) (by omega)).mono ?_; rintro e w' ⟨rfl, rfl⟩) | (go_at_call 40; refine (HR.out _).mono ?_; rintro e w' ⟨rfl, hb⟩; obtain ⟨hc, hf⟩ := bboth hb))
  have k := two_set (w := w') (b := w.heap.size) (u0 := .int .i64 0) (u1 := .int .i64 0) (.int .i64 x) (.int .i64 y) (by rw [hc _ _ (by simp)]; simp [go_sem]) (by rw [hc _ _ (by simp)]; simp [go_sem])
  refine bodyPost_ret (v := .tuple #[.agg #[.int .i64 x, .int .i64 y], .int .i64 0]) (by simp [results, Try.results30, go_sem, k.1, k.2]) rfl ⟨rfl, ?_⟩
  have hb' := hb.mono (B' := w.heap.size) (by simp)
  exact ((((Below.refl _ w).alloc (Nat.le_refl _) _).trans hb').setCell (Nat.le_refl _) _).setCell (Nat.le_refl _) _

set_option maxHeartbeats 400000 in
theorem rMake_ok (n d : Int) (w : World) (h0 : 0 ≤ n) (h1 : n ≤ 10000) (h2 : 1 ≤ d) (h3 : d ≤ 10000) :
    Calls Try.prog 14 #[.int .i64 n, .int .i64 d] w fun e w' => e = .returned (.tuple #[.agg #[.int .i64 (n / (Int.gcd n d : Nat)), .int .i64 (d / (Int.gcd n d : Nat))], .int .i64 0]) ∧ Below w.heap.size w w' := by
  have hd0 : (d == 0) = false := by simp; omega
  have g1 : -1000000000000000 ≤ n := by omega
  have g2 : -1000000000000000 ≤ d := by omega
  have g3 : n ≤ 1000000000000000 := by omega
  have g4 : d ≤ 1000000000000000 := by omega
  have hr := fun w => rreduce_ok n d w h0 h1 h2 h3
  generalize n / (Int.gcd n d : Nat) = x at *
  generalize d / (Int.gcd n d : Nat) = y at *
  have HR := Lib.hid hr
  clear hr
  go_enter Try.func14, Try.ntmps14
  go_wp2_with (go_at_call 34; refine (HR.out _).mono ?_; rintro e w' ⟨rfl, hb⟩; obtain ⟨hc, hf⟩ := bboth hb)
  have k := two_set (w := w') (b := w.heap.size) (u0 := .int .i64 0) (u1 := .int .i64 0) (.int .i64 x) (.int .i64 y) (by rw [hc _ _ (by simp)]; simp [go_sem]) (by rw [hc _ _ (by simp)]; simp [go_sem])
  refine bodyPost_ret (v := .tuple #[.agg #[.int .i64 x, .int .i64 y], .int .i64 0]) (by simp [results, Try.results14, go_sem, k.1, k.2]) rfl ⟨rfl, ?_⟩
  have hb' := hb.mono (B' := w.heap.size) (by simp)
  exact ((((Below.refl _ w).alloc (Nat.le_refl _) _).trans hb').setCell (Nat.le_refl _) _).setCell (Nat.le_refl _) _

def cmpI (x y : Int) : Int := if x < y then -1 else if y < x then 1 else 0

theorem mul_bd (a b : Int) (h0 : 0 ≤ a) (h1 : a ≤ 1000000000) (h2 : 1 ≤ b) (h3 : b ≤ 1000000) : 0 ≤ a * b ∧ a * b ≤ 1000000000000000 :=
  ⟨Int.mul_nonneg h0 (by omega), by have := Int.mul_le_mul h1 h3 (by omega) (by omega); omega⟩

set_option maxHeartbeats 1000000 in
theorem Compare_ok (a b c d : Int) (w : World) (h : FrOk a b) (h' : FrOk c d) :
    Calls Try.prog 13 #[.agg #[.int .i64 a, .int .i64 b], .agg #[.int .i64 c, .int .i64 d]] w fun e w' => e = .returned (.tuple #[.int .i64 (cmpI (a * d) (c * b)), .bool true]) ∧ Below w.heap.size w w' := by
  obtain ⟨m0, m1⟩ := mul_bd a d h.n0 h.n1 h'.d0 h'.d1
  obtain ⟨m2, m3⟩ := mul_bd c b h'.n0 h'.n1 h.d0 h.d1
  have H := Lib.hid h
  have H' := Lib.hid h'
  clear h h'
  rcases Int.lt_trichotomy (a * d) (c * b) with hl | hl | hl
  · have e : cmpI (a * d) (c * b) = -1 := by unfold cmpI; rw [if_pos hl]
    rw [e]; clear e
    go_enter Try.func13, Try.ntmps13
    go_wp2_with fail
    refine (rValid_ok _ _ _ H.out).mono ?_
    rintro e w1 ⟨rfl, hb1⟩
    obtain ⟨hc1, hf1⟩ := bboth hb1
    have hz1 := hb1.size
    simp only [World.size_alloc] at hz1 hc1
    have g1 : w.heap.size < w1.heap.size := by omega
    have g2 : w.heap.size + 1 < w1.heap.size := by omega
    have g3 : w.heap.size < w.heap.size + 1 + 1 := by omega
    clear hf1
    go_wp2_with fail
    refine (rValid_ok _ _ _ H'.out).mono ?_
    rintro e w2 ⟨rfl, hb2⟩
    obtain ⟨hc2, hf2⟩ := bboth hb2
    have hz2 := hb2.size
    clear hf2
    go_wp2_with fail
    go_quiet (fail)
    go_wp2
    go_ret2
    exact ⟨rfl, below_drewN ((((Below.refl _ w).alloc (Nat.le_refl _) _).alloc (by simp) _).trans ((hb1.mono (by simp; omega)).trans (hb2.mono (by omega)))) _⟩
  · have e : cmpI (a * d) (c * b) = 0 := by unfold cmpI; rw [if_neg (by omega), if_neg (by omega)]
    rw [e]; clear e
    have hl1 : decide (a * d < c * b) = false := by simp; omega
    have hl2 : decide (c * b < a * d) = false := by simp; omega
    clear hl
    go_enter Try.func13, Try.ntmps13
    go_wp2_with fail
    refine (rValid_ok _ _ _ H.out).mono ?_
    rintro e w1 ⟨rfl, hb1⟩
    obtain ⟨hc1, hf1⟩ := bboth hb1
    have hz1 := hb1.size
    simp only [World.size_alloc] at hz1 hc1
    have g1 : w.heap.size < w1.heap.size := by omega
    have g2 : w.heap.size + 1 < w1.heap.size := by omega
    have g3 : w.heap.size < w.heap.size + 1 + 1 := by omega
    clear hf1
    go_wp2_with fail
    refine (rValid_ok _ _ _ H'.out).mono ?_
    rintro e w2 ⟨rfl, hb2⟩
    obtain ⟨hc2, hf2⟩ := bboth hb2
    have hz2 := hb2.size
    clear hf2
    go_wp2_with fail
    go_quiet (fail)
    go_wp2
    go_ret2
    exact ⟨rfl, below_drewN ((((Below.refl _ w).alloc (Nat.le_refl _) _).alloc (by simp) _).trans ((hb1.mono (by simp; omega)).trans (hb2.mono (by omega)))) _⟩
  · have e : cmpI (a * d) (c * b) = 1 := by unfold cmpI; rw [if_neg (by omega), if_pos hl]
    rw [e]; clear e
    go_enter Try.func13, Try.ntmps13
    go_wp2_with fail
    refine (rValid_ok _ _ _ H.out).mono ?_
    rintro e w1 ⟨rfl, hb1⟩
    obtain ⟨hc1, hf1⟩ := bboth hb1
    have hz1 := hb1.size
    simp only [World.size_alloc] at hz1 hc1
    have g1 : w.heap.size < w1.heap.size := by omega
    have g2 : w.heap.size + 1 < w1.heap.size := by omega
    have g3 : w.heap.size < w.heap.size + 1 + 1 := by omega
    clear hf1
    go_wp2_with fail
    refine (rValid_ok _ _ _ H'.out).mono ?_
    rintro e w2 ⟨rfl, hb2⟩
    obtain ⟨hc2, hf2⟩ := bboth hb2
    have hz2 := hb2.size
    clear hf2
    go_wp2_with fail
    go_quiet (fail)
    go_wp2
    go_ret2
    exact ⟨rfl, below_drewN ((((Below.refl _ w).alloc (Nat.le_refl _) _).alloc (by simp) _).trans ((hb1.mono (by simp; omega)).trans (hb2.mono (by omega)))) _⟩

end Go.Proofs.Ytcppijoccolmkaa
