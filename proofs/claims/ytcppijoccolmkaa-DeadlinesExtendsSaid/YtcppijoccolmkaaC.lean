/-
  The contracts of the functions on fractions.
-/
import Derived.Test.YtcppijoccolmkaaB
import Derived.RegionTactic
namespace Go.Proofs.Ytcppijoccolmkaa
open Go.RowKit

theorem gcd_step (x y : Nat) : Nat.gcd y (x % y) = Nat.gcd x y := by
  rw [Nat.gcd_comm x y, Nat.gcd_rec y x, Nat.gcd_comm]

set_option maxHeartbeats 400000 in
theorem divisor_nat (a b : Nat) (w : World) (ha : a ≤ 1000000000000000) (hb : b ≤ 1000000000000000) :
    Calls Try.prog 45 #[.int .i64 a, .int .i64 b] w fun e w' => e = .returned (.int .i64 (Nat.gcd a b : Nat)) ∧ ∃ n, w' = w.drewN n := by
  go_enter Try.func45, Try.ntmps45
  go_wp2
  go_loopw [0, 1] (fun s t wr => ∃ x y n : Nat, x ≤ 1000000000000000 ∧ y ≤ 1000000000000000 ∧ s = .int .i64 x ∧ t = .int .i64 y ∧ Nat.gcd x y = Nat.gcd a b ∧ wr = w.drewN n) (fun _ t _ => (intOf t).toNat)
  case atStart => exact ⟨a, b, 0, ha, hb, rfl, rfl, rfl, rfl⟩
  case round =>
    obtain ⟨x, y, n, hx, hy, rfl, rfl, hg, rfl⟩ := hrel
    have HG := Lib.hid hg
    clear hg
    by_cases hlt : 0 < y
    · have hne : ((y : Int) == 0) = false := by simp; omega
      go_wp2
      go_quiet (fail)
      go_wp2
      go_roundw
      case rel => exact ⟨y, x % y, _, hy, by have := Nat.mod_lt x hlt; omega, rfl, by go_num, by rw [gcd_step x y]; exact HG.out, World.drewN_drewN _ _ _⟩
      case measure => simp [intOf]; have := Nat.mod_lt x hlt; omega
    · obtain rfl : y = 0 := by omega
      go_wp2
      go_ret
      exact ⟨ret_int (by rw [← HG.out, Nat.gcd_zero_right]), n, rfl⟩

theorem divisor_any (a b : Int) (w : World) (h0 : 0 ≤ a) (ha : a ≤ 1000000000000000) (h1 : 0 ≤ b) (hb : b ≤ 1000000000000000) :
    Calls Try.prog 45 #[.int .i64 a, .int .i64 b] w fun e w' => e = .returned (.int .i64 (Int.gcd a b : Nat)) ∧ ∃ n, w' = w.drewN n := by
  obtain ⟨n, rfl⟩ := Int.eq_ofNat_of_zero_le h0
  obtain ⟨m, rfl⟩ := Int.eq_ofNat_of_zero_le h1
  exact divisor_nat n m w (by omega) (by omega)

set_option maxHeartbeats 400000 in
theorem rgcd_nat (a b : Nat) (w : World) (ha : a ≤ 1000000000000000) (hb : b ≤ 1000000000000000) :
    Calls Try.prog 43 #[.int .i64 a, .int .i64 b] w fun e w' => e = .returned (.int .i64 (Nat.gcd a b : Nat)) ∧ ∃ n, w' = w.drewN n := by
  have h00 : decide ((a : Int) < 0) = false := by simp
  go_enter Try.func43, Try.ntmps43
  go_wp2
  go_loopw [0, 1] (fun s t wr => ∃ x y n : Nat, x ≤ 1000000000000000 ∧ y ≤ 1000000000000000 ∧ s = .int .i64 x ∧ t = .int .i64 y ∧ Nat.gcd x y = Nat.gcd a b ∧ wr = w.drewN n) (fun _ t _ => (intOf t).toNat)
  case atStart => exact ⟨a, b, 0, ha, hb, rfl, rfl, rfl, rfl⟩
  case round =>
    obtain ⟨x, y, n, hx, hy, rfl, rfl, hg, rfl⟩ := hrel
    have HG := Lib.hid hg
    clear hg
    by_cases hlt : 0 < y
    · have hne : ((y : Int) == 0) = false := by simp; omega
      go_wp2
      go_quiet (fail)
      go_wp2
      go_roundw
      case rel => exact ⟨y, x % y, _, hy, by have := Nat.mod_lt x hlt; omega, rfl, by go_num, by rw [gcd_step x y]; exact HG.out, World.drewN_drewN _ _ _⟩
      case measure => simp [intOf]; have := Nat.mod_lt x hlt; omega
    · obtain rfl : y = 0 := by omega
      go_wp2
      go_ret
      exact ⟨ret_int (by rw [← HG.out, Nat.gcd_zero_right]), n, rfl⟩

theorem rgcd_any (a b : Int) (w : World) (h0 : 0 ≤ a) (ha : a ≤ 1000000000000000) (h1 : 0 ≤ b) (hb : b ≤ 1000000000000000) :
    Calls Try.prog 43 #[.int .i64 a, .int .i64 b] w fun e w' => e = .returned (.int .i64 (Int.gcd a b : Nat)) ∧ ∃ n, w' = w.drewN n := by
  obtain ⟨n, rfl⟩ := Int.eq_ofNat_of_zero_le h0
  obtain ⟨m, rfl⟩ := Int.eq_ofNat_of_zero_le h1
  exact rgcd_nat n m w (by omega) (by omega)

set_option maxHeartbeats 400000 in
theorem abs_any (a : Int) (w : World) (h0 : 0 ≤ a) (ha : a ≤ 1000000000000000) :
    Calls Try.prog 46 #[.int .i64 a] w fun e w' => e = .returned (.int .i64 a) ∧ w = w' := by
  go_enter Try.func46, Try.ntmps46
  go_wp2
  go_ret
  exact ⟨ret_int (by omega), rfl⟩

/-- The fraction is valid and not negative. -/
structure FrOk (n d : Int) : Prop where
  n0 : 0 ≤ n
  n1 : n ≤ 1000000000
  d0 : 1 ≤ d
  d1 : d ≤ 1000000
  one : Int.gcd n d = 1

theorem quiet_drew {P : Program} {f : FuncId} {args : Array Value} {w : World} {n : Nat} {v : Value}
    (h : Calls P f args (w.drewN n) fun e w' => e = .returned v ∧ ∃ m, w' = (w.drewN n).drewN m) : Calls P f args (w.drewN n) fun e w'' => e = .returned v ∧ ∃ m, w'' = w.drewN m :=
  h.mono fun _ _ ⟨he, m, hm⟩ => ⟨he, n + m, by rw [hm, World.drewN_drewN]⟩

set_option maxHeartbeats 400000 in
theorem fValid_ok (n d : Int) (w : World) (h : FrOk n d) :
    Calls Try.prog 47 #[.agg #[.int .i64 n, .int .i64 d]] w fun e w' => e = .returned (.bool true) ∧ Below w.heap.size w w' := by
  obtain ⟨n0, n1, d0, d1, hone⟩ := h
  have HO := Lib.hid hone
  have n2 : -1000000000 ≤ n := by omega
  clear hone
  go_enter Try.func47, Try.ntmps47
  go_wp2
  go_quiet (first | ((go_at_call 46; exact quiet_left (abs_any _ _ (by omega) (by omega)))) | ((go_at_call 45; exact quiet_drew (divisor_any _ _ _ (by omega) (by omega) (by omega) (by omega)))))
  go_wp2
  go_ret
  exact ⟨ret_bool (by rw [HO.out]; rfl), below_fin (below_drewN (Below.refl _ _) _)⟩

set_option maxHeartbeats 400000 in
theorem rValid_ok (n d : Int) (w : World) (h : FrOk n d) :
    Calls Try.prog 33 #[.agg #[.int .i64 n, .int .i64 d]] w fun e w' => e = .returned (.bool true) ∧ Below w.heap.size w w' := by
  obtain ⟨n0, n1, d0, d1, hone⟩ := h
  have HO := Lib.hid hone
  have n2 : -1000000000 ≤ n := by omega
  clear hone
  go_enter Try.func33, Try.ntmps33
  go_wp2_with (go_at_call 43; refine (rgcd_any _ _ _ (by omega) (by omega) (by omega) (by omega)).mono ?_; rintro e w' ⟨rfl, m, rfl⟩)
  go_ret
  exact ⟨ret_bool (by rw [HO.out]; rfl), below_fin (below_drewN (Below.refl _ _) _)⟩


theorem bboth {B : Nat} {W w1 : World} (hb : Below B W w1) : (∀ b o, b < B → w1.cell? ⟨b, o, none⟩ = W.cell? ⟨b, o, none⟩) ∧ (∀ b o, b < B → w1.frozen? ⟨b, o, none⟩ = W.frozen? ⟨b, o, none⟩) :=
  ⟨fun b o h => hb.cell (p := ⟨b, o, none⟩) h, fun b o h => hb.frozen (p := ⟨b, o, none⟩) h⟩

theorem two_set {w : World} {b : Nat} {u0 u1 : Value} (v0 v1 : Value) (h0 : w.cell? ⟨b, 0, none⟩ = some u0) (h1 : w.cell? ⟨b, 1, none⟩ = some u1) :
    ((w.setCell ⟨b, 0, none⟩ v0).setCell ⟨b, 1, none⟩ v1).cell? ⟨b, 0, none⟩ = some v0 ∧ ((w.setCell ⟨b, 0, none⟩ v0).setCell ⟨b, 1, none⟩ v1).cell? ⟨b, 1, none⟩ = some v1 := by
  have o : (w.setCell ⟨b, 0, none⟩ v0).cell? ⟨b, 1, none⟩ = some u1 := by rw [World.cell?_setCell_other _ _ _ _ (by simp)]; exact h1
  refine ⟨?_, World.cell?_setCell_same' _ _ _ (by rw [o]; rfl)⟩
  rw [World.cell?_setCell_other _ _ _ _ (by simp)]
  exact World.cell?_setCell_same' _ _ _ (by rw [h0]; rfl)

theorem frOk_div (n d : Int) (h0 : 0 ≤ n) (h1 : n ≤ 10000) (h2 : 1 ≤ d) (h3 : d ≤ 10000) : FrOk (n / (Int.gcd n d : Nat)) (d / (Int.gcd n d : Nat)) := by
  have hg : 0 < Int.gcd n d := Int.gcd_pos_of_ne_zero_right _ (by omega)
  obtain ⟨g, hgg⟩ : ∃ g, g = Int.gcd n d := ⟨_, rfl⟩
  rw [← hgg] at hg ⊢
  have hn : n / (g : Int) ≤ n := Int.ediv_le_self _ h0
  have hd : d / (g : Int) ≤ d := Int.ediv_le_self _ (by omega)
  have hd1 : 1 ≤ d / (g : Int) := by
    have hdv : (g : Int) ∣ d := by rw [hgg]; exact Int.gcd_dvd_right ..
    obtain ⟨k, rfl⟩ := hdv
    rw [Int.mul_ediv_cancel_left _ (by omega)]
    rcases Int.lt_or_le 0 k with h | h
    · omega
    · have : (g : Int) * k ≤ 0 := Int.mul_nonpos_of_nonneg_of_nonpos (by omega) h
      omega
  refine ⟨Int.ediv_nonneg h0 (by omega), by omega, hd1, by omega, ?_⟩
  rw [hgg]
  exact Int.gcd_ediv_gcd_ediv_gcd (by rw [← hgg]; exact hg)

set_option maxHeartbeats 400000 in
theorem reduced_ok (n d : Int) (w : World) (h0 : 0 ≤ n) (h1 : n ≤ 10000) (h2 : 1 ≤ d) (h3 : d ≤ 10000) :
    Calls Try.prog 40 #[.int .i64 n, .int .i64 d] w fun e w' => e = .returned (.tuple #[.agg #[.int .i64 (n / (Int.gcd n d : Nat)), .int .i64 (d / (Int.gcd n d : Nat))], .int .i64 0]) ∧ Below w.heap.size w w' := by
  have hd0 : decide (d < 0) = false := by simp; omega
  obtain ⟨g, hg⟩ : ∃ g, g = Int.gcd n d := ⟨_, rfl⟩
  have hp : 0 < Int.gcd n d := Int.gcd_pos_of_ne_zero_right _ (by omega)
  have hg1 : (1 : Int) ≤ (g : Int) := by omega
  have hg0 : ((g : Int) == 0) = false := by simp; omega
  have hdiv : ∀ w, Calls Try.prog 45 #[.int .i64 n, .int .i64 d] w fun e w' => e = .returned (.int .i64 (g : Nat)) ∧ ∃ n, w' = w.drewN n := fun w => by
    rw [hg]; exact divisor_any _ _ _ (by omega) (by omega) (by omega) (by omega)
  have HD := Lib.hid hdiv
  have HF := Lib.hid (frOk_div n d h0 h1 h2 h3)
  rw [← hg] at HF ⊢
  clear hdiv hg hp
  go_enter Try.func40, Try.ntmps40
  go_wp2_with (first | (go_at_call 46; refine (abs_any _ _ (by omega) (by omega)).mono ?_; rintro e w' ⟨rfl, rfl⟩) | (go_at_call 45; refine (HD.out _).mono ?_; rintro e w' ⟨rfl, m, rfl⟩))
  go_region
  all_goals
    go_wp2_with (go_at_call 47; refine (fValid_ok _ _ _ HF.out).mono ?_; rintro e w' ⟨rfl, hb⟩; obtain ⟨hc, hf⟩ := bboth hb)
    have k := two_set (w := w') (b := w.heap.size) (u0 := .int .i64 0) (u1 := .int .i64 0) (.int .i64 (n / (g : Int))) (.int .i64 (d / (g : Int))) (by rw [hc _ _ (by simp; omega)]; simp [go_sem]) (by rw [hc _ _ (by simp; omega)]; simp [go_sem])
    refine bodyPost_ret (v := .tuple #[.agg #[.int .i64 (n / (g : Int)), .int .i64 (d / (g : Int))], .int .i64 0]) (by simp [results, Try.results40, go_sem, k.1, k.2]) rfl ⟨rfl, ?_⟩
    have hb' := hb.mono (B' := w.heap.size) (by simp; omega)
    exact ((((below_drewN ((Below.refl _ w).alloc (Nat.le_refl _) _) _).alloc (by simp) _).trans hb').setCell (Nat.le_refl _) _).setCell (Nat.le_refl _) _

end Go.Proofs.Ytcppijoccolmkaa
