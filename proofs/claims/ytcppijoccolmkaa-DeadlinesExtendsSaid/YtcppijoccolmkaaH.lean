/-
  The contracts of deadlines.stepped, factor and Factor.
-/
import Derived.Test.YtcppijoccolmkaaG
namespace Go.Proofs.Ytcppijoccolmkaa
open Go.RowKit

/-- The percentage of a policy of steps, among the first k. -/
def stp (l : List (Int × Int)) (t : Int) : Nat → Int
  | 0 => 100
  | k + 1 => if (l.getD k (0, 0)).1 < t then (l.getD k (0, 0)).2 else stp l t k

theorem stp_rng {l : List (Int × Int)} {t : Int} : ∀ k, okTo l k = true → 0 ≤ stp l t k ∧ stp l t k ≤ 100
  | 0, _ => by simp [stp]
  | k + 1, h => by
    simp only [okTo, Bool.and_eq_true] at h
    have h1 := stp_rng (t := t) k h.1
    have h2 := okAt_rng h.2
    simp only [stp]
    split <;> omega

set_option maxHeartbeats 400000 in
theorem stepped_any (due grace : Int) (lin : Bool) (A : Option Addr) (c : Nat) (l : List (Int × Int)) (t : Int) (w : World)
    (hs : StepsAt w w.heap.size A l) (hl : l.length ≤ 16) (hok : okTo l l.length = true) :
    Calls Try.prog 42 #[.agg #[.int .i64 due, .int .i64 grace, .bool lin, .slice A l.length c], .int .i64 t] w fun e w' => e = .returned (.int .i64 (100 * stp l t l.length)) ∧ Below w.heap.size w w' := by
  have HOK := Lib.hid hok
  clear hok
  go_enter Try.func42, Try.ntmps42
  go_wp2
  go_loopw [5, 11] (fun o i wr => ∃ k : Nat, k ≤ l.length ∧ i = .int .i64 k ∧ o = .int .i64 (stp l t k) ∧ Below (w.heap.size + 1) (w.alloc (polObj due grace lin A l.length c)) wr) (fun _ i _ => l.length - (intOf i).toNat)
  case atStart => exact ⟨0, Nat.zero_le _, rfl, rfl, Below.refl _ _⟩
  case round =>
    obtain ⟨k, hk, rfl, rfl, hb⟩ := hrel
    by_cases hlt : k < l.length
    · obtain ⟨b, off, rfl, hbl, hc⟩ := hs (by omega)
      have hcell := bcell hb
      have hz := hb.size
      simp only [World.size_alloc] at hz
      have hz1 : w.heap.size < wr.heap.size := by omega
      have hbz : b < wr.heap.size := by omega
      have c0 : wr.cell? ⟨b, off + k * 2, none⟩ = some (.int .i64 (l.getD k (0, 0)).1) := by
        rw [hcell b _ (by omega), World.cell?_alloc_lt _ _ _ hbl]; exact (hc k hlt).1
      have c1 : wr.cell? ⟨b, off + k * 2 + 1, none⟩ = some (.int .i64 (l.getD k (0, 0)).2) := by
        rw [hcell b _ (by omega), World.cell?_alloc_lt _ _ _ hbl]; exact (hc k hlt).2
      have hstp : stp l t (k + 1) = if (l.getD k (0, 0)).1 < t then (l.getD k (0, 0)).2 else stp l t k := rfl
      obtain ⟨x, hx⟩ : ∃ x, x = (l.getD k (0, 0)).1 := ⟨_, rfl⟩
      obtain ⟨y, hy⟩ : ∃ y, y = (l.getD k (0, 0)).2 := ⟨_, rfl⟩
      rw [← hx] at c0
      rw [← hy] at c1
      rw [← hx, ← hy] at hstp
      have HB := Lib.hid hb
      have HC := Lib.hid hc
      have HL := Lib.hid hcell
      have HX := Lib.hid hx
      have HY := Lib.hid hy
      have HT := Lib.hid hstp
      clear hb hc hcell hx hy hstp
      by_cases hxt : x < t
      · go_wp2
        go_roundw
        case rel => exact ⟨k + 1, by omega, by go_num, by rw [HT.out, if_pos hxt], (HB.out).alloc (by omega) _⟩
        case measure => simp [intOf]; omega
      · go_wp2
        go_roundw
        case rel => exact ⟨k + 1, by omega, by go_num, by rw [HT.out, if_neg hxt], (HB.out).alloc (by omega) _⟩
        case measure => simp [intOf]; omega
    · obtain rfl : k = l.length := by omega
      obtain ⟨r0, r1⟩ := stp_rng (t := t) _ HOK.out
      have HB := Lib.hid hb
      clear hb
      go_wp2
      go_ret
      exact ⟨rfl, below_fin HB.out⟩

/-- The factor, in parts of 10000. -/
def fac (lin : Bool) (l : List (Int × Int)) (t : Int) : Int := if t = 0 then 10000 else if lin then linK t (kn l) else 100 * stp l t l.length

theorem linG_rng (t : Int) : ∀ (r : List (Int × Int)) (b : Int × Int), (∀ y ∈ b :: r, 0 ≤ y.1 ∧ y.1 ≤ 1099511627776 ∧ 0 ≤ y.2 ∧ y.2 ≤ 100) → b.1 ≤ t → 0 ≤ linG t b r ∧ linG t b r ≤ 10000
  | [], b, h, _ => by have := h b (by simp); simp only [linG]; omega
  | k :: r, b, h, hb => by
    have h1 := h b (by simp)
    have h2 := h k (by simp)
    simp only [linG]
    split
    · rename_i hlt
      obtain ⟨⟨m0, m1⟩, m2, m3⟩ := lin_bd (t := t) (b1 := b.1) (b2 := b.2) (k1 := k.1) (k2 := k.2) h1.1 hb hlt h2.2.1 h1.2.2.1 h1.2.2.2 h2.2.2.1 h2.2.2.2
      have q1 : b.2 * (k.1 - t) ≤ 100 * (k.1 - t) := Int.mul_le_mul_of_nonneg_right h1.2.2.2 (by omega)
      have q2 : k.2 * (t - b.1) ≤ 100 * (t - b.1) := Int.mul_le_mul_of_nonneg_right h2.2.2.2 (by omega)
      refine ⟨Int.ediv_nonneg (by omega) (by omega), ?_⟩
      refine Int.le_trans (Int.ediv_le_ediv (by omega) (show _ ≤ 10000 * (k.1 - b.1) by omega)) ?_
      rw [Int.mul_ediv_cancel _ (by omega)]
      exact Int.le_refl _
    · exact linG_rng t r k (fun y hy => h y (by simp at hy ⊢; exact .inr hy)) (by omega)

theorem fac_rng {lin : Bool} {l : List (Int × Int)} {t : Int} (h : okTo l l.length = true) (ht : 0 ≤ t) : 0 ≤ fac lin l t ∧ fac lin l t ≤ 10000 := by
  unfold fac
  split
  · omega
  · split
    · have hk := knOk h
      cases hkn : kn l with
      | nil => exact absurd hkn hk.non
      | cons b r => exact linG_rng t r b (by rw [← hkn]; exact hk.rng) (by have := hk.fst b r hkn; omega)
    · have := stp_rng (t := t) _ h
      omega

set_option maxHeartbeats 400000 in
theorem factor_any (due grace : Int) (lin : Bool) (A : Option Addr) (c : Nat) (l : List (Int × Int)) (t : Int) (w : World)
    (hs : StepsAt w w.heap.size A l) (hl : l.length ≤ 16) (hok : okTo l l.length = true) (ht0 : 0 ≤ t) (ht1 : t ≤ 1099511627776) :
    Calls Try.prog 31 #[.agg #[.int .i64 due, .int .i64 grace, .bool lin, .slice A l.length c], .int .i64 t] w fun e w' => e = .returned (.int .i64 (fac lin l t)) ∧ Below w.heap.size w w' := by
  have hS' : ∀ o, StepsAt (w.alloc o) (w.alloc o).heap.size A l := fun o => (hs.below ((Below.refl _ w).alloc (Nat.le_refl _) _)).more (by simp)
  have HS := Lib.hid hS'
  have HOK := Lib.hid hok
  clear hok hS' hs
  unfold fac
  by_cases h0 : t = 0
  · subst h0
    go_enter Try.func31, Try.ntmps31
    go_wp2
    go_ret
    exact ⟨rfl, below_fin (Below.refl _ _)⟩
  · have h0' : (t == 0) = false := beq_eq_false_iff_ne.2 h0
    rw [if_neg h0]
    cases lin with
    | true =>
      rw [if_pos rfl]
      go_enter Try.func31, Try.ntmps31
      go_wp2_with fail
      refine (linear_any _ _ _ _ _ _ _ _ (HS.out _) hl (knOk HOK.out) ht0 ht1).mono ?_
      rintro e w1 ⟨rfl, hb⟩
      go_wp2_with fail
      go_ret
      exact ⟨rfl, below_fin (hb.mono (by simp))⟩
    | false =>
      rw [if_neg (by simp)]
      go_enter Try.func31, Try.ntmps31
      go_wp2_with fail
      refine (stepped_any _ _ _ _ _ _ _ _ (HS.out _) hl HOK.out).mono ?_
      rintro e w1 ⟨rfl, hb⟩
      go_wp2_with fail
      go_ret
      exact ⟨rfl, below_fin (hb.mono (by simp))⟩

end Go.Proofs.Ytcppijoccolmkaa
