/-
  The plain laws of a linear policy's knots.
-/
import Derived.Test.YtcppijoccolmkaaN
namespace Go.Proofs.Ytcppijoccolmkaa

theorem seg_at (b1 b2 k1 k2 : Int) (h : b1 < k1) : 100 * (b2 * (k1 - b1) + k2 * (b1 - b1)) / (k1 - b1) = 100 * b2 := by
  rw [Int.sub_self, Int.mul_zero, Int.add_zero, ← Int.mul_assoc, Int.mul_ediv_cancel _ (by omega)]
/-- At its own time a knot has its percentage. -/
theorem linG_at (b : Int × Int) : ∀ r, Chn b r → linG b.1 b r = 100 * b.2
  | [], _ => rfl
  | k :: r, ⟨h1, _, _⟩ => by simp only [linG]; rw [if_pos h1]; exact seg_at _ _ _ _ h1

theorem getD_drop (l : List (Int × Int)) (k j : Nat) : (l.drop k).getD j (0, 0) = l.getD (k + j) (0, 0) := by
  simp [List.getD_eq_getElem?_getD]
theorem chn_at {l : List (Int × Int)} {k : Nat} (h : okTo l l.length = true) (hk : k < l.length) : Chn (l.getD k (0, 0)) (l.drop (k + 1)) := by
  refine chn_of _ _ fun j hj => ?_
  rw [← drop_cons hk, getD_drop, getD_drop]
  simp only [List.length_drop] at hj
  have := okAt_next (l := l) (k := k + j) (okTo_at (by omega) h)
  rwa [Nat.add_assoc] at this
theorem mono_at {l : List (Int × Int)} {i k : Nat} (h : okTo l l.length = true) (hk : k < l.length) (hi : i ≤ k) : (l.getD i (0, 0)).1 ≤ (l.getD k (0, 0)).1 := by
  induction k with
  | zero => obtain rfl : i = 0 := by omega
            exact Int.le_refl _
  | succ k ih =>
    rcases Nat.lt_or_ge i (k + 1) with h' | h'
    · have := okAt_next (l := l) (k := k) (okTo_at hk h)
      have := ih (by omega) (by omega)
      omega
    · obtain rfl : i = k + 1 := by omega
      exact Int.le_refl _
theorem mem_take {l : List (Int × Int)} {k : Nat} {y : Int × Int} (h : y ∈ l.take k) : ∃ i, i < k ∧ i < l.length ∧ y = l.getD i (0, 0) := by
  obtain ⟨i, hi, rfl⟩ := List.getElem_of_mem h
  simp only [List.length_take] at hi
  refine ⟨i, by omega, by omega, ?_⟩
  rw [List.getElem_take, List.getD_eq_getElem?_getD, List.getElem?_eq_getElem (by omega)]
  rfl

/-- The factor of a linear policy behind knot k. -/
theorem fac_lin {l : List (Int × Int)} {k : Nat} {t : Int} (h : okTo l l.length = true) (hk : k < l.length) (ht : (l.getD k (0, 0)).1 ≤ t) (h0 : 0 < t) :
    fac true l t = linG t (l.getD k (0, 0)) (l.drop (k + 1)) := by
  rw [fac, if_neg (by omega), if_pos rfl]
  have hall : ∀ y ∈ l.take k ++ [l.getD k (0, 0)], y.1 ≤ t := fun y hy => by
    rcases List.mem_append.1 hy with hy | hy
    · obtain ⟨i, h1, h2, rfl⟩ := mem_take hy
      have := mono_at h hk (Nat.le_of_lt h1)
      omega
    · simp only [List.mem_singleton] at hy
      subst hy; exact ht
  have e : l = l.take k ++ l.getD k (0, 0) :: l.drop (k + 1) := by rw [← drop_cons hk, List.take_append_drop]
  unfold kn
  split
  · have e' : (0, 100) :: l = ((0, 100) :: l.take k) ++ l.getD k (0, 0) :: l.drop (k + 1) := by rw [List.cons_append, ← e]
    rw [e']
    refine linK_split t _ _ _ fun y hy => ?_
    rw [List.cons_append, List.mem_cons] at hy
    rcases hy with rfl | hy
    · show (0 : Int) ≤ t; omega
    · exact hall y hy
  · have := linK_split t (l.take k) (l.getD k (0, 0)) (l.drop (k + 1)) hall
    rwa [← e] at this

theorem knot_at {l : List (Int × Int)} {k : Nat} (h : okTo l l.length = true) (hk : k < l.length) (h0 : 0 < (l.getD k (0, 0)).1) : fac true l (l.getD k (0, 0)).1 = 100 * (l.getD k (0, 0)).2 := by
  rw [fac_lin h hk (Int.le_refl _) h0]
  exact linG_at _ _ (chn_at h hk)
theorem knot_le {l : List (Int × Int)} {k : Nat} {t : Int} (h : okTo l l.length = true) (hk : k < l.length) (ht : (l.getD k (0, 0)).1 ≤ t) (h0 : 0 < t) : fac true l t ≤ 100 * (l.getD k (0, 0)).2 := by
  rw [fac_lin h hk ht h0]
  exact linG_le t _ _ (chn_at h hk) ht
theorem knot_ge {l : List (Int × Int)} {k : Nat} {t : Int} (h : okTo l l.length = true) (hk : k + 1 < l.length) (ht : (l.getD k (0, 0)).1 ≤ t) (h0 : 0 < t) (ht' : t ≤ (l.getD (k + 1) (0, 0)).1) : 100 * (l.getD (k + 1) (0, 0)).2 ≤ fac true l t := by
  rcases Int.lt_or_le t (l.getD (k + 1) (0, 0)).1 with hlt | hge
  · have hn := okAt_next (l := l) (k := k) (okTo_at hk h)
    rw [fac_lin h (by omega) ht h0, drop_cons hk]
    simp only [linG]
    rw [if_pos hlt]
    exact seg_ge ht hlt hn.2
  · have e : t = (l.getD (k + 1) (0, 0)).1 := by omega
    rw [e, knot_at h hk (by omega)]
    exact Int.le_refl _

theorem fr_pct (p : Int) : fr (100 * p) 10000 = fr p 100 := by
  have e : Int.gcd (100 * p) 10000 = 100 * Int.gcd p 100 := by
    rw [show (10000 : Int) = 100 * 100 by decide, Int.gcd_mul_left]; rfl
  unfold fr
  rw [e]
  have hp : (0 : Int) < (Int.gcd p 100 : Nat) := by
    have := Int.gcd_pos_of_ne_zero_right p (show (100 : Int) ≠ 0 by decide); omega
  have c : ((100 * Int.gcd p 100 : Nat) : Int) = 100 * (Int.gcd p 100 : Nat) := by simp
  rw [c, Int.mul_ediv_mul_of_pos _ _ (by decide), show (10000 : Int) = 100 * 100 by decide, Int.mul_ediv_mul_of_pos _ _ (by decide)]

/-- The comparisons of the law of the knots. -/
theorem cmp_le_pct {n p : Int} (h : n ≤ 100 * p) : cmpI ((fr n 10000).1 * (fr p 100).2) ((fr p 100).1 * (fr n 10000).2) ≤ 0 := by
  rw [cmpI_le, ← fr_pct p]
  exact (fr_le (100 * p) n 10000 10000 (by omega) (by omega)).1 (Int.mul_le_mul_of_nonneg_right h (by omega))
theorem cmp_ge_pct {n p : Int} (h : 100 * p ≤ n) : 0 ≤ cmpI ((fr n 10000).1 * (fr p 100).2) ((fr p 100).1 * (fr n 10000).2) := by
  rw [cmpI_ge, ← fr_pct p]
  exact (fr_le n (100 * p) 10000 10000 (by omega) (by omega)).1 (Int.mul_le_mul_of_nonneg_right h (by omega))
theorem cmp_ge_zero {x1 x2 : Int} (h : 0 ≤ x1) : 0 ≤ cmpI (x1 * 1) (0 * x2) := by rw [cmpI_ge]; omega

end Go.Proofs.Ytcppijoccolmkaa
