/-
  The plain laws of the factor: it falls with the lateness.
-/
import Derived.Test.YtcppijoccolmkaaJ
namespace Go.Proofs.Ytcppijoccolmkaa

/-- Knots whose times rise and whose percentages do not. -/
def Chn : Int × Int → List (Int × Int) → Prop
  | _, [] => True
  | b, k :: r => b.1 < k.1 ∧ k.2 ≤ b.2 ∧ Chn k r

theorem seg_le {t b1 b2 k1 k2 : Int} (h1 : b1 ≤ t) (h2 : t < k1) (h : k2 ≤ b2) : 100 * (b2 * (k1 - t) + k2 * (t - b1)) / (k1 - b1) ≤ 100 * b2 := by
  have q : k2 * (t - b1) ≤ b2 * (t - b1) := Int.mul_le_mul_of_nonneg_right h (by omega)
  have e : b2 * (k1 - t) + b2 * (t - b1) = b2 * (k1 - b1) := by rw [← Int.mul_add]; congr 1; omega
  refine Int.le_trans (Int.ediv_le_ediv (by omega) (show _ ≤ 100 * b2 * (k1 - b1) by rw [Int.mul_assoc]; omega)) ?_
  rw [Int.mul_ediv_cancel _ (by omega)]
  exact Int.le_refl _
theorem seg_ge {t b1 b2 k1 k2 : Int} (h1 : b1 ≤ t) (h2 : t < k1) (h : k2 ≤ b2) : 100 * k2 ≤ 100 * (b2 * (k1 - t) + k2 * (t - b1)) / (k1 - b1) := by
  have q : k2 * (k1 - t) ≤ b2 * (k1 - t) := Int.mul_le_mul_of_nonneg_right h (by omega)
  have e : k2 * (k1 - t) + k2 * (t - b1) = k2 * (k1 - b1) := by rw [← Int.mul_add]; congr 1; omega
  refine (Int.le_ediv_iff_mul_le (by omega)).2 ?_
  rw [Int.mul_assoc]
  omega
theorem seg_anti {s t b1 b2 k1 k2 : Int} (h0 : s ≤ t) (h1 : b1 < k1) (h : k2 ≤ b2) :
    100 * (b2 * (k1 - t) + k2 * (t - b1)) / (k1 - b1) ≤ 100 * (b2 * (k1 - s) + k2 * (s - b1)) / (k1 - b1) := by
  refine Int.ediv_le_ediv (by omega) ?_
  have q : k2 * (t - s) ≤ b2 * (t - s) := Int.mul_le_mul_of_nonneg_right h (by omega)
  have e1 : b2 * (k1 - t) + b2 * (t - s) = b2 * (k1 - s) := by rw [← Int.mul_add]; congr 1; omega
  have e2 : k2 * (s - b1) + k2 * (t - s) = k2 * (t - b1) := by rw [← Int.mul_add]; congr 1; omega
  omega

theorem linG_le (t : Int) : ∀ (r : List (Int × Int)) (b : Int × Int), Chn b r → b.1 ≤ t → linG t b r ≤ 100 * b.2
  | [], b, _, _ => by simp [linG]
  | k :: r, b, ⟨h1, h2, h3⟩, hb => by
    simp only [linG]
    split
    · rename_i hlt; exact seg_le hb hlt h2
    · have := linG_le t r k h3 (by omega); omega
theorem linG_anti (s t : Int) (hst : s ≤ t) : ∀ (r : List (Int × Int)) (b : Int × Int), Chn b r → b.1 ≤ s → linG t b r ≤ linG s b r
  | [], b, _, _ => by simp [linG]
  | k :: r, b, ⟨h1, h2, h3⟩, hb => by
    simp only [linG]
    by_cases hs : s < k.1
    · rw [if_pos hs]
      by_cases ht : t < k.1
      · rw [if_pos ht]; exact seg_anti hst h1 h2
      · rw [if_neg ht]
        have q1 := linG_le t r k h3 (by omega)
        have q2 := seg_ge hb hs h2
        omega
    · rw [if_neg hs, if_neg (by omega)]
      exact linG_anti s t hst r k h3 (by omega)

theorem okAt_next {l : List (Int × Int)} {k : Nat} (h : okAt l (k + 1) = true) : (l.getD k (0, 0)).1 < (l.getD (k + 1) (0, 0)).1 ∧ (l.getD (k + 1) (0, 0)).2 ≤ (l.getD k (0, 0)).2 := by
  simp only [okAt, Bool.and_eq_true, Bool.or_eq_true, decide_eq_true_eq, Nat.add_sub_cancel] at h
  rcases h.2 with h | h
  · omega
  · exact h

theorem chn_of : ∀ (l : List (Int × Int)) (b : Int × Int), (∀ k, k < l.length → (((b :: l).getD k (0, 0)).1 < ((b :: l).getD (k + 1) (0, 0)).1 ∧ ((b :: l).getD (k + 1) (0, 0)).2 ≤ ((b :: l).getD k (0, 0)).2)) → Chn b l
  | [], _, _ => trivial
  | a :: r, b, h => by
    have h0 := h 0 (by simp)
    simp only [List.getD_cons_zero, List.getD_cons_succ] at h0
    refine ⟨h0.1, h0.2, chn_of r a fun k hk => ?_⟩
    have := h (k + 1) (by simp; omega)
    simpa only [List.getD_cons_succ] using this

/-- The knots of valid steps. -/
theorem kn_chn {l : List (Int × Int)} (h : okTo l l.length = true) : ∃ b r, kn l = b :: r ∧ b.1 = 0 ∧ b.2 ≤ 100 ∧ Chn b r := by
  have hk := knOk h
  cases l with
  | nil => exact ⟨(0, 100), [], rfl, rfl, by simp, trivial⟩
  | cons a r =>
    have hc : Chn a r := chn_of r a fun k hk => okAt_next (okTo_at (by simp; omega) h)
    have ha := okAt_rng (okTo_at (k := 0) (by simp) h)
    simp only [List.getD_cons_zero] at ha
    by_cases h0 : a.1 = 0
    · refine ⟨a, r, ?_, h0, by omega, hc⟩
      rw [kn, if_neg (by simp [h0])]
    · refine ⟨(0, 100), a :: r, ?_, rfl, by simp, ?_, by simpa using ha.2.2, hc⟩
      · rw [kn, if_pos (.inr (by simpa using h0))]
      · have := ha.1.1
        show (0 : Int) < a.1
        omega

theorem stp_anti {l : List (Int × Int)} {s t : Int} (hst : s ≤ t) : ∀ k, okTo l k = true → stp l t k ≤ stp l s k
  | 0, _ => by simp [stp]
  | k + 1, h => by
    have h' := h
    simp only [okTo, Bool.and_eq_true] at h
    have ih := stp_anti hst k h.1
    simp only [stp]
    by_cases h1 : (l.getD k (0, 0)).1 < s
    · rw [if_pos h1, if_pos (by omega)]; exact Int.le_refl _
    · rw [if_neg h1]
      by_cases h2 : (l.getD k (0, 0)).1 < t
      · rw [if_pos h2]
        -- the step's percentage is at most that of the steps before it
        cases k with
        | zero => have := okAt_rng h.2; simp only [stp]; omega
        | succ j =>
          have hn := okAt_next h.2
          have hle : ∀ m, m ≤ j + 1 → (l.getD (j + 1) (0, 0)).2 ≤ stp l s m := by
            intro m
            induction m with
            | zero => intro _; have := okAt_rng h.2; simp only [stp]; omega
            | succ m ihm =>
              intro hm
              simp only [stp]
              split
              · -- the percentages fall
                have fall : ∀ d, m + d ≤ j + 1 → (l.getD (m + d) (0, 0)).2 ≤ (l.getD m (0, 0)).2 := by
                  intro d
                  induction d with
                  | zero => intro _; exact Int.le_refl _
                  | succ d ihd =>
                    intro hd
                    have q := okAt_next (k := m + d) (okTo_at (m := j + 1 + 1) (by omega) h')
                    have := ihd (by omega)
                    rw [show m + (d + 1) = m + d + 1 by omega]
                    omega
                have := fall (j + 1 - m) (by omega)
                rwa [show m + (j + 1 - m) = j + 1 by omega] at this
              · exact ihm (by omega)
          exact hle (j + 1) (Nat.le_refl _)
      · rw [if_neg h2]; exact ih

/-- The factor never rises with the lateness. -/
theorem fac_anti {lin : Bool} {l : List (Int × Int)} {s t : Int} (h : okTo l l.length = true) (hs : 0 ≤ s) (hst : s ≤ t) : fac lin l t ≤ fac lin l s := by
  by_cases h0 : s = 0
  · have := (fac_rng (lin := lin) (t := t) h (by omega)).2
    have e : fac lin l s = 10000 := by rw [fac, if_pos h0]
    omega
  · rw [fac, fac, if_neg h0, if_neg (by omega)]
    cases lin with
    | true =>
      rw [if_pos rfl, if_pos rfl]
      obtain ⟨b, r, e, hb, _, hc⟩ := kn_chn h
      rw [e]
      exact linG_anti s t hst r b hc (by omega)
    | false =>
      rw [if_neg (by simp), if_neg (by simp)]
      have := stp_anti (s := s) (t := t) hst _ h
      omega

/-- Fractions in lowest terms compare as what they were made of. -/
theorem fr_mul (n m d e : Int) (hd : 1 ≤ d) (he : 1 ≤ e) : ∃ g : Int, 1 ≤ g ∧ ∃ g' : Int, 1 ≤ g' ∧ n = (fr n d).1 * g ∧ d = (fr n d).2 * g ∧ m = (fr m e).1 * g' ∧ e = (fr m e).2 * g' := by
  have h1 : 0 < Int.gcd n d := Int.gcd_pos_of_ne_zero_right _ (by omega)
  have h2 : 0 < Int.gcd m e := Int.gcd_pos_of_ne_zero_right _ (by omega)
  refine ⟨(Int.gcd n d : Nat), by omega, (Int.gcd m e : Nat), by omega, ?_, ?_, ?_, ?_⟩
  · exact (Int.ediv_mul_cancel (Int.gcd_dvd_left ..)).symm
  · exact (Int.ediv_mul_cancel (Int.gcd_dvd_right ..)).symm
  · exact (Int.ediv_mul_cancel (Int.gcd_dvd_left ..)).symm
  · exact (Int.ediv_mul_cancel (Int.gcd_dvd_right ..)).symm
theorem fr_cross (n m d e : Int) (hd : 1 ≤ d) (he : 1 ≤ e) : ∃ q : Int, 1 ≤ q ∧ n * e = ((fr n d).1 * (fr m e).2) * q ∧ m * d = ((fr m e).1 * (fr n d).2) * q := by
  obtain ⟨g, hg, g', hg', h1, h2, h3, h4⟩ := fr_mul n m d e hd he
  refine ⟨g * g', ?_, ?_, ?_⟩
  · have := Int.mul_le_mul hg hg' (by omega) (by omega); omega
  · generalize (fr n d).1 = a at *
    generalize (fr m e).2 = b at *
    rw [h1, h4]; simp only [Int.mul_assoc, Int.mul_left_comm]
  · generalize (fr m e).1 = a at *
    generalize (fr n d).2 = b at *
    rw [h3, h2]; simp only [Int.mul_left_comm, Int.mul_comm]
theorem fr_le (n m d e : Int) (hd : 1 ≤ d) (he : 1 ≤ e) : (m * d ≤ n * e ↔ (fr m e).1 * (fr n d).2 ≤ (fr n d).1 * (fr m e).2) := by
  obtain ⟨q, hq, h1, h2⟩ := fr_cross n m d e hd he
  rw [h1, h2]
  constructor
  · intro h; exact Int.le_of_mul_le_mul_right h (by omega)
  · intro h; exact Int.mul_le_mul_of_nonneg_right h (by omega)

theorem cmpI_ge {x y : Int} : 0 ≤ cmpI x y ↔ y ≤ x := by
  unfold cmpI; split
  · omega
  · split <;> omega
theorem cmpI_le {x y : Int} : cmpI x y ≤ 0 ↔ x ≤ y := by
  unfold cmpI; split
  · omega
  · split <;> omega

end Go.Proofs.Ytcppijoccolmkaa
