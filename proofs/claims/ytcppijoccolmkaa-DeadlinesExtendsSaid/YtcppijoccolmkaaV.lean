/-
  The walk of DeadlinesSpends.
-/
import Derived.Test.YtcppijoccolmkaaU
import Derived.IntWalk
namespace Go.Proofs.Ytcppijoccolmkaa
open Go.RowKit

/-- The latenesses' sum. -/
def alS (l : List Int) : Nat → Int
  | 0 => 0
  | k + 1 => alS l k + clI (l.getD k 0)
/-- What is left of lateness k. -/
def spE (l : List Int) (a : Int) (k : Nat) : Int := clI (l.getD k 0) - mnI (clI (l.getD k 0)) (spR l a k)
/-- Nothing is left of the first k. -/
def fuB (l : List Int) (a : Int) : Nat → Bool
  | 0 => true
  | k + 1 => fuB l a k && (spE l a k == 0)

theorem alS_rng (l : List Int) : ∀ k : Nat, 0 ≤ alS l k ∧ alS l k ≤ 1099511627776 * k
  | 0 => by simp [alS]
  | k + 1 => by
    have h := alS_rng l k
    have h' := clI_rng (l.getD k 0)
    simp only [alS]
    omega
theorem spO_get (l : List Int) (a : Int) : ∀ (n k : Nat), k < n → (spO l a n).getD k 0 = spE l a k
  | 0, _, h => by omega
  | n + 1, k, h => by
    rcases Nat.lt_or_ge k n with h' | h'
    · have := spO_get l a n k h'
      rw [spO, List.getD_eq_getElem?_getD, List.getElem?_append_left (by rw [spO_len]; exact h'), ← List.getD_eq_getElem?_getD]
      exact this
    · obtain rfl : k = n := by omega
      rw [spO, List.getD_eq_getElem?_getD, List.getElem?_append_right (by rw [spO_len]; omega), spO_len]
      simp [spE]
theorem spE_rng (l : List Int) (a : Int) (k : Nat) : 0 ≤ spE l a k ∧ spE l a k ≤ clI (l.getD k 0) := by
  have h := spR_rng l a k
  have h' := clI_rng (l.getD k 0)
  unfold spE mnI
  split <;> omega
theorem fuB_rest (l : List Int) (a : Int) : ∀ k, fuB l a k = false → spR l a k = 0
  | 0, h => by simp [fuB] at h
  | k + 1, h => by
    have hr := spR_rng l a k
    have h' := clI_rng (l.getD k 0)
    simp only [fuB, Bool.and_eq_false_iff, beq_eq_false_iff_ne] at h
    rcases h with h | h
    · have := fuB_rest l a k h
      simp only [spR, mnI]
      split <;> omega
    · unfold spE mnI at h
      simp only [spR, mnI]
      split at h <;> (try split) <;> omega
theorem full_of_less (l : List Int) (a : Int) (k : Nat) (h : spE l a k < clI (l.getD k 0)) : fuB l a k = true := by
  cases e : fuB l a k with
  | true => rfl
  | false =>
    have h0 := fuB_rest l a k e
    have h' := clI_rng (l.getD k 0)
    unfold spE mnI at h
    split at h <;> omega
theorem spR_all (l : List Int) (a : Int) : ∀ k, spR l a k = if clI a < alS l k then 0 else clI a - alS l k
  | 0 => by
    have := clI_rng a
    show clI a = if clI a < (0 : Int) then 0 else clI a - 0
    rw [if_neg (by omega)]
    omega
  | k + 1 => by
    have ih := spR_all l a k
    have h := alS_rng l k
    have h' := clI_rng (l.getD k 0)
    simp only [spR, alS, mnI]
    rw [ih]
    split <;> split <;> (try split) <;> omega
/-- What was taken in the end. -/
theorem taken_all (l : List Int) (a : Int) (k : Nat) : clI a - spR l a k = mnI (alS l k) (clI a) := by
  rw [spR_all, mnI]
  split <;> omega
theorem taken_step (l : List Int) (a : Int) (k : Nat) : clI a - spR l a k + clI (l.getD k 0) - spE l a k = clI a - spR l a (k + 1) := by
  simp only [spR, spE]; omega
theorem clI_if (x x1 : Int) (h : (if x < 0 then 0 else x) = x1) : (if 1099511627776 < x1 then 1099511627776 else x1) = clI x := by
  rw [← h, clI]
  by_cases h1 : x < 0
  · simp [h1]
  · simp [h1]

set_option maxHeartbeats 2000000 in
theorem Spends_any (A : Option Addr) (c : Nat) (l : List Int) (al : Int) (w : World) (hs : IntsAt w w.heap.size A l) (hl : l.length ≤ 30) :
    Calls Try.prog 6 #[.slice A l.length c, .int .i64 al] w fun e w' => e = .returned (.bool true) ∧ Below w.heap.size w w' := by
  have g30 : decide ((30 : Int) < (l.length : Int)) = false := by simp; omega
  have hne : ((l.length : Int) != (l.length : Int)) = false := by simp
  have HS := Lib.hid hs
  clear hs
  go_enter Try.func6, Try.ntmps6
  go_wp2_with fail
  refine (awake_any _).mono ?_
  rintro e w0 ⟨rfl, hb0⟩
  have HS0 := Lib.hid (HS.out.later hb0)
  have HB0 := Lib.hid hb0
  clear hb0 HS
  go_wp2_with fail
  refine (Spend_any _ _ _ _ _ HS0.out hl).mono ?_
  rintro e w1 ⟨A', c', rfl, hI, hb1⟩
  have HS1 := Lib.hid (HS0.out.later hb1)
  have HI := Lib.hid hI
  have HB1 := Lib.hid (HB0.out.trans (hb1.mono HB0.out.size))
  clear hb1 hI HB0 HS0
  go_wp2_with fail
  go_loopw [6, 7, 8, 26] (fun al' tk fu i wr => ∃ k n : Nat, k ≤ l.length ∧ i = .int .i64 k ∧ al' = .int .i64 (alS l k) ∧ tk = .int .i64 (clI al - spR l al k) ∧ fu = .bool (fuB l al k) ∧ wr = w1.drewN n)
    (fun _ _ _ i _ => l.length - (intOf i).toNat)
  case atStart => exact ⟨0, 0, Nat.zero_le _, rfl, rfl, by simp [spR], rfl, rfl⟩
  case round =>
    obtain ⟨k, n, hk, rfl, rfl, rfl, rfl, rfl⟩ := hrel
    have ha := alS_rng l k
    have hq := spR_rng l al k
    have hc := clI_rng al
    by_cases hlt : k < l.length
    · obtain ⟨b, off, rfl, hbl, hcc⟩ := HS1.out (by omega)
      obtain ⟨b', off', hA', hbl', hcc'⟩ := HI.out (by rw [spO_len]; omega)
      subst hA'
      have c0 := hcc k hlt
      have c1 := hcc' k (by rw [spO_len]; exact hlt)
      rw [spO_get l al _ k hlt] at c1
      have he := spE_rng l al k
      have hy := clI_rng (l.getD k 0)
      have hful := full_of_less l al k
      have hts := taken_step l al k
      have t0 : 0 ≤ clI al - spR l al k ∧ clI al - spR l al k ≤ 1099511627776 := by rw [taken_all, mnI]; split <;> omega
      have hfs : fuB l al (k + 1) = (fuB l al k && (spE l al k == 0)) := rfl
      have has : alS l (k + 1) = alS l k + clI (l.getD k 0) := rfl
      obtain ⟨x1, hx1⟩ : ∃ x1, (if l.getD k 0 < 0 then 0 else l.getD k 0) = x1 := ⟨_, rfl⟩
      have hx2 := clI_if _ _ hx1
      generalize clI (l.getD k 0) = y at *
      generalize l.getD k 0 = x at *
      generalize spE l al k = o at *
      generalize alS l k = s at *
      generalize hT : clI al - spR l al k = t at *
      have hw1 : IntKind.i64.wrap (s + y) = s + y := IntWalk.i64_in _ (by omega)
      have hw2 : IntKind.i64.wrap (t + y) = t + y := IntWalk.i64_in _ (by omega)
      have hw3 : IntKind.i64.wrap (t + y - o) = t + y - o := IntWalk.i64_in _ (by omega)
      have o1 : decide (o < 0) = false := by simp; omega
      have o2 : decide (y < o) = false := by simp; omega
      have HTS := Lib.hid hts
      have HFS := Lib.hid hfs
      have HAS := Lib.hid has
      have HFU := Lib.hid hful
      clear hcc hcc' hts hfs has hful hT
      cases hF : fuB l al k with
      | true =>
        have HFk := Lib.hid hF
        clear hF
        by_cases ho : o = 0
        · have HO0 := Lib.hid ho
          have oB : (o == 0) = true := beq_iff_eq.2 ho
          clear ho
          by_cases hoy : o < y
          · have oy : decide (o < y) = true := by simpa using hoy
            clear hoy
            go_wp2_with fail
            go_quiet (fail)
            go_wp2
            go_roundw
            case rel => exact ⟨k + 1, _, by omega, by go_num, by rw [HAS.out], by rw [HTS.out], by rw [HFS.out, HFk.out]; simp [HO0.out], rfl⟩
            case measure => simp [intOf]; omega
          · have oy : decide (o < y) = false := by simpa using hoy
            clear hoy
            go_wp2_with fail
            go_quiet (fail)
            go_wp2
            go_roundw
            case rel => exact ⟨k + 1, _, by omega, by go_num, by rw [HAS.out], by rw [HTS.out], by rw [HFS.out, HFk.out]; simp [HO0.out], rfl⟩
            case measure => simp [intOf]; omega
        · have HO0 := Lib.hid ho
          have oB : (o == 0) = false := beq_eq_false_iff_ne.2 ho
          clear ho
          by_cases hoy : o < y
          · have oy : decide (o < y) = true := by simpa using hoy
            clear hoy
            go_wp2_with fail
            go_quiet (fail)
            go_wp2
            go_roundw
            case rel => exact ⟨k + 1, _, by omega, by go_num, by rw [HAS.out], by rw [HTS.out], by rw [HFS.out, HFk.out]; simp [HO0.out], rfl⟩
            case measure => simp [intOf]; omega
          · have oy : decide (o < y) = false := by simpa using hoy
            clear hoy
            go_wp2_with fail
            go_quiet (fail)
            go_wp2
            go_roundw
            case rel => exact ⟨k + 1, _, by omega, by go_num, by rw [HAS.out], by rw [HTS.out], by rw [HFS.out, HFk.out]; simp [HO0.out], rfl⟩
            case measure => simp [intOf]; omega
      | false =>
        have HFk := Lib.hid hF
        have hoy : ¬ o < y := fun h => by rw [HFU.out h] at hF; cases hF
        have oy : decide (o < y) = false := by simpa using hoy
        clear hF
        go_wp2_with fail
        go_quiet (fail)
        go_wp2
        go_roundw
        case rel => exact ⟨k + 1, _, by omega, by go_num, by rw [HAS.out], by rw [HTS.out], by rw [HFS.out, HFk.out]; rfl, rfl⟩
        case measure => simp [intOf]; omega
    · obtain rfl : k = l.length := by omega
      obtain ⟨a1, ha1⟩ : ∃ a1, (if al < 0 then 0 else al) = a1 := ⟨_, rfl⟩
      have ha2 := clI_if _ _ ha1
      obtain ⟨m, hm⟩ : ∃ m, mnI (alS l l.length) (clI al) = m := ⟨_, rfl⟩
      have hm' : (if clI al < alS l l.length then clI al else alS l l.length) = m := by rw [← hm, mnI]
      have HT : Hid (clI al - spR l al l.length = m) := Lib.hid (by rw [taken_all, hm])
      clear hm
      go_wp2_with fail
      go_ret
      exact ⟨ret_bool (beq_iff_eq.2 HT.out), below_drewN HB1.out _⟩

set_option maxHeartbeats 400000 in
theorem Spends_no (A : Option Addr) (c : Nat) (l : List Int) (al : Int) (w : World) (hl : l.length ≤ 9223372036854775807) (h : 30 < l.length) :
    Calls Try.prog 6 #[.slice A l.length c, .int .i64 al] w fun e w' => e = .returned (.bool true) ∧ Below w.heap.size w w' := by
  have g30 : decide ((30 : Int) < (l.length : Int)) = true := by simp; omega
  go_enter Try.func6, Try.ntmps6
  go_wp2_with fail
  refine (awake_any _).mono ?_
  rintro e w0 ⟨rfl, hb0⟩
  have HB0 := Lib.hid hb0
  clear hb0
  go_wp2_with fail
  go_ret
  exact ⟨rfl, HB0.out⟩

theorem Spends_all (A : Option Addr) (c : Nat) (l : List Int) (al : Int) (w : World) (hs : IntsAt w w.heap.size A l) (hl : l.length ≤ 9223372036854775807) :
    Calls Try.prog 6 #[.slice A l.length c, .int .i64 al] w fun e w' => e = .returned (.bool true) ∧ Below w.heap.size w w' := by
  rcases Nat.lt_or_ge 30 l.length with h | h
  · exact Spends_no A c l al w hl h
  · exact Spends_any A c l al w hs h

end Go.Proofs.Ytcppijoccolmkaa
