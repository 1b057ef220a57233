/-
  The contracts of the small functions of package deadlines.
-/
import Derived.Test.YtcppijoccolmkaaRows
import Derived.WalkKit
import Derived.WalkSpells
import Derived.WalkLawsBesides
import Derived.BigQuiet
import Derived.Deep.QuietTactic
import Derived.Lib.Hide
import Derived.BigGuardPart
namespace Go.Proofs.Ytcppijoccolmkaa
open Go.RowKit

/-- A number is a tick. -/
def tmB (t : Int) : Bool := decide (0 ≤ t) && decide (t ≤ 1099511627776)
/-- A number is a percentage. -/
def pcB (t : Int) : Bool := decide (0 ≤ t) && decide (t ≤ 100)

theorem tmB_iff (t : Int) : tmB t = true ↔ 0 ≤ t ∧ t ≤ 1099511627776 := by simp [tmB]
theorem pcB_iff (t : Int) : pcB t = true ↔ 0 ≤ t ∧ t ≤ 100 := by simp [pcB]
theorem tmB_not (t : Int) : tmB t = false ↔ t < 0 ∨ 1099511627776 < t := by
  rw [← Bool.not_eq_true, tmB_iff]; omega
theorem pcB_not (t : Int) : pcB t = false ↔ t < 0 ∨ 100 < t := by
  rw [← Bool.not_eq_true, pcB_iff]; omega

set_option maxHeartbeats 400000 in
theorem isTime_any (t : Int) (w : World) : Calls Try.prog 29 #[.int .i64 t] w fun e w' => e = .returned (.bool (tmB t)) ∧ w = w' := by
  by_cases h : 0 ≤ t
  · have e : tmB t = decide (t ≤ 1099511627776) := by simp [tmB, h]
    rw [e]
    clear e
    go_enter Try.func29, Try.ntmps29
    go_wp2
    go_ret
    exact ⟨rfl, rfl⟩
  · have e : tmB t = false := by simp [tmB, h]
    rw [e]
    clear e
    go_enter Try.func29, Try.ntmps29
    go_wp2
    go_ret
    exact ⟨rfl, rfl⟩

set_option maxHeartbeats 400000 in
theorem isPercent_any (t : Int) (w : World) : Calls Try.prog 32 #[.int .i64 t] w fun e w' => e = .returned (.bool (pcB t)) ∧ w = w' := by
  by_cases h : 0 ≤ t
  · have e : pcB t = decide (t ≤ 100) := by simp [pcB, h]
    rw [e]
    clear e
    go_enter Try.func32, Try.ntmps32
    go_wp2
    go_ret
    exact ⟨rfl, rfl⟩
  · have e : pcB t = false := by simp [pcB, h]
    rw [e]
    clear e
    go_enter Try.func32, Try.ntmps32
    go_wp2
    go_ret
    exact ⟨rfl, rfl⟩

set_option maxHeartbeats 400000 in
theorem rtime_any (t : Int) (w : World) : Calls Try.prog 35 #[.int .i64 t] w fun e w' => e = .returned (.bool (tmB t)) ∧ w = w' := by
  by_cases h : 0 ≤ t
  · have e : tmB t = decide (t ≤ 1099511627776) := by simp [tmB, h]
    rw [e]
    clear e
    go_enter Try.func35, Try.ntmps35
    go_wp2
    go_ret
    exact ⟨rfl, rfl⟩
  · have e : tmB t = false := by simp [tmB, h]
    rw [e]
    clear e
    go_enter Try.func35, Try.ntmps35
    go_wp2
    go_ret
    exact ⟨rfl, rfl⟩

/-- The steps of a policy lie in memory, below block B: two cells a step. -/
def StepsAt (w : World) (B : Nat) (A : Option Addr) (l : List (Int × Int)) : Prop :=
  0 < l.length → ∃ b off, A = some ⟨b, off, none⟩ ∧ b < B ∧ ∀ k, k < l.length → w.cell? ⟨b, off + k * 2, none⟩ = some (.int .i64 (l.getD k (0, 0)).1) ∧ w.cell? ⟨b, off + k * 2 + 1, none⟩ = some (.int .i64 (l.getD k (0, 0)).2)

theorem StepsAt.keep {w w' : World} {B : Nat} {A : Option Addr} {l : List (Int × Int)} (h : StepsAt w B A l) (hk : ∀ p : Addr, p.block < B → w'.cell? p = w.cell? p) : StepsAt w' B A l := fun hn => by
  obtain ⟨b, off, e, hb, hc⟩ := h hn
  exact ⟨b, off, e, hb, fun k hkl => ⟨(hk ⟨b, _, none⟩ hb).trans (hc k hkl).1, (hk ⟨b, _, none⟩ hb).trans (hc k hkl).2⟩⟩
theorem StepsAt.below {w w' : World} {B : Nat} {A : Option Addr} {l : List (Int × Int)} (h : StepsAt w B A l) (hb : Below B w w') : StepsAt w' B A l := h.keep fun _ hp => hb.cell hp
theorem StepsAt.more {w : World} {B B' : Nat} {A : Option Addr} {l : List (Int × Int)} (h : StepsAt w B A l) (hB : B ≤ B') : StepsAt w B' A l := fun hn => by
  obtain ⟨b, off, e, hb, hc⟩ := h hn
  exact ⟨b, off, e, by omega, hc⟩

/-- Step i of a policy may stand where it stands. -/
def okAt (l : List (Int × Int)) (i : Nat) : Bool :=
  tmB (l.getD i (0, 0)).1 && pcB (l.getD i (0, 0)).2 && (decide (i = 0) || (decide ((l.getD (i - 1) (0, 0)).1 < (l.getD i (0, 0)).1) && decide ((l.getD i (0, 0)).2 ≤ (l.getD (i - 1) (0, 0)).2)))
/-- The first k steps may stand where they stand. -/
def okTo (l : List (Int × Int)) : Nat → Bool
  | 0 => true
  | k + 1 => okTo l k && okAt l k
/-- A policy is valid. -/
def vldB (due grace : Int) (l : List (Int × Int)) : Bool := tmB due && tmB grace && decide (l.length ≤ 16) && okTo l l.length

theorem okTo_le {l : List (Int × Int)} {k m : Nat} (h : k ≤ m) (hm : okTo l m = true) : okTo l k = true := by
  induction m with
  | zero => obtain rfl : k = 0 := by omega
            exact hm
  | succ m ih =>
    simp only [okTo, Bool.and_eq_true] at hm
    rcases Nat.lt_or_ge k (m + 1) with h' | h'
    · exact ih (by omega) hm.1
    · obtain rfl : k = m + 1 := by omega
      simp only [okTo, Bool.and_eq_true]; exact hm
theorem okTo_at {l : List (Int × Int)} {k m : Nat} (h : k < m) (hm : okTo l m = true) : okAt l k = true := by
  have := okTo_le (show k + 1 ≤ m from h) hm
  simp only [okTo, Bool.and_eq_true] at this
  exact this.2
theorem okTo_bad {l : List (Int × Int)} {k m : Nat} (h : k < m) (hk : okAt l k = false) : okTo l m = false := by
  rw [← Bool.not_eq_true]
  intro hm
  rw [okTo_at h hm] at hk
  cases hk

end Go.Proofs.Ytcppijoccolmkaa
