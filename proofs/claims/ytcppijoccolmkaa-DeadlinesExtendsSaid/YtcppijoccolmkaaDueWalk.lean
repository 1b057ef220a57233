/-
  The walk of DeadlinesDue.
-/
import Derived.Test.YtcppijoccolmkaaW
namespace Go.Proofs.Ytcppijoccolmkaa
open Go.RowKit

theorem ps_exts {w1 W : World} {g : Nat} {due grace : Int} {lin : Bool} {A : Option Addr} {n c : Nat} {B : Option Addr} {xs : List Ext} (hx : Hid (ExtsAt w1 w1.heap.size B xs)) (h : PS w1 g due grace lin A n c W) : ExtsAt W W.heap.size B xs := hx.out.later h.2

set_option maxHeartbeats 4000000 in
set_option maxRecDepth 100000 in
theorem DueLaw_any (due grace : Int) (lin : Bool) (A : Option Addr) (c : Nat) (l : List (Int × Int)) (B : Option Addr) (d : Nat) (xs : List Ext) (s : ByteArray) (at' tick : Int) (w : World)
    (hs : StepsAt w w.heap.size A l) (hl : l.length ≤ 9223372036854775807) (hx : ExtsAt w w.heap.size B xs) (hxl : xs.length ≤ 9223372036854775807) (hxs : ∀ x ∈ xs, x.1.size ≤ 9223372036854775807) (hsl : s.size ≤ 9223372036854775807) :
    Calls Try.prog 5 #[.agg #[.int .i64 due, .int .i64 grace, .bool lin, .slice A l.length c], .slice B xs.length d, .string s, .int .i64 at', .int .i64 tick] w fun e w' => e = .returned (.bool true) ∧ Below w.heap.size w w' := by
  have HS := Lib.hid (hs.alloc (polObj due grace lin A l.length c))
  have HX := Lib.hid (hx.alloc (polObj due grace lin A l.length c))
  have HB0 := Lib.hid ((Below.refl _ w).alloc (Nat.le_refl _) (polObj due grace lin A l.length c))
  have HXS := Lib.hid hxs
  clear hs hx hxs
  go_enter Try.func5, Try.ntmps5
  go_wp2_with fail
  refine (awake_any _).mono ?_
  rintro e w1 ⟨rfl, hb1⟩
  have HS1 := Lib.hid (HS.out.later hb1)
  have HX1 := Lib.hid (HX.out.later hb1)
  have HB1 := Lib.hid (HB0.out.trans (hb1.mono (by simp)))
  have hz1 := hb1.size
  simp only [World.size_alloc] at hz1
  have hB1 := hb1.mono (B' := w.heap.size + 1) (by simp)
  have c0 : w1.cell? ⟨w.heap.size, 0, none⟩ = some (.int .i64 due) := by rw [bcell hB1 _ _ (by omega)]; simp [go_sem]
  have c1 : w1.cell? ⟨w.heap.size, 1, none⟩ = some (.int .i64 grace) := by rw [bcell hB1 _ _ (by omega)]; simp [go_sem]
  have c2 : w1.cell? ⟨w.heap.size, 2, none⟩ = some (.bool lin) := by rw [bcell hB1 _ _ (by omega)]; simp [go_sem]
  have c3 : w1.cell? ⟨w.heap.size, 3, none⟩ = some (.slice A l.length c) := by rw [bcell hB1 _ _ (by omega)]; simp [go_sem]
  have g1 : w.heap.size < w1.heap.size := by omega
  have HP0 : Hid (PS w1 w.heap.size due grace lin A l.length c w1) := ⟨⟨⟨c0, c1⟩, c2, c3⟩, Below.refl _ _⟩
  clear hb1 hB1 HB0 HS HX
  go_wp2_with fail
  refine (few_any _ _ _ _ _ _ _ _ _ _ _ HX1.out hl hxl hsl HXS.out).mono ?_
  rintro e w2 ⟨rfl, hb2⟩
  have HB2 := Lib.hid (HB1.out.trans (hb2.mono (by omega)))
  have HS2 := Lib.hid (HS1.out.later hb2)
  have HX2 := Lib.hid (HX1.out.later hb2)
  obtain ⟨⟨⟨d0, d1⟩, d2, d3⟩, _⟩ := ps_of HP0.out hb2
  have gz : w.heap.size ≤ w2.heap.size := by have := hb2.size; omega
  have H0 : Hid (PS w2 w.heap.size due grace lin A l.length c w2) := ⟨⟨⟨d0, d1⟩, d2, d3⟩, Below.refl _ _⟩
  clear hb2 c0 c1 c2 c3 HP0 HS1 HX1
  cases hf : fewB l.length xs s with
  | false =>
    go_wp2_with fail
    go_ret
    exact ⟨rfl, HB2.out⟩
  | true =>
    obtain ⟨f1, f2, f3⟩ := fewB_iff hf
    clear hf
    go_wp2_with fail
    obtain ⟨v, hv⟩ : ∃ v, v = vldB due grace l := ⟨_, rfl⟩
    obtain ⟨du, hdu⟩ : ∃ x, x = dueI due grace l xs s tick := ⟨_, rfl⟩
    obtain ⟨la, hla⟩ : ∃ x, x = lateI due grace l at' tick := ⟨_, rfl⟩
    have K12 : Hid (∀ X, PS w2 w.heap.size due grace lin A l.length c X → Calls Try.prog 12 #[.agg #[.int .i64 due, .int .i64 grace, .bool lin, .slice A l.length c]] X fun e w' => e = .returned (.bool v) ∧ Below X.heap.size X w') := Lib.hid fun X h => by rw [hv]; exact Valid_any _ _ _ _ _ _ _ (ps_steps HS2 h) hl
    have K16 : Hid (∀ X, PS w2 w.heap.size due grace lin A l.length c X → Calls Try.prog 16 #[.agg #[.int .i64 due, .int .i64 grace, .bool lin, .slice A l.length c]] X fun e w' => e = .returned (.bool v) ∧ Below X.heap.size X w') := Lib.hid fun X h => by rw [hv]; exact rValid_any _ _ _ _ _ _ _ (ps_steps HS2 h) hl
    have K17 : Hid (∀ X, PS w2 w.heap.size due grace lin A l.length c X → Calls Try.prog 17 #[.agg #[.int .i64 due, .int .i64 grace, .bool lin, .slice A l.length c], .slice B xs.length d, .string s, .int .i64 tick] X fun e w' => e = .returned (.int .i64 du) ∧ Below X.heap.size X w') := Lib.hid fun X h => by rw [hdu]; exact Due_any _ _ _ _ _ _ _ _ _ _ _ _ (ps_steps HS2 h) (ps_exts HX2 h) hl (by omega)
    have K18 : Hid (∀ X, PS w2 w.heap.size due grace lin A l.length c X → Calls Try.prog 18 #[.agg #[.int .i64 due, .int .i64 grace, .bool lin, .slice A l.length c], .slice B xs.length d, .string s, .int .i64 tick] X fun e w' => e = .returned (.int .i64 du) ∧ Below X.heap.size X w') := Lib.hid fun X h => by rw [hdu]; exact rDue_any _ _ _ _ _ _ _ _ _ _ _ _ (ps_steps HS2 h) (ps_exts HX2 h) hl (by omega)
    have K19 : Hid (∀ X, PS w2 w.heap.size due grace lin A l.length c X → Calls Try.prog 19 #[.agg #[.int .i64 due, .int .i64 grace, .bool lin, .slice A l.length c], .int .i64 at', .int .i64 tick] X fun e w' => e = .returned (.int .i64 la) ∧ Below X.heap.size X w') := Lib.hid fun X h => by rw [hla]; exact Late_any _ _ _ _ _ _ _ _ _ (ps_steps HS2 h) hl
    have K20 : Hid (∀ X, PS w2 w.heap.size due grace lin A l.length c X → Calls Try.prog 20 #[.agg #[.int .i64 due, .int .i64 grace, .bool lin, .slice A l.length c], .int .i64 at', .int .i64 tick] X fun e w' => e = .returned (.int .i64 la) ∧ Below X.heap.size X w') := Lib.hid fun X h => by rw [hla]; exact rLate_any _ _ _ _ _ _ _ _ _ (ps_steps HS2 h) hl
    have vv : (v == v) = true := by simp
    clear hv hdu hla HS2 HX2
    go_region_held3 (fun w' => ((w'.cell? ⟨w.heap.size, 0, none⟩ = some (.int .i64 due) ∧ w'.cell? ⟨w.heap.size, 1, none⟩ = some (.int .i64 grace)) ∧ (w'.cell? ⟨w.heap.size, 2, none⟩ = some (.bool lin) ∧ w'.cell? ⟨w.heap.size, 3, none⟩ = some (.slice A l.length c))) ∧ Below w2.heap.size w2 w')
      (first | exact ps_of H0.out (Below.refl _ _).drew | exact hq8 | exact hq7 | exact hq6 | exact hq5 | exact hq4 | exact hq3)
      (first | (go_at_call 12; refine (K12.out _ (by assumption)).mono ?_; rintro e w3 ⟨rfl, hb3⟩; have hq3 := ps_call H0 hb3 (by assumption))
             | (go_at_call 16; refine (K16.out _ (by assumption)).mono ?_; rintro e w4 ⟨rfl, hb4⟩; have hq4 := ps_call H0 hb4 (by assumption))
             | (go_at_call 17; refine (K17.out _ (by assumption)).mono ?_; rintro e w5 ⟨rfl, hb5⟩; have hq5 := ps_call H0 hb5 (by assumption))
             | (go_at_call 18; refine (K18.out _ (by assumption)).mono ?_; rintro e w6 ⟨rfl, hb6⟩; have hq6 := ps_call H0 hb6 (by assumption))
             | (go_at_call 19; refine (K19.out _ (by assumption)).mono ?_; rintro e w7 ⟨rfl, hb7⟩; have hq7 := ps_call H0 hb7 (by assumption))
             | (go_at_call 20; refine (K20.out _ (by assumption)).mono ?_; rintro e w8 ⟨rfl, hb8⟩; have hq8 := ps_call H0 hb8 (by assumption)))
    all_goals
      go_wp2_with fail
      go_ret
      exact ⟨rfl, HB2.out.trans (hq8.2.mono gz)⟩

end Go.Proofs.Ytcppijoccolmkaa
