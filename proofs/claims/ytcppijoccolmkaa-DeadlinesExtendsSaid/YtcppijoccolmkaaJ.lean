/-
  The contract of awake: the examples of the chapter.
-/
import Derived.Test.YtcppijoccolmkaaI
namespace Go.Proofs.Ytcppijoccolmkaa
open Go.RowKit

/-- The steps of the example. -/
abbrev exl : List (Int × Int) := [(0, 90), (10, 50)]
theorem ex_vld : vldB 0 2 exl = true := by decide
theorem ex_f3 : fr (fac false exl 3) 10000 = (9, 10) := by decide
theorem ex_f10 : fr (fac false exl 10) 10000 = (9, 10) := by decide
theorem ex_f11 : fr (fac false exl 11) 10000 = (1, 2) := by decide
theorem ex_f5 : fr (fac true exl 5) 10000 = (7, 10) := by decide
theorem ex_l7 : lateI 0 2 exl 5 7 = 0 := by decide
theorem ex_l8 : lateI 0 2 exl 5 8 = 3 := by decide

set_option maxHeartbeats 400000 in
theorem awake1_any (a b : Int) (w : World) : Calls Try.prog 28 #[.int .i64 a, .int .i64 b] w fun e w' => e = .returned (frV (a, b)) ∧ Below w.heap.size w w' := by
  go_enter Try.func28, Try.ntmps28
  go_wp2
  refine bodyPost_ret (v := .agg #[.int .i64 a, .int .i64 b]) (by simp [results, Try.results28, go_sem]) rfl ⟨rfl, ?_⟩
  exact (Below.refl _ w).alloc (Nat.le_refl _) _

/-- A call with the example's policy. -/
theorem ex_Factor (lin : Bool) (t : Int) (b : Nat) (x : Int × Int) (w : World) (hs : StepsAt w w.heap.size (some ⟨b, 0, none⟩) exl) (ht0 : 0 ≤ t) (ht1 : t ≤ 1099511627776) (hx : fr (fac lin exl t) 10000 = x) :
    Calls Try.prog 11 #[.agg #[.int .i64 0, .int .i64 2, .bool lin, .slice (some ⟨b, 0, none⟩) 2 2], .int .i64 t] w fun e w' => e = .returned (.agg #[.int .i64 x.1, .int .i64 x.2]) ∧ Below w.heap.size w w' := by
  rw [← hx]
  exact Factor_yes 0 2 lin (some ⟨b, 0, none⟩) 2 exl t w hs ex_vld ht0 ht1
theorem ex_Late (lin : Bool) (d t : Int) (b : Nat) (x : Int) (w : World) (hs : StepsAt w w.heap.size (some ⟨b, 0, none⟩) exl) (hx : lateI 0 2 exl d t = x) :
    Calls Try.prog 19 #[.agg #[.int .i64 0, .int .i64 2, .bool lin, .slice (some ⟨b, 0, none⟩) 2 2], .int .i64 d, .int .i64 t] w fun e w' => e = .returned (.int .i64 x) ∧ Below w.heap.size w w' := by
  rw [← hx]
  exact Late_any 0 2 lin (some ⟨b, 0, none⟩) 2 exl d t w hs (by decide)

theorem ex_steps (w : World) (o1 o2 : Obj) : StepsAt (((w.alloc (.cells #[.int .i64 0, .int .i64 90, .int .i64 10, .int .i64 50] 34)).alloc o1).alloc o2) (((w.alloc (.cells #[.int .i64 0, .int .i64 90, .int .i64 10, .int .i64 50] 34)).alloc o1).alloc o2).heap.size (some ⟨w.heap.size, 0, none⟩) exl := by
  refine StepsAt.alloc (StepsAt.alloc ?_ _) _
  intro _
  refine ⟨w.heap.size, 0, rfl, by simp, ?_⟩
  intro k hk
  have hk2 : k < 2 := hk
  have hB := Blk.new w 34 #[.int .i64 0, .int .i64 90, .int .i64 10, .int .i64 50]
  match k, hk2 with
  | 0, _ => exact ⟨hB.cell 0, hB.cell 1⟩
  | 1, _ => exact ⟨hB.cell 2, hB.cell 3⟩

set_option maxHeartbeats 1000000 in
theorem awake_any (w : World) : Calls Try.prog 10 #[] w fun e w' => e = .returned (.bool true) ∧ Below w.heap.size w w' := by
  have hB0 : ∀ o0 o1 o2, Below w.heap.size w (((w.alloc o0).alloc o1).alloc o2) := fun o0 o1 o2 => (((Below.refl _ w).alloc (Nat.le_refl _) _).alloc (by simp) _).alloc (by simp; omega) _
  have HS0 := Lib.hid (ex_steps w)
  have HB0 := Lib.hid hB0
  clear hB0
  go_enter Try.func10, Try.ntmps10
  go_wp2_with fail
  refine (ex_Factor false _ _ _ _ (HS0.out _ _) (by omega) (by omega) ex_f3).mono ?_
  rintro e w1 ⟨rfl, hb1⟩
  have HS1 := Lib.hid (StepsAt.later (HS0.out _ _) hb1)
  have hz1 := hb1.size
  have hc1 := bcell hb1
  simp only [World.size_alloc] at hc1 hz1
  have g1 : w.heap.size + 1 < w.heap.size + 1 + 1 + 1 := by omega
  have g2 : w.heap.size + 1 + 1 < w.heap.size + 1 + 1 + 1 := by omega
  have HB1 := Lib.hid ((HB0.out _ _ _).trans (hb1.mono (by simp; omega)))
  have hy1 : w.heap.size ≤ w1.heap.size := by omega
  clear hb1
  go_wp2_with fail
  refine (awake1_any _ _ _).mono ?_
  rintro e w2 ⟨rfl, hb2⟩
  have HS2 := Lib.hid (StepsAt.later HS1.out hb2)
  have hz2 := hb2.size
  have hc2 : ∀ b o, b < w.heap.size + 1 + 1 + 1 → w2.cell? ⟨b, o, none⟩ = _ := fun b o h => (bcell hb2 b o (by omega)).trans (hc1 b o h)
  have HB2 := Lib.hid (HB1.out.trans (hb2.mono (by omega)))
  clear hc1 HB1 HS1
  clear hb2
  go_wp2_with fail
  refine (ex_Factor false _ _ _ _ HS2.out (by omega) (by omega) ex_f10).mono ?_
  rintro e w3 ⟨rfl, hb3⟩
  have HS3 := Lib.hid (StepsAt.later HS2.out hb3)
  have hz3 := hb3.size
  have hc3 : ∀ b o, b < w.heap.size + 1 + 1 + 1 → w3.cell? ⟨b, o, none⟩ = _ := fun b o h => (bcell hb3 b o (by omega)).trans (hc2 b o h)
  have HB3 := Lib.hid (HB2.out.trans (hb3.mono (by omega)))
  clear hc2 HB2 HS2
  clear hb3
  go_wp2_with fail
  refine (awake1_any _ _ _).mono ?_
  rintro e w4 ⟨rfl, hb4⟩
  have HS4 := Lib.hid (StepsAt.later HS3.out hb4)
  have hz4 := hb4.size
  have hc4 : ∀ b o, b < w.heap.size + 1 + 1 + 1 → w4.cell? ⟨b, o, none⟩ = _ := fun b o h => (bcell hb4 b o (by omega)).trans (hc3 b o h)
  have HB4 := Lib.hid (HB3.out.trans (hb4.mono (by omega)))
  clear hc3 HB3 HS3
  clear hb4
  go_wp2_with fail
  refine (ex_Factor false _ _ _ _ HS4.out (by omega) (by omega) ex_f11).mono ?_
  rintro e w5 ⟨rfl, hb5⟩
  have HS5 := Lib.hid (StepsAt.later HS4.out hb5)
  have hz5 := hb5.size
  have hc5 : ∀ b o, b < w.heap.size + 1 + 1 + 1 → w5.cell? ⟨b, o, none⟩ = _ := fun b o h => (bcell hb5 b o (by omega)).trans (hc4 b o h)
  have HB5 := Lib.hid (HB4.out.trans (hb5.mono (by omega)))
  clear hc4 HB4 HS4
  clear hb5
  go_wp2_with fail
  refine (awake1_any _ _ _).mono ?_
  rintro e w6 ⟨rfl, hb6⟩
  have HS6 := Lib.hid (StepsAt.later HS5.out hb6)
  have hz6 := hb6.size
  have hc6 : ∀ b o, b < w.heap.size + 1 + 1 + 1 → w6.cell? ⟨b, o, none⟩ = _ := fun b o h => (bcell hb6 b o (by omega)).trans (hc5 b o h)
  have HB6 := Lib.hid (HB5.out.trans (hb6.mono (by omega)))
  clear hc5 HB5 HS5
  clear hb6
  go_wp2_with fail
  refine (ex_Factor true _ _ _ _ HS6.out (by omega) (by omega) ex_f5).mono ?_
  rintro e w7 ⟨rfl, hb7⟩
  have HS7 := Lib.hid (StepsAt.later HS6.out hb7)
  have hz7 := hb7.size
  have hc7 : ∀ b o, b < w.heap.size + 1 + 1 + 1 → w7.cell? ⟨b, o, none⟩ = _ := fun b o h => (bcell hb7 b o (by omega)).trans (hc6 b o h)
  have HB7 := Lib.hid (HB6.out.trans (hb7.mono (by omega)))
  clear hc6 HB6 HS6
  clear hb7
  go_wp2_with fail
  refine (awake1_any _ _ _).mono ?_
  rintro e w8 ⟨rfl, hb8⟩
  have HS8 := Lib.hid (StepsAt.later HS7.out hb8)
  have hz8 := hb8.size
  have hc8 : ∀ b o, b < w.heap.size + 1 + 1 + 1 → w8.cell? ⟨b, o, none⟩ = _ := fun b o h => (bcell hb8 b o (by omega)).trans (hc7 b o h)
  have HB8 := Lib.hid (HB7.out.trans (hb8.mono (by omega)))
  clear hc7 HB7 HS7
  clear hb8
  go_wp2_with fail
  refine (ex_Late false _ _ _ _ _ HS8.out ex_l7).mono ?_
  rintro e w9 ⟨rfl, hb9⟩
  have HS9 := Lib.hid (StepsAt.later HS8.out hb9)
  have hz9 := hb9.size
  have hc9 : ∀ b o, b < w.heap.size + 1 + 1 + 1 → w9.cell? ⟨b, o, none⟩ = _ := fun b o h => (bcell hb9 b o (by omega)).trans (hc8 b o h)
  have HB9 := Lib.hid (HB8.out.trans (hb9.mono (by omega)))
  clear hc8 HB8 HS8
  clear hb9
  go_wp2_with fail
  refine (ex_Late false _ _ _ _ _ HS9.out ex_l8).mono ?_
  rintro e w10 ⟨rfl, hb10⟩
  have HS10 := Lib.hid (StepsAt.later HS9.out hb10)
  have hz10 := hb10.size
  have hc10 : ∀ b o, b < w.heap.size + 1 + 1 + 1 → w10.cell? ⟨b, o, none⟩ = _ := fun b o h => (bcell hb10 b o (by omega)).trans (hc9 b o h)
  have HB10 := Lib.hid (HB9.out.trans (hb10.mono (by omega)))
  clear hc9 HB9 HS9
  clear hb10
  go_wp2_with fail
  go_ret
  exact ⟨rfl, HB10.out⟩

end Go.Proofs.Ytcppijoccolmkaa
