/-
  The contract of deadlines.Valid.
-/
import Derived.Test.YtcppijoccolmkaaA
namespace Go.Proofs.Ytcppijoccolmkaa
open Go.RowKit

theorem quiet_left {P : Program} {f : FuncId} {args : Array Value} {w : World} {n : Nat} {v : Value}
    (h : Calls P f args (w.drewN n) fun e w' => e = .returned v ∧ w.drewN n = w') : Calls P f args (w.drewN n) fun e w'' => e = .returned v ∧ ∃ m, w'' = w.drewN m :=
  h.mono fun _ _ ⟨he, hm⟩ => ⟨he, n, hm.symm⟩
theorem bcell {B : Nat} {W w1 : World} (hb : Below B W w1) : (∀ b o, b < B → w1.cell? ⟨b, o, none⟩ = W.cell? ⟨b, o, none⟩) :=
  fun b o h => hb.cell (p := ⟨b, o, none⟩) h

/-- The policy's box. -/
abbrev polObj (due grace : Int) (lin : Bool) (A : Option Addr) (n c : Nat) : Obj := .cells #[.int .i64 due, .int .i64 grace, .bool lin, .slice A n c] 24

theorem okAt_cases (l : List (Int × Int)) (k : Nat) : okAt l k = false → tmB (l.getD k (0, 0)).1 = true → pcB (l.getD k (0, 0)).2 = true →
    0 < k ∧ ((l.getD k (0, 0)).1 ≤ (l.getD (k - 1) (0, 0)).1 ∨ (l.getD (k - 1) (0, 0)).2 < (l.getD k (0, 0)).2) := by
  intro h a b
  simp only [okAt, a, b, Bool.and_self, Bool.true_and, Bool.or_eq_false_iff, decide_eq_false_iff_not, Bool.and_eq_false_iff] at h
  omega


theorem below_drewN {B : Nat} {a w : World} (h : Below B a w) (n : Nat) : Below B a (w.drewN n) := ⟨h.os, h.tape, h.output, h.size, h.block⟩
theorem below_step {B : Nat} {W wr : World} (h : Below B W wr) (hB : B ≤ wr.heap.size) (o : Obj) (n : Nat) : Below B W ((wr.alloc o).drewN n) := below_drewN (h.alloc hB o) n
theorem below_fin {w w' : World} {o : Obj} (h : Below (w.heap.size + 1) (w.alloc o) w') : Below w.heap.size w w' :=
  ((Below.refl _ w).alloc (Nat.le_refl _) _).trans (h.mono (by omega))
theorem ret_bool {a b : Bool} (h : a = b) : Ending.returned (.bool a) = .returned (.bool b) := by rw [h]
theorem ret_int {k : IntKind} {a b : Int} (h : a = b) : Ending.returned (.int k a) = .returned (.int k b) := by rw [h]

theorem vldB_bad {due grace : Int} {l : List (Int × Int)} {k : Nat} (h : k < l.length) (hk : okAt l k = false) : vldB due grace l = false := by
  rw [vldB, okTo_bad h hk, Bool.and_false]
theorem okAt_t {l : List (Int × Int)} {k : Nat} {x : Int} (hx : x = (l.getD k (0, 0)).1) (h : tmB x = false) : okAt l k = false := by
  rw [okAt, ← hx, h]; rfl
theorem okAt_p {l : List (Int × Int)} {k : Nat} {x : Int} (hx : x = (l.getD k (0, 0)).2) (h : pcB x = false) : okAt l k = false := by
  rw [okAt, ← hx, h]; simp
theorem okAt_zero {l : List (Int × Int)} {k : Nat} {x y : Int} (hx : x = (l.getD k (0, 0)).1) (hy : y = (l.getD k (0, 0)).2) (h : tmB x = true) (h' : pcB y = true) (hk : k = 0) : okAt l k = true := by
  rw [okAt, ← hx, ← hy, h, h']; simp [hk]
theorem okAt_succ {l : List (Int × Int)} {k : Nat} {x y x' y' : Int} (hx : x = (l.getD k (0, 0)).1) (hy : y = (l.getD k (0, 0)).2) (hx' : x' = (l.getD (k - 1) (0, 0)).1) (hy' : y' = (l.getD (k - 1) (0, 0)).2)
    (h : tmB x = true) (h' : pcB y = true) (hk : 0 < k) : okAt l k = (decide (x' < x) && decide (y ≤ y')) := by
  rw [okAt, ← hx, ← hy, ← hx', ← hy', h, h']; simp [show k ≠ 0 by omega]

set_option maxHeartbeats 1000000 in
theorem Valid_any (due grace : Int) (lin : Bool) (A : Option Addr) (c : Nat) (l : List (Int × Int)) (w : World) (hs : StepsAt w w.heap.size A l) (hl : l.length ≤ 9223372036854775807) :
    Calls Try.prog 12 #[.agg #[.int .i64 due, .int .i64 grace, .bool lin, .slice A l.length c]] w fun e w' => e = .returned (.bool (vldB due grace l)) ∧ Below w.heap.size w w' := by
  by_cases h1 : tmB due = true
  · by_cases h2 : tmB grace = true
    · by_cases h3 : l.length ≤ 16
      · have hg : decide ((16 : Int) < (l.length : Int)) = false := by simp; omega
        go_enter Try.func12, Try.ntmps12
        go_wp2_with (go_at_call 29; refine (isTime_any _ _).mono ?_; rintro e w' ⟨rfl, rfl⟩)
        go_loopw [24] (fun i wr => ∃ k : Nat, k ≤ l.length ∧ i = .int .i64 k ∧ okTo l k = true ∧ Below (w.heap.size + 1) (w.alloc (polObj due grace lin A l.length c)) wr) (fun i _ => l.length - (intOf i).toNat)
        case atStart => exact ⟨0, Nat.zero_le _, rfl, rfl, Below.refl _ _⟩
        case round =>
          obtain ⟨k, hk, rfl, hok, hb⟩ := hrel
          have HOK := Lib.hid hok
          clear hok
          by_cases hlt : k < l.length
          · obtain ⟨b, off, rfl, hbl, hc⟩ := hs (by omega)
            have hcell := bcell hb
            have hz := hb.size
            simp only [World.size_alloc] at hz
            have hz1 : w.heap.size < wr.heap.size := by omega
            have hbz : b < wr.heap.size := by omega
            have c0 : wr.cell? ⟨b, off + k * 2, none⟩ = some (.int .i64 (l.getD k (0, 0)).1) := by
              rw [hcell b _ (by omega), World.cell?_alloc_lt _ _ _ hbl]; exact (hc k hlt).1
            have c1 : wr.cell? ⟨b, off + k * 2 + 1, none⟩ = some (.int .i64 (l.getD k (0, 0)).2) := by
              rw [hcell b _ (by omega), World.cell?_alloc_lt _ _ _ hbl]; exact (hc k hlt).2
            have cp : wr.cell? ⟨w.heap.size, 3, none⟩ = some (.slice (some ⟨b, off, none⟩) l.length c) := by
              rw [hcell _ _ (by omega)]; simp
            obtain ⟨x, hx⟩ : ∃ x, x = (l.getD k (0, 0)).1 := ⟨_, rfl⟩
            obtain ⟨y, hy⟩ : ∃ y, y = (l.getD k (0, 0)).2 := ⟨_, rfl⟩
            rw [← hx] at c0
            rw [← hy] at c1
            have HB := Lib.hid hb
            have HC := Lib.hid hc
            have HL := Lib.hid hcell
            have HX := Lib.hid hx
            have HY := Lib.hid hy
            clear hb hc hcell hx hy
            by_cases t1 : tmB x = true
            · by_cases t2 : pcB y = true
              · by_cases t3 : k = 0
                · have t3' : decide (0 < k) = false := by simp; omega
                  have T3 := Lib.hid t3
                  clear t3
                  go_wp2_with fail
                  go_quiet (first | ((go_at_call 29; exact quiet_left (isTime_any _ _))) | ((go_at_call 32; exact quiet_left (isPercent_any _ _))))
                  go_wp2
                  go_roundw
                  case rel => exact ⟨k + 1, by omega, by go_num, by rw [okTo, HOK.out, okAt_zero HX.out HY.out t1 t2 T3.out]; rfl, below_step HB.out (by omega) _ _⟩
                  case measure => simp [intOf]; omega
                · have t3' : 0 < k := by omega
                  obtain ⟨x', hx'⟩ : ∃ x, x = (l.getD (k - 1) (0, 0)).1 := ⟨_, rfl⟩
                  obtain ⟨y', hy'⟩ : ∃ y, y = (l.getD (k - 1) (0, 0)).2 := ⟨_, rfl⟩
                  have d0 : wr.cell? ⟨b, off + (k - 1) * 2, none⟩ = some (.int .i64 x') := by
                    rw [HL.out b _ (by omega), World.cell?_alloc_lt _ _ _ hbl, hx']; exact (HC.out (k - 1) (by omega)).1
                  have d1 : wr.cell? ⟨b, off + (k - 1) * 2 + 1, none⟩ = some (.int .i64 y') := by
                    rw [HL.out b _ (by omega), World.cell?_alloc_lt _ _ _ hbl, hy']; exact (HC.out (k - 1) (by omega)).2
                  have HX' := Lib.hid hx'
                  have HY' := Lib.hid hy'
                  have HE := Lib.hid (okAt_succ HX.out HY.out hx' hy' t1 t2 t3')
                  clear hx' hy' t3
                  have tk : (1 : Int) ≤ (k : Int) := by omega
                  have i2 : ((k : Int) - 1).toNat = k - 1 := by omega
                  have i3 : (k : Int) - 1 < (l.length : Int) := by omega
                  by_cases t4 : x ≤ x'
                  · have t4' : decide (x ≤ x') = true := by simpa using t4
                    go_wp2_with fail
                    go_quiet (first | ((go_at_call 29; exact quiet_left (isTime_any _ _))) | ((go_at_call 32; exact quiet_left (isPercent_any _ _))))
                    go_wp2
                    go_ret
                    exact ⟨ret_bool (vldB_bad hlt (by rw [HE.out, decide_eq_false (by omega)]; rfl)).symm, below_fin (below_step HB.out (by omega) _ _)⟩
                  · have t4' : decide (x ≤ x') = false := by simpa using t4
                    by_cases t5 : y' < y
                    · have t5' : decide (y' < y) = true := by simpa using t5
                      go_wp2_with fail
                      go_quiet (first | ((go_at_call 29; exact quiet_left (isTime_any _ _))) | ((go_at_call 32; exact quiet_left (isPercent_any _ _))))
                      go_wp2
                      go_ret
                      exact ⟨ret_bool (vldB_bad hlt (by rw [HE.out, decide_eq_false (show ¬ y ≤ y' by omega), Bool.and_false])).symm, below_fin (below_step HB.out (by omega) _ _)⟩
                    · have t5' : decide (y' < y) = false := by simpa using t5
                      go_wp2_with fail
                      go_quiet (first | ((go_at_call 29; exact quiet_left (isTime_any _ _))) | ((go_at_call 32; exact quiet_left (isPercent_any _ _))))
                      go_wp2
                      go_roundw
                      case rel => exact ⟨k + 1, by omega, by go_num, by rw [okTo, HOK.out, HE.out, decide_eq_true (show x' < x by omega), decide_eq_true (show y ≤ y' by omega)]; rfl, below_step HB.out (by omega) _ _⟩
                      case measure => simp [intOf]; omega
              · rw [Bool.not_eq_true] at t2
                go_wp2_with fail
                go_quiet (first | ((go_at_call 29; exact quiet_left (isTime_any _ _))) | ((go_at_call 32; exact quiet_left (isPercent_any _ _))))
                go_wp2
                go_ret
                exact ⟨ret_bool (vldB_bad hlt (okAt_p HY.out t2)).symm, below_fin (below_step HB.out (by omega) _ _)⟩
            · rw [Bool.not_eq_true] at t1
              go_wp2_with fail
              go_quiet (first | ((go_at_call 29; exact quiet_left (isTime_any _ _))) | ((go_at_call 32; exact quiet_left (isPercent_any _ _))))
              go_wp2
              go_ret
              exact ⟨ret_bool (vldB_bad hlt (okAt_t HX.out t1)).symm, below_fin (below_step HB.out (by omega) _ _)⟩
          · have HB := Lib.hid hb
            clear hb
            go_wp2_with fail
            go_ret
            obtain rfl : k = l.length := by omega
            exact ⟨ret_bool (by rw [vldB, h1, h2, HOK.out, decide_eq_true h3]; rfl), below_fin HB.out⟩
      · have hg : decide ((16 : Int) < (l.length : Int)) = true := by simp; omega
        have hv : vldB due grace l = false := by rw [vldB, decide_eq_false h3]; simp
        rw [hv]
        clear hv
        go_enter Try.func12, Try.ntmps12
        go_wp2_with (go_at_call 29; refine (isTime_any _ _).mono ?_; rintro e w' ⟨rfl, rfl⟩)
        go_ret
        exact ⟨rfl, below_fin (Below.refl _ _)⟩
    · rw [Bool.not_eq_true] at h2
      have hv : vldB due grace l = false := by rw [vldB, h2]; simp
      rw [hv]
      clear hv
      go_enter Try.func12, Try.ntmps12
      go_wp2_with (go_at_call 29; refine (isTime_any _ _).mono ?_; rintro e w' ⟨rfl, rfl⟩)
      go_ret
      exact ⟨rfl, below_fin (Below.refl _ _)⟩
  · rw [Bool.not_eq_true] at h1
    have hv : vldB due grace l = false := by rw [vldB, h1]; simp
    rw [hv]
    clear hv
    go_enter Try.func12, Try.ntmps12
    go_wp2_with (go_at_call 29; refine (isTime_any _ _).mono ?_; rintro e w' ⟨rfl, rfl⟩)
    go_ret
    exact ⟨rfl, below_fin (Below.refl _ _)⟩
end Go.Proofs.Ytcppijoccolmkaa
