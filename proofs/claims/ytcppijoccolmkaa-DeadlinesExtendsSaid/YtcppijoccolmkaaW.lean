/-
  The contracts of few, deadlines.Due, and of the references' Valid, Due and Late.
-/
import Derived.Test.YtcppijoccolmkaaQ
namespace Go.Proofs.Ytcppijoccolmkaa
open Go.RowKit

set_option maxHeartbeats 1000000 in
theorem rValid_any (due grace : Int) (lin : Bool) (A : Option Addr) (c : Nat) (l : List (Int × Int)) (w : World) (hs : StepsAt w w.heap.size A l) (hl : l.length ≤ 9223372036854775807) :
    Calls Try.prog 16 #[.agg #[.int .i64 due, .int .i64 grace, .bool lin, .slice A l.length c]] w fun e w' => e = .returned (.bool (vldB due grace l)) ∧ Below w.heap.size w w' := by
  by_cases h1 : tmB due = true
  · by_cases h2 : tmB grace = true
    · by_cases h3 : l.length ≤ 16
      · have hg : decide ((16 : Int) < (l.length : Int)) = false := by simp; omega
        go_enter Try.func16, Try.ntmps16
        go_wp2_with (go_at_call 35; refine (rtime_any _ _).mono ?_; rintro e w' ⟨rfl, rfl⟩)
        go_loopw [3] (fun i wr => ∃ k : Nat, k ≤ l.length ∧ i = .int .i64 k ∧ okTo l k = true ∧ Below (w.heap.size + 1) (w.alloc (polObj due grace lin A l.length c)) wr) (fun i _ => l.length - (intOf i).toNat)
        case atStart => exact ⟨0, Nat.zero_le _, rfl, rfl, Below.refl _ _⟩
        case round =>
          obtain ⟨k, hk, rfl, hok, hb⟩ := hrel
          have HOK := Lib.hid hok
          clear hok
          have hcell := bcell hb
          have hz := hb.size
          simp only [World.size_alloc] at hz
          have hz1 : w.heap.size < wr.heap.size := by omega
          have cp : wr.cell? ⟨w.heap.size, 3, none⟩ = some (.slice A l.length c) := by rw [hcell _ _ (by omega)]; simp
          by_cases hlt : k < l.length
          · obtain ⟨b, off, rfl, hbl, hc⟩ := hs (by omega)
            have hbz : b < wr.heap.size := by omega
            have c0 : wr.cell? ⟨b, off + k * 2, none⟩ = some (.int .i64 (l.getD k (0, 0)).1) := by
              rw [hcell b _ (by omega), World.cell?_alloc_lt _ _ _ hbl]; exact (hc k hlt).1
            have c1 : wr.cell? ⟨b, off + k * 2 + 1, none⟩ = some (.int .i64 (l.getD k (0, 0)).2) := by
              rw [hcell b _ (by omega), World.cell?_alloc_lt _ _ _ hbl]; exact (hc k hlt).2
            obtain ⟨x, hx⟩ : ∃ x, x = (l.getD k (0, 0)).1 := ⟨_, rfl⟩
            obtain ⟨y, hy⟩ : ∃ y, y = (l.getD k (0, 0)).2 := ⟨_, rfl⟩
            rw [← hx] at c0
            rw [← hy] at c1
            have HB := Lib.hid hb
            have HC := Lib.hid hc
            have HL := Lib.hid hcell
            have HX := Lib.hid hx
            have HY := Lib.hid hy
            clear hb hc hcell hx hy
            by_cases t1 : tmB x = true
            · by_cases t2 : pcB y = true
              · have y0 : decide (y < 0) = false := by have := (pcB_iff y).1 t2; simp; omega
                have y1 : decide (100 < y) = false := by have := (pcB_iff y).1 t2; simp; omega
                by_cases t3 : k = 0
                · have t3' : decide (0 < k) = false := by simp; omega
                  have T3 := Lib.hid t3
                  clear t3
                  go_wp2_with fail
                  go_quiet ((go_at_call 35; exact quiet_left (rtime_any _ _)))
                  go_wp2
                  go_roundw
                  case rel => exact ⟨k + 1, by omega, by go_num, by rw [okTo, HOK.out, okAt_zero HX.out HY.out t1 t2 T3.out]; rfl, below_step HB.out (by omega) _ _⟩
                  case measure => simp [intOf]; omega
                · have t3' : 0 < k := by omega
                  obtain ⟨x', hx'⟩ : ∃ x, x = (l.getD (k - 1) (0, 0)).1 := ⟨_, rfl⟩
                  obtain ⟨y', hy'⟩ : ∃ y, y = (l.getD (k - 1) (0, 0)).2 := ⟨_, rfl⟩
                  have d0 : wr.cell? ⟨b, off + (k - 1) * 2, none⟩ = some (.int .i64 x') := by
                    rw [HL.out b _ (by omega), World.cell?_alloc_lt _ _ _ hbl, hx']; exact (HC.out (k - 1) (by omega)).1
                  have d1 : wr.cell? ⟨b, off + (k - 1) * 2 + 1, none⟩ = some (.int .i64 y') := by
                    rw [HL.out b _ (by omega), World.cell?_alloc_lt _ _ _ hbl, hy']; exact (HC.out (k - 1) (by omega)).2
                  have HX' := Lib.hid hx'
                  have HY' := Lib.hid hy'
                  have HE := Lib.hid (okAt_succ HX.out HY.out hx' hy' t1 t2 t3')
                  clear hx' hy' t3
                  have tk : (1 : Int) ≤ (k : Int) := by omega
                  have i2 : ((k : Int) - 1).toNat = k - 1 := by omega
                  have i3 : (k : Int) - 1 < (l.length : Int) := by omega
                  by_cases t4 : x ≤ x'
                  · have t4' : decide (x ≤ x') = true := by simpa using t4
                    go_wp2_with fail
                    go_quiet ((go_at_call 35; exact quiet_left (rtime_any _ _)))
                    go_wp2
                    go_ret
                    exact ⟨ret_bool (vldB_bad hlt (by rw [HE.out, decide_eq_false (by omega)]; rfl)).symm, below_fin (below_step HB.out (by omega) _ _)⟩
                  · have t4' : decide (x ≤ x') = false := by simpa using t4
                    by_cases t5 : y' < y
                    · have t5' : decide (y' < y) = true := by simpa using t5
                      go_wp2_with fail
                      go_quiet ((go_at_call 35; exact quiet_left (rtime_any _ _)))
                      go_wp2
                      go_ret
                      exact ⟨ret_bool (vldB_bad hlt (by rw [HE.out, decide_eq_false (show ¬ y ≤ y' by omega), Bool.and_false])).symm, below_fin (below_step HB.out (by omega) _ _)⟩
                    · have t5' : decide (y' < y) = false := by simpa using t5
                      go_wp2_with fail
                      go_quiet ((go_at_call 35; exact quiet_left (rtime_any _ _)))
                      go_wp2
                      go_roundw
                      case rel => exact ⟨k + 1, by omega, by go_num, by rw [okTo, HOK.out, HE.out, decide_eq_true (show x' < x by omega), decide_eq_true (show y ≤ y' by omega)]; rfl, below_step HB.out (by omega) _ _⟩
                      case measure => simp [intOf]; omega
              · rw [Bool.not_eq_true] at t2
                by_cases y0 : y < 0
                · have y0' : decide (y < 0) = true := by simpa using y0
                  go_wp2_with fail
                  go_quiet ((go_at_call 35; exact quiet_left (rtime_any _ _)))
                  go_wp2
                  go_ret
                  exact ⟨ret_bool (vldB_bad hlt (okAt_p HY.out t2)).symm, below_fin (below_step HB.out (by omega) _ _)⟩
                · have y0' : decide (y < 0) = false := by simpa using y0
                  have y1' : decide (100 < y) = true := by have := (pcB_not y).1 t2; simp; omega
                  go_wp2_with fail
                  go_quiet ((go_at_call 35; exact quiet_left (rtime_any _ _)))
                  go_wp2
                  go_ret
                  exact ⟨ret_bool (vldB_bad hlt (okAt_p HY.out t2)).symm, below_fin (below_step HB.out (by omega) _ _)⟩
            · rw [Bool.not_eq_true] at t1
              go_wp2_with fail
              go_quiet ((go_at_call 35; exact quiet_left (rtime_any _ _)))
              go_wp2
              go_ret
              exact ⟨ret_bool (vldB_bad hlt (okAt_t HX.out t1)).symm, below_fin (below_step HB.out (by omega) _ _)⟩
          · have HB := Lib.hid hb
            clear hb hcell
            go_wp2_with fail
            go_ret
            obtain rfl : k = l.length := by omega
            exact ⟨ret_bool (by rw [vldB, h1, h2, HOK.out, decide_eq_true h3]; rfl), below_fin HB.out⟩
      · have hg : decide ((16 : Int) < (l.length : Int)) = true := by simp; omega
        have hv : vldB due grace l = false := by rw [vldB, decide_eq_false h3]; simp
        rw [hv]
        clear hv
        go_enter Try.func16, Try.ntmps16
        go_wp2_with (go_at_call 35; refine (rtime_any _ _).mono ?_; rintro e w' ⟨rfl, rfl⟩)
        go_ret
        exact ⟨rfl, below_fin (Below.refl _ _)⟩
    · rw [Bool.not_eq_true] at h2
      have hv : vldB due grace l = false := by rw [vldB, h2]; simp
      rw [hv]
      clear hv
      go_enter Try.func16, Try.ntmps16
      go_wp2_with (go_at_call 35; refine (rtime_any _ _).mono ?_; rintro e w' ⟨rfl, rfl⟩)
      go_ret
      exact ⟨rfl, below_fin (Below.refl _ _)⟩
  · rw [Bool.not_eq_true] at h1
    have hv : vldB due grace l = false := by rw [vldB, h1]; simp
    rw [hv]
    clear hv
    go_enter Try.func16, Try.ntmps16
    go_wp2_with (go_at_call 35; refine (rtime_any _ _).mono ?_; rintro e w' ⟨rfl, rfl⟩)
    go_ret
    exact ⟨rfl, below_fin (Below.refl _ _)⟩

/-- An extension: whose, till when, from which tick on. -/
abbrev Ext := ByteArray × Int × Int
abbrev noExt : Ext := (ByteArray.empty, 0, 0)
/-- The extensions of a slice lie in memory, below block B: three cells each. -/
def ExtsAt (w : World) (B : Nat) (A : Option Addr) (l : List Ext) : Prop :=
  0 < l.length → ∃ b off, A = some ⟨b, off, none⟩ ∧ b < B ∧ ∀ k, k < l.length → w.cell? ⟨b, off + k * 3, none⟩ = some (.string (l.getD k noExt).1) ∧ w.cell? ⟨b, off + k * 3 + 1, none⟩ = some (.int .i64 (l.getD k noExt).2.1) ∧ w.cell? ⟨b, off + k * 3 + 2, none⟩ = some (.int .i64 (l.getD k noExt).2.2)
theorem ExtsAt.below {w w' : World} {B : Nat} {A : Option Addr} {l : List Ext} (h : ExtsAt w B A l) (hb : Below B w w') : ExtsAt w' B A l := fun hn => by
  obtain ⟨b, off, e, hlt, hc⟩ := h hn
  exact ⟨b, off, e, hlt, fun k hk => ⟨(hb.cell (p := ⟨b, _, none⟩) hlt).trans (hc k hk).1, (hb.cell (p := ⟨b, _, none⟩) hlt).trans (hc k hk).2.1, (hb.cell (p := ⟨b, _, none⟩) hlt).trans (hc k hk).2.2⟩⟩
theorem ExtsAt.more {w : World} {B B' : Nat} {A : Option Addr} {l : List Ext} (h : ExtsAt w B A l) (hB : B ≤ B') : ExtsAt w B' A l := fun hn => by
  obtain ⟨b, off, e, hb, hc⟩ := h hn
  exact ⟨b, off, e, by omega, hc⟩
theorem ExtsAt.later {w w' : World} {A : Option Addr} {l : List Ext} (h : ExtsAt w w.heap.size A l) (hb : Below w.heap.size w w') : ExtsAt w' w'.heap.size A l := (h.below hb).more hb.size
theorem ExtsAt.alloc {w : World} {A : Option Addr} {l : List Ext} (h : ExtsAt w w.heap.size A l) (o : Obj) : ExtsAt (w.alloc o) (w.alloc o).heap.size A l :=
  h.later ((Below.refl _ w).alloc (Nat.le_refl _) _)

/-- An extension counts for a student at a tick. -/
def exB (s : ByteArray) (tick : Int) (x : Ext) : Bool := (x.1.toList == s.toList) && decide (x.2.2 ≤ tick) && tmB x.2.1
/-- The greater one. -/
def mxI (x y : Int) : Int := if x < y then y else x
/-- When it is due, by the first k extensions. -/
def dueF (due : Int) (s : ByteArray) (tick : Int) (l : List Ext) : Nat → Int
  | 0 => due
  | k + 1 => if exB s tick (l.getD k noExt) = true then mxI (dueF due s tick l k) (l.getD k noExt).2.1 else dueF due s tick l k
/-- What Due returns. -/
def dueI (due grace : Int) (st : List (Int × Int)) (l : List Ext) (s : ByteArray) (tick : Int) : Int := if vldB due grace st = true ∧ tmB tick = true then dueF due s tick l l.length else -1

set_option maxHeartbeats 1000000 in
theorem Due_yes (due grace : Int) (lin : Bool) (A : Option Addr) (c : Nat) (l : List (Int × Int)) (B : Option Addr) (d : Nat) (xs : List Ext) (s : ByteArray) (tick : Int) (w : World)
    (hs : StepsAt w w.heap.size A l) (hx : ExtsAt w w.heap.size B xs) (hl : xs.length ≤ 31) (hv : vldB due grace l = true) (ht : tmB tick = true) :
    Calls Try.prog 17 #[.agg #[.int .i64 due, .int .i64 grace, .bool lin, .slice A l.length c], .slice B xs.length d, .string s, .int .i64 tick] w fun e w' => e = .returned (.int .i64 (dueF due s tick xs xs.length)) ∧ Below w.heap.size w w' := by
  have HS := Lib.hid (hs.alloc (polObj due grace lin A l.length c))
  have HX := Lib.hid (hx.alloc (polObj due grace lin A l.length c))
  have hl16 := (vld_parts hv).2.1
  clear hs hx
  go_enter Try.func17, Try.ntmps17
  go_wp2_with fail
  refine (Valid_any _ _ _ _ _ _ _ HS.out (by omega)).mono ?_
  rintro e w1 ⟨rfl, hb1⟩
  have hz1 := hb1.size
  simp only [World.size_alloc] at hz1
  have c0 : w1.cell? ⟨w.heap.size, 0, none⟩ = some (.int .i64 due) := by rw [bcell hb1 _ _ (by simp)]; simp [go_sem]
  have HX1 := Lib.hid (HX.out.later hb1)
  have HB1 := Lib.hid (((Below.refl _ w).alloc (Nat.le_refl _) (polObj due grace lin A l.length c)).trans (hb1.mono (by simp)))
  clear hb1 HX
  go_wp2_with fail
  refine (isTime_any _ _).mono ?_
  rintro e w1' ⟨rfl, rfl⟩
  go_wp2_with fail
  go_loopw [9, 24] (fun u i wr => ∃ k : Nat, k ≤ xs.length ∧ i = .int .i64 k ∧ u = .int .i64 (dueF due s tick xs k) ∧ Below w1.heap.size w1 wr) (fun _ i _ => xs.length - (intOf i).toNat)
  case atStart => exact ⟨0, Nat.zero_le _, rfl, rfl, Below.refl _ _⟩
  case round =>
    obtain ⟨k, hk, rfl, rfl, hB⟩ := hrel
    have HB := Lib.hid hB
    have hzr := hB.size
    by_cases hlt : k < xs.length
    · obtain ⟨b, off, rfl, hbl, hc⟩ := (HX1.out.below hB) (by omega)
      obtain ⟨d0, d1, d2⟩ := hc k hlt
      have hbr : b < wr.heap.size := by omega
      have hstep : dueF due s tick xs (k + 1) = if exB s tick (xs.getD k noExt) = true then mxI (dueF due s tick xs k) (xs.getD k noExt).2.1 else dueF due s tick xs k := rfl
      generalize xs.getD k noExt = x at *
      obtain ⟨sx, xd, xt⟩ := x
      generalize hq : dueF due s tick xs k = q at *
      dsimp only at d0 d1 d2 hstep
      have HST := Lib.hid hstep
      clear hB hc hstep hq
      by_cases h1 : (sx.toList == s.toList) = true
      · by_cases h2 : xt ≤ tick
        · have h2' : decide (xt ≤ tick) = true := by simpa using h2
          by_cases h3 : tmB xd = true
          · by_cases h4 : q < xd
            · have HV : Hid (dueF due s tick xs (k + 1) = xd) := Lib.hid (by rw [HST.out, exB]; simp [h1, h2, h3, mxI, h4])
              go_wp2_with (go_at_call 29; refine (isTime_any _ _).mono ?_; rintro e w' ⟨rfl, rfl⟩)
              go_roundw
              case rel => exact ⟨k + 1, by omega, by go_num, by rw [HV.out], HB.out.alloc hzr _⟩
              case measure => simp [intOf]; omega
            · have HV : Hid (dueF due s tick xs (k + 1) = q) := Lib.hid (by rw [HST.out, exB]; simp [h1, h2, h3, mxI, h4])
              go_wp2_with (go_at_call 29; refine (isTime_any _ _).mono ?_; rintro e w' ⟨rfl, rfl⟩)
              go_roundw
              case rel => exact ⟨k + 1, by omega, by go_num, by rw [HV.out], HB.out.alloc hzr _⟩
              case measure => simp [intOf]; omega
          · rw [Bool.not_eq_true] at h3
            have HV : Hid (dueF due s tick xs (k + 1) = q) := Lib.hid (by rw [HST.out, exB]; simp [h3])
            go_wp2_with (go_at_call 29; refine (isTime_any _ _).mono ?_; rintro e w' ⟨rfl, rfl⟩)
            go_roundw
            case rel => exact ⟨k + 1, by omega, by go_num, by rw [HV.out], HB.out.alloc hzr _⟩
            case measure => simp [intOf]; omega
        · have h2' : decide (xt ≤ tick) = false := by simpa using h2
          have HV : Hid (dueF due s tick xs (k + 1) = q) := Lib.hid (by rw [HST.out, exB]; simp [h2])
          go_wp2_with (go_at_call 29; refine (isTime_any _ _).mono ?_; rintro e w' ⟨rfl, rfl⟩)
          go_roundw
          case rel => exact ⟨k + 1, by omega, by go_num, by rw [HV.out], HB.out.alloc hzr _⟩
          case measure => simp [intOf]; omega
      · rw [Bool.not_eq_true] at h1
        have HV : Hid (dueF due s tick xs (k + 1) = q) := Lib.hid (by rw [HST.out, exB]; simp [h1])
        go_wp2_with (go_at_call 29; refine (isTime_any _ _).mono ?_; rintro e w' ⟨rfl, rfl⟩)
        go_roundw
        case rel => exact ⟨k + 1, by omega, by go_num, by rw [HV.out], HB.out.alloc hzr _⟩
        case measure => simp [intOf]; omega
    · go_wp2_with fail
      go_ret
      obtain rfl : k = xs.length := by omega
      exact ⟨rfl, HB1.out.trans (HB.out.mono (by omega))⟩

set_option maxHeartbeats 1000000 in
theorem rDue_yes (due grace : Int) (lin : Bool) (A : Option Addr) (c : Nat) (l : List (Int × Int)) (B : Option Addr) (d : Nat) (xs : List Ext) (s : ByteArray) (tick : Int) (w : World)
    (hs : StepsAt w w.heap.size A l) (hx : ExtsAt w w.heap.size B xs) (hl : xs.length ≤ 31) (hv : vldB due grace l = true) (ht : tmB tick = true) :
    Calls Try.prog 18 #[.agg #[.int .i64 due, .int .i64 grace, .bool lin, .slice A l.length c], .slice B xs.length d, .string s, .int .i64 tick] w fun e w' => e = .returned (.int .i64 (dueF due s tick xs xs.length)) ∧ Below w.heap.size w w' := by
  have HS := Lib.hid (hs.alloc (polObj due grace lin A l.length c))
  have HX := Lib.hid (hx.alloc (polObj due grace lin A l.length c))
  have hl16 := (vld_parts hv).2.1
  clear hs hx
  go_enter Try.func18, Try.ntmps18
  go_wp2_with fail
  refine (rValid_any _ _ _ _ _ _ _ HS.out (by omega)).mono ?_
  rintro e w1 ⟨rfl, hb1⟩
  have hz1 := hb1.size
  simp only [World.size_alloc] at hz1
  have c0 : w1.cell? ⟨w.heap.size, 0, none⟩ = some (.int .i64 due) := by rw [bcell hb1 _ _ (by simp)]; simp [go_sem]
  have HX1 := Lib.hid (HX.out.later hb1)
  have HB1 := Lib.hid (((Below.refl _ w).alloc (Nat.le_refl _) (polObj due grace lin A l.length c)).trans (hb1.mono (by simp)))
  clear hb1 HX
  go_wp2_with fail
  refine (rtime_any _ _).mono ?_
  rintro e w1' ⟨rfl, rfl⟩
  go_wp2_with fail
  go_loopw [9, 10] (fun u i wr => ∃ k : Nat, k ≤ xs.length ∧ i = .int .i64 k ∧ u = .int .i64 (dueF due s tick xs k) ∧ Below w1.heap.size w1 wr) (fun _ i _ => xs.length - (intOf i).toNat)
  case atStart => exact ⟨0, Nat.zero_le _, rfl, rfl, Below.refl _ _⟩
  case round =>
    obtain ⟨k, hk, rfl, rfl, hB⟩ := hrel
    have HB := Lib.hid hB
    have hzr := hB.size
    by_cases hlt : k < xs.length
    · obtain ⟨b, off, rfl, hbl, hc⟩ := (HX1.out.below hB) (by omega)
      obtain ⟨d0, d1, d2⟩ := hc k hlt
      have hbr : b < wr.heap.size := by omega
      have hstep : dueF due s tick xs (k + 1) = if exB s tick (xs.getD k noExt) = true then mxI (dueF due s tick xs k) (xs.getD k noExt).2.1 else dueF due s tick xs k := rfl
      generalize xs.getD k noExt = x at *
      obtain ⟨sx, xd, xt⟩ := x
      generalize hq : dueF due s tick xs k = q at *
      dsimp only at d0 d1 d2 hstep
      have HST := Lib.hid hstep
      clear hB hc hstep hq
      by_cases h1 : (sx.toList == s.toList) = true
      · by_cases h2 : xt ≤ tick
        · have h2' : decide (xt ≤ tick) = true := by simpa using h2
          by_cases h3 : tmB xd = true
          · by_cases h4 : q < xd
            · have HV : Hid (dueF due s tick xs (k + 1) = xd) := Lib.hid (by rw [HST.out, exB]; simp [h1, h2, h3, mxI, h4])
              go_wp2_with (go_at_call 35; refine (rtime_any _ _).mono ?_; rintro e w' ⟨rfl, rfl⟩)
              go_roundw
              case rel => exact ⟨k + 1, by omega, by go_num, by rw [HV.out], HB.out⟩
              case measure => simp [intOf]; omega
            · have HV : Hid (dueF due s tick xs (k + 1) = q) := Lib.hid (by rw [HST.out, exB]; simp [h1, h2, h3, mxI, h4])
              go_wp2_with (go_at_call 35; refine (rtime_any _ _).mono ?_; rintro e w' ⟨rfl, rfl⟩)
              go_roundw
              case rel => exact ⟨k + 1, by omega, by go_num, by rw [HV.out], HB.out⟩
              case measure => simp [intOf]; omega
          · rw [Bool.not_eq_true] at h3
            have HV : Hid (dueF due s tick xs (k + 1) = q) := Lib.hid (by rw [HST.out, exB]; simp [h3])
            go_wp2_with (go_at_call 35; refine (rtime_any _ _).mono ?_; rintro e w' ⟨rfl, rfl⟩)
            go_roundw
            case rel => exact ⟨k + 1, by omega, by go_num, by rw [HV.out], HB.out⟩
            case measure => simp [intOf]; omega
        · have h2' : decide (xt ≤ tick) = false := by simpa using h2
          have HV : Hid (dueF due s tick xs (k + 1) = q) := Lib.hid (by rw [HST.out, exB]; simp [h2])
          go_wp2_with (go_at_call 35; refine (rtime_any _ _).mono ?_; rintro e w' ⟨rfl, rfl⟩)
          go_roundw
          case rel => exact ⟨k + 1, by omega, by go_num, by rw [HV.out], HB.out⟩
          case measure => simp [intOf]; omega
      · rw [Bool.not_eq_true] at h1
        have HV : Hid (dueF due s tick xs (k + 1) = q) := Lib.hid (by rw [HST.out, exB]; simp [h1])
        go_wp2_with (go_at_call 35; refine (rtime_any _ _).mono ?_; rintro e w' ⟨rfl, rfl⟩)
        go_roundw
        case rel => exact ⟨k + 1, by omega, by go_num, by rw [HV.out], HB.out⟩
        case measure => simp [intOf]; omega
    · go_wp2_with fail
      go_ret
      obtain rfl : k = xs.length := by omega
      exact ⟨rfl, HB1.out.trans (HB.out.mono (by omega))⟩

set_option maxHeartbeats 400000 in
theorem Due_no (due grace : Int) (lin : Bool) (A : Option Addr) (c : Nat) (l : List (Int × Int)) (B : Option Addr) (d : Nat) (xs : List Ext) (s : ByteArray) (tick : Int) (w : World)
    (hs : StepsAt w w.heap.size A l) (hl : l.length ≤ 9223372036854775807) (h : ¬ (vldB due grace l = true ∧ tmB tick = true)) :
    Calls Try.prog 17 #[.agg #[.int .i64 due, .int .i64 grace, .bool lin, .slice A l.length c], .slice B xs.length d, .string s, .int .i64 tick] w fun e w' => e = .returned (.int .i64 (-1)) ∧ Below w.heap.size w w' := by
  have HS := Lib.hid (hs.alloc (polObj due grace lin A l.length c))
  clear hs
  by_cases hv : vldB due grace l = true
  · have ht : tmB tick = false := by rw [← Bool.not_eq_true]; exact fun e => h ⟨hv, e⟩
    clear h
    go_enter Try.func17, Try.ntmps17
    go_wp2_with fail
    refine (Valid_any _ _ _ _ _ _ _ HS.out hl).mono ?_
    rintro e w1 ⟨rfl, hb1⟩
    have HB1 := Lib.hid (below_fin (hb1.mono (by simp)))
    clear hb1
    go_wp2_with (go_at_call 29; refine (isTime_any _ _).mono ?_; rintro e w' ⟨rfl, rfl⟩)
    go_ret
    exact ⟨rfl, HB1.out⟩
  · rw [Bool.not_eq_true] at hv
    clear h
    go_enter Try.func17, Try.ntmps17
    go_wp2_with fail
    refine (Valid_any _ _ _ _ _ _ _ HS.out hl).mono ?_
    rintro e w1 ⟨rfl, hb1⟩
    have HB1 := Lib.hid (below_fin (hb1.mono (by simp)))
    clear hb1
    go_wp2_with fail
    go_ret
    exact ⟨rfl, HB1.out⟩

set_option maxHeartbeats 400000 in
theorem rDue_no (due grace : Int) (lin : Bool) (A : Option Addr) (c : Nat) (l : List (Int × Int)) (B : Option Addr) (d : Nat) (xs : List Ext) (s : ByteArray) (tick : Int) (w : World)
    (hs : StepsAt w w.heap.size A l) (hl : l.length ≤ 9223372036854775807) (h : ¬ (vldB due grace l = true ∧ tmB tick = true)) :
    Calls Try.prog 18 #[.agg #[.int .i64 due, .int .i64 grace, .bool lin, .slice A l.length c], .slice B xs.length d, .string s, .int .i64 tick] w fun e w' => e = .returned (.int .i64 (-1)) ∧ Below w.heap.size w w' := by
  have HS := Lib.hid (hs.alloc (polObj due grace lin A l.length c))
  clear hs
  by_cases hv : vldB due grace l = true
  · have ht : tmB tick = false := by rw [← Bool.not_eq_true]; exact fun e => h ⟨hv, e⟩
    clear h
    go_enter Try.func18, Try.ntmps18
    go_wp2_with fail
    refine (rValid_any _ _ _ _ _ _ _ HS.out hl).mono ?_
    rintro e w1 ⟨rfl, hb1⟩
    have HB1 := Lib.hid (below_fin (hb1.mono (by simp)))
    clear hb1
    go_wp2_with (go_at_call 35; refine (rtime_any _ _).mono ?_; rintro e w' ⟨rfl, rfl⟩)
    go_ret
    exact ⟨rfl, HB1.out⟩
  · rw [Bool.not_eq_true] at hv
    clear h
    go_enter Try.func18, Try.ntmps18
    go_wp2_with fail
    refine (rValid_any _ _ _ _ _ _ _ HS.out hl).mono ?_
    rintro e w1 ⟨rfl, hb1⟩
    have HB1 := Lib.hid (below_fin (hb1.mono (by simp)))
    clear hb1
    go_wp2_with fail
    go_ret
    exact ⟨rfl, HB1.out⟩

theorem Due_any (due grace : Int) (lin : Bool) (A : Option Addr) (c : Nat) (l : List (Int × Int)) (B : Option Addr) (d : Nat) (xs : List Ext) (s : ByteArray) (tick : Int) (w : World)
    (hs : StepsAt w w.heap.size A l) (hx : ExtsAt w w.heap.size B xs) (hl : l.length ≤ 9223372036854775807) (hxl : xs.length ≤ 31) :
    Calls Try.prog 17 #[.agg #[.int .i64 due, .int .i64 grace, .bool lin, .slice A l.length c], .slice B xs.length d, .string s, .int .i64 tick] w fun e w' => e = .returned (.int .i64 (dueI due grace l xs s tick)) ∧ Below w.heap.size w w' := by
  by_cases h : vldB due grace l = true ∧ tmB tick = true
  · rw [dueI, if_pos h]
    exact Due_yes due grace lin A c l B d xs s tick w hs hx hxl h.1 h.2
  · rw [dueI, if_neg h]
    exact Due_no due grace lin A c l B d xs s tick w hs hl h

theorem rDue_any (due grace : Int) (lin : Bool) (A : Option Addr) (c : Nat) (l : List (Int × Int)) (B : Option Addr) (d : Nat) (xs : List Ext) (s : ByteArray) (tick : Int) (w : World)
    (hs : StepsAt w w.heap.size A l) (hx : ExtsAt w w.heap.size B xs) (hl : l.length ≤ 9223372036854775807) (hxl : xs.length ≤ 31) :
    Calls Try.prog 18 #[.agg #[.int .i64 due, .int .i64 grace, .bool lin, .slice A l.length c], .slice B xs.length d, .string s, .int .i64 tick] w fun e w' => e = .returned (.int .i64 (dueI due grace l xs s tick)) ∧ Below w.heap.size w w' := by
  by_cases h : vldB due grace l = true ∧ tmB tick = true
  · rw [dueI, if_pos h]
    exact rDue_yes due grace lin A c l B d xs s tick w hs hx hxl h.1 h.2
  · rw [dueI, if_neg h]
    exact rDue_no due grace lin A c l B d xs s tick w hs hl h

set_option maxHeartbeats 400000 in
theorem rLate_any (due grace : Int) (lin : Bool) (A : Option Addr) (c : Nat) (l : List (Int × Int)) (d t : Int) (w : World)
    (hs : StepsAt w w.heap.size A l) (hl : l.length ≤ 9223372036854775807) :
    Calls Try.prog 20 #[polV due grace lin A l.length c, .int .i64 d, .int .i64 t] w fun e w' => e = .returned (.int .i64 (lateI due grace l d t)) ∧ Below w.heap.size w w' := by
  have HS := Lib.hid (hs.alloc (polObj due grace lin A l.length c))
  by_cases hv : vldB due grace l = true
  · by_cases hd : tmB d = true
    · by_cases ht : tmB t = true
      · obtain ⟨d0, d1⟩ := (tmB_iff d).1 hd
        obtain ⟨t0, t1⟩ := (tmB_iff t).1 ht
        by_cases hg : grace < t - d
        · have hg' : decide (t - d ≤ grace) = false := by simp; omega
          have e : lateI due grace l d t = t - d := by rw [lateI, if_pos ⟨hv, hd, ht⟩, if_pos hg]
          rw [e]
          clear e
          go_enter Try.func20, Try.ntmps20
          go_wp2_with fail
          refine (rValid_any _ _ _ _ _ _ _ HS.out (by omega)).mono ?_
          rintro e w1 ⟨rfl, hb1⟩
          have k1 : w1.cell? ⟨w.heap.size, 1, none⟩ = some (.int .i64 grace) := by rw [bcell hb1 _ _ (by simp)]; simp [go_sem]
          have HB := Lib.hid hb1
          clear hb1
          go_wp2_with (go_at_call 35; refine (rtime_any _ _).mono ?_; rintro e w' ⟨rfl, rfl⟩)
          go_ret
          exact ⟨rfl, below_fin (HB.out.mono (by simp))⟩
        · have hg' : decide (t - d ≤ grace) = true := by simp; omega
          have e : lateI due grace l d t = 0 := by rw [lateI, if_pos ⟨hv, hd, ht⟩, if_neg hg]
          rw [e]
          clear e
          go_enter Try.func20, Try.ntmps20
          go_wp2_with fail
          refine (rValid_any _ _ _ _ _ _ _ HS.out (by omega)).mono ?_
          rintro e w1 ⟨rfl, hb1⟩
          have k1 : w1.cell? ⟨w.heap.size, 1, none⟩ = some (.int .i64 grace) := by rw [bcell hb1 _ _ (by simp)]; simp [go_sem]
          have HB := Lib.hid hb1
          clear hb1
          go_wp2_with (go_at_call 35; refine (rtime_any _ _).mono ?_; rintro e w' ⟨rfl, rfl⟩)
          go_ret
          exact ⟨rfl, below_fin (HB.out.mono (by simp))⟩
      · have e : lateI due grace l d t = -1 := by rw [lateI, if_neg (fun h => ht h.2.2)]
        rw [Bool.not_eq_true] at ht
        rw [e]
        clear e
        go_enter Try.func20, Try.ntmps20
        go_wp2_with fail
        refine (rValid_any _ _ _ _ _ _ _ HS.out (by omega)).mono ?_
        rintro e w1 ⟨rfl, hb1⟩
        have HB := Lib.hid hb1
        clear hb1
        go_wp2_with (go_at_call 35; refine (rtime_any _ _).mono ?_; rintro e w' ⟨rfl, rfl⟩)
        go_ret
        exact ⟨rfl, below_fin (HB.out.mono (by simp))⟩
    · have e : lateI due grace l d t = -1 := by rw [lateI, if_neg (fun h => hd h.2.1)]
      rw [Bool.not_eq_true] at hd
      rw [e]
      clear e
      go_enter Try.func20, Try.ntmps20
      go_wp2_with fail
      refine (rValid_any _ _ _ _ _ _ _ HS.out (by omega)).mono ?_
      rintro e w1 ⟨rfl, hb1⟩
      have HB := Lib.hid hb1
      clear hb1
      go_wp2_with (go_at_call 35; refine (rtime_any _ _).mono ?_; rintro e w' ⟨rfl, rfl⟩)
      go_ret
      exact ⟨rfl, below_fin (HB.out.mono (by simp))⟩
  · have e : lateI due grace l d t = -1 := by rw [lateI, if_neg (fun h => hv h.1)]
    rw [Bool.not_eq_true] at hv
    rw [e]
    clear e
    go_enter Try.func20, Try.ntmps20
    go_wp2_with fail
    refine (rValid_any _ _ _ _ _ _ _ HS.out (by omega)).mono ?_
    rintro e w1 ⟨rfl, hb1⟩
    have HB := Lib.hid hb1
    clear hb1
    go_wp2_with (go_at_call 35; refine (rtime_any _ _).mono ?_; rintro e w' ⟨rfl, rfl⟩)
    go_ret
    exact ⟨rfl, below_fin (HB.out.mono (by simp))⟩

/-- The arguments are few. -/
def fewB (n : Nat) (xs : List Ext) (s : ByteArray) : Bool := xs.all (fun x => decide (x.1.size ≤ 40)) && (decide (n ≤ 20) && decide (xs.length ≤ 30) && decide (s.size ≤ 40))
theorem fewB_iff {n : Nat} {xs : List Ext} {s : ByteArray} (h : fewB n xs s = true) : n ≤ 20 ∧ xs.length ≤ 30 ∧ s.size ≤ 40 := by
  simp only [fewB, Bool.and_eq_true, decide_eq_true_eq] at h
  exact ⟨h.2.1.1, h.2.1.2, h.2.2⟩
theorem few_bad {n : Nat} {xs : List Ext} {s : ByteArray} {k : Nat} (hk : k < xs.length) (h : 40 < (xs.getD k noExt).1.size) : fewB n xs s = false := by
  rw [List.getD_eq_getElem?_getD, List.getElem?_eq_getElem hk] at h
  simp only [Option.getD_some] at h
  rw [fewB, Bool.and_eq_false_iff]
  left
  rw [List.all_eq_false]
  exact ⟨xs[k], List.getElem_mem hk, by simp; omega⟩

set_option maxHeartbeats 1000000 in
theorem few_any (due grace : Int) (lin : Bool) (A : Option Addr) (c : Nat) (n : Nat) (B : Option Addr) (d : Nat) (xs : List Ext) (s : ByteArray) (w : World)
    (hx : ExtsAt w w.heap.size B xs) (hn : n ≤ 9223372036854775807) (hxl : xs.length ≤ 9223372036854775807) (hsl : s.size ≤ 9223372036854775807) (hxs : ∀ x ∈ xs, x.1.size ≤ 9223372036854775807) :
    Calls Try.prog 15 #[.agg #[.int .i64 due, .int .i64 grace, .bool lin, .slice A n c], .slice B xs.length d, .string s] w fun e w' => e = .returned (.bool (fewB n xs s)) ∧ Below w.heap.size w w' := by
  obtain ⟨W, hW⟩ : ∃ W, W = w.alloc (polObj due grace lin A n c) := ⟨_, rfl⟩
  have HX := Lib.hid (hx.alloc (polObj due grace lin A n c))
  have HXS := Lib.hid hxs
  clear hx hxs hW W
  go_enter Try.func15, Try.ntmps15
  go_wp2_with fail
  go_loopw [11] (fun i wr => ∃ k : Nat, k ≤ xs.length ∧ i = .int .i64 k ∧ (∀ j, j < k → (xs.getD j noExt).1.size ≤ 40) ∧ Below (w.heap.size + 1) (w.alloc (polObj due grace lin A n c)) wr) (fun i _ => xs.length - (intOf i).toNat)
  case atStart => exact ⟨0, Nat.zero_le _, rfl, fun j hj => by omega, Below.refl _ _⟩
  case round =>
    obtain ⟨k, hk, rfl, hall, hB⟩ := hrel
    have HA := Lib.hid hall
    have HB := Lib.hid hB
    have hzr := hB.size
    simp only [World.size_alloc] at hzr
    by_cases hlt : k < xs.length
    · have hXr := (HX.out.below (B := (w.alloc (polObj due grace lin A n c)).heap.size) (hB.mono (by simp))) (by omega)
      obtain ⟨b, off, rfl, hbl, hc⟩ := hXr
      simp only [World.size_alloc] at hbl
      obtain ⟨d0, d1, d2⟩ := hc k hlt
      have hbr : b < wr.heap.size := by omega
      have hsz : (xs.getD k noExt).1.size ≤ 9223372036854775807 := by
        rw [List.getD_eq_getElem?_getD, List.getElem?_eq_getElem hlt]; exact HXS.out _ (List.getElem_mem hlt)
      have hbad := few_bad (n := n) (s := s) hlt
      have hnext : (xs.getD k noExt).1.size ≤ 40 → ∀ j, j < k + 1 → (xs.getD j noExt).1.size ≤ 40 := fun h j hj => by
        rcases Nat.lt_or_ge j k with h' | h'
        · exact hall j h'
        · obtain rfl : j = k := by omega
          exact h
      have HBad := Lib.hid hbad
      have HNext := Lib.hid hnext
      generalize hx : xs.getD k noExt = x at d0 d1 d2 hsz
      obtain ⟨sx, xd, xt⟩ := x
      dsimp only at d0 d1 d2 hsz
      have HE := Lib.hid hx
      clear hB hc hall hbad hnext hx
      by_cases h40 : sx.size ≤ 40
      · have g40 : decide ((40 : Int) < (sx.size : Int)) = false := by simp; omega
        go_wp2_with fail
        go_roundw
        case rel => exact ⟨k + 1, by omega, by go_num, HNext.out (by rw [HE.out]; exact h40), HB.out.alloc (by omega) _⟩
        case measure => simp [intOf]; omega
      · have g40 : decide ((40 : Int) < (sx.size : Int)) = true := by simp; omega
        go_wp2_with fail
        go_ret
        exact ⟨ret_bool (HBad.out (by rw [HE.out]; show 40 < sx.size; omega)).symm, below_fin (HB.out.alloc (by omega) _)⟩
    · have cp : wr.cell? ⟨w.heap.size, 3, none⟩ = some (.slice A n c) := by rw [bcell hB _ _ (by omega)]; simp [go_sem]
      have hgoodx : xs.all (fun x => decide (x.1.size ≤ 40)) = true := by
        rw [List.all_eq_true]
        intro x hx
        obtain ⟨i, hi, rfl⟩ := List.getElem_of_mem hx
        have := hall i (by omega)
        rw [List.getD_eq_getElem?_getD, List.getElem?_eq_getElem hi] at this
        simpa using this
      have HG := Lib.hid hgoodx
      clear hB hall hgoodx
      by_cases h1 : n ≤ 20
      · have h1' : decide ((n : Int) ≤ 20) = true := by simp; omega
        by_cases h2 : xs.length ≤ 30
        · have h2' : decide ((xs.length : Int) ≤ 30) = true := by simp; omega
          by_cases h3 : s.size ≤ 40
          · have h3' : decide ((s.size : Int) ≤ 40) = true := by simp; omega
            go_wp2_with fail
            go_ret
            exact ⟨ret_bool (by rw [fewB, HG.out]; simp [h1, h2, h3]), below_fin HB.out⟩
          · have h3' : decide ((s.size : Int) ≤ 40) = false := by simp; omega
            go_wp2_with fail
            go_ret
            exact ⟨ret_bool (by rw [fewB, HG.out]; simp [h3]), below_fin HB.out⟩
        · have h2' : decide ((xs.length : Int) ≤ 30) = false := by simp; omega
          go_wp2_with fail
          go_ret
          exact ⟨ret_bool (by rw [fewB, HG.out]; simp [h2]), below_fin HB.out⟩
      · have h1' : decide ((n : Int) ≤ 20) = false := by simp; omega
        go_wp2_with fail
        go_ret
        exact ⟨ret_bool (by rw [fewB, HG.out]; simp [h1]), below_fin HB.out⟩

end Go.Proofs.Ytcppijoccolmkaa
