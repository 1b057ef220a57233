/-
  The contract of deadlines.Until.
-/
import Derived.Test.YtcppijoccolmkaaQ
import Derived.IntWalk
namespace Go.Proofs.Ytcppijoccolmkaa
open Go.RowKit

/-- The factor is at least a percentage. -/
def enB (lin : Bool) (l : List (Int × Int)) (pct t : Int) : Bool := decide (100 * pct ≤ fac lin l t)

set_option maxHeartbeats 1000000 in
theorem enough_any (bp bq : Nat) (due grace : Int) (lin : Bool) (A : Option Addr) (c : Nat) (l : List (Int × Int)) (t pct : Int) (w : World)
    (c0 : w.cell? ⟨bp, 0, none⟩ = some (.int .i64 due)) (c1 : w.cell? ⟨bp, 1, none⟩ = some (.int .i64 grace)) (c2 : w.cell? ⟨bp, 2, none⟩ = some (.bool lin)) (c3 : w.cell? ⟨bp, 3, none⟩ = some (.slice A l.length c))
    (cq : w.cell? ⟨bq, 0, none⟩ = some (.int .i64 pct))
    (hs : StepsAt w w.heap.size A l) (hl : l.length ≤ 16) (hok : okTo l l.length = true) (ht0 : 0 ≤ t) (ht1 : t ≤ 1099511627776) (hp0 : 0 ≤ pct) (hp1 : pct ≤ 100) :
    Calls Try.prog 37 #[.int .i64 t, .pointer (some ⟨bp, 0, none⟩), .pointer (some ⟨bq, 0, none⟩)] w fun e w' => e = .returned (.bool (enB lin l pct t)) ∧ Below w.heap.size w w' := by
  have hF : ∀ W, Below w.heap.size w W → Calls Try.prog 31 #[.agg #[.int .i64 due, .int .i64 grace, .bool lin, .slice A l.length c], .int .i64 t] W fun e w' => e = .returned (.int .i64 (fac lin l t)) ∧ Below W.heap.size W w' := fun W hW => factor_any _ _ _ _ _ _ _ _ (hs.later hW) hl hok ht0 ht1
  have hbp := World.block_lt_of_cell? w ⟨bp, 0, none⟩ c0
  have hbq := World.block_lt_of_cell? w ⟨bq, 0, none⟩ cq
  have hK : ∀ W, Below w.heap.size w W → (((W.cell? ⟨bp, 0, none⟩ = some (.int .i64 due) ∧ W.cell? ⟨bp, 1, none⟩ = some (.int .i64 grace)) ∧ (W.cell? ⟨bp, 2, none⟩ = some (.bool lin) ∧ W.cell? ⟨bp, 3, none⟩ = some (.slice A l.length c))) ∧ W.cell? ⟨bq, 0, none⟩ = some (.int .i64 pct)) ∧ Below w.heap.size w W := fun W hW => by
    have hc := bcell hW
    exact ⟨⟨⟨⟨(hc _ _ hbp).trans c0, (hc _ _ hbp).trans c1⟩, (hc _ _ hbp).trans c2, (hc _ _ hbp).trans c3⟩, (hc _ _ hbq).trans cq⟩, hW⟩
  obtain ⟨r0, r1⟩ := fac_rng (lin := lin) (t := t) hok ht0
  obtain ⟨f, hf⟩ : ∃ f, f = fac lin l t := ⟨_, rfl⟩
  rw [← hf] at hF r0 r1
  have HF := Lib.hid hF
  have HK := Lib.hid hK
  have HV := Lib.hid (show enB lin l pct t = decide (100 * pct ≤ f) by rw [enB, hf])
  clear hf hF hK hok hs
  go_enter Try.func37, Try.ntmps37
  go_wp2_with fail
  go_region_held3 (fun W => (((W.cell? ⟨bp, 0, none⟩ = some (.int .i64 due) ∧ W.cell? ⟨bp, 1, none⟩ = some (.int .i64 grace)) ∧ (W.cell? ⟨bp, 2, none⟩ = some (.bool lin) ∧ W.cell? ⟨bp, 3, none⟩ = some (.slice A l.length c))) ∧ W.cell? ⟨bq, 0, none⟩ = some (.int .i64 pct)) ∧ Below w.heap.size w W)
    (first | exact HK.out _ (Below.refl _ _).drew | exact HK.out _ hbb)
    (first | (go_at_call 31; refine (HF.out _ (Below.refl _ _).drew).mono ?_; rintro e w2 ⟨rfl, hb2⟩; have hbb := (Below.refl w.heap.size w).drew.trans (hb2.mono (Nat.le_refl _))))
  all_goals
    go_wp2_with fail
    go_ret
    exact ⟨ret_bool (by rw [show IntKind.i64.wrap (100 * pct) = 100 * pct from IntWalk.i64_in _ (by omega)]; exact HV.out.symm), hbb⟩

/-- What Until returns where some lateness has too small a factor. -/
def UntilP (lin : Bool) (l : List (Int × Int)) (pct : Int) (w : World) (e : Ending) (w' : World) : Prop :=
  ∃ t : Int, 0 ≤ t ∧ t < 1099511627776 ∧ enB lin l pct t = true ∧ enB lin l pct (t + 1) = false ∧ e = .returned (.tuple #[.int .i64 t, .bool true]) ∧ Below w.heap.size w w'

theorem en_zero {lin : Bool} {l : List (Int × Int)} {pct : Int} (h : pct ≤ 100) : enB lin l pct 0 = true := by
  rw [enB, fac, if_pos rfl]; simp; omega

/-- Between two rounds of the search. -/
def UntI (lin : Bool) (l : List (Int × Int)) (pct : Int) (B : Nat) (W : World) (lo hi : Value) (wr : World) : Prop :=
  ∃ a b : Int, 0 ≤ a ∧ a < b ∧ b ≤ 1099511627776 ∧ lo = .int .i64 a ∧ hi = .int .i64 b ∧ enB lin l pct a = true ∧ enB lin l pct b = false ∧ Below B W wr

set_option maxHeartbeats 1000000 in
theorem Until_some (due grace : Int) (lin : Bool) (A : Option Addr) (c : Nat) (l : List (Int × Int)) (pct : Int) (w : World)
    (hs : StepsAt w w.heap.size A l) (hv : vldB due grace l = true) (hp : pcB pct = true) (hE : enB lin l pct 1099511627776 = false) :
    Calls Try.prog 22 #[.agg #[.int .i64 due, .int .i64 grace, .bool lin, .slice A l.length c], .int .i64 pct] w (UntilP lin l pct w) := by
  obtain ⟨_, hl, hok⟩ := vld_parts hv
  obtain ⟨hp0, hp1⟩ := (pcB_iff pct).1 hp
  obtain ⟨W, hW⟩ : ∃ W, W = (w.alloc (polObj due grace lin A l.length c)).alloc (.cells #[.int .i64 pct] 3) := ⟨_, rfl⟩
  have hWs : W.heap.size = w.heap.size + 1 + 1 := by rw [hW]; simp
  have hWB : Below w.heap.size w W := by rw [hW]; exact ((Below.refl _ w).alloc (Nat.le_refl _) _).alloc (by simp) _
  have hSW : StepsAt W W.heap.size A l := hs.later hWB
  have d0 : W.cell? ⟨w.heap.size, 0, none⟩ = some (.int .i64 due) := by rw [hW]; simp [go_sem]
  have d1 : W.cell? ⟨w.heap.size, 1, none⟩ = some (.int .i64 grace) := by rw [hW]; simp [go_sem]
  have d2 : W.cell? ⟨w.heap.size, 2, none⟩ = some (.bool lin) := by rw [hW]; simp [go_sem]
  have d3 : W.cell? ⟨w.heap.size, 3, none⟩ = some (.slice A l.length c) := by rw [hW]; simp [go_sem]
  have dq : W.cell? ⟨w.heap.size + 1, 0, none⟩ = some (.int .i64 pct) := by rw [hW]; simp [go_sem]
  have hen : ∀ (t : Int) (X : World), Below W.heap.size W X → 0 ≤ t → t ≤ 1099511627776 → Calls Try.prog 37 #[.int .i64 t, .pointer (some ⟨w.heap.size, 0, none⟩), .pointer (some ⟨w.heap.size + 1, 0, none⟩)] X fun e w' => e = .returned (.bool (enB lin l pct t)) ∧ Below X.heap.size X w' := fun t X hX h0 h1 => by
    have hc := bcell hX
    exact enough_any _ _ due grace lin A c l t pct X ((hc _ _ (by omega)).trans d0) ((hc _ _ (by omega)).trans d1) ((hc _ _ (by omega)).trans d2) ((hc _ _ (by omega)).trans d3) ((hc _ _ (by omega)).trans dq) (hSW.later hX) hl hok h0 h1 hp0 hp1
  have HE := Lib.hid hen
  have HW := Lib.hid hW
  have HSW := Lib.hid hSW
  have HWB := Lib.hid hWB
  have hWs' : w.heap.size + 1 < W.heap.size := by omega
  have hWs'' : w.heap.size < W.heap.size := by omega
  have ez := en_zero (lin := lin) (l := l) hp1
  have EZ := Lib.hid ez
  clear hen hW hWs hSW hWB ez hok hs
  go_enter Try.func22, Try.ntmps22
  go_wp2_with fail
  rw [← HW.out]
  refine (Valid_any _ _ _ _ _ _ _ HSW.out (by omega)).mono ?_
  rintro e w1 ⟨rfl, hb1⟩
  have c1 : w1.cell? ⟨w.heap.size + 1, 0, none⟩ = some (.int .i64 pct) := (bcell hb1 _ _ (by omega)).trans dq
  have HB1 := Lib.hid hb1
  clear hb1
  go_wp2_with fail
  refine (isPercent_any _ _).mono ?_
  rintro e w1' ⟨rfl, rfl⟩
  go_wp2_with fail
  refine (HE.out _ _ HB1.out (by omega) (by omega)).mono ?_
  rintro e w2 ⟨rfl, hb2⟩
  have HB2 := Lib.hid (HB1.out.trans (hb2.mono HB1.out.size))
  clear hb2
  go_wp2_with fail
  go_loopw [7, 8] (fun lo hi wr => UntI lin l pct W.heap.size W lo hi wr) (fun lo hi _ => (intOf hi - intOf lo).toNat)
  case atStart => exact ⟨0, 1099511627776, by omega, by omega, by omega, rfl, rfl, EZ.out, hE, HB2.out⟩
  case round =>
    obtain ⟨a, b, ha, hab, hb, rfl, rfl, ea, eb, hB⟩ := hrel
    have HBr := Lib.hid hB
    have EA := Lib.hid ea
    have EB := Lib.hid eb
    clear hB ea eb
    by_cases hlt : 1 < b - a
    · by_cases hm : enB lin l pct ((a + b) / 2) = true
      · go_wp2_with fail
        refine (HE.out _ _ HBr.out (by omega) (by omega)).mono ?_
        rintro e w3 ⟨rfl, hb3⟩
        have HB3 := Lib.hid (HBr.out.trans (hb3.mono HBr.out.size))
        clear hb3
        go_wp2_with fail
        go_roundw
        case rel => exact ⟨(a + b) / 2, b, by omega, by omega, hb, rfl, rfl, hm, EB.out, HB3.out⟩
        case measure => simp [intOf]; omega
      · rw [Bool.not_eq_true] at hm
        go_wp2_with fail
        refine (HE.out _ _ HBr.out (by omega) (by omega)).mono ?_
        rintro e w3 ⟨rfl, hb3⟩
        have HB3 := Lib.hid (HBr.out.trans (hb3.mono HBr.out.size))
        clear hb3
        go_wp2_with fail
        go_roundw
        case rel => exact ⟨a, (a + b) / 2, ha, by omega, by omega, rfl, rfl, EA.out, hm, HB3.out⟩
        case measure => simp [intOf]; omega
    · go_wp2_with fail
      go_ret2
      obtain rfl : b = a + 1 := by omega
      exact ⟨a, ha, by omega, EA.out, EB.out, rfl, HWB.out.trans (HBr.out.mono (by omega))⟩

/-- Nothing: every lateness has the factor, or there is no policy or no percentage. -/
theorem Until_none (due grace : Int) (lin : Bool) (A : Option Addr) (c : Nat) (l : List (Int × Int)) (pct : Int) (w : World)
    (hs : StepsAt w w.heap.size A l) (hl0 : l.length ≤ 9223372036854775807) (hE : vldB due grace l = true → pcB pct = true → enB lin l pct 1099511627776 = true) :
    Calls Try.prog 22 #[.agg #[.int .i64 due, .int .i64 grace, .bool lin, .slice A l.length c], .int .i64 pct] w fun e w' => e = .returned (.tuple #[.int .i64 0, .bool false]) ∧ Below w.heap.size w w' := by
  obtain ⟨W, hW⟩ : ∃ W, W = (w.alloc (polObj due grace lin A l.length c)).alloc (.cells #[.int .i64 pct] 3) := ⟨_, rfl⟩
  have hWs : W.heap.size = w.heap.size + 1 + 1 := by rw [hW]; simp
  have hWB : Below w.heap.size w W := by rw [hW]; exact ((Below.refl _ w).alloc (Nat.le_refl _) _).alloc (by simp) _
  have hSW : StepsAt W W.heap.size A l := hs.later hWB
  have d0 : W.cell? ⟨w.heap.size, 0, none⟩ = some (.int .i64 due) := by rw [hW]; simp [go_sem]
  have d1 : W.cell? ⟨w.heap.size, 1, none⟩ = some (.int .i64 grace) := by rw [hW]; simp [go_sem]
  have d2 : W.cell? ⟨w.heap.size, 2, none⟩ = some (.bool lin) := by rw [hW]; simp [go_sem]
  have d3 : W.cell? ⟨w.heap.size, 3, none⟩ = some (.slice A l.length c) := by rw [hW]; simp [go_sem]
  have dq : W.cell? ⟨w.heap.size + 1, 0, none⟩ = some (.int .i64 pct) := by rw [hW]; simp [go_sem]
  have HW := Lib.hid hW
  have HSW := Lib.hid hSW
  have HWB := Lib.hid hWB
  have hWs' : w.heap.size + 1 < W.heap.size := by omega
  have hWs'' : w.heap.size < W.heap.size := by omega
  by_cases hv : vldB due grace l = true
  · by_cases hp : pcB pct = true
    · obtain ⟨_, hl, hok⟩ := vld_parts hv
      obtain ⟨hp0, hp1⟩ := (pcB_iff pct).1 hp
      have hE' := hE hv hp
      have hen : ∀ (t : Int) (X : World), Below W.heap.size W X → 0 ≤ t → t ≤ 1099511627776 → Calls Try.prog 37 #[.int .i64 t, .pointer (some ⟨w.heap.size, 0, none⟩), .pointer (some ⟨w.heap.size + 1, 0, none⟩)] X fun e w' => e = .returned (.bool (enB lin l pct t)) ∧ Below X.heap.size X w' := fun t X hX h0 h1 => by
        have hc := bcell hX
        exact enough_any _ _ due grace lin A c l t pct X ((hc _ _ (by omega)).trans d0) ((hc _ _ (by omega)).trans d1) ((hc _ _ (by omega)).trans d2) ((hc _ _ (by omega)).trans d3) ((hc _ _ (by omega)).trans dq) (hSW.later hX) hl hok h0 h1 hp0 hp1
      have HE := Lib.hid hen
      clear hen hW hWs hSW hWB hok hs hE
      go_enter Try.func22, Try.ntmps22
      go_wp2_with fail
      rw [← HW.out]
      refine (Valid_any _ _ _ _ _ _ _ HSW.out (by omega)).mono ?_
      rintro e w1 ⟨rfl, hb1⟩
      have c1 : w1.cell? ⟨w.heap.size + 1, 0, none⟩ = some (.int .i64 pct) := (bcell hb1 _ _ (by omega)).trans dq
      have HB1 := Lib.hid hb1
      clear hb1
      go_wp2_with fail
      refine (isPercent_any _ _).mono ?_
      rintro e w1' ⟨rfl, rfl⟩
      go_wp2_with fail
      refine (HE.out _ _ HB1.out (by omega) (by omega)).mono ?_
      rintro e w2 ⟨rfl, hb2⟩
      have HB2 := Lib.hid (HB1.out.trans (hb2.mono HB1.out.size))
      clear hb2
      go_wp2_with fail
      go_ret2
      exact ⟨rfl, HWB.out.trans (HB2.out.mono (by omega))⟩
    · rw [Bool.not_eq_true] at hp
      clear hW hWs hSW hWB hs hE
      go_enter Try.func22, Try.ntmps22
      go_wp2_with fail
      rw [← HW.out]
      refine (Valid_any _ _ _ _ _ _ _ HSW.out (by omega)).mono ?_
      rintro e w1 ⟨rfl, hb1⟩
      have c1 : w1.cell? ⟨w.heap.size + 1, 0, none⟩ = some (.int .i64 pct) := (bcell hb1 _ _ (by omega)).trans dq
      have HB1 := Lib.hid hb1
      clear hb1
      go_wp2_with fail
      refine (isPercent_any _ _).mono ?_
      rintro e w1' ⟨rfl, rfl⟩
      go_wp2_with fail
      go_ret2
      exact ⟨rfl, HWB.out.trans (HB1.out.mono (by omega))⟩
  · rw [Bool.not_eq_true] at hv
    clear hW hWs hSW hWB hs hE
    go_enter Try.func22, Try.ntmps22
    go_wp2_with fail
    rw [← HW.out]
    refine (Valid_any _ _ _ _ _ _ _ HSW.out (by omega)).mono ?_
    rintro e w1 ⟨rfl, hb1⟩
    have HB1 := Lib.hid hb1
    clear hb1
    go_wp2_with fail
    go_ret2
    exact ⟨rfl, HWB.out.trans (HB1.out.mono (by omega))⟩

end Go.Proofs.Ytcppijoccolmkaa
