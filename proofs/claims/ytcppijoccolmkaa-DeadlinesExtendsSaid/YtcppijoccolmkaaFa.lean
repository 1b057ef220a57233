/-
  The contracts of the reference's Spend, and of Ints.
-/
import Derived.Test.YtcppijoccolmkaaV
namespace Go.Proofs.Ytcppijoccolmkaa
open Go.RowKit

theorem one_oneCell {v : Value} (h : v.oneCell' = true) : ∀ u ∈ [v], u.oneCell' = true := fun u hu => by
  rw [List.mem_singleton] at hu; rw [hu]; exact h

set_option maxHeartbeats 1000000 in
theorem rSpend_any (A : Option Addr) (c : Nat) (l : List Int) (al : Int) (w : World) (hs : IntsAt w w.heap.size A l) (hl : l.length ≤ 30) :
    Calls Try.prog 27 #[.slice A l.length c, .int .i64 al] w (SpendP l al w) := by
  obtain ⟨i0, hi, hz0, hz1, hz2⟩ := info_parts Try.info3
  have HS := Lib.hid hs
  clear hs
  go_enter Try.func27, Try.ntmps27
  obtain ⟨a1, ha1⟩ : ∃ a1, (if al < 0 then 0 else al) = a1 := ⟨_, rfl⟩
  have ha2 := clI_if _ _ ha1
  go_wp2_with fail
  go_loopw [6, 5, 7] (fun v r i wr => ∃ k : Nat, k ≤ l.length ∧ i = .int .i64 k ∧ r = .int .i64 (spR l al k) ∧ wr.ownsRow w.heap.size 3 1 v (spO l al k).length ((spO l al k).map (Value.int .i64)) ∧ Below w.heap.size w wr)
    (fun _ _ i _ => l.length - (intOf i).toNat)
  case atStart => exact ⟨0, Nat.zero_le _, rfl, rfl, World.ownsRow_lit w #[] 0 (Nat.le_refl _) (by decide) rfl, (Below.refl _ w).alloc (Nat.le_refl _) _⟩
  case round =>
    obtain ⟨k, hk, rfl, rfl, hown, hB⟩ := hrel
    have HB := Lib.hid hB
    have HO := Lib.hid hown
    have hr := spR_rng l al k
    by_cases hlt : k < l.length
    · obtain ⟨b, off, rfl, hbl, hc⟩ := (HS.out.below hB) (by omega)
      have c0 := hc k hlt
      have hzz := hB.size
      have hbw : b < wr.heap.size := by omega
      have HMap := Lib.hid (sp_map l al k)
      have hstep : spR l al (k + 1) = spR l al k - mnI (clI (l.getD k 0)) (spR l al k) := rfl
      have HStep := Lib.hid hstep
      have hcl := clI_rng (l.getD k 0)
      have HLen := Lib.hid (spO_len l al k)
      have HLen1 := Lib.hid (spO_len l al (k + 1))
      generalize hx : l.getD k 0 = x at c0
      have HX := Lib.hid hx
      rw [hx] at hcl
      generalize hy : clI x = y at hcl
      have HY := Lib.hid hy
      generalize hq : spR l al k = q at hr
      have HQ := Lib.hid hq
      clear hB hc hstep hx hy hq hown
      go_upto_region 6 with fail
      go_cut [8] (fun s wc => s = .int .i64 y ∧ wr = wc)
      case first =>
        by_cases h1 : x < 0
        · have e : (0 : Int) = y := by rw [← HY.out, clI, if_pos h1]
          have HE := Lib.hid e
          clear e
          go_wp2_with fail
          go_meet
          exact ⟨by rw [HE.out], rfl⟩
        · by_cases h2 : 1099511627776 < x
          · have e : (1099511627776 : Int) = y := by rw [← HY.out, clI, if_neg h1, if_pos h2]
            have HE := Lib.hid e
            clear e
            go_wp2_with fail
            go_meet
            exact ⟨by rw [HE.out], rfl⟩
          · have e : x = y := by rw [← HY.out, clI, if_neg h1, if_neg h2]
            have HE := Lib.hid e
            clear e
            go_wp2_with fail
            go_meet
            exact ⟨by rw [HE.out], rfl⟩
      case rest =>
      obtain ⟨rfl, rfl⟩ := hcut
      by_cases hqy : q < y
      · have HM : Hid (mnI y q = q) := Lib.hid (by rw [mnI, if_pos hqy])
        have hgw : ∀ (o : Obj), w.heap.size ≤ (wr.alloc o).heap.size := fun o => by simp; omega
        have hown := HO.out
        have hc4 : (spO l al k).length + 1 ≤ maxLen := by rw [HLen.out]; unfold maxLen; omega
        have hc5 : ((spO l al k).length + 1) * 8 ≤ 140737488355328 := by rw [HLen.out]; omega
        go_wp2_with (at_builtin; refine wpList_append_lies _ rfl _ _ 44 rfl w.heap.size 3 i0 (.int .i64 0) 1 8 Try.underlying44 hi hz0 hz1 hz2 rfl (by decide) _ _ _ rfl (hown.alloc _) ⟨wr.heap.size, 0, none⟩ 1 1 [.int .i64 (y - q)] rfl rfl (cell_one_new _ _ _) (one_oneCell rfl) Nat.one_pos hc4 hc5 (hgw _) (wr.heap.size + 1) (World.size_alloc _ _) ?_)
        intro g cap w2 hown2 hgrow _ hg
        have R1 : w2.ownsRow w.heap.size 3 1 (.slice (some ⟨g, 0, none⟩) (spO l al (k + 1)).length cap) (spO l al (k + 1)).length ((spO l al (k + 1)).map (Value.int .i64)) := by
          rw [HLen.out] at hown2
          rw [HLen1.out, HMap.out, HX.out, HY.out, HQ.out, HM.out]
          exact hown2
        have R2 : Below w.heap.size w w2 := (HB.out.alloc (by omega) _).grown hgrow (hgw _) (fun j hj => (HO.out.lt j hj).1)
        have HR1 := Lib.hid R1
        have HR2 := Lib.hid R2
        have HS' : Hid (spR l al (k + 1) = 0) := Lib.hid (by rw [HStep.out, HX.out, HY.out, HQ.out, HM.out]; omega)
        have HL' : Hid ((spO l al k).length + 1 = (spO l al (k + 1)).length) := Lib.hid (by rw [HLen.out, HLen1.out])
        clear hown2 hgrow R1 R2 hown
        go_wp2_with fail
        go_roundw
        case rel =>
          first | exact ⟨k + 1, by omega, by go_num, by rw [HS'.out], by rw [HL'.out]; exact HR1.out, HR2.out⟩ | ((repeat apply Exists.intro); exact ⟨⟨k + 1, by omega, by go_num, by rw [HS'.out], by rw [HL'.out]; exact HR1.out, HR2.out⟩, rfl⟩)
        case measure => simp [intOf]; omega
      · have HM : Hid (mnI y q = y) := Lib.hid (by rw [mnI, if_neg hqy])
        have hgw : ∀ (o : Obj), w.heap.size ≤ (wr.alloc o).heap.size := fun o => by simp; omega
        have hown := HO.out
        have hc4 : (spO l al k).length + 1 ≤ maxLen := by rw [HLen.out]; unfold maxLen; omega
        have hc5 : ((spO l al k).length + 1) * 8 ≤ 140737488355328 := by rw [HLen.out]; omega
        go_wp2_with (at_builtin; refine wpList_append_lies _ rfl _ _ 44 rfl w.heap.size 3 i0 (.int .i64 0) 1 8 Try.underlying44 hi hz0 hz1 hz2 rfl (by decide) _ _ _ rfl (hown.alloc _) ⟨wr.heap.size, 0, none⟩ 1 1 [.int .i64 0] rfl rfl (cell_one_new _ _ _) (one_oneCell rfl) Nat.one_pos hc4 hc5 (hgw _) (wr.heap.size + 1) (World.size_alloc _ _) ?_)
        intro g cap w2 hown2 hgrow _ hg
        have R1 : w2.ownsRow w.heap.size 3 1 (.slice (some ⟨g, 0, none⟩) (spO l al (k + 1)).length cap) (spO l al (k + 1)).length ((spO l al (k + 1)).map (Value.int .i64)) := by
          rw [HLen.out] at hown2
          rw [HLen1.out, HMap.out, HX.out, HY.out, HQ.out, HM.out]
          rw [Int.sub_self]; exact hown2
        have R2 : Below w.heap.size w w2 := (HB.out.alloc (by omega) _).grown hgrow (hgw _) (fun j hj => (HO.out.lt j hj).1)
        have HR1 := Lib.hid R1
        have HR2 := Lib.hid R2
        have HS' : Hid (spR l al (k + 1) = q - y) := Lib.hid (by rw [HStep.out, HX.out, HY.out, HQ.out, HM.out])
        have HL' : Hid ((spO l al k).length + 1 = (spO l al (k + 1)).length) := Lib.hid (by rw [HLen.out, HLen1.out])
        clear hown2 hgrow R1 R2 hown
        go_wp2_with fail
        go_roundw
        case rel =>
          first | exact ⟨k + 1, by omega, by go_num, by rw [HS'.out], by rw [HL'.out]; exact HR1.out, HR2.out⟩ | ((repeat apply Exists.intro); exact ⟨⟨k + 1, by omega, by go_num, by rw [HS'.out], by rw [HL'.out]; exact HR1.out, HR2.out⟩, rfl⟩)
        case measure => simp [intOf]; omega
    · go_wp2_with fail
      go_ret
      obtain rfl : k = l.length := by omega
      have hown' := HO.out
      obtain ⟨A', c', hv, hI⟩ := ints_of_own hown'
      rw [spO_len] at hv
      exact ⟨A', c', by rw [hv]; rfl, hI, HB.out⟩

set_option maxHeartbeats 1000000 in
theorem Ints_same (A B : Option Addr) (c d : Nat) (l : List Int) (w : World) (ha : IntsAt w w.heap.size A l) (hb : IntsAt w w.heap.size B l) (hl : l.length ≤ 30) :
    Calls Try.prog 26 #[.slice A l.length c, .slice B l.length d] w fun e w' => e = .returned (.bool true) ∧ Below w.heap.size w w' := by
  have hne : ((l.length : Int) != (l.length : Int)) = false := by simp
  have HA := Lib.hid ha
  have HB := Lib.hid hb
  clear ha hb
  go_enter Try.func26, Try.ntmps26
  go_wp2_with fail
  go_loopw [5] (fun i wr => ∃ k n : Nat, k ≤ l.length ∧ i = .int .i64 k ∧ wr = w.drewN n) (fun i _ => l.length - (intOf i).toNat)
  case atStart => exact ⟨0, 0, Nat.zero_le _, rfl, rfl⟩
  case round =>
    obtain ⟨k, n, hk, rfl, rfl⟩ := hrel
    by_cases hlt : k < l.length
    · obtain ⟨b, off, rfl, hbl, hc⟩ := HA.out (by omega)
      obtain ⟨b', off', rfl, hbl', hc'⟩ := HB.out (by omega)
      have c0 := hc k hlt
      have c1 := hc' k hlt
      generalize l.getD k 0 = x at c0 c1
      have hxx : (x != x) = false := by simp
      have h0 : (0 : Int) ≤ (k : Int) := by omega
      have h1 : (k : Int) < (l.length : Int) := by omega
      clear hc hc'
      go_wp2_with fail
      go_quiet (fail)
      go_wp2
      go_roundw
      case rel => exact ⟨k + 1, _, by omega, by go_num, rfl⟩
      case measure => simp [intOf]; omega
    · go_wp2_with fail
      go_ret
      exact ⟨rfl, below_drewN (Below.refl _ _) _⟩

end Go.Proofs.Ytcppijoccolmkaa
