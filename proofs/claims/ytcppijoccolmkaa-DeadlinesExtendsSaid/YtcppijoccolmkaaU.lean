/-
  The contract of deadlines.Spend.
-/
import Derived.Test.YtcppijoccolmkaaQ
import Derived.Laws.OwnMore
import Derived.Deep.AppendLies
namespace Go.Proofs.Ytcppijoccolmkaa
open Go.RowKit

theorem Try.info3 : (Try.prog.info? 3).map (fun i => (i.zero, i.size, i.bytes)) = some (some (.int .i64 0), 1, 8) := by kernel_rfl

/-- The integers of a slice lie in memory, below block B. -/
def IntsAt (w : World) (B : Nat) (A : Option Addr) (l : List Int) : Prop :=
  0 < l.length → ∃ b off, A = some ⟨b, off, none⟩ ∧ b < B ∧ ∀ k, k < l.length → w.cell? ⟨b, off + k, none⟩ = some (.int .i64 (l.getD k 0))
theorem IntsAt.below {w w' : World} {B : Nat} {A : Option Addr} {l : List Int} (h : IntsAt w B A l) (hb : Below B w w') : IntsAt w' B A l := fun hn => by
  obtain ⟨b, off, e, hlt, hc⟩ := h hn
  exact ⟨b, off, e, hlt, fun k hk => (hb.cell (p := ⟨b, off + k, none⟩) hlt).trans (hc k hk)⟩
theorem IntsAt.more {w : World} {B B' : Nat} {A : Option Addr} {l : List Int} (h : IntsAt w B A l) (hB : B ≤ B') : IntsAt w B' A l := fun hn => by
  obtain ⟨b, off, e, hb, hc⟩ := h hn
  exact ⟨b, off, e, by omega, hc⟩
theorem IntsAt.later {w w' : World} {A : Option Addr} {l : List Int} (h : IntsAt w w.heap.size A l) (hb : Below w.heap.size w w') : IntsAt w' w'.heap.size A l := (h.below hb).more hb.size

/-- A number brought into the range of the ticks. -/
def clI (n : Int) : Int := if n < 0 then 0 else if 1099511627776 < n then 1099511627776 else n
theorem clI_rng (n : Int) : 0 ≤ clI n ∧ clI n ≤ 1099511627776 := by unfold clI; split <;> (try split) <;> omega
/-- The smaller one. -/
def mnI (x y : Int) : Int := if y < x then y else x

set_option maxHeartbeats 400000 in
theorem clamp_any (n : Int) (w : World) : Calls Try.prog 36 #[.int .i64 n] w fun e w' => e = .returned (.int .i64 (clI n)) ∧ w = w' := by
  by_cases h1 : n < 0
  · have e : clI n = 0 := by rw [clI, if_pos h1]
    rw [e]; clear e
    go_enter Try.func36, Try.ntmps36
    go_wp2
    go_ret
    exact ⟨rfl, rfl⟩
  · by_cases h2 : 1099511627776 < n
    · have e : clI n = 1099511627776 := by rw [clI, if_neg h1, if_pos h2]
      rw [e]; clear e
      go_enter Try.func36, Try.ntmps36
      go_wp2
      go_ret
      exact ⟨ret_int (by simp), rfl⟩
    · have e : clI n = n := by rw [clI, if_neg h1, if_neg h2]
      rw [e]; clear e
      go_enter Try.func36, Try.ntmps36
      go_wp2
      go_ret
      exact ⟨ret_int (by simp), rfl⟩

/-- What is left of the allowance behind k latenesses. -/
def spR (l : List Int) (a : Int) : Nat → Int
  | 0 => clI a
  | k + 1 => spR l a k - mnI (clI (l.getD k 0)) (spR l a k)
/-- What is left of the first k latenesses. -/
def spO (l : List Int) (a : Int) : Nat → List Int
  | 0 => []
  | k + 1 => spO l a k ++ [clI (l.getD k 0) - mnI (clI (l.getD k 0)) (spR l a k)]
theorem spO_len (l : List Int) (a : Int) : ∀ k, (spO l a k).length = k
  | 0 => rfl
  | k + 1 => by simp [spO, spO_len l a k]
theorem spR_rng (l : List Int) (a : Int) : ∀ k, 0 ≤ spR l a k ∧ spR l a k ≤ 1099511627776
  | 0 => clI_rng a
  | k + 1 => by
    have h := spR_rng l a k
    have h' := clI_rng (l.getD k 0)
    simp only [spR, mnI]
    split <;> omega

/-- Behind the round. -/
theorem sp_map (l : List Int) (a : Int) (k : Nat) : (spO l a (k + 1)).map (Value.int .i64) = (spO l a k).map (Value.int .i64) ++ [.int .i64 (clI (l.getD k 0) - mnI (clI (l.getD k 0)) (spR l a k))] := by
  simp [spO]

/-- What Spend returns. -/
def SpendP (l : List Int) (a : Int) (w : World) (e : Ending) (w' : World) : Prop :=
  ∃ (A : Option Addr) (c : Nat), e = .returned (.slice A l.length c) ∧ IntsAt w' w'.heap.size A (spO l a l.length) ∧ Below w.heap.size w w'

theorem ints_of_own {w : World} {base : Nat} {v : Value} {xs : List Int} (h : w.ownsRow base 3 1 v xs.length (xs.map (Value.int .i64))) : ∃ (A : Option Addr) (c : Nat), v = .slice A xs.length c ∧ IntsAt w w.heap.size A xs := by
  obtain ⟨hlen, ⟨rfl, h0⟩ | ⟨g, cap, cur, rfl, hb, hg, hle, hm, hs, ht⟩⟩ := h
  · exact ⟨none, 0, by rw [h0], fun hn => by omega⟩
  · refine ⟨_, cap, rfl, fun hn => ⟨g, 0, rfl, (Array.getElem?_eq_some_iff.1 hg).1, fun k hk => ?_⟩⟩
    have hc := World.ownsRow.cellAt (w := w) (base := base) (e := 3) (size := 1) (g := g) (n := xs.length) (cap := cap) (xs := xs.map (Value.int .i64)) ⟨hlen, .inr ⟨g, cap, cur, rfl, hb, hg, hle, hm, hs, ht⟩⟩ k (by omega)
    rw [Nat.zero_add, hc]
    simp [List.getD_eq_getElem?_getD, hk]

set_option maxHeartbeats 1000000 in
theorem Spend_any (A : Option Addr) (c : Nat) (l : List Int) (al : Int) (w : World) (hs : IntsAt w w.heap.size A l) (hl : l.length ≤ 30) :
    Calls Try.prog 21 #[.slice A l.length c, .int .i64 al] w (SpendP l al w) := by
  obtain ⟨i0, hi, hz0, hz1, hz2⟩ := info_parts Try.info3
  have HS := Lib.hid hs
  clear hs
  go_enter Try.func21, Try.ntmps21
  go_wp2_with fail
  refine (clamp_any _ _).mono ?_
  rintro e w0 ⟨rfl, rfl⟩
  go_wp2_with fail
  go_loopw [7, 6, 16] (fun v r i wr => ∃ k : Nat, k ≤ l.length ∧ i = .int .i64 k ∧ r = .int .i64 (spR l al k) ∧ wr.ownsRow w.heap.size 3 1 v (spO l al k).length ((spO l al k).map (Value.int .i64)) ∧ Below w.heap.size w wr)
    (fun _ _ i _ => l.length - (intOf i).toNat)
  case atStart => exact ⟨0, Nat.zero_le _, rfl, rfl, World.ownsRow_nil _ _ _ _, Below.refl _ _⟩
  case round =>
    obtain ⟨k, hk, rfl, rfl, hown, hB⟩ := hrel
    have HB := Lib.hid hB
    have HO := Lib.hid hown
    have hr := spR_rng l al k
    by_cases hlt : k < l.length
    · obtain ⟨b, off, rfl, hbl, hc⟩ := (HS.out.below hB) (by omega)
      have c0 := hc k hlt
      have hzz := hB.size
      have hbw : b < wr.heap.size := by omega
      have HMap := Lib.hid (sp_map l al k)
      have hstep : spR l al (k + 1) = spR l al k - mnI (clI (l.getD k 0)) (spR l al k) := rfl
      have HStep := Lib.hid hstep
      have hcl := clI_rng (l.getD k 0)
      have HLen := Lib.hid (spO_len l al k)
      have HLen1 := Lib.hid (spO_len l al (k + 1))
      generalize hx : l.getD k 0 = x at c0
      have HX := Lib.hid hx
      rw [hx] at hcl
      generalize hy : clI x = y at hcl
      have HY := Lib.hid hy
      generalize hq : spR l al k = q at hr
      have HQ := Lib.hid hq
      clear hB hc hstep hx hy hq hown
      by_cases hqy : q < y
      · have HM : Hid (mnI y q = q) := Lib.hid (by rw [mnI, if_pos hqy])
        have hgw : ∀ (o : Obj), w.heap.size ≤ (wr.alloc o).heap.size := fun o => by simp; omega
        go_wp2_with fail
        refine (clamp_any _ _).mono ?_
        rintro e w1 ⟨rfl, rfl⟩
        rw [HY.out]
        have hown := HO.out
        go_wp2_with (at_builtin; refine wpList_append_lies _ rfl _ _ 44 rfl w.heap.size 3 i0 (.int .i64 0) 1 8 Try.underlying44 hi hz0 hz1 hz2 rfl (by decide) _ _ _ rfl (hown.alloc _) ⟨wr.heap.size, 0, none⟩ 1 1 [.int .i64 (y - q)] rfl rfl ?c1 ?c2 ?c3 ?c4 ?c5 ?c6 (wr.heap.size + 1) ?c7 ?_)
        case c1 => exact cell_one_new _ _ _
        case c2 => intro u hu; simp at hu; subst hu; rfl
        case c3 => decide
        case c4 => rw [HLen.out]; unfold maxLen; omega
        case c5 => rw [HLen.out]; omega
        case c6 => exact hgw _
        case c7 => simp
        intro g cap w2 hown2 hgrow _ hg
        have R1 : w2.ownsRow w.heap.size 3 1 (.slice (some ⟨g, 0, none⟩) (spO l al (k + 1)).length cap) (spO l al (k + 1)).length ((spO l al (k + 1)).map (Value.int .i64)) := by
          rw [HLen.out] at hown2
          rw [HLen1.out, HMap.out, HX.out, HY.out, HQ.out, HM.out]
          exact hown2
        have R2 : Below w.heap.size w w2 := (HB.out.alloc (by omega) _).grown hgrow (hgw _) (fun j hj => (HO.out.lt j hj).1)
        have HR1 := Lib.hid R1
        have HR2 := Lib.hid R2
        have HS' : Hid (spR l al (k + 1) = 0) := Lib.hid (by rw [HStep.out, HX.out, HY.out, HQ.out, HM.out]; omega)
        have HL' : Hid ((spO l al k).length + 1 = (spO l al (k + 1)).length) := Lib.hid (by rw [HLen.out, HLen1.out])
        clear hown2 hgrow R1 R2 hown
        go_wp2_with fail
        go_roundw
        case rel =>
          first | exact ⟨k + 1, by omega, by go_num, by rw [HS'.out], by rw [HL'.out]; exact HR1.out, HR2.out⟩ | ((repeat apply Exists.intro); exact ⟨⟨k + 1, by omega, by go_num, by rw [HS'.out], by rw [HL'.out]; exact HR1.out, HR2.out⟩, rfl⟩)
        case measure => simp [intOf]; omega
      · have HM : Hid (mnI y q = y) := Lib.hid (by rw [mnI, if_neg hqy])
        have hgw : ∀ (o : Obj), w.heap.size ≤ (wr.alloc o).heap.size := fun o => by simp; omega
        go_wp2_with fail
        refine (clamp_any _ _).mono ?_
        rintro e w1 ⟨rfl, rfl⟩
        rw [HY.out]
        have hown := HO.out
        go_wp2_with (at_builtin; refine wpList_append_lies _ rfl _ _ 44 rfl w.heap.size 3 i0 (.int .i64 0) 1 8 Try.underlying44 hi hz0 hz1 hz2 rfl (by decide) _ _ _ rfl (hown.alloc _) ⟨wr.heap.size, 0, none⟩ 1 1 [.int .i64 0] rfl rfl ?c1 ?c2 ?c3 ?c4 ?c5 ?c6 (wr.heap.size + 1) ?c7 ?_)
        case c1 => exact cell_one_new _ _ _
        case c2 => intro u hu; simp at hu; subst hu; rfl
        case c3 => decide
        case c4 => rw [HLen.out]; unfold maxLen; omega
        case c5 => rw [HLen.out]; omega
        case c6 => exact hgw _
        case c7 => simp
        intro g cap w2 hown2 hgrow _ hg
        have R1 : w2.ownsRow w.heap.size 3 1 (.slice (some ⟨g, 0, none⟩) (spO l al (k + 1)).length cap) (spO l al (k + 1)).length ((spO l al (k + 1)).map (Value.int .i64)) := by
          rw [HLen.out] at hown2
          rw [HLen1.out, HMap.out, HX.out, HY.out, HQ.out, HM.out]
          rw [Int.sub_self]; exact hown2
        have R2 : Below w.heap.size w w2 := (HB.out.alloc (by omega) _).grown hgrow (hgw _) (fun j hj => (HO.out.lt j hj).1)
        have HR1 := Lib.hid R1
        have HR2 := Lib.hid R2
        have HS' : Hid (spR l al (k + 1) = q - y) := Lib.hid (by rw [HStep.out, HX.out, HY.out, HQ.out, HM.out])
        have HL' : Hid ((spO l al k).length + 1 = (spO l al (k + 1)).length) := Lib.hid (by rw [HLen.out, HLen1.out])
        clear hown2 hgrow R1 R2 hown
        go_wp2_with fail
        go_roundw
        case rel =>
          first | exact ⟨k + 1, by omega, by go_num, by rw [HS'.out], by rw [HL'.out]; exact HR1.out, HR2.out⟩ | ((repeat apply Exists.intro); exact ⟨⟨k + 1, by omega, by go_num, by rw [HS'.out], by rw [HL'.out]; exact HR1.out, HR2.out⟩, rfl⟩)
        case measure => simp [intOf]; omega
    · go_wp2_with fail
      go_ret
      obtain rfl : k = l.length := by omega
      have hown' := HO.out
      obtain ⟨A', c', hv, hI⟩ := ints_of_own hown'
      rw [spO_len] at hv
      exact ⟨A', c', by rw [hv]; rfl, hI, HB.out⟩

end Go.Proofs.Ytcppijoccolmkaa
