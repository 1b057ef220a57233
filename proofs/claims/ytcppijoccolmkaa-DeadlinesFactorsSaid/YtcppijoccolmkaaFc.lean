/-
  The contract of the reference's parts.
-/
import Derived.Test.YtcppijoccolmkaaFb
namespace Go.Proofs.Ytcppijoccolmkaa
open Go.RowKit

/-- Knots behind others. -/
theorem chn_split : ∀ (pre : List (Int × Int)) (b x : Int × Int) (post : List (Int × Int)), Chn b (pre ++ x :: post) → Chn x post ∧ b.1 < x.1 ∧ ∀ y ∈ pre, y.1 < x.1
  | [], b, x, post, h => ⟨h.2.2, h.1, fun y hy => by cases hy⟩
  | a :: r, b, x, post, h => by
    obtain ⟨h1, h2, h3⟩ := h
    obtain ⟨q1, q2, q3⟩ := chn_split r a x post h3
    refine ⟨q1, by omega, fun y hy => ?_⟩
    rcases List.mem_cons.1 hy with rfl | hy
    · exact q2
    · exact q3 y hy

theorem take_mid {l : List (Int × Int)} {k : Nat} (h : k < l.length) : l = l.take k ++ l.getD k (0, 0) :: l.drop (k + 1) := by
  rw [← drop_cons h, List.take_append_drop]

/-- The factor behind knot k - 1, as the reference reckons it. -/
theorem seg_fac {l : List (Int × Int)} {t : Int} {k : Nat} (h : okTo l l.length = true) (hk1 : 1 ≤ k) (hk : k < (kn l).length) (h0 : ((kn l).getD (k - 1) (0, 0)).1 < t) (h1 : t ≤ ((kn l).getD k (0, 0)).1) :
    linK t (kn l) = 100 * (((kn l).getD (k - 1) (0, 0)).2 * (((kn l).getD k (0, 0)).1 - t) + ((kn l).getD k (0, 0)).2 * (t - ((kn l).getD (k - 1) (0, 0)).1)) / (((kn l).getD k (0, 0)).1 - ((kn l).getD (k - 1) (0, 0)).1) := by
  obtain ⟨b, r, e, hb0, _, hc⟩ := kn_chn h
  have hk' : k - 1 < (kn l).length := by omega
  have e1 := take_mid hk'
  have e2 := drop_cons (l := kn l) (k := k) hk
  rw [show k - 1 + 1 = k by omega, e2] at e1
  generalize (kn l).getD (k - 1) (0, 0) = x at *
  generalize (kn l).getD k (0, 0) = y at *
  generalize (kn l).drop (k + 1) = post at *
  generalize (kn l).take (k - 1) = pre at *
  rw [e1]
  have hall : ∀ z ∈ pre ++ [x], z.1 ≤ t := fun z hz => by
    rcases List.mem_append.1 hz with hz | hz
    · cases pre with
      | nil => cases hz
      | cons a p =>
        rw [e] at e1
        simp only [List.cons_append, List.cons.injEq] at e1
        obtain ⟨rfl, rfl⟩ := e1
        obtain ⟨_, q2, q3⟩ := chn_split p b x _ hc
        rcases List.mem_cons.1 hz with rfl | hz
        · omega
        · have := q3 z hz; omega
    · rw [List.mem_singleton] at hz; subst hz; omega
  have hcx : Chn x (y :: post) := by
    cases pre with
    | nil => rw [e] at e1; simp only [List.nil_append, List.cons.injEq] at e1; obtain ⟨rfl, rfl⟩ := e1; exact hc
    | cons a p =>
      rw [e] at e1
      simp only [List.cons_append, List.cons.injEq] at e1
      obtain ⟨rfl, rfl⟩ := e1
      exact (chn_split p b x _ hc).1
  rw [linK_split t pre x (y :: post) hall, linG]
  by_cases hlt : t < y.1
  · rw [if_pos hlt]
  · rw [if_neg hlt]
    have et : t = y.1 := by omega
    subst et
    rw [linG_at y post hcx.2.2, Int.sub_self, Int.mul_zero, Int.zero_add, ← Int.mul_assoc, Int.mul_ediv_cancel _ (by omega)]
theorem last_fac {l : List (Int × Int)} {t : Int} (h : okTo l l.length = true) (h0 : ((kn l).getD ((kn l).length - 1) (0, 0)).1 < t) : linK t (kn l) = 100 * ((kn l).getD ((kn l).length - 1) (0, 0)).2 := by
  obtain ⟨b, r, e, hb0, _, hc⟩ := kn_chn h
  have hn : 0 < (kn l).length := by rw [e]; simp
  have e1 := take_mid (l := kn l) (k := (kn l).length - 1) (by omega)
  have e2 : (kn l).drop ((kn l).length - 1 + 1) = [] := by rw [show (kn l).length - 1 + 1 = (kn l).length by omega, List.drop_length]
  rw [e2] at e1
  generalize (kn l).getD ((kn l).length - 1) (0, 0) = x at *
  generalize (kn l).take ((kn l).length - 1) = pre at *
  rw [e1]
  refine linK_split t pre x [] fun z hz => ?_
  rcases List.mem_append.1 hz with hz | hz
  · cases pre with
    | nil => cases hz
    | cons a p =>
      rw [e] at e1
      simp only [List.cons_append, List.cons.injEq] at e1
      obtain ⟨rfl, rfl⟩ := e1
      obtain ⟨_, q2, q3⟩ := chn_split p b x _ hc
      rcases List.mem_cons.1 hz with rfl | hz
      · omega
      · have := q3 z hz; omega
  · rw [List.mem_singleton] at hz; subst hz; omega
theorem kn_first {l : List (Int × Int)} (h : okTo l l.length = true) : ((kn l).getD 0 (0, 0)).1 = 0 ∧ 0 < (kn l).length := by
  obtain ⟨b, r, e, hb0, _, _⟩ := kn_chn h
  rw [e]; exact ⟨by simpa using hb0, by simp⟩
theorem kn_rng {l : List (Int × Int)} {k : Nat} (h : okTo l l.length = true) (hk : k < (kn l).length) : (0 ≤ ((kn l).getD k (0, 0)).1 ∧ ((kn l).getD k (0, 0)).1 ≤ 1099511627776) ∧ 0 ≤ ((kn l).getD k (0, 0)).2 ∧ ((kn l).getD k (0, 0)).2 ≤ 100 := by
  have := (knOk h).rng ((kn l).getD k (0, 0)) (by rw [List.getD_eq_getElem?_getD, List.getElem?_eq_getElem hk]; exact List.getElem_mem hk)
  omega
theorem kn_len (l : List (Int × Int)) : (kn l).length ≤ l.length + 1 := by unfold kn; split <;> simp

theorem lin_bd' {t b1 b2 k1 k2 : Int} (h1 : 0 ≤ b1) (h2 : b1 ≤ t) (h3 : t ≤ k1) (h4 : k1 ≤ 1099511627776) (h5 : 0 ≤ b2) (h6 : b2 ≤ 100) (h7 : 0 ≤ k2) (h8 : k2 ≤ 100) :
    (0 ≤ b2 * (k1 - t) ∧ b2 * (k1 - t) ≤ 109951162777600) ∧ (0 ≤ k2 * (t - b1) ∧ k2 * (t - b1) ≤ 109951162777600) := by
  refine ⟨⟨Int.mul_nonneg h5 (by omega), ?_⟩, ⟨Int.mul_nonneg h7 (by omega), ?_⟩⟩
  · have := Int.mul_le_mul h6 (show k1 - t ≤ 1099511627776 by omega) (by omega) (by omega); omega
  · have := Int.mul_le_mul h8 (show t - b1 ≤ 1099511627776 by omega) (by omega) (by omega); omega

set_option maxHeartbeats 1000000 in
theorem rparts_stp (due grace : Int) (A : Option Addr) (c : Nat) (l : List (Int × Int)) (t : Int) (w : World)
    (hs : StepsAt w w.heap.size A l) (hl : l.length ≤ 16) (hok : okTo l l.length = true) (ht0 : 0 ≤ t) :
    Calls Try.prog 38 #[.agg #[.int .i64 due, .int .i64 grace, .bool false, .slice A l.length c], .int .i64 t] w fun e w' => e = .returned (.int .i64 (fac false l t)) ∧ Below w.heap.size w w' := by
  have HS := Lib.hid hs
  have HOK := Lib.hid hok
  clear hs hok
  by_cases h0 : t = 0
  · subst h0
    have e : fac false l 0 = 10000 := by rw [fac, if_pos rfl]
    rw [e]; clear e
    go_enter Try.func38, Try.ntmps38
    go_wp2
    go_ret
    exact ⟨rfl, below_fin (Below.refl _ _)⟩
  · have h0' : (t == 0) = false := beq_eq_false_iff_ne.2 h0
    have e : fac false l t = 100 * stp l t l.length := by rw [fac, if_neg h0, if_neg (by simp)]
    rw [e]; clear e
    go_enter Try.func38, Try.ntmps38
    go_wp2_with fail
    go_loopw [5, 6] (fun o i wr => ∃ k : Nat, k ≤ l.length ∧ i = .int .i64 k ∧ o = .int .i64 (100 * stp l t k) ∧ wr = w.alloc (polObj due grace false A l.length c)) (fun _ i _ => l.length - (intOf i).toNat)
    case atStart => exact ⟨0, Nat.zero_le _, rfl, rfl, rfl⟩
    case round =>
      obtain ⟨k, hk, rfl, rfl, rfl⟩ := hrel
      have hst := stp_rng (t := t) k (okTo_le hk HOK.out)
      by_cases hlt : k < l.length
      · obtain ⟨b, off, rfl, hbl, hc⟩ := HS.out (by omega)
        obtain ⟨c0, c1⟩ := hc k hlt
        have hstp : stp l t (k + 1) = if (l.getD k (0, 0)).1 < t then (l.getD k (0, 0)).2 else stp l t k := rfl
        have hr := okAt_rng (okTo_at hlt HOK.out)
        generalize l.getD k (0, 0) = x at *
        obtain ⟨x1, x2⟩ := x
        dsimp only at c0 c1 hr hstp
        obtain ⟨_, hr2, hr3⟩ := hr
        have HT := Lib.hid hstp
        clear hc hstp
        by_cases hx : x1 < t
        · have HV : Hid (stp l t (k + 1) = x2) := Lib.hid (by rw [HT.out, if_pos hx])
          go_wp2
          go_roundw
          case rel => exact ⟨k + 1, by omega, by go_num, by rw [HV.out], trivial⟩
          case measure => simp [intOf]; omega
        · have HV : Hid (stp l t (k + 1) = stp l t k) := Lib.hid (by rw [HT.out, if_neg hx])
          go_wp2
          go_roundw
          case rel => exact ⟨k + 1, by omega, by go_num, by rw [HV.out], trivial⟩
          case measure => simp [intOf]; omega
      · go_wp2
        go_ret
        obtain rfl : k = l.length := by omega
        exact ⟨rfl, below_fin (Below.refl _ _)⟩

/-- A step lies in a box. -/
def StAt (wx : World) (B : Nat) (s : Value) (x : Int × Int) : Prop :=
  ∃ g : Nat, s = .pointer (some ⟨g, 0, none⟩) ∧ B ≤ g ∧ g < wx.heap.size ∧ wx.cell? ⟨g, 0, none⟩ = some (.int .i64 x.1) ∧ wx.cell? ⟨g, 1, none⟩ = some (.int .i64 x.2)

set_option maxHeartbeats 2000000 in
set_option maxRecDepth 100000 in
theorem rparts_lin (due grace : Int) (A : Option Addr) (c : Nat) (l : List (Int × Int)) (t : Int) (w : World)
    (hs : StepsAt w w.heap.size A l) (hl : l.length ≤ 16) (hok : okTo l l.length = true) (ht0 : 0 ≤ t) (ht1 : t ≤ 1099511627776) :
    Calls Try.prog 38 #[.agg #[.int .i64 due, .int .i64 grace, .bool true, .slice A l.length c], .int .i64 t] w fun e w' => e = .returned (.int .i64 (fac true l t)) ∧ Below w.heap.size w w' := by
  have HS := Lib.hid (hs.alloc (polObj due grace true A l.length c))
  have HOK := Lib.hid hok
  clear hs hok
  by_cases h0 : t = 0
  · subst h0
    have e : fac true l 0 = 10000 := by rw [fac, if_pos rfl]
    rw [e]; clear e
    go_enter Try.func38, Try.ntmps38
    go_wp2
    go_ret
    exact ⟨rfl, below_fin (Below.refl _ _)⟩
  · have h0' : (t == 0) = false := beq_eq_false_iff_ne.2 h0
    have e : fac true l t = linK t (kn l) := by rw [fac, if_neg h0, if_pos rfl]
    rw [e]; clear e
    have hkl := kn_len l
    obtain ⟨hf0, hfl⟩ := kn_first HOK.out
    have HF0 := Lib.hid hf0
    clear hf0
    go_enter Try.func38, Try.ntmps38
    go_wp2_with fail
    refine (rknots_any _ _ _ _ _ _ _ HS.out hl HOK.out).mono ?_
    rintro e w1 ⟨A', c', rfl, hS, hb1⟩
    have HS1 := Lib.hid hS
    have HB1 := Lib.hid (below_fin (hb1.mono (by simp)))
    obtain ⟨n, hn⟩ : ∃ n, n = (kn l).length := ⟨_, rfl⟩
    have HN := Lib.hid hn
    rw [← hn] at hkl hfl ⊢
    clear hS hb1 hn
    go_wp2_with fail
    go_loopw [8] (fun i wr => ∃ k : Nat, 1 ≤ k ∧ k ≤ n ∧ i = .int .i64 k ∧ ((kn l).getD (k - 1) (0, 0)).1 < t ∧ Below w1.heap.size w1 wr) (fun i _ => n - (intOf i).toNat)
    case atStart => exact ⟨1, Nat.le_refl _, by omega, rfl, by rw [HF0.out]; omega, Below.refl _ _⟩
    case round =>
      obtain ⟨k, hk1, hk, rfl, hlow, hB⟩ := hrel
      have HBr := Lib.hid hB
      have hzr := hB.size
      obtain ⟨b, off, rfl, hbl, hc⟩ := (HS1.out.below hB) (by rw [← HN.out]; omega)
      have hbr : b < wr.heap.size := by omega
      have i2 : ((k : Int) - 1).toNat = k - 1 := by omega
      have i4 : (1 : Int) ≤ (k : Int) := by omega
      have i3 : (k : Int) - 1 < (n : Int) := by omega
      have i5 : (0 : Int) ≤ (k : Int) - 1 := by omega
      by_cases hlt : k < n
      · obtain ⟨c0, c1⟩ := hc (k - 1) (by rw [← HN.out]; omega)
        obtain ⟨c2, c3⟩ := hc k (by rw [← HN.out]; exact hlt)
        have hrx := kn_rng (l := l) (k := k - 1) HOK.out (by rw [← HN.out]; omega)
        have hry := kn_rng (l := l) (k := k) HOK.out (by rw [← HN.out]; exact hlt)
        have hseg := seg_fac (l := l) (t := t) (k := k) HOK.out hk1 (by rw [← HN.out]; exact hlt) hlow
        have hnext : ((kn l).getD (k + 1 - 1) (0, 0)).1 = ((kn l).getD k (0, 0)).1 := by rw [Nat.add_sub_cancel]
        generalize (kn l).getD (k - 1) (0, 0) = x at *
        generalize (kn l).getD k (0, 0) = y at *
        obtain ⟨x1, x2⟩ := x
        obtain ⟨y1, y2⟩ := y
        dsimp only at c0 c1 c2 c3 hrx hry hseg hlow hnext
        have HSEG := Lib.hid hseg
        have HNX := Lib.hid hnext
        clear hc hB hseg hnext
        have i6 : (k : Int) < (n : Int) := by omega
        have i7 : (0 : Int) ≤ (k : Int) := by omega
        have hK : ∀ X, Below wr.heap.size wr X → ((X.cell? ⟨b, off + (k - 1) * 2, none⟩ = some (.int .i64 x1) ∧ X.cell? ⟨b, off + (k - 1) * 2 + 1, none⟩ = some (.int .i64 x2)) ∧ (X.cell? ⟨b, off + k * 2, none⟩ = some (.int .i64 y1) ∧ X.cell? ⟨b, off + k * 2 + 1, none⟩ = some (.int .i64 y2))) ∧ Below wr.heap.size wr X := fun X hX => by
          have hc := bcell hX
          exact ⟨⟨⟨(hc _ _ hbr).trans c0, (hc _ _ hbr).trans c1⟩, (hc _ _ hbr).trans c2, (hc _ _ hbr).trans c3⟩, hX⟩
        have HK := Lib.hid hK
        clear hK
        go_wp2_with fail
        go_cut [9, 10] (fun s9 s10 wc => (StAt wc wr.heap.size s9 (x1, x2) ∧ StAt wc wr.heap.size s10 (y1, y2)) ∧ Below wr.heap.size wr wc)
        case first =>
          have hw : IntKind.i64.wrap ((k : Int) - 1) = (k : Int) - 1 := IntWalk.i64_in _ (by omega)
          go_region_held3 (fun X => ((X.cell? ⟨b, off + (k - 1) * 2, none⟩ = some (.int .i64 x1) ∧ X.cell? ⟨b, off + (k - 1) * 2 + 1, none⟩ = some (.int .i64 x2)) ∧ (X.cell? ⟨b, off + k * 2, none⟩ = some (.int .i64 y1) ∧ X.cell? ⟨b, off + k * 2 + 1, none⟩ = some (.int .i64 y2))) ∧ Below wr.heap.size wr X)
            (((refine HK.out _ ?_); repeat (first | exact Below.refl _ _ | refine Below.drew ?_ | refine Below.alloc ?_ (by first | omega | (simp; done) | (simp; omega)) _ | refine Below.setCell ?_ (by first | omega | (dsimp only; omega) | (simp; omega)) _)))
            (fail)
          all_goals
            go_wp2_with fail
            go_meet
            go_light
            clear hw
            refine ⟨⟨⟨_, rfl, ?_, ?_, ?_, ?_⟩, ⟨_, rfl, ?_, ?_, ?_, ?_⟩⟩, ?_⟩
            · first | omega | (simp; done) | (simp; omega)
            · first | omega | (simp; done) | (simp; omega)
            · (repeat (first | (simp; done) | (with_reducible exact ca_new (by simp) rfl) | rw [World.cell?_drew] | rw [cs_same (by go_simp)] | rw [cs_far (by omega)] | rw [World.cell?_alloc_lt _ _ _ (by first | (dsimp only; omega) | (simp; omega))]))
            · (repeat (first | (simp; done) | (with_reducible exact ca_new (by simp) rfl) | rw [World.cell?_drew] | rw [cs_same (by go_simp)] | rw [cs_far (by omega)] | rw [World.cell?_alloc_lt _ _ _ (by first | (dsimp only; omega) | (simp; omega))]))
            · first | omega | (simp; done) | (simp; omega)
            · first | omega | (simp; done) | (simp; omega)
            · (repeat (first | (simp; done) | (with_reducible exact ca_new (by simp) rfl) | rw [World.cell?_drew] | rw [cs_same (by go_simp)] | rw [cs_far (by omega)] | rw [World.cell?_alloc_lt _ _ _ (by first | (dsimp only; omega) | (simp; omega))]))
            · (repeat (first | (simp; done) | (with_reducible exact ca_new (by simp) rfl) | rw [World.cell?_drew] | rw [cs_same (by go_simp)] | rw [cs_far (by omega)] | rw [World.cell?_alloc_lt _ _ _ (by first | (dsimp only; omega) | (simp; omega))]))
            · repeat (first | exact Below.refl _ _ | refine Below.drew ?_ | refine Below.alloc ?_ (by first | omega | (simp; done) | (simp; omega)) _ | refine Below.setCell ?_ (by first | omega | (dsimp only; omega) | (simp; omega)) _)
        case rest =>
          obtain ⟨⟨⟨g, rfl, hg, hgl, e0, e1⟩, ⟨h, rfl, hh, hhl, e2, e3⟩⟩, hbx⟩ := hcut
          dsimp only at e0 e1 e2 e3
          have HBx := Lib.hid (HBr.out.trans (hbx.mono hzr))
          have hx1 : decide (x1 < t) = true := by simpa using hlow
          clear hbx c0 c1 c2 c3
          by_cases hty : t ≤ y1
          · have hty' : decide (t ≤ y1) = true := by simpa using hty
            obtain ⟨⟨xa, xb⟩, xc, xd⟩ := hrx
            obtain ⟨⟨ya, yb⟩, yc, yd⟩ := hry
            obtain ⟨⟨m0, m1⟩, m2, m3⟩ := lin_bd' xa (Int.le_of_lt hlow) hty yb xc xd yc yd
            have hd : 1 ≤ y1 - x1 := by omega
            have hd0 : ((y1 - x1) == 0) = false := beq_eq_false_iff_ne.2 (by omega)
            go_wp2_with fail
            go_ret
            exact ⟨ret_int (HSEG.out hty).symm, HB1.out.trans (HBx.out.mono HB1.out.size)⟩
          · have hty' : decide (t ≤ y1) = false := by simpa using hty
            go_wp2_with fail
            go_roundw
            case rel => first | exact ⟨k + 1, by omega, by omega, by go_num, by rw [HNX.out]; omega, HBx.out⟩ | ((repeat apply Exists.intro); exact ⟨⟨k + 1, by omega, by omega, by go_num, by rw [HNX.out]; omega, HBx.out⟩, rfl⟩)
            case measure => simp [intOf]; omega
      · obtain rfl : k = n := by omega
        obtain ⟨c0, c1⟩ := hc (k - 1) (by rw [← HN.out]; omega)
        have hrx := kn_rng (l := l) (k := k - 1) HOK.out (by rw [← HN.out]; omega)
        have hlast : linK t (kn l) = 100 * ((kn l).getD (k - 1) (0, 0)).2 := by
          have := last_fac (l := l) (t := t) HOK.out (by rw [← HN.out]; exact hlow)
          rwa [← HN.out] at this
        generalize (kn l).getD (k - 1) (0, 0) = x at *
        obtain ⟨x1, x2⟩ := x
        dsimp only at c0 c1 hrx hlast
        obtain ⟨_, x20, x21⟩ := hrx
        have HL := Lib.hid hlast
        clear hc hB hlast
        go_wp2_with fail
        go_ret
        exact ⟨ret_int HL.out.symm, HB1.out.trans (HBr.out.mono HB1.out.size)⟩

end Go.Proofs.Ytcppijoccolmkaa
