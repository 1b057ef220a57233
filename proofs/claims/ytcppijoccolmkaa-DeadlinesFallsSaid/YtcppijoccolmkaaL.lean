/-
  The walk of DeadlinesFalls.
-/
import Derived.Test.YtcppijoccolmkaaQ
namespace Go.Proofs.Ytcppijoccolmkaa
open Go.RowKit

set_option maxHeartbeats 8000000 in
set_option maxRecDepth 100000 in
theorem Falls_any (due grace : Int) (lin : Bool) (A : Option Addr) (c : Nat) (l : List (Int × Int)) (a b : Int) (w : World)
    (hs : StepsAt w w.heap.size A l) (hl : l.length ≤ 9223372036854775807) (h20 : l.length ≤ 20) (hab : a ≤ b) :
    Calls Try.prog 3 #[.agg #[.int .i64 due, .int .i64 grace, .bool lin, .slice A l.length c], .int .i64 a, .int .i64 b] w fun e w' => e = .returned (.bool true) ∧ Below w.heap.size w w' := by
  have HS := Lib.hid (hs.alloc (polObj due grace lin A l.length c))
  have HB0 := Lib.hid ((Below.refl _ w).alloc (Nat.le_refl _) (polObj due grace lin A l.length c))
  have g20 : decide ((20 : Int) < (l.length : Int)) = false := by simp; omega
  have gab : decide (b < a) = false := by simp; omega
  go_enter Try.func3, Try.ntmps3
  go_wp2_with fail
  refine (awake_any _).mono ?_
  rintro e w1 ⟨rfl, hb1⟩
  have HS1 := Lib.hid (HS.out.later hb1)
  have HB1 := Lib.hid (HB0.out.trans (hb1.mono (by simp)))
  have hz1 := hb1.size
  simp only [World.size_alloc] at hz1
  have hB1 := hb1.mono (B' := w.heap.size + 1) (by simp)
  have c0 : w1.cell? ⟨w.heap.size, 0, none⟩ = some (.int .i64 due) := by rw [bcell hB1 _ _ (by omega)]; simp [go_sem]
  have c1 : w1.cell? ⟨w.heap.size, 1, none⟩ = some (.int .i64 grace) := by rw [bcell hB1 _ _ (by omega)]; simp [go_sem]
  have c2 : w1.cell? ⟨w.heap.size, 2, none⟩ = some (.bool lin) := by rw [bcell hB1 _ _ (by omega)]; simp [go_sem]
  have c3 : w1.cell? ⟨w.heap.size, 3, none⟩ = some (.slice A l.length c) := by rw [bcell hB1 _ _ (by omega)]; simp [go_sem]
  have g1 : w.heap.size < w1.heap.size := by omega
  have H0 : Hid (PS w1 w.heap.size due grace lin A l.length c w1) := ⟨⟨⟨c0, c1⟩, c2, c3⟩, Below.refl _ _⟩
  clear hb1 hB1 HB0 HS hs
  go_wp2_with fail
  obtain ⟨xa, hxa⟩ : ∃ x, x = facF due grace lin l a := ⟨_, rfl⟩
  obtain ⟨xb, hxb⟩ : ∃ x, x = facF due grace lin l b := ⟨_, rfl⟩
  have HXA := Lib.hid hxa
  have HXB := Lib.hid hxb
  clear hxa hxb
  go_cut [7, 8] (fun s7 s8 wx => (FrAt wx w1.heap.size s7 xa ∧ FrAt wx w1.heap.size s8 xb) ∧ Below w1.heap.size w1 wx)
  case first =>
    go_region_held3 (fun w' => ((w'.cell? ⟨w.heap.size, 0, none⟩ = some (.int .i64 due) ∧ w'.cell? ⟨w.heap.size, 1, none⟩ = some (.int .i64 grace)) ∧ (w'.cell? ⟨w.heap.size, 2, none⟩ = some (.bool lin) ∧ w'.cell? ⟨w.heap.size, 3, none⟩ = some (.slice A l.length c))) ∧ Below w1.heap.size w1 w')
        (((refine ps_of H0.out ?_); repeat (first | exact Below.refl _ _ | exact hq3.2 | exact hq2.2 | refine Below.drew ?_ | refine Below.alloc ?_ (by first | omega | (simp; done) | (simp; omega)) _ | refine Below.setCell ?_ (by first | omega | (dsimp only; omega) | (simp; omega)) _)))
        (first | (go_at_call_of 11 (Value.int IntKind.i64 b); refine (Factor_any due grace lin A c l _ _ (ps_steps HS1 (by assumption)) hl).mono ?_; rintro e w3 ⟨rfl, hb3⟩; have hq3 := ps_call H0 hb3 (by assumption); obtain ⟨hc3, hf3⟩ := bboth hb3; have hz3 := hb3.size; (try simp only [World.size_alloc] at hc3 hf3 hz3); (try have q0 : w1.heap.size < w3.heap.size := (by omega)); (try have q1 : w1.heap.size + 1 < w3.heap.size := (by omega)); (try have q2 : w2.heap.size < w3.heap.size := (by omega)); (try have q3 : w2.heap.size + 1 < w3.heap.size := (by omega)); (try have q4 : w1.heap.size < w2.heap.size + 1 := (by omega)); (try have q5 : w1.heap.size + 1 < w2.heap.size + 1 := (by omega)); (try have q6 : w1.heap.size < w2.heap.size + 1 + 1 := (by omega)); (try have q7 : w1.heap.size + 1 < w2.heap.size + 1 + 1 := (by omega)); rw [← HXB.out])
               | (go_at_call_of 11 (Value.int IntKind.i64 a); refine (Factor_any due grace lin A c l _ _ (ps_steps HS1 (by assumption)) hl).mono ?_; rintro e w2 ⟨rfl, hb2⟩; have hq2 := ps_call H0 hb2 (by assumption); obtain ⟨hc2, hf2⟩ := bboth hb2; have hz2 := hb2.size; (try simp only [World.size_alloc, World.size_drew, World.cell?_drew, World.frozen?_drew] at hc2 hf2 hz2); (try have r0 : w1.heap.size < w2.heap.size := (by omega)); (try have r1 : w1.heap.size + 1 < w2.heap.size := (by omega)); rw [← HXA.out]))
    all_goals
      go_wp2_with fail
      go_meet
      go_light
      refine ⟨⟨⟨_, rfl, ?_, ?_, ?_⟩, ⟨_, rfl, ?_, ?_, ?_⟩⟩, ?_⟩
      · first | omega | (simp; done) | (simp; omega)
      · (repeat (first | (simp; done) | (with_reducible exact ca_new (by simp) rfl) | rw [World.cell?_drew] | rw [cs_same (by go_simp)] | rw [cs_far (by omega)] | rw [World.cell?_alloc_lt _ _ _ (by first | (dsimp only; omega) | (simp; omega))] | rw [hc3 _ _ (by omega)] | rw [hc2 _ _ (by omega)]))
      · (repeat (first | (simp; done) | (with_reducible exact ca_new (by simp) rfl) | rw [World.cell?_drew] | rw [cs_same (by go_simp)] | rw [cs_far (by omega)] | rw [World.cell?_alloc_lt _ _ _ (by first | (dsimp only; omega) | (simp; omega))] | rw [hc3 _ _ (by omega)] | rw [hc2 _ _ (by omega)]))
      · first | omega | (simp; done) | (simp; omega)
      · (repeat (first | (simp; done) | (with_reducible exact ca_new (by simp) rfl) | rw [World.cell?_drew] | rw [cs_same (by go_simp)] | rw [cs_far (by omega)] | rw [World.cell?_alloc_lt _ _ _ (by first | (dsimp only; omega) | (simp; omega))] | rw [hc3 _ _ (by omega)] | rw [hc2 _ _ (by omega)]))
      · (repeat (first | (simp; done) | (with_reducible exact ca_new (by simp) rfl) | rw [World.cell?_drew] | rw [cs_same (by go_simp)] | rw [cs_far (by omega)] | rw [World.cell?_alloc_lt _ _ _ (by first | (dsimp only; omega) | (simp; omega))] | rw [hc3 _ _ (by omega)] | rw [hc2 _ _ (by omega)]))
      · repeat (first | exact Below.refl _ _ | exact hq3.2 | exact hq2.2 | refine Below.drew ?_ | refine Below.alloc ?_ (by first | omega | (simp; done) | (simp; omega)) _ | refine Below.setCell ?_ (by first | omega | (dsimp only; omega) | (simp; omega)) _)
  case rest =>
    obtain ⟨⟨⟨g, rfl, hg, k0, k1⟩, ⟨h, rfl, hh, m0, m1⟩⟩, hbx⟩ := hcut
    have HSx := Lib.hid (HS1.out.later hbx)
    obtain ⟨⟨⟨p0, p1⟩, p2, p3⟩, _⟩ := ps_of H0.out hbx
    have HB2 := Lib.hid (HB1.out.trans (hbx.mono (by omega)))
    have hzx := hbx.size
    have gg : g < wc.heap.size := World.block_lt_of_cell? wc ⟨g, 0, none⟩ k0
    have gh : h < wc.heap.size := World.block_lt_of_cell? wc ⟨h, 0, none⟩ m0
    have gp : w.heap.size < wc.heap.size := by omega
    clear hbx c0 c1 c2 c3 H0 HS1 HB1
    obtain ⟨x1, x2⟩ := xa
    obtain ⟨y1, y2⟩ := xb
    dsimp only at k0 k1 m0 m1
    by_cases hv : vldB due grace l = true
    · by_cases ha : 0 ≤ a
      · by_cases hb : b ≤ 1099511627776
        · have hA := HXA.out
          have hB := HXB.out
          have ta : tmB a = true := (tmB_iff a).2 ⟨ha, by omega⟩
          have tb : tmB b = true := (tmB_iff b).2 ⟨by omega, hb⟩
          obtain ⟨_, _, hok⟩ := vld_parts hv
          rw [facF, if_pos ⟨hv, ta⟩] at hA
          rw [facF, if_pos ⟨hv, tb⟩] at hB
          obtain ⟨f1, f2, f3⟩ := falls_facts (lin := lin) hok ha hab
          have oa := frOk_fac (lin := lin) hok ha
          have ob := frOk_fac (lin := lin) hok (show 0 ≤ b by omega)
          rw [← hA] at f1 f2 oa
          rw [← hB] at f1 f3 ob
          dsimp only at f1 f2 f3 oa ob
          clear hA hB ta tb hok
          have OA := Lib.hid oa
          have OB := Lib.hid ob
          generalize ec : cmpI (x1 * y2) (y1 * x2) = cc at f1
          generalize ed : cmpI (x1 * 1) (1 * x2) = dd at f2
          generalize ee : cmpI (y1 * 1) (0 * y2) = ff at f3
          have C1 : Hid (∀ w, Calls Try.prog 13 #[.agg #[.int .i64 x1, .int .i64 x2], .agg #[.int .i64 y1, .int .i64 y2]] w fun e w' => e = .returned (.tuple #[.int .i64 cc, .bool true]) ∧ Below w.heap.size w w') := Lib.hid fun w => by rw [← ec]; exact Compare_ok _ _ _ _ w oa ob
          have C2 : Hid (∀ w, Calls Try.prog 13 #[.agg #[.int .i64 x1, .int .i64 x2], .agg #[.int .i64 1, .int .i64 1]] w fun e w' => e = .returned (.tuple #[.int .i64 dd, .bool true]) ∧ Below w.heap.size w w') := Lib.hid fun w => by rw [← ed]; exact Compare_ok _ _ _ _ w oa frOk_one
          have C3 : Hid (∀ w, Calls Try.prog 13 #[.agg #[.int .i64 y1, .int .i64 y2], .agg #[.int .i64 0, .int .i64 1]] w fun e w' => e = .returned (.tuple #[.int .i64 ff, .bool true]) ∧ Below w.heap.size w w') := Lib.hid fun w => by rw [← ee]; exact Compare_ok _ _ _ _ w ob frOk_zero
          have C4 : Hid (∀ w, StepsAt w w.heap.size A l → Calls Try.prog 11 #[.agg #[.int .i64 due, .int .i64 grace, .bool lin, .slice A l.length c], .int .i64 0] w fun e w' => e = .returned (.agg #[.int .i64 1, .int .i64 1]) ∧ Below w.heap.size w w') := Lib.hid fun w hs => by
            have q := Factor_any due grace lin A c l 0 w hs hl
            rw [facF, if_pos ⟨hv, by decide⟩, fac, if_pos rfl, fr_one] at q
            exact q
          clear ec ed ee oa ob OA OB
          go_wp2_with fail
          refine (Valid_any _ _ _ _ _ _ _ HSx.out hl).mono ?_
          rintro e w4 ⟨rfl, hb4⟩
          have hc4 := bcell hb4
          have hz4 := hb4.size
          have HS4 := Lib.hid (HSx.out.later hb4)
          have HB4 := Lib.hid (HB2.out.trans (hb4.mono (by omega)))
          clear hb4
          go_wp2_with fail
          refine (C1.out _).mono ?_
          rintro e w5 ⟨rfl, hb5⟩
          have hc5 : ∀ b o, b < wc.heap.size → w5.cell? ⟨b, o, none⟩ = wc.cell? ⟨b, o, none⟩ := fun b o h => (bcell hb5 b o (by omega)).trans (hc4 b o h)
          have hz5 := hb5.size
          have HS5 := Lib.hid (HS4.out.later hb5)
          have HB5 := Lib.hid (HB4.out.trans (hb5.mono (by omega)))
          have g5 : g < w5.heap.size := by omega
          have h5 : h < w5.heap.size := by omega
          clear hb5 hc4
          go_wp2_with fail
          refine (C2.out _).mono ?_
          rintro e w6 ⟨rfl, hb6⟩
          have hc6 := bcell hb6
          have hz6 := hb6.size
          simp only [World.size_alloc] at hc6 hz6
          have HS6 := Lib.hid (((HS5.out.alloc _).alloc _).later hb6)
          have HB6 := Lib.hid (((HB5.out.alloc (by omega) _).alloc (by simp; omega) _).trans (hb6.mono (by simp; omega)))
          have e0 : w6.cell? ⟨h, 0, none⟩ = some (.int .i64 y1) := by rw [hc6 _ _ (by omega), World.cell?_alloc_lt _ _ _ (by simp; omega), World.cell?_alloc_lt _ _ _ h5, hc5 _ _ gh]; exact m0
          have e1 : w6.cell? ⟨h, 1, none⟩ = some (.int .i64 y2) := by rw [hc6 _ _ (by omega), World.cell?_alloc_lt _ _ _ (by simp; omega), World.cell?_alloc_lt _ _ _ h5, hc5 _ _ gh]; exact m1
          have q0 : w6.cell? ⟨w.heap.size, 0, none⟩ = some (.int .i64 due) := by rw [hc6 _ _ (by omega), World.cell?_alloc_lt _ _ _ (by simp; omega), World.cell?_alloc_lt _ _ _ (by dsimp only; omega), hc5 _ _ gp]; exact p0
          have q1 : w6.cell? ⟨w.heap.size, 1, none⟩ = some (.int .i64 grace) := by rw [hc6 _ _ (by omega), World.cell?_alloc_lt _ _ _ (by simp; omega), World.cell?_alloc_lt _ _ _ (by dsimp only; omega), hc5 _ _ gp]; exact p1
          have q2 : w6.cell? ⟨w.heap.size, 2, none⟩ = some (.bool lin) := by rw [hc6 _ _ (by omega), World.cell?_alloc_lt _ _ _ (by simp; omega), World.cell?_alloc_lt _ _ _ (by dsimp only; omega), hc5 _ _ gp]; exact p2
          have q3 : w6.cell? ⟨w.heap.size, 3, none⟩ = some (.slice A l.length c) := by rw [hc6 _ _ (by omega), World.cell?_alloc_lt _ _ _ (by simp; omega), World.cell?_alloc_lt _ _ _ (by dsimp only; omega), hc5 _ _ gp]; exact p3
          have o0 : w6.cell? ⟨w5.heap.size, 0, none⟩ = some (.int .i64 1) := by rw [hc6 _ _ (by omega)]; simp [go_sem]
          have o1 : w6.cell? ⟨w5.heap.size, 1, none⟩ = some (.int .i64 1) := by rw [hc6 _ _ (by omega)]; simp [go_sem]
          have z0 : w6.cell? ⟨w5.heap.size + 1, 0, none⟩ = some (.int .i64 0) := by rw [hc6 _ _ (by omega)]; simp [go_sem]
          have z1 : w6.cell? ⟨w5.heap.size + 1, 1, none⟩ = some (.int .i64 1) := by rw [hc6 _ _ (by omega)]; simp [go_sem]
          clear hc6 hc5 hb6 k0 k1 m0 m1 p0 p1 p2 p3
          go_wp2_with fail
          refine (C3.out _).mono ?_
          rintro e w7 ⟨rfl, hb7⟩
          have hc7 := bcell hb7
          have hz7 := hb7.size
          have HS7 := Lib.hid (HS6.out.later hb7)
          have HB7 := Lib.hid (HB6.out.trans (hb7.mono (by omega)))
          have r0 : w7.cell? ⟨w.heap.size, 0, none⟩ = some (.int .i64 due) := (hc7 _ _ (by omega)).trans q0
          have r1 : w7.cell? ⟨w.heap.size, 1, none⟩ = some (.int .i64 grace) := (hc7 _ _ (by omega)).trans q1
          have r2 : w7.cell? ⟨w.heap.size, 2, none⟩ = some (.bool lin) := (hc7 _ _ (by omega)).trans q2
          have r3 : w7.cell? ⟨w.heap.size, 3, none⟩ = some (.slice A l.length c) := (hc7 _ _ (by omega)).trans q3
          have s0 : w7.cell? ⟨w5.heap.size, 0, none⟩ = some (.int .i64 1) := (hc7 _ _ (by omega)).trans o0
          have s1 : w7.cell? ⟨w5.heap.size, 1, none⟩ = some (.int .i64 1) := (hc7 _ _ (by omega)).trans o1
          clear hc7 hb7 q0 q1 q2 q3 o0 o1 z0 z1 e0 e1
          have hcc : decide (0 ≤ cc) = true := by simpa using f1
          have hdd : decide (dd ≤ 0) = true := by simpa using f2
          have hff : decide (0 ≤ ff) = true := by simpa using f3
          go_wp2_with fail
          have HI := Lib.hid (And.intro (And.intro (And.intro (And.intro r0 r1) (And.intro r2 r3)) (And.intro s0 s1)) (Below.refl w7.heap.size w7))
          go_region_held3 (fun w' => (((w'.cell? ⟨w.heap.size, 0, none⟩ = some (.int .i64 due) ∧ w'.cell? ⟨w.heap.size, 1, none⟩ = some (.int .i64 grace)) ∧ (w'.cell? ⟨w.heap.size, 2, none⟩ = some (.bool lin) ∧ w'.cell? ⟨w.heap.size, 3, none⟩ = some (.slice A l.length c))) ∧ (w'.cell? ⟨w5.heap.size, 0, none⟩ = some (.int .i64 1) ∧ w'.cell? ⟨w5.heap.size, 1, none⟩ = some (.int .i64 1))) ∧ Below w7.heap.size w7 w')
            (first | exact ⟨HI.out.1, (Below.refl _ _).drew⟩ | exact hq8)
            (first | (go_at_call 11; have hHe : Below w7.heap.size w7 w7.drew := (Below.refl _ _).drew; refine (C4.out _ (HS7.out.later hHe)).mono ?_; rintro e w8 ⟨rfl, hb8⟩; have hbb := hHe.trans (hb8.mono hHe.size); have hq8 : (((w8.cell? ⟨w.heap.size, 0, none⟩ = some (.int .i64 due) ∧ w8.cell? ⟨w.heap.size, 1, none⟩ = some (.int .i64 grace)) ∧ (w8.cell? ⟨w.heap.size, 2, none⟩ = some (.bool lin) ∧ w8.cell? ⟨w.heap.size, 3, none⟩ = some (.slice A l.length c))) ∧ (w8.cell? ⟨w5.heap.size, 0, none⟩ = some (.int .i64 1) ∧ w8.cell? ⟨w5.heap.size, 1, none⟩ = some (.int .i64 1))) ∧ Below w7.heap.size w7 w8 := (have hc := bcell hbb; ⟨⟨⟨⟨(hc _ _ (by omega)).trans r0, (hc _ _ (by omega)).trans r1⟩, (hc _ _ (by omega)).trans r2, (hc _ _ (by omega)).trans r3⟩, (hc _ _ (by omega)).trans s0, (hc _ _ (by omega)).trans s1⟩, hbb⟩)))
          all_goals
            go_wp2_with fail
            go_ret
            exact ⟨rfl, HB7.out.trans (hbb.mono (by omega))⟩
        · have hb' : decide (1099511627776 < b) = true := by simp; omega
          have ha' : decide (a < 0) = false := by simp; omega
          by_cases ha2 : a ≤ 1099511627776
          · go_wp2_with fail
            refine (Valid_any _ _ _ _ _ _ _ HSx.out hl).mono ?_
            rintro e w4 ⟨rfl, hb4⟩
            have hc4 := bcell hb4
            have hz4 := hb4.size
            have HS4 := Lib.hid (HSx.out.later hb4)
            have HB4 := Lib.hid (HB2.out.trans (hb4.mono (by omega)))
            clear hb4
            go_wp2_with fail
            refine (Valid_any _ _ _ _ _ _ _ HS4.out hl).mono ?_
            rintro e w5 ⟨rfl, hb5⟩
            have hz5 := hb5.size
            have HB5 := Lib.hid (HB4.out.trans (hb5.mono (by omega)))
            clear hb5 hc4
            go_wp2_with fail
            go_ret
            exact ⟨rfl, HB5.out⟩
          · have e0 : tmB a = false := (tmB_not a).2 (by omega)
            have hA := HXA.out
            rw [facF, if_neg (by rw [e0]; simp)] at hA
            cases hA
            have ha3 : decide (a ≤ 1099511627776) = false := by simpa using ha2
            go_wp2_with fail
            refine (Valid_any _ _ _ _ _ _ _ HSx.out hl).mono ?_
            rintro e w4 ⟨rfl, hb4⟩
            have hc4 := bcell hb4
            have hz4 := hb4.size
            have HS4 := Lib.hid (HSx.out.later hb4)
            have HB4 := Lib.hid (HB2.out.trans (hb4.mono (by omega)))
            clear hb4
            go_wp2_with fail
            refine (Valid_any _ _ _ _ _ _ _ HS4.out hl).mono ?_
            rintro e w5 ⟨rfl, hb5⟩
            have hc5 : ∀ b o, b < wc.heap.size → w5.cell? ⟨b, o, none⟩ = wc.cell? ⟨b, o, none⟩ := fun b o h => (bcell hb5 b o (by omega)).trans (hc4 b o h)
            have hz5 := hb5.size
            have HB5 := Lib.hid (HB4.out.trans (hb5.mono (by omega)))
            clear hb5 hc4
            go_wp2_with fail
            go_ret
            exact ⟨rfl, HB5.out⟩
      · have e0 : tmB a = false := (tmB_not a).2 (by omega)
        have hA := HXA.out
        rw [facF, if_neg (by rw [e0]; simp)] at hA
        cases hA
        have ha' : decide (0 ≤ a) = false := by simpa using ha
        go_wp2_with fail
        refine (Valid_any _ _ _ _ _ _ _ HSx.out hl).mono ?_
        rintro e w4 ⟨rfl, hb4⟩
        have hc4 := bcell hb4
        have hz4 := hb4.size
        have HS4 := Lib.hid (HSx.out.later hb4)
        have HB4 := Lib.hid (HB2.out.trans (hb4.mono (by omega)))
        clear hb4
        go_wp2_with fail
        refine (Valid_any _ _ _ _ _ _ _ HS4.out hl).mono ?_
        rintro e w5 ⟨rfl, hb5⟩
        have hc5 : ∀ b o, b < wc.heap.size → w5.cell? ⟨b, o, none⟩ = wc.cell? ⟨b, o, none⟩ := fun b o h => (bcell hb5 b o (by omega)).trans (hc4 b o h)
        have hz5 := hb5.size
        have HB5 := Lib.hid (HB4.out.trans (hb5.mono (by omega)))
        clear hb5 hc4
        go_wp2_with fail
        go_ret
        exact ⟨rfl, HB5.out⟩
    · rw [Bool.not_eq_true] at hv
      go_wp2_with fail
      refine (Valid_any _ _ _ _ _ _ _ HSx.out hl).mono ?_
      rintro e w4 ⟨rfl, hb4⟩
      have hc4 := bcell hb4
      have hz4 := hb4.size
      have HS4 := Lib.hid (HSx.out.later hb4)
      have HB4 := Lib.hid (HB2.out.trans (hb4.mono (by omega)))
      clear hb4
      go_wp2_with fail
      refine (Valid_any _ _ _ _ _ _ _ HS4.out hl).mono ?_
      rintro e w5 ⟨rfl, hb5⟩
      have hz5 := hb5.size
      have HB5 := Lib.hid (HB4.out.trans (hb5.mono (by omega)))
      clear hb5
      go_wp2_with fail
      go_ret
      exact ⟨rfl, HB5.out⟩

set_option maxHeartbeats 400000 in
theorem Falls_no (due grace : Int) (lin : Bool) (A : Option Addr) (c : Nat) (l : List (Int × Int)) (a b : Int) (w : World)
    (hl : l.length ≤ 9223372036854775807) (h : 20 < l.length ∨ b < a) :
    Calls Try.prog 3 #[.agg #[.int .i64 due, .int .i64 grace, .bool lin, .slice A l.length c], .int .i64 a, .int .i64 b] w fun e w' => e = .returned (.bool true) ∧ Below w.heap.size w w' := by
  have HB0 := Lib.hid ((Below.refl _ w).alloc (Nat.le_refl _) (polObj due grace lin A l.length c))
  by_cases h20 : l.length ≤ 20
  · have g20 : decide ((20 : Int) < (l.length : Int)) = false := by simp; omega
    have gab : decide (b < a) = true := by simp; omega
    clear h
    go_enter Try.func3, Try.ntmps3
    go_wp2_with fail
    refine (awake_any _).mono ?_
    rintro e w1 ⟨rfl, hb1⟩
    have HB1 := Lib.hid (HB0.out.trans (hb1.mono (by simp)))
    have c3 : w1.cell? ⟨w.heap.size, 3, none⟩ = some (.slice A l.length c) := by rw [bcell hb1 _ _ (by simp)]; simp [go_sem]
    clear hb1
    go_wp2_with fail
    go_ret
    exact ⟨rfl, HB1.out⟩
  · have g20 : decide ((20 : Int) < (l.length : Int)) = true := by simp; omega
    clear h
    go_enter Try.func3, Try.ntmps3
    go_wp2_with fail
    refine (awake_any _).mono ?_
    rintro e w1 ⟨rfl, hb1⟩
    have HB1 := Lib.hid (HB0.out.trans (hb1.mono (by simp)))
    have c3 : w1.cell? ⟨w.heap.size, 3, none⟩ = some (.slice A l.length c) := by rw [bcell hb1 _ _ (by simp)]; simp [go_sem]
    clear hb1
    go_wp2_with fail
    go_ret
    exact ⟨rfl, HB1.out⟩

theorem Falls_all (due grace : Int) (lin : Bool) (A : Option Addr) (c : Nat) (l : List (Int × Int)) (a b : Int) (w : World)
    (hs : StepsAt w w.heap.size A l) (hl : l.length ≤ 9223372036854775807) :
    Calls Try.prog 3 #[.agg #[.int .i64 due, .int .i64 grace, .bool lin, .slice A l.length c], .int .i64 a, .int .i64 b] w fun e w' => e = .returned (.bool true) ∧ Below w.heap.size w w' := by
  by_cases h : 20 < l.length ∨ b < a
  · exact Falls_no due grace lin A c l a b w hl h
  · exact Falls_any due grace lin A c l a b w hs hl (by omega) (by omega)

end Go.Proofs.Ytcppijoccolmkaa
