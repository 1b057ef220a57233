/-
  The walk of DeadlinesExtends.
-/
import Derived.Test.YtcppijoccolmkaaGb
import Derived.IntWalk
namespace Go.Proofs.Ytcppijoccolmkaa
open Go.RowKit

theorem exts_own2 {w : World} {base g cap : Nat} {xs : List Ext} {x : Ext} (h : w.ownsRow base 49 3 (.slice (some ⟨g, 0, none⟩) (xs.length + 1) cap) (xs.length + 1) (exC xs ++ exC [x])) : ExtsAt w w.heap.size (some ⟨g, 0, none⟩) (xs ++ [x]) := by
  rw [← exC_app, show xs.length + 1 = (xs ++ [x]).length by simp] at h
  obtain ⟨A, c, hv, hE⟩ := exts_of_own h
  simp only [Value.slice.injEq] at hv
  rw [hv.1]; exact hE
theorem news3 {w : World} {g : Nat} {sx : ByteArray} {xd xt : Int} (h0 : w.cell? ⟨g, 0, none⟩ = some (.string sx)) (h1 : w.cell? ⟨g, 1, none⟩ = some (.int .i64 xd)) (h2 : w.cell? ⟨g, 2, none⟩ = some (.int .i64 xt)) :
    ∀ j u, (exC [(sx, xd, xt)])[j]? = some u → w.cell? ((⟨g, 0, none⟩ : Addr).add j) = some u :=
  exC_cells fun k hk => by
    obtain rfl : k = 0 := by simpa using hk
    exact ⟨h0, h1, h2⟩

set_option maxHeartbeats 2000000 in
set_option maxRecDepth 100000 in
theorem Ext_no (due grace : Int) (lin : Bool) (A : Option Addr) (c : Nat) (l : List (Int × Int)) (B : Option Addr) (d : Nat) (xs : List Ext) (sx : ByteArray) (xd xt : Int) (s : ByteArray) (tick y : Int) (w : World)
    (hs : StepsAt w w.heap.size A l) (hl : l.length ≤ 9223372036854775807) (hx : ExtsAt w w.heap.size B xs) (hxl : xs.length ≤ 9223372036854775807) (hxs : ∀ x ∈ xs, x.1.size ≤ 9223372036854775807) (hsx : sx.size ≤ 9223372036854775807) (hsl : s.size ≤ 9223372036854775807) (h : fewB l.length xs s = false ∨ 40 < sx.size ∨ vldB due grace l = false ∨ tick < 0 ∨ 1099511627776 < tick) :
    Calls Try.prog 8 #[.agg #[.int .i64 due, .int .i64 grace, .bool lin, .slice A l.length c], .slice B xs.length d, .agg #[.string sx, .int .i64 xd, .int .i64 xt], .string s, .int .i64 tick, .int .i64 y] w fun e w' => e = .returned (.bool true) ∧ Below w.heap.size w w' := by
  have HH := Lib.hid h
  clear h
  obtain ⟨W0, hW0⟩ : ∃ W0, W0 = (w.alloc (polObj due grace lin A l.length c)).alloc (.cells #[.string sx, .int .i64 xd, .int .i64 xt] 49) := ⟨_, rfl⟩
  have hWB : Below w.heap.size w W0 := by rw [hW0]; exact ((Below.refl _ w).alloc (Nat.le_refl _) _).alloc (by simp) _
  have hWs : W0.heap.size = w.heap.size + 1 + 1 := by rw [hW0]; simp
  have p0 : W0.cell? ⟨w.heap.size, 0, none⟩ = some (.int .i64 due) := by rw [hW0]; simp [go_sem]
  have p1 : W0.cell? ⟨w.heap.size, 1, none⟩ = some (.int .i64 grace) := by rw [hW0]; simp [go_sem]
  have p2 : W0.cell? ⟨w.heap.size, 2, none⟩ = some (.bool lin) := by rw [hW0]; simp [go_sem]
  have p3 : W0.cell? ⟨w.heap.size, 3, none⟩ = some (.slice A l.length c) := by rw [hW0]; simp [go_sem]
  have p4 : W0.cell? ⟨w.heap.size + 1, 0, none⟩ = some (.string sx) := by rw [hW0]; simp [go_sem]
  have p5 : W0.cell? ⟨w.heap.size + 1, 1, none⟩ = some (.int .i64 xd) := by rw [hW0]; simp [go_sem]
  have p6 : W0.cell? ⟨w.heap.size + 1, 2, none⟩ = some (.int .i64 xt) := by rw [hW0]; simp [go_sem]
  have HP : Hid (PX W0 w.heap.size due grace lin A l.length c sx xd xt W0) := ⟨⟨⟨⟨p0, p1⟩, p2, p3⟩, ⟨p4, p5⟩, p6⟩, Below.refl _ _⟩
  have HS0 := Lib.hid (hs.later hWB)
  have HX0 := Lib.hid (hx.later hWB)
  have HWB := Lib.hid hWB
  have HW0 := Lib.hid hW0
  have HXS := Lib.hid hxs
  have hws : w.heap.size ≤ W0.heap.size := by omega
  clear hs hx hxs hW0 hWB hWs p0 p1 p2 p3 p4 p5 p6
  go_enter Try.func8, Try.ntmps8
  go_wp2_with fail
  rw [← HW0.out]
  refine (awake_any _).mono ?_
  rintro e w1 ⟨rfl, hb1⟩
  have HB1 := Lib.hid hb1
  obtain ⟨⟨⟨⟨c0, c1⟩, c2, c3⟩, ⟨c4, c5⟩, c6⟩, _⟩ := px_of HP.out hb1
  have gg1 : w.heap.size + 1 < w1.heap.size := World.block_lt_of_cell? w1 ⟨w.heap.size + 1, 0, none⟩ c4
  clear hb1
  go_wp2_with fail
  refine (few_any _ _ _ _ _ _ _ _ _ _ _ (HX0.out.later HB1.out) hl hxl hsl HXS.out).mono ?_
  rintro e w2 ⟨rfl, hb2⟩
  have hb12 := HB1.out.trans (hb2.mono HB1.out.size)
  have HB2 := Lib.hid hb12
  obtain ⟨⟨⟨⟨d0, d1⟩, d2, d3⟩, ⟨d4, d5⟩, d6⟩, _⟩ := px_of HP.out hb12
  have gg2 : w.heap.size + 1 < w2.heap.size := World.block_lt_of_cell? w2 ⟨w.heap.size + 1, 0, none⟩ d4
  clear hb2 hb12 c0 c1 c2 c3 c4 c5 c6
  by_cases hf : fewB l.length xs s = true
  · by_cases h40 : sx.size ≤ 40
    · have g40 : decide ((40 : Int) < (sx.size : Int)) = false := by simp; omega
      go_wp2_with fail
      refine (Valid_any _ _ _ _ _ _ _ (HS0.out.later HB2.out) hl).mono ?_
      rintro e w3 ⟨rfl, hb3⟩
      have hb13 := HB2.out.trans (hb3.mono HB2.out.size)
      have HB3 := Lib.hid hb13
      have HBw := Lib.hid (HWB.out.trans (hb13.mono hws))
      have HS3 := Lib.hid (HS0.out.later hb13)
      have HX3 := Lib.hid (HX0.out.later hb13)
      obtain ⟨⟨⟨⟨e0, e1⟩, e2, e3⟩, ⟨e4, e5⟩, e6⟩, _⟩ := px_of HP.out hb13
      have gg3 : w.heap.size + 1 < w3.heap.size := World.block_lt_of_cell? w3 ⟨w.heap.size + 1, 0, none⟩ e4
      have gw3 : w.heap.size ≤ w3.heap.size := by omega
      clear hb3 hb13 d0 d1 d2 d3 d4 d5 d6
      by_cases hv : vldB due grace l = true
      · by_cases ht : tick < 0
        · go_wp2_with fail
          go_ret
          exact ⟨rfl, HBw.out⟩
        · have ht' : decide (tick < 0) = false := by simpa using ht
          have ht2 : decide (1099511627776 < tick) = true := by
            rcases HH.out with h | h | h | h | h
            · rw [hf] at h; cases h
            · omega
            · rw [hv] at h; cases h
            · omega
            · simpa using h
          go_wp2_with fail
          go_ret
          exact ⟨rfl, HBw.out⟩
      · rw [Bool.not_eq_true] at hv
        go_wp2_with fail
        go_ret
        exact ⟨rfl, HBw.out⟩
    · have g40 : decide ((40 : Int) < (sx.size : Int)) = true := by simp; omega
      go_wp2_with fail
      go_ret
      exact ⟨rfl, HWB.out.trans (HB2.out.mono hws)⟩
  · rw [Bool.not_eq_true] at hf
    go_wp2_with fail
    go_ret
    exact ⟨rfl, HWB.out.trans (HB2.out.mono hws)⟩

theorem sz_alloc {n : Nat} {w : World} {o : Obj} (h : n ≤ w.heap.size) : n ≤ (w.alloc o).heap.size := by simp; omega

set_option maxHeartbeats 8000000 in
set_option maxRecDepth 100000 in
theorem Ext_yes (due grace : Int) (lin : Bool) (A : Option Addr) (c : Nat) (l : List (Int × Int)) (B : Option Addr) (d : Nat) (xs : List Ext) (sx : ByteArray) (xd xt : Int) (s : ByteArray) (tick y : Int) (w : World)
    (hs : StepsAt w w.heap.size A l) (hl : l.length ≤ 9223372036854775807) (hx : ExtsAt w w.heap.size B xs) (hxl : xs.length ≤ 9223372036854775807) (hxs : ∀ x ∈ xs, x.1.size ≤ 9223372036854775807) (hsx : sx.size ≤ 9223372036854775807) (hsl : s.size ≤ 9223372036854775807) (hf : fewB l.length xs s = true) (h40 : sx.size ≤ 40) (hv : vldB due grace l = true) (ht0 : 0 ≤ tick) (ht1 : tick ≤ 1099511627776) :
    Calls Try.prog 8 #[.agg #[.int .i64 due, .int .i64 grace, .bool lin, .slice A l.length c], .slice B xs.length d, .agg #[.string sx, .int .i64 xd, .int .i64 xt], .string s, .int .i64 tick, .int .i64 y] w fun e w' => e = .returned (.bool true) ∧ Below w.heap.size w w' := by
  obtain ⟨i0, hi, hz0, hz1, hz2⟩ := info_parts Try.info49
  have g40 : decide ((40 : Int) < (sx.size : Int)) = false := by simp; omega
  have gt0 : decide (tick < 0) = false := by simp; omega
  have gt1 : decide (1099511627776 < tick) = false := by simp; omega
  obtain ⟨f20, f30, _⟩ := fewB_iff hf
  have hc63 : xs.length + 1 ≤ maxLen := by unfold maxLen; omega
  have hcby : (xs.length + 1) * 32 ≤ 140737488355328 := by omega
  obtain ⟨W0, hW0⟩ : ∃ W0, W0 = (w.alloc (polObj due grace lin A l.length c)).alloc (.cells #[.string sx, .int .i64 xd, .int .i64 xt] 49) := ⟨_, rfl⟩
  have hWB : Below w.heap.size w W0 := by rw [hW0]; exact ((Below.refl _ w).alloc (Nat.le_refl _) _).alloc (by simp) _
  have hWs : W0.heap.size = w.heap.size + 1 + 1 := by rw [hW0]; simp
  have p0 : W0.cell? ⟨w.heap.size, 0, none⟩ = some (.int .i64 due) := by rw [hW0]; simp [go_sem]
  have p1 : W0.cell? ⟨w.heap.size, 1, none⟩ = some (.int .i64 grace) := by rw [hW0]; simp [go_sem]
  have p2 : W0.cell? ⟨w.heap.size, 2, none⟩ = some (.bool lin) := by rw [hW0]; simp [go_sem]
  have p3 : W0.cell? ⟨w.heap.size, 3, none⟩ = some (.slice A l.length c) := by rw [hW0]; simp [go_sem]
  have p4 : W0.cell? ⟨w.heap.size + 1, 0, none⟩ = some (.string sx) := by rw [hW0]; simp [go_sem]
  have p5 : W0.cell? ⟨w.heap.size + 1, 1, none⟩ = some (.int .i64 xd) := by rw [hW0]; simp [go_sem]
  have p6 : W0.cell? ⟨w.heap.size + 1, 2, none⟩ = some (.int .i64 xt) := by rw [hW0]; simp [go_sem]
  have HP : Hid (PX W0 w.heap.size due grace lin A l.length c sx xd xt W0) := ⟨⟨⟨⟨p0, p1⟩, p2, p3⟩, ⟨p4, p5⟩, p6⟩, Below.refl _ _⟩
  have HS0 := Lib.hid (hs.later hWB)
  have HX0 := Lib.hid (hx.later hWB)
  have HWB := Lib.hid hWB
  have HW0 := Lib.hid hW0
  have HXS := Lib.hid hxs
  have hws : w.heap.size ≤ W0.heap.size := by omega
  clear hs hx hxs hW0 hWB hWs p0 p1 p2 p3 p4 p5 p6
  go_enter Try.func8, Try.ntmps8
  go_wp2_with fail
  rw [← HW0.out]
  refine (awake_any _).mono ?_
  rintro e w1 ⟨rfl, hb1⟩
  have HB1 := Lib.hid hb1
  obtain ⟨⟨⟨⟨c0, c1⟩, c2, c3⟩, ⟨c4, c5⟩, c6⟩, _⟩ := px_of HP.out hb1
  have gg1 : w.heap.size + 1 < w1.heap.size := World.block_lt_of_cell? w1 ⟨w.heap.size + 1, 0, none⟩ c4
  clear hb1
  go_wp2_with fail
  refine (few_any _ _ _ _ _ _ _ _ _ _ _ (HX0.out.later HB1.out) hl hxl hsl HXS.out).mono ?_
  rintro e w2 ⟨rfl, hb2⟩
  have hb12 := HB1.out.trans (hb2.mono HB1.out.size)
  have HB2 := Lib.hid hb12
  obtain ⟨⟨⟨⟨d0, d1⟩, d2, d3⟩, ⟨d4, d5⟩, d6⟩, _⟩ := px_of HP.out hb12
  have gg2 : w.heap.size + 1 < w2.heap.size := World.block_lt_of_cell? w2 ⟨w.heap.size + 1, 0, none⟩ d4
  clear hb2 hb12 c0 c1 c2 c3 c4 c5 c6
  go_wp2_with fail
  refine (Valid_any _ _ _ _ _ _ _ (HS0.out.later HB2.out) hl).mono ?_
  rintro e w3 ⟨rfl, hb3⟩
  have hb13 := HB2.out.trans (hb3.mono HB2.out.size)
  have HB3 := Lib.hid hb13
  have HBw := Lib.hid (HWB.out.trans (hb13.mono hws))
  have HS3 := Lib.hid (HS0.out.later hb13)
  have HX3 := Lib.hid (HX0.out.later hb13)
  obtain ⟨⟨⟨⟨e0, e1⟩, e2, e3⟩, ⟨e4, e5⟩, e6⟩, _⟩ := px_of HP.out hb13
  have gg3 : w.heap.size + 1 < w3.heap.size := World.block_lt_of_cell? w3 ⟨w.heap.size + 1, 0, none⟩ e4
  have gw3 : w.heap.size ≤ w3.heap.size := by omega
  clear hb3 hb13 d0 d1 d2 d3 d4 d5 d6
  go_wp2_with fail
  obtain ⟨a, ha⟩ : ∃ a, a = dueF due s tick xs xs.length := ⟨_, rfl⟩
  obtain ⟨b, hb⟩ : ∃ b, b = dueF due s tick (xs ++ [(sx, xd, xt)]) (xs ++ [(sx, xd, xt)]).length := ⟨_, rfl⟩
  obtain ⟨⟨⟨due0, due1⟩, grace0, grace1⟩, _⟩ := vld_parts hv
  have hra := dueF_rng (s := s) (tick := tick) (l := xs) due0 due1 xs.length
  have hrb := dueF_rng (s := s) (tick := tick) (l := xs ++ [(sx, xd, xt)]) due0 due1 (xs ++ [(sx, xd, xt)]).length
  have hcs := ext_cases a s tick sx xd xt b (by rw [hb, ha]; exact dueF_last _ _ _ _ _)
  rw [← ha] at hra
  rw [← hb] at hrb
  obtain ⟨hab, hcs⟩ := hcs
  have htm : tmB tick = true := (tmB_iff tick).2 ⟨ht0, ht1⟩
  have H0 : Hid (PX w3 w.heap.size due grace lin A l.length c sx xd xt w3) := ⟨⟨⟨⟨e0, e1⟩, e2, e3⟩, ⟨e4, e5⟩, e6⟩, Below.refl _ _⟩
  have K17a : Hid (∀ X, PX w3 w.heap.size due grace lin A l.length c sx xd xt X → Calls Try.prog 17 #[.agg #[.int .i64 due, .int .i64 grace, .bool lin, .slice A l.length c], .slice B xs.length d, .string s, .int .i64 tick] X fun e w' => e = .returned (.int .i64 a) ∧ Below X.heap.size X w') := Lib.hid fun X h => by rw [ha]; exact Due_yes _ _ _ _ _ _ _ _ _ _ _ _ (px_steps HS3 h) (px_exts HX3 h) (by omega) hv htm
  have K17b : Hid (∀ X A2 c2, PX w3 w.heap.size due grace lin A l.length c sx xd xt X → ExtsAt X X.heap.size A2 (xs ++ [(sx, xd, xt)]) → Calls Try.prog 17 #[.agg #[.int .i64 due, .int .i64 grace, .bool lin, .slice A l.length c], .slice A2 (xs.length + 1) c2, .string s, .int .i64 tick] X fun e w' => e = .returned (.int .i64 b) ∧ Below X.heap.size X w') := Lib.hid fun X A2 c2 h hE => by
    have q := Due_yes due grace lin A c l A2 c2 (xs ++ [(sx, xd, xt)]) s tick X (px_steps HS3 h) hE (by simp; omega) hv htm
    rw [← hb] at q
    rw [show xs.length + 1 = (xs ++ [(sx, xd, xt)]).length by simp]
    exact q
  have K23 : Hid (∀ X, PX w3 w.heap.size due grace lin A l.length c sx xd xt X → Calls Try.prog 23 #[.slice B xs.length d] X (CloneP xs X)) := Lib.hid fun X h => Clone_any _ _ _ _ (px_exts HX3 h) f30
  have K19 : Hid (∀ X p q, PX w3 w.heap.size due grace lin A l.length c sx xd xt X → Calls Try.prog 19 #[.agg #[.int .i64 due, .int .i64 grace, .bool lin, .slice A l.length c], .int .i64 p, .int .i64 q] X fun e w' => e = .returned (.int .i64 (lateI due grace l p q)) ∧ Below X.heap.size X w') := Lib.hid fun X p q h => Late_any _ _ _ _ _ _ _ _ _ (px_steps HS3 h) hl
  have HCS := Lib.hid hcs
  clear ha hb hcs
  go_cut [13, 14] (fun s13 s14 wc => (s13 = .int .i64 a ∧ s14 = .int .i64 b) ∧ PX w3 w.heap.size due grace lin A l.length c sx xd xt wc)
  case first =>
    go_region_held3 (fun w' => (((w'.cell? ⟨w.heap.size, 0, none⟩ = some (.int .i64 due) ∧ w'.cell? ⟨w.heap.size, 1, none⟩ = some (.int .i64 grace)) ∧ (w'.cell? ⟨w.heap.size, 2, none⟩ = some (.bool lin) ∧ w'.cell? ⟨w.heap.size, 3, none⟩ = some (.slice A l.length c))) ∧ ((w'.cell? ⟨w.heap.size + 1, 0, none⟩ = some (.string sx) ∧ w'.cell? ⟨w.heap.size + 1, 1, none⟩ = some (.int .i64 xd)) ∧ w'.cell? ⟨w.heap.size + 1, 2, none⟩ = some (.int .i64 xt))) ∧ Below w3.heap.size w3 w')
      (first | exact px_of H0.out (Below.refl _ _).drew | exact hq7 | exact hq6 | exact hq5 | exact hq4 | exact px_of H0.out ((Below.refl _ _).alloc (Nat.le_refl _) _).drew | exact px_of H0.out (hq4.2.alloc hq4.2.size _) | exact px_of H0.out (hq5.2.alloc hq5.2.size _))
      (first | (go_at_call_of 17 (Value.slice B xs.length d); refine (K17a.out _ (by assumption)).mono ?_; rintro e w4 ⟨rfl, hb4⟩; have hq4 := px_call H0 hb4 (by assumption); have hc4 := bcell hb4; have hz4 := hb4.size; (try simp only [World.size_alloc, World.size_drew, World.cell?_drew] at hc4 hz4))
             | (go_at_call 23; refine (K23.out _ (by assumption)).mono ?_; rintro e w5 ⟨v, rfl, hown, hb5⟩; have hq5 := px_call H0 hb5 (by assumption); have hc5 := bcell hb5; have hz5 := hb5.size; (try simp only [World.size_alloc] at hc5 hz5); have hown5 := hown.mono (base' := w3.heap.size) (by first | omega | (simp; omega)))
             | (have hn := news3 ((hc5 _ 0 hz4).trans ((hc4 _ 0 (Nat.lt_succ_self _)).trans (ca_new rfl rfl))) ((hc5 _ 1 hz4).trans ((hc4 _ 1 (Nat.lt_succ_self _)).trans (ca_new rfl rfl))) ((hc5 _ 2 hz4).trans ((hc4 _ 2 (Nat.lt_succ_self _)).trans (ca_new rfl rfl))); refine step_append_lies _ (by rfl) _ _ _ (by rfl) w3.heap.size 49 i0 _ 3 32 Try.underlying39 hi hz0 hz1 hz2 rfl (by decide) v xs.length (exC xs) (by rfl) hown5 ⟨w3.heap.size, 0, none⟩ 1 1 (exC [(sx, xd, xt)]) (by rfl) (by rfl) hn (exC_one _) (by decide) hc63 hcby hq5.2.size w5.heap.size rfl ?_; intro gq cap w6 hown6 hgrow hat hlt; have hE6 := Lib.hid (exts_own2 hown6); have hq6 := px_of H0.out (hq5.2.grown hgrow hq5.2.size (fun j hj => (hown5.lt j hj).1)); clear hown6)
             | (have hn := news3 ((hc5 _ 0 (Nat.lt_succ_self _)).trans (ca_new rfl rfl)) ((hc5 _ 1 (Nat.lt_succ_self _)).trans (ca_new rfl rfl)) ((hc5 _ 2 (Nat.lt_succ_self _)).trans (ca_new rfl rfl)); refine step_append_lies _ (by rfl) _ _ _ (by rfl) w3.heap.size 49 i0 _ 3 32 Try.underlying39 hi hz0 hz1 hz2 rfl (by decide) v xs.length (exC xs) (by rfl) hown5 ⟨w4.heap.size, 0, none⟩ 1 1 (exC [(sx, xd, xt)]) (by rfl) (by rfl) hn (exC_one _) (by decide) hc63 hcby hq5.2.size w5.heap.size rfl ?_; intro gq cap w6 hown6 hgrow hat hlt; have hE6 := Lib.hid (exts_own2 hown6); have hq6 := px_of H0.out (hq5.2.grown hgrow hq5.2.size (fun j hj => (hown5.lt j hj).1)); clear hown6)
             | (have hn := news3 (w := w5.alloc (.cells #[.string sx, .int .i64 xd, .int .i64 xt] 49)) (ca_new rfl rfl) (ca_new rfl rfl) (ca_new rfl rfl); refine step_append_lies _ (by rfl) _ _ _ (by rfl) w3.heap.size 49 i0 _ 3 32 Try.underlying39 hi hz0 hz1 hz2 rfl (by decide) v xs.length (exC xs) (by rfl) (hown5.alloc _) ⟨w5.heap.size, 0, none⟩ 1 1 (exC [(sx, xd, xt)]) (by rfl) (by rfl) hn (exC_one _) (by decide) hc63 hcby (sz_alloc hq5.2.size) (w5.heap.size + 1) (World.size_alloc _ _) ?_; intro gq cap w6 hown6 hgrow hat hlt; have hE6 := Lib.hid (exts_own2 hown6); have hq6 := px_of H0.out ((hq5.2.alloc hq5.2.size _).grown hgrow (sz_alloc hq5.2.size) (fun j hj => (hown5.lt j hj).1)); clear hown6)
             | (go_at_call 17; refine (K17b.out _ _ _ (by assumption) hE6.out).mono ?_; rintro e w7 ⟨rfl, hb7⟩; have hq7 := px_call H0 hb7 (by assumption)))
    all_goals
      go_wp2_with fail
      go_meet
      exact ⟨⟨rfl, rfl⟩, hq7⟩
  case rest =>
    obtain ⟨⟨rfl, rfl⟩, hpx⟩ := hcut
    have HPX := Lib.hid hpx
    obtain ⟨⟨⟨⟨k0, k1⟩, k2, k3⟩, ⟨k4, k5⟩, k6⟩, hbx⟩ := hpx
    have gwc : w.heap.size < wc.heap.size := World.block_lt_of_cell? wc ⟨w.heap.size, 0, none⟩ k0
    have gwc' : w.heap.size + 1 < wc.heap.size := World.block_lt_of_cell? wc ⟨w.heap.size + 1, 0, none⟩ k4
    have gm1 : decide (a < due) = false := by simp; omega
    have gm2 : decide (b < a) = false := by simp; omega
    have HLB := Lib.hid (late_self (l := l) hv (show 0 ≤ b by omega) hrb.2)
    clear hbx e0 e1 e2 e3 e4 e5 e6 K17a K17b K23
    rcases HCS.out with ⟨hS, hba⟩ | ⟨hS, hT, hba⟩ | ⟨hS, hT, hd0, hd1, hdb⟩ | ⟨hS, hT, hd0⟩ | ⟨hS, hT, hd0, hd1⟩
    · have gne : (a != b) = false := by simp [hba]
      clear hba
      go_wp2_with fail
      refine (K19.out _ _ _ HPX.out).mono ?_
      rintro e w8 ⟨rfl, hb8⟩
      rw [HLB.out]
      have HB8 := Lib.hid (HPX.out.2.trans (hb8.mono HPX.out.2.size))
      clear hb8 k0 k1 k2 k3 k4 k5 k6
      by_cases y0 : y < 0
      · have y0' : decide (y < 0) = true := by simpa using y0
        go_wp2_with fail
        go_ret
        exact ⟨rfl, HBw.out.trans (HB8.out.mono gw3)⟩
      · have y0' : decide (y < 0) = false := by simpa using y0
        by_cases y1 : 1099511627776 < y
        · have y1' : decide (1099511627776 < y) = true := by simpa using y1
          go_wp2_with fail
          go_ret
          exact ⟨rfl, HBw.out.trans (HB8.out.mono gw3)⟩
        · have y1' : decide (1099511627776 < y) = false := by simpa using y1
          by_cases y2 : 1099511627776 - y < tick
          · have y2' : decide (1099511627776 - y < tick) = true := by simpa using y2
            go_wp2_with fail
            go_ret
            exact ⟨rfl, HBw.out.trans (HB8.out.mono gw3)⟩
          · have y2' : decide (1099511627776 - y < tick) = false := by simpa using y2
            by_cases y3 : 1099511627776 - y < a
            · have y3' : decide (1099511627776 - y < a) = true := by simpa using y3
              go_wp2_with fail
              go_ret
              exact ⟨rfl, HBw.out.trans (HB8.out.mono gw3)⟩
            · have y3' : decide (1099511627776 - y < a) = false := by simpa using y3
              obtain ⟨la, hla⟩ : ∃ la, la = lateI due grace l a tick := ⟨_, rfl⟩
              have hlb : lateI due grace l (a + y) (tick + y) = la := by rw [hla]; exact late_add (by omega) ht0 (by omega) (by omega) (by omega)
              have KA : Hid (∀ X, PX w3 w.heap.size due grace lin A l.length c sx xd xt X → Calls Try.prog 19 #[.agg #[.int .i64 due, .int .i64 grace, .bool lin, .slice A l.length c], .int .i64 a, .int .i64 tick] X fun e w' => e = .returned (.int .i64 la) ∧ Below X.heap.size X w') := Lib.hid fun X h => by rw [hla]; exact K19.out _ _ _ h
              have KB : Hid (∀ X, PX w3 w.heap.size due grace lin A l.length c sx xd xt X → Calls Try.prog 19 #[.agg #[.int .i64 due, .int .i64 grace, .bool lin, .slice A l.length c], .int .i64 (a + y), .int .i64 (tick + y)] X fun e w' => e = .returned (.int .i64 la) ∧ Below X.heap.size X w') := Lib.hid fun X h => by rw [← hlb]; exact K19.out _ _ _ h
              clear hla hlb
              go_wp2_with fail
              have hw1 : IntKind.i64.wrap (a + y) = a + y := IntWalk.i64_in _ (by omega)
              have hw2 : IntKind.i64.wrap (tick + y) = tick + y := IntWalk.i64_in _ (by omega)
              go_region_held3 (fun w' => (((w'.cell? ⟨w.heap.size, 0, none⟩ = some (.int .i64 due) ∧ w'.cell? ⟨w.heap.size, 1, none⟩ = some (.int .i64 grace)) ∧ (w'.cell? ⟨w.heap.size, 2, none⟩ = some (.bool lin) ∧ w'.cell? ⟨w.heap.size, 3, none⟩ = some (.slice A l.length c))) ∧ ((w'.cell? ⟨w.heap.size + 1, 0, none⟩ = some (.string sx) ∧ w'.cell? ⟨w.heap.size + 1, 1, none⟩ = some (.int .i64 xd)) ∧ w'.cell? ⟨w.heap.size + 1, 2, none⟩ = some (.int .i64 xt))) ∧ Below w3.heap.size w3 w')
                (first | exact px_of H0.out HB8.out.drew | exact hq10 | exact hq9)
                (first | (go_at_call_of 19 (Value.int IntKind.i64 a); refine (KA.out _ (by assumption)).mono ?_; rintro e w9 ⟨rfl, hb9⟩; have hq9 := px_call H0 hb9 (by assumption))
                       | (go_at_call_of 19 (Value.int IntKind.i64 (a + y)); refine (KB.out _ (by assumption)).mono ?_; rintro e w10 ⟨rfl, hb10⟩; have hq10 := px_call H0 hb10 (by assumption)))
              all_goals
                go_wp2_with fail
                go_ret
                exact ⟨rfl, HBw.out.trans (hq10.2.mono gw3)⟩
    · have gne : (a != b) = false := by simp [hba]
      have hT1 : decide (tick < xt) = true := by simpa using hT
      have hT2 : decide (xt ≤ tick) = false := by simp; omega
      clear hba hT
      go_wp2_with fail
      refine (K19.out _ _ _ HPX.out).mono ?_
      rintro e w8 ⟨rfl, hb8⟩
      rw [HLB.out]
      have HB8 := Lib.hid (HPX.out.2.trans (hb8.mono HPX.out.2.size))
      clear hb8 k0 k1 k2 k3 k4 k5 k6
      by_cases y0 : y < 0
      · have y0' : decide (y < 0) = true := by simpa using y0
        go_wp2_with fail
        go_ret
        exact ⟨rfl, HBw.out.trans (HB8.out.mono gw3)⟩
      · have y0' : decide (y < 0) = false := by simpa using y0
        by_cases y1 : 1099511627776 < y
        · have y1' : decide (1099511627776 < y) = true := by simpa using y1
          go_wp2_with fail
          go_ret
          exact ⟨rfl, HBw.out.trans (HB8.out.mono gw3)⟩
        · have y1' : decide (1099511627776 < y) = false := by simpa using y1
          by_cases y2 : 1099511627776 - y < tick
          · have y2' : decide (1099511627776 - y < tick) = true := by simpa using y2
            go_wp2_with fail
            go_ret
            exact ⟨rfl, HBw.out.trans (HB8.out.mono gw3)⟩
          · have y2' : decide (1099511627776 - y < tick) = false := by simpa using y2
            by_cases y3 : 1099511627776 - y < a
            · have y3' : decide (1099511627776 - y < a) = true := by simpa using y3
              go_wp2_with fail
              go_ret
              exact ⟨rfl, HBw.out.trans (HB8.out.mono gw3)⟩
            · have y3' : decide (1099511627776 - y < a) = false := by simpa using y3
              obtain ⟨la, hla⟩ : ∃ la, la = lateI due grace l a tick := ⟨_, rfl⟩
              have hlb : lateI due grace l (a + y) (tick + y) = la := by rw [hla]; exact late_add (by omega) ht0 (by omega) (by omega) (by omega)
              have KA : Hid (∀ X, PX w3 w.heap.size due grace lin A l.length c sx xd xt X → Calls Try.prog 19 #[.agg #[.int .i64 due, .int .i64 grace, .bool lin, .slice A l.length c], .int .i64 a, .int .i64 tick] X fun e w' => e = .returned (.int .i64 la) ∧ Below X.heap.size X w') := Lib.hid fun X h => by rw [hla]; exact K19.out _ _ _ h
              have KB : Hid (∀ X, PX w3 w.heap.size due grace lin A l.length c sx xd xt X → Calls Try.prog 19 #[.agg #[.int .i64 due, .int .i64 grace, .bool lin, .slice A l.length c], .int .i64 (a + y), .int .i64 (tick + y)] X fun e w' => e = .returned (.int .i64 la) ∧ Below X.heap.size X w') := Lib.hid fun X h => by rw [← hlb]; exact K19.out _ _ _ h
              clear hla hlb
              go_wp2_with fail
              have hw1 : IntKind.i64.wrap (a + y) = a + y := IntWalk.i64_in _ (by omega)
              have hw2 : IntKind.i64.wrap (tick + y) = tick + y := IntWalk.i64_in _ (by omega)
              go_region_held3 (fun w' => (((w'.cell? ⟨w.heap.size, 0, none⟩ = some (.int .i64 due) ∧ w'.cell? ⟨w.heap.size, 1, none⟩ = some (.int .i64 grace)) ∧ (w'.cell? ⟨w.heap.size, 2, none⟩ = some (.bool lin) ∧ w'.cell? ⟨w.heap.size, 3, none⟩ = some (.slice A l.length c))) ∧ ((w'.cell? ⟨w.heap.size + 1, 0, none⟩ = some (.string sx) ∧ w'.cell? ⟨w.heap.size + 1, 1, none⟩ = some (.int .i64 xd)) ∧ w'.cell? ⟨w.heap.size + 1, 2, none⟩ = some (.int .i64 xt))) ∧ Below w3.heap.size w3 w')
                (first | exact px_of H0.out HB8.out.drew | exact hq10 | exact hq9)
                (first | (go_at_call_of 19 (Value.int IntKind.i64 a); refine (KA.out _ (by assumption)).mono ?_; rintro e w9 ⟨rfl, hb9⟩; have hq9 := px_call H0 hb9 (by assumption))
                       | (go_at_call_of 19 (Value.int IntKind.i64 (a + y)); refine (KB.out _ (by assumption)).mono ?_; rintro e w10 ⟨rfl, hb10⟩; have hq10 := px_call H0 hb10 (by assumption)))
              all_goals
                go_wp2_with fail
                go_ret
                exact ⟨rfl, HBw.out.trans (hq10.2.mono gw3)⟩
    · have hT1 : decide (tick < xt) = false := by simp; omega
      have hT2 : decide (xt ≤ tick) = true := by simpa using hT
      have hD0 : decide (0 ≤ xd) = true := by simpa using hd0
      have hD1 : decide (xd ≤ 1099511627776) = true := by simpa using hd1
      have hD2 : decide (b < xd) = false := by simp; omega
      clear hT hd0 hd1 hdb
      go_wp2_with fail
      refine (K19.out _ _ _ HPX.out).mono ?_
      rintro e w8 ⟨rfl, hb8⟩
      rw [HLB.out]
      have HB8 := Lib.hid (HPX.out.2.trans (hb8.mono HPX.out.2.size))
      clear hb8 k0 k1 k2 k3 k4 k5 k6
      by_cases y0 : y < 0
      · have y0' : decide (y < 0) = true := by simpa using y0
        go_wp2_with fail
        go_ret
        exact ⟨rfl, HBw.out.trans (HB8.out.mono gw3)⟩
      · have y0' : decide (y < 0) = false := by simpa using y0
        by_cases y1 : 1099511627776 < y
        · have y1' : decide (1099511627776 < y) = true := by simpa using y1
          go_wp2_with fail
          go_ret
          exact ⟨rfl, HBw.out.trans (HB8.out.mono gw3)⟩
        · have y1' : decide (1099511627776 < y) = false := by simpa using y1
          by_cases y2 : 1099511627776 - y < tick
          · have y2' : decide (1099511627776 - y < tick) = true := by simpa using y2
            go_wp2_with fail
            go_ret
            exact ⟨rfl, HBw.out.trans (HB8.out.mono gw3)⟩
          · have y2' : decide (1099511627776 - y < tick) = false := by simpa using y2
            by_cases y3 : 1099511627776 - y < a
            · have y3' : decide (1099511627776 - y < a) = true := by simpa using y3
              go_wp2_with fail
              go_ret
              exact ⟨rfl, HBw.out.trans (HB8.out.mono gw3)⟩
            · have y3' : decide (1099511627776 - y < a) = false := by simpa using y3
              obtain ⟨la, hla⟩ : ∃ la, la = lateI due grace l a tick := ⟨_, rfl⟩
              have hlb : lateI due grace l (a + y) (tick + y) = la := by rw [hla]; exact late_add (by omega) ht0 (by omega) (by omega) (by omega)
              have KA : Hid (∀ X, PX w3 w.heap.size due grace lin A l.length c sx xd xt X → Calls Try.prog 19 #[.agg #[.int .i64 due, .int .i64 grace, .bool lin, .slice A l.length c], .int .i64 a, .int .i64 tick] X fun e w' => e = .returned (.int .i64 la) ∧ Below X.heap.size X w') := Lib.hid fun X h => by rw [hla]; exact K19.out _ _ _ h
              have KB : Hid (∀ X, PX w3 w.heap.size due grace lin A l.length c sx xd xt X → Calls Try.prog 19 #[.agg #[.int .i64 due, .int .i64 grace, .bool lin, .slice A l.length c], .int .i64 (a + y), .int .i64 (tick + y)] X fun e w' => e = .returned (.int .i64 la) ∧ Below X.heap.size X w') := Lib.hid fun X h => by rw [← hlb]; exact K19.out _ _ _ h
              clear hla hlb
              go_wp2_with fail
              have hw1 : IntKind.i64.wrap (a + y) = a + y := IntWalk.i64_in _ (by omega)
              have hw2 : IntKind.i64.wrap (tick + y) = tick + y := IntWalk.i64_in _ (by omega)
              go_region_held3 (fun w' => (((w'.cell? ⟨w.heap.size, 0, none⟩ = some (.int .i64 due) ∧ w'.cell? ⟨w.heap.size, 1, none⟩ = some (.int .i64 grace)) ∧ (w'.cell? ⟨w.heap.size, 2, none⟩ = some (.bool lin) ∧ w'.cell? ⟨w.heap.size, 3, none⟩ = some (.slice A l.length c))) ∧ ((w'.cell? ⟨w.heap.size + 1, 0, none⟩ = some (.string sx) ∧ w'.cell? ⟨w.heap.size + 1, 1, none⟩ = some (.int .i64 xd)) ∧ w'.cell? ⟨w.heap.size + 1, 2, none⟩ = some (.int .i64 xt))) ∧ Below w3.heap.size w3 w')
                (first | exact px_of H0.out HB8.out.drew | exact hq10 | exact hq9)
                (first | (go_at_call_of 19 (Value.int IntKind.i64 a); refine (KA.out _ (by assumption)).mono ?_; rintro e w9 ⟨rfl, hb9⟩; have hq9 := px_call H0 hb9 (by assumption))
                       | (go_at_call_of 19 (Value.int IntKind.i64 (a + y)); refine (KB.out _ (by assumption)).mono ?_; rintro e w10 ⟨rfl, hb10⟩; have hq10 := px_call H0 hb10 (by assumption)))
              all_goals
                go_wp2_with fail
                go_ret
                exact ⟨rfl, HBw.out.trans (hq10.2.mono gw3)⟩
    · have hT1 : decide (tick < xt) = false := by simp; omega
      have hT2 : decide (xt ≤ tick) = true := by simpa using hT
      have hD0 : decide (0 ≤ xd) = false := by simp; omega
      clear hT hd0
      go_wp2_with fail
      refine (K19.out _ _ _ HPX.out).mono ?_
      rintro e w8 ⟨rfl, hb8⟩
      rw [HLB.out]
      have HB8 := Lib.hid (HPX.out.2.trans (hb8.mono HPX.out.2.size))
      clear hb8 k0 k1 k2 k3 k4 k5 k6
      by_cases y0 : y < 0
      · have y0' : decide (y < 0) = true := by simpa using y0
        go_wp2_with fail
        go_ret
        exact ⟨rfl, HBw.out.trans (HB8.out.mono gw3)⟩
      · have y0' : decide (y < 0) = false := by simpa using y0
        by_cases y1 : 1099511627776 < y
        · have y1' : decide (1099511627776 < y) = true := by simpa using y1
          go_wp2_with fail
          go_ret
          exact ⟨rfl, HBw.out.trans (HB8.out.mono gw3)⟩
        · have y1' : decide (1099511627776 < y) = false := by simpa using y1
          by_cases y2 : 1099511627776 - y < tick
          · have y2' : decide (1099511627776 - y < tick) = true := by simpa using y2
            go_wp2_with fail
            go_ret
            exact ⟨rfl, HBw.out.trans (HB8.out.mono gw3)⟩
          · have y2' : decide (1099511627776 - y < tick) = false := by simpa using y2
            by_cases y3 : 1099511627776 - y < a
            · have y3' : decide (1099511627776 - y < a) = true := by simpa using y3
              go_wp2_with fail
              go_ret
              exact ⟨rfl, HBw.out.trans (HB8.out.mono gw3)⟩
            · have y3' : decide (1099511627776 - y < a) = false := by simpa using y3
              obtain ⟨la, hla⟩ : ∃ la, la = lateI due grace l a tick := ⟨_, rfl⟩
              have hlb : lateI due grace l (a + y) (tick + y) = la := by rw [hla]; exact late_add (by omega) ht0 (by omega) (by omega) (by omega)
              have KA : Hid (∀ X, PX w3 w.heap.size due grace lin A l.length c sx xd xt X → Calls Try.prog 19 #[.agg #[.int .i64 due, .int .i64 grace, .bool lin, .slice A l.length c], .int .i64 a, .int .i64 tick] X fun e w' => e = .returned (.int .i64 la) ∧ Below X.heap.size X w') := Lib.hid fun X h => by rw [hla]; exact K19.out _ _ _ h
              have KB : Hid (∀ X, PX w3 w.heap.size due grace lin A l.length c sx xd xt X → Calls Try.prog 19 #[.agg #[.int .i64 due, .int .i64 grace, .bool lin, .slice A l.length c], .int .i64 (a + y), .int .i64 (tick + y)] X fun e w' => e = .returned (.int .i64 la) ∧ Below X.heap.size X w') := Lib.hid fun X h => by rw [← hlb]; exact K19.out _ _ _ h
              clear hla hlb
              go_wp2_with fail
              have hw1 : IntKind.i64.wrap (a + y) = a + y := IntWalk.i64_in _ (by omega)
              have hw2 : IntKind.i64.wrap (tick + y) = tick + y := IntWalk.i64_in _ (by omega)
              go_region_held3 (fun w' => (((w'.cell? ⟨w.heap.size, 0, none⟩ = some (.int .i64 due) ∧ w'.cell? ⟨w.heap.size, 1, none⟩ = some (.int .i64 grace)) ∧ (w'.cell? ⟨w.heap.size, 2, none⟩ = some (.bool lin) ∧ w'.cell? ⟨w.heap.size, 3, none⟩ = some (.slice A l.length c))) ∧ ((w'.cell? ⟨w.heap.size + 1, 0, none⟩ = some (.string sx) ∧ w'.cell? ⟨w.heap.size + 1, 1, none⟩ = some (.int .i64 xd)) ∧ w'.cell? ⟨w.heap.size + 1, 2, none⟩ = some (.int .i64 xt))) ∧ Below w3.heap.size w3 w')
                (first | exact px_of H0.out HB8.out.drew | exact hq10 | exact hq9)
                (first | (go_at_call_of 19 (Value.int IntKind.i64 a); refine (KA.out _ (by assumption)).mono ?_; rintro e w9 ⟨rfl, hb9⟩; have hq9 := px_call H0 hb9 (by assumption))
                       | (go_at_call_of 19 (Value.int IntKind.i64 (a + y)); refine (KB.out _ (by assumption)).mono ?_; rintro e w10 ⟨rfl, hb10⟩; have hq10 := px_call H0 hb10 (by assumption)))
              all_goals
                go_wp2_with fail
                go_ret
                exact ⟨rfl, HBw.out.trans (hq10.2.mono gw3)⟩
    · have hT1 : decide (tick < xt) = false := by simp; omega
      have hT2 : decide (xt ≤ tick) = true := by simpa using hT
      have hD0 : decide (0 ≤ xd) = true := by simpa using hd0
      have hD1 : decide (xd ≤ 1099511627776) = false := by simp; omega
      clear hT hd0 hd1
      go_wp2_with fail
      refine (K19.out _ _ _ HPX.out).mono ?_
      rintro e w8 ⟨rfl, hb8⟩
      rw [HLB.out]
      have HB8 := Lib.hid (HPX.out.2.trans (hb8.mono HPX.out.2.size))
      clear hb8 k0 k1 k2 k3 k4 k5 k6
      by_cases y0 : y < 0
      · have y0' : decide (y < 0) = true := by simpa using y0
        go_wp2_with fail
        go_ret
        exact ⟨rfl, HBw.out.trans (HB8.out.mono gw3)⟩
      · have y0' : decide (y < 0) = false := by simpa using y0
        by_cases y1 : 1099511627776 < y
        · have y1' : decide (1099511627776 < y) = true := by simpa using y1
          go_wp2_with fail
          go_ret
          exact ⟨rfl, HBw.out.trans (HB8.out.mono gw3)⟩
        · have y1' : decide (1099511627776 < y) = false := by simpa using y1
          by_cases y2 : 1099511627776 - y < tick
          · have y2' : decide (1099511627776 - y < tick) = true := by simpa using y2
            go_wp2_with fail
            go_ret
            exact ⟨rfl, HBw.out.trans (HB8.out.mono gw3)⟩
          · have y2' : decide (1099511627776 - y < tick) = false := by simpa using y2
            by_cases y3 : 1099511627776 - y < a
            · have y3' : decide (1099511627776 - y < a) = true := by simpa using y3
              go_wp2_with fail
              go_ret
              exact ⟨rfl, HBw.out.trans (HB8.out.mono gw3)⟩
            · have y3' : decide (1099511627776 - y < a) = false := by simpa using y3
              obtain ⟨la, hla⟩ : ∃ la, la = lateI due grace l a tick := ⟨_, rfl⟩
              have hlb : lateI due grace l (a + y) (tick + y) = la := by rw [hla]; exact late_add (by omega) ht0 (by omega) (by omega) (by omega)
              have KA : Hid (∀ X, PX w3 w.heap.size due grace lin A l.length c sx xd xt X → Calls Try.prog 19 #[.agg #[.int .i64 due, .int .i64 grace, .bool lin, .slice A l.length c], .int .i64 a, .int .i64 tick] X fun e w' => e = .returned (.int .i64 la) ∧ Below X.heap.size X w') := Lib.hid fun X h => by rw [hla]; exact K19.out _ _ _ h
              have KB : Hid (∀ X, PX w3 w.heap.size due grace lin A l.length c sx xd xt X → Calls Try.prog 19 #[.agg #[.int .i64 due, .int .i64 grace, .bool lin, .slice A l.length c], .int .i64 (a + y), .int .i64 (tick + y)] X fun e w' => e = .returned (.int .i64 la) ∧ Below X.heap.size X w') := Lib.hid fun X h => by rw [← hlb]; exact K19.out _ _ _ h
              clear hla hlb
              go_wp2_with fail
              have hw1 : IntKind.i64.wrap (a + y) = a + y := IntWalk.i64_in _ (by omega)
              have hw2 : IntKind.i64.wrap (tick + y) = tick + y := IntWalk.i64_in _ (by omega)
              go_region_held3 (fun w' => (((w'.cell? ⟨w.heap.size, 0, none⟩ = some (.int .i64 due) ∧ w'.cell? ⟨w.heap.size, 1, none⟩ = some (.int .i64 grace)) ∧ (w'.cell? ⟨w.heap.size, 2, none⟩ = some (.bool lin) ∧ w'.cell? ⟨w.heap.size, 3, none⟩ = some (.slice A l.length c))) ∧ ((w'.cell? ⟨w.heap.size + 1, 0, none⟩ = some (.string sx) ∧ w'.cell? ⟨w.heap.size + 1, 1, none⟩ = some (.int .i64 xd)) ∧ w'.cell? ⟨w.heap.size + 1, 2, none⟩ = some (.int .i64 xt))) ∧ Below w3.heap.size w3 w')
                (first | exact px_of H0.out HB8.out.drew | exact hq10 | exact hq9)
                (first | (go_at_call_of 19 (Value.int IntKind.i64 a); refine (KA.out _ (by assumption)).mono ?_; rintro e w9 ⟨rfl, hb9⟩; have hq9 := px_call H0 hb9 (by assumption))
                       | (go_at_call_of 19 (Value.int IntKind.i64 (a + y)); refine (KB.out _ (by assumption)).mono ?_; rintro e w10 ⟨rfl, hb10⟩; have hq10 := px_call H0 hb10 (by assumption)))
              all_goals
                go_wp2_with fail
                go_ret
                exact ⟨rfl, HBw.out.trans (hq10.2.mono gw3)⟩

theorem Ext_all (due grace : Int) (lin : Bool) (A : Option Addr) (c : Nat) (l : List (Int × Int)) (B : Option Addr) (d : Nat) (xs : List Ext) (sx : ByteArray) (xd xt : Int) (s : ByteArray) (tick y : Int) (w : World)
    (hs : StepsAt w w.heap.size A l) (hl : l.length ≤ 9223372036854775807) (hx : ExtsAt w w.heap.size B xs) (hxl : xs.length ≤ 9223372036854775807) (hxs : ∀ x ∈ xs, x.1.size ≤ 9223372036854775807) (hsx : sx.size ≤ 9223372036854775807) (hsl : s.size ≤ 9223372036854775807) :
    Calls Try.prog 8 #[.agg #[.int .i64 due, .int .i64 grace, .bool lin, .slice A l.length c], .slice B xs.length d, .agg #[.string sx, .int .i64 xd, .int .i64 xt], .string s, .int .i64 tick, .int .i64 y] w fun e w' => e = .returned (.bool true) ∧ Below w.heap.size w w' := by
  by_cases h : fewB l.length xs s = false ∨ 40 < sx.size ∨ vldB due grace l = false ∨ tick < 0 ∨ 1099511627776 < tick
  · exact Ext_no due grace lin A c l B d xs sx xd xt s tick y w hs hl hx hxl hxs hsx hsl h
  · have hf : fewB l.length xs s = true := by
      cases e : fewB l.length xs s with
      | true => rfl
      | false => exact absurd (.inl e) h
    have hv : vldB due grace l = true := by
      cases e : vldB due grace l with
      | true => rfl
      | false => exact absurd (.inr (.inr (.inl e))) h
    exact Ext_yes due grace lin A c l B d xs sx xd xt s tick y w hs hl hx hxl hxs hsx hsl hf (by omega) hv (by omega) (by omega)

end Go.Proofs.Ytcppijoccolmkaa
