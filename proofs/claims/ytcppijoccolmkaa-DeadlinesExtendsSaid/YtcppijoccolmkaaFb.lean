/-
  The contract of the reference's knots.
-/
import Derived.Test.YtcppijoccolmkaaFa
import Derived.Test.YtcppijoccolmkaaS
import Derived.Deep.AppendSrc
namespace Go.Proofs.Ytcppijoccolmkaa
open Go.RowKit

theorem Try.info34 : (Try.prog.info? 34).map (fun i => (i.zero, i.size, i.bytes)) = some (some (.agg #[.int .i64 0, .int .i64 0]), 2, 16) := by kernel_rfl

/-- The cells of steps. -/
def stC : List (Int × Int) → List Value
  | [] => []
  | s :: r => .int .i64 s.1 :: .int .i64 s.2 :: stC r
theorem stC_len : ∀ l, (stC l).length = l.length * 2
  | [] => rfl
  | s :: r => by simp [stC, stC_len r]; omega
theorem stC_app : ∀ l l', stC (l ++ l') = stC l ++ stC l'
  | [], _ => rfl
  | s :: r, l' => by simp [stC, stC_app r l']
theorem stC_get : ∀ (l : List (Int × Int)) (k : Nat), k < l.length → (stC l)[k * 2]? = some (.int .i64 (l.getD k (0, 0)).1) ∧ (stC l)[k * 2 + 1]? = some (.int .i64 (l.getD k (0, 0)).2)
  | [], k, h => by simp at h
  | s :: r, 0, _ => by simp [stC]
  | s :: r, k + 1, h => by
    have := stC_get r k (by simpa using h)
    rw [show (k + 1) * 2 = k * 2 + 1 + 1 by omega, show (k * 2 + 1 + 1) + 1 = (k * 2 + 1) + 1 + 1 by omega]
    simpa [stC] using this
theorem stC_one : ∀ (l : List (Int × Int)), ∀ u ∈ stC l, u.oneCell' = true
  | [], u, h => by simp [stC] at h
  | s :: r, u, h => by
    simp only [stC, List.mem_cons] at h
    rcases h with rfl | rfl | h
    · rfl
    · rfl
    · exact stC_one r u h
theorem stC_cells {w : World} {b off : Nat} {l : List (Int × Int)} (hc : ∀ k, k < l.length → w.cell? ⟨b, off + k * 2, none⟩ = some (.int .i64 (l.getD k (0, 0)).1) ∧ w.cell? ⟨b, off + k * 2 + 1, none⟩ = some (.int .i64 (l.getD k (0, 0)).2)) :
    ∀ j u, (stC l)[j]? = some u → w.cell? ((⟨b, off, none⟩ : Addr).add j) = some u := fun j u hj => by
  have hjl : j < l.length * 2 := by
    have := (List.getElem?_eq_some_iff.1 hj).1
    rw [stC_len] at this; exact this
  rw [WideShapes.add_plain]
  have hk : j / 2 < l.length := by omega
  rcases Nat.mod_two_eq_zero_or_one j with h | h
  · have e : j = j / 2 * 2 := by omega
    rw [e] at hj ⊢
    rw [(stC_get l _ hk).1] at hj
    rw [(hc _ hk).1]; exact hj
  · have e : j = j / 2 * 2 + 1 := by omega
    rw [e] at hj ⊢
    rw [(stC_get l _ hk).2] at hj
    rw [← Nat.add_assoc, (hc _ hk).2]; exact hj
theorem steps_of_own {w : World} {base : Nat} {v : Value} {l : List (Int × Int)} (h : w.ownsRow base 34 2 v l.length (stC l)) : ∃ (A : Option Addr) (c : Nat), v = .slice A l.length c ∧ StepsAt w w.heap.size A l := by
  obtain ⟨hlen, ⟨rfl, h0⟩ | ⟨g, cap, cur, rfl, hb, hg, hle, hm, hs, ht⟩⟩ := h
  · exact ⟨none, 0, by rw [h0], fun hn => by omega⟩
  · refine ⟨_, cap, rfl, fun hn => ⟨g, 0, rfl, (Array.getElem?_eq_some_iff.1 hg).1, fun k hk => ?_⟩⟩
    have hc := World.ownsRow.cellAt (w := w) (base := base) (e := 34) (size := 2) (g := g) (n := l.length) (cap := cap) (xs := stC l) ⟨hlen, .inr ⟨g, cap, cur, rfl, hb, hg, hle, hm, hs, ht⟩⟩
    rw [Nat.zero_add, hc _ (by omega), hc _ (by omega)]
    exact stC_get l k hk

/-- An append whose run is known. -/
theorem wpList_append_run {P : Program} {w : World} {ops : Array Oper} {rest : List Oper} {o : Oper} {a : Act} {Q : Exit → Act → World → Prop} (hgd : o.guard = none) (s x : Operand) (t : TypeId)
    (ho : o.op = .call { callee := .builtin .append, args := #[s, x], argTypes := #[t, t] }) (v xv v' : Value) (w' : World) (hs : a.eval s = v) (hx : a.eval x = xv) (ty : TypeId) (hty : o.type = ty)
    (hrun : (Builtin.append_ #[t, t] ty #[v, xv]).run P w = .ok v' w') (h : wpList P ops Q rest (a.put o.dst v') w') : wpList P ops Q (o :: rest) a w := by
  refine wpList_plain hgd fun K hK => ?_
  unfold Oper.wp execOp
  simp only [ho, resolve, invoke, builtin, Sem.run_bind, Sem.run_pure, Result.andThen_ok, List.map_toArray, List.map_cons, List.map_nil, hs, hx, hty, hrun]
  exact hK _ _ h

/-- What the reference's knots returns. -/
def KnotsP (l : List (Int × Int)) (w : World) (e : Ending) (w' : World) : Prop :=
  ∃ (A : Option Addr) (c : Nat), e = .returned (.slice A (kn l).length c) ∧ StepsAt w' w'.heap.size A (kn l) ∧ Below w.heap.size w w'

set_option maxHeartbeats 1000000 in
theorem rknots_zero (due grace : Int) (lin : Bool) (A : Option Addr) (c : Nat) (l : List (Int × Int)) (w : World) (hs : StepsAt w w.heap.size A l) (hl : l.length ≤ 16) (h0 : 0 < l.length) (hz : (l.getD 0 (0, 0)).1 = 0) :
    Calls Try.prog 44 #[.agg #[.int .i64 due, .int .i64 grace, .bool lin, .slice A l.length c]] w (KnotsP l w) := by
  obtain ⟨i0, hi, hz0, hz1, hz2⟩ := info_parts Try.info34
  have hkn : kn l = l := by rw [kn, if_neg (by omega)]
  obtain ⟨b, off, rfl, hbl, hc⟩ := hs h0
  have c0 := (hc 0 h0).1
  rw [hz, Nat.zero_mul, Nat.add_zero] at c0
  have g0 : ((l.length : Int) == 0) = false := beq_eq_false_iff_ne.2 (by omega)
  have HC := Lib.hid hc
  have HK := Lib.hid hkn
  have hb1 : b < w.heap.size + 1 := by omega
  have hb2 : b < w.heap.size + 1 + 1 := by omega
  have hc4 : 0 + l.length ≤ maxLen := by unfold maxLen; omega
  have hc5 : (0 + l.length) * 16 ≤ 140737488355328 := by omega
  have hlp : (0 : Int) < (l.length : Int) := by omega
  clear hc hkn hs hz
  go_enter Try.func44, Try.ntmps44
  have hnews : ∀ j u, (stC l)[j]? = some u → (((w.alloc (polObj due grace lin (some ⟨b, off, none⟩) l.length c)).alloc (.cells #[] 34)).cell? ((⟨b, off, none⟩ : Addr).add j) = some u) := by
    refine stC_cells fun k hk => ?_
    rw [World.cell?_alloc_lt _ _ _ (by simp; omega), World.cell?_alloc_lt _ _ _ hbl, World.cell?_alloc_lt _ _ _ (by simp; omega), World.cell?_alloc_lt _ _ _ hbl]
    exact HC.out k hk
  have hown : ((w.alloc (polObj due grace lin (some ⟨b, off, none⟩) l.length c)).alloc (.cells #[] 34)).ownsRow w.heap.size 34 2 (.slice (some ⟨w.heap.size + 1, 0, none⟩) 0 0) 0 [] := by
    have := World.ownsRow_lit (base := w.heap.size) (e := 34) (size := 2) (w.alloc (polObj due grace lin (some ⟨b, off, none⟩) l.length c)) #[] 0 (by simp) (by decide) rfl
    simpa using this
  have hbase : w.heap.size ≤ ((w.alloc (polObj due grace lin (some ⟨b, off, none⟩) l.length c)).alloc (.cells #[] 34)).heap.size := by simp; omega
  have hH : ((w.alloc (polObj due grace lin (some ⟨b, off, none⟩) l.length c)).alloc (.cells #[] 34)).heap.size = w.heap.size + 1 + 1 := by simp
  have hBe : Below w.heap.size w ((w.alloc (polObj due grace lin (some ⟨b, off, none⟩) l.length c)).alloc (.cells #[] 34)) := ((Below.refl _ w).alloc (Nat.le_refl _) _).alloc (by simp) _
  have HN := Lib.hid hnews
  have HO := Lib.hid hown
  have HBs := Lib.hid hbase
  have HH := Lib.hid hH
  have HBe := Lib.hid hBe
  clear hnews hown hbase hH hBe
  go_wp2_with (at_builtin; refine wpList_append_lies _ rfl _ _ 22 rfl w.heap.size 34 i0 (.agg #[.int .i64 0, .int .i64 0]) 2 16 Try.underlying22 hi hz0 hz1 hz2 rfl (by decide) _ _ _ rfl HO.out ⟨b, off, none⟩ l.length c (stC l) rfl (stC_len l) HN.out (stC_one l) h0 hc4 hc5 HBs.out (w.heap.size + 1 + 1) HH.out ?_)
  intro g cap w2 hown2 hgrow _ hg
  have R2 : Below w.heap.size w w2 := HBe.out.grown hgrow HBs.out (fun j hj => (HO.out.lt j hj).1)
  have HR := Lib.hid R2
  have HO2 := Lib.hid hown2
  clear hown2 hgrow R2
  go_wp2_with fail
  go_ret
  have ho := HO2.out
  obtain ⟨A', c', hv, hS⟩ := steps_of_own ho
  refine ⟨A', c', ?_, ?_, HR.out⟩
  · rw [HK.out, ← hv]; rfl
  · rw [HK.out]; exact hS

set_option maxHeartbeats 1000000 in
theorem rknots_pos (due grace : Int) (lin : Bool) (A : Option Addr) (c : Nat) (l : List (Int × Int)) (w : World) (hs : StepsAt w w.heap.size A l) (hl : l.length ≤ 16) (h0 : 0 < l.length) (hz : 0 < (l.getD 0 (0, 0)).1) :
    Calls Try.prog 44 #[.agg #[.int .i64 due, .int .i64 grace, .bool lin, .slice A l.length c]] w (KnotsP l w) := by
  obtain ⟨i0, hi, hz0, hz1, hz2⟩ := info_parts Try.info34
  have hkn : kn l = (0, 100) :: l := by rw [kn, if_pos (.inr (by omega))]
  obtain ⟨b, off, rfl, hbl, hc⟩ := hs h0
  have c0 := (hc 0 h0).1
  rw [Nat.zero_mul, Nat.add_zero] at c0
  generalize (l.getD 0 (0, 0)).1 = x at c0 hz
  have g0 : ((l.length : Int) == 0) = false := beq_eq_false_iff_ne.2 (by omega)
  have gx : decide (0 < x) = true := by simpa using hz
  have HC := Lib.hid hc
  have HK := Lib.hid hkn
  have hb1 : b < w.heap.size + 1 := by omega
  have hb2 : b < w.heap.size + 1 + 1 := by omega
  have hc4 : 1 + l.length ≤ maxLen := by unfold maxLen; omega
  have hc5 : (1 + l.length) * 16 ≤ 140737488355328 := by omega
  have hlp : (0 : Int) < (l.length : Int) := by omega
  clear hc hkn hs
  go_enter Try.func44, Try.ntmps44
  have hown : (((w.alloc (polObj due grace lin (some ⟨b, off, none⟩) l.length c)).alloc (.cells #[] 34)).alloc (.cells #[.int .i64 0, .int .i64 100] 34)).ownsRow w.heap.size 34 2 (.slice (some ⟨w.heap.size + 1, 0, none⟩) 0 0) 0 [] := by
    have := World.ownsRow_lit (base := w.heap.size) (e := 34) (size := 2) (w.alloc (polObj due grace lin (some ⟨b, off, none⟩) l.length c)) #[] 0 (by simp) (by decide) rfl
    have := this.alloc (.cells #[.int .i64 0, .int .i64 100] 34)
    simpa using this
  have hbase : w.heap.size ≤ (((w.alloc (polObj due grace lin (some ⟨b, off, none⟩) l.length c)).alloc (.cells #[] 34)).alloc (.cells #[.int .i64 0, .int .i64 100] 34)).heap.size := by simp; omega
  have hH : (((w.alloc (polObj due grace lin (some ⟨b, off, none⟩) l.length c)).alloc (.cells #[] 34)).alloc (.cells #[.int .i64 0, .int .i64 100] 34)).heap.size = w.heap.size + 1 + 1 + 1 := by simp
  have hBe : Below w.heap.size w (((w.alloc (polObj due grace lin (some ⟨b, off, none⟩) l.length c)).alloc (.cells #[] 34)).alloc (.cells #[.int .i64 0, .int .i64 100] 34)) := (((Below.refl _ w).alloc (Nat.le_refl _) _).alloc (by simp) _).alloc (by simp; omega) _
  have hnew0 : ∀ j u, (stC [(0, 100)])[j]? = some u → (((w.alloc (polObj due grace lin (some ⟨b, off, none⟩) l.length c)).alloc (.cells #[] 34)).alloc (.cells #[.int .i64 0, .int .i64 100] 34)).cell? ((⟨w.heap.size + 1 + 1, 0, none⟩ : Addr).add j) = some u := by
    refine stC_cells fun k hk => ?_
    obtain rfl : k = 0 := by simpa using hk
    exact ⟨ca_new (by simp) rfl, ca_new (by simp) rfl⟩
  have HN0 := Lib.hid hnew0
  have HO := Lib.hid hown
  have HBs := Lib.hid hbase
  have HH := Lib.hid hH
  have HBe := Lib.hid hBe
  clear hnew0 hown hbase hH hBe
  go_wp2_with (at_builtin; refine wpList_append_lies _ rfl _ _ 22 rfl w.heap.size 34 i0 (.agg #[.int .i64 0, .int .i64 0]) 2 16 Try.underlying22 hi hz0 hz1 hz2 rfl (by decide) _ _ _ rfl HO.out ⟨w.heap.size + 1 + 1, 0, none⟩ 1 1 (stC [(0, 100)]) rfl rfl HN0.out (stC_one _) Nat.one_pos (by decide) (by decide) HBs.out (w.heap.size + 1 + 1 + 1) HH.out ?_)
  intro g cap w2 hown2 hgrow _ hg
  have R2 : Below w.heap.size w w2 := HBe.out.grown hgrow HBs.out (fun j hj => (HO.out.lt j hj).1)
  have HR := Lib.hid R2
  have HO2 := Lib.hid hown2
  have hz2' := R2.size
  have c3 : w2.cell? ⟨w.heap.size, 3, none⟩ = some (.slice (some ⟨b, off, none⟩) l.length c) := by
    have q : (((w.alloc (polObj due grace lin (some ⟨b, off, none⟩) l.length c)).alloc (.cells #[] 34)).alloc (.cells #[.int .i64 0, .int .i64 100] 34)).cell? ⟨w.heap.size, 3, none⟩ = some (.slice (some ⟨b, off, none⟩) l.length c) := by
      rw [World.cell?_alloc_lt _ _ _ (by simp; omega), World.cell?_alloc_lt _ _ _ (by simp)]; simp [go_sem]
    refine hgrow.cell q ?_
    simp [Value.ownBlock]
  have hnews : ∀ j u, (stC l)[j]? = some u → w2.cell? ((⟨b, off, none⟩ : Addr).add j) = some u := stC_cells fun k hk => by
    rw [bcell R2 _ _ hbl, bcell R2 _ _ hbl]; exact HC.out k hk
  have HN := Lib.hid hnews
  have hbw : w.heap.size ≤ w2.heap.size := hz2'
  clear hown2 hgrow R2 hnews
  go_wp2_with (at_builtin; refine wpList_append_lies _ rfl _ _ 22 rfl w.heap.size 34 i0 (.agg #[.int .i64 0, .int .i64 0]) 2 16 Try.underlying22 hi hz0 hz1 hz2 rfl (by decide) _ _ _ rfl HO2.out ⟨b, off, none⟩ l.length c (stC l) rfl (stC_len l) HN.out (stC_one l) h0 hc4 hc5 hbw w2.heap.size rfl ?_)
  intro g3 cap3 w3 hown3 hgrow3 _ hg3
  have R3 : Below w.heap.size w w3 := HR.out.grown hgrow3 hbw (fun j hj => (HO2.out.lt j hj).1)
  have HR3 := Lib.hid R3
  have HO3 := Lib.hid hown3
  clear hown3 hgrow3 R3
  go_wp2_with fail
  go_ret
  have ho : w3.ownsRow w.heap.size 34 2 (.slice (some ⟨g3, 0, none⟩) ((0, 100) :: l).length cap3) ((0, 100) :: l).length (stC ((0, 100) :: l)) := by
    have q := HO3.out
    have e : 1 + l.length = ((0, 100) :: l : List (Int × Int)).length := by simp; omega
    rw [e] at q
    exact q
  obtain ⟨A', c', hv, hS⟩ := steps_of_own ho
  refine ⟨A', c', ?_, ?_, HR3.out⟩
  · rw [HK.out, ← hv]
    show Ending.returned (.slice (some ⟨g3, 0, none⟩) (1 + l.length) cap3) = _
    rw [show 1 + l.length = ((0, 100) :: l : List (Int × Int)).length by simp; omega]
  · rw [HK.out]; exact hS

set_option maxHeartbeats 1000000 in
theorem rknots_nil (due grace : Int) (lin : Bool) (A : Option Addr) (c : Nat) (l : List (Int × Int)) (w : World) (h0 : l.length = 0) :
    Calls Try.prog 44 #[.agg #[.int .i64 due, .int .i64 grace, .bool lin, .slice A l.length c]] w (KnotsP l w) := by
  obtain ⟨i0, hi, hz0, hz1, hz2⟩ := info_parts Try.info34
  have hkn : kn l = [(0, 100)] := by rw [kn, if_pos (.inl h0), List.eq_nil_of_length_eq_zero h0]
  have HK := Lib.hid hkn
  have g0 : ((l.length : Int) == 0) = true := beq_iff_eq.2 (by omega)
  have hrun : ∀ (g cap : Nat) (X : World), 1 ≤ cap → (Builtin.append_ #[22, 22] 22 #[.slice (some ⟨g, 0, none⟩) 1 cap, .slice A l.length c]).run Try.prog X = .ok (.slice (some ⟨g, 0, none⟩) 1 cap) X := fun g cap X hcap => by
    rw [h0]
    cases A with
    | none => exact run_append_room_src X 22 22 22 34 i0 Try.underlying22 hi g 0 1 cap (.slice none 0 c) 0 [] (Src.ofNil X Try.underlying22 c) hcap (fun j hj => by simp at hj) (fun j hj => by simp at hj)
    | some a => exact run_append_room_src X 22 22 22 34 i0 Try.underlying22 hi g 0 1 cap (.slice (some a) 0 c) 0 [] (Src.ofSlice X Try.underlying22 a 0 c [] (by simp) (fun j u hj => by simp at hj) (fun u hu => by simp at hu)) hcap (fun j hj => by simp at hj) (fun j hj => by simp at hj)
  have HRun := Lib.hid hrun
  clear hkn hrun
  have HL := Lib.hid h0
  clear h0
  go_enter Try.func44, Try.ntmps44
  have hown : (((w.alloc (polObj due grace lin A l.length c)).alloc (.cells #[] 34)).alloc (.cells #[.int .i64 0, .int .i64 100] 34)).ownsRow w.heap.size 34 2 (.slice (some ⟨w.heap.size + 1, 0, none⟩) 0 0) 0 [] := by
    have := World.ownsRow_lit (base := w.heap.size) (e := 34) (size := 2) (w.alloc (polObj due grace lin A l.length c)) #[] 0 (by simp) (by decide) rfl
    have := this.alloc (.cells #[.int .i64 0, .int .i64 100] 34)
    simpa using this
  have hbase : w.heap.size ≤ (((w.alloc (polObj due grace lin A l.length c)).alloc (.cells #[] 34)).alloc (.cells #[.int .i64 0, .int .i64 100] 34)).heap.size := by simp; omega
  have hH : (((w.alloc (polObj due grace lin A l.length c)).alloc (.cells #[] 34)).alloc (.cells #[.int .i64 0, .int .i64 100] 34)).heap.size = w.heap.size + 1 + 1 + 1 := by simp
  have hBe : Below w.heap.size w (((w.alloc (polObj due grace lin A l.length c)).alloc (.cells #[] 34)).alloc (.cells #[.int .i64 0, .int .i64 100] 34)) := (((Below.refl _ w).alloc (Nat.le_refl _) _).alloc (by simp) _).alloc (by simp; omega) _
  have hnew0 : ∀ j u, (stC [(0, 100)])[j]? = some u → (((w.alloc (polObj due grace lin A l.length c)).alloc (.cells #[] 34)).alloc (.cells #[.int .i64 0, .int .i64 100] 34)).cell? ((⟨w.heap.size + 1 + 1, 0, none⟩ : Addr).add j) = some u := by
    refine stC_cells fun k hk => ?_
    obtain rfl : k = 0 := by simpa using hk
    exact ⟨ca_new (by simp) rfl, ca_new (by simp) rfl⟩
  have HN0 := Lib.hid hnew0
  have HO := Lib.hid hown
  have HBs := Lib.hid hbase
  have HH := Lib.hid hH
  have HBe := Lib.hid hBe
  clear hnew0 hown hbase hH hBe
  go_wp2_with (at_builtin; refine wpList_append_lies _ rfl _ _ 22 rfl w.heap.size 34 i0 (.agg #[.int .i64 0, .int .i64 0]) 2 16 Try.underlying22 hi hz0 hz1 hz2 rfl (by decide) _ _ _ rfl HO.out ⟨w.heap.size + 1 + 1, 0, none⟩ 1 1 (stC [(0, 100)]) rfl rfl HN0.out (stC_one _) Nat.one_pos (by decide) (by decide) HBs.out (w.heap.size + 1 + 1 + 1) HH.out ?_)
  intro g cap w2 hown2 hgrow _ hg
  have R2 : Below w.heap.size w w2 := HBe.out.grown hgrow HBs.out (fun j hj => (HO.out.lt j hj).1)
  have HR := Lib.hid R2
  have HO2 := Lib.hid hown2
  have hz2' := R2.size
  have c3 : w2.cell? ⟨w.heap.size, 3, none⟩ = some (.slice A l.length c) := by
    have q : (((w.alloc (polObj due grace lin A l.length c)).alloc (.cells #[] 34)).alloc (.cells #[.int .i64 0, .int .i64 100] 34)).cell? ⟨w.heap.size, 3, none⟩ = some (.slice A l.length c) := by
      rw [World.cell?_alloc_lt _ _ _ (by simp; omega), World.cell?_alloc_lt _ _ _ (by simp)]; simp [go_sem]
    refine hgrow.cell q ?_
    simp [Value.ownBlock]
  have hcap : 1 ≤ cap := by
    obtain ⟨_, ⟨h, _⟩ | ⟨_, _, _, h, _, _, hle, _⟩⟩ := hown2
    · cases h
    · simp only [Value.slice.injEq] at h; omega
  have HR3 := Lib.hid (HRun.out g cap w2 hcap)
  clear hown2 hgrow R2
  go_wp2_with (at_builtin; refine wpList_append_run rfl _ _ 22 rfl _ _ _ _ rfl rfl 22 rfl HR3.out ?_)
  go_wp2_with fail
  go_ret
  obtain ⟨A', c', hv, hS⟩ := steps_of_own (l := [(0, 100)]) HO2.out
  refine ⟨A', c', ?_, ?_, HR.out⟩
  · rw [HK.out, ← hv]; rfl
  · rw [HK.out]; exact hS

theorem rknots_any (due grace : Int) (lin : Bool) (A : Option Addr) (c : Nat) (l : List (Int × Int)) (w : World) (hs : StepsAt w w.heap.size A l) (hl : l.length ≤ 16) (hok : okTo l l.length = true) :
    Calls Try.prog 44 #[.agg #[.int .i64 due, .int .i64 grace, .bool lin, .slice A l.length c]] w (KnotsP l w) := by
  by_cases h0 : l.length = 0
  · exact rknots_nil due grace lin A c l w h0
  · have hr := (okAt_rng (okTo_at (show 0 < l.length by omega) hok)).1.1
    rcases Int.lt_or_le 0 (l.getD 0 (0, 0)).1 with h | h
    · exact rknots_pos due grace lin A c l w hs hl (by omega) h
    · exact rknots_zero due grace lin A c l w hs hl (by omega) (by omega)

end Go.Proofs.Ytcppijoccolmkaa
