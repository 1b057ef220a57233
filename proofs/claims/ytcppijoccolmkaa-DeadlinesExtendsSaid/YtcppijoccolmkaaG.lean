/-
  The contract of deadlines.linear.
-/
import Derived.Test.YtcppijoccolmkaaF
namespace Go.Proofs.Ytcppijoccolmkaa
open Go.RowKit Go.Shelf

attribute [local go_sem] Oper.semAt_some

theorem Kk_t {n₀ Bp : Nat} {A B C : World} (h : Kk n₀ Bp A B) (h' : Kk n₀ Bp B C) : Kk n₀ Bp A C := ⟨h.1.trans h'.1, fun hl => (h'.2 (Nat.lt_of_lt_of_le hl h.1.size)).trans (h.2 hl)⟩
theorem Kk_b {n₀ Bp : Nat} {w : World} (hn : n₀ ≤ w.heap.size) (hB : Bp < w.heap.size) (W : World) (l : Nat) (o o' : Obj) (hl : w.heap.size ≤ l) (ho : W.heap[l]? = some o) (hc : o.isCells = false) (hw : o.isWalk = false) : Kk n₀ Bp W (W.putObj l o') :=
  ⟨belowK_b hn W l o o' hl ho hc hw, fun _ => World.putObj_heap_other (by omega)⟩

/-- Between two rounds of the loop over the knots. -/
def LinI (t : Int) (w : World) (pre : List (Int × Int)) (W : World) : Prop :=
  ((Blk W (w.heap.size + 1) 3 #[.int .i64 t] ∧ Blk W (w.heap.size + 1 + 1) 3 #[.int .i64 0]) ∧ (Blk W (w.heap.size + 1 + 1 + 1) 34 #[.int .i64 (lst pre).1, .int .i64 (lst pre).2] ∧ Blk W (w.heap.size + 1 + 1 + 1 + 1) 4 #[.bool pre.isEmpty])) ∧ (Below w.heap.size w W ∧ ∀ y ∈ pre, y.1 ≤ t)
/-- A round has returned. -/
def LinX (t : Int) (l : List (Int × Int)) (w : World) (cd : Code) (_ : List (Int × Int)) (W : World) : Prop :=
  (cd = .ret ∧ Blk W (w.heap.size + 1 + 1) 3 #[.int .i64 (linK t (kn l))]) ∧ Below w.heap.size w W
theorem LinI_own (t : Int) (w : World) (B : Nat) (hB : w.heap.size ≤ B) : OwnFrom B (LinI t w) :=
  OwnFrom.and (OwnFrom.and (OwnFrom.and (Own.from (Blk.own _ _ _) _) (Own.from (Blk.own _ _ _) _)) (OwnFrom.and (Own.from (Blk.own _ _ _) _) (Own.from (Blk.own _ _ _) _))) (OwnFrom.and (ownFrom_below (Nat.le_refl _) hB) (ownFrom_pure _ _))
theorem LinX_own (t : Int) (l : List (Int × Int)) (w : World) (B : Nat) (hB : w.heap.size ≤ B) (cd : Code) : OwnFrom B (LinX t l w cd) :=
  OwnFrom.and (OwnFrom.and (ownFrom_pure _ _) (Own.from (Blk.own _ _ _) _)) (ownFrom_below (Nat.le_refl _) hB)

set_option maxRecDepth 100000 in
set_option maxHeartbeats 2000000 in
theorem linear_in (F : Fence) (n : Nat) (h41 : F.fn 41) (h48 : F.fn 48) (h49 : F.fn 49) (hro : F.round = none) (hn : 3 ≤ n) (due grace : Int) (lin : Bool) (A : Option Addr) (c : Nat) (l : List (Int × Int)) (t : Int) (w : World)
    (hs : StepsAt w w.heap.size A l) (hl : l.length ≤ 16) (hok : KnOk (kn l)) (ht0 : 0 ≤ t) (ht1 : t ≤ 1099511627776) :
    CallsIn F n Try.prog 41 #[.agg #[.int .i64 due, .int .i64 grace, .bool lin, .slice A l.length c], .int .i64 t] w fun e w' => e = .returned (.int .i64 (linK t (kn l))) ∧ Below w.heap.size w w' := by
  have h1 : 1 ≤ n := by omega
  refine callsIn_of_wp_marks Try.func41 rfl h41 ?_ hro
  simp only [Try.ntmps41, List.size_toArray, List.length_cons, List.length_nil, Nat.reduceAdd, Nat.reduceSub, Array.replicate_succ, Array.replicate_zero, List.push_toArray, List.append_toArray, List.nil_append, List.cons_append]
  gi_wp2_with (gi_at_call 48; refine (knots_in F (n - 1) h48 hro _ _ _ _ _ _ _).mono ?_; rintro e w' ⟨rfl, rfl⟩)
  have bT := ((((Blk.new (w.alloc (polObj due grace lin A l.length c)) 3 #[.int .i64 t]).alloc (.cells #[.int .i64 0] 3)).alloc (.cells #[.int .i64 0, .int .i64 0] 34)).alloc (.cells #[.bool true] 4)).alloc (polObj due grace lin A l.length c)
  have bR := (((Blk.new ((w.alloc (polObj due grace lin A l.length c)).alloc (.cells #[.int .i64 t] 3)) 3 #[.int .i64 0]).alloc (.cells #[.int .i64 0, .int .i64 0] 34)).alloc (.cells #[.bool true] 4)).alloc (polObj due grace lin A l.length c)
  have bB := ((Blk.new (((w.alloc (polObj due grace lin A l.length c)).alloc (.cells #[.int .i64 t] 3)).alloc (.cells #[.int .i64 0] 3)) 34 #[.int .i64 0, .int .i64 0]).alloc (.cells #[.bool true] 4)).alloc (polObj due grace lin A l.length c)
  have bF := (Blk.new ((((w.alloc (polObj due grace lin A l.length c)).alloc (.cells #[.int .i64 t] 3)).alloc (.cells #[.int .i64 0] 3)).alloc (.cells #[.int .i64 0, .int .i64 0] 34)) 4 #[.bool true]).alloc (polObj due grace lin A l.length c)
  have bP := Blk.new (((((w.alloc (polObj due grace lin A l.length c)).alloc (.cells #[.int .i64 t] 3)).alloc (.cells #[.int .i64 0] 3)).alloc (.cells #[.int .i64 0, .int .i64 0] 34)).alloc (.cells #[.bool true] 4)) 24 #[.int .i64 due, .int .i64 grace, .bool lin, .slice A l.length c]
  have hB0 : Below w.heap.size w ((((((w.alloc (polObj due grace lin A l.length c)).alloc (.cells #[.int .i64 t] 3)).alloc (.cells #[.int .i64 0] 3)).alloc (.cells #[.int .i64 0, .int .i64 0] 34)).alloc (.cells #[.bool true] 4)).alloc (polObj due grace lin A l.length c)) :=
    ((((((Below.refl _ w).alloc (Nat.le_refl _) _).alloc (by simp) _).alloc (by simp; omega) _).alloc (by simp; omega) _).alloc (by simp; omega) _).alloc (by simp; omega) _
  have hsz : ((((((w.alloc (polObj due grace lin A l.length c)).alloc (.cells #[.int .i64 t] 3)).alloc (.cells #[.int .i64 0] 3)).alloc (.cells #[.int .i64 0, .int .i64 0] 34)).alloc (.cells #[.bool true] 4)).alloc (polObj due grace lin A l.length c)).heap.size = w.heap.size + 6 := by simp
  simp only [World.size_alloc] at bT bR bB bF bP
  obtain ⟨W0, hW0⟩ : ∃ W0, (((((w.alloc (polObj due grace lin A l.length c)).alloc (.cells #[.int .i64 t] 3)).alloc (.cells #[.int .i64 0] 3)).alloc (.cells #[.int .i64 0, .int .i64 0] 34)).alloc (.cells #[.bool true] 4)).alloc (polObj due grace lin A l.length c) = W0 := ⟨_, rfl⟩
  rw [hW0] at bT bR bB bF bP hB0 hsz ⊢
  clear hW0
  refine wpIn_yields hro h1 (gf := 49) (lb := #[.pointer (some ⟨w.heap.size + 1 + 1 + 1 + 1 + 1, 0, none⟩)]) rfl h49 (enters_of Try.func49 (by kernel_rfl) rfl)
    (knots1_in F (n - 1) h49 hro (by omega) (w.heap.size + 1 + 1 + 1 + 1 + 1) w.heap.size due grace lin A c l hl W0 bP (hs.below hB0) (by omega)) Kk_t (Kk_b (by omega) (by omega)) (fun _ => rfl)
    (LinI t w)
    (LinX t l w)
    (LinI_own t w _ (by omega))
    (LinX_own t l w _ (by omega))
    ⟨⟨⟨bT, bR⟩, bB, bF⟩, hB0, by simp⟩
    (fun x a' W => ∃ Bx, w.heap.size + 5 ≤ Bx ∧ Blk W Bx 34 #[.int .i64 x.1, .int .i64 x.2] ∧ a' = { tmps := #[.agg #[.int .i64 due, .int .i64 grace, .bool lin, .slice A l.length c], .int .i64 t, .pointer (some ⟨w.heap.size, 0, none⟩), .pointer (some ⟨w.heap.size + 1, 0, none⟩), .pointer (some ⟨w.heap.size + 1 + 1, 0, none⟩), .pointer (some ⟨w.heap.size + 1 + 1 + 1, 0, none⟩), .pointer (some ⟨w.heap.size + 1 + 1 + 1 + 1, 0, none⟩), .pointer (some ⟨Bx, 0, none⟩), undef, undef, .agg #[.int .i64 due, .int .i64 grace, .bool lin, .slice A l.length c], .func (.func 49) #[] #[.pointer (some ⟨w.heap.size + 1 + 1 + 1 + 1 + 1, 0, none⟩)], .agg #[.int .i64 x.1, .int .i64 x.2], undef, undef, undef, undef, undef, undef, undef, undef, undef, undef, undef, undef, undef, undef, undef, undef, undef, undef, undef, undef, undef, undef, undef, undef, undef, undef, undef, undef, undef, undef, undef, undef, undef, undef], defers := [] })
    (fun x a' _ X Y row hs hg hr => by obtain ⟨Bx, h1, h2, h3⟩ := hs; exact ⟨Bx, h1, Blk.own Bx 34 (fun (_ : Unit) => #[.int .i64 x.1, .int .i64 x.2]) () X Y row h2 hg (fun r e => (hr r e).2), h3⟩)
    ?assign ?body ?done ?stop
  case assign =>
    rintro li pre x post W K hxs ⟨⟨⟨cT, cR⟩, cB, cF⟩, hB, hle⟩ hK
    gi_wp2
    exact hK _ _ ((KeepsOthers.alloc _ _).from _) ⟨(Below.refl _ W).alloc hB.size _, fun h => Below.heap_alloc _ _ _ h⟩ ⟨⟨⟨cT.alloc _, cR.alloc _⟩, cB.alloc _, cF.alloc _⟩, hB.alloc hB.size _, hle⟩ ⟨W.heap.size, by have := cF.lt; omega, Blk.new W 34 _, rfl⟩
  case body =>
    rintro li pre x post a' W hli hxs ⟨⟨⟨cT, cR⟩, cB, cF⟩, hB, hle⟩ ⟨Bx, hBx, cX, rfl⟩
    have hx := hok.rng x (by rw [hxs]; simp)
    have kT : W.cell? ⟨w.heap.size + 1, 0, none⟩ = some (.int .i64 t) := by simpa using cT.cell 0
    have kX0 : W.cell? ⟨Bx, 0, none⟩ = some (.int .i64 x.1) := by simpa using cX.cell 0
    have kX1 : W.cell? ⟨Bx, 1, none⟩ = some (.int .i64 x.2) := by simpa using cX.cell 1
    have kB0 : W.cell? ⟨w.heap.size + 1 + 1 + 1, 0, none⟩ = some (.int .i64 (lst pre).1) := by simpa using cB.cell 0
    have kB1 : W.cell? ⟨w.heap.size + 1 + 1 + 1, 1, none⟩ = some (.int .i64 (lst pre).2) := by simpa using cB.cell 1
    have kF : W.cell? ⟨w.heap.size + 1 + 1 + 1 + 1, 0, none⟩ = some (.bool pre.isEmpty) := by simpa using cF.cell 0
    have kR : W.cell? ⟨w.heap.size + 1 + 1, 0, none⟩ = some (.int .i64 0) := by simpa using cR.cell 0
    have fB0 := cB.frozen 0
    have fB1 := cB.frozen 1
    have fF := cF.frozen 0
    have fR := cR.frozen 0
    have hnext : x.1 ≤ t → ownPostG W0.heap.size (Kk w.heap.size (w.heap.size + 1 + 1 + 1 + 1 + 1)) (LinI t w)
        (LinX t l w) (pre ++ [x]) W .normal { tmps := #[], defers := [] } (((W.setCell ⟨w.heap.size + 1 + 1 + 1, 0, none⟩ (.int .i64 x.1)).setCell ⟨w.heap.size + 1 + 1 + 1, 1, none⟩ (.int .i64 x.2)).setCell ⟨w.heap.size + 1 + 1 + 1 + 1, 0, none⟩ (.bool false)) := fun hxt => by
      refine ⟨((KeepsOthers.setCell _ _ _).from _).trans (((KeepsOthers.setCell _ _ _).from _).trans ((KeepsOthers.setCell _ _ _).from _)), ⟨?_, fun hb => ?_⟩, ⟨⟨?_, ?_⟩, ?_, ?_⟩, ?_, ?_⟩
      · exact (((Below.refl _ W).setCell (p := ⟨w.heap.size + 1 + 1 + 1, 0, none⟩) (by dsimp only; omega) _).setCell (p := ⟨w.heap.size + 1 + 1 + 1, 1, none⟩) (by dsimp only; omega) _).setCell (p := ⟨w.heap.size + 1 + 1 + 1 + 1, 0, none⟩) (by dsimp only; omega) _
      · rw [Below.heap_setCell _ _ _ _ (by dsimp only; omega), Below.heap_setCell _ _ _ _ (by dsimp only; omega), Below.heap_setCell _ _ _ _ (by dsimp only; omega)]
      · exact ((cT.far (by dsimp only; omega) _).far (by dsimp only; omega) _).far (by dsimp only; omega) _
      · exact ((cR.far (by dsimp only; omega) _).far (by dsimp only; omega) _).far (by dsimp only; omega) _
      · rw [lst_snoc]; exact ((cB.set_ 0 _).set_ 1 _).far (by dsimp only; omega) _
      · have := ((cF.far (p := ⟨w.heap.size + 1 + 1 + 1, 0, none⟩) (by dsimp only; omega) (.int .i64 x.1)).far (p := ⟨w.heap.size + 1 + 1 + 1, 1, none⟩) (by dsimp only; omega) (.int .i64 x.2)).set_ 0 (.bool false)
        rw [show (pre ++ [x]).isEmpty = false by cases pre <;> rfl]
        simpa using this
      · exact ((hB.setCell (p := ⟨w.heap.size + 1 + 1 + 1, 0, none⟩) (by dsimp only; omega) _).setCell (p := ⟨w.heap.size + 1 + 1 + 1, 1, none⟩) (by dsimp only; omega) _).setCell (p := ⟨w.heap.size + 1 + 1 + 1 + 1, 0, none⟩) (by dsimp only; omega) _
      · intro y hy
        rcases List.mem_append.1 hy with h | h
        · exact hle y h
        · simp at h; subst h; exact hxt
    have HN := Lib.hid hnext
    have HSZ := Lib.hid hsz
    clear hsz
    have HXS := Lib.hid hxs
    have HLE := Lib.hid hle
    have HCR := Lib.hid cR
    clear hnext hxs hle cT cR cB cF cX
    by_cases hp : pre = []
    · subst hp
      have kF' : W.cell? ⟨w.heap.size + 1 + 1 + 1 + 1, 0, none⟩ = some (.bool true) := kF
      clear kF
      gi_wp2
      exact HN.out (by have := hok.fst x post (by rw [HXS.out]; rfl); omega)
    · have hpE : pre.isEmpty = false := by cases pre with
        | nil => exact absurd rfl hp
        | cons a r => rfl
      rw [hpE] at kF
      obtain ⟨pre0, y, hpre⟩ : ∃ pre0 y, pre = pre0 ++ [y] := ⟨pre.dropLast, pre.getLast hp, (List.dropLast_concat_getLast hp).symm⟩
      rw [hpre, lst_snoc] at kB0 kB1
      have hy := hok.rng y (by rw [HXS.out, hpre]; simp)
      have hyt : y.1 ≤ t := HLE.out y (by rw [hpre]; simp)
      have HPRE := Lib.hid hpre
      clear hpre
      obtain ⟨y1, y2⟩ := y
      obtain ⟨x1, x2⟩ := x
      obtain ⟨hy0, hy1, hy2, hy3⟩ := hy
      obtain ⟨hx0, hx1, hx2, hx3⟩ := hx
      dsimp only at *
      clear hp hpE
      by_cases hlt : t < x1
      · obtain ⟨⟨m0, m1⟩, m2, m3⟩ := lin_bd hy0 hyt hlt hx1 hy2 hy3 hx2 hx3
        have hd : 1 ≤ x1 - y1 := by omega
        have hd0 : ((x1 - y1) == 0) = false := beq_eq_false_iff_ne.2 (by omega)
        have hmx : Try.prog.follows .mixedOrders = true := by kernel_rfl
        have hv : linK t (kn l) = 100 * (y2 * (x1 - t) + x2 * (t - y1)) / (x1 - y1) := by
          rw [HXS.out, HPRE.out, List.append_assoc, List.singleton_append, linK_split t pre0 (y1, y2) ((x1, x2) :: post) (fun z hz => HLE.out z (by rw [HPRE.out]; exact hz)), linG, if_pos hlt]
        have hret : LinX t l w .ret (pre ++ [(x1, x2)]) ((W.setCell ⟨w.heap.size + 1 + 1, 0, none⟩ (.int .i64 (100 * (y2 * (x1 - t) + x2 * (t - y1)) / (x1 - y1)))).drew) := by
          refine ⟨⟨rfl, ?_⟩, (hB.setCell (p := ⟨w.heap.size + 1 + 1, 0, none⟩) (by dsimp only; omega) _).drew⟩
          rw [hv]
          have := (HCR.out).set_ 0 (.int .i64 (100 * (y2 * (x1 - t) + x2 * (t - y1)) / (x1 - y1)))
          simp only [List.setIfInBounds_toArray, List.set_cons_zero] at this
          exact this
        have HRET := Lib.hid hret
        clear hret hv
        gi_wp2
        gi_region_with_o (fail)
        all_goals gi_wp2
        all_goals exact ⟨((KeepsOthers.setCell _ _ _).trans (KeepsOthers.drew _)).from _, HRET.out⟩
      · gi_wp2
        exact HN.out (by omega)
  case done =>
    rintro D W hD ⟨⟨⟨cT, cR⟩, cB, cF⟩, hB, hle⟩ hK
    have kB1 : W.cell? ⟨w.heap.size + 1 + 1 + 1, 1, none⟩ = some (.int .i64 (lst (kn l)).2) := by simpa using cB.cell 1
    have kR : W.cell? ⟨w.heap.size + 1 + 1, 0, none⟩ = some (.int .i64 0) := by simpa using cR.cell 0
    have fR := cR.frozen 0
    obtain ⟨pre0, y, hy⟩ : ∃ pre0 y, kn l = pre0 ++ [y] := ⟨(kn l).dropLast, (kn l).getLast hok.non, (List.dropLast_concat_getLast hok.non).symm⟩
    have hyr := hok.rng y (by rw [hy]; simp)
    have hv : linK t (kn l) = 100 * y.2 := by rw [hy]; exact linK_split t pre0 y [] (fun z hz => hle z (by rw [hy]; exact hz))
    rw [hy, lst_snoc] at kB1
    obtain ⟨y1, y2⟩ := y
    obtain ⟨hy0, hy1, hy2, hy3⟩ := hyr
    dsimp only at *
    have HV := Lib.hid hv
    have HL := Lib.hid hle
    clear hv hle hy
    gi_wp2
    have hK' := (KeepsOthers.setCell W ⟨w.heap.size + 1 + 1, 0, none⟩ (.int .i64 (100 * y2))).same D _ hK rfl
    refine ⟨by simp, .inl ⟨_, _, rfl, run_takeDeferred hK', ?_⟩⟩
    have hc5 := cell_kept (World.cell?_setCell_same' W ⟨w.heap.size + 1 + 1, 0, none⟩ (.int .i64 (100 * y2)) (by rw [kR]; rfl)) (grownBy_putObj' _ D (.deferred none)) (fun r e => by cases e; exact ⟨_, hK', rfl⟩)
    refine ⟨.int .i64 (100 * y2), ?_, by rw [HV.out], (hB.setCell (p := ⟨w.heap.size + 1 + 1, 0, none⟩) (by dsimp only; omega) _).trans (belowK_b (w := w) (Nat.le_refl _) _ D _ _ (by omega) hK' rfl rfl)⟩
    simp [results, Try.f41, go_sem, hc5]
  case stop =>
    rintro D cd pre W hD hpre ⟨⟨rfl, cR⟩, hB⟩ hK
    have kR : W.cell? ⟨w.heap.size + 1 + 1, 0, none⟩ = some (.int .i64 (linK t (kn l))) := by simpa using cR.cell 0
    gi_wp2
    refine ⟨by simp, .inl ⟨_, _, rfl, run_takeDeferred hK, ?_⟩⟩
    have hc5 := cell_kept kR (grownBy_putObj' _ D (.deferred none)) (fun r e => by cases e; exact ⟨_, hK, rfl⟩)
    refine ⟨.int .i64 (linK t (kn l)), ?_, rfl, hB.trans (belowK_b (w := w) (Nat.le_refl _) W D _ _ (by omega) hK rfl rfl)⟩
    simp [results, Try.f41, go_sem, hc5]

theorem linear_any (due grace : Int) (lin : Bool) (A : Option Addr) (c : Nat) (l : List (Int × Int)) (t : Int) (w : World)
    (hs : StepsAt w w.heap.size A l) (hl : l.length ≤ 16) (hok : KnOk (kn l)) (ht0 : 0 ≤ t) (ht1 : t ≤ 1099511627776) :
    Calls Try.prog 41 #[.agg #[.int .i64 due, .int .i64 grace, .bool lin, .slice A l.length c], .int .i64 t] w fun e w' => e = .returned (.int .i64 (linK t (kn l))) ∧ Below w.heap.size w w' :=
  (callsIn_wide (n := 3)).1 (linear_in _ 3 trivial trivial trivial rfl (Nat.le_refl _) due grace lin A c l t w hs hl hok ht0 ht1)

end Go.Proofs.Ytcppijoccolmkaa
