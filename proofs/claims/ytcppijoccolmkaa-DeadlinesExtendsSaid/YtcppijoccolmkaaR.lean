/-
  A range over a function whose iterator hands over a known list, one after the other: the loop's body is walked for the element that is next, and for no other.
-/
import Derived.RangeFuncNested
import Derived.RangeFuncBound
import Derived.RangeFuncCalls
import Derived.RangeFuncLeaves
import Derived.Shelf.Abstract
import Derived.Shelf.RegionOpen
import Derived.OwnWalkIn
import Derived.TacticsInMore
import Derived.LoopNIn
import Derived.LoopIn
namespace Go.Proofs.Ytcppijoccolmkaa
open Go.RowKit

/-- The iterator value hands over xs, in order, until a round says no more. -/
def Yields {α : Type} (F : Fence) (n : Nat) (P : Program) (g : Nat) (lb : Array Value) (encs : α → Array Value) (Kp : World → World → Prop) (xs : List α) (w : World) : Prop :=
  ∀ (l : Nat) (J Jx : List α → World → Prop) (W : World), Below w.heap.size w W → AbidesFrom W.heap.size J → AbidesFrom W.heap.size Jx →
    (∀ pre x post W1, xs = pre ++ x :: post → J pre W1 → YieldAt F (n - 1) P l (encs x) W1 fun e W' =>
      (e = .returned (.bool true) ∧ J (pre ++ [x]) W' ∧ Kp W1 W') ∨ (e = .returned (.bool false) ∧ Jx (pre ++ [x]) W')) →
    J [] W →
    CallsIn F n P g (#[.func (.yield l) #[] #[]] ++ lb) W fun e W' => (∃ v, e = .returned v) ∧ (J xs W' ∨ ∃ pre, pre <+: xs ∧ Jx pre W')

variable {F : Fence} {n : Nat} {P : Program}

/-- The loop over such an iterator. -/
theorem wpIn_yields {α : Type} {g : Operand} {ps : Array Tmp} {assign body : Code} {Q : Exit → Act → World → Prop} {a : Act} {w : World}
    (hro : F.round = none) (h1 : 1 ≤ n) {gf : Nat} {lb : Array Value} (hg : a.eval g = .func (.func gf) #[] lb) (hFg : F.fn gf) (eg : ∀ args w, (callFunc gf args).run P w = .ok (.enter gf args) w)
    {encs : α → Array Value} {Kp : World → World → Prop} {xs : List α} (hseq : Yields F (n - 1) P gf lb encs Kp xs w)
    (hKt : ∀ {A B C : World}, Kp A B → Kp B C → Kp A C) (hKb : ∀ (W : World) (l : Nat) (o o' : Obj), w.heap.size ≤ l → W.heap[l]? = some o → o.isCells = false → o.isWalk = false → Kp W (W.putObj l o')) (hps : ∀ x, (encs x).size = ps.size)
    (I : List α → World → Prop) (Ix : Code → List α → World → Prop) (hI : OwnFrom w.heap.size I) (hIx : ∀ c, OwnFrom w.heap.size (Ix c)) (h0 : I [] w)
    (Ax : α → Act → World → Prop) (hAx : ∀ x a', OwnFrom w.heap.size (fun (_ : Unit) W => Ax x a' W))
    (hassign : ∀ (l : Nat) (pre : List α) (x : α) (post : List α) (W : World) (K : Act → World → Prop), xs = pre ++ x :: post → I pre W → (∀ a' W', KeepsFrom w.heap.size W W' → Kp W W' → I pre W' → Ax x a' W' → K a' W') →
      assign.wpIn (F.inRound l) (n - 1 - 1) P (Exit.then K (fun _ _ _ => False)) { tmps := (ps.zip (encs x)).foldl (fun t (p, v) => t.setIfInBounds p v) a.tmps, defers := [] } W)
    (hbody : ∀ (l : Nat) (pre : List α) (x : α) (post : List α) (a' : Act) (W : World), w.heap.size ≤ l → xs = pre ++ x :: post → I pre W → Ax x a' W → body.wpIn (F.inRound l) (n - 1 - 1) P (ownPostG w.heap.size Kp I Ix (pre ++ [x]) W) a' W)
    (hdone : ∀ (D : Nat) (W : World), w.heap.size ≤ D → I xs W → W.heap[D]? = some (.deferred (some [])) → Q .normal { a with defers := { target := .collected D, args := #[] } :: a.defers } W)
    (hstop : ∀ (D : Nat) (c : Code) (pre : List α) (W : World), w.heap.size ≤ D → pre <+: xs → Ix c pre W → W.heap[D]? = some (.deferred (some [])) → c.wpIn F n P Q { a with defers := { target := .collected D, args := #[] } :: a.defers } W) :
    (Code.rangeFunc g ps assign body).wpIn F n P Q a w := by
  refine wpIn_rangeFunc fun fn hfn => ?_
  rw [hro]
  -- the record of the loop in its states, and the two blocks of book-keeping
  obtain ⟨rec, hrec⟩ : ∃ rec : LoopState → Option Code → Loop, rec = fun st pe => { state := st, pending := pe, fn, tmps := a.tmps, params := ps, assign, body, defers := w.heap.size } := ⟨_, rfl⟩
  let Bk (lp : Loop) (W : World) : Prop := W.heap[w.heap.size + 1]? = some (.loop lp) ∧ W.heap[w.heap.size]? = some (.deferred (some []))
  have bk_lt : ∀ {lp W}, Bk lp W → w.heap.size + 1 < W.heap.size := fun h => (Array.getElem?_eq_some_iff.1 h.1).1
  have bk_put : ∀ {lp W} (lp' : Loop), Bk lp W → Bk lp' (W.putObj (w.heap.size + 1) (.loop lp')) := fun lp' h =>
    ⟨World.putObj_heap_same (bk_lt h), (World.putObj_heap_other (by omega)).trans h.2⟩
  have bk_keep : ∀ {lp W W'}, KeepsFrom w.heap.size W W' → Bk lp W → Bk lp W' := fun hk h => ⟨hk.same _ _ (by omega) h.1 rfl, hk.same _ _ (Nat.le_refl _) h.2 rfl⟩
  have bk_own : ∀ {lp} {A B : World} {row : Option Nat}, A.grownBy B row → (∀ r, row = some r → ∃ o : Obj, A.heap[r]? = some o ∧ o.isWalk = true) → Bk lp A → Bk lp B := fun hg' hr h =>
    ⟨(grownBy_keeps hg' hr h.1 rfl).trans h.1, (grownBy_keeps hg' hr h.2 rfl).trans h.2⟩
  have low : ∀ {W : World} {lp lp' : Loop}, Bk lp W → Kp W (W.putObj (w.heap.size + 1) (.loop lp')) := fun h => hKb _ _ _ _ (by omega) h.1 rfl rfl
  obtain ⟨W1, hW1⟩ : ∃ W1, (w.alloc (.deferred (some []))).alloc (.loop (rec .ready none)) = W1 := ⟨_, rfl⟩
  have hB1 : Bk (rec .ready none) W1 := by
    rw [← hW1]
    have hn := World.alloc_heap_new (w.alloc (.deferred (some []))) (.loop (rec .ready none))
    rw [World.size_alloc] at hn
    exact ⟨hn, (Below.heap_alloc _ _ _ (by simp)).trans (World.alloc_heap_new w _)⟩
  have hI1 : I [] W1 := by rw [← hW1]; exact hI.alloc _ (hI.alloc _ h0)
  have hb1 : Below w.heap.size w W1 := by rw [← hW1]; exact ((Below.refl _ w).alloc (Nat.le_refl _) _).alloc (by simp) _
  have hs1 : W1.heap.size = w.heap.size + 2 := by rw [← hW1]; simp
  refine ⟨w.heap.size + 1, [{ target := .collected w.heap.size, args := #[] }], W1, { target := .fn (.func gf) lb, args := #[.func (.yield (w.heap.size + 1)) #[] #[]] }, W1, gf,
    #[.func (.yield (w.heap.size + 1)) #[] #[]] ++ lb, W1, ?_, ?_, ?_, ?_, fun _ => h1, ?_⟩
  · rw [← hW1, hrec]; exact run_enterLoop_outer _ _ _ _ _
  · simp only [resolve, hg]
    simp [go_sem]
  · intro f' hf'; simp [Target.leads] at hf'; subst hf'; exact hFg
  · simp [invoke, go_sem, eg]
  have wide : ∀ {A : World} {row : Option Nat}, (∀ r, row = some r → W1.heap.size ≤ r ∧ ∃ o : Obj, A.heap[r]? = some o ∧ o.isWalk = true) → (∀ r, row = some r → w.heap.size ≤ r ∧ ∃ o : Obj, A.heap[r]? = some o ∧ o.isCells = false) :=
    fun hr r e => by obtain ⟨hB, o, ho, hw⟩ := hr r e; exact ⟨by omega, o, ho, Obj.not_cells_of_walk hw⟩
  refine (hseq (w.heap.size + 1) (fun pre W => I pre W ∧ Bk (rec .ready none) W) (fun pre W => ∃ c, Ix c pre W ∧ Bk (rec .done (some c)) W) W1 hb1
    (fun s A B row hs hg' hr => ⟨hI s A B row hs.1 hg' (wide hr), bk_own hg' (fun r e => (hr r e).2) hs.2⟩)
    (fun s A B row hs hg' hr => by
      obtain ⟨c, hc, hk⟩ := hs
      exact ⟨c, hIx c s A B row hc hg' (wide hr), bk_own hg' (fun r e => (hr r e).2) hk⟩)
    ?_ ⟨hI1, hB1⟩).mono ?_
  · -- one round
    rintro pre x post W hxs ⟨hi, hk⟩
    have hy := run_yield (P := P) (args := encs x) hk.1 (by rw [hrec]; exact hps x)
    rw [hrec] at hy
    refine ⟨fn, _, assign, body, hy, roundIn_of_wpIn hfn (hassign _ pre x post W _ hxs hi fun a' Wa hkf hkp hia hax => ?_)⟩
    clear hy
    have hka := bk_keep hkf hk
    refine ⟨_, run_beginRound hka.1 (by rw [hrec]), ?_⟩
    have hkb := bk_put { rec .ready none with state := .busy } hka
    refine wpIn_mono (hbody _ pre x post a' _ (by omega) hxs (hI.putObj _ hia (by omega) hka.1 rfl) ((hAx x a').putObj (s := ()) _ hax (by omega) hka.1 rfl)) ?_
    have fin : ∀ (jump : Option Code) (W3 : World), KeepsFrom w.heap.size (Wa.putObj (w.heap.size + 1) (.loop { rec .ready none with state := .busy })) W3 →
        Bk { rec .ready none with state := .busy } W3 ∧ (Instr.endRound (w.heap.size + 1) jump).run P W3 = .ok (.bool jump.isNone) (W3.putObj (w.heap.size + 1) (.loop (rec (if jump.isNone then .ready else .done) jump))) := fun jump W3 hk3 => by
      have hl3 := bk_keep hk3 hkb
      refine ⟨hl3, ?_⟩
      have := run_endRound (P := P) jump hl3.1
      rw [hrec] at this ⊢
      exact this
    rintro e a3 W3 hp
    cases e with
    | normal =>
      obtain ⟨hk3, hkp3, hi3⟩ := hp
      obtain ⟨hl3, hr⟩ := fin none W3 hk3
      exact ⟨_, _, hr, .inl ⟨rfl, ⟨hI.putObj _ hi3 (by omega) hl3.1 rfl, bk_put _ hl3⟩, hKt hkp (hKt (hKt (low hka) hkp3) (low hl3))⟩⟩
    | ret =>
      obtain ⟨hk3, hi3⟩ := hp
      obtain ⟨hl3, hr⟩ := fin (some .ret) W3 hk3
      exact ⟨_, _, hr, .inr ⟨rfl, .ret, (hIx _).putObj _ hi3 (by omega) hl3.1 rfl, bk_put _ hl3⟩⟩
    | exit id =>
      obtain ⟨hk3, hi3⟩ := hp
      obtain ⟨hl3, hr⟩ := fin (some (.exit id)) W3 hk3
      exact ⟨_, _, hr, .inr ⟨rfl, .exit id, (hIx _).putObj _ hi3 (by omega) hl3.1 rfl, bk_put _ hl3⟩⟩
    | goto t =>
      obtain ⟨hk3, hi3⟩ := hp
      obtain ⟨hl3, hr⟩ := fin (some (.goto t)) W3 hk3
      exact ⟨_, _, hr, .inr ⟨rfl, .goto t, (hIx _).putObj _ hi3 (by omega) hl3.1 rfl, bk_put _ hl3⟩⟩
    | panic ch => exact hp.elim
    | outgrown => exact hp.elim
  · -- behind the iterator
    have fin : ∀ (lp : Loop) (W2 : World), Bk lp W2 → ∀ lp' : Loop, (W2.putObj (w.heap.size + 1) (.loop lp')).heap[w.heap.size]? = some (.deferred (some [])) := fun lp W2 h lp' => (World.putObj_heap_other (by omega)).trans h.2
    rintro e W2 ⟨⟨v, rfl⟩, (⟨hi, hk⟩ | ⟨pre, hSp, c, hi, hk⟩)⟩
    · exact ⟨none, _, by have := run_endLoop (P := P) hk.1 (by rw [hrec]; simp); rw [hrec] at this; exact this, hdone _ _ (Nat.le_refl _) (hI.putObj _ hi (by omega) hk.1 rfl) (fin _ _ hk _)⟩
    · exact ⟨some c, _, by have := run_endLoop (P := P) hk.1 (by rw [hrec]; simp); rw [hrec] at this; exact this, hstop _ c pre _ (Nat.le_refl _) hSp ((hIx c).putObj _ hi (by omega) hk.1 rfl) (fin _ _ hk _)⟩

end Go.Proofs.Ytcppijoccolmkaa
