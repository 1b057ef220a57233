/-
  The factor of a linear policy: the plain function.
-/
import Derived.Test.YtcppijoccolmkaaE
import Derived.Deep.Draws
import Derived.Laws.OwnMore
import Derived.Laws.Rows
namespace Go.Proofs.Ytcppijoccolmkaa
open Go.RowKit

/-- A block that is known whole. -/
def Blk (w : World) (g : Nat) (t : TypeId) (cs : Array Value) : Prop := w.heap[g]? = some (.cells cs t (0, 0))
section
variable {w w' : World} {g : Nat} {t : TypeId} {cs : Array Value}
theorem Blk.lt (h : Blk w g t cs) : g < w.heap.size := (Array.getElem?_eq_some_iff.1 h).1
theorem Blk.cell (h : Blk w g t cs) (i : Nat) : w.cell? ⟨g, i, none⟩ = cs[i]? := cell_of_row w g i cs t (0, 0) h
theorem Blk.frozen (h : Blk w g t cs) (i : Nat) : w.frozen? ⟨g, i, none⟩ = false := by
  unfold Blk at h
  simp [World.frozen?, h]
theorem Blk.new (w : World) (t : TypeId) (cs : Array Value) : Blk (w.alloc (.cells cs t)) w.heap.size t cs := World.alloc_heap_new w _
theorem Blk.drewN (h : Blk w g t cs) (n : Nat) : Blk (w.drewN n) g t cs := h
theorem Blk.alloc (h : Blk w g t cs) (o : Obj) : Blk (w.alloc o) g t cs := (Below.heap_alloc w o g h.lt).trans h
theorem Blk.set_ (h : Blk w g t cs) (i : Nat) (u : Value) : Blk (w.setCell ⟨g, i, none⟩ u) g t (cs.setIfInBounds i u) := by
  unfold Blk at h ⊢
  simp [World.setCell, Array.getElem?_modify, h]
theorem Blk.far (h : Blk w g t cs) {p : Addr} (hp : g ≠ p.block) (u : Value) : Blk (w.setCell p u) g t cs := (Below.heap_setCell w p u g hp).trans h
theorem Blk.below {B : Nat} (h : Blk w g t cs) (hb : Below B w w') (hg : g < B) : Blk w' g t cs := (hb.block g hg).trans h
theorem Blk.put (h : Blk w g t cs) {l : Nat} (hl : g ≠ l) (o : Obj) : Blk (w.putObj l o) g t cs := (World.putObj_heap_other hl).trans h
theorem Blk.own {β : Type} (g : Nat) (t : TypeId) (f : β → Array Value) : Own (fun s W => Blk W g t (f s)) := fun s X Y row hs hg hrow => by
  refine (hg.block g (Blk.lt hs) (fun e => ?_)).trans hs
  obtain ⟨o, ho, hc⟩ := hrow g e.symm
  rw [show X.heap[g]? = _ from hs] at ho
  cases ho; cases hc
end

/-- The factor behind knot b, the knots r to come. -/
def linG (t : Int) : Int × Int → List (Int × Int) → Int
  | b, [] => 100 * b.2
  | b, k :: r => if t < k.1 then 100 * (b.2 * (k.1 - t) + k.2 * (t - b.1)) / (k.1 - b.1) else linG t k r
/-- The factor along knots. -/
def linK (t : Int) : List (Int × Int) → Int
  | [] => 0
  | b :: r => linG t b r
/-- The last knot. -/
def lst (l : List (Int × Int)) : Int × Int := l.getLastD (0, 0)
theorem lst_snoc (l : List (Int × Int)) (x : Int × Int) : lst (l ++ [x]) = x := by simp [lst]

theorem linG_split (t : Int) (pre : List (Int × Int)) : ∀ (b : Int × Int) (x : Int × Int) (post : List (Int × Int)), (∀ y ∈ pre ++ [x], y.1 ≤ t) → linG t b (pre ++ x :: post) = linG t x post := by
  induction pre with
  | nil => intro b x post h; have := h x (by simp); simp only [List.nil_append, linG]; rw [if_neg (by omega)]
  | cons a r ih => intro b x post h; have := h a (by simp); simp only [List.cons_append, linG]; rw [if_neg (by omega)]; exact ih a x post (fun y hy => h y (by simp at hy ⊢; exact .inr hy))
theorem linK_split (t : Int) (pre : List (Int × Int)) (x : Int × Int) (post : List (Int × Int)) (h : ∀ y ∈ pre ++ [x], y.1 ≤ t) : linK t (pre ++ x :: post) = linG t x post := by
  cases pre with
  | nil => rfl
  | cons a r => exact linG_split t r a x post (fun y hy => h y (by simp at hy ⊢; exact .inr hy))

/-- Every knot is a time and a percentage, and the first one is at 0. -/
structure KnOk (ks : List (Int × Int)) : Prop where
  rng : ∀ y ∈ ks, 0 ≤ y.1 ∧ y.1 ≤ 1099511627776 ∧ 0 ≤ y.2 ∧ y.2 ≤ 100
  fst : ∀ x r, ks = x :: r → x.1 = 0
  non : ks ≠ []

theorem okAt_rng {l : List (Int × Int)} {k : Nat} (h : okAt l k = true) : (0 ≤ (l.getD k (0, 0)).1 ∧ (l.getD k (0, 0)).1 ≤ 1099511627776) ∧ 0 ≤ (l.getD k (0, 0)).2 ∧ (l.getD k (0, 0)).2 ≤ 100 := by
  simp only [okAt, Bool.and_eq_true] at h
  exact ⟨(tmB_iff _).1 h.1.1, (pcB_iff _).1 h.1.2⟩
theorem mem_rng {l : List (Int × Int)} (h : okTo l l.length = true) : ∀ y ∈ l, 0 ≤ y.1 ∧ y.1 ≤ 1099511627776 ∧ 0 ≤ y.2 ∧ y.2 ≤ 100 := fun y hy => by
  obtain ⟨k, hk, rfl⟩ := List.getElem_of_mem hy
  have := okAt_rng (okTo_at hk h)
  simp only [List.getD_eq_getElem?_getD, List.getElem?_eq_getElem hk, Option.getD_some] at this
  omega
theorem knOk {l : List (Int × Int)} (h : okTo l l.length = true) : KnOk (kn l) := by
  have hr := mem_rng h
  unfold kn
  split
  · refine ⟨fun y hy => ?_, fun x r e => ?_, by simp⟩
    · rcases List.mem_cons.1 hy with rfl | hy
      · simp
      · exact hr y hy
    · cases e; rfl
  · rename_i hn
    refine ⟨hr, fun x r e => ?_, fun e => hn (.inl (by rw [e]; rfl))⟩
    subst e
    rcases Int.lt_trichotomy x.1 0 with h | h | h
    · exact absurd (.inr (by simp; omega)) hn
    · exact h
    · exact absurd (.inr (by simp; omega)) hn

/-- The numbers of one piece of the line. -/
theorem lin_bd {t b1 b2 k1 k2 : Int} (h1 : 0 ≤ b1) (h2 : b1 ≤ t) (h3 : t < k1) (h4 : k1 ≤ 1099511627776) (h5 : 0 ≤ b2) (h6 : b2 ≤ 100) (h7 : 0 ≤ k2) (h8 : k2 ≤ 100) :
    (0 ≤ b2 * (k1 - t) ∧ b2 * (k1 - t) ≤ 109951162777600) ∧ (0 ≤ k2 * (t - b1) ∧ k2 * (t - b1) ≤ 109951162777600) := by
  refine ⟨⟨Int.mul_nonneg h5 (by omega), ?_⟩, ⟨Int.mul_nonneg h7 (by omega), ?_⟩⟩
  · have := Int.mul_le_mul h6 (show k1 - t ≤ 1099511627776 by omega) (by omega) (by omega); omega
  · have := Int.mul_le_mul h8 (show t - b1 ≤ 1099511627776 by omega) (by omega) (by omega); omega

end Go.Proofs.Ytcppijoccolmkaa
