/-
  The walk of DeadlinesExtends.
-/
import Derived.Test.YtcppijoccolmkaaGa
import Derived.Test.YtcppijoccolmkaaDueWalk
namespace Go.Proofs.Ytcppijoccolmkaa
open Go.RowKit

theorem getD_app_lt {l : List Ext} {x : Ext} {k : Nat} (h : k < l.length) : (l ++ [x]).getD k noExt = l.getD k noExt := by
  simp [List.getD_eq_getElem?_getD, List.getElem?_append_left h]
theorem getD_app_at {l : List Ext} {x : Ext} : (l ++ [x]).getD l.length noExt = x := by
  simp [List.getD_eq_getElem?_getD]
theorem dueF_app (due : Int) (s : ByteArray) (tick : Int) (l : List Ext) (x : Ext) : ∀ k, k ≤ l.length → dueF due s tick (l ++ [x]) k = dueF due s tick l k
  | 0, _ => rfl
  | k + 1, h => by
    simp only [dueF]
    rw [getD_app_lt (by omega), dueF_app due s tick l x k (by omega)]
theorem dueF_last (due : Int) (s : ByteArray) (tick : Int) (l : List Ext) (x : Ext) : dueF due s tick (l ++ [x]) (l ++ [x]).length = if exB s tick x = true then mxI (dueF due s tick l l.length) x.2.1 else dueF due s tick l l.length := by
  rw [List.length_append, List.length_singleton, dueF, getD_app_at, dueF_app _ _ _ _ _ _ (Nat.le_refl _)]
theorem dueF_rng {due : Int} {s : ByteArray} {tick : Int} {l : List Ext} (h0 : 0 ≤ due) (h1 : due ≤ 1099511627776) : ∀ k, due ≤ dueF due s tick l k ∧ dueF due s tick l k ≤ 1099511627776
  | 0 => ⟨Int.le_refl _, h1⟩
  | k + 1 => by
    have ih := dueF_rng (s := s) (tick := tick) (l := l) h0 h1 k
    simp only [dueF]
    split
    · rename_i he
      simp only [exB, Bool.and_eq_true] at he
      have := (tmB_iff _).1 he.2
      unfold mxI
      split <;> omega
    · exact ih
/-- What one extension more does. -/
theorem ext_cases (a : Int) (s : ByteArray) (tick : Int) (sx : ByteArray) (xd xt : Int) (b : Int) (hb : b = if exB s tick (sx, xd, xt) = true then mxI a xd else a) :
    a ≤ b ∧ (((sx.toList == s.toList) = false ∧ b = a) ∨ ((sx.toList == s.toList) = true ∧ tick < xt ∧ b = a) ∨ ((sx.toList == s.toList) = true ∧ xt ≤ tick ∧ 0 ≤ xd ∧ xd ≤ 1099511627776 ∧ xd ≤ b) ∨ ((sx.toList == s.toList) = true ∧ xt ≤ tick ∧ xd < 0) ∨ ((sx.toList == s.toList) = true ∧ xt ≤ tick ∧ 0 ≤ xd ∧ 1099511627776 < xd)) := by
  refine ⟨by rw [hb]; split <;> (try unfold mxI) <;> (try split) <;> omega, ?_⟩
  cases h1 : (sx.toList == s.toList) with
  | false => exact .inl ⟨rfl, by rw [hb, if_neg (by simp [exB, h1])]⟩
  | true =>
    right
    rcases Int.lt_or_le tick xt with h2 | h2
    · exact .inl ⟨rfl, h2, by rw [hb, if_neg (by simp [exB]; intro _ h; omega)]⟩
    · right
      cases h3 : tmB xd with
      | true =>
        obtain ⟨q1, q2⟩ := (tmB_iff xd).1 h3
        refine .inl ⟨rfl, h2, q1, q2, ?_⟩
        rw [hb, if_pos (by simp [exB, h1, h2, h3]), mxI]
        split <;> omega
      | false =>
        right
        rcases (tmB_not xd).1 h3 with q | q
        · exact .inl ⟨rfl, h2, q⟩
        · exact .inr ⟨rfl, h2, by omega, q⟩
theorem late_self {due grace : Int} {l : List (Int × Int)} {b : Int} (hv : vldB due grace l = true) (h0 : 0 ≤ b) (h1 : b ≤ 1099511627776) : lateI due grace l b b = 0 := by
  have hg := (vld_parts hv).1.2
  have ht := (tmB_iff b).2 ⟨h0, h1⟩
  rw [lateI, if_pos ⟨hv, ht, ht⟩, if_neg (by omega)]
theorem late_add {due grace : Int} {l : List (Int × Int)} {a t y : Int} (ha0 : 0 ≤ a) (ht0 : 0 ≤ t) (hy : 0 ≤ y) (ha : a + y ≤ 1099511627776) (ht : t + y ≤ 1099511627776) : lateI due grace l (a + y) (t + y) = lateI due grace l a t := by
  have h1 := (tmB_iff a).2 ⟨ha0, by omega⟩
  have h2 := (tmB_iff t).2 ⟨ht0, by omega⟩
  have h3 := (tmB_iff (a + y)).2 ⟨by omega, ha⟩
  have h4 := (tmB_iff (t + y)).2 ⟨by omega, ht⟩
  rw [lateI, lateI, h1, h2, h3, h4, show t + y - (a + y) = t - a by omega]

/-- The policy's box g and the extension's box g + 1 lie as they lay, and so does all that lay in w1. -/
abbrev PX (w1 : World) (g : Nat) (due grace : Int) (lin : Bool) (A : Option Addr) (n c : Nat) (sx : ByteArray) (xd xt : Int) (W : World) : Prop :=
  (((W.cell? ⟨g, 0, none⟩ = some (.int .i64 due) ∧ W.cell? ⟨g, 1, none⟩ = some (.int .i64 grace)) ∧ (W.cell? ⟨g, 2, none⟩ = some (.bool lin) ∧ W.cell? ⟨g, 3, none⟩ = some (.slice A n c))) ∧ ((W.cell? ⟨g + 1, 0, none⟩ = some (.string sx) ∧ W.cell? ⟨g + 1, 1, none⟩ = some (.int .i64 xd)) ∧ W.cell? ⟨g + 1, 2, none⟩ = some (.int .i64 xt))) ∧ Below w1.heap.size w1 W
section
variable {w1 W W' : World} {g : Nat} {due grace : Int} {lin : Bool} {A : Option Addr} {n c : Nat} {l : List (Int × Int)} {sx : ByteArray} {xd xt : Int} {B : Option Addr} {xs : List Ext}
theorem px_of (h : PX w1 g due grace lin A n c sx xd xt w1) (hb : Below w1.heap.size w1 W) : PX w1 g due grace lin A n c sx xd xt W := by
  have hg : g < w1.heap.size := World.block_lt_of_cell? w1 ⟨g, 0, none⟩ h.1.1.1.1
  have hg' : g + 1 < w1.heap.size := World.block_lt_of_cell? w1 ⟨g + 1, 0, none⟩ h.1.2.1.1
  have hc := bcell hb
  exact ⟨⟨⟨⟨(hc _ _ hg).trans h.1.1.1.1, (hc _ _ hg).trans h.1.1.1.2⟩, (hc _ _ hg).trans h.1.1.2.1, (hc _ _ hg).trans h.1.1.2.2⟩, ⟨(hc _ _ hg').trans h.1.2.1.1, (hc _ _ hg').trans h.1.2.1.2⟩, (hc _ _ hg').trans h.1.2.2⟩, hb⟩
theorem px_call (h0 : Hid (PX w1 g due grace lin A n c sx xd xt w1)) (hb : Below W.heap.size W W') (h : PX w1 g due grace lin A n c sx xd xt W) : PX w1 g due grace lin A n c sx xd xt W' := px_of h0.out (h.2.trans (hb.mono h.2.size))
theorem px_steps (hs : Hid (StepsAt w1 w1.heap.size A l)) (h : PX w1 g due grace lin A n c sx xd xt W) : StepsAt W W.heap.size A l := hs.out.later h.2
theorem px_exts (hs : Hid (ExtsAt w1 w1.heap.size B xs)) (h : PX w1 g due grace lin A n c sx xd xt W) : ExtsAt W W.heap.size B xs := hs.out.later h.2
end

end Go.Proofs.Ytcppijoccolmkaa
