/-
  Small laws for the walks of the statements.
-/
import Derived.Test.YtcppijoccolmkaaK
import Derived.Deep.RegionHeld3
import Derived.RegionTactic
import Derived.StillTailTactics
import Derived.Deep.DeepCutAuto
import Derived.Deep.Light
namespace Go.Proofs.Ytcppijoccolmkaa
open Go.RowKit

/-- What Factor returns. -/
def facF (due grace : Int) (lin : Bool) (l : List (Int × Int)) (t : Int) : Int × Int := if vldB due grace l = true ∧ tmB t = true then fr (fac lin l t) 10000 else (0, 0)
theorem Factor_any (due grace : Int) (lin : Bool) (A : Option Addr) (c : Nat) (l : List (Int × Int)) (t : Int) (w : World)
    (hs : StepsAt w w.heap.size A l) (hl : l.length ≤ 9223372036854775807) :
    Calls Try.prog 11 #[.agg #[.int .i64 due, .int .i64 grace, .bool lin, .slice A l.length c], .int .i64 t] w fun e w' => e = .returned (.agg #[.int .i64 (facF due grace lin l t).1, .int .i64 (facF due grace lin l t).2]) ∧ Below w.heap.size w w' := by
  by_cases h : vldB due grace l = true ∧ tmB t = true
  · rw [facF, if_pos h]
    exact Factor_yes due grace lin A c l t w hs h.1 ((tmB_iff t).1 h.2).1 ((tmB_iff t).1 h.2).2
  · rw [facF, if_neg h]
    refine Factor_no due grace lin A c l t w hs hl ?_
    by_cases hv : vldB due grace l = true
    · exact .inr (by rw [← Bool.not_eq_true]; exact fun ht => h ⟨hv, ht⟩)
    · exact .inl (by rw [← Bool.not_eq_true]; exact hv)

/-- The policy's box g lies as it lay, and so does all that lay in w1. -/
abbrev PS (w1 : World) (g : Nat) (due grace : Int) (lin : Bool) (A : Option Addr) (n c : Nat) (W : World) : Prop :=
  ((W.cell? ⟨g, 0, none⟩ = some (.int .i64 due) ∧ W.cell? ⟨g, 1, none⟩ = some (.int .i64 grace)) ∧ (W.cell? ⟨g, 2, none⟩ = some (.bool lin) ∧ W.cell? ⟨g, 3, none⟩ = some (.slice A n c))) ∧ Below w1.heap.size w1 W
section
variable {w1 W W' : World} {g : Nat} {due grace : Int} {lin : Bool} {A : Option Addr} {n c : Nat} {l : List (Int × Int)}
theorem ps_lt (h : PS w1 g due grace lin A n c w1) : g < w1.heap.size := World.block_lt_of_cell? w1 ⟨g, 0, none⟩ h.1.1.1
theorem ps_of (h : PS w1 g due grace lin A n c w1) (hb : Below w1.heap.size w1 W) : PS w1 g due grace lin A n c W := by
  have hg := ps_lt h
  have hc := bcell hb
  exact ⟨⟨⟨(hc _ _ hg).trans h.1.1.1, (hc _ _ hg).trans h.1.1.2⟩, (hc _ _ hg).trans h.1.2.1, (hc _ _ hg).trans h.1.2.2⟩, hb⟩
theorem ps_call (h0 : Hid (PS w1 g due grace lin A n c w1)) (hb : Below W.heap.size W W') (h : PS w1 g due grace lin A n c W) : PS w1 g due grace lin A n c W' := ps_of h0.out (h.2.trans (hb.mono h.2.size))
theorem ps_steps (hs : Hid (StepsAt w1 w1.heap.size A l)) (h : PS w1 g due grace lin A n c W) : StepsAt W W.heap.size A l := hs.out.later h.2
end

theorem cs_same {w : World} {b o : Nat} {v : Value} (h : (w.cell? ⟨b, o, none⟩).isSome = true) : (w.setCell ⟨b, o, none⟩ v).cell? ⟨b, o, none⟩ = some v := World.cell?_setCell_same' w _ v h
theorem cs_far {w : World} {b o b' o' : Nat} {v : Value} (h : b ≠ b' ∨ o ≠ o') : (w.setCell ⟨b, o, none⟩ v).cell? ⟨b', o', none⟩ = w.cell? ⟨b', o', none⟩ := World.cell?_setCell_other _ _ _ _ (by rcases h with h | h <;> simp [h])

theorem ca_new {w : World} {c : Array Value} {t : TypeId} {n i : Nat} {v : Value} (hn : n = w.heap.size) (hv : c[i]? = some v) : (w.alloc (.cells c t)).cell? ⟨n, i, none⟩ = some v := by
  subst hn; rw [World.cell?_alloc_new]; exact hv

/-- A fraction lies in a box. -/
def FrAt (wx : World) (B : Nat) (s : Value) (x : Int × Int) : Prop :=
  ∃ g : Nat, s = .pointer (some ⟨g, 0, none⟩) ∧ B ≤ g ∧ wx.cell? ⟨g, 0, none⟩ = some (.int .i64 x.1) ∧ wx.cell? ⟨g, 1, none⟩ = some (.int .i64 x.2)

theorem frOk_fac {lin : Bool} {l : List (Int × Int)} {t : Int} (h : okTo l l.length = true) (ht : 0 ≤ t) : FrOk (fr (fac lin l t) 10000).1 (fr (fac lin l t) 10000).2 := by
  have r := fac_rng (lin := lin) h ht
  exact frOk_div _ _ r.1 r.2 (by omega) (by omega)
theorem frOk_one : FrOk 1 1 := ⟨by omega, by omega, by omega, by omega, by decide⟩
theorem frOk_zero : FrOk 0 1 := ⟨by omega, by omega, by omega, by omega, by decide⟩
theorem fr_one : fr 10000 10000 = (1, 1) := by decide
theorem fr_le_one {n d : Int} (hd : 1 ≤ d) (h : n ≤ d) : (fr n d).1 ≤ (fr n d).2 := by
  have := (fr_le 1 n 1 d (by omega) hd).1 (by omega)
  have e : fr 1 1 = (1, 1) := by decide
  rw [e] at this
  simpa using this
/-- What the three comparisons of the law say. -/
theorem falls_facts {lin : Bool} {l : List (Int × Int)} {a b : Int} (h : okTo l l.length = true) (ha : 0 ≤ a) (hab : a ≤ b) :
    0 ≤ cmpI ((fr (fac lin l a) 10000).1 * (fr (fac lin l b) 10000).2) ((fr (fac lin l b) 10000).1 * (fr (fac lin l a) 10000).2) ∧ cmpI ((fr (fac lin l a) 10000).1 * 1) (1 * (fr (fac lin l a) 10000).2) ≤ 0 ∧ 0 ≤ cmpI ((fr (fac lin l b) 10000).1 * 1) (0 * (fr (fac lin l b) 10000).2) := by
  have ra := fac_rng (lin := lin) h ha
  have hanti := fac_anti (lin := lin) h ha hab
  refine ⟨cmpI_ge.2 ((fr_le _ _ _ _ (by omega) (by omega)).1 (Int.mul_le_mul_of_nonneg_right hanti (by omega))), cmpI_le.2 ?_, cmpI_ge.2 ?_⟩
  · have := fr_le_one (n := fac lin l a) (d := 10000) (by omega) ra.2
    omega
  · have := (frOk_fac (lin := lin) (t := b) h (by omega)).n0
    omega

end Go.Proofs.Ytcppijoccolmkaa
