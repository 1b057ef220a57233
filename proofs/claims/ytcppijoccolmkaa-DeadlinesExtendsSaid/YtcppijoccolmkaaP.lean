/-
  A policy that comes in as an argument, opened to its cells.
-/
import Derived.Test.YtcppijoccolmkaaA
import Derived.Deep.SlicePairs
import Derived.Lib.SmallJoins
import Derived.ProofKit
namespace Go.Proofs.Ytcppijoccolmkaa
open Go.ChangeShapes Go.WideShapes Go.ChangeAt Go.RowKit Go.Joins Go.Deep

theorem open_pol {H : Type} {enc : TypeId × Value → H} {w : World} {base : Nat} {spare : Nat → Bool} {held : Bool} {r : Reach} {b0 : Nat} {v : Value} {d : DataW H} {p : List MemPlace}
    (hv : Value.okWide Try.prog w r b0 24 v) (h : DataW.Trod enc Try.prog w base spare held 24 v d p) :
    ∃ (due grace : Int) (lin : Bool) (A : Option Addr) (c : Nat) (l : List (Int × Int)), v = .agg #[.int .i64 due, .int .i64 grace, .bool lin, .slice A l.length c] ∧ StepsAt w w.heap.size A l ∧ l.length ≤ 9223372036854775807 := by
  obtain ⟨v0, v1, v2, v3, y0, y1, y2, y3, n, rfl, _, _, h0, h1, h2, h3⟩ := open_agg4 Try.underlying24 (by kernel_rfl) (by kernel_rfl) hv h
  obtain ⟨a0, e0, _, _⟩ := DataW.trod_int Try.underlying3 h0
  obtain ⟨a1, e1, _, _⟩ := DataW.trod_int Try.underlying3 h1
  obtain ⟨b, e2, _⟩ := DataW.trod_bool Try.underlying4 h2
  simp only [List.cons.injEq, and_true] at e0 e1 e2
  subst e0 e1 e2
  rcases open_slice_pairs Try.underlying22 Try.underlying34 (by kernel_rfl) rfl rfl (by kernel_rfl) (by kernel_rfl) h3 with ⟨e3, _⟩ | ⟨a, len, cap, m, n', V0, V1, D0, D1, P0, P1, e3, _, hl, hm, hmm, _, hc⟩
  · simp only [List.cons.injEq, and_true] at e3
    subst e3
    exact ⟨a0, a1, b, none, 0, [], rfl, fun hn => absurd hn (by simp), by simp⟩
  · simp only [List.cons.injEq, and_true] at e3
    subst e3
    unfold maxLen at hm
    have hml : len ≤ m := by rw [hmm]; split <;> omega
    have hx : ∀ i, ∃ x : Int × Int, i < len → w.cell? (a.add (i * 2)) = some (.int .i64 x.1) ∧ w.cell? (a.add (i * 2 + 1)) = some (.int .i64 x.2) := fun i => by
      by_cases hi : i < len
      · obtain ⟨c0, c1, t0, t1⟩ := hc i (by omega)
        obtain ⟨x0, e0, _, _⟩ := DataW.trod_int Try.underlying3 t0
        obtain ⟨x1, e1, _, _⟩ := DataW.trod_int Try.underlying3 t1
        simp only [List.cons.injEq, and_true] at e0 e1
        exact ⟨(x0, x1), fun _ => ⟨by rw [c0, e0], by rw [c1, e1]⟩⟩
      · exact ⟨(0, 0), fun h => absurd h hi⟩
    obtain ⟨f, hf⟩ := Classical.axiomOfChoice hx
    obtain ⟨ab, aoff, asp⟩ := a
    refine ⟨a0, a1, b, some ⟨ab, aoff, asp⟩, cap, (List.range len).map f, by simp, fun hn => ?_, by simp; omega⟩
    simp only [List.length_map, List.length_range] at hn
    have hs : asp = none := by simpa [Addr.add] using World.cell?_spot (hf 0 hn).1
    subst hs
    refine ⟨ab, aoff, rfl, World.block_lt_of_cell? w _ (hf 0 hn).1, fun k hk => ?_⟩
    simp only [List.length_map, List.length_range] at hk
    have e : ((List.range len).map f).getD k (0, 0) = f k := by simp [List.getD_eq_getElem?_getD, hk]
    rw [e]
    have := hf k hk
    rw [add_plain, add_plain, ← Nat.add_assoc] at this
    exact this

end Go.Proofs.Ytcppijoccolmkaa
