/-
  A slice of integers that comes in as an argument, opened to its cells.
-/
import Derived.Test.YtcppijoccolmkaaU
import Derived.Test.YtcppijoccolmkaaP
namespace Go.Proofs.Ytcppijoccolmkaa
open Go.ChangeShapes Go.WideShapes Go.ChangeAt Go.RowKit Go.Joins Go.Deep

theorem open_ints_at {H : Type} {enc : TypeId × Value → H} {w : World} {base : Nat} {spare : Nat → Bool} {held : Bool} {r : Reach} {b0 : Nat} {v : Value} {d : DataW H} {p : List MemPlace}
    (hv : Value.okWide Try.prog w r b0 44 v) (h : DataW.Trod enc Try.prog w base spare held 44 v d p) :
    ∃ (A : Option Addr) (c : Nat) (l : List Int), v = .slice A l.length c ∧ IntsAt w w.heap.size A l ∧ l.length ≤ 9223372036854775807 := by
  obtain ⟨a0, len, cap, rfl⟩ := okWide_slice Try.underlying44 hv
  obtain ⟨fuel, hf⟩ := h
  rcases open_slice1 Try.underlying44 (by kernel_rfl) hf with ⟨hcs, _⟩ | ⟨a, len', cap', m, n, V, D, Pl, hcs, _, hl, hm, hmm, _, hx⟩
  · simp only [Value.cells, List.cons.injEq, and_true, Value.slice.injEq] at hcs
    obtain ⟨rfl, rfl, rfl⟩ := hcs
    exact ⟨none, 0, [], rfl, fun hn => absurd hn (by simp), by simp⟩
  · simp only [Value.cells, List.cons.injEq, and_true, Value.slice.injEq] at hcs
    obtain ⟨rfl, rfl, rfl⟩ := hcs
    unfold maxLen at hm
    have hml : len ≤ m := by rw [hmm]; split <;> omega
    have hc : ∀ i, ∃ x : Int, i < len → w.cell? (a.add i) = some (.int .i64 x) := fun i => by
      by_cases hi : i < len
      · obtain ⟨c0, t0⟩ := hx i (by omega)
        obtain ⟨x0, e0, _, _⟩ := DataW.trod_int Try.underlying3 t0
        simp only [List.cons.injEq, and_true] at e0
        exact ⟨x0, fun _ => by rw [c0, e0]⟩
      · exact ⟨0, fun h => absurd h hi⟩
    obtain ⟨f, hf⟩ := Classical.axiomOfChoice hc
    obtain ⟨ab, aoff, asp⟩ := a
    refine ⟨some ⟨ab, aoff, asp⟩, cap, (List.range len).map f, by simp, fun hn => ?_, by simp; omega⟩
    simp only [List.length_map, List.length_range] at hn
    have hs : asp = none := by simpa [Addr.add] using World.cell?_spot (hf 0 hn)
    subst hs
    refine ⟨ab, aoff, rfl, World.block_lt_of_cell? w _ (hf 0 hn), fun k hk => ?_⟩
    simp only [List.length_map, List.length_range] at hk
    have e : ((List.range len).map f).getD k 0 = f k := by simp [List.getD_eq_getElem?_getD, hk]
    rw [e]
    have := hf k hk
    rw [add_plain] at this
    exact this

end Go.Proofs.Ytcppijoccolmkaa
