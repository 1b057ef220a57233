/-
  Extensions that come in as arguments, opened to their cells.
-/
import Derived.Test.YtcppijoccolmkaaW
import Derived.Test.YtcppijoccolmkaaP
import Derived.Deep.Strs
namespace Go.Proofs.Ytcppijoccolmkaa
open Go.ChangeShapes Go.WideShapes Go.ChangeAt Go.RowKit Go.Joins Go.Deep

theorem ext_cells : Try.prog.cellsOf 49 = 3 := by kernel_rfl
theorem str_cells : Try.prog.cellsOf 9 = 1 := by kernel_rfl
theorem int_cells : Try.prog.cellsOf 3 = 1 := by kernel_rfl

theorem open_exts {H : Type} {enc : TypeId × Value → H} {w : World} {base : Nat} {spare : Nat → Bool} {held : Bool} {r : Reach} {b0 : Nat} {v : Value} {d : DataW H} {p : List MemPlace}
    (hv : Value.okWide Try.prog w r b0 39 v) (h : DataW.Trod enc Try.prog w base spare held 39 v d p) :
    ∃ (A : Option Addr) (c : Nat) (l : List Ext), v = .slice A l.length c ∧ ExtsAt w w.heap.size A l ∧ l.length ≤ 9223372036854775807 ∧ ∀ x ∈ l, x.1.size ≤ 9223372036854775807 := by
  obtain ⟨a0, len, cap, rfl⟩ := okWide_slice Try.underlying39 hv
  obtain ⟨fuel, hf⟩ := h
  rcases open_slice Try.underlying39 hf with ⟨hcs, _⟩ | ⟨a, len', cap', m, n, D, Pl, hcs, _, hl, hm, hmm, _, hx⟩
  · simp only [Value.cells, List.cons.injEq, and_true, Value.slice.injEq] at hcs
    obtain ⟨rfl, rfl, rfl⟩ := hcs
    exact ⟨none, 0, [], rfl, fun hn => absurd hn (by simp), by simp, by simp⟩
  · simp only [Value.cells, List.cons.injEq, and_true, Value.slice.injEq] at hcs
    obtain ⟨rfl, rfl, rfl⟩ := hcs
    unfold maxLen at hm
    have hml : len ≤ m := by rw [hmm]; split <;> omega
    rw [ext_cells] at hx
    have hc : ∀ i, ∃ x : Ext, (i < len → w.cell? (a.add (i * 3)) = some (.string x.1) ∧ w.cell? (a.add (i * 3 + 1)) = some (.int .i64 x.2.1) ∧ w.cell? (a.add (i * 3 + 2)) = some (.int .i64 x.2.2)) ∧ x.1.size ≤ 9223372036854775807 := fun i => by
      by_cases hi : i < len
      · obtain ⟨cs', hcc, ht⟩ := hx i (by omega)
        obtain ⟨_, hlen, hat⟩ := World.cells?_some hcc
        obtain ⟨y0, y1, y2, n', _, _, h0, h1, h2⟩ := trod_struct3 Try.underlying49 ht
        match cs', hlen with
        | [u0, u1, u2], _ =>
          simp only [str_cells, int_cells, List.drop_zero, List.drop_succ_cons, List.take_succ_cons, List.take_zero] at h0 h1 h2
          obtain ⟨s0, e0, _, hs0⟩ := DataW.trod_string Try.underlying9 h0
          obtain ⟨x1, e1, _, _⟩ := DataW.trod_int Try.underlying3 h1
          obtain ⟨x2, e2, _, _⟩ := DataW.trod_int Try.underlying3 h2
          simp only [List.cons.injEq, and_true] at e0 e1 e2
          have q0 := hat 0 (by omega)
          have q1 := hat 1 (by omega)
          have q2 := hat 2 (by omega)
          rw [Go.Deep.add_add] at q0 q1 q2
          unfold maxLen at hs0
          exact ⟨(s0, x1, x2), fun _ => ⟨by rw [← e0]; exact q0, by rw [← e1]; exact q1, by rw [← e2]; exact q2⟩, hs0⟩
      · exact ⟨noExt, fun h => absurd h hi, by simp⟩
    obtain ⟨f, hf⟩ := Classical.axiomOfChoice hc
    obtain ⟨ab, aoff, asp⟩ := a
    refine ⟨some ⟨ab, aoff, asp⟩, cap, (List.range len).map f, by simp, fun hn => ?_, by simp; omega, fun x hx => ?_⟩
    · simp only [List.length_map, List.length_range] at hn
      have hs : asp = none := by simpa [Addr.add] using World.cell?_spot ((hf 0).1 hn).1
      subst hs
      refine ⟨ab, aoff, rfl, World.block_lt_of_cell? w _ ((hf 0).1 hn).1, fun k hk => ?_⟩
      simp only [List.length_map, List.length_range] at hk
      have e : ((List.range len).map f).getD k noExt = f k := by simp [List.getD_eq_getElem?_getD, hk]
      rw [e]
      have := (hf k).1 hk
      rw [add_plain, add_plain, add_plain, ← Nat.add_assoc, ← Nat.add_assoc] at this
      exact this
    · simp only [List.mem_map] at hx
      obtain ⟨i, _, rfl⟩ := hx
      exact (hf i).2

theorem open_ext {H : Type} {enc : TypeId × Value → H} {w : World} {base : Nat} {spare : Nat → Bool} {held : Bool} {r : Reach} {b0 : Nat} {v : Value} {d : DataW H} {p : List MemPlace}
    (hv : Value.okWide Try.prog w r b0 49 v) (h : DataW.Trod enc Try.prog w base spare held 49 v d p) :
    ∃ (s : ByteArray) (xd xt : Int), v = .agg #[.string s, .int .i64 xd, .int .i64 xt] ∧ s.size ≤ 9223372036854775807 := by
  obtain ⟨v0, v1, v2, y0, y1, y2, n, rfl, _, _, h0, h1, h2⟩ := open_agg3 Try.underlying49 (by kernel_rfl) ext_cells hv h
  obtain ⟨s0, e0, _, hs0⟩ := DataW.trod_string Try.underlying9 h0
  obtain ⟨x1, e1, _, _⟩ := DataW.trod_int Try.underlying3 h1
  obtain ⟨x2, e2, _, _⟩ := DataW.trod_int Try.underlying3 h2
  simp only [List.cons.injEq, and_true] at e0 e1 e2
  unfold maxLen at hs0
  exact ⟨s0, x1, x2, by rw [e0, e1, e2], hs0⟩

end Go.Proofs.Ytcppijoccolmkaa
