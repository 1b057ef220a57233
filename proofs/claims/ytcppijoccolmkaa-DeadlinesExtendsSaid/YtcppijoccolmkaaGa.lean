/-
  The contract of slices.Clone at extensions.
-/
import Derived.Test.YtcppijoccolmkaaFb
import Derived.Test.YtcppijoccolmkaaW
import Derived.Deep.Onto
import Derived.Lib.SliceRun
namespace Go.Proofs.Ytcppijoccolmkaa
open Go.RowKit

theorem Try.info49 : (Try.prog.info? 49).map (fun i => (i.zero, i.size, i.bytes)) = some (some (.agg #[.string ByteArray.empty, .int .i64 0, .int .i64 0]), 3, 32) := by kernel_rfl

/-- The cells of extensions. -/
def exC : List Ext → List Value
  | [] => []
  | s :: r => .string s.1 :: .int .i64 s.2.1 :: .int .i64 s.2.2 :: exC r
theorem exC_len : ∀ l, (exC l).length = l.length * 3
  | [] => rfl
  | s :: r => by simp [exC, exC_len r]; omega
theorem exC_app : ∀ l l', exC (l ++ l') = exC l ++ exC l'
  | [], _ => rfl
  | s :: r, l' => by simp [exC, exC_app r l']
theorem exC_get : ∀ (l : List Ext) (k : Nat), k < l.length → (exC l)[k * 3]? = some (.string (l.getD k noExt).1) ∧ (exC l)[k * 3 + 1]? = some (.int .i64 (l.getD k noExt).2.1) ∧ (exC l)[k * 3 + 2]? = some (.int .i64 (l.getD k noExt).2.2)
  | [], k, h => by simp at h
  | s :: r, 0, _ => by simp [exC]
  | s :: r, k + 1, h => by
    have := exC_get r k (by simpa using h)
    rw [show (k + 1) * 3 = k * 3 + 1 + 1 + 1 by omega, show (k * 3 + 1 + 1 + 1) + 1 = (k * 3 + 1) + 1 + 1 + 1 by omega, show (k * 3 + 1 + 1 + 1) + 2 = (k * 3 + 2) + 1 + 1 + 1 by omega]
    simpa [exC] using this
theorem exC_one : ∀ (l : List Ext), ∀ u ∈ exC l, u.oneCell' = true
  | [], u, h => by simp [exC] at h
  | s :: r, u, h => by
    simp only [exC, List.mem_cons] at h
    rcases h with rfl | rfl | rfl | h
    · rfl
    · rfl
    · rfl
    · exact exC_one r u h
theorem exC_cells {w : World} {b off : Nat} {l : List Ext} (hc : ∀ k, k < l.length → w.cell? ⟨b, off + k * 3, none⟩ = some (.string (l.getD k noExt).1) ∧ w.cell? ⟨b, off + k * 3 + 1, none⟩ = some (.int .i64 (l.getD k noExt).2.1) ∧ w.cell? ⟨b, off + k * 3 + 2, none⟩ = some (.int .i64 (l.getD k noExt).2.2)) :
    ∀ j u, (exC l)[j]? = some u → w.cell? ((⟨b, off, none⟩ : Addr).add j) = some u := fun j u hj => by
  have hjl : j < l.length * 3 := by
    have := (List.getElem?_eq_some_iff.1 hj).1
    rw [exC_len] at this; exact this
  rw [WideShapes.add_plain]
  have hk : j / 3 < l.length := by omega
  have hm : j % 3 = 0 ∨ j % 3 = 1 ∨ j % 3 = 2 := by omega
  rcases hm with h | h | h
  · have e : j = j / 3 * 3 := by omega
    rw [e] at hj ⊢
    rw [(exC_get l _ hk).1] at hj
    rw [(hc _ hk).1]; exact hj
  · have e : j = j / 3 * 3 + 1 := by omega
    rw [e] at hj ⊢
    rw [(exC_get l _ hk).2.1] at hj
    rw [← Nat.add_assoc, (hc _ hk).2.1]; exact hj
  · have e : j = j / 3 * 3 + 2 := by omega
    rw [e] at hj ⊢
    rw [(exC_get l _ hk).2.2] at hj
    rw [← Nat.add_assoc, (hc _ hk).2.2]; exact hj
theorem exts_of_own {w : World} {base : Nat} {v : Value} {l : List Ext} (h : w.ownsRow base 49 3 v l.length (exC l)) : ∃ (A : Option Addr) (c : Nat), v = .slice A l.length c ∧ ExtsAt w w.heap.size A l := by
  obtain ⟨hlen, ⟨rfl, h0⟩ | ⟨g, cap, cur, rfl, hb, hg, hle, hm, hs, ht⟩⟩ := h
  · exact ⟨none, 0, by rw [h0], fun hn => by omega⟩
  · refine ⟨_, cap, rfl, fun hn => ⟨g, 0, rfl, (Array.getElem?_eq_some_iff.1 hg).1, fun k hk => ?_⟩⟩
    have hc := World.ownsRow.cellAt (w := w) (base := base) (e := 49) (size := 3) (g := g) (n := l.length) (cap := cap) (xs := exC l) ⟨hlen, .inr ⟨g, cap, cur, rfl, hb, hg, hle, hm, hs, ht⟩⟩
    rw [Nat.zero_add, hc _ (by omega), hc _ (by omega), hc _ (by omega)]
    exact exC_get l k hk

/-- What Clone returns. -/
def CloneP (l : List Ext) (w : World) (e : Ending) (w' : World) : Prop :=
  ∃ v, e = .returned v ∧ w'.ownsRow w.heap.size 49 3 v l.length (exC l) ∧ Below w.heap.size w w'

set_option maxHeartbeats 1000000 in
theorem Clone_any (A : Option Addr) (c : Nat) (l : List Ext) (w : World) (hs : ExtsAt w w.heap.size A l) (hl : l.length ≤ 30) :
    Calls Try.prog 23 #[.slice A l.length c] w (CloneP l w) := by
  obtain ⟨i0, hi, hz0, hz1, hz2⟩ := info_parts Try.info49
  have hnil := fun (W : World) => Lib.run_eql_slice_nil (P := Try.prog) W 39 49 A l.length c 0 0 Try.underlying39
  have hown : (w.alloc (.cells #[] 49)).ownsRow w.heap.size 49 3 (.slice (some ⟨w.heap.size, 0, none⟩) 0 0) 0 [] := by
    have := World.ownsRow_lit (base := w.heap.size) (e := 49) (size := 3) w #[] 0 (Nat.le_refl _) (by decide) rfl
    simpa using this
  have HO := Lib.hid hown
  clear hown
  cases A with
  | none =>
    have h0 : l.length = 0 := by
      rcases Nat.eq_zero_or_pos l.length with h | h
      · exact h
      · obtain ⟨_, _, e, _⟩ := hs h; cases e
    have hl' : exC l = [] := by rw [List.eq_nil_of_length_eq_zero h0]; rfl
    have H0 := Lib.hid h0
    have HL := Lib.hid hl'
    have hb : (none : Option Addr).isNone = true := rfl
    clear h0 hl' hs
    go_enter Try.func23, Try.ntmps23
    go_wp2_with fail
    go_ret
    exact ⟨_, rfl, by rw [H0.out, HL.out]; exact World.ownsRow_nil _ _ _ _, Below.refl _ _⟩
  | some a =>
    have hb : (some a : Option Addr).isNone = false := rfl
    rcases Nat.eq_zero_or_pos l.length with h0 | h0
    · have hl' : exC l = [] := by rw [List.eq_nil_of_length_eq_zero h0]; rfl
      have hrun : (Builtin.append_ #[39, 39] 39 #[.slice (some ⟨w.heap.size, 0, none⟩) 0 0, .slice (some a) l.length c]).run Try.prog (w.alloc (.cells #[] 49)) = .ok (.slice (some ⟨w.heap.size, 0, none⟩) 0 0) (w.alloc (.cells #[] 49)) := by
        rw [h0]
        exact run_append_room_src (w.alloc (.cells #[] 49)) 39 39 39 49 i0 Try.underlying39 hi w.heap.size 0 0 0 (.slice (some a) 0 c) 0 [] (Src.ofSlice (w.alloc (.cells #[] 49)) Try.underlying39 a 0 c [] (by simp) (fun j u hj => by simp at hj) (fun u hu => by simp at hu)) (Nat.le_refl _) (fun j hj => by simp at hj) (fun j hj => by simp at hj)
      have HR := Lib.hid hrun
      have H0 := Lib.hid h0
      have HL := Lib.hid hl'
      clear h0 hl' hs hrun
      go_enter Try.func23, Try.ntmps23
      go_wp2_with (at_builtin; refine wpList_append_run rfl _ _ 39 rfl _ _ _ _ rfl rfl 39 rfl HR.out ?_)
      go_wp2_with fail
      go_ret
      exact ⟨_, rfl, by rw [H0.out, HL.out]; exact HO.out, (Below.refl _ w).alloc (Nat.le_refl _) _⟩
    · obtain ⟨b, off, he, hbl, hc⟩ := hs h0
      cases he
      have hnews : ∀ j u, (exC l)[j]? = some u → (w.alloc (.cells #[] 49)).cell? ((⟨b, off, none⟩ : Addr).add j) = some u := exC_cells fun k hk => by
        rw [World.cell?_alloc_lt _ _ _ hbl, World.cell?_alloc_lt _ _ _ hbl, World.cell?_alloc_lt _ _ _ hbl]; exact hc k hk
      have HN := Lib.hid hnews
      have hc4 : 0 + l.length ≤ maxLen := by unfold maxLen; omega
      have hc5 : (0 + l.length) * 32 ≤ 140737488355328 := by omega
      have hbase : w.heap.size ≤ (w.alloc (.cells #[] 49)).heap.size := by simp
      have HBs := Lib.hid hbase
      clear hc hnews hs hbase
      go_enter Try.func23, Try.ntmps23
      go_wp2_with (at_builtin; refine wpList_append_lies _ rfl _ _ 39 rfl w.heap.size 49 i0 (.agg #[.string ByteArray.empty, .int .i64 0, .int .i64 0]) 3 32 Try.underlying39 hi hz0 hz1 hz2 rfl (by decide) _ _ _ rfl HO.out ⟨b, off, none⟩ l.length c (exC l) rfl (exC_len l) HN.out (exC_one l) h0 hc4 hc5 HBs.out (w.heap.size + 1) (World.size_alloc _ _) ?_)
      intro g cap w2 hown2 hgrow _ hg
      have R2 : Below w.heap.size w w2 := ((Below.refl _ w).alloc (Nat.le_refl _) _).grown hgrow HBs.out (fun j hj => (HO.out.lt j hj).1)
      have HR := Lib.hid R2
      have HO2 := Lib.hid hown2
      clear hown2 hgrow R2
      go_wp2_with fail
      go_ret
      have ho := HO2.out
      exact ⟨_, rfl, ho, HR.out⟩

end Go.Proofs.Ytcppijoccolmkaa
