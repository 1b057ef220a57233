/-
  The contracts of deadlines.knots and its iterator.
-/
import Derived.Test.YtcppijoccolmkaaD
import Derived.Test.YtcppijoccolmkaaR
namespace Go.Proofs.Ytcppijoccolmkaa
open Go.RowKit Go.Shelf

attribute [local go_sem] Oper.semAt_some

/-- The knots of a policy. -/
def kn (l : List (Int × Int)) : List (Int × Int) := if l.length = 0 ∨ (l.getD 0 (0, 0)).1 ≠ 0 then (0, 100) :: l else l
/-- A step as yield takes it. -/
abbrev stepV (s : Int × Int) : Array Value := #[.agg #[.int .i64 s.1, .int .i64 s.2]]

/-- What a round of the loop over the knots keeps. -/
def Kk (n₀ Bp : Nat) (W W' : World) : Prop := Below n₀ W W' ∧ (Bp < W.heap.size → W'.heap[Bp]? = W.heap[Bp]?)

theorem take_snoc {l : List (Int × Int)} {k : Nat} (h : k < l.length) : l.take (k + 1) = l.take k ++ [l.getD k (0, 0)] := by
  rw [List.take_succ_eq_append_getElem h, List.getD_eq_getElem?_getD, List.getElem?_eq_getElem h]; rfl
theorem drop_cons {l : List (Int × Int)} {k : Nat} (h : k < l.length) : l.drop k = l.getD k (0, 0) :: l.drop (k + 1) := by
  rw [List.drop_eq_getElem_cons h, List.getD_eq_getElem?_getD, List.getElem?_eq_getElem h]; rfl

theorem pre_ok {l pre : List (Int × Int)} {k : Nat} (h : k < l.length) : (pre ++ l.take k ++ [l.getD k (0, 0)]) ++ l.drop (k + 1) = pre ++ l := by
  rw [List.append_assoc, List.append_assoc, List.singleton_append, ← drop_cons h, List.take_append_drop]
theorem pre_cons {l pre : List (Int × Int)} {k : Nat} (h : k < l.length) : pre ++ l = (pre ++ l.take k) ++ l.getD k (0, 0) :: l.drop (k + 1) := by
  rw [List.append_assoc, ← drop_cons h, List.take_append_drop]

set_option maxRecDepth 100000 in
set_option maxHeartbeats 1000000 in
theorem knots1_in (F : Fence) (n : Nat) (h49 : F.fn 49) (hro : F.round = none) (hn : 1 ≤ n) (Bp n₀ : Nat) (due grace : Int) (lin : Bool) (A : Option Addr) (c : Nat) (l : List (Int × Int)) (hl : l.length ≤ 16)
    (w : World) (hBp : w.heap[Bp]? = some (polObj due grace lin A l.length c)) (hs : StepsAt w n₀ A l) (hn₀ : n₀ ≤ w.heap.size) :
    Yields F n Try.prog 49 #[.pointer (some ⟨Bp, 0, none⟩)] stepV (Kk n₀ Bp) (kn l) w := fun li J Jx W hW hJ hJx hY h0 => by
  have hBlt : Bp < w.heap.size := (Array.getElem?_eq_some_iff.1 hBp).1
  have hP : W.heap[Bp]? = some (polObj due grace lin A l.length c) := (hW.block Bp hBlt).trans hBp
  have hS : StepsAt W n₀ A l := hs.below (hW.mono hn₀)
  have hz : w.heap.size ≤ W.heap.size := hW.size
  have cp : W.cell? ⟨Bp, 3, none⟩ = some (.slice A l.length c) := by simp [World.cell?, hP]
  have HP := Lib.hid hP
  clear hP
  by_cases hl0 : l.length = 0
  · have hkn : kn l = (0, 100) :: l := by rw [kn, if_pos (.inl hl0)]
    have hq : ((l.length : Int) == 0) = true := beq_iff_eq.2 (by omega)
    have HL0 := Lib.hid hl0
    clear hl0
    refine callsIn_of_wp Try.func49 rfl h49 ?_ hro
    simp only [Try.ntmps49, List.size_toArray, List.length_cons, List.length_nil, Nat.reduceAdd, Nat.reduceSub, Array.replicate_succ, Array.replicate_zero, List.push_toArray, List.append_toArray, List.nil_append, List.cons_append]
    have hxs0 : kn l = [] ++ (0, 100) :: l := hkn
    obtain ⟨fn, tmps, assign, body, hy, hR⟩ := hY _ _ _ _ hxs0 h0
    have HR := Lib.hid hR
    have HN0 := Lib.hid hkn
    have HS0 := Lib.hid hS
    clear hR hxs0 hkn
    gi_wp2
    refine HR.out.mono ?_
    rintro e W3 (⟨rfl, hJ3, hk3⟩ | ⟨rfl, hJx3⟩)
    · have hP3 : W3.heap[Bp]? = some (polObj due grace lin A l.length c) := (hk3.2 (by omega)).trans HP.out
      have cp3 : W3.cell? ⟨Bp, 3, none⟩ = some (.slice A l.length c) := by simp [World.cell?, hP3]
      have hS3 := HS0.out.below hk3.1
      have hz3 := hk3.1.size
      have HS3 := Lib.hid hS3
      clear hP3 hS3
      gi_wp2
      have hkn := HN0.out
      gi_loopw [24] (fun i wr => ∃ k : Nat, k ≤ l.length ∧ i = .int .i64 k ∧ J ([(0, 100)] ++ l.take k) wr ∧ StepsAt wr n₀ A l ∧ n₀ ≤ wr.heap.size) (fun i _ => l.length - (intOf i).toNat)
      case atStart => exact ⟨0, Nat.zero_le _, rfl, by simpa using hJ3, HS3.out, by omega⟩
      case round =>
        obtain ⟨k, hk, rfl, hJs, hSk, hzk⟩ := hrel
        by_cases hlt : k < l.length
        · obtain ⟨b, off, rfl, hbl, hc⟩ := hSk (by omega)
          obtain ⟨c0, c1⟩ := hc k hlt
          have hbz : b < wr.heap.size := by omega
          have hJ' : J ([(0, 100)] ++ l.take k) (wr.alloc (.cells #[.int .i64 (l.getD k (0, 0)).1, .int .i64 (l.getD k (0, 0)).2] 34)) := hJ _ wr _ none hJs (World.grownBy_alloc wr _ none) (fun r e => by cases e)
          have hxs : kn l = ([(0, 100)] ++ l.take k) ++ l.getD k (0, 0) :: l.drop (k + 1) := hkn.trans (pre_cons (pre := [(0, 100)]) hlt)
          obtain ⟨fn, tmps, assign, body, hy, hR⟩ := hY _ _ _ _ hxs hJ'
          have hta := take_snoc hlt
          obtain ⟨x, hx⟩ : ∃ x, x = l.getD k (0, 0) := ⟨_, rfl⟩
          rw [← hx] at c0 c1 hJ' hxs hta hy hR
          have HX := Lib.hid hx
          have HC := Lib.hid hc
          have HR := Lib.hid hR
          have HT := Lib.hid hta
          have HN := Lib.hid hkn
          have HS := Lib.hid hSk
          clear hx hc hR hxs hta hkn hSk
          obtain ⟨x1, x2⟩ := x
          dsimp only at c0 c1 hy
          gi_wp2
          refine HR.out.mono ?_
          rintro e W3 (⟨rfl, hJ3, hk3⟩ | ⟨rfl, hJx3⟩)
          · gi_wp2
            go_roundw
            case rel => exact ⟨k + 1, by omega, by go_num, by rw [HT.out, ← List.append_assoc]; exact hJ3, HS.out.below ((((Below.refl n₀ wr).alloc hzk _)).trans hk3.1), by have := hk3.1.size; simp at this; omega⟩
            case measure => simp [intOf]; omega
          · gi_wp2
            refine bodyPost_ret (results_none rfl _ _ _) rfl ?_
            exact ⟨⟨_, rfl⟩, .inr ⟨_, ⟨l.drop (k + 1), by rw [HX.out]; exact (pre_ok hlt).trans HN.out.symm⟩, hJx3⟩⟩
        · obtain rfl : k = l.length := by omega
          gi_wp2
          go_end0
          exact ⟨⟨_, rfl⟩, .inl (by rw [hkn]; simpa using hJs)⟩
    · gi_wp2
      refine bodyPost_ret (results_none rfl _ _ _) rfl ?_
      exact ⟨⟨_, rfl⟩, .inr ⟨_, ⟨l, by rw [HN0.out]; rfl⟩, hJx3⟩⟩
  · have hq : ((l.length : Int) == 0) = false := beq_eq_false_iff_ne.2 (by omega)
    obtain ⟨b, off, rfl, hbl, hc⟩ := hS (by omega)
    have c0 := (hc 0 (by omega)).1
    have hpos : 0 < l.length := by omega
    have hbW : b < W.heap.size := by omega
    obtain ⟨x0, hx0⟩ : ∃ x, x = (l.getD 0 (0, 0)).1 := ⟨_, rfl⟩
    rw [← hx0, Nat.zero_mul, Nat.add_zero] at c0
    have HX0 := Lib.hid hx0
    have HC0 := Lib.hid hc
    clear hx0 hc
    by_cases h00 : x0 = 0
    · have hq2 : (x0 != 0) = false := by simp [h00]
      have hkn : kn l = l := by rw [kn, if_neg (by rw [← HX0.out]; omega)]
      have hkn : kn l = [] ++ l := hkn
      have HN0 := Lib.hid hkn
      have HS0 := Lib.hid hS
      clear h00 hkn hS hl0
      refine callsIn_of_wp Try.func49 rfl h49 ?_ hro
      simp only [Try.ntmps49, List.size_toArray, List.length_cons, List.length_nil, Nat.reduceAdd, Nat.reduceSub, Array.replicate_succ, Array.replicate_zero, List.push_toArray, List.append_toArray, List.nil_append, List.cons_append]
      gi_wp2
      have hkn := HN0.out
      gi_loopw [24] (fun i wr => ∃ k : Nat, k ≤ l.length ∧ i = .int .i64 k ∧ J ([] ++ l.take k) wr ∧ StepsAt wr n₀ (some ⟨b, off, none⟩) l ∧ n₀ ≤ wr.heap.size) (fun i _ => l.length - (intOf i).toNat)
      case atStart => exact ⟨0, Nat.zero_le _, rfl, by simpa using h0, HS0.out, by omega⟩
      case round =>
        obtain ⟨k, hk, rfl, hJs, hSk, hzk⟩ := hrel
        by_cases hlt : k < l.length
        · obtain ⟨b1, off1, hba, hbl1, hc⟩ := hSk (by omega)
          simp only [Option.some.injEq, Addr.mk.injEq, and_true] at hba
          obtain ⟨rfl, rfl⟩ := hba
          obtain ⟨c0, c1⟩ := hc k hlt
          have hbz : b < wr.heap.size := by omega
          have hJ' : J ([] ++ l.take k) (wr.alloc (.cells #[.int .i64 (l.getD k (0, 0)).1, .int .i64 (l.getD k (0, 0)).2] 34)) := hJ _ wr _ none hJs (World.grownBy_alloc wr _ none) (fun r e => by cases e)
          have hxs : kn l = ([] ++ l.take k) ++ l.getD k (0, 0) :: l.drop (k + 1) := hkn.trans (pre_cons (pre := []) hlt)
          obtain ⟨fn, tmps, assign, body, hy, hR⟩ := hY _ _ _ _ hxs hJ'
          have hta := take_snoc hlt
          obtain ⟨x, hx⟩ : ∃ x, x = l.getD k (0, 0) := ⟨_, rfl⟩
          rw [← hx] at c0 c1 hJ' hxs hta hy hR
          have HX := Lib.hid hx
          have HC := Lib.hid hc
          have HR := Lib.hid hR
          have HT := Lib.hid hta
          have HN := Lib.hid hkn
          have HS := Lib.hid hSk
          clear hx hc hR hxs hta hkn hSk
          obtain ⟨x1, x2⟩ := x
          dsimp only at c0 c1 hy
          gi_wp2
          refine HR.out.mono ?_
          rintro e W3 (⟨rfl, hJ3, hk3⟩ | ⟨rfl, hJx3⟩)
          · gi_wp2
            go_roundw
            case rel => exact ⟨k + 1, by omega, by go_num, by rw [HT.out, ← List.append_assoc]; exact hJ3, HS.out.below ((((Below.refl n₀ wr).alloc hzk _)).trans hk3.1), by have := hk3.1.size; simp at this; omega⟩
            case measure => simp [intOf]; omega
          · gi_wp2
            refine bodyPost_ret (results_none rfl _ _ _) rfl ?_
            exact ⟨⟨_, rfl⟩, .inr ⟨_, ⟨l.drop (k + 1), by rw [HX.out]; exact (pre_ok hlt).trans HN.out.symm⟩, hJx3⟩⟩
        · obtain rfl : k = l.length := by omega
          gi_wp2
          go_end0
          exact ⟨⟨_, rfl⟩, .inl (by rw [hkn]; simpa using hJs)⟩
    · have hq2 : (x0 != 0) = true := by simp [h00]
      have hkn : kn l = (0, 100) :: l := by rw [kn, if_pos (.inr (by rw [← HX0.out]; exact h00))]
      clear h00 hl0
      refine callsIn_of_wp Try.func49 rfl h49 ?_ hro
      simp only [Try.ntmps49, List.size_toArray, List.length_cons, List.length_nil, Nat.reduceAdd, Nat.reduceSub, Array.replicate_succ, Array.replicate_zero, List.push_toArray, List.append_toArray, List.nil_append, List.cons_append]
      have hxs0 : kn l = [] ++ (0, 100) :: l := hkn
      obtain ⟨fn, tmps, assign, body, hy, hR⟩ := hY _ _ _ _ hxs0 h0
      have HR := Lib.hid hR
      have HN0 := Lib.hid hkn
      have HS0 := Lib.hid hS
      clear hR hxs0 hkn
      gi_wp2
      refine HR.out.mono ?_
      rintro e W3 (⟨rfl, hJ3, hk3⟩ | ⟨rfl, hJx3⟩)
      · have hP3 : W3.heap[Bp]? = some (polObj due grace lin (some ⟨b, off, none⟩) l.length c) := (hk3.2 (by omega)).trans HP.out
        have cp3 : W3.cell? ⟨Bp, 3, none⟩ = some (.slice (some ⟨b, off, none⟩) l.length c) := by simp [World.cell?, hP3]
        have hS3 := HS0.out.below hk3.1
        have hz3 := hk3.1.size
        have HS3 := Lib.hid hS3
        clear hP3 hS3
        gi_wp2
        have hkn := HN0.out
        gi_loopw [24] (fun i wr => ∃ k : Nat, k ≤ l.length ∧ i = .int .i64 k ∧ J ([(0, 100)] ++ l.take k) wr ∧ StepsAt wr n₀ (some ⟨b, off, none⟩) l ∧ n₀ ≤ wr.heap.size) (fun i _ => l.length - (intOf i).toNat)
        case atStart => exact ⟨0, Nat.zero_le _, rfl, by simpa using hJ3, HS3.out, by omega⟩
        case round =>
          obtain ⟨k, hk, rfl, hJs, hSk, hzk⟩ := hrel
          by_cases hlt : k < l.length
          · obtain ⟨b1, off1, hba, hbl1, hc⟩ := hSk (by omega)
            simp only [Option.some.injEq, Addr.mk.injEq, and_true] at hba
            obtain ⟨rfl, rfl⟩ := hba
            obtain ⟨c0, c1⟩ := hc k hlt
            have hbz : b < wr.heap.size := by omega
            have hJ' : J ([(0, 100)] ++ l.take k) (wr.alloc (.cells #[.int .i64 (l.getD k (0, 0)).1, .int .i64 (l.getD k (0, 0)).2] 34)) := hJ _ wr _ none hJs (World.grownBy_alloc wr _ none) (fun r e => by cases e)
            have hxs : kn l = ([(0, 100)] ++ l.take k) ++ l.getD k (0, 0) :: l.drop (k + 1) := hkn.trans (pre_cons (pre := [(0, 100)]) hlt)
            obtain ⟨fn, tmps, assign, body, hy, hR⟩ := hY _ _ _ _ hxs hJ'
            have hta := take_snoc hlt
            obtain ⟨x, hx⟩ : ∃ x, x = l.getD k (0, 0) := ⟨_, rfl⟩
            rw [← hx] at c0 c1 hJ' hxs hta hy hR
            have HX := Lib.hid hx
            have HC := Lib.hid hc
            have HR := Lib.hid hR
            have HT := Lib.hid hta
            have HN := Lib.hid hkn
            have HS := Lib.hid hSk
            clear hx hc hR hxs hta hkn hSk
            obtain ⟨x1, x2⟩ := x
            dsimp only at c0 c1 hy
            gi_wp2
            refine HR.out.mono ?_
            rintro e W3 (⟨rfl, hJ3, hk3⟩ | ⟨rfl, hJx3⟩)
            · gi_wp2
              go_roundw
              case rel => exact ⟨k + 1, by omega, by go_num, by rw [HT.out, ← List.append_assoc]; exact hJ3, HS.out.below ((((Below.refl n₀ wr).alloc hzk _)).trans hk3.1), by have := hk3.1.size; simp at this; omega⟩
              case measure => simp [intOf]; omega
            · gi_wp2
              refine bodyPost_ret (results_none rfl _ _ _) rfl ?_
              exact ⟨⟨_, rfl⟩, .inr ⟨_, ⟨l.drop (k + 1), by rw [HX.out]; exact (pre_ok hlt).trans HN.out.symm⟩, hJx3⟩⟩
          · obtain rfl : k = l.length := by omega
            gi_wp2
            go_end0
            exact ⟨⟨_, rfl⟩, .inl (by rw [hkn]; simpa using hJs)⟩
      · gi_wp2
        refine bodyPost_ret (results_none rfl _ _ _) rfl ?_
        exact ⟨⟨_, rfl⟩, .inr ⟨_, ⟨l, by rw [HN0.out]; rfl⟩, hJx3⟩⟩


set_option maxHeartbeats 1000000 in
theorem knots_in (F : Fence) (n : Nat) (h48 : F.fn 48) (hro : F.round = none) (due grace : Int) (lin : Bool) (A : Option Addr) (m c : Nat) (w : World) :
    CallsIn F n Try.prog 48 #[.agg #[.int .i64 due, .int .i64 grace, .bool lin, .slice A m c]] w fun e w' => e = .returned (.func (.func 49) #[] #[.pointer (some ⟨w.heap.size, 0, none⟩)]) ∧ w' = w.alloc (polObj due grace lin A m c) := by
  refine callsIn_of_wp Try.func48 rfl h48 ?_ hro
  simp only [Try.ntmps48, List.size_toArray, List.length_cons, List.length_nil, Nat.reduceAdd, Nat.reduceSub, Array.replicate_succ, Array.replicate_zero, List.push_toArray, List.append_toArray, List.nil_append, List.cons_append]
  gi_wp2
  go_ret
  exact ⟨rfl, rfl⟩

end Go.Proofs.Ytcppijoccolmkaa
