/-
  No cell of these rows narrows 'for every input' (looked for: loops, veiled, ifaces, maps, wideKeys, modest, calm, conditions, laid).
  DERIVED. THE GIVEN ROWS OF THIS SEAT. 7 by the template 'for every input the law returns true; each argument reads behind the call as it read before'; 0 by the template 'total and deterministic' (their statements: YtcppijoccolmkaaTotals.lean).
  GIVEN WITH THE SEED: the statements are not yours to turn. If you find one false, say at which input.
  Laid BY PROGRAM, IN A SANDBOX (cutbox-rows.mjs): the forced cells as the released guide's own fill.sh prints them over the translation 826ee6185f3447c2… (all of the seat's roots in one cut). By AI agents, Wed Nov 11 2026. No macro, syntax, notation, axiom, sorry.
-/
import Derived.Test.YtcppijoccolmkaaChecked
import GoSem.Claim
import GoSem.ClaimJoined
import GoSem.ClaimMapViews
import Derived.JoinedTies
import Derived.KernelRfl
namespace Go.Proofs.Ytcppijoccolmkaa
/- THE CELL 'sum', in the pinned program and in every row, IS THE sha256 OF THE DUMP (.gsa) THAT YtcppijoccolmkaaProg.lean LOADS. Nothing in Lean hashes anything: it is a label: what it is worth is what the hold of that sum in a sandbox is worth. -/
noncomputable def Try.pinned : Pinned := { name := "ytcppijoccolmkaa", sum := "826ee6185f3447c2781888c81c794b4fc6466174a60bb93e1cc17cd2bcd005b8", checked := Try.checked }
namespace Rows
def none {H : Type} : Left H := { results := [], args := [] }

/-- 'assessorlaw51.DeadlinesFalls': WHATEVER THE INPUT: true; the input reads as it did. -/
def deadlinesFallsSpec : ChangeSpec := { name := "deadlinesFalls", fn := fun _ => fun
  | [d1, d2, d3] => { results := [.lit (.bool true)], args := [d1, d2, d3] }
  | _ => none }
def deadlinesFallsRow : OpenClaim := { program := "ytcppijoccolmkaa", sum := "826ee6185f3447c2781888c81c794b4fc6466174a60bb93e1cc17cd2bcd005b8", func := "assessor/assessorlaw51.DeadlinesFalls", spec := "deadlinesFalls", unfollowed := true, recurses := true, apart := false }
def DeadlinesFallsSaid : Prop := deadlinesFallsRow.holds Try.pinned (OpenSpec.ofChange deadlinesFallsSpec)

/-- ITS FALSE NEIGHBOUR: 'it returns false'. Refute it at one input. -/
def deadlinesFallsWrong : ChangeSpec := { name := "deadlinesFalls", fn := fun _ => fun
  | [d1, d2, d3] => { results := [.lit (.bool false)], args := [d1, d2, d3] }
  | _ => none }
def DeadlinesFallsWrongFalsely : Prop := deadlinesFallsRow.holds Try.pinned (OpenSpec.ofChange deadlinesFallsWrong)

/-- 'assessorlaw51.DeadlinesKnots': WHATEVER THE INPUT: true; the input reads as it did. -/
def deadlinesKnotsSpec : ChangeSpec := { name := "deadlinesKnots", fn := fun _ => fun
  | [d1, d2, d3] => { results := [.lit (.bool true)], args := [d1, d2, d3] }
  | _ => none }
def deadlinesKnotsRow : OpenClaim := { program := "ytcppijoccolmkaa", sum := "826ee6185f3447c2781888c81c794b4fc6466174a60bb93e1cc17cd2bcd005b8", func := "assessor/assessorlaw51.DeadlinesKnots", spec := "deadlinesKnots", unfollowed := true, recurses := true, apart := false }
def DeadlinesKnotsSaid : Prop := deadlinesKnotsRow.holds Try.pinned (OpenSpec.ofChange deadlinesKnotsSpec)

/-- ITS FALSE NEIGHBOUR: 'it returns false'. Refute it at one input. -/
def deadlinesKnotsWrong : ChangeSpec := { name := "deadlinesKnots", fn := fun _ => fun
  | [d1, d2, d3] => { results := [.lit (.bool false)], args := [d1, d2, d3] }
  | _ => none }
def DeadlinesKnotsWrongFalsely : Prop := deadlinesKnotsRow.holds Try.pinned (OpenSpec.ofChange deadlinesKnotsWrong)

/-- 'assessorlaw51.DeadlinesDue': WHATEVER THE INPUT: true; the input reads as it did. -/
def deadlinesDueSpec : ChangeSpec := { name := "deadlinesDue", fn := fun _ => fun
  | [d1, d2, d3, d4, d5] => { results := [.lit (.bool true)], args := [d1, d2, d3, d4, d5] }
  | _ => none }
def deadlinesDueRow : OpenClaim := { program := "ytcppijoccolmkaa", sum := "826ee6185f3447c2781888c81c794b4fc6466174a60bb93e1cc17cd2bcd005b8", func := "assessor/assessorlaw51.DeadlinesDue", spec := "deadlinesDue", unfollowed := true, recurses := true, apart := false }
def DeadlinesDueSaid : Prop := deadlinesDueRow.holds Try.pinned (OpenSpec.ofChange deadlinesDueSpec)

/-- ITS FALSE NEIGHBOUR: 'it returns false'. Refute it at one input. -/
def deadlinesDueWrong : ChangeSpec := { name := "deadlinesDue", fn := fun _ => fun
  | [d1, d2, d3, d4, d5] => { results := [.lit (.bool false)], args := [d1, d2, d3, d4, d5] }
  | _ => none }
def DeadlinesDueWrongFalsely : Prop := deadlinesDueRow.holds Try.pinned (OpenSpec.ofChange deadlinesDueWrong)

/-- 'assessorlaw51.DeadlinesSpends': WHATEVER THE INPUT: true; the input reads as it did. -/
def deadlinesSpendsSpec : ChangeSpec := { name := "deadlinesSpends", fn := fun _ => fun
  | [d1, d2] => { results := [.lit (.bool true)], args := [d1, d2] }
  | _ => none }
def deadlinesSpendsRow : OpenClaim := { program := "ytcppijoccolmkaa", sum := "826ee6185f3447c2781888c81c794b4fc6466174a60bb93e1cc17cd2bcd005b8", func := "assessor/assessorlaw51.DeadlinesSpends", spec := "deadlinesSpends", unfollowed := true, recurses := true, apart := false }
def DeadlinesSpendsSaid : Prop := deadlinesSpendsRow.holds Try.pinned (OpenSpec.ofChange deadlinesSpendsSpec)

/-- ITS FALSE NEIGHBOUR: 'it returns false'. Refute it at one input. -/
def deadlinesSpendsWrong : ChangeSpec := { name := "deadlinesSpends", fn := fun _ => fun
  | [d1, d2] => { results := [.lit (.bool false)], args := [d1, d2] }
  | _ => none }
def DeadlinesSpendsWrongFalsely : Prop := deadlinesSpendsRow.holds Try.pinned (OpenSpec.ofChange deadlinesSpendsWrong)

/-- 'assessorlaw51.DeadlinesUntil': WHATEVER THE INPUT: true; the input reads as it did. -/
def deadlinesUntilSpec : ChangeSpec := { name := "deadlinesUntil", fn := fun _ => fun
  | [d1, d2, d3] => { results := [.lit (.bool true)], args := [d1, d2, d3] }
  | _ => none }
def deadlinesUntilRow : OpenClaim := { program := "ytcppijoccolmkaa", sum := "826ee6185f3447c2781888c81c794b4fc6466174a60bb93e1cc17cd2bcd005b8", func := "assessor/assessorlaw51.DeadlinesUntil", spec := "deadlinesUntil", unfollowed := true, recurses := true, apart := false }
def DeadlinesUntilSaid : Prop := deadlinesUntilRow.holds Try.pinned (OpenSpec.ofChange deadlinesUntilSpec)

/-- ITS FALSE NEIGHBOUR: 'it returns false'. Refute it at one input. -/
def deadlinesUntilWrong : ChangeSpec := { name := "deadlinesUntil", fn := fun _ => fun
  | [d1, d2, d3] => { results := [.lit (.bool false)], args := [d1, d2, d3] }
  | _ => none }
def DeadlinesUntilWrongFalsely : Prop := deadlinesUntilRow.holds Try.pinned (OpenSpec.ofChange deadlinesUntilWrong)

/-- 'assessorlaw51.DeadlinesExtends': WHATEVER THE INPUT: true; the input reads as it did. -/
def deadlinesExtendsSpec : ChangeSpec := { name := "deadlinesExtends", fn := fun _ => fun
  | [d1, d2, d3, d4, d5, d6] => { results := [.lit (.bool true)], args := [d1, d2, d3, d4, d5, d6] }
  | _ => none }
def deadlinesExtendsRow : OpenClaim := { program := "ytcppijoccolmkaa", sum := "826ee6185f3447c2781888c81c794b4fc6466174a60bb93e1cc17cd2bcd005b8", func := "assessor/assessorlaw51.DeadlinesExtends", spec := "deadlinesExtends", unfollowed := true, recurses := true, apart := false }
def DeadlinesExtendsSaid : Prop := deadlinesExtendsRow.holds Try.pinned (OpenSpec.ofChange deadlinesExtendsSpec)

/-- ITS FALSE NEIGHBOUR: 'it returns false'. Refute it at one input. -/
def deadlinesExtendsWrong : ChangeSpec := { name := "deadlinesExtends", fn := fun _ => fun
  | [d1, d2, d3, d4, d5, d6] => { results := [.lit (.bool false)], args := [d1, d2, d3, d4, d5, d6] }
  | _ => none }
def DeadlinesExtendsWrongFalsely : Prop := deadlinesExtendsRow.holds Try.pinned (OpenSpec.ofChange deadlinesExtendsWrong)

/-- 'assessorlaw51.DeadlinesFactors': WHATEVER THE INPUT: true; the input reads as it did. -/
def deadlinesFactorsSpec : ChangeSpec := { name := "deadlinesFactors", fn := fun _ => fun
  | [d1, d2, d3, d4, d5] => { results := [.lit (.bool true)], args := [d1, d2, d3, d4, d5] }
  | _ => none }
def deadlinesFactorsRow : OpenClaim := { program := "ytcppijoccolmkaa", sum := "826ee6185f3447c2781888c81c794b4fc6466174a60bb93e1cc17cd2bcd005b8", func := "assessor/assessorlaw51.DeadlinesFactors", spec := "deadlinesFactors", unfollowed := true, recurses := true, apart := false }
def DeadlinesFactorsSaid : Prop := deadlinesFactorsRow.holds Try.pinned (OpenSpec.ofChange deadlinesFactorsSpec)

/-- ITS FALSE NEIGHBOUR: 'it returns false'. Refute it at one input. -/
def deadlinesFactorsWrong : ChangeSpec := { name := "deadlinesFactors", fn := fun _ => fun
  | [d1, d2, d3, d4, d5] => { results := [.lit (.bool false)], args := [d1, d2, d3, d4, d5] }
  | _ => none }
def DeadlinesFactorsWrongFalsely : Prop := deadlinesFactorsRow.holds Try.pinned (OpenSpec.ofChange deadlinesFactorsWrong)

/- THE SECOND FORM. 'bulk': how many values and letters a reading holds, each counted each time it is reached (what is shared counts as often as it is met; a slice's spare places count too). A statement '..UptoSaid' is the law's where the arguments, and the package variables that the reading takes, are together of bulk at most 1048576: NARROWER than '..Said'. Prove '..Said' where nothing that the law and all that it calls make is longer than what came in: it says more and counts as full. Else prove '..UptoSaid'. A law counts once. -/
mutual
def uptoBulk {H : Type} : DataW H → Nat
  | .lit (.string bytes) => bytes.length + 1
  | .lit _ => 1
  | .nil => 1
  | .ptr d => uptoBulk d + 1
  | .slice elems spare => uptoBulkAll elems + uptoBulkAll spare + 1
  | .agg parts => uptoBulkAll parts + 1
  | .iface _ d => uptoBulk d + 1
  | .map entries => uptoBulkEntries entries + 1
  | .held _ => 1
def uptoBulkAll {H : Type} : List (DataW H) → Nat
  | [] => 0
  | d :: r => uptoBulk d + uptoBulkAll r
def uptoBulkEntries {H : Type} : List (Lit × DataW H) → Nat
  | [] => 0
  | x :: r => uptoBulkEntry x + uptoBulkEntries r
def uptoBulkEntry {H : Type} : Lit × DataW H → Nat
  | (.string bytes, d) => bytes.length + uptoBulk d + 1
  | (_, d) => uptoBulk d + 1
 end
def uptoSmall : (H : Type) → List (DataW H) → Bool := fun _ ds => decide (uptoBulkAll ds ≤ 1048576)
def OpenSpec.upto (s : _root_.Go.ChangeSpec) : _root_.Go.OpenSpec := { _root_.Go.OpenSpec.ofChange s with cond := some uptoSmall }

/-- 'assessorlaw51.DeadlinesFalls', WHERE WHAT IT READS IS OF BULK AT MOST 1048576: true; the input reads as it did. -/
def deadlinesFallsUptoRow : OpenClaim := { program := "ytcppijoccolmkaa", sum := "826ee6185f3447c2781888c81c794b4fc6466174a60bb93e1cc17cd2bcd005b8", func := "assessor/assessorlaw51.DeadlinesFalls", spec := "deadlinesFalls", unfollowed := true, recurses := true, apart := false, narrowed := true }
def DeadlinesFallsUptoSaid : Prop := deadlinesFallsUptoRow.holds Try.pinned (OpenSpec.upto deadlinesFallsSpec)

/-- 'assessorlaw51.DeadlinesKnots', WHERE WHAT IT READS IS OF BULK AT MOST 1048576: true; the input reads as it did. -/
def deadlinesKnotsUptoRow : OpenClaim := { program := "ytcppijoccolmkaa", sum := "826ee6185f3447c2781888c81c794b4fc6466174a60bb93e1cc17cd2bcd005b8", func := "assessor/assessorlaw51.DeadlinesKnots", spec := "deadlinesKnots", unfollowed := true, recurses := true, apart := false, narrowed := true }
def DeadlinesKnotsUptoSaid : Prop := deadlinesKnotsUptoRow.holds Try.pinned (OpenSpec.upto deadlinesKnotsSpec)

/-- 'assessorlaw51.DeadlinesDue', WHERE WHAT IT READS IS OF BULK AT MOST 1048576: true; the input reads as it did. -/
def deadlinesDueUptoRow : OpenClaim := { program := "ytcppijoccolmkaa", sum := "826ee6185f3447c2781888c81c794b4fc6466174a60bb93e1cc17cd2bcd005b8", func := "assessor/assessorlaw51.DeadlinesDue", spec := "deadlinesDue", unfollowed := true, recurses := true, apart := false, narrowed := true }
def DeadlinesDueUptoSaid : Prop := deadlinesDueUptoRow.holds Try.pinned (OpenSpec.upto deadlinesDueSpec)

/-- 'assessorlaw51.DeadlinesSpends', WHERE WHAT IT READS IS OF BULK AT MOST 1048576: true; the input reads as it did. -/
def deadlinesSpendsUptoRow : OpenClaim := { program := "ytcppijoccolmkaa", sum := "826ee6185f3447c2781888c81c794b4fc6466174a60bb93e1cc17cd2bcd005b8", func := "assessor/assessorlaw51.DeadlinesSpends", spec := "deadlinesSpends", unfollowed := true, recurses := true, apart := false, narrowed := true }
def DeadlinesSpendsUptoSaid : Prop := deadlinesSpendsUptoRow.holds Try.pinned (OpenSpec.upto deadlinesSpendsSpec)

/-- 'assessorlaw51.DeadlinesUntil', WHERE WHAT IT READS IS OF BULK AT MOST 1048576: true; the input reads as it did. -/
def deadlinesUntilUptoRow : OpenClaim := { program := "ytcppijoccolmkaa", sum := "826ee6185f3447c2781888c81c794b4fc6466174a60bb93e1cc17cd2bcd005b8", func := "assessor/assessorlaw51.DeadlinesUntil", spec := "deadlinesUntil", unfollowed := true, recurses := true, apart := false, narrowed := true }
def DeadlinesUntilUptoSaid : Prop := deadlinesUntilUptoRow.holds Try.pinned (OpenSpec.upto deadlinesUntilSpec)

/-- 'assessorlaw51.DeadlinesExtends', WHERE WHAT IT READS IS OF BULK AT MOST 1048576: true; the input reads as it did. -/
def deadlinesExtendsUptoRow : OpenClaim := { program := "ytcppijoccolmkaa", sum := "826ee6185f3447c2781888c81c794b4fc6466174a60bb93e1cc17cd2bcd005b8", func := "assessor/assessorlaw51.DeadlinesExtends", spec := "deadlinesExtends", unfollowed := true, recurses := true, apart := false, narrowed := true }
def DeadlinesExtendsUptoSaid : Prop := deadlinesExtendsUptoRow.holds Try.pinned (OpenSpec.upto deadlinesExtendsSpec)

/-- 'assessorlaw51.DeadlinesFactors', WHERE WHAT IT READS IS OF BULK AT MOST 1048576: true; the input reads as it did. -/
def deadlinesFactorsUptoRow : OpenClaim := { program := "ytcppijoccolmkaa", sum := "826ee6185f3447c2781888c81c794b4fc6466174a60bb93e1cc17cd2bcd005b8", func := "assessor/assessorlaw51.DeadlinesFactors", spec := "deadlinesFactors", unfollowed := true, recurses := true, apart := false, narrowed := true }
def DeadlinesFactorsUptoSaid : Prop := deadlinesFactorsUptoRow.holds Try.pinned (OpenSpec.upto deadlinesFactorsSpec)

end Rows
end Go.Proofs.Ytcppijoccolmkaa
