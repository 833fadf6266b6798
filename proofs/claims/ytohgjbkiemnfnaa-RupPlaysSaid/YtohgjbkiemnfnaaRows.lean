/-
  No cell of these rows narrows 'for every input' (looked for: loops, veiled, ifaces, maps, wideKeys, modest, calm, conditions, laid).
  DERIVED. THE GIVEN ROWS OF THIS SEAT. 11 by the template 'for every input the law returns true; each argument reads behind the call as it read before'; 0 by the template 'total and deterministic' (their statements: YtohgjbkiemnfnaaTotals.lean).
  GIVEN WITH THE SEED: the statements are not yours to turn. If you find one false, say at which input.
  Laid BY PROGRAM, IN A SANDBOX (cutbox-rows.mjs): the forced cells as the released guide's own fill.sh prints them over the translation 1f56ab51a115c7f1… (all of the seat's roots in one cut). By AI agents, Wed Nov 11 2026. No macro, syntax, notation, axiom, sorry.
-/
import Derived.Test.YtohgjbkiemnfnaaChecked
import GoSem.Claim
import GoSem.ClaimJoined
import GoSem.ClaimMapViews
import Derived.JoinedTies
import Derived.KernelRfl
namespace Go.Proofs.Ytohgjbkiemnfnaa
/- THE CELL 'sum', in the pinned program and in every row, IS THE sha256 OF THE DUMP (.gsa) THAT YtohgjbkiemnfnaaProg.lean LOADS. Nothing in Lean hashes anything: it is a label: what it is worth is what the hold of that sum in a sandbox is worth. -/
noncomputable def Try.pinned : Pinned := { name := "ytohgjbkiemnfnaa", sum := "1f56ab51a115c7f197c05c29598b7c8338f0805fa74e9373851a230f67aaea8a", checked := Try.checked }
namespace Rows
def none {H : Type} : Left H := { results := [], args := [] }

/-- 'ferrulelaw13.AtomsVars': WHATEVER THE INPUT: true; the input reads as it did. -/
def atomsVarsSpec : ChangeSpec := { name := "atomsVars", fn := fun _ => fun
  | [d1, d2, d3] => { results := [.lit (.bool true)], args := [d1, d2, d3] }
  | _ => none }
def atomsVarsRow : OpenClaim := { program := "ytohgjbkiemnfnaa", sum := "1f56ab51a115c7f197c05c29598b7c8338f0805fa74e9373851a230f67aaea8a", func := "ferrule/ferrulelaw13.AtomsVars", spec := "atomsVars", apart := false }
def AtomsVarsSaid : Prop := atomsVarsRow.holds Try.pinned (OpenSpec.ofChange atomsVarsSpec)

/-- ITS FALSE NEIGHBOUR: 'it returns false'. Refute it at one input. -/
def atomsVarsWrong : ChangeSpec := { name := "atomsVars", fn := fun _ => fun
  | [d1, d2, d3] => { results := [.lit (.bool false)], args := [d1, d2, d3] }
  | _ => none }
def AtomsVarsWrongFalsely : Prop := atomsVarsRow.holds Try.pinned (OpenSpec.ofChange atomsVarsWrong)

/-- 'ferrulelaw13.AtomsMonotone': WHATEVER THE INPUT: true; the input reads as it did. -/
def atomsMonotoneSpec : ChangeSpec := { name := "atomsMonotone", fn := fun _ => fun
  | [d1, d2] => { results := [.lit (.bool true)], args := [d1, d2] }
  | _ => none }
def atomsMonotoneRow : OpenClaim := { program := "ytohgjbkiemnfnaa", sum := "1f56ab51a115c7f197c05c29598b7c8338f0805fa74e9373851a230f67aaea8a", func := "ferrule/ferrulelaw13.AtomsMonotone", spec := "atomsMonotone", apart := false }
def AtomsMonotoneSaid : Prop := atomsMonotoneRow.holds Try.pinned (OpenSpec.ofChange atomsMonotoneSpec)

/-- ITS FALSE NEIGHBOUR: 'it returns false'. Refute it at one input. -/
def atomsMonotoneWrong : ChangeSpec := { name := "atomsMonotone", fn := fun _ => fun
  | [d1, d2] => { results := [.lit (.bool false)], args := [d1, d2] }
  | _ => none }
def AtomsMonotoneWrongFalsely : Prop := atomsMonotoneRow.holds Try.pinned (OpenSpec.ofChange atomsMonotoneWrong)

/-- 'ferrulelaw13.AtomsTruths': WHATEVER THE INPUT: true; the input reads as it did. -/
def atomsTruthsSpec : ChangeSpec := { name := "atomsTruths", fn := fun _ => fun
  | [d1, d2] => { results := [.lit (.bool true)], args := [d1, d2] }
  | _ => none }
def atomsTruthsRow : OpenClaim := { program := "ytohgjbkiemnfnaa", sum := "1f56ab51a115c7f197c05c29598b7c8338f0805fa74e9373851a230f67aaea8a", func := "ferrule/ferrulelaw13.AtomsTruths", spec := "atomsTruths", apart := false }
def AtomsTruthsSaid : Prop := atomsTruthsRow.holds Try.pinned (OpenSpec.ofChange atomsTruthsSpec)

/-- ITS FALSE NEIGHBOUR: 'it returns false'. Refute it at one input. -/
def atomsTruthsWrong : ChangeSpec := { name := "atomsTruths", fn := fun _ => fun
  | [d1, d2] => { results := [.lit (.bool false)], args := [d1, d2] }
  | _ => none }
def AtomsTruthsWrongFalsely : Prop := atomsTruthsRow.holds Try.pinned (OpenSpec.ofChange atomsTruthsWrong)

/-- 'ferrulelaw13.AtomsChoices': WHATEVER THE INPUT: true; the input reads as it did. -/
def atomsChoicesSpec : ChangeSpec := { name := "atomsChoices", fn := fun _ => fun
  | [d1, d2] => { results := [.lit (.bool true)], args := [d1, d2] }
  | _ => none }
def atomsChoicesRow : OpenClaim := { program := "ytohgjbkiemnfnaa", sum := "1f56ab51a115c7f197c05c29598b7c8338f0805fa74e9373851a230f67aaea8a", func := "ferrule/ferrulelaw13.AtomsChoices", spec := "atomsChoices", recurses := true, apart := false }
def AtomsChoicesSaid : Prop := atomsChoicesRow.holds Try.pinned (OpenSpec.ofChange atomsChoicesSpec)

/-- ITS FALSE NEIGHBOUR: 'it returns false'. Refute it at one input. -/
def atomsChoicesWrong : ChangeSpec := { name := "atomsChoices", fn := fun _ => fun
  | [d1, d2] => { results := [.lit (.bool false)], args := [d1, d2] }
  | _ => none }
def AtomsChoicesWrongFalsely : Prop := atomsChoicesRow.holds Try.pinned (OpenSpec.ofChange atomsChoicesWrong)

/-- 'ferrulelaw12.ClauseModels': WHATEVER THE INPUT: true; the input reads as it did. -/
def clauseModelsSpec : ChangeSpec := { name := "clauseModels", fn := fun _ => fun
  | [d1, d2] => { results := [.lit (.bool true)], args := [d1, d2] }
  | _ => none }
def clauseModelsRow : OpenClaim := { program := "ytohgjbkiemnfnaa", sum := "1f56ab51a115c7f197c05c29598b7c8338f0805fa74e9373851a230f67aaea8a", func := "ferrule/ferrulelaw12.ClauseModels", spec := "clauseModels", unfollowed := true, recurses := true, apart := false }
def ClauseModelsSaid : Prop := clauseModelsRow.holds Try.pinned (OpenSpec.ofChange clauseModelsSpec)

/-- ITS FALSE NEIGHBOUR: 'it returns false'. Refute it at one input. -/
def clauseModelsWrong : ChangeSpec := { name := "clauseModels", fn := fun _ => fun
  | [d1, d2] => { results := [.lit (.bool false)], args := [d1, d2] }
  | _ => none }
def ClauseModelsWrongFalsely : Prop := clauseModelsRow.holds Try.pinned (OpenSpec.ofChange clauseModelsWrong)

/-- 'ferrulelaw12.ClauseCleans': WHATEVER THE INPUT: true; the input reads as it did. -/
def clauseCleansSpec : ChangeSpec := { name := "clauseCleans", fn := fun _ => fun
  | [d1, d2] => { results := [.lit (.bool true)], args := [d1, d2] }
  | _ => none }
def clauseCleansRow : OpenClaim := { program := "ytohgjbkiemnfnaa", sum := "1f56ab51a115c7f197c05c29598b7c8338f0805fa74e9373851a230f67aaea8a", func := "ferrule/ferrulelaw12.ClauseCleans", spec := "clauseCleans", unfollowed := true, recurses := true, apart := false }
def ClauseCleansSaid : Prop := clauseCleansRow.holds Try.pinned (OpenSpec.ofChange clauseCleansSpec)

/-- ITS FALSE NEIGHBOUR: 'it returns false'. Refute it at one input. -/
def clauseCleansWrong : ChangeSpec := { name := "clauseCleans", fn := fun _ => fun
  | [d1, d2] => { results := [.lit (.bool false)], args := [d1, d2] }
  | _ => none }
def ClauseCleansWrongFalsely : Prop := clauseCleansRow.holds Try.pinned (OpenSpec.ofChange clauseCleansWrong)

/-- 'ferrulelaw12.ClauseHolds': WHATEVER THE INPUT: true; the input reads as it did. -/
def clauseHoldsSpec : ChangeSpec := { name := "clauseHolds", fn := fun _ => fun
  | [d1, d2] => { results := [.lit (.bool true)], args := [d1, d2] }
  | _ => none }
def clauseHoldsRow : OpenClaim := { program := "ytohgjbkiemnfnaa", sum := "1f56ab51a115c7f197c05c29598b7c8338f0805fa74e9373851a230f67aaea8a", func := "ferrule/ferrulelaw12.ClauseHolds", spec := "clauseHolds", unfollowed := true, recurses := true, apart := false }
def ClauseHoldsSaid : Prop := clauseHoldsRow.holds Try.pinned (OpenSpec.ofChange clauseHoldsSpec)

/-- ITS FALSE NEIGHBOUR: 'it returns false'. Refute it at one input. -/
def clauseHoldsWrong : ChangeSpec := { name := "clauseHolds", fn := fun _ => fun
  | [d1, d2] => { results := [.lit (.bool false)], args := [d1, d2] }
  | _ => none }
def ClauseHoldsWrongFalsely : Prop := clauseHoldsRow.holds Try.pinned (OpenSpec.ofChange clauseHoldsWrong)

/-- 'ferrulelaw12.ClauseOnes': WHATEVER THE INPUT: true; the input reads as it did. -/
def clauseOnesSpec : ChangeSpec := { name := "clauseOnes", fn := fun _ => fun
  | [d1, d2] => { results := [.lit (.bool true)], args := [d1, d2] }
  | _ => none }
def clauseOnesRow : OpenClaim := { program := "ytohgjbkiemnfnaa", sum := "1f56ab51a115c7f197c05c29598b7c8338f0805fa74e9373851a230f67aaea8a", func := "ferrule/ferrulelaw12.ClauseOnes", spec := "clauseOnes", unfollowed := true, recurses := true, apart := false }
def ClauseOnesSaid : Prop := clauseOnesRow.holds Try.pinned (OpenSpec.ofChange clauseOnesSpec)

/-- ITS FALSE NEIGHBOUR: 'it returns false'. Refute it at one input. -/
def clauseOnesWrong : ChangeSpec := { name := "clauseOnes", fn := fun _ => fun
  | [d1, d2] => { results := [.lit (.bool false)], args := [d1, d2] }
  | _ => none }
def ClauseOnesWrongFalsely : Prop := clauseOnesRow.holds Try.pinned (OpenSpec.ofChange clauseOnesWrong)

/-- 'ferrulelaw22.RupHolds': WHATEVER THE INPUT: true; the input reads as it did. -/
def rupHoldsSpec : ChangeSpec := { name := "rupHolds", fn := fun _ => fun
  | [d1, d2, d3] => { results := [.lit (.bool true)], args := [d1, d2, d3] }
  | _ => none }
def rupHoldsRow : OpenClaim := { program := "ytohgjbkiemnfnaa", sum := "1f56ab51a115c7f197c05c29598b7c8338f0805fa74e9373851a230f67aaea8a", func := "ferrule/ferrulelaw22.RupHolds", spec := "rupHolds", unfollowed := true, recurses := true, apart := false }
def RupHoldsSaid : Prop := rupHoldsRow.holds Try.pinned (OpenSpec.ofChange rupHoldsSpec)

/-- ITS FALSE NEIGHBOUR: 'it returns false'. Refute it at one input. -/
def rupHoldsWrong : ChangeSpec := { name := "rupHolds", fn := fun _ => fun
  | [d1, d2, d3] => { results := [.lit (.bool false)], args := [d1, d2, d3] }
  | _ => none }
def RupHoldsWrongFalsely : Prop := rupHoldsRow.holds Try.pinned (OpenSpec.ofChange rupHoldsWrong)

/-- 'ferrulelaw22.RupEmpty': WHATEVER THE INPUT: true; the input reads as it did. -/
def rupEmptySpec : ChangeSpec := { name := "rupEmpty", fn := fun _ => fun
  | [d1, d2] => { results := [.lit (.bool true)], args := [d1, d2] }
  | _ => none }
def rupEmptyRow : OpenClaim := { program := "ytohgjbkiemnfnaa", sum := "1f56ab51a115c7f197c05c29598b7c8338f0805fa74e9373851a230f67aaea8a", func := "ferrule/ferrulelaw22.RupEmpty", spec := "rupEmpty", unfollowed := true, recurses := true, apart := false }
def RupEmptySaid : Prop := rupEmptyRow.holds Try.pinned (OpenSpec.ofChange rupEmptySpec)

/-- ITS FALSE NEIGHBOUR: 'it returns false'. Refute it at one input. -/
def rupEmptyWrong : ChangeSpec := { name := "rupEmpty", fn := fun _ => fun
  | [d1, d2] => { results := [.lit (.bool false)], args := [d1, d2] }
  | _ => none }
def RupEmptyWrongFalsely : Prop := rupEmptyRow.holds Try.pinned (OpenSpec.ofChange rupEmptyWrong)

/-- 'ferrulelaw22.RupPlays': WHATEVER THE INPUT: true; the input reads as it did. -/
def rupPlaysSpec : ChangeSpec := { name := "rupPlays", fn := fun _ => fun
  | [d1, d2] => { results := [.lit (.bool true)], args := [d1, d2] }
  | _ => none }
def rupPlaysRow : OpenClaim := { program := "ytohgjbkiemnfnaa", sum := "1f56ab51a115c7f197c05c29598b7c8338f0805fa74e9373851a230f67aaea8a", func := "ferrule/ferrulelaw22.RupPlays", spec := "rupPlays", unfollowed := true, recurses := true, apart := false }
def RupPlaysSaid : Prop := rupPlaysRow.holds Try.pinned (OpenSpec.ofChange rupPlaysSpec)

/-- ITS FALSE NEIGHBOUR: 'it returns false'. Refute it at one input. -/
def rupPlaysWrong : ChangeSpec := { name := "rupPlays", fn := fun _ => fun
  | [d1, d2] => { results := [.lit (.bool false)], args := [d1, d2] }
  | _ => none }
def RupPlaysWrongFalsely : Prop := rupPlaysRow.holds Try.pinned (OpenSpec.ofChange rupPlaysWrong)

/- THE SECOND FORM. 'bulk': how many values and letters a reading holds, each counted each time it is reached (what is shared counts as often as it is met; a slice's spare places count too). A statement '..UptoSaid' is the law's where the arguments, and the package variables that the reading takes, are together of bulk at most 1048576: NARROWER than '..Said'. Prove '..Said' where nothing that the law and all that it calls make is longer than what came in: it says more and counts as full. Else prove '..UptoSaid'. A law counts once. -/
mutual
def uptoBulk {H : Type} : DataW H → Nat
  | .lit (.string bytes) => bytes.length + 1
  | .lit _ => 1
  | .nil => 1
  | .ptr d => uptoBulk d + 1
  | .slice elems spare => uptoBulkAll elems + uptoBulkAll spare + 1
  | .agg parts => uptoBulkAll parts + 1
  | .iface _ d => uptoBulk d + 1
  | .map entries => uptoBulkEntries entries + 1
  | .held _ => 1
def uptoBulkAll {H : Type} : List (DataW H) → Nat
  | [] => 0
  | d :: r => uptoBulk d + uptoBulkAll r
def uptoBulkEntries {H : Type} : List (Lit × DataW H) → Nat
  | [] => 0
  | x :: r => uptoBulkEntry x + uptoBulkEntries r
def uptoBulkEntry {H : Type} : Lit × DataW H → Nat
  | (.string bytes, d) => bytes.length + uptoBulk d + 1
  | (_, d) => uptoBulk d + 1
 end
def uptoSmall : (H : Type) → List (DataW H) → Bool := fun _ ds => decide (uptoBulkAll ds ≤ 1048576)
def OpenSpec.upto (s : _root_.Go.ChangeSpec) : _root_.Go.OpenSpec := { _root_.Go.OpenSpec.ofChange s with cond := some uptoSmall }

/-- 'ferrulelaw13.AtomsVars', WHERE WHAT IT READS IS OF BULK AT MOST 1048576: true; the input reads as it did. -/
def atomsVarsUptoRow : OpenClaim := { program := "ytohgjbkiemnfnaa", sum := "1f56ab51a115c7f197c05c29598b7c8338f0805fa74e9373851a230f67aaea8a", func := "ferrule/ferrulelaw13.AtomsVars", spec := "atomsVars", apart := false, narrowed := true }
def AtomsVarsUptoSaid : Prop := atomsVarsUptoRow.holds Try.pinned (OpenSpec.upto atomsVarsSpec)

/-- 'ferrulelaw13.AtomsMonotone', WHERE WHAT IT READS IS OF BULK AT MOST 1048576: true; the input reads as it did. -/
def atomsMonotoneUptoRow : OpenClaim := { program := "ytohgjbkiemnfnaa", sum := "1f56ab51a115c7f197c05c29598b7c8338f0805fa74e9373851a230f67aaea8a", func := "ferrule/ferrulelaw13.AtomsMonotone", spec := "atomsMonotone", apart := false, narrowed := true }
def AtomsMonotoneUptoSaid : Prop := atomsMonotoneUptoRow.holds Try.pinned (OpenSpec.upto atomsMonotoneSpec)

/-- 'ferrulelaw13.AtomsTruths', WHERE WHAT IT READS IS OF BULK AT MOST 1048576: true; the input reads as it did. -/
def atomsTruthsUptoRow : OpenClaim := { program := "ytohgjbkiemnfnaa", sum := "1f56ab51a115c7f197c05c29598b7c8338f0805fa74e9373851a230f67aaea8a", func := "ferrule/ferrulelaw13.AtomsTruths", spec := "atomsTruths", apart := false, narrowed := true }
def AtomsTruthsUptoSaid : Prop := atomsTruthsUptoRow.holds Try.pinned (OpenSpec.upto atomsTruthsSpec)

/-- 'ferrulelaw13.AtomsChoices', WHERE WHAT IT READS IS OF BULK AT MOST 1048576: true; the input reads as it did. -/
def atomsChoicesUptoRow : OpenClaim := { program := "ytohgjbkiemnfnaa", sum := "1f56ab51a115c7f197c05c29598b7c8338f0805fa74e9373851a230f67aaea8a", func := "ferrule/ferrulelaw13.AtomsChoices", spec := "atomsChoices", recurses := true, apart := false, narrowed := true }
def AtomsChoicesUptoSaid : Prop := atomsChoicesUptoRow.holds Try.pinned (OpenSpec.upto atomsChoicesSpec)

/-- 'ferrulelaw12.ClauseModels', WHERE WHAT IT READS IS OF BULK AT MOST 1048576: true; the input reads as it did. -/
def clauseModelsUptoRow : OpenClaim := { program := "ytohgjbkiemnfnaa", sum := "1f56ab51a115c7f197c05c29598b7c8338f0805fa74e9373851a230f67aaea8a", func := "ferrule/ferrulelaw12.ClauseModels", spec := "clauseModels", unfollowed := true, recurses := true, apart := false, narrowed := true }
def ClauseModelsUptoSaid : Prop := clauseModelsUptoRow.holds Try.pinned (OpenSpec.upto clauseModelsSpec)

/-- 'ferrulelaw12.ClauseCleans', WHERE WHAT IT READS IS OF BULK AT MOST 1048576: true; the input reads as it did. -/
def clauseCleansUptoRow : OpenClaim := { program := "ytohgjbkiemnfnaa", sum := "1f56ab51a115c7f197c05c29598b7c8338f0805fa74e9373851a230f67aaea8a", func := "ferrule/ferrulelaw12.ClauseCleans", spec := "clauseCleans", unfollowed := true, recurses := true, apart := false, narrowed := true }
def ClauseCleansUptoSaid : Prop := clauseCleansUptoRow.holds Try.pinned (OpenSpec.upto clauseCleansSpec)

/-- 'ferrulelaw12.ClauseHolds', WHERE WHAT IT READS IS OF BULK AT MOST 1048576: true; the input reads as it did. -/
def clauseHoldsUptoRow : OpenClaim := { program := "ytohgjbkiemnfnaa", sum := "1f56ab51a115c7f197c05c29598b7c8338f0805fa74e9373851a230f67aaea8a", func := "ferrule/ferrulelaw12.ClauseHolds", spec := "clauseHolds", unfollowed := true, recurses := true, apart := false, narrowed := true }
def ClauseHoldsUptoSaid : Prop := clauseHoldsUptoRow.holds Try.pinned (OpenSpec.upto clauseHoldsSpec)

/-- 'ferrulelaw12.ClauseOnes', WHERE WHAT IT READS IS OF BULK AT MOST 1048576: true; the input reads as it did. -/
def clauseOnesUptoRow : OpenClaim := { program := "ytohgjbkiemnfnaa", sum := "1f56ab51a115c7f197c05c29598b7c8338f0805fa74e9373851a230f67aaea8a", func := "ferrule/ferrulelaw12.ClauseOnes", spec := "clauseOnes", unfollowed := true, recurses := true, apart := false, narrowed := true }
def ClauseOnesUptoSaid : Prop := clauseOnesUptoRow.holds Try.pinned (OpenSpec.upto clauseOnesSpec)

/-- 'ferrulelaw22.RupHolds', WHERE WHAT IT READS IS OF BULK AT MOST 1048576: true; the input reads as it did. -/
def rupHoldsUptoRow : OpenClaim := { program := "ytohgjbkiemnfnaa", sum := "1f56ab51a115c7f197c05c29598b7c8338f0805fa74e9373851a230f67aaea8a", func := "ferrule/ferrulelaw22.RupHolds", spec := "rupHolds", unfollowed := true, recurses := true, apart := false, narrowed := true }
def RupHoldsUptoSaid : Prop := rupHoldsUptoRow.holds Try.pinned (OpenSpec.upto rupHoldsSpec)

/-- 'ferrulelaw22.RupEmpty', WHERE WHAT IT READS IS OF BULK AT MOST 1048576: true; the input reads as it did. -/
def rupEmptyUptoRow : OpenClaim := { program := "ytohgjbkiemnfnaa", sum := "1f56ab51a115c7f197c05c29598b7c8338f0805fa74e9373851a230f67aaea8a", func := "ferrule/ferrulelaw22.RupEmpty", spec := "rupEmpty", unfollowed := true, recurses := true, apart := false, narrowed := true }
def RupEmptyUptoSaid : Prop := rupEmptyUptoRow.holds Try.pinned (OpenSpec.upto rupEmptySpec)

/-- 'ferrulelaw22.RupPlays', WHERE WHAT IT READS IS OF BULK AT MOST 1048576: true; the input reads as it did. -/
def rupPlaysUptoRow : OpenClaim := { program := "ytohgjbkiemnfnaa", sum := "1f56ab51a115c7f197c05c29598b7c8338f0805fa74e9373851a230f67aaea8a", func := "ferrule/ferrulelaw22.RupPlays", spec := "rupPlays", unfollowed := true, recurses := true, apart := false, narrowed := true }
def RupPlaysUptoSaid : Prop := rupPlaysUptoRow.holds Try.pinned (OpenSpec.upto rupPlaysSpec)

end Rows
end Go.Proofs.Ytohgjbkiemnfnaa
