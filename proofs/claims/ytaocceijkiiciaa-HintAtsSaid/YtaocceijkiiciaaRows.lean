/-
  No cell of these rows narrows 'for every input' (looked for: loops, veiled, ifaces, maps, wideKeys, modest, calm, conditions, laid).
  DERIVED. THE GIVEN ROWS OF THIS SEAT. 5 by the template 'for every input the law returns true; each argument reads behind the call as it read before'; 0 by the template 'total and deterministic' (their statements: YtaocceijkiiciaaTotals.lean).
  GIVEN WITH THE SEED: the statements are not yours to turn. If you find one false, say at which input.
  Laid BY PROGRAM, IN A SANDBOX (cutbox-rows.mjs): the forced cells as the released guide's own fill.sh prints them over the translation a69de4ec5e98181e… (all of the seat's roots in one cut). By AI agents, Wed Nov 11 2026. No macro, syntax, notation, axiom, sorry.
-/
import Derived.Test.YtaocceijkiiciaaChecked
import GoSem.Claim
import GoSem.ClaimJoined
import GoSem.ClaimMapViews
import Derived.JoinedTies
import Derived.KernelRfl
namespace Go.Proofs.Ytaocceijkiiciaa
/- THE CELL 'sum', in the pinned program and in every row, IS THE sha256 OF THE DUMP (.gsa) THAT YtaocceijkiiciaaProg.lean LOADS. Nothing in Lean hashes anything: it is a label: what it is worth is what the hold of that sum in a sandbox is worth. -/
noncomputable def Try.pinned : Pinned := { name := "ytaocceijkiiciaa", sum := "a69de4ec5e98181efb7fc4a49ce73165f837e516bb449577a1b966facae5810e", checked := Try.checked }
namespace Rows
def none {H : Type} : Left H := { results := [], args := [] }

/-- 'ferrulelaw20.HintRound': WHATEVER THE INPUT: true; the input reads as it did. -/
def hintRoundSpec : ChangeSpec := { name := "hintRound", fn := fun _ => fun
  | [d1, d2, d3] => { results := [.lit (.bool true)], args := [d1, d2, d3] }
  | _ => none }
def hintRoundRow : OpenClaim := { program := "ytaocceijkiiciaa", sum := "a69de4ec5e98181efb7fc4a49ce73165f837e516bb449577a1b966facae5810e", func := "ferrule/ferrulelaw20.HintRound", spec := "hintRound", apart := false }
def HintRoundSaid : Prop := hintRoundRow.holds Try.pinned (OpenSpec.ofChange hintRoundSpec)

/-- ITS FALSE NEIGHBOUR: 'it returns false'. Refute it at one input. -/
def hintRoundWrong : ChangeSpec := { name := "hintRound", fn := fun _ => fun
  | [d1, d2, d3] => { results := [.lit (.bool false)], args := [d1, d2, d3] }
  | _ => none }
def HintRoundWrongFalsely : Prop := hintRoundRow.holds Try.pinned (OpenSpec.ofChange hintRoundWrong)

/-- 'ferrulelaw01.NumParses': WHATEVER THE INPUT: true; the input reads as it did. -/
def numParsesSpec : ChangeSpec := { name := "numParses", fn := fun _ => fun
  | [d1, d2] => { results := [.lit (.bool true)], args := [d1, d2] }
  | _ => none }
def numParsesRow : OpenClaim := { program := "ytaocceijkiiciaa", sum := "a69de4ec5e98181efb7fc4a49ce73165f837e516bb449577a1b966facae5810e", func := "ferrule/ferrulelaw01.NumParses", spec := "numParses", apart := false }
def NumParsesSaid : Prop := numParsesRow.holds Try.pinned (OpenSpec.ofChange numParsesSpec)

/-- ITS FALSE NEIGHBOUR: 'it returns false'. Refute it at one input. -/
def numParsesWrong : ChangeSpec := { name := "numParses", fn := fun _ => fun
  | [d1, d2] => { results := [.lit (.bool false)], args := [d1, d2] }
  | _ => none }
def NumParsesWrongFalsely : Prop := numParsesRow.holds Try.pinned (OpenSpec.ofChange numParsesWrong)

/-- 'ferrulelaw01.NumPlaces': WHATEVER THE INPUT: true; the input reads as it did. -/
def numPlacesSpec : ChangeSpec := { name := "numPlaces", fn := fun _ => fun
  | [d1, d2] => { results := [.lit (.bool true)], args := [d1, d2] }
  | _ => none }
def numPlacesRow : OpenClaim := { program := "ytaocceijkiiciaa", sum := "a69de4ec5e98181efb7fc4a49ce73165f837e516bb449577a1b966facae5810e", func := "ferrule/ferrulelaw01.NumPlaces", spec := "numPlaces", apart := false }
def NumPlacesSaid : Prop := numPlacesRow.holds Try.pinned (OpenSpec.ofChange numPlacesSpec)

/-- ITS FALSE NEIGHBOUR: 'it returns false'. Refute it at one input. -/
def numPlacesWrong : ChangeSpec := { name := "numPlaces", fn := fun _ => fun
  | [d1, d2] => { results := [.lit (.bool false)], args := [d1, d2] }
  | _ => none }
def NumPlacesWrongFalsely : Prop := numPlacesRow.holds Try.pinned (OpenSpec.ofChange numPlacesWrong)

/-- 'ferrulelaw20.HintAts': WHATEVER THE INPUT: true; the input reads as it did. -/
def hintAtsSpec : ChangeSpec := { name := "hintAts", fn := fun _ => fun
  | [d1, d2, d3] => { results := [.lit (.bool true)], args := [d1, d2, d3] }
  | _ => none }
def hintAtsRow : OpenClaim := { program := "ytaocceijkiiciaa", sum := "a69de4ec5e98181efb7fc4a49ce73165f837e516bb449577a1b966facae5810e", func := "ferrule/ferrulelaw20.HintAts", spec := "hintAts", unfollowed := true, recurses := true, apart := false }
def HintAtsSaid : Prop := hintAtsRow.holds Try.pinned (OpenSpec.ofChange hintAtsSpec)

/-- ITS FALSE NEIGHBOUR: 'it returns false'. Refute it at one input. -/
def hintAtsWrong : ChangeSpec := { name := "hintAts", fn := fun _ => fun
  | [d1, d2, d3] => { results := [.lit (.bool false)], args := [d1, d2, d3] }
  | _ => none }
def HintAtsWrongFalsely : Prop := hintAtsRow.holds Try.pinned (OpenSpec.ofChange hintAtsWrong)

/-- 'ferrulelaw01.NumCompares': WHATEVER THE INPUT: true; the input reads as it did. -/
def numComparesSpec : ChangeSpec := { name := "numCompares", fn := fun _ => fun
  | [d1, d2] => { results := [.lit (.bool true)], args := [d1, d2] }
  | _ => none }
def numComparesRow : OpenClaim := { program := "ytaocceijkiiciaa", sum := "a69de4ec5e98181efb7fc4a49ce73165f837e516bb449577a1b966facae5810e", func := "ferrule/ferrulelaw01.NumCompares", spec := "numCompares", inPlace := ["internal/bytealg.abigen_runtime_cmpstring"], apart := false }
def NumComparesSaid : Prop := numComparesRow.holds Try.pinned (OpenSpec.ofChange numComparesSpec)

/-- ITS FALSE NEIGHBOUR: 'it returns false'. Refute it at one input. -/
def numComparesWrong : ChangeSpec := { name := "numCompares", fn := fun _ => fun
  | [d1, d2] => { results := [.lit (.bool false)], args := [d1, d2] }
  | _ => none }
def NumComparesWrongFalsely : Prop := numComparesRow.holds Try.pinned (OpenSpec.ofChange numComparesWrong)

/- THE SECOND FORM. 'bulk': how many values and letters a reading holds, each counted each time it is reached (what is shared counts as often as it is met; a slice's spare places count too). A statement '..UptoSaid' is the law's where the arguments, and the package variables that the reading takes, are together of bulk at most 1048576: NARROWER than '..Said'. Prove '..Said' where nothing that the law and all that it calls make is longer than what came in: it says more and counts as full. Else prove '..UptoSaid'. A law counts once. -/
mutual
def uptoBulk {H : Type} : DataW H → Nat
  | .lit (.string bytes) => bytes.length + 1
  | .lit _ => 1
  | .nil => 1
  | .ptr d => uptoBulk d + 1
  | .slice elems spare => uptoBulkAll elems + uptoBulkAll spare + 1
  | .agg parts => uptoBulkAll parts + 1
  | .iface _ d => uptoBulk d + 1
  | .map entries => uptoBulkEntries entries + 1
  | .held _ => 1
def uptoBulkAll {H : Type} : List (DataW H) → Nat
  | [] => 0
  | d :: r => uptoBulk d + uptoBulkAll r
def uptoBulkEntries {H : Type} : List (Lit × DataW H) → Nat
  | [] => 0
  | x :: r => uptoBulkEntry x + uptoBulkEntries r
def uptoBulkEntry {H : Type} : Lit × DataW H → Nat
  | (.string bytes, d) => bytes.length + uptoBulk d + 1
  | (_, d) => uptoBulk d + 1
 end
def uptoSmall : (H : Type) → List (DataW H) → Bool := fun _ ds => decide (uptoBulkAll ds ≤ 1048576)
def OpenSpec.upto (s : _root_.Go.ChangeSpec) : _root_.Go.OpenSpec := { _root_.Go.OpenSpec.ofChange s with cond := some uptoSmall }

/-- 'ferrulelaw20.HintRound', WHERE WHAT IT READS IS OF BULK AT MOST 1048576: true; the input reads as it did. -/
def hintRoundUptoRow : OpenClaim := { program := "ytaocceijkiiciaa", sum := "a69de4ec5e98181efb7fc4a49ce73165f837e516bb449577a1b966facae5810e", func := "ferrule/ferrulelaw20.HintRound", spec := "hintRound", apart := false, narrowed := true }
def HintRoundUptoSaid : Prop := hintRoundUptoRow.holds Try.pinned (OpenSpec.upto hintRoundSpec)

/-- 'ferrulelaw01.NumParses', WHERE WHAT IT READS IS OF BULK AT MOST 1048576: true; the input reads as it did. -/
def numParsesUptoRow : OpenClaim := { program := "ytaocceijkiiciaa", sum := "a69de4ec5e98181efb7fc4a49ce73165f837e516bb449577a1b966facae5810e", func := "ferrule/ferrulelaw01.NumParses", spec := "numParses", apart := false, narrowed := true }
def NumParsesUptoSaid : Prop := numParsesUptoRow.holds Try.pinned (OpenSpec.upto numParsesSpec)

/-- 'ferrulelaw01.NumPlaces', WHERE WHAT IT READS IS OF BULK AT MOST 1048576: true; the input reads as it did. -/
def numPlacesUptoRow : OpenClaim := { program := "ytaocceijkiiciaa", sum := "a69de4ec5e98181efb7fc4a49ce73165f837e516bb449577a1b966facae5810e", func := "ferrule/ferrulelaw01.NumPlaces", spec := "numPlaces", apart := false, narrowed := true }
def NumPlacesUptoSaid : Prop := numPlacesUptoRow.holds Try.pinned (OpenSpec.upto numPlacesSpec)

/-- 'ferrulelaw20.HintAts', WHERE WHAT IT READS IS OF BULK AT MOST 1048576: true; the input reads as it did. -/
def hintAtsUptoRow : OpenClaim := { program := "ytaocceijkiiciaa", sum := "a69de4ec5e98181efb7fc4a49ce73165f837e516bb449577a1b966facae5810e", func := "ferrule/ferrulelaw20.HintAts", spec := "hintAts", unfollowed := true, recurses := true, apart := false, narrowed := true }
def HintAtsUptoSaid : Prop := hintAtsUptoRow.holds Try.pinned (OpenSpec.upto hintAtsSpec)

/-- 'ferrulelaw01.NumCompares', WHERE WHAT IT READS IS OF BULK AT MOST 1048576: true; the input reads as it did. -/
def numComparesUptoRow : OpenClaim := { program := "ytaocceijkiiciaa", sum := "a69de4ec5e98181efb7fc4a49ce73165f837e516bb449577a1b966facae5810e", func := "ferrule/ferrulelaw01.NumCompares", spec := "numCompares", inPlace := ["internal/bytealg.abigen_runtime_cmpstring"], apart := false, narrowed := true }
def NumComparesUptoSaid : Prop := numComparesUptoRow.holds Try.pinned (OpenSpec.upto numComparesSpec)

end Rows
end Go.Proofs.Ytaocceijkiiciaa
