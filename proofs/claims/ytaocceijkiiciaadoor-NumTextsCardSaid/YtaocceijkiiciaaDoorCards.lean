/-
  DERIVED. GIVEN WITH THE SEED: THE CARDS: each row of YtaocceijkiiciaaDoorRows.lean that lists a variable, with what it lists TIED to the program's text (the seventh form; the later family's looks); each row that meets fmt, with fmt's text TOLD by the authors' own Lean function (tested against real Go, not proved from fmt's source: count such statements apart). THE CARD IS WHAT COUNTS. Prove the row's statement (the work); the ties are given (YtaocceijkiiciaaDoorTie.lean); close each card by the builder's one call (the guide's Derived/Test/ToyasCard.lean, 'card_holds'). Laid BY PROGRAM, IN A SANDBOX (cutbox-door.mjs). By AI agents, Wed Nov 11 2026. No macro, syntax, notation, axiom, sorry.
-/
import Derived.Test.YtaocceijkiiciaaDoorRows
import GoSem.ClaimSeven
namespace Go.Proofs.YtaocceijkiiciaaDoor
namespace Rows

/-- THE TIED CARD OF 'ferrulelaw01.NumTexts'. -/
def numTextsCard : Claim7 := { stood := { row := numTextsRow, standIns := [], harness := (true, "054e62b34916981b80bc24125fd09755bd816c5686c527dfcb21c8bff83b82b0"), looks := false }, kinds := [], alts := [], laidByText := true, laidKinds := [.data, .data, .data], laidTests := true, laidLooks := .later }
def NumTextsCardSaid : Prop := Claim7.holds Tryd.pinned (.plain (OpenSpec.ofChange numTextsSpec)) numTextsCard

/-- THE TIED CARD OF 'ferrulelaw01.NumOrders'. -/
def numOrdersCard : Claim7 := { stood := { row := numOrdersRow, standIns := [], harness := (true, "054e62b34916981b80bc24125fd09755bd816c5686c527dfcb21c8bff83b82b0"), looks := false }, kinds := [], alts := [], laidByText := true, laidKinds := [.data, .data, .data], laidTests := true, laidLooks := .later }
def NumOrdersCardSaid : Prop := Claim7.holds Tryd.pinned (.plain (OpenSpec.ofChange numOrdersSpec)) numOrdersCard

/-- THE TIED CARD OF 'ferrulelaw20.HintTexts'. -/
def hintTextsCard : Claim7 := { stood := { row := hintTextsRow, standIns := [], harness := (true, "054e62b34916981b80bc24125fd09755bd816c5686c527dfcb21c8bff83b82b0"), looks := false }, kinds := [], alts := [], laidByText := true, laidKinds := [.data, .data, .data, .data], laidTests := true, laidLooks := .later }
def HintTextsCardSaid : Prop := Claim7.holds Tryd.pinned (.plain (OpenSpec.ofChange hintTextsSpec)) hintTextsCard

/-- THE TIED CARD OF 'ferrulelaw20.HintReads'. -/
def hintReadsCard : Claim7 := { stood := { row := hintReadsRow, standIns := [], harness := (true, "054e62b34916981b80bc24125fd09755bd816c5686c527dfcb21c8bff83b82b0"), looks := false }, kinds := [], alts := [], laidByText := true, laidKinds := [.data, .data, .data, .data], laidTests := true, laidLooks := .later }
def HintReadsCardSaid : Prop := Claim7.holds Tryd.pinned (.plain (OpenSpec.ofChange hintReadsSpec)) hintReadsCard

/-- THE SECOND FORM's CARD OF 'ferrulelaw01.NumTexts'. -/
def numTextsUptoCard : Claim7 := { stood := { row := numTextsUptoRow, standIns := [], harness := (true, "054e62b34916981b80bc24125fd09755bd816c5686c527dfcb21c8bff83b82b0"), looks := false }, kinds := [], alts := [], laidByText := true, laidKinds := [.data, .data, .data], laidTests := true, laidLooks := .later }
def NumTextsUptoCardSaid : Prop := Claim7.holds Tryd.pinned (.plain (OpenSpec.upto numTextsSpec)) numTextsUptoCard

/-- THE SECOND FORM's CARD OF 'ferrulelaw01.NumOrders'. -/
def numOrdersUptoCard : Claim7 := { stood := { row := numOrdersUptoRow, standIns := [], harness := (true, "054e62b34916981b80bc24125fd09755bd816c5686c527dfcb21c8bff83b82b0"), looks := false }, kinds := [], alts := [], laidByText := true, laidKinds := [.data, .data, .data], laidTests := true, laidLooks := .later }
def NumOrdersUptoCardSaid : Prop := Claim7.holds Tryd.pinned (.plain (OpenSpec.upto numOrdersSpec)) numOrdersUptoCard

/-- THE SECOND FORM's CARD OF 'ferrulelaw20.HintTexts'. -/
def hintTextsUptoCard : Claim7 := { stood := { row := hintTextsUptoRow, standIns := [], harness := (true, "054e62b34916981b80bc24125fd09755bd816c5686c527dfcb21c8bff83b82b0"), looks := false }, kinds := [], alts := [], laidByText := true, laidKinds := [.data, .data, .data, .data], laidTests := true, laidLooks := .later }
def HintTextsUptoCardSaid : Prop := Claim7.holds Tryd.pinned (.plain (OpenSpec.upto hintTextsSpec)) hintTextsUptoCard

/-- THE SECOND FORM's CARD OF 'ferrulelaw20.HintReads'. -/
def hintReadsUptoCard : Claim7 := { stood := { row := hintReadsUptoRow, standIns := [], harness := (true, "054e62b34916981b80bc24125fd09755bd816c5686c527dfcb21c8bff83b82b0"), looks := false }, kinds := [], alts := [], laidByText := true, laidKinds := [.data, .data, .data, .data], laidTests := true, laidLooks := .later }
def HintReadsUptoCardSaid : Prop := Claim7.holds Tryd.pinned (.plain (OpenSpec.upto hintReadsSpec)) hintReadsUptoCard
end Rows
end Go.Proofs.YtaocceijkiiciaaDoor
