/-
  DERIVED. GIVEN WITH THE SEED: THE CARDS: each row of YtildmfegfkiknaaDoorRows.lean that lists a variable, with what it lists TIED to the program's text (the seventh form; the later family's looks); each row that meets fmt, with fmt's text TOLD by the authors' own Lean function (tested against real Go, not proved from fmt's source: count such statements apart). THE CARD IS WHAT COUNTS. Prove the row's statement (the work); the ties are given (YtildmfegfkiknaaDoorTie.lean); close each card by the builder's one call (the guide's Derived/Test/ToyasCard.lean, 'card_holds'). Laid BY PROGRAM, IN A SANDBOX (cutbox-door.mjs). By AI agents, Wed Nov 11 2026. No macro, syntax, notation, axiom, sorry.
-/
import Derived.Test.YtildmfegfkiknaaDoorRows
import GoSem.ClaimSeven
namespace Go.Proofs.YtildmfegfkiknaaDoor
namespace Rows

/-- THE TIED CARD OF 'ferrulelaw02.IdentRows'. -/
def identRowsCard : Claim7 := { stood := { row := identRowsRow, standIns := [], harness := (true, "1bd535f53ad66338a03e98a9bd4bdf6dda77f2f8b0c2907b592fff47d5d9ddd1"), looks := false }, kinds := [], alts := [], laidByText := true, laidKinds := [.data, .pinned], laidTests := true, laidLooks := .later }
def IdentRowsCardSaid : Prop := Claim7.holds Tryd.pinned (.plain (OpenSpec.ofChange identRowsSpec)) identRowsCard

/-- THE TIED CARD OF 'ferrulelaw02.IdentOrders'. -/
def identOrdersCard : Claim7 := { stood := { row := identOrdersRow, standIns := [], harness := (true, "1bd535f53ad66338a03e98a9bd4bdf6dda77f2f8b0c2907b592fff47d5d9ddd1"), looks := false }, kinds := [], alts := [], laidByText := true, laidKinds := [.data, .pinned], laidTests := true, laidLooks := .later }
def IdentOrdersCardSaid : Prop := Claim7.holds Tryd.pinned (.plain (OpenSpec.ofChange identOrdersSpec)) identOrdersCard

/-- THE TIED CARD OF 'ferrulelaw02.IdentLonger'. -/
def identLongerCard : Claim7 := { stood := { row := identLongerRow, standIns := [], harness := (true, "1bd535f53ad66338a03e98a9bd4bdf6dda77f2f8b0c2907b592fff47d5d9ddd1"), looks := false }, kinds := [], alts := [], laidByText := true, laidKinds := [.data, .pinned], laidTests := true, laidLooks := .later }
def IdentLongerCardSaid : Prop := Claim7.holds Tryd.pinned (.plain (OpenSpec.ofChange identLongerSpec)) identLongerCard

/-- THE TIED CARD OF 'ferrulelaw04.PrecEnds'. -/
def precEndsCard : Claim7 := { stood := { row := precEndsRow, standIns := [], harness := (true, "1bd535f53ad66338a03e98a9bd4bdf6dda77f2f8b0c2907b592fff47d5d9ddd1"), looks := false }, kinds := [], alts := [], laidByText := true, laidKinds := [.data, .pinned], laidTests := true, laidLooks := .later }
def PrecEndsCardSaid : Prop := Claim7.holds Tryd.pinned (.plain (OpenSpec.ofChange precEndsSpec)) precEndsCard

/-- THE TIED CARD OF 'ferrulelaw03.SemverParses'. -/
def semverParsesCard : Claim7 := { stood := { row := semverParsesRow, standIns := [], harness := (true, "1bd535f53ad66338a03e98a9bd4bdf6dda77f2f8b0c2907b592fff47d5d9ddd1"), looks := false }, kinds := [], alts := [], laidByText := true, laidKinds := [.data, .pinned], laidTests := true, laidLooks := .later }
def SemverParsesCardSaid : Prop := Claim7.holds Tryd.pinned (.plain (OpenSpec.ofChange semverParsesSpec)) semverParsesCard

/-- THE TIED CARD OF 'ferrulelaw03.SemverPlaces'. -/
def semverPlacesCard : Claim7 := { stood := { row := semverPlacesRow, standIns := [], harness := (true, "1bd535f53ad66338a03e98a9bd4bdf6dda77f2f8b0c2907b592fff47d5d9ddd1"), looks := false }, kinds := [], alts := [], laidByText := true, laidKinds := [.data, .pinned], laidTests := true, laidLooks := .later }
def SemverPlacesCardSaid : Prop := Claim7.holds Tryd.pinned (.plain (OpenSpec.ofChange semverPlacesSpec)) semverPlacesCard

/-- THE TIED CARD OF 'ferrulelaw04.PrecOrders'. -/
def precOrdersCard : Claim7 := { stood := { row := precOrdersRow, standIns := [], harness := (true, "1bd535f53ad66338a03e98a9bd4bdf6dda77f2f8b0c2907b592fff47d5d9ddd1"), looks := false }, kinds := [], alts := [], laidByText := true, laidKinds := [.data, .pinned], laidTests := true, laidLooks := .later }
def PrecOrdersCardSaid : Prop := Claim7.holds Tryd.pinned (.plain (OpenSpec.ofChange precOrdersSpec)) precOrdersCard

/-- THE TIED CARD OF 'ferrulelaw04.PrecBuilds'. -/
def precBuildsCard : Claim7 := { stood := { row := precBuildsRow, standIns := [], harness := (true, "1bd535f53ad66338a03e98a9bd4bdf6dda77f2f8b0c2907b592fff47d5d9ddd1"), looks := false }, kinds := [], alts := [], laidByText := true, laidKinds := [.data, .pinned], laidTests := true, laidLooks := .later }
def PrecBuildsCardSaid : Prop := Claim7.holds Tryd.pinned (.plain (OpenSpec.ofChange precBuildsSpec)) precBuildsCard

/-- THE TIED CARD OF 'ferrulelaw02.IdentGood'. -/
def identGoodCard : Claim7 := { stood := { row := identGoodRow, standIns := [], harness := (true, "1bd535f53ad66338a03e98a9bd4bdf6dda77f2f8b0c2907b592fff47d5d9ddd1"), looks := false }, kinds := [], alts := [], laidByText := true, laidKinds := [.data, .pinned], laidTests := true, laidLooks := .later }
def IdentGoodCardSaid : Prop := Claim7.holds Tryd.pinned (.plain (OpenSpec.ofChange identGoodSpec)) identGoodCard

/-- THE TIED CARD OF 'ferrulelaw03.SemverTexts'. -/
def semverTextsCard : Claim7 := { stood := { row := semverTextsRow, standIns := [], harness := (true, "1bd535f53ad66338a03e98a9bd4bdf6dda77f2f8b0c2907b592fff47d5d9ddd1"), looks := false }, kinds := [], alts := [], laidByText := true, laidKinds := [.data, .data, .data, .data, .pinned], laidTests := true, laidLooks := .later }
def SemverTextsCardSaid : Prop := Claim7.holds Tryd.pinned (.plain (OpenSpec.ofChange semverTextsSpec)) semverTextsCard

/-- THE TIED CARD OF 'ferrulelaw03.SemverBack'. -/
def semverBackCard : Claim7 := { stood := { row := semverBackRow, standIns := [], harness := (true, "1bd535f53ad66338a03e98a9bd4bdf6dda77f2f8b0c2907b592fff47d5d9ddd1"), looks := false }, kinds := [], alts := [], laidByText := true, laidKinds := [.data, .data, .data, .data, .pinned], laidTests := true, laidLooks := .later }
def SemverBackCardSaid : Prop := Claim7.holds Tryd.pinned (.plain (OpenSpec.ofChange semverBackSpec)) semverBackCard

/-- THE SECOND FORM's CARD OF 'ferrulelaw02.IdentRows'. -/
def identRowsUptoCard : Claim7 := { stood := { row := identRowsUptoRow, standIns := [], harness := (true, "1bd535f53ad66338a03e98a9bd4bdf6dda77f2f8b0c2907b592fff47d5d9ddd1"), looks := false }, kinds := [], alts := [], laidByText := true, laidKinds := [.data, .pinned], laidTests := true, laidLooks := .later }
def IdentRowsUptoCardSaid : Prop := Claim7.holds Tryd.pinned (.plain (OpenSpec.upto identRowsSpec)) identRowsUptoCard

/-- THE SECOND FORM's CARD OF 'ferrulelaw02.IdentOrders'. -/
def identOrdersUptoCard : Claim7 := { stood := { row := identOrdersUptoRow, standIns := [], harness := (true, "1bd535f53ad66338a03e98a9bd4bdf6dda77f2f8b0c2907b592fff47d5d9ddd1"), looks := false }, kinds := [], alts := [], laidByText := true, laidKinds := [.data, .pinned], laidTests := true, laidLooks := .later }
def IdentOrdersUptoCardSaid : Prop := Claim7.holds Tryd.pinned (.plain (OpenSpec.upto identOrdersSpec)) identOrdersUptoCard

/-- THE SECOND FORM's CARD OF 'ferrulelaw02.IdentLonger'. -/
def identLongerUptoCard : Claim7 := { stood := { row := identLongerUptoRow, standIns := [], harness := (true, "1bd535f53ad66338a03e98a9bd4bdf6dda77f2f8b0c2907b592fff47d5d9ddd1"), looks := false }, kinds := [], alts := [], laidByText := true, laidKinds := [.data, .pinned], laidTests := true, laidLooks := .later }
def IdentLongerUptoCardSaid : Prop := Claim7.holds Tryd.pinned (.plain (OpenSpec.upto identLongerSpec)) identLongerUptoCard

/-- THE SECOND FORM's CARD OF 'ferrulelaw04.PrecEnds'. -/
def precEndsUptoCard : Claim7 := { stood := { row := precEndsUptoRow, standIns := [], harness := (true, "1bd535f53ad66338a03e98a9bd4bdf6dda77f2f8b0c2907b592fff47d5d9ddd1"), looks := false }, kinds := [], alts := [], laidByText := true, laidKinds := [.data, .pinned], laidTests := true, laidLooks := .later }
def PrecEndsUptoCardSaid : Prop := Claim7.holds Tryd.pinned (.plain (OpenSpec.upto precEndsSpec)) precEndsUptoCard

/-- THE SECOND FORM's CARD OF 'ferrulelaw03.SemverParses'. -/
def semverParsesUptoCard : Claim7 := { stood := { row := semverParsesUptoRow, standIns := [], harness := (true, "1bd535f53ad66338a03e98a9bd4bdf6dda77f2f8b0c2907b592fff47d5d9ddd1"), looks := false }, kinds := [], alts := [], laidByText := true, laidKinds := [.data, .pinned], laidTests := true, laidLooks := .later }
def SemverParsesUptoCardSaid : Prop := Claim7.holds Tryd.pinned (.plain (OpenSpec.upto semverParsesSpec)) semverParsesUptoCard

/-- THE SECOND FORM's CARD OF 'ferrulelaw03.SemverPlaces'. -/
def semverPlacesUptoCard : Claim7 := { stood := { row := semverPlacesUptoRow, standIns := [], harness := (true, "1bd535f53ad66338a03e98a9bd4bdf6dda77f2f8b0c2907b592fff47d5d9ddd1"), looks := false }, kinds := [], alts := [], laidByText := true, laidKinds := [.data, .pinned], laidTests := true, laidLooks := .later }
def SemverPlacesUptoCardSaid : Prop := Claim7.holds Tryd.pinned (.plain (OpenSpec.upto semverPlacesSpec)) semverPlacesUptoCard

/-- THE SECOND FORM's CARD OF 'ferrulelaw04.PrecOrders'. -/
def precOrdersUptoCard : Claim7 := { stood := { row := precOrdersUptoRow, standIns := [], harness := (true, "1bd535f53ad66338a03e98a9bd4bdf6dda77f2f8b0c2907b592fff47d5d9ddd1"), looks := false }, kinds := [], alts := [], laidByText := true, laidKinds := [.data, .pinned], laidTests := true, laidLooks := .later }
def PrecOrdersUptoCardSaid : Prop := Claim7.holds Tryd.pinned (.plain (OpenSpec.upto precOrdersSpec)) precOrdersUptoCard

/-- THE SECOND FORM's CARD OF 'ferrulelaw04.PrecBuilds'. -/
def precBuildsUptoCard : Claim7 := { stood := { row := precBuildsUptoRow, standIns := [], harness := (true, "1bd535f53ad66338a03e98a9bd4bdf6dda77f2f8b0c2907b592fff47d5d9ddd1"), looks := false }, kinds := [], alts := [], laidByText := true, laidKinds := [.data, .pinned], laidTests := true, laidLooks := .later }
def PrecBuildsUptoCardSaid : Prop := Claim7.holds Tryd.pinned (.plain (OpenSpec.upto precBuildsSpec)) precBuildsUptoCard

/-- THE SECOND FORM's CARD OF 'ferrulelaw02.IdentGood'. -/
def identGoodUptoCard : Claim7 := { stood := { row := identGoodUptoRow, standIns := [], harness := (true, "1bd535f53ad66338a03e98a9bd4bdf6dda77f2f8b0c2907b592fff47d5d9ddd1"), looks := false }, kinds := [], alts := [], laidByText := true, laidKinds := [.data, .pinned], laidTests := true, laidLooks := .later }
def IdentGoodUptoCardSaid : Prop := Claim7.holds Tryd.pinned (.plain (OpenSpec.upto identGoodSpec)) identGoodUptoCard

/-- THE SECOND FORM's CARD OF 'ferrulelaw03.SemverTexts'. -/
def semverTextsUptoCard : Claim7 := { stood := { row := semverTextsUptoRow, standIns := [], harness := (true, "1bd535f53ad66338a03e98a9bd4bdf6dda77f2f8b0c2907b592fff47d5d9ddd1"), looks := false }, kinds := [], alts := [], laidByText := true, laidKinds := [.data, .data, .data, .data, .pinned], laidTests := true, laidLooks := .later }
def SemverTextsUptoCardSaid : Prop := Claim7.holds Tryd.pinned (.plain (OpenSpec.upto semverTextsSpec)) semverTextsUptoCard

/-- THE SECOND FORM's CARD OF 'ferrulelaw03.SemverBack'. -/
def semverBackUptoCard : Claim7 := { stood := { row := semverBackUptoRow, standIns := [], harness := (true, "1bd535f53ad66338a03e98a9bd4bdf6dda77f2f8b0c2907b592fff47d5d9ddd1"), looks := false }, kinds := [], alts := [], laidByText := true, laidKinds := [.data, .data, .data, .data, .pinned], laidTests := true, laidLooks := .later }
def SemverBackUptoCardSaid : Prop := Claim7.holds Tryd.pinned (.plain (OpenSpec.upto semverBackSpec)) semverBackUptoCard
end Rows
end Go.Proofs.YtildmfegfkiknaaDoor
