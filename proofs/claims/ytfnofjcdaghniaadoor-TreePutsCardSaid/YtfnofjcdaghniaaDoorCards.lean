/-
  DERIVED. GIVEN WITH THE SEED: THE CARDS: each row of YtfnofjcdaghniaaDoorRows.lean that lists a variable, with what it lists TIED to the program's text (the seventh form; the later family's looks); each row that meets fmt, with fmt's text TOLD by the authors' own Lean function (tested against real Go, not proved from fmt's source: count such statements apart). THE CARD IS WHAT COUNTS. Prove the row's statement (the work); the ties are given (YtfnofjcdaghniaaDoorTie.lean); close each card by the builder's one call (the guide's Derived/Test/ToyasCard.lean, 'card_holds'). Laid BY PROGRAM, IN A SANDBOX (cutbox-door.mjs). By AI agents, Wed Nov 11 2026. No macro, syntax, notation, axiom, sorry.
-/
import Derived.Test.YtfnofjcdaghniaaDoorRows
import GoSem.ClaimSeven
namespace Go.Proofs.YtfnofjcdaghniaaDoor
namespace Rows

/-- THE TIED CARD OF 'pantrylaw4.TreeChecks'. -/
def treeChecksCard : Claim7 := { stood := { row := treeChecksRow, standIns := [], harness := (true, "e435e6c204967ee9eac781b69109aad02b5c9c37d311c5a3767ec65b40f93de0"), looks := false }, kinds := [], alts := [], laidByText := true, laidKinds := [.data, .pinned], laidTests := true, laidLooks := .later }
def TreeChecksCardSaid : Prop := Claim7.holds Tryd.pinned (.plain (OpenSpec.ofChange treeChecksSpec)) treeChecksCard

/-- THE TIED CARD OF 'pantrylaw4.TreeFound'. -/
def treeFoundCard : Claim7 := { stood := { row := treeFoundRow, standIns := [], harness := (true, "e435e6c204967ee9eac781b69109aad02b5c9c37d311c5a3767ec65b40f93de0"), looks := false }, kinds := [], alts := [], laidByText := true, laidKinds := [.data, .pinned], laidTests := true, laidLooks := .later }
def TreeFoundCardSaid : Prop := Claim7.holds Tryd.pinned (.plain (OpenSpec.ofChange treeFoundSpec)) treeFoundCard

/-- THE TIED CARD OF 'pantrylaw4.TreePlaces'. -/
def treePlacesCard : Claim7 := { stood := { row := treePlacesRow, standIns := [], harness := (true, "e435e6c204967ee9eac781b69109aad02b5c9c37d311c5a3767ec65b40f93de0"), looks := false }, kinds := [], alts := [], laidByText := true, laidKinds := [.data, .pinned], laidTests := true, laidLooks := .later }
def TreePlacesCardSaid : Prop := Claim7.holds Tryd.pinned (.plain (OpenSpec.ofChange treePlacesSpec)) treePlacesCard

/-- THE TIED CARD OF 'pantrylaw4.TreePuts'. -/
def treePutsCard : Claim7 := { stood := { row := treePutsRow, standIns := [], harness := (true, "e435e6c204967ee9eac781b69109aad02b5c9c37d311c5a3767ec65b40f93de0"), looks := false }, kinds := [], alts := [], laidByText := true, laidKinds := [.data, .pinned], laidTests := true, laidLooks := .later }
def TreePutsCardSaid : Prop := Claim7.holds Tryd.pinned (.plain (OpenSpec.ofChange treePutsSpec)) treePutsCard

/-- THE TIED CARD OF 'pantrylaw4.TreeElse'. -/
def treeElseCard : Claim7 := { stood := { row := treeElseRow, standIns := [], harness := (true, "e435e6c204967ee9eac781b69109aad02b5c9c37d311c5a3767ec65b40f93de0"), looks := false }, kinds := [], alts := [], laidByText := true, laidKinds := [.data, .pinned], laidTests := true, laidLooks := .later }
def TreeElseCardSaid : Prop := Claim7.holds Tryd.pinned (.plain (OpenSpec.ofChange treeElseSpec)) treeElseCard

/-- THE TIED CARD OF 'pantrylaw4.TreeAbove'. -/
def treeAboveCard : Claim7 := { stood := { row := treeAboveRow, standIns := [], harness := (true, "e435e6c204967ee9eac781b69109aad02b5c9c37d311c5a3767ec65b40f93de0"), looks := false }, kinds := [], alts := [], laidByText := true, laidKinds := [.data, .pinned], laidTests := true, laidLooks := .later }
def TreeAboveCardSaid : Prop := Claim7.holds Tryd.pinned (.plain (OpenSpec.ofChange treeAboveSpec)) treeAboveCard

/-- THE TIED CARD OF 'pantrylaw4.TreeCounts'. -/
def treeCountsCard : Claim7 := { stood := { row := treeCountsRow, standIns := [], harness := (true, "e435e6c204967ee9eac781b69109aad02b5c9c37d311c5a3767ec65b40f93de0"), looks := false }, kinds := [], alts := [], laidByText := true, laidKinds := [.data, .pinned], laidTests := true, laidLooks := .later }
def TreeCountsCardSaid : Prop := Claim7.holds Tryd.pinned (.plain (OpenSpec.ofChange treeCountsSpec)) treeCountsCard

/-- THE SECOND FORM's CARD OF 'pantrylaw4.TreeChecks'. -/
def treeChecksUptoCard : Claim7 := { stood := { row := treeChecksUptoRow, standIns := [], harness := (true, "e435e6c204967ee9eac781b69109aad02b5c9c37d311c5a3767ec65b40f93de0"), looks := false }, kinds := [], alts := [], laidByText := true, laidKinds := [.data, .pinned], laidTests := true, laidLooks := .later }
def TreeChecksUptoCardSaid : Prop := Claim7.holds Tryd.pinned (.plain (OpenSpec.upto treeChecksSpec)) treeChecksUptoCard

/-- THE SECOND FORM's CARD OF 'pantrylaw4.TreeFound'. -/
def treeFoundUptoCard : Claim7 := { stood := { row := treeFoundUptoRow, standIns := [], harness := (true, "e435e6c204967ee9eac781b69109aad02b5c9c37d311c5a3767ec65b40f93de0"), looks := false }, kinds := [], alts := [], laidByText := true, laidKinds := [.data, .pinned], laidTests := true, laidLooks := .later }
def TreeFoundUptoCardSaid : Prop := Claim7.holds Tryd.pinned (.plain (OpenSpec.upto treeFoundSpec)) treeFoundUptoCard

/-- THE SECOND FORM's CARD OF 'pantrylaw4.TreePlaces'. -/
def treePlacesUptoCard : Claim7 := { stood := { row := treePlacesUptoRow, standIns := [], harness := (true, "e435e6c204967ee9eac781b69109aad02b5c9c37d311c5a3767ec65b40f93de0"), looks := false }, kinds := [], alts := [], laidByText := true, laidKinds := [.data, .pinned], laidTests := true, laidLooks := .later }
def TreePlacesUptoCardSaid : Prop := Claim7.holds Tryd.pinned (.plain (OpenSpec.upto treePlacesSpec)) treePlacesUptoCard

/-- THE SECOND FORM's CARD OF 'pantrylaw4.TreePuts'. -/
def treePutsUptoCard : Claim7 := { stood := { row := treePutsUptoRow, standIns := [], harness := (true, "e435e6c204967ee9eac781b69109aad02b5c9c37d311c5a3767ec65b40f93de0"), looks := false }, kinds := [], alts := [], laidByText := true, laidKinds := [.data, .pinned], laidTests := true, laidLooks := .later }
def TreePutsUptoCardSaid : Prop := Claim7.holds Tryd.pinned (.plain (OpenSpec.upto treePutsSpec)) treePutsUptoCard

/-- THE SECOND FORM's CARD OF 'pantrylaw4.TreeElse'. -/
def treeElseUptoCard : Claim7 := { stood := { row := treeElseUptoRow, standIns := [], harness := (true, "e435e6c204967ee9eac781b69109aad02b5c9c37d311c5a3767ec65b40f93de0"), looks := false }, kinds := [], alts := [], laidByText := true, laidKinds := [.data, .pinned], laidTests := true, laidLooks := .later }
def TreeElseUptoCardSaid : Prop := Claim7.holds Tryd.pinned (.plain (OpenSpec.upto treeElseSpec)) treeElseUptoCard

/-- THE SECOND FORM's CARD OF 'pantrylaw4.TreeAbove'. -/
def treeAboveUptoCard : Claim7 := { stood := { row := treeAboveUptoRow, standIns := [], harness := (true, "e435e6c204967ee9eac781b69109aad02b5c9c37d311c5a3767ec65b40f93de0"), looks := false }, kinds := [], alts := [], laidByText := true, laidKinds := [.data, .pinned], laidTests := true, laidLooks := .later }
def TreeAboveUptoCardSaid : Prop := Claim7.holds Tryd.pinned (.plain (OpenSpec.upto treeAboveSpec)) treeAboveUptoCard

/-- THE SECOND FORM's CARD OF 'pantrylaw4.TreeCounts'. -/
def treeCountsUptoCard : Claim7 := { stood := { row := treeCountsUptoRow, standIns := [], harness := (true, "e435e6c204967ee9eac781b69109aad02b5c9c37d311c5a3767ec65b40f93de0"), looks := false }, kinds := [], alts := [], laidByText := true, laidKinds := [.data, .pinned], laidTests := true, laidLooks := .later }
def TreeCountsUptoCardSaid : Prop := Claim7.holds Tryd.pinned (.plain (OpenSpec.upto treeCountsSpec)) treeCountsUptoCard
end Rows
end Go.Proofs.YtfnofjcdaghniaaDoor
