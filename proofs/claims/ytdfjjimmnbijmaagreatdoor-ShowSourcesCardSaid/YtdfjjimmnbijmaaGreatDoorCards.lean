/-
  DERIVED. GIVEN WITH THE SEED: THE CARDS: each row of YtdfjjimmnbijmaaGreatDoorRows.lean that lists a variable, with what it lists TIED to the program's text (the seventh form; the later family's looks); each row that meets fmt, with fmt's text TOLD by the authors' own Lean function (tested against real Go, not proved from fmt's source: count such statements apart). THE CARD IS WHAT COUNTS. Prove the row's statement (the work); the ties are given (YtdfjjimmnbijmaaGreatDoorTie.lean); close each card by the builder's one call (the guide's Derived/Test/ToyasCard.lean, 'card_holds'). Laid BY PROGRAM, IN A SANDBOX (cutbox-door.mjs). By AI agents, Wed Nov 11 2026. No macro, syntax, notation, axiom, sorry.
-/
import Derived.Test.YtdfjjimmnbijmaaGreatDoorRows
import GoSem.ClaimSeven
namespace Go.Proofs.YtdfjjimmnbijmaaGreatDoor
namespace Rows

/-- THE TIED CARD OF 'doorwardlaw17.ShowPrints'. -/
def showPrintsCard : Claim7 := { stood := { row := showPrintsRow, standIns := [], harness := (true, "57cb4e1998f8be873eb86ed0dd257ace1a7de2ed23f3fa097e3a625341fba64b"), looks := true }, kinds := [], alts := [], laidByText := true, laidKinds := [.data, .data, .data, .data, .sentinel, .sentinel, .pinned, .pinned], laidTests := true, laidLooks := .later }
def ShowPrintsCardSaid : Prop := Claim7.holds Tryz.pinned (.plain (OpenSpec.ofChange showPrintsSpec)) showPrintsCard

/-- THE TIED CARD OF 'doorwardlaw17.ShowSources'. -/
def showSourcesCard : Claim7 := { stood := { row := showSourcesRow, standIns := [], harness := (true, "57cb4e1998f8be873eb86ed0dd257ace1a7de2ed23f3fa097e3a625341fba64b"), looks := true }, kinds := [], alts := [], laidByText := true, laidKinds := [.data, .data, .data, .data, .sentinel, .sentinel, .pinned, .pinned], laidTests := true, laidLooks := .later }
def ShowSourcesCardSaid : Prop := Claim7.holds Tryz.pinned (.plain (OpenSpec.ofChange showSourcesSpec)) showSourcesCard

/-- THE TIED CARD OF 'doorwardlaw17.ShowBack'. -/
def showBackCard : Claim7 := { stood := { row := showBackRow, standIns := [], harness := (true, "57cb4e1998f8be873eb86ed0dd257ace1a7de2ed23f3fa097e3a625341fba64b"), looks := true }, kinds := [], alts := [], laidByText := true, laidKinds := [.data, .data, .data, .data, .sentinel, .sentinel, .pinned, .pinned], laidTests := true, laidLooks := .later }
def ShowBackCardSaid : Prop := Claim7.holds Tryz.pinned (.plain (OpenSpec.ofChange showBackSpec)) showBackCard

/-- THE SECOND FORM's CARD OF 'doorwardlaw17.ShowPrints'. -/
def showPrintsUptoCard : Claim7 := { stood := { row := showPrintsUptoRow, standIns := [], harness := (true, "57cb4e1998f8be873eb86ed0dd257ace1a7de2ed23f3fa097e3a625341fba64b"), looks := true }, kinds := [], alts := [], laidByText := true, laidKinds := [.data, .data, .data, .data, .sentinel, .sentinel, .pinned, .pinned], laidTests := true, laidLooks := .later }
def ShowPrintsUptoCardSaid : Prop := Claim7.holds Tryz.pinned (.plain (OpenSpec.upto showPrintsSpec)) showPrintsUptoCard

/-- THE SECOND FORM's CARD OF 'doorwardlaw17.ShowSources'. -/
def showSourcesUptoCard : Claim7 := { stood := { row := showSourcesUptoRow, standIns := [], harness := (true, "57cb4e1998f8be873eb86ed0dd257ace1a7de2ed23f3fa097e3a625341fba64b"), looks := true }, kinds := [], alts := [], laidByText := true, laidKinds := [.data, .data, .data, .data, .sentinel, .sentinel, .pinned, .pinned], laidTests := true, laidLooks := .later }
def ShowSourcesUptoCardSaid : Prop := Claim7.holds Tryz.pinned (.plain (OpenSpec.upto showSourcesSpec)) showSourcesUptoCard

/-- THE SECOND FORM's CARD OF 'doorwardlaw17.ShowBack'. -/
def showBackUptoCard : Claim7 := { stood := { row := showBackUptoRow, standIns := [], harness := (true, "57cb4e1998f8be873eb86ed0dd257ace1a7de2ed23f3fa097e3a625341fba64b"), looks := true }, kinds := [], alts := [], laidByText := true, laidKinds := [.data, .data, .data, .data, .sentinel, .sentinel, .pinned, .pinned], laidTests := true, laidLooks := .later }
def ShowBackUptoCardSaid : Prop := Claim7.holds Tryz.pinned (.plain (OpenSpec.upto showBackSpec)) showBackUptoCard
end Rows
end Go.Proofs.YtdfjjimmnbijmaaGreatDoor
