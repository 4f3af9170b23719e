/-
  DERIVED. GIVEN WITH THE SEED: THE CARDS: each row of YtmfcloapbgfhaaaGreatDoorRows.lean that lists a variable, with what it lists TIED to the program's text (the seventh form; the later family's looks); each row that meets fmt, with fmt's text TOLD by the authors' own Lean function (tested against real Go, not proved from fmt's source: count such statements apart). THE CARD IS WHAT COUNTS. Prove the row's statement (the work); the ties are given (YtmfcloapbgfhaaaGreatDoorTie.lean); close each card by the builder's one call (the guide's Derived/Test/ToyasCard.lean, 'card_holds'). Laid BY PROGRAM, IN A SANDBOX (cutbox-door.mjs). By AI agents, Wed Nov 11 2026. No macro, syntax, notation, axiom, sorry.
-/
import Derived.Test.YtmfcloapbgfhaaaGreatDoorRows
import GoSem.ClaimSeven
namespace Go.Proofs.YtmfcloapbgfhaaaGreatDoor
namespace Rows

/-- THE TIED CARD OF 'recompilelaw39.BranchSwitches'. -/
def branchSwitchesCard : Claim7 := { stood := { row := branchSwitchesRow, standIns := [], harness := (true, "f89450d0494c5b352024d9c8d6398f9bb760b3587e97ba3a37360851ba92ac83"), looks := true }, kinds := [], alts := [], laidByText := true, laidKinds := [.data, .data, .data, .sentinel, .sentinel], laidTests := true, laidLooks := .later }
def BranchSwitchesCardSaid : Prop := Claim7.holds Tryz.pinned (.plain (OpenSpec.ofChange branchSwitchesSpec)) branchSwitchesCard

/-- THE TIED CARD OF 'recompilelaw39.BranchActs'. -/
def branchActsCard : Claim7 := { stood := { row := branchActsRow, standIns := [], harness := (true, "f89450d0494c5b352024d9c8d6398f9bb760b3587e97ba3a37360851ba92ac83"), looks := true }, kinds := [], alts := [], laidByText := true, laidKinds := [.data, .data, .data, .sentinel, .sentinel], laidTests := true, laidLooks := .later }
def BranchActsCardSaid : Prop := Claim7.holds Tryz.pinned (.plain (OpenSpec.ofChange branchActsSpec)) branchActsCard

/-- THE SECOND FORM's CARD OF 'recompilelaw39.BranchSwitches'. -/
def branchSwitchesUptoCard : Claim7 := { stood := { row := branchSwitchesUptoRow, standIns := [], harness := (true, "f89450d0494c5b352024d9c8d6398f9bb760b3587e97ba3a37360851ba92ac83"), looks := true }, kinds := [], alts := [], laidByText := true, laidKinds := [.data, .data, .data, .sentinel, .sentinel], laidTests := true, laidLooks := .later }
def BranchSwitchesUptoCardSaid : Prop := Claim7.holds Tryz.pinned (.plain (OpenSpec.upto branchSwitchesSpec)) branchSwitchesUptoCard

/-- THE SECOND FORM's CARD OF 'recompilelaw39.BranchActs'. -/
def branchActsUptoCard : Claim7 := { stood := { row := branchActsUptoRow, standIns := [], harness := (true, "f89450d0494c5b352024d9c8d6398f9bb760b3587e97ba3a37360851ba92ac83"), looks := true }, kinds := [], alts := [], laidByText := true, laidKinds := [.data, .data, .data, .sentinel, .sentinel], laidTests := true, laidLooks := .later }
def BranchActsUptoCardSaid : Prop := Claim7.holds Tryz.pinned (.plain (OpenSpec.upto branchActsSpec)) branchActsUptoCard
end Rows
end Go.Proofs.YtmfcloapbgfhaaaGreatDoor
