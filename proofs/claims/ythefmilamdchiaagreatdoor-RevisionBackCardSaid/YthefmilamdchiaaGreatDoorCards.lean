/-
  DERIVED. GIVEN WITH THE SEED: THE CARDS: each row of YthefmilamdchiaaGreatDoorRows.lean that lists a variable, with what it lists TIED to the program's text (the seventh form; the later family's looks); each row that meets fmt, with fmt's text TOLD by the authors' own Lean function (tested against real Go, not proved from fmt's source: count such statements apart). THE CARD IS WHAT COUNTS. Prove the row's statement (the work); the ties are given (YthefmilamdchiaaGreatDoorTie.lean); close each card by the builder's one call (the guide's Derived/Test/ToyasCard.lean, 'card_holds'). Laid BY PROGRAM, IN A SANDBOX (cutbox-door.mjs). By AI agents, Wed Nov 11 2026. No macro, syntax, notation, axiom, sorry.
-/
import Derived.Test.YthefmilamdchiaaGreatDoorRows
import GoSem.ClaimSeven
namespace Go.Proofs.YthefmilamdchiaaGreatDoor
namespace Rows

/-- THE TIED CARD OF 'recompilelaw27.RevisionBack'. -/
def revisionBackCard : Claim7 := { stood := { row := revisionBackRow, standIns := [], harness := (true, "286b24064b88fe367576500dda1de409bd5702516c0d56aa7b8a302d2eac24ea"), looks := true }, kinds := [], alts := [], laidByText := true, laidKinds := [.data, .data, .data, .sentinel, .sentinel], laidTests := true, laidLooks := .later }
def RevisionBackCardSaid : Prop := Claim7.holds Tryz.pinned (.plain (OpenSpec.ofChange revisionBackSpec)) revisionBackCard

/-- THE TIED CARD OF 'recompilelaw27.RevisionMany'. -/
def revisionManyCard : Claim7 := { stood := { row := revisionManyRow, standIns := [], harness := (true, "286b24064b88fe367576500dda1de409bd5702516c0d56aa7b8a302d2eac24ea"), looks := true }, kinds := [], alts := [], laidByText := true, laidKinds := [.data, .data, .data, .sentinel, .sentinel], laidTests := true, laidLooks := .later }
def RevisionManyCardSaid : Prop := Claim7.holds Tryz.pinned (.plain (OpenSpec.ofChange revisionManySpec)) revisionManyCard

/-- THE TIED CARD OF 'recompilelaw27.RevisionSteps'. -/
def revisionStepsCard : Claim7 := { stood := { row := revisionStepsRow, standIns := [], harness := (true, "286b24064b88fe367576500dda1de409bd5702516c0d56aa7b8a302d2eac24ea"), looks := true }, kinds := [], alts := [], laidByText := true, laidKinds := [.data, .data, .data, .sentinel, .sentinel], laidTests := true, laidLooks := .later }
def RevisionStepsCardSaid : Prop := Claim7.holds Tryz.pinned (.plain (OpenSpec.ofChange revisionStepsSpec)) revisionStepsCard

/-- THE TIED CARD OF 'recompilelaw27.RevisionTouched'. -/
def revisionTouchedCard : Claim7 := { stood := { row := revisionTouchedRow, standIns := [], harness := (true, "286b24064b88fe367576500dda1de409bd5702516c0d56aa7b8a302d2eac24ea"), looks := true }, kinds := [], alts := [], laidByText := true, laidKinds := [.data, .data, .data, .sentinel, .sentinel], laidTests := true, laidLooks := .later }
def RevisionTouchedCardSaid : Prop := Claim7.holds Tryz.pinned (.plain (OpenSpec.ofChange revisionTouchedSpec)) revisionTouchedCard

/-- THE SECOND FORM's CARD OF 'recompilelaw27.RevisionBack'. -/
def revisionBackUptoCard : Claim7 := { stood := { row := revisionBackUptoRow, standIns := [], harness := (true, "286b24064b88fe367576500dda1de409bd5702516c0d56aa7b8a302d2eac24ea"), looks := true }, kinds := [], alts := [], laidByText := true, laidKinds := [.data, .data, .data, .sentinel, .sentinel], laidTests := true, laidLooks := .later }
def RevisionBackUptoCardSaid : Prop := Claim7.holds Tryz.pinned (.plain (OpenSpec.upto revisionBackSpec)) revisionBackUptoCard

/-- THE SECOND FORM's CARD OF 'recompilelaw27.RevisionMany'. -/
def revisionManyUptoCard : Claim7 := { stood := { row := revisionManyUptoRow, standIns := [], harness := (true, "286b24064b88fe367576500dda1de409bd5702516c0d56aa7b8a302d2eac24ea"), looks := true }, kinds := [], alts := [], laidByText := true, laidKinds := [.data, .data, .data, .sentinel, .sentinel], laidTests := true, laidLooks := .later }
def RevisionManyUptoCardSaid : Prop := Claim7.holds Tryz.pinned (.plain (OpenSpec.upto revisionManySpec)) revisionManyUptoCard

/-- THE SECOND FORM's CARD OF 'recompilelaw27.RevisionSteps'. -/
def revisionStepsUptoCard : Claim7 := { stood := { row := revisionStepsUptoRow, standIns := [], harness := (true, "286b24064b88fe367576500dda1de409bd5702516c0d56aa7b8a302d2eac24ea"), looks := true }, kinds := [], alts := [], laidByText := true, laidKinds := [.data, .data, .data, .sentinel, .sentinel], laidTests := true, laidLooks := .later }
def RevisionStepsUptoCardSaid : Prop := Claim7.holds Tryz.pinned (.plain (OpenSpec.upto revisionStepsSpec)) revisionStepsUptoCard

/-- THE SECOND FORM's CARD OF 'recompilelaw27.RevisionTouched'. -/
def revisionTouchedUptoCard : Claim7 := { stood := { row := revisionTouchedUptoRow, standIns := [], harness := (true, "286b24064b88fe367576500dda1de409bd5702516c0d56aa7b8a302d2eac24ea"), looks := true }, kinds := [], alts := [], laidByText := true, laidKinds := [.data, .data, .data, .sentinel, .sentinel], laidTests := true, laidLooks := .later }
def RevisionTouchedUptoCardSaid : Prop := Claim7.holds Tryz.pinned (.plain (OpenSpec.upto revisionTouchedSpec)) revisionTouchedUptoCard
end Rows
end Go.Proofs.YthefmilamdchiaaGreatDoor
