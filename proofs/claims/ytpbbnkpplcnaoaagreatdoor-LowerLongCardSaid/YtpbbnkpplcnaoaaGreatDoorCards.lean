/-
  DERIVED. GIVEN WITH THE SEED: THE CARDS: each row of YtpbbnkpplcnaoaaGreatDoorRows.lean that lists a variable, with what it lists TIED to the program's text (the seventh form; the later family's looks); each row that meets fmt, with fmt's text TOLD by the authors' own Lean function (tested against real Go, not proved from fmt's source: count such statements apart). THE CARD IS WHAT COUNTS. Prove the row's statement (the work); the ties are given (YtpbbnkpplcnaoaaGreatDoorTie.lean); close each card by the builder's one call (the guide's Derived/Test/ToyasCard.lean, 'card_holds'). Laid BY PROGRAM, IN A SANDBOX (cutbox-door.mjs). By AI agents, Wed Nov 11 2026. No macro, syntax, notation, axiom, sorry.
-/
import Derived.Test.YtpbbnkpplcnaoaaGreatDoorRows
import GoSem.ClaimSeven
namespace Go.Proofs.YtpbbnkpplcnaoaaGreatDoor
namespace Rows

/-- THE TIED CARD OF 'recompilelaw14.LowerLong'. -/
def lowerLongCard : Claim7 := { stood := { row := lowerLongRow, standIns := [], harness := (true, "899b942d7c0acd658d9926bd039dfc0b88297bd1269889228c5e829110c3708b"), looks := true }, kinds := [], alts := [], laidByText := true, laidKinds := [.data, .data, .data, .data, .sentinel, .sentinel, .pinned], laidTests := true, laidLooks := .later }
def LowerLongCardSaid : Prop := Claim7.holds Tryz.pinned (.plain (OpenSpec.ofChange lowerLongSpec)) lowerLongCard

/-- THE SECOND FORM's CARD OF 'recompilelaw14.LowerLong'. -/
def lowerLongUptoCard : Claim7 := { stood := { row := lowerLongUptoRow, standIns := [], harness := (true, "899b942d7c0acd658d9926bd039dfc0b88297bd1269889228c5e829110c3708b"), looks := true }, kinds := [], alts := [], laidByText := true, laidKinds := [.data, .data, .data, .data, .sentinel, .sentinel, .pinned], laidTests := true, laidLooks := .later }
def LowerLongUptoCardSaid : Prop := Claim7.holds Tryz.pinned (.plain (OpenSpec.upto lowerLongSpec)) lowerLongUptoCard
end Rows
end Go.Proofs.YtpbbnkpplcnaoaaGreatDoor
