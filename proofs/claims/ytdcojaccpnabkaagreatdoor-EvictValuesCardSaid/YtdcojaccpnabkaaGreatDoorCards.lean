/-
  DERIVED. GIVEN WITH THE SEED: THE CARDS: each row of YtdcojaccpnabkaaGreatDoorRows.lean that lists a variable, with what it lists TIED to the program's text (the seventh form; the later family's looks); each row that meets fmt, with fmt's text TOLD by the authors' own Lean function (tested against real Go, not proved from fmt's source: count such statements apart). THE CARD IS WHAT COUNTS. Prove the row's statement (the work); the ties are given (YtdcojaccpnabkaaGreatDoorTie.lean); close each card by the builder's one call (the guide's Derived/Test/ToyasCard.lean, 'card_holds'). Laid BY PROGRAM, IN A SANDBOX (cutbox-door.mjs). By AI agents, Wed Nov 11 2026. No macro, syntax, notation, axiom, sorry.
-/
import Derived.Test.YtdcojaccpnabkaaGreatDoorRows
import GoSem.ClaimSeven
namespace Go.Proofs.YtdcojaccpnabkaaGreatDoor
namespace Rows

/-- THE TIED CARD OF 'recompilelaw34.EvictDrops'. -/
def evictDropsCard : Claim7 := { stood := { row := evictDropsRow, standIns := [], harness := (true, "5a2f01f637c98dd71fa70c8ca58194720ead7ce6196c46136d4b21d559883b21"), looks := true }, kinds := [], alts := [], laidByText := true, laidKinds := [.data, .data, .data, .sentinel, .sentinel], laidTests := true, laidLooks := .later }
def EvictDropsCardSaid : Prop := Claim7.holds Tryz.pinned (.plain (OpenSpec.ofChange evictDropsSpec)) evictDropsCard

/-- THE TIED CARD OF 'recompilelaw34.EvictFits'. -/
def evictFitsCard : Claim7 := { stood := { row := evictFitsRow, standIns := [], harness := (true, "5a2f01f637c98dd71fa70c8ca58194720ead7ce6196c46136d4b21d559883b21"), looks := true }, kinds := [], alts := [], laidByText := true, laidKinds := [.data, .data, .data, .sentinel, .sentinel], laidTests := true, laidLooks := .later }
def EvictFitsCardSaid : Prop := Claim7.holds Tryz.pinned (.plain (OpenSpec.ofChange evictFitsSpec)) evictFitsCard

/-- THE TIED CARD OF 'recompilelaw34.EvictValues'. -/
def evictValuesCard : Claim7 := { stood := { row := evictValuesRow, standIns := [], harness := (true, "5a2f01f637c98dd71fa70c8ca58194720ead7ce6196c46136d4b21d559883b21"), looks := true }, kinds := [], alts := [], laidByText := true, laidKinds := [.data, .data, .data, .sentinel, .sentinel], laidTests := true, laidLooks := .later }
def EvictValuesCardSaid : Prop := Claim7.holds Tryz.pinned (.plain (OpenSpec.ofChange evictValuesSpec)) evictValuesCard

/-- THE TIED CARD OF 'recompilelaw34.EvictKeeps'. -/
def evictKeepsCard : Claim7 := { stood := { row := evictKeepsRow, standIns := [], harness := (true, "5a2f01f637c98dd71fa70c8ca58194720ead7ce6196c46136d4b21d559883b21"), looks := true }, kinds := [], alts := [], laidByText := true, laidKinds := [.data, .data, .data, .sentinel, .sentinel], laidTests := true, laidLooks := .later }
def EvictKeepsCardSaid : Prop := Claim7.holds Tryz.pinned (.plain (OpenSpec.ofChange evictKeepsSpec)) evictKeepsCard

/-- THE TIED CARD OF 'recompilelaw34.EvictOrder'. -/
def evictOrderCard : Claim7 := { stood := { row := evictOrderRow, standIns := [], harness := (true, "5a2f01f637c98dd71fa70c8ca58194720ead7ce6196c46136d4b21d559883b21"), looks := true }, kinds := [], alts := [], laidByText := true, laidKinds := [.data, .data, .data, .sentinel, .sentinel], laidTests := true, laidLooks := .later }
def EvictOrderCardSaid : Prop := Claim7.holds Tryz.pinned (.plain (OpenSpec.ofChange evictOrderSpec)) evictOrderCard

/-- THE SECOND FORM's CARD OF 'recompilelaw34.EvictDrops'. -/
def evictDropsUptoCard : Claim7 := { stood := { row := evictDropsUptoRow, standIns := [], harness := (true, "5a2f01f637c98dd71fa70c8ca58194720ead7ce6196c46136d4b21d559883b21"), looks := true }, kinds := [], alts := [], laidByText := true, laidKinds := [.data, .data, .data, .sentinel, .sentinel], laidTests := true, laidLooks := .later }
def EvictDropsUptoCardSaid : Prop := Claim7.holds Tryz.pinned (.plain (OpenSpec.upto evictDropsSpec)) evictDropsUptoCard

/-- THE SECOND FORM's CARD OF 'recompilelaw34.EvictFits'. -/
def evictFitsUptoCard : Claim7 := { stood := { row := evictFitsUptoRow, standIns := [], harness := (true, "5a2f01f637c98dd71fa70c8ca58194720ead7ce6196c46136d4b21d559883b21"), looks := true }, kinds := [], alts := [], laidByText := true, laidKinds := [.data, .data, .data, .sentinel, .sentinel], laidTests := true, laidLooks := .later }
def EvictFitsUptoCardSaid : Prop := Claim7.holds Tryz.pinned (.plain (OpenSpec.upto evictFitsSpec)) evictFitsUptoCard

/-- THE SECOND FORM's CARD OF 'recompilelaw34.EvictValues'. -/
def evictValuesUptoCard : Claim7 := { stood := { row := evictValuesUptoRow, standIns := [], harness := (true, "5a2f01f637c98dd71fa70c8ca58194720ead7ce6196c46136d4b21d559883b21"), looks := true }, kinds := [], alts := [], laidByText := true, laidKinds := [.data, .data, .data, .sentinel, .sentinel], laidTests := true, laidLooks := .later }
def EvictValuesUptoCardSaid : Prop := Claim7.holds Tryz.pinned (.plain (OpenSpec.upto evictValuesSpec)) evictValuesUptoCard

/-- THE SECOND FORM's CARD OF 'recompilelaw34.EvictKeeps'. -/
def evictKeepsUptoCard : Claim7 := { stood := { row := evictKeepsUptoRow, standIns := [], harness := (true, "5a2f01f637c98dd71fa70c8ca58194720ead7ce6196c46136d4b21d559883b21"), looks := true }, kinds := [], alts := [], laidByText := true, laidKinds := [.data, .data, .data, .sentinel, .sentinel], laidTests := true, laidLooks := .later }
def EvictKeepsUptoCardSaid : Prop := Claim7.holds Tryz.pinned (.plain (OpenSpec.upto evictKeepsSpec)) evictKeepsUptoCard

/-- THE SECOND FORM's CARD OF 'recompilelaw34.EvictOrder'. -/
def evictOrderUptoCard : Claim7 := { stood := { row := evictOrderUptoRow, standIns := [], harness := (true, "5a2f01f637c98dd71fa70c8ca58194720ead7ce6196c46136d4b21d559883b21"), looks := true }, kinds := [], alts := [], laidByText := true, laidKinds := [.data, .data, .data, .sentinel, .sentinel], laidTests := true, laidLooks := .later }
def EvictOrderUptoCardSaid : Prop := Claim7.holds Tryz.pinned (.plain (OpenSpec.upto evictOrderSpec)) evictOrderUptoCard
end Rows
end Go.Proofs.YtdcojaccpnabkaaGreatDoor
