/-
  DERIVED. GIVEN WITH THE SEED: THE CARDS: each row of YtappkgmbdoiocaaDoorRows.lean that lists a variable, with what it lists TIED to the program's text (the seventh form; the later family's looks); each row that meets fmt, with fmt's text TOLD by the authors' own Lean function (tested against real Go, not proved from fmt's source: count such statements apart). THE CARD IS WHAT COUNTS. Prove the row's statement (the work); the ties are given (YtappkgmbdoiocaaDoorTie.lean); close each card by the builder's one call (the guide's Derived/Test/ToyasCard.lean, 'card_holds'). Laid BY PROGRAM, IN A SANDBOX (cutbox-door.mjs). By AI agents, Wed Nov 11 2026. No macro, syntax, notation, axiom, sorry.
-/
import Derived.Test.YtappkgmbdoiocaaDoorRows
import GoSem.ClaimSeven
namespace Go.Proofs.YtappkgmbdoiocaaDoor
namespace Rows

/-- THE TIED CARD OF 'recompilelaw32.DequeOnce'. -/
def dequeOnceCard : Claim7 := { stood := { row := dequeOnceRow, standIns := [], harness := (true, "f3a958397d85e917fc2d01ea21b11f12db08afa3d2b84d02f42b2396f2e22385"), looks := true }, kinds := [], alts := [], laidByText := true, laidKinds := [.data, .data, .data, .sentinel, .sentinel], laidTests := true, laidLooks := .later }
def DequeOnceCardSaid : Prop := Claim7.holds Tryd.pinned (.plain (OpenSpec.ofChange dequeOnceSpec)) dequeOnceCard

/-- THE TIED CARD OF 'recompilelaw32.DequeTwo'. -/
def dequeTwoCard : Claim7 := { stood := { row := dequeTwoRow, standIns := [], harness := (true, "f3a958397d85e917fc2d01ea21b11f12db08afa3d2b84d02f42b2396f2e22385"), looks := true }, kinds := [], alts := [], laidByText := true, laidKinds := [.data, .data, .data, .sentinel, .sentinel], laidTests := true, laidLooks := .later }
def DequeTwoCardSaid : Prop := Claim7.holds Tryd.pinned (.plain (OpenSpec.ofChange dequeTwoSpec)) dequeTwoCard

/-- THE TIED CARD OF 'recompilelaw32.DequeActs'. -/
def dequeActsCard : Claim7 := { stood := { row := dequeActsRow, standIns := [], harness := (true, "f3a958397d85e917fc2d01ea21b11f12db08afa3d2b84d02f42b2396f2e22385"), looks := true }, kinds := [], alts := [], laidByText := true, laidKinds := [.data, .data, .data, .sentinel, .sentinel], laidTests := true, laidLooks := .later }
def DequeActsCardSaid : Prop := Claim7.holds Tryd.pinned (.plain (OpenSpec.ofChange dequeActsSpec)) dequeActsCard

/-- THE TIED CARD OF 'recompilelaw32.DequeDeals'. -/
def dequeDealsCard : Claim7 := { stood := { row := dequeDealsRow, standIns := [], harness := (true, "f3a958397d85e917fc2d01ea21b11f12db08afa3d2b84d02f42b2396f2e22385"), looks := true }, kinds := [], alts := [], laidByText := true, laidKinds := [.data, .data, .data, .sentinel, .sentinel], laidTests := true, laidLooks := .later }
def DequeDealsCardSaid : Prop := Claim7.holds Tryd.pinned (.plain (OpenSpec.ofChange dequeDealsSpec)) dequeDealsCard

/-- THE TIED CARD OF 'recompilelaw24.ToyRules'. -/
def toyRulesCard : Claim7 := { stood := { row := toyRulesRow, standIns := [], harness := (true, "f3a958397d85e917fc2d01ea21b11f12db08afa3d2b84d02f42b2396f2e22385"), looks := true }, kinds := [], alts := [], laidByText := true, laidKinds := [.data, .data, .data, .sentinel, .sentinel], laidTests := true, laidLooks := .later }
def ToyRulesCardSaid : Prop := Claim7.holds Tryd.pinned (.plain (OpenSpec.ofChange toyRulesSpec)) toyRulesCard

/-- THE TIED CARD OF 'recompilelaw24.ToyTurns'. -/
def toyTurnsCard : Claim7 := { stood := { row := toyTurnsRow, standIns := [], harness := (true, "f3a958397d85e917fc2d01ea21b11f12db08afa3d2b84d02f42b2396f2e22385"), looks := true }, kinds := [], alts := [], laidByText := true, laidKinds := [.data, .data, .data, .sentinel, .sentinel], laidTests := true, laidLooks := .later }
def ToyTurnsCardSaid : Prop := Claim7.holds Tryd.pinned (.plain (OpenSpec.ofChange toyTurnsSpec)) toyTurnsCard

/-- THE TIED CARD OF 'recompilelaw24.ToyRings'. -/
def toyRingsCard : Claim7 := { stood := { row := toyRingsRow, standIns := [], harness := (true, "f3a958397d85e917fc2d01ea21b11f12db08afa3d2b84d02f42b2396f2e22385"), looks := true }, kinds := [], alts := [], laidByText := true, laidKinds := [.data, .data, .data, .sentinel, .sentinel], laidTests := true, laidLooks := .later }
def ToyRingsCardSaid : Prop := Claim7.holds Tryd.pinned (.plain (OpenSpec.ofChange toyRingsSpec)) toyRingsCard

/-- THE TIED CARD OF 'recompilelaw24.ToyAsks'. -/
def toyAsksCard : Claim7 := { stood := { row := toyAsksRow, standIns := [], harness := (true, "f3a958397d85e917fc2d01ea21b11f12db08afa3d2b84d02f42b2396f2e22385"), looks := true }, kinds := [], alts := [], laidByText := true, laidKinds := [.data, .data, .data, .sentinel, .sentinel], laidTests := true, laidLooks := .later }
def ToyAsksCardSaid : Prop := Claim7.holds Tryd.pinned (.plain (OpenSpec.ofChange toyAsksSpec)) toyAsksCard

/-- THE TIED CARD OF 'recompilelaw24.ToyPicks'. -/
def toyPicksCard : Claim7 := { stood := { row := toyPicksRow, standIns := [], harness := (true, "f3a958397d85e917fc2d01ea21b11f12db08afa3d2b84d02f42b2396f2e22385"), looks := true }, kinds := [], alts := [], laidByText := true, laidKinds := [.data, .data, .data, .sentinel, .sentinel], laidTests := true, laidLooks := .later }
def ToyPicksCardSaid : Prop := Claim7.holds Tryd.pinned (.plain (OpenSpec.ofChange toyPicksSpec)) toyPicksCard

/-- THE SECOND FORM's CARD OF 'recompilelaw32.DequeOnce'. -/
def dequeOnceUptoCard : Claim7 := { stood := { row := dequeOnceUptoRow, standIns := [], harness := (true, "f3a958397d85e917fc2d01ea21b11f12db08afa3d2b84d02f42b2396f2e22385"), looks := true }, kinds := [], alts := [], laidByText := true, laidKinds := [.data, .data, .data, .sentinel, .sentinel], laidTests := true, laidLooks := .later }
def DequeOnceUptoCardSaid : Prop := Claim7.holds Tryd.pinned (.plain (OpenSpec.upto dequeOnceSpec)) dequeOnceUptoCard

/-- THE SECOND FORM's CARD OF 'recompilelaw32.DequeTwo'. -/
def dequeTwoUptoCard : Claim7 := { stood := { row := dequeTwoUptoRow, standIns := [], harness := (true, "f3a958397d85e917fc2d01ea21b11f12db08afa3d2b84d02f42b2396f2e22385"), looks := true }, kinds := [], alts := [], laidByText := true, laidKinds := [.data, .data, .data, .sentinel, .sentinel], laidTests := true, laidLooks := .later }
def DequeTwoUptoCardSaid : Prop := Claim7.holds Tryd.pinned (.plain (OpenSpec.upto dequeTwoSpec)) dequeTwoUptoCard

/-- THE SECOND FORM's CARD OF 'recompilelaw32.DequeActs'. -/
def dequeActsUptoCard : Claim7 := { stood := { row := dequeActsUptoRow, standIns := [], harness := (true, "f3a958397d85e917fc2d01ea21b11f12db08afa3d2b84d02f42b2396f2e22385"), looks := true }, kinds := [], alts := [], laidByText := true, laidKinds := [.data, .data, .data, .sentinel, .sentinel], laidTests := true, laidLooks := .later }
def DequeActsUptoCardSaid : Prop := Claim7.holds Tryd.pinned (.plain (OpenSpec.upto dequeActsSpec)) dequeActsUptoCard

/-- THE SECOND FORM's CARD OF 'recompilelaw32.DequeDeals'. -/
def dequeDealsUptoCard : Claim7 := { stood := { row := dequeDealsUptoRow, standIns := [], harness := (true, "f3a958397d85e917fc2d01ea21b11f12db08afa3d2b84d02f42b2396f2e22385"), looks := true }, kinds := [], alts := [], laidByText := true, laidKinds := [.data, .data, .data, .sentinel, .sentinel], laidTests := true, laidLooks := .later }
def DequeDealsUptoCardSaid : Prop := Claim7.holds Tryd.pinned (.plain (OpenSpec.upto dequeDealsSpec)) dequeDealsUptoCard

/-- THE SECOND FORM's CARD OF 'recompilelaw24.ToyRules'. -/
def toyRulesUptoCard : Claim7 := { stood := { row := toyRulesUptoRow, standIns := [], harness := (true, "f3a958397d85e917fc2d01ea21b11f12db08afa3d2b84d02f42b2396f2e22385"), looks := true }, kinds := [], alts := [], laidByText := true, laidKinds := [.data, .data, .data, .sentinel, .sentinel], laidTests := true, laidLooks := .later }
def ToyRulesUptoCardSaid : Prop := Claim7.holds Tryd.pinned (.plain (OpenSpec.upto toyRulesSpec)) toyRulesUptoCard

/-- THE SECOND FORM's CARD OF 'recompilelaw24.ToyTurns'. -/
def toyTurnsUptoCard : Claim7 := { stood := { row := toyTurnsUptoRow, standIns := [], harness := (true, "f3a958397d85e917fc2d01ea21b11f12db08afa3d2b84d02f42b2396f2e22385"), looks := true }, kinds := [], alts := [], laidByText := true, laidKinds := [.data, .data, .data, .sentinel, .sentinel], laidTests := true, laidLooks := .later }
def ToyTurnsUptoCardSaid : Prop := Claim7.holds Tryd.pinned (.plain (OpenSpec.upto toyTurnsSpec)) toyTurnsUptoCard

/-- THE SECOND FORM's CARD OF 'recompilelaw24.ToyRings'. -/
def toyRingsUptoCard : Claim7 := { stood := { row := toyRingsUptoRow, standIns := [], harness := (true, "f3a958397d85e917fc2d01ea21b11f12db08afa3d2b84d02f42b2396f2e22385"), looks := true }, kinds := [], alts := [], laidByText := true, laidKinds := [.data, .data, .data, .sentinel, .sentinel], laidTests := true, laidLooks := .later }
def ToyRingsUptoCardSaid : Prop := Claim7.holds Tryd.pinned (.plain (OpenSpec.upto toyRingsSpec)) toyRingsUptoCard

/-- THE SECOND FORM's CARD OF 'recompilelaw24.ToyAsks'. -/
def toyAsksUptoCard : Claim7 := { stood := { row := toyAsksUptoRow, standIns := [], harness := (true, "f3a958397d85e917fc2d01ea21b11f12db08afa3d2b84d02f42b2396f2e22385"), looks := true }, kinds := [], alts := [], laidByText := true, laidKinds := [.data, .data, .data, .sentinel, .sentinel], laidTests := true, laidLooks := .later }
def ToyAsksUptoCardSaid : Prop := Claim7.holds Tryd.pinned (.plain (OpenSpec.upto toyAsksSpec)) toyAsksUptoCard

/-- THE SECOND FORM's CARD OF 'recompilelaw24.ToyPicks'. -/
def toyPicksUptoCard : Claim7 := { stood := { row := toyPicksUptoRow, standIns := [], harness := (true, "f3a958397d85e917fc2d01ea21b11f12db08afa3d2b84d02f42b2396f2e22385"), looks := true }, kinds := [], alts := [], laidByText := true, laidKinds := [.data, .data, .data, .sentinel, .sentinel], laidTests := true, laidLooks := .later }
def ToyPicksUptoCardSaid : Prop := Claim7.holds Tryd.pinned (.plain (OpenSpec.upto toyPicksSpec)) toyPicksUptoCard
end Rows
end Go.Proofs.YtappkgmbdoiocaaDoor
