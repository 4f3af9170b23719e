/-
  DERIVED. GIVEN WITH THE SEED: THE CARDS: each row of YthpeklnhkkadjaaDoorRows.lean that lists a variable, with what it lists TIED to the program's text (the seventh form; the later family's looks); each row that meets fmt, with fmt's text TOLD by the authors' own Lean function (tested against real Go, not proved from fmt's source: count such statements apart). THE CARD IS WHAT COUNTS. Prove the row's statement (the work); the ties are given (YthpeklnhkkadjaaDoorTie.lean); close each card by the builder's one call (the guide's Derived/Test/ToyasCard.lean, 'card_holds'). Laid BY PROGRAM, IN A SANDBOX (cutbox-door.mjs). By AI agents, Wed Nov 11 2026. No macro, syntax, notation, axiom, sorry.
-/
import Derived.Test.YthpeklnhkkadjaaDoorRows
import GoSem.ClaimSeven
namespace Go.Proofs.YthpeklnhkkadjaaDoor
namespace Rows

/-- THE TIED CARD OF 'recompilelaw32.DequeActs'. -/
def dequeActsCard : Claim7 := { stood := { row := dequeActsRow, standIns := [], harness := (true, "8d34848ac95b1780baab09a111e8a362f869cdea9fe53e6530b385570a7a79c1"), looks := true }, kinds := [], alts := [], laidByText := true, laidKinds := [.data, .data, .data, .sentinel, .sentinel], laidTests := true, laidLooks := .later }
def DequeActsCardSaid : Prop := Claim7.holds Tryd.pinned (.plain (OpenSpec.ofChange dequeActsSpec)) dequeActsCard

/-- THE TIED CARD OF 'recompilelaw32.DequeDeals'. -/
def dequeDealsCard : Claim7 := { stood := { row := dequeDealsRow, standIns := [], harness := (true, "8d34848ac95b1780baab09a111e8a362f869cdea9fe53e6530b385570a7a79c1"), looks := true }, kinds := [], alts := [], laidByText := true, laidKinds := [.data, .data, .data, .sentinel, .sentinel], laidTests := true, laidLooks := .later }
def DequeDealsCardSaid : Prop := Claim7.holds Tryd.pinned (.plain (OpenSpec.ofChange dequeDealsSpec)) dequeDealsCard

/-- THE TIED CARD OF 'recompilelaw24.ToyRules'. -/
def toyRulesCard : Claim7 := { stood := { row := toyRulesRow, standIns := [], harness := (true, "8d34848ac95b1780baab09a111e8a362f869cdea9fe53e6530b385570a7a79c1"), looks := true }, kinds := [], alts := [], laidByText := true, laidKinds := [.data, .data, .data, .sentinel, .sentinel], laidTests := true, laidLooks := .later }
def ToyRulesCardSaid : Prop := Claim7.holds Tryd.pinned (.plain (OpenSpec.ofChange toyRulesSpec)) toyRulesCard

/-- THE TIED CARD OF 'recompilelaw29.GroupOf'. -/
def groupOfCard : Claim7 := { stood := { row := groupOfRow, standIns := [], harness := (true, "8d34848ac95b1780baab09a111e8a362f869cdea9fe53e6530b385570a7a79c1"), looks := true }, kinds := [], alts := [], laidByText := true, laidKinds := [.data, .data, .data], laidTests := true, laidLooks := .later }
def GroupOfCardSaid : Prop := Claim7.holds Tryd.pinned (.plain (OpenSpec.ofChange groupOfSpec)) groupOfCard

/-- THE TIED CARD OF 'recompilelaw29.GroupDivides'. -/
def groupDividesCard : Claim7 := { stood := { row := groupDividesRow, standIns := [], harness := (true, "8d34848ac95b1780baab09a111e8a362f869cdea9fe53e6530b385570a7a79c1"), looks := true }, kinds := [], alts := [], laidByText := true, laidKinds := [.data, .data, .data], laidTests := true, laidLooks := .later }
def GroupDividesCardSaid : Prop := Claim7.holds Tryd.pinned (.plain (OpenSpec.ofChange groupDividesSpec)) groupDividesCard

/-- THE TIED CARD OF 'recompilelaw29.GroupCycles'. -/
def groupCyclesCard : Claim7 := { stood := { row := groupCyclesRow, standIns := [], harness := (true, "8d34848ac95b1780baab09a111e8a362f869cdea9fe53e6530b385570a7a79c1"), looks := true }, kinds := [], alts := [], laidByText := true, laidKinds := [.data, .data, .data], laidTests := true, laidLooks := .later }
def GroupCyclesCardSaid : Prop := Claim7.holds Tryd.pinned (.plain (OpenSpec.ofChange groupCyclesSpec)) groupCyclesCard

/-- THE TIED CARD OF 'recompilelaw29.GroupAlone'. -/
def groupAloneCard : Claim7 := { stood := { row := groupAloneRow, standIns := [], harness := (true, "8d34848ac95b1780baab09a111e8a362f869cdea9fe53e6530b385570a7a79c1"), looks := true }, kinds := [], alts := [], laidByText := true, laidKinds := [.data, .data, .data], laidTests := true, laidLooks := .later }
def GroupAloneCardSaid : Prop := Claim7.holds Tryd.pinned (.plain (OpenSpec.ofChange groupAloneSpec)) groupAloneCard

/-- THE TIED CARD OF 'recompilelaw39.BranchMerges'. -/
def branchMergesCard : Claim7 := { stood := { row := branchMergesRow, standIns := [], harness := (true, "8d34848ac95b1780baab09a111e8a362f869cdea9fe53e6530b385570a7a79c1"), looks := true }, kinds := [], alts := [], laidByText := true, laidKinds := [.data, .data, .data, .sentinel, .sentinel], laidTests := true, laidLooks := .later }
def BranchMergesCardSaid : Prop := Claim7.holds Tryd.pinned (.plain (OpenSpec.ofChange branchMergesSpec)) branchMergesCard

/-- THE TIED CARD OF 'recompilelaw39.BranchDiffs'. -/
def branchDiffsCard : Claim7 := { stood := { row := branchDiffsRow, standIns := [], harness := (true, "8d34848ac95b1780baab09a111e8a362f869cdea9fe53e6530b385570a7a79c1"), looks := true }, kinds := [], alts := [], laidByText := true, laidKinds := [.data, .data, .data, .sentinel, .sentinel], laidTests := true, laidLooks := .later }
def BranchDiffsCardSaid : Prop := Claim7.holds Tryd.pinned (.plain (OpenSpec.ofChange branchDiffsSpec)) branchDiffsCard

/-- THE SECOND FORM's CARD OF 'recompilelaw32.DequeActs'. -/
def dequeActsUptoCard : Claim7 := { stood := { row := dequeActsUptoRow, standIns := [], harness := (true, "8d34848ac95b1780baab09a111e8a362f869cdea9fe53e6530b385570a7a79c1"), looks := true }, kinds := [], alts := [], laidByText := true, laidKinds := [.data, .data, .data, .sentinel, .sentinel], laidTests := true, laidLooks := .later }
def DequeActsUptoCardSaid : Prop := Claim7.holds Tryd.pinned (.plain (OpenSpec.upto dequeActsSpec)) dequeActsUptoCard

/-- THE SECOND FORM's CARD OF 'recompilelaw32.DequeDeals'. -/
def dequeDealsUptoCard : Claim7 := { stood := { row := dequeDealsUptoRow, standIns := [], harness := (true, "8d34848ac95b1780baab09a111e8a362f869cdea9fe53e6530b385570a7a79c1"), looks := true }, kinds := [], alts := [], laidByText := true, laidKinds := [.data, .data, .data, .sentinel, .sentinel], laidTests := true, laidLooks := .later }
def DequeDealsUptoCardSaid : Prop := Claim7.holds Tryd.pinned (.plain (OpenSpec.upto dequeDealsSpec)) dequeDealsUptoCard

/-- THE SECOND FORM's CARD OF 'recompilelaw24.ToyRules'. -/
def toyRulesUptoCard : Claim7 := { stood := { row := toyRulesUptoRow, standIns := [], harness := (true, "8d34848ac95b1780baab09a111e8a362f869cdea9fe53e6530b385570a7a79c1"), looks := true }, kinds := [], alts := [], laidByText := true, laidKinds := [.data, .data, .data, .sentinel, .sentinel], laidTests := true, laidLooks := .later }
def ToyRulesUptoCardSaid : Prop := Claim7.holds Tryd.pinned (.plain (OpenSpec.upto toyRulesSpec)) toyRulesUptoCard

/-- THE SECOND FORM's CARD OF 'recompilelaw29.GroupOf'. -/
def groupOfUptoCard : Claim7 := { stood := { row := groupOfUptoRow, standIns := [], harness := (true, "8d34848ac95b1780baab09a111e8a362f869cdea9fe53e6530b385570a7a79c1"), looks := true }, kinds := [], alts := [], laidByText := true, laidKinds := [.data, .data, .data], laidTests := true, laidLooks := .later }
def GroupOfUptoCardSaid : Prop := Claim7.holds Tryd.pinned (.plain (OpenSpec.upto groupOfSpec)) groupOfUptoCard

/-- THE SECOND FORM's CARD OF 'recompilelaw29.GroupDivides'. -/
def groupDividesUptoCard : Claim7 := { stood := { row := groupDividesUptoRow, standIns := [], harness := (true, "8d34848ac95b1780baab09a111e8a362f869cdea9fe53e6530b385570a7a79c1"), looks := true }, kinds := [], alts := [], laidByText := true, laidKinds := [.data, .data, .data], laidTests := true, laidLooks := .later }
def GroupDividesUptoCardSaid : Prop := Claim7.holds Tryd.pinned (.plain (OpenSpec.upto groupDividesSpec)) groupDividesUptoCard

/-- THE SECOND FORM's CARD OF 'recompilelaw29.GroupCycles'. -/
def groupCyclesUptoCard : Claim7 := { stood := { row := groupCyclesUptoRow, standIns := [], harness := (true, "8d34848ac95b1780baab09a111e8a362f869cdea9fe53e6530b385570a7a79c1"), looks := true }, kinds := [], alts := [], laidByText := true, laidKinds := [.data, .data, .data], laidTests := true, laidLooks := .later }
def GroupCyclesUptoCardSaid : Prop := Claim7.holds Tryd.pinned (.plain (OpenSpec.upto groupCyclesSpec)) groupCyclesUptoCard

/-- THE SECOND FORM's CARD OF 'recompilelaw29.GroupAlone'. -/
def groupAloneUptoCard : Claim7 := { stood := { row := groupAloneUptoRow, standIns := [], harness := (true, "8d34848ac95b1780baab09a111e8a362f869cdea9fe53e6530b385570a7a79c1"), looks := true }, kinds := [], alts := [], laidByText := true, laidKinds := [.data, .data, .data], laidTests := true, laidLooks := .later }
def GroupAloneUptoCardSaid : Prop := Claim7.holds Tryd.pinned (.plain (OpenSpec.upto groupAloneSpec)) groupAloneUptoCard

/-- THE SECOND FORM's CARD OF 'recompilelaw39.BranchMerges'. -/
def branchMergesUptoCard : Claim7 := { stood := { row := branchMergesUptoRow, standIns := [], harness := (true, "8d34848ac95b1780baab09a111e8a362f869cdea9fe53e6530b385570a7a79c1"), looks := true }, kinds := [], alts := [], laidByText := true, laidKinds := [.data, .data, .data, .sentinel, .sentinel], laidTests := true, laidLooks := .later }
def BranchMergesUptoCardSaid : Prop := Claim7.holds Tryd.pinned (.plain (OpenSpec.upto branchMergesSpec)) branchMergesUptoCard

/-- THE SECOND FORM's CARD OF 'recompilelaw39.BranchDiffs'. -/
def branchDiffsUptoCard : Claim7 := { stood := { row := branchDiffsUptoRow, standIns := [], harness := (true, "8d34848ac95b1780baab09a111e8a362f869cdea9fe53e6530b385570a7a79c1"), looks := true }, kinds := [], alts := [], laidByText := true, laidKinds := [.data, .data, .data, .sentinel, .sentinel], laidTests := true, laidLooks := .later }
def BranchDiffsUptoCardSaid : Prop := Claim7.holds Tryd.pinned (.plain (OpenSpec.upto branchDiffsSpec)) branchDiffsUptoCard
end Rows
end Go.Proofs.YthpeklnhkkadjaaDoor
