/-
  DERIVED. GIVEN WITH THE SEED: THE CARDS: each row of YtdappapdddnciaaDoorRows.lean that lists a variable, with what it lists TIED to the program's text (the seventh form; the later family's looks); each row that meets fmt, with fmt's text TOLD by the authors' own Lean function (tested against real Go, not proved from fmt's source: count such statements apart). THE CARD IS WHAT COUNTS. Prove the row's statement (the work); the ties are given (YtdappapdddnciaaDoorTie.lean); close each card by the builder's one call (the guide's Derived/Test/ToyasCard.lean, 'card_holds'). Laid BY PROGRAM, IN A SANDBOX (cutbox-door.mjs). By AI agents, Wed Nov 11 2026. No macro, syntax, notation, axiom, sorry.
-/
import Derived.Test.YtdappapdddnciaaDoorRows
import GoSem.ClaimSeven
namespace Go.Proofs.YtdappapdddnciaaDoor
namespace Rows

/-- THE TIED CARD OF 'recompilelaw29.GroupOf'. -/
def groupOfCard : Claim7 := { stood := { row := groupOfRow, standIns := [], harness := (true, "4449ecd514a7234ecc13f46a5a526d7d143f4e6256a6ea29f204b8d82a7103ae"), looks := false }, kinds := [], alts := [], laidByText := true, laidKinds := [.data, .data, .data], laidTests := true, laidLooks := .later }
def GroupOfCardSaid : Prop := Claim7.holds Tryd.pinned (.plain (OpenSpec.ofChange groupOfSpec)) groupOfCard

/-- THE TIED CARD OF 'recompilelaw29.GroupDivides'. -/
def groupDividesCard : Claim7 := { stood := { row := groupDividesRow, standIns := [], harness := (true, "4449ecd514a7234ecc13f46a5a526d7d143f4e6256a6ea29f204b8d82a7103ae"), looks := false }, kinds := [], alts := [], laidByText := true, laidKinds := [.data, .data, .data], laidTests := true, laidLooks := .later }
def GroupDividesCardSaid : Prop := Claim7.holds Tryd.pinned (.plain (OpenSpec.ofChange groupDividesSpec)) groupDividesCard

/-- THE TIED CARD OF 'recompilelaw29.GroupCycles'. -/
def groupCyclesCard : Claim7 := { stood := { row := groupCyclesRow, standIns := [], harness := (true, "4449ecd514a7234ecc13f46a5a526d7d143f4e6256a6ea29f204b8d82a7103ae"), looks := false }, kinds := [], alts := [], laidByText := true, laidKinds := [.data, .data, .data], laidTests := true, laidLooks := .later }
def GroupCyclesCardSaid : Prop := Claim7.holds Tryd.pinned (.plain (OpenSpec.ofChange groupCyclesSpec)) groupCyclesCard

/-- THE TIED CARD OF 'recompilelaw29.GroupAlone'. -/
def groupAloneCard : Claim7 := { stood := { row := groupAloneRow, standIns := [], harness := (true, "4449ecd514a7234ecc13f46a5a526d7d143f4e6256a6ea29f204b8d82a7103ae"), looks := false }, kinds := [], alts := [], laidByText := true, laidKinds := [.data, .data, .data], laidTests := true, laidLooks := .later }
def GroupAloneCardSaid : Prop := Claim7.holds Tryd.pinned (.plain (OpenSpec.ofChange groupAloneSpec)) groupAloneCard

/-- THE SECOND FORM's CARD OF 'recompilelaw29.GroupOf'. -/
def groupOfUptoCard : Claim7 := { stood := { row := groupOfUptoRow, standIns := [], harness := (true, "4449ecd514a7234ecc13f46a5a526d7d143f4e6256a6ea29f204b8d82a7103ae"), looks := false }, kinds := [], alts := [], laidByText := true, laidKinds := [.data, .data, .data], laidTests := true, laidLooks := .later }
def GroupOfUptoCardSaid : Prop := Claim7.holds Tryd.pinned (.plain (OpenSpec.upto groupOfSpec)) groupOfUptoCard

/-- THE SECOND FORM's CARD OF 'recompilelaw29.GroupDivides'. -/
def groupDividesUptoCard : Claim7 := { stood := { row := groupDividesUptoRow, standIns := [], harness := (true, "4449ecd514a7234ecc13f46a5a526d7d143f4e6256a6ea29f204b8d82a7103ae"), looks := false }, kinds := [], alts := [], laidByText := true, laidKinds := [.data, .data, .data], laidTests := true, laidLooks := .later }
def GroupDividesUptoCardSaid : Prop := Claim7.holds Tryd.pinned (.plain (OpenSpec.upto groupDividesSpec)) groupDividesUptoCard

/-- THE SECOND FORM's CARD OF 'recompilelaw29.GroupCycles'. -/
def groupCyclesUptoCard : Claim7 := { stood := { row := groupCyclesUptoRow, standIns := [], harness := (true, "4449ecd514a7234ecc13f46a5a526d7d143f4e6256a6ea29f204b8d82a7103ae"), looks := false }, kinds := [], alts := [], laidByText := true, laidKinds := [.data, .data, .data], laidTests := true, laidLooks := .later }
def GroupCyclesUptoCardSaid : Prop := Claim7.holds Tryd.pinned (.plain (OpenSpec.upto groupCyclesSpec)) groupCyclesUptoCard

/-- THE SECOND FORM's CARD OF 'recompilelaw29.GroupAlone'. -/
def groupAloneUptoCard : Claim7 := { stood := { row := groupAloneUptoRow, standIns := [], harness := (true, "4449ecd514a7234ecc13f46a5a526d7d143f4e6256a6ea29f204b8d82a7103ae"), looks := false }, kinds := [], alts := [], laidByText := true, laidKinds := [.data, .data, .data], laidTests := true, laidLooks := .later }
def GroupAloneUptoCardSaid : Prop := Claim7.holds Tryd.pinned (.plain (OpenSpec.upto groupAloneSpec)) groupAloneUptoCard
end Rows
end Go.Proofs.YtdappapdddnciaaDoor
