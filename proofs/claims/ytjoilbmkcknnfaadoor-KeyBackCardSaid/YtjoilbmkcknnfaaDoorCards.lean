/-
  DERIVED. GIVEN WITH THE SEED: THE CARDS: each row of YtjoilbmkcknnfaaDoorRows.lean that lists a variable, with what it lists TIED to the program's text (the seventh form; the later family's looks); each row that meets fmt, with fmt's text TOLD by the authors' own Lean function (tested against real Go, not proved from fmt's source: count such statements apart). THE CARD IS WHAT COUNTS. Prove the row's statement (the work); the ties are given (YtjoilbmkcknnfaaDoorTie.lean); close each card by the builder's one call (the guide's Derived/Test/ToyasCard.lean, 'card_holds'). Laid BY PROGRAM, IN A SANDBOX (cutbox-door.mjs). By AI agents, Wed Nov 11 2026. No macro, syntax, notation, axiom, sorry.
-/
import Derived.Test.YtjoilbmkcknnfaaDoorRows
import GoSem.ClaimSeven
namespace Go.Proofs.YtjoilbmkcknnfaaDoor
namespace Rows

/-- THE TIED CARD OF 'recompilelaw23.KeyTexts'. -/
def keyTextsCard : Claim7 := { stood := { row := keyTextsRow, standIns := [], harness := (true, "c879c3db3f261a8ad29bce25d42cc9ef8c516349233b50035ffac8b49df8972e"), looks := true }, kinds := [], alts := [], laidByText := true, laidKinds := [.data, .data, .data, .sentinel, .sentinel], laidTests := true, laidLooks := .later }
def KeyTextsCardSaid : Prop := Claim7.holds Tryd.pinned (.plain (OpenSpec.ofChange keyTextsSpec)) keyTextsCard

/-- THE TIED CARD OF 'recompilelaw23.KeyBytes'. -/
def keyBytesCard : Claim7 := { stood := { row := keyBytesRow, standIns := [], harness := (true, "c879c3db3f261a8ad29bce25d42cc9ef8c516349233b50035ffac8b49df8972e"), looks := true }, kinds := [], alts := [], laidByText := true, laidKinds := [.data, .data, .data, .sentinel, .sentinel], laidTests := true, laidLooks := .later }
def KeyBytesCardSaid : Prop := Claim7.holds Tryd.pinned (.plain (OpenSpec.ofChange keyBytesSpec)) keyBytesCard

/-- THE TIED CARD OF 'recompilelaw23.KeyKinds'. -/
def keyKindsCard : Claim7 := { stood := { row := keyKindsRow, standIns := [], harness := (true, "c879c3db3f261a8ad29bce25d42cc9ef8c516349233b50035ffac8b49df8972e"), looks := true }, kinds := [], alts := [], laidByText := true, laidKinds := [.data, .data, .data, .sentinel, .sentinel], laidTests := true, laidLooks := .later }
def KeyKindsCardSaid : Prop := Claim7.holds Tryd.pinned (.plain (OpenSpec.ofChange keyKindsSpec)) keyKindsCard

/-- THE TIED CARD OF 'recompilelaw23.KeyRules'. -/
def keyRulesCard : Claim7 := { stood := { row := keyRulesRow, standIns := [], harness := (true, "c879c3db3f261a8ad29bce25d42cc9ef8c516349233b50035ffac8b49df8972e"), looks := true }, kinds := [], alts := [], laidByText := true, laidKinds := [.data, .data, .data, .sentinel, .sentinel], laidTests := true, laidLooks := .later }
def KeyRulesCardSaid : Prop := Claim7.holds Tryd.pinned (.plain (OpenSpec.ofChange keyRulesSpec)) keyRulesCard

/-- THE TIED CARD OF 'recompilelaw26.RecordPuts'. -/
def recordPutsCard : Claim7 := { stood := { row := recordPutsRow, standIns := [], harness := (true, "c879c3db3f261a8ad29bce25d42cc9ef8c516349233b50035ffac8b49df8972e"), looks := true }, kinds := [], alts := [], laidByText := true, laidKinds := [.data, .data, .data, .sentinel, .sentinel], laidTests := true, laidLooks := .later }
def RecordPutsCardSaid : Prop := Claim7.holds Tryd.pinned (.plain (OpenSpec.ofChange recordPutsSpec)) recordPutsCard

/-- THE TIED CARD OF 'recompilelaw26.RecordKeeps'. -/
def recordKeepsCard : Claim7 := { stood := { row := recordKeepsRow, standIns := [], harness := (true, "c879c3db3f261a8ad29bce25d42cc9ef8c516349233b50035ffac8b49df8972e"), looks := true }, kinds := [], alts := [], laidByText := true, laidKinds := [.data, .data, .data, .sentinel, .sentinel], laidTests := true, laidLooks := .later }
def RecordKeepsCardSaid : Prop := Claim7.holds Tryd.pinned (.plain (OpenSpec.ofChange recordKeepsSpec)) recordKeepsCard

/-- THE TIED CARD OF 'recompilelaw26.RecordReaders'. -/
def recordReadersCard : Claim7 := { stood := { row := recordReadersRow, standIns := [], harness := (true, "c879c3db3f261a8ad29bce25d42cc9ef8c516349233b50035ffac8b49df8972e"), looks := true }, kinds := [], alts := [], laidByText := true, laidKinds := [.data, .data, .data, .sentinel, .sentinel], laidTests := true, laidLooks := .later }
def RecordReadersCardSaid : Prop := Claim7.holds Tryd.pinned (.plain (OpenSpec.ofChange recordReadersSpec)) recordReadersCard

/-- THE TIED CARD OF 'recompilelaw26.RecordValid'. -/
def recordValidCard : Claim7 := { stood := { row := recordValidRow, standIns := [], harness := (true, "c879c3db3f261a8ad29bce25d42cc9ef8c516349233b50035ffac8b49df8972e"), looks := true }, kinds := [], alts := [], laidByText := true, laidKinds := [.data, .data, .data, .sentinel, .sentinel], laidTests := true, laidLooks := .later }
def RecordValidCardSaid : Prop := Claim7.holds Tryd.pinned (.plain (OpenSpec.ofChange recordValidSpec)) recordValidCard

/-- THE TIED CARD OF 'recompilelaw23.KeyOrder'. -/
def keyOrderCard : Claim7 := { stood := { row := keyOrderRow, standIns := [], harness := (true, "c879c3db3f261a8ad29bce25d42cc9ef8c516349233b50035ffac8b49df8972e"), looks := true }, kinds := [], alts := [], laidByText := true, laidKinds := [.data, .data, .data, .sentinel, .sentinel], laidTests := true, laidLooks := .later }
def KeyOrderCardSaid : Prop := Claim7.holds Tryd.pinned (.plain (OpenSpec.ofChange keyOrderSpec)) keyOrderCard

/-- THE TIED CARD OF 'recompilelaw23.KeyBack'. -/
def keyBackCard : Claim7 := { stood := { row := keyBackRow, standIns := [], harness := (true, "c879c3db3f261a8ad29bce25d42cc9ef8c516349233b50035ffac8b49df8972e"), looks := true }, kinds := [], alts := [], laidByText := true, laidKinds := [.data, .data, .data, .sentinel, .sentinel], laidTests := true, laidLooks := .later }
def KeyBackCardSaid : Prop := Claim7.holds Tryd.pinned (.plain (OpenSpec.ofChange keyBackSpec)) keyBackCard

/-- THE SECOND FORM's CARD OF 'recompilelaw23.KeyTexts'. -/
def keyTextsUptoCard : Claim7 := { stood := { row := keyTextsUptoRow, standIns := [], harness := (true, "c879c3db3f261a8ad29bce25d42cc9ef8c516349233b50035ffac8b49df8972e"), looks := true }, kinds := [], alts := [], laidByText := true, laidKinds := [.data, .data, .data, .sentinel, .sentinel], laidTests := true, laidLooks := .later }
def KeyTextsUptoCardSaid : Prop := Claim7.holds Tryd.pinned (.plain (OpenSpec.upto keyTextsSpec)) keyTextsUptoCard

/-- THE SECOND FORM's CARD OF 'recompilelaw23.KeyBytes'. -/
def keyBytesUptoCard : Claim7 := { stood := { row := keyBytesUptoRow, standIns := [], harness := (true, "c879c3db3f261a8ad29bce25d42cc9ef8c516349233b50035ffac8b49df8972e"), looks := true }, kinds := [], alts := [], laidByText := true, laidKinds := [.data, .data, .data, .sentinel, .sentinel], laidTests := true, laidLooks := .later }
def KeyBytesUptoCardSaid : Prop := Claim7.holds Tryd.pinned (.plain (OpenSpec.upto keyBytesSpec)) keyBytesUptoCard

/-- THE SECOND FORM's CARD OF 'recompilelaw23.KeyKinds'. -/
def keyKindsUptoCard : Claim7 := { stood := { row := keyKindsUptoRow, standIns := [], harness := (true, "c879c3db3f261a8ad29bce25d42cc9ef8c516349233b50035ffac8b49df8972e"), looks := true }, kinds := [], alts := [], laidByText := true, laidKinds := [.data, .data, .data, .sentinel, .sentinel], laidTests := true, laidLooks := .later }
def KeyKindsUptoCardSaid : Prop := Claim7.holds Tryd.pinned (.plain (OpenSpec.upto keyKindsSpec)) keyKindsUptoCard

/-- THE SECOND FORM's CARD OF 'recompilelaw23.KeyRules'. -/
def keyRulesUptoCard : Claim7 := { stood := { row := keyRulesUptoRow, standIns := [], harness := (true, "c879c3db3f261a8ad29bce25d42cc9ef8c516349233b50035ffac8b49df8972e"), looks := true }, kinds := [], alts := [], laidByText := true, laidKinds := [.data, .data, .data, .sentinel, .sentinel], laidTests := true, laidLooks := .later }
def KeyRulesUptoCardSaid : Prop := Claim7.holds Tryd.pinned (.plain (OpenSpec.upto keyRulesSpec)) keyRulesUptoCard

/-- THE SECOND FORM's CARD OF 'recompilelaw26.RecordPuts'. -/
def recordPutsUptoCard : Claim7 := { stood := { row := recordPutsUptoRow, standIns := [], harness := (true, "c879c3db3f261a8ad29bce25d42cc9ef8c516349233b50035ffac8b49df8972e"), looks := true }, kinds := [], alts := [], laidByText := true, laidKinds := [.data, .data, .data, .sentinel, .sentinel], laidTests := true, laidLooks := .later }
def RecordPutsUptoCardSaid : Prop := Claim7.holds Tryd.pinned (.plain (OpenSpec.upto recordPutsSpec)) recordPutsUptoCard

/-- THE SECOND FORM's CARD OF 'recompilelaw26.RecordKeeps'. -/
def recordKeepsUptoCard : Claim7 := { stood := { row := recordKeepsUptoRow, standIns := [], harness := (true, "c879c3db3f261a8ad29bce25d42cc9ef8c516349233b50035ffac8b49df8972e"), looks := true }, kinds := [], alts := [], laidByText := true, laidKinds := [.data, .data, .data, .sentinel, .sentinel], laidTests := true, laidLooks := .later }
def RecordKeepsUptoCardSaid : Prop := Claim7.holds Tryd.pinned (.plain (OpenSpec.upto recordKeepsSpec)) recordKeepsUptoCard

/-- THE SECOND FORM's CARD OF 'recompilelaw26.RecordReaders'. -/
def recordReadersUptoCard : Claim7 := { stood := { row := recordReadersUptoRow, standIns := [], harness := (true, "c879c3db3f261a8ad29bce25d42cc9ef8c516349233b50035ffac8b49df8972e"), looks := true }, kinds := [], alts := [], laidByText := true, laidKinds := [.data, .data, .data, .sentinel, .sentinel], laidTests := true, laidLooks := .later }
def RecordReadersUptoCardSaid : Prop := Claim7.holds Tryd.pinned (.plain (OpenSpec.upto recordReadersSpec)) recordReadersUptoCard

/-- THE SECOND FORM's CARD OF 'recompilelaw26.RecordValid'. -/
def recordValidUptoCard : Claim7 := { stood := { row := recordValidUptoRow, standIns := [], harness := (true, "c879c3db3f261a8ad29bce25d42cc9ef8c516349233b50035ffac8b49df8972e"), looks := true }, kinds := [], alts := [], laidByText := true, laidKinds := [.data, .data, .data, .sentinel, .sentinel], laidTests := true, laidLooks := .later }
def RecordValidUptoCardSaid : Prop := Claim7.holds Tryd.pinned (.plain (OpenSpec.upto recordValidSpec)) recordValidUptoCard

/-- THE SECOND FORM's CARD OF 'recompilelaw23.KeyOrder'. -/
def keyOrderUptoCard : Claim7 := { stood := { row := keyOrderUptoRow, standIns := [], harness := (true, "c879c3db3f261a8ad29bce25d42cc9ef8c516349233b50035ffac8b49df8972e"), looks := true }, kinds := [], alts := [], laidByText := true, laidKinds := [.data, .data, .data, .sentinel, .sentinel], laidTests := true, laidLooks := .later }
def KeyOrderUptoCardSaid : Prop := Claim7.holds Tryd.pinned (.plain (OpenSpec.upto keyOrderSpec)) keyOrderUptoCard

/-- THE SECOND FORM's CARD OF 'recompilelaw23.KeyBack'. -/
def keyBackUptoCard : Claim7 := { stood := { row := keyBackUptoRow, standIns := [], harness := (true, "c879c3db3f261a8ad29bce25d42cc9ef8c516349233b50035ffac8b49df8972e"), looks := true }, kinds := [], alts := [], laidByText := true, laidKinds := [.data, .data, .data, .sentinel, .sentinel], laidTests := true, laidLooks := .later }
def KeyBackUptoCardSaid : Prop := Claim7.holds Tryd.pinned (.plain (OpenSpec.upto keyBackSpec)) keyBackUptoCard
end Rows
end Go.Proofs.YtjoilbmkcknnfaaDoor
