/-
  DERIVED. GIVEN WITH THE SEED: THE CARDS: each row of YtcpplgcgcbihoaaGreatDoorRows.lean that lists a variable, with what it lists TIED to the program's text (the seventh form; the later family's looks); each row that meets fmt, with fmt's text TOLD by the authors' own Lean function (tested against real Go, not proved from fmt's source: count such statements apart). THE CARD IS WHAT COUNTS. Prove the row's statement (the work); the ties are given (YtcpplgcgcbihoaaGreatDoorTie.lean); close each card by the builder's one call (the guide's Derived/Test/ToyasCard.lean, 'card_holds'). Laid BY PROGRAM, IN A SANDBOX (cutbox-door.mjs). By AI agents, Wed Nov 11 2026. No macro, syntax, notation, axiom, sorry.
-/
import Derived.Test.YtcpplgcgcbihoaaGreatDoorRows
import GoSem.ClaimSeven
namespace Go.Proofs.YtcpplgcgcbihoaaGreatDoor
namespace Rows

/-- THE TIED CARD OF 'recompilelaw35.EncodeBases'. -/
def encodeBasesCard : Claim7 := { stood := { row := encodeBasesRow, standIns := [], harness := (true, "2008240e243505ca503005505f79c37f27477d5a698571b9b02cb9b1a9c48875"), looks := true }, kinds := [], alts := [], laidByText := true, laidKinds := [.sentinel, .sentinel, .data, .data, .data], laidTests := true, laidLooks := .later }
def EncodeBasesCardSaid : Prop := Claim7.holds Tryz.pinned (.plain (OpenSpec.ofChange encodeBasesSpec)) encodeBasesCard

/-- THE TIED CARD OF 'recompilelaw35.EncodeArtifacts'. -/
def encodeArtifactsCard : Claim7 := { stood := { row := encodeArtifactsRow, standIns := [], harness := (true, "2008240e243505ca503005505f79c37f27477d5a698571b9b02cb9b1a9c48875"), looks := true }, kinds := [], alts := [], laidByText := true, laidKinds := [.sentinel, .sentinel, .data, .data, .data], laidTests := true, laidLooks := .later }
def EncodeArtifactsCardSaid : Prop := Claim7.holds Tryz.pinned (.plain (OpenSpec.ofChange encodeArtifactsSpec)) encodeArtifactsCard

/-- THE TIED CARD OF 'recompilelaw35.EncodeBack'. -/
def encodeBackCard : Claim7 := { stood := { row := encodeBackRow, standIns := [], harness := (true, "2008240e243505ca503005505f79c37f27477d5a698571b9b02cb9b1a9c48875"), looks := true }, kinds := [], alts := [], laidByText := true, laidKinds := [.sentinel, .sentinel, .data, .data, .data], laidTests := true, laidLooks := .later }
def EncodeBackCardSaid : Prop := Claim7.holds Tryz.pinned (.plain (OpenSpec.ofChange encodeBackSpec)) encodeBackCard

/-- THE TIED CARD OF 'recompilelaw35.EncodeApart'. -/
def encodeApartCard : Claim7 := { stood := { row := encodeApartRow, standIns := [], harness := (true, "2008240e243505ca503005505f79c37f27477d5a698571b9b02cb9b1a9c48875"), looks := true }, kinds := [], alts := [], laidByText := true, laidKinds := [.sentinel, .sentinel, .data, .data, .data], laidTests := true, laidLooks := .later }
def EncodeApartCardSaid : Prop := Claim7.holds Tryz.pinned (.plain (OpenSpec.ofChange encodeApartSpec)) encodeApartCard

/-- THE TIED CARD OF 'recompilelaw38.CacheRight'. -/
def cacheRightCard : Claim7 := { stood := { row := cacheRightRow, standIns := [], harness := (true, "2008240e243505ca503005505f79c37f27477d5a698571b9b02cb9b1a9c48875"), looks := true }, kinds := [], alts := [], laidByText := true, laidKinds := [.data, .data, .data, .sentinel, .sentinel], laidTests := true, laidLooks := .later }
def CacheRightCardSaid : Prop := Claim7.holds Tryz.pinned (.plain (OpenSpec.ofChange cacheRightSpec)) cacheRightCard

/-- THE TIED CARD OF 'recompilelaw38.CacheMore'. -/
def cacheMoreCard : Claim7 := { stood := { row := cacheMoreRow, standIns := [], harness := (true, "2008240e243505ca503005505f79c37f27477d5a698571b9b02cb9b1a9c48875"), looks := true }, kinds := [], alts := [], laidByText := true, laidKinds := [.data, .data, .data, .sentinel, .sentinel], laidTests := true, laidLooks := .later }
def CacheMoreCardSaid : Prop := Claim7.holds Tryz.pinned (.plain (OpenSpec.ofChange cacheMoreSpec)) cacheMoreCard

/-- THE SECOND FORM's CARD OF 'recompilelaw35.EncodeBases'. -/
def encodeBasesUptoCard : Claim7 := { stood := { row := encodeBasesUptoRow, standIns := [], harness := (true, "2008240e243505ca503005505f79c37f27477d5a698571b9b02cb9b1a9c48875"), looks := true }, kinds := [], alts := [], laidByText := true, laidKinds := [.sentinel, .sentinel, .data, .data, .data], laidTests := true, laidLooks := .later }
def EncodeBasesUptoCardSaid : Prop := Claim7.holds Tryz.pinned (.plain (OpenSpec.upto encodeBasesSpec)) encodeBasesUptoCard

/-- THE SECOND FORM's CARD OF 'recompilelaw35.EncodeArtifacts'. -/
def encodeArtifactsUptoCard : Claim7 := { stood := { row := encodeArtifactsUptoRow, standIns := [], harness := (true, "2008240e243505ca503005505f79c37f27477d5a698571b9b02cb9b1a9c48875"), looks := true }, kinds := [], alts := [], laidByText := true, laidKinds := [.sentinel, .sentinel, .data, .data, .data], laidTests := true, laidLooks := .later }
def EncodeArtifactsUptoCardSaid : Prop := Claim7.holds Tryz.pinned (.plain (OpenSpec.upto encodeArtifactsSpec)) encodeArtifactsUptoCard

/-- THE SECOND FORM's CARD OF 'recompilelaw35.EncodeBack'. -/
def encodeBackUptoCard : Claim7 := { stood := { row := encodeBackUptoRow, standIns := [], harness := (true, "2008240e243505ca503005505f79c37f27477d5a698571b9b02cb9b1a9c48875"), looks := true }, kinds := [], alts := [], laidByText := true, laidKinds := [.sentinel, .sentinel, .data, .data, .data], laidTests := true, laidLooks := .later }
def EncodeBackUptoCardSaid : Prop := Claim7.holds Tryz.pinned (.plain (OpenSpec.upto encodeBackSpec)) encodeBackUptoCard

/-- THE SECOND FORM's CARD OF 'recompilelaw35.EncodeApart'. -/
def encodeApartUptoCard : Claim7 := { stood := { row := encodeApartUptoRow, standIns := [], harness := (true, "2008240e243505ca503005505f79c37f27477d5a698571b9b02cb9b1a9c48875"), looks := true }, kinds := [], alts := [], laidByText := true, laidKinds := [.sentinel, .sentinel, .data, .data, .data], laidTests := true, laidLooks := .later }
def EncodeApartUptoCardSaid : Prop := Claim7.holds Tryz.pinned (.plain (OpenSpec.upto encodeApartSpec)) encodeApartUptoCard

/-- THE SECOND FORM's CARD OF 'recompilelaw38.CacheRight'. -/
def cacheRightUptoCard : Claim7 := { stood := { row := cacheRightUptoRow, standIns := [], harness := (true, "2008240e243505ca503005505f79c37f27477d5a698571b9b02cb9b1a9c48875"), looks := true }, kinds := [], alts := [], laidByText := true, laidKinds := [.data, .data, .data, .sentinel, .sentinel], laidTests := true, laidLooks := .later }
def CacheRightUptoCardSaid : Prop := Claim7.holds Tryz.pinned (.plain (OpenSpec.upto cacheRightSpec)) cacheRightUptoCard

/-- THE SECOND FORM's CARD OF 'recompilelaw38.CacheMore'. -/
def cacheMoreUptoCard : Claim7 := { stood := { row := cacheMoreUptoRow, standIns := [], harness := (true, "2008240e243505ca503005505f79c37f27477d5a698571b9b02cb9b1a9c48875"), looks := true }, kinds := [], alts := [], laidByText := true, laidKinds := [.data, .data, .data, .sentinel, .sentinel], laidTests := true, laidLooks := .later }
def CacheMoreUptoCardSaid : Prop := Claim7.holds Tryz.pinned (.plain (OpenSpec.upto cacheMoreSpec)) cacheMoreUptoCard
end Rows
end Go.Proofs.YtcpplgcgcbihoaaGreatDoor
