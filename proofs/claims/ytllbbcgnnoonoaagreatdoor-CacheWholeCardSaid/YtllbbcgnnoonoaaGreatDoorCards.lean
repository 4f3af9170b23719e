/-
  DERIVED. GIVEN WITH THE SEED: THE CARDS: each row of YtllbbcgnnoonoaaGreatDoorRows.lean that lists a variable, with what it lists TIED to the program's text (the seventh form; the later family's looks); each row that meets fmt, with fmt's text TOLD by the authors' own Lean function (tested against real Go, not proved from fmt's source: count such statements apart). THE CARD IS WHAT COUNTS. Prove the row's statement (the work); the ties are given (YtllbbcgnnoonoaaGreatDoorTie.lean); close each card by the builder's one call (the guide's Derived/Test/ToyasCard.lean, 'card_holds'). Laid BY PROGRAM, IN A SANDBOX (cutbox-door.mjs). By AI agents, Wed Nov 11 2026. No macro, syntax, notation, axiom, sorry.
-/
import Derived.Test.YtllbbcgnnoonoaaGreatDoorRows
import GoSem.ClaimSeven
namespace Go.Proofs.YtllbbcgnnoonoaaGreatDoor
namespace Rows

/-- THE TIED CARD OF 'recompilelaw38.CacheActs'. -/
def cacheActsCard : Claim7 := { stood := { row := cacheActsRow, standIns := [], harness := (true, "b6a588a893dd20c63dee1587cc351f7d042c980ac0b2f1ef4de1ecc73978d993"), looks := true }, kinds := [], alts := [], laidByText := true, laidKinds := [.data, .data, .data, .sentinel, .sentinel], laidTests := true, laidLooks := .later }
def CacheActsCardSaid : Prop := Claim7.holds Tryz.pinned (.plain (OpenSpec.ofChange cacheActsSpec)) cacheActsCard

/-- THE TIED CARD OF 'recompilelaw38.CacheWhole'. -/
def cacheWholeCard : Claim7 := { stood := { row := cacheWholeRow, standIns := [], harness := (true, "b6a588a893dd20c63dee1587cc351f7d042c980ac0b2f1ef4de1ecc73978d993"), looks := true }, kinds := [], alts := [], laidByText := true, laidKinds := [.data, .data, .data, .sentinel, .sentinel], laidTests := true, laidLooks := .later }
def CacheWholeCardSaid : Prop := Claim7.holds Tryz.pinned (.plain (OpenSpec.ofChange cacheWholeSpec)) cacheWholeCard

/-- THE SECOND FORM's CARD OF 'recompilelaw38.CacheActs'. -/
def cacheActsUptoCard : Claim7 := { stood := { row := cacheActsUptoRow, standIns := [], harness := (true, "b6a588a893dd20c63dee1587cc351f7d042c980ac0b2f1ef4de1ecc73978d993"), looks := true }, kinds := [], alts := [], laidByText := true, laidKinds := [.data, .data, .data, .sentinel, .sentinel], laidTests := true, laidLooks := .later }
def CacheActsUptoCardSaid : Prop := Claim7.holds Tryz.pinned (.plain (OpenSpec.upto cacheActsSpec)) cacheActsUptoCard

/-- THE SECOND FORM's CARD OF 'recompilelaw38.CacheWhole'. -/
def cacheWholeUptoCard : Claim7 := { stood := { row := cacheWholeUptoRow, standIns := [], harness := (true, "b6a588a893dd20c63dee1587cc351f7d042c980ac0b2f1ef4de1ecc73978d993"), looks := true }, kinds := [], alts := [], laidByText := true, laidKinds := [.data, .data, .data, .sentinel, .sentinel], laidTests := true, laidLooks := .later }
def CacheWholeUptoCardSaid : Prop := Claim7.holds Tryz.pinned (.plain (OpenSpec.upto cacheWholeSpec)) cacheWholeUptoCard
end Rows
end Go.Proofs.YtllbbcgnnoonoaaGreatDoor
