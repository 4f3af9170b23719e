/- Data of the program; facts of its table of types. -/
import Derived.Test.YtjoilbmkcknnfaaDoorH3
import Derived.Test.YtjoilbmkcknnfaaDoorProg
import Derived.Test.YtjoilbmkcknnfaaDoorGC
set_option linter.unusedVariables false
set_option linter.unusedSimpArgs false
namespace Go.Proofs.YtjoilbmkcknnfaaDoor
open Go.RowKit
structure KeyD where
  Kind : Int
  Text : ByteArray
def R_KeyD : Rep KeyD where
  size := 2
  rel := fun _ _ cs x => cs = [.int .i64 x.Kind, .string x.Text]
  len := by rintro _ _ _ _ rfl; rfl
  one := by rintro _ _ _ _ rfl; exact (oc rfl (oc rfl on))
  keep := fun h _ _ => h
structure AskD where
  Cell : Bool
  Pick : Bool
  N : Int
  Else : Int
def R_AskD : Rep AskD where
  size := 4
  rel := fun _ _ cs x => cs = [.bool x.Cell, .bool x.Pick, .int .i64 x.N, .int .i64 x.Else]
  len := by rintro _ _ _ _ rfl; rfl
  one := by rintro _ _ _ _ rfl; exact (oc rfl (oc rfl (oc rfl (oc rfl on))))
  keep := fun h _ _ => h
structure RuleD where
  Ring : Bool
  Asks : (List AskD)
  Final : Int
  C : Int
def R_RuleD : Rep RuleD where
  size := 4
  rel := fun T w cs x => ∃ v1, cs = [.bool x.Ring, v1, .int .i64 x.Final, .int .i64 x.C] ∧ SlR R_AskD T w v1 x.Asks
  len := by rintro _ _ _ _ ⟨v1, rfl, hv1⟩; rfl
  one := by rintro _ _ _ _ ⟨v1, rfl, hv1⟩; exact (oc rfl (oc hv1.one (oc rfl (oc rfl on))))
  keep := by rintro _ _ _ _ _ _ ⟨v1, rfl, hv1⟩ k n; exact ⟨v1, rfl, hv1.keep k n⟩
structure DiceD where
  L : (List Int)
  At : Int
def R_DiceD : Rep DiceD where
  size := 2
  rel := fun T w cs x => ∃ v1, cs = [v1, .int .i64 x.At] ∧ SlR (Rep.int .i64) T w v1 x.L
  len := by rintro _ _ _ _ ⟨v1, rfl, hv1⟩; rfl
  one := by rintro _ _ _ _ ⟨v1, rfl, hv1⟩; exact (oc hv1.one (oc rfl on))
  keep := by rintro _ _ _ _ _ _ ⟨v1, rfl, hv1⟩ k n; exact ⟨v1, rfl, hv1.keep k n⟩
theorem ci18 : callI Tryd.prog 18 = true := by kernel_rfl
theorem ci23 : callI Tryd.prog 23 = true := by kernel_rfl
theorem ci24 : callI Tryd.prog 24 = true := by kernel_rfl
theorem ci42 : callI Tryd.prog 42 = true := by kernel_rfl
theorem ci59 : callI Tryd.prog 59 = true := by kernel_rfl
theorem ci62 : callI Tryd.prog 62 = true := by kernel_rfl
theorem ci68 : callI Tryd.prog 68 = true := by kernel_rfl
theorem ci70 : callI Tryd.prog 70 = true := by kernel_rfl
theorem ci72 : callI Tryd.prog 72 = true := by kernel_rfl
theorem ci73 : callI Tryd.prog 73 = true := by kernel_rfl
theorem ci74 : callI Tryd.prog 74 = true := by kernel_rfl
theorem fl28_0 : fldI Tryd.prog 28 0 = some 0 := by kernel_rfl
theorem fl28_1 : fldI Tryd.prog 28 1 = some 1 := by kernel_rfl
theorem fl46_0 : fldI Tryd.prog 46 0 = some 0 := by kernel_rfl
theorem fl98_0 : fldI Tryd.prog 98 0 = some 0 := by kernel_rfl
theorem fl98_1 : fldI Tryd.prog 98 1 = some 1 := by kernel_rfl
theorem if83 : Tryd.prog.underlying 83 = some (.interface (Tryd.prog.methodsAt 83)) := by kernel_rfl
theorem mixed : Tryd.prog.follows .mixedOrders = true := by kernel_rfl
theorem pl28 : plI Tryd.prog 28 = some [(0, 1), (1, 1)] := by kernel_rfl
theorem pl98 : plI Tryd.prog 98 = some [(0, 1), (1, 1)] := by kernel_rfl
theorem sl23 : isSl Tryd.prog 23 = some 3 := by kernel_rfl
theorem sl32 : isSl Tryd.prog 32 = some 9 := by kernel_rfl
theorem sl38 : isSl Tryd.prog 38 = some 46 := by kernel_rfl
theorem ty23 : tyI Tryd.prog 23 = some (false, 1) := by kernel_rfl
theorem ty28 : tyI Tryd.prog 28 = some (true, 2) := by kernel_rfl
theorem ty3 : tyI Tryd.prog 3 = some (false, 1) := by kernel_rfl
theorem ty4 : tyI Tryd.prog 4 = some (false, 1) := by kernel_rfl
theorem ty46 : tyI Tryd.prog 46 = some (true, 4) := by kernel_rfl
theorem ty9 : tyI Tryd.prog 9 = some (false, 1) := by kernel_rfl
theorem ze28 : zeroI Tryd.prog 28 = some [.int .i64 0, .string (ByteArray.mk #[])] := by kernel_rfl
theorem ze98 : zeroI Tryd.prog 98 = some [.slice none 0 0, .int .i64 0] := by kernel_rfl


end Go.Proofs.YtjoilbmkcknnfaaDoor
