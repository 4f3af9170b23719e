/- Data of the program; facts of its table of types. -/
import Derived.Test.YtjoilbmkcknnfaaDoorTD2
import Derived.Test.YtjoilbmkcknnfaaDoorGC
set_option linter.unusedVariables false
set_option linter.unusedSimpArgs false
namespace Go.Proofs.YtjoilbmkcknnfaaDoor
open Go.RowKit
structure RecordD where
  Key : KeyD
  Value : ByteArray
  Reads : (List KeyD)
  Changed : Int
  Verified : Int
  Cost : Int
  Dirty : Bool
def R_RecordD : Rep RecordD where
  size := 8
  rel := fun T w cs x => ∃ v1, cs = [.int .i64 x.Key.Kind, .string x.Key.Text, .string x.Value, v1, .int .i64 x.Changed, .int .i64 x.Verified, .int .i64 x.Cost, .bool x.Dirty] ∧ SlR R_KeyD T w v1 x.Reads
  len := by rintro _ _ _ _ ⟨v1, rfl, hv1⟩; rfl
  one := by rintro _ _ _ _ ⟨v1, rfl, hv1⟩; exact (oc rfl (oc rfl (oc rfl (oc hv1.one (oc rfl (oc rfl (oc rfl (oc rfl on))))))))
  keep := by rintro _ _ _ _ _ _ ⟨v1, rfl, hv1⟩ k n; exact ⟨v1, rfl, hv1.keep k n⟩
theorem ci100 : callI Tryd.prog 100 = true := by kernel_rfl
theorem ci101 : callI Tryd.prog 101 = true := by kernel_rfl
theorem ci102 : callI Tryd.prog 102 = true := by kernel_rfl
theorem ci105 : callI Tryd.prog 105 = true := by kernel_rfl
theorem ci106 : callI Tryd.prog 106 = true := by kernel_rfl
theorem ci109 : callI Tryd.prog 109 = true := by kernel_rfl
theorem ci48 : callI Tryd.prog 48 = true := by kernel_rfl
theorem ci57 : callI Tryd.prog 57 = true := by kernel_rfl
theorem ci75 : callI Tryd.prog 75 = true := by kernel_rfl
theorem ci76 : callI Tryd.prog 76 = true := by kernel_rfl
theorem ci77 : callI Tryd.prog 77 = true := by kernel_rfl
theorem ci78 : callI Tryd.prog 78 = true := by kernel_rfl
theorem ci80 : callI Tryd.prog 80 = true := by kernel_rfl
theorem ci81 : callI Tryd.prog 81 = true := by kernel_rfl
theorem ci82 : callI Tryd.prog 82 = true := by kernel_rfl
theorem ci83 : callI Tryd.prog 83 = true := by kernel_rfl
theorem ci84 : callI Tryd.prog 84 = true := by kernel_rfl
theorem ci85 : callI Tryd.prog 85 = true := by kernel_rfl
theorem ci86 : callI Tryd.prog 86 = true := by kernel_rfl
theorem ci88 : callI Tryd.prog 88 = true := by kernel_rfl
theorem ci91 : callI Tryd.prog 91 = true := by kernel_rfl
theorem ci92 : callI Tryd.prog 92 = true := by kernel_rfl
theorem ci93 : callI Tryd.prog 93 = true := by kernel_rfl
theorem el22 : elI Tryd.prog 22 = some (28, 2, 24) := by kernel_rfl
theorem el23 : elI Tryd.prog 23 = some (3, 1, 8) := by kernel_rfl
theorem el51 : elI Tryd.prog 51 = some (54, 8, 96) := by kernel_rfl
theorem fl54_0 : fldI Tryd.prog 54 0 = some 0 := by kernel_rfl
theorem fl54_1 : fldI Tryd.prog 54 1 = some 2 := by kernel_rfl
theorem fl54_2 : fldI Tryd.prog 54 2 = some 3 := by kernel_rfl
theorem fl54_3 : fldI Tryd.prog 54 3 = some 4 := by kernel_rfl
theorem fl54_4 : fldI Tryd.prog 54 4 = some 5 := by kernel_rfl
theorem fl54_5 : fldI Tryd.prog 54 5 = some 6 := by kernel_rfl
theorem fl54_6 : fldI Tryd.prog 54 6 = some 7 := by kernel_rfl
theorem pl54 : plI Tryd.prog 54 = some [(0, 2), (2, 1), (3, 1), (4, 1), (5, 1), (6, 1), (7, 1)] := by kernel_rfl
theorem sl22 : isSl Tryd.prog 22 = some 28 := by kernel_rfl
theorem sl51 : isSl Tryd.prog 51 = some 54 := by kernel_rfl
theorem ty22 : tyI Tryd.prog 22 = some (false, 1) := by kernel_rfl
theorem ty54 : tyI Tryd.prog 54 = some (true, 8) := by kernel_rfl
theorem ze3 : zeroI Tryd.prog 3 = some [.int .i64 0] := by kernel_rfl
theorem ze54 : zeroI Tryd.prog 54 = some [.int .i64 0, .string (ByteArray.mk #[]), .string (ByteArray.mk #[]), .slice none 0 0, .int .i64 0, .int .i64 0, .int .i64 0, .bool false] := by kernel_rfl


end Go.Proofs.YtjoilbmkcknnfaaDoor
