/- Data of the program; facts of its table of types. -/
import Derived.Test.YtappkgmbdoiocaaDoorTD2
set_option linter.unusedVariables false
set_option linter.unusedSimpArgs false
namespace Go.Proofs.YtappkgmbdoiocaaDoor
open Go.RowKit
structure TurnD where
  Done : Bool
  Value : ByteArray
  Ask : KeyD
def R_TurnD : Rep TurnD where
  size := 4
  rel := fun _ _ cs x => cs = [.bool x.Done, .string x.Value, .int .i64 x.Ask.Kind, .string x.Ask.Text]
  len := by rintro _ _ _ _ rfl; rfl
  one := by rintro _ _ _ _ rfl; exact (oc rfl (oc rfl (oc rfl (oc rfl on))))
  keep := fun h _ _ => h
theorem ci27 : callI Tryd.prog 27 = true := by kernel_rfl
theorem ci30 : callI Tryd.prog 30 = true := by kernel_rfl
theorem ci32 : callI Tryd.prog 32 = true := by kernel_rfl
theorem ci35 : callI Tryd.prog 35 = true := by kernel_rfl
theorem ci37 : callI Tryd.prog 37 = true := by kernel_rfl
theorem ci39 : callI Tryd.prog 39 = true := by kernel_rfl
theorem ci52 : callI Tryd.prog 52 = true := by kernel_rfl
theorem ci56 : callI Tryd.prog 56 = true := by kernel_rfl
theorem ci57 : callI Tryd.prog 57 = true := by kernel_rfl
theorem ci58 : callI Tryd.prog 58 = true := by kernel_rfl
theorem ci65 : callI Tryd.prog 65 = true := by kernel_rfl
theorem el44 : elI Tryd.prog 44 = some (3, 1, 8) := by kernel_rfl
theorem el49 : elI Tryd.prog 49 = some (53, 4, 48) := by kernel_rfl
theorem el51 : elI Tryd.prog 51 = some (60, 4, 24) := by kernel_rfl
theorem el65 : elI Tryd.prog 65 = some (9, 1, 16) := by kernel_rfl
theorem fl53_1 : fldI Tryd.prog 53 1 = some 1 := by kernel_rfl
theorem fl53_2 : fldI Tryd.prog 53 2 = some 2 := by kernel_rfl
theorem fl53_3 : fldI Tryd.prog 53 3 = some 3 := by kernel_rfl
theorem fl60_0 : fldI Tryd.prog 60 0 = some 0 := by kernel_rfl
theorem fl60_1 : fldI Tryd.prog 60 1 = some 1 := by kernel_rfl
theorem fl60_2 : fldI Tryd.prog 60 2 = some 2 := by kernel_rfl
theorem fl60_3 : fldI Tryd.prog 60 3 = some 3 := by kernel_rfl
theorem fl70_0 : fldI Tryd.prog 70 0 = some 0 := by kernel_rfl
theorem fl70_1 : fldI Tryd.prog 70 1 = some 1 := by kernel_rfl
theorem fl70_2 : fldI Tryd.prog 70 2 = some 2 := by kernel_rfl
theorem pl53 : plI Tryd.prog 53 = some [(0, 1), (1, 1), (2, 1), (3, 1)] := by kernel_rfl
theorem pl60 : plI Tryd.prog 60 = some [(0, 1), (1, 1), (2, 1), (3, 1)] := by kernel_rfl
theorem pl70 : plI Tryd.prog 70 = some [(0, 1), (1, 1), (2, 2)] := by kernel_rfl
theorem sl44 : isSl Tryd.prog 44 = some 3 := by kernel_rfl
theorem sl51 : isSl Tryd.prog 51 = some 60 := by kernel_rfl
theorem sl65 : isSl Tryd.prog 65 = some 9 := by kernel_rfl
theorem ty51 : tyI Tryd.prog 51 = some (false, 1) := by kernel_rfl
theorem ty60 : tyI Tryd.prog 60 = some (true, 4) := by kernel_rfl
theorem ty70 : tyI Tryd.prog 70 = some (true, 4) := by kernel_rfl
theorem ze3 : zeroI Tryd.prog 3 = some [.int .i64 0] := by kernel_rfl
theorem ze53 : zeroI Tryd.prog 53 = some [.bool false, .slice none 0 0, .int .i64 0, .int .i64 0] := by kernel_rfl
theorem ze60 : zeroI Tryd.prog 60 = some [.bool false, .bool false, .int .i64 0, .int .i64 0] := by kernel_rfl
theorem ze70 : zeroI Tryd.prog 70 = some [.bool false, .string (ByteArray.mk #[]), .int .i64 0, .string (ByteArray.mk #[])] := by kernel_rfl
theorem ze9 : zeroI Tryd.prog 9 = some [.string (ByteArray.mk #[])] := by kernel_rfl

end Go.Proofs.YtappkgmbdoiocaaDoor
