/- Data of the program; facts of its table of types. -/
import Derived.Test.YtappkgmbdoiocaaDoorTD3
set_option linter.unusedVariables false
set_option linter.unusedSimpArgs false
namespace Go.Proofs.YtappkgmbdoiocaaDoor
open Go.RowKit
structure DiceD where
  L : (List Int)
  At : Int
def R_DiceD : Rep DiceD where
  size := 2
  rel := fun T w cs x => ∃ v1, cs = [v1, .int .i64 x.At] ∧ SlR (Rep.int .i64) T w v1 x.L
  len := by rintro _ _ _ _ ⟨v1, rfl, hv1⟩; rfl
  one := by rintro _ _ _ _ ⟨v1, rfl, hv1⟩; exact (oc hv1.one (oc rfl on))
  keep := by rintro _ _ _ _ _ _ ⟨v1, rfl, hv1⟩ k n; exact ⟨v1, rfl, hv1.keep k n⟩
theorem ci33 : callI Tryd.prog 33 = true := by kernel_rfl
theorem ci40 : callI Tryd.prog 40 = true := by kernel_rfl
theorem ci41 : callI Tryd.prog 41 = true := by kernel_rfl
theorem ci53 : callI Tryd.prog 53 = true := by kernel_rfl
theorem ci59 : callI Tryd.prog 59 = true := by kernel_rfl
theorem fl84_0 : fldI Tryd.prog 84 0 = some 0 := by kernel_rfl
theorem fl84_1 : fldI Tryd.prog 84 1 = some 1 := by kernel_rfl
theorem pl84 : plI Tryd.prog 84 = some [(0, 1), (1, 1)] := by kernel_rfl
theorem ty44 : tyI Tryd.prog 44 = some (false, 1) := by kernel_rfl
theorem ze84 : zeroI Tryd.prog 84 = some [.slice none 0 0, .int .i64 0] := by kernel_rfl

end Go.Proofs.YtappkgmbdoiocaaDoor
