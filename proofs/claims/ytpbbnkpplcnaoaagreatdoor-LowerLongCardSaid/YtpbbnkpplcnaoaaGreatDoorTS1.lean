/- Data of the program; facts of its table of types. -/
import Derived.Test.YtpbbnkpplcnaoaaGreatDoorH0
import Derived.Test.YtpbbnkpplcnaoaaGreatDoorProg
import Derived.Test.YtpbbnkpplcnaoaaGreatDoorGK
set_option linter.unusedVariables false
set_option linter.unusedSimpArgs false
namespace Go.Proofs.YtpbbnkpplcnaoaaGreatDoor
open Go.RowKit
structure OpD where
  Kind : Int
  A : Int
  B : Int
  C : Int
  List : (List Int)
  Sym : ByteArray
def R_OpD : Rep OpD where
  size := 6
  rel := fun T w cs x => ∃ v1, cs = [.int .i64 x.Kind, .int .i64 x.A, .int .i64 x.B, .int .i64 x.C, v1, .string x.Sym] ∧ SlR (Rep.int .i64) T w v1 x.List
  len := by rintro _ _ _ _ ⟨v1, rfl, hv1⟩; rfl
  one := by rintro _ _ _ _ ⟨v1, rfl, hv1⟩; exact (oc rfl (oc rfl (oc rfl (oc rfl (oc hv1.one (oc rfl on))))))
  keep := by rintro _ _ _ _ _ _ ⟨v1, rfl, hv1⟩ k n; exact ⟨v1, rfl, hv1.keep k n⟩
structure CodeD where
  Params : Int
  Regs : Int
  Ops : (List OpD)
def R_CodeD : Rep CodeD where
  size := 3
  rel := fun T w cs x => ∃ v1, cs = [.int .i64 x.Params, .int .i64 x.Regs, v1] ∧ SlR R_OpD T w v1 x.Ops
  len := by rintro _ _ _ _ ⟨v1, rfl, hv1⟩; rfl
  one := by rintro _ _ _ _ ⟨v1, rfl, hv1⟩; exact (oc rfl (oc rfl (oc hv1.one on)))
  keep := by rintro _ _ _ _ _ _ ⟨v1, rfl, hv1⟩ k n; exact ⟨v1, rfl, hv1.keep k n⟩

theorem ci29 : callI Tryz.prog 29 = true := by kernel_rfl
theorem fl31_0 : fldI Tryz.prog 31 0 = some 0 := by kernel_rfl
theorem fl31_1 : fldI Tryz.prog 31 1 = some 1 := by kernel_rfl
theorem fl31_2 : fldI Tryz.prog 31 2 = some 2 := by kernel_rfl
theorem fl35_0 : fldI Tryz.prog 35 0 = some 0 := by kernel_rfl
theorem fl35_1 : fldI Tryz.prog 35 1 = some 1 := by kernel_rfl
theorem fl35_2 : fldI Tryz.prog 35 2 = some 2 := by kernel_rfl
theorem fl35_3 : fldI Tryz.prog 35 3 = some 3 := by kernel_rfl
theorem fl35_4 : fldI Tryz.prog 35 4 = some 4 := by kernel_rfl
theorem fl35_5 : fldI Tryz.prog 35 5 = some 5 := by kernel_rfl
theorem mixed : Tryz.prog.follows .mixedOrders = true := by kernel_rfl
theorem sl29 : isSl Tryz.prog 29 = some 35 := by kernel_rfl
theorem sl33 : isSl Tryz.prog 33 = some 3 := by kernel_rfl
theorem ty29 : tyI Tryz.prog 29 = some (false, 1) := by kernel_rfl
theorem ty3 : tyI Tryz.prog 3 = some (false, 1) := by kernel_rfl
theorem ty33 : tyI Tryz.prog 33 = some (false, 1) := by kernel_rfl
theorem ty35 : tyI Tryz.prog 35 = some (true, 6) := by kernel_rfl
theorem ty9 : tyI Tryz.prog 9 = some (false, 1) := by kernel_rfl
theorem ze35 : zeroI Tryz.prog 35 = some [.int .i64 0, .int .i64 0, .int .i64 0, .int .i64 0, .slice none 0 0, .string (ByteArray.mk #[])] := by kernel_rfl


end Go.Proofs.YtpbbnkpplcnaoaaGreatDoor
