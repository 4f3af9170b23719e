/- Data of the program; facts of its table of types. -/
import Derived.Test.YtappkgmbdoiocaaDoorTD1
set_option linter.unusedVariables false
set_option linter.unusedSimpArgs false
namespace Go.Proofs.YtappkgmbdoiocaaDoor
open Go.RowKit
structure AskD where
  Cell : Bool
  Pick : Bool
  N : Int
  Else : Int
def R_AskD : Rep AskD where
  size := 4
  rel := fun _ _ cs x => cs = [.bool x.Cell, .bool x.Pick, .int .i64 x.N, .int .i64 x.Else]
  len := by rintro _ _ _ _ rfl; rfl
  one := by rintro _ _ _ _ rfl; exact (oc rfl (oc rfl (oc rfl (oc rfl on))))
  keep := fun h _ _ => h
structure RuleD where
  Ring : Bool
  Asks : (List AskD)
  Final : Int
  C : Int
def R_RuleD : Rep RuleD where
  size := 4
  rel := fun T w cs x => ∃ v1, cs = [.bool x.Ring, v1, .int .i64 x.Final, .int .i64 x.C] ∧ SlR R_AskD T w v1 x.Asks
  len := by rintro _ _ _ _ ⟨v1, rfl, hv1⟩; rfl
  one := by rintro _ _ _ _ ⟨v1, rfl, hv1⟩; exact (oc rfl (oc hv1.one (oc rfl (oc rfl on))))
  keep := by rintro _ _ _ _ _ _ ⟨v1, rfl, hv1⟩ k n; exact ⟨v1, rfl, hv1.keep k n⟩
theorem ci12 : callI Tryd.prog 12 = true := by kernel_rfl
theorem ci13 : callI Tryd.prog 13 = true := by kernel_rfl
theorem ci14 : callI Tryd.prog 14 = true := by kernel_rfl
theorem ci15 : callI Tryd.prog 15 = true := by kernel_rfl
theorem ci16 : callI Tryd.prog 16 = true := by kernel_rfl
theorem ci17 : callI Tryd.prog 17 = true := by kernel_rfl
theorem ci18 : callI Tryd.prog 18 = true := by kernel_rfl
theorem ci19 : callI Tryd.prog 19 = true := by kernel_rfl
theorem ci20 : callI Tryd.prog 20 = true := by kernel_rfl
theorem ci21 : callI Tryd.prog 21 = true := by kernel_rfl
theorem ci22 : callI Tryd.prog 22 = true := by kernel_rfl
theorem ci23 : callI Tryd.prog 23 = true := by kernel_rfl
theorem ci36 : callI Tryd.prog 36 = true := by kernel_rfl
theorem ci44 : callI Tryd.prog 44 = true := by kernel_rfl
theorem ci45 : callI Tryd.prog 45 = true := by kernel_rfl
theorem ci46 : callI Tryd.prog 46 = true := by kernel_rfl
theorem ci47 : callI Tryd.prog 47 = true := by kernel_rfl
theorem ci48 : callI Tryd.prog 48 = true := by kernel_rfl
theorem ci55 : callI Tryd.prog 55 = true := by kernel_rfl
theorem ci60 : callI Tryd.prog 60 = true := by kernel_rfl
theorem ci62 : callI Tryd.prog 62 = true := by kernel_rfl
theorem ci63 : callI Tryd.prog 63 = true := by kernel_rfl
theorem ci64 : callI Tryd.prog 64 = true := by kernel_rfl
theorem el41 : elI Tryd.prog 41 = some (26, 1, 24) := by kernel_rfl
theorem fl53_0 : fldI Tryd.prog 53 0 = some 0 := by kernel_rfl
theorem if90 : Tryd.prog.underlying 90 = some (.interface (Tryd.prog.methodsAt 90)) := by kernel_rfl
theorem sl22 : isSl Tryd.prog 22 = some 5 := by kernel_rfl
theorem sl41 : isSl Tryd.prog 41 = some 26 := by kernel_rfl
theorem sl49 : isSl Tryd.prog 49 = some 53 := by kernel_rfl
theorem ty4 : tyI Tryd.prog 4 = some (false, 1) := by kernel_rfl
theorem ty5 : tyI Tryd.prog 5 = some (false, 1) := by kernel_rfl
theorem ty53 : tyI Tryd.prog 53 = some (true, 4) := by kernel_rfl

end Go.Proofs.YtappkgmbdoiocaaDoor
