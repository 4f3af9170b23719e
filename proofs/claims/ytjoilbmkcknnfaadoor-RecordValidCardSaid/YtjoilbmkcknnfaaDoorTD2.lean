/- Data of the program; facts of its table of types. -/
import Derived.Test.YtjoilbmkcknnfaaDoorTD1
import Derived.Test.YtjoilbmkcknnfaaDoorGC
set_option linter.unusedVariables false
set_option linter.unusedSimpArgs false
namespace Go.Proofs.YtjoilbmkcknnfaaDoor
open Go.RowKit
structure BuilderD where
  Buf : (List Int)
theorem ci113 : callI Tryd.prog 113 = true := by kernel_rfl
theorem ci16 : callI Tryd.prog 16 = true := by kernel_rfl
theorem ci19 : callI Tryd.prog 19 = true := by kernel_rfl
theorem ci21 : callI Tryd.prog 21 = true := by kernel_rfl
theorem ci25 : callI Tryd.prog 25 = true := by kernel_rfl
theorem ci27 : callI Tryd.prog 27 = true := by kernel_rfl
theorem ci29 : callI Tryd.prog 29 = true := by kernel_rfl
theorem ci61 : callI Tryd.prog 61 = true := by kernel_rfl
theorem ci63 : callI Tryd.prog 63 = true := by kernel_rfl
theorem ci64 : callI Tryd.prog 64 = true := by kernel_rfl
theorem ci65 : callI Tryd.prog 65 = true := by kernel_rfl
theorem ci66 : callI Tryd.prog 66 = true := by kernel_rfl
theorem ci67 : callI Tryd.prog 67 = true := by kernel_rfl
theorem ci69 : callI Tryd.prog 69 = true := by kernel_rfl
theorem ci94 : callI Tryd.prog 94 = true := by kernel_rfl
theorem ci96 : callI Tryd.prog 96 = true := by kernel_rfl
theorem el31 : elI Tryd.prog 31 = some (5, 1, 1) := by kernel_rfl
theorem fl81_1 : fldI Tryd.prog 81 1 = some 1 := by kernel_rfl
theorem sl31 : isSl Tryd.prog 31 = some 5 := by kernel_rfl
theorem ty31 : tyI Tryd.prog 31 = some (false, 1) := by kernel_rfl
theorem ze5 : zeroI Tryd.prog 5 = some [.int .u8 0] := by kernel_rfl
theorem ze81 : zeroI Tryd.prog 81 = some [.pointer none, .slice none 0 0] := by kernel_rfl
theorem eq28 {W : World} {M T E : Nat → Prop} {n : Nat} {G : List (Nat × Value)} {D : List Res} {F : List Fact} {a : Act} {w : World} {d : Option Nat} {t2 : TypeId} {x y : Operand} {ty : TypeId} {pos : String} {af : Array Edge} {g : Option (Nat × Bool)} {p0 q0 : Int} {p1 q1 : ByteArray} (hS : St W M T n G D F a w) (hx : ev G x = some (.agg #[.int .i64 p0, .string p1])) (hy : ev G y = some (.agg #[.int .i64 q0, .string q1])) : Ye Tryd.prog ⟨d, .binOp .eql 28 x y t2, ty, pos, af, g⟩ a E w (.bool (p0 == q0 && p1.toList == q1.toList)) :=
  Ye.of fun w => by
    have h1 := hS.ev hx
    have h2 := hS.ev hy
    clear hS hx hy
    simp only [execOp, h1, h2, eqGuard]
    simp [go_sem]
    (repeat' split) <;> simp_all
theorem eq28n {W : World} {M T E : Nat → Prop} {n : Nat} {G : List (Nat × Value)} {D : List Res} {F : List Fact} {a : Act} {w : World} {d : Option Nat} {t2 : TypeId} {x y : Operand} {ty : TypeId} {pos : String} {af : Array Edge} {g : Option (Nat × Bool)} {p0 q0 : Int} {p1 q1 : ByteArray} (hS : St W M T n G D F a w) (hx : ev G x = some (.agg #[.int .i64 p0, .string p1])) (hy : ev G y = some (.agg #[.int .i64 q0, .string q1])) : Ye Tryd.prog ⟨d, .binOp .neq 28 x y t2, ty, pos, af, g⟩ a E w (.bool (!(p0 == q0 && p1.toList == q1.toList))) :=
  Ye.of fun w => by
    have h1 := hS.ev hx
    have h2 := hS.ev hy
    clear hS hx hy
    simp only [execOp, h1, h2, eqGuard]
    simp [go_sem]
    (repeat' split) <;> simp_all

end Go.Proofs.YtjoilbmkcknnfaaDoor
