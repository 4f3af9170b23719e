/- Data of the program; facts of its table of types. -/
import Derived.Test.YtappkgmbdoiocaaDoorTD5
set_option linter.unusedVariables false
set_option linter.unusedSimpArgs false
namespace Go.Proofs.YtappkgmbdoiocaaDoor
open Go.RowKit

theorem ci38 : callI Tryd.prog 38 = true := by kernel_rfl
theorem eq70 {W : World} {M T E : Nat → Prop} {n : Nat} {G : List (Nat × Value)} {D : List Res} {F : List Fact} {a : Act} {w : World} {d : Option Nat} {t2 : TypeId} {x y : Operand} {ty : TypeId} {pos : String} {af : Array Edge} {g : Option (Nat × Bool)} {p0 q0 : Bool} {p1 q1 : ByteArray} {p2 q2 : Int} {p3 q3 : ByteArray} (hS : St W M T n G D F a w) (hx : ev G x = some (.agg #[.bool p0, .string p1, .int .i64 p2, .string p3])) (hy : ev G y = some (.agg #[.bool q0, .string q1, .int .i64 q2, .string q3])) : Ye Tryd.prog ⟨d, .binOp .eql 70 x y t2, ty, pos, af, g⟩ a E w (.bool (p0 == q0 && p1.toList == q1.toList && p2 == q2 && p3.toList == q3.toList)) :=
  Ye.of fun w => by
    have h1 := hS.ev hx
    have h2 := hS.ev hy
    clear hS hx hy
    simp only [execOp, h1, h2, eqGuard]
    simp [go_sem]
    (repeat' split) <;> simp_all
theorem eq70n {W : World} {M T E : Nat → Prop} {n : Nat} {G : List (Nat × Value)} {D : List Res} {F : List Fact} {a : Act} {w : World} {d : Option Nat} {t2 : TypeId} {x y : Operand} {ty : TypeId} {pos : String} {af : Array Edge} {g : Option (Nat × Bool)} {p0 q0 : Bool} {p1 q1 : ByteArray} {p2 q2 : Int} {p3 q3 : ByteArray} (hS : St W M T n G D F a w) (hx : ev G x = some (.agg #[.bool p0, .string p1, .int .i64 p2, .string p3])) (hy : ev G y = some (.agg #[.bool q0, .string q1, .int .i64 q2, .string q3])) : Ye Tryd.prog ⟨d, .binOp .neq 70 x y t2, ty, pos, af, g⟩ a E w (.bool (!(p0 == q0 && p1.toList == q1.toList && p2 == q2 && p3.toList == q3.toList))) :=
  Ye.of fun w => by
    have h1 := hS.ev hx
    have h2 := hS.ev hy
    clear hS hx hy
    simp only [execOp, h1, h2, eqGuard]
    simp [go_sem]
    (repeat' split) <;> simp_all
end Go.Proofs.YtappkgmbdoiocaaDoor
