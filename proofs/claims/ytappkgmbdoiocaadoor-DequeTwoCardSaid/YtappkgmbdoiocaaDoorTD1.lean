/- Data of the program; facts of its table of types. -/
import Derived.Test.YtappkgmbdoiocaaDoorH0
import Derived.Test.YtappkgmbdoiocaaDoorProg
set_option linter.unusedVariables false
set_option linter.unusedSimpArgs false
namespace Go.Proofs.YtappkgmbdoiocaaDoor
open Go.RowKit
structure KeyD where
  Kind : Int
  Text : ByteArray
def R_KeyD : Rep KeyD where
  size := 2
  rel := fun _ _ cs x => cs = [.int .i64 x.Kind, .string x.Text]
  len := by rintro _ _ _ _ rfl; rfl
  one := by rintro _ _ _ _ rfl; exact (oc rfl (oc rfl on))
  keep := fun h _ _ => h
structure DequeD where
  Keys : (List KeyD)
def R_DequeD : Rep DequeD where
  size := 1
  rel := fun T w cs x => ∃ v1, cs = [v1] ∧ SlR R_KeyD T w v1 x.Keys
  len := by rintro _ _ _ _ ⟨v1, rfl, hv1⟩; rfl
  one := by rintro _ _ _ _ ⟨v1, rfl, hv1⟩; exact (oc hv1.one on)
  keep := by rintro _ _ _ _ _ _ ⟨v1, rfl, hv1⟩ k n; exact ⟨v1, rfl, hv1.keep k n⟩
theorem ci42 : callI Tryd.prog 42 = true := by kernel_rfl
theorem ci43 : callI Tryd.prog 43 = true := by kernel_rfl
theorem ci49 : callI Tryd.prog 49 = true := by kernel_rfl
theorem ci50 : callI Tryd.prog 50 = true := by kernel_rfl
theorem ci61 : callI Tryd.prog 61 = true := by kernel_rfl
theorem el24 : elI Tryd.prog 24 = some (28, 2, 24) := by kernel_rfl
theorem fl26_0 : fldI Tryd.prog 26 0 = some 0 := by kernel_rfl
theorem fl28_0 : fldI Tryd.prog 28 0 = some 0 := by kernel_rfl
theorem fl28_1 : fldI Tryd.prog 28 1 = some 1 := by kernel_rfl
theorem mixed : Tryd.prog.follows .mixedOrders = true := by kernel_rfl
theorem pl26 : plI Tryd.prog 26 = some [(0, 1)] := by kernel_rfl
theorem pl28 : plI Tryd.prog 28 = some [(0, 1), (1, 1)] := by kernel_rfl
theorem sl24 : isSl Tryd.prog 24 = some 28 := by kernel_rfl
theorem ty24 : tyI Tryd.prog 24 = some (false, 1) := by kernel_rfl
theorem ty26 : tyI Tryd.prog 26 = some (true, 1) := by kernel_rfl
theorem ty28 : tyI Tryd.prog 28 = some (true, 2) := by kernel_rfl
theorem ty3 : tyI Tryd.prog 3 = some (false, 1) := by kernel_rfl
theorem ty9 : tyI Tryd.prog 9 = some (false, 1) := by kernel_rfl
theorem ze26 : zeroI Tryd.prog 26 = some [.slice none 0 0] := by kernel_rfl
theorem ze28 : zeroI Tryd.prog 28 = some [.int .i64 0, .string (ByteArray.mk #[])] := by kernel_rfl
theorem eq28 {W : World} {M T E : Nat → Prop} {n : Nat} {G : List (Nat × Value)} {D : List Res} {F : List Fact} {a : Act} {w : World} {d : Option Nat} {t2 : TypeId} {x y : Operand} {ty : TypeId} {pos : String} {af : Array Edge} {g : Option (Nat × Bool)} {p0 q0 : Int} {p1 q1 : ByteArray} (hS : St W M T n G D F a w) (hx : ev G x = some (.agg #[.int .i64 p0, .string p1])) (hy : ev G y = some (.agg #[.int .i64 q0, .string q1])) : Ye Tryd.prog ⟨d, .binOp .eql 28 x y t2, ty, pos, af, g⟩ a E w (.bool (p0 == q0 && p1.toList == q1.toList)) :=
  Ye.of fun w => by
    have h1 := hS.ev hx
    have h2 := hS.ev hy
    clear hS hx hy
    simp only [execOp, h1, h2, eqGuard]
    simp [go_sem]
    (repeat' split) <;> simp_all
theorem eq28n {W : World} {M T E : Nat → Prop} {n : Nat} {G : List (Nat × Value)} {D : List Res} {F : List Fact} {a : Act} {w : World} {d : Option Nat} {t2 : TypeId} {x y : Operand} {ty : TypeId} {pos : String} {af : Array Edge} {g : Option (Nat × Bool)} {p0 q0 : Int} {p1 q1 : ByteArray} (hS : St W M T n G D F a w) (hx : ev G x = some (.agg #[.int .i64 p0, .string p1])) (hy : ev G y = some (.agg #[.int .i64 q0, .string q1])) : Ye Tryd.prog ⟨d, .binOp .neq 28 x y t2, ty, pos, af, g⟩ a E w (.bool (!(p0 == q0 && p1.toList == q1.toList))) :=
  Ye.of fun w => by
    have h1 := hS.ev hx
    have h2 := hS.ev hy
    clear hS hx hy
    simp only [execOp, h1, h2, eqGuard]
    simp [go_sem]
    (repeat' split) <;> simp_all
end Go.Proofs.YtappkgmbdoiocaaDoor
