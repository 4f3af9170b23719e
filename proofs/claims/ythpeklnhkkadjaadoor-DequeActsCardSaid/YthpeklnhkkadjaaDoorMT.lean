/- Several texts in one. -/
import Derived.Test.YthpeklnhkkadjaaDoorHC
import Derived.Test.YthpeklnhkkadjaaDoorProg
import Derived.Test.YthpeklnhkkadjaaDoorMB
/- Data of the program; facts of its table of types. -/
set_option linter.unusedVariables false
set_option linter.unusedSimpArgs false
namespace Go.Proofs.YthpeklnhkkadjaaDoor
open Go.RowKit
structure KeyD where
  Kind : Int
  Text : ByteArray
def R_KeyD : Rep KeyD where
  size := 2
  rel := fun _ _ cs x => cs = [.int .i64 x.Kind, .string x.Text]
  len := by rintro _ _ _ _ rfl; rfl
  one := by rintro _ _ _ _ rfl; exact (oc rfl (oc rfl on))
  keep := fun h _ _ => h
structure AskD where
  Cell : Bool
  Pick : Bool
  N : Int
  Else : Int
def R_AskD : Rep AskD where
  size := 4
  rel := fun _ _ cs x => cs = [.bool x.Cell, .bool x.Pick, .int .i64 x.N, .int .i64 x.Else]
  len := by rintro _ _ _ _ rfl; rfl
  one := by rintro _ _ _ _ rfl; exact (oc rfl (oc rfl (oc rfl (oc rfl on))))
  keep := fun h _ _ => h
structure RuleD where
  Ring : Bool
  Asks : (List AskD)
  Final : Int
  C : Int
def R_RuleD : Rep RuleD where
  size := 4
  rel := fun T w cs x => ∃ v1, cs = [.bool x.Ring, v1, .int .i64 x.Final, .int .i64 x.C] ∧ SlR R_AskD T w v1 x.Asks
  len := by rintro _ _ _ _ ⟨v1, rfl, hv1⟩; rfl
  one := by rintro _ _ _ _ ⟨v1, rfl, hv1⟩; exact (oc rfl (oc hv1.one (oc rfl (oc rfl on))))
  keep := by rintro _ _ _ _ _ _ ⟨v1, rfl, hv1⟩ k n; exact ⟨v1, rfl, hv1.keep k n⟩
structure DiceD where
  L : (List Int)
  At : Int
def R_DiceD : Rep DiceD where
  size := 2
  rel := fun T w cs x => ∃ v1, cs = [v1, .int .i64 x.At] ∧ SlR (Rep.int .i64) T w v1 x.L
  len := by rintro _ _ _ _ ⟨v1, rfl, hv1⟩; rfl
  one := by rintro _ _ _ _ ⟨v1, rfl, hv1⟩; exact (oc hv1.one (oc rfl on))
  keep := by rintro _ _ _ _ _ _ ⟨v1, rfl, hv1⟩ k n; exact ⟨v1, rfl, hv1.keep k n⟩

theorem ci104 : callI Tryd.prog 104 = true := by kernel_rfl
theorem ci107 : callI Tryd.prog 107 = true := by kernel_rfl
theorem ci110 : callI Tryd.prog 110 = true := by kernel_rfl
theorem ci13 : callI Tryd.prog 13 = true := by kernel_rfl
theorem ci51 : callI Tryd.prog 51 = true := by kernel_rfl
theorem ci63 : callI Tryd.prog 63 = true := by kernel_rfl
theorem ci82 : callI Tryd.prog 82 = true := by kernel_rfl
theorem ci83 : callI Tryd.prog 83 = true := by kernel_rfl
theorem ci84 : callI Tryd.prog 84 = true := by kernel_rfl
theorem ci85 : callI Tryd.prog 85 = true := by kernel_rfl
theorem ci90 : callI Tryd.prog 90 = true := by kernel_rfl
theorem fl104_0 : fldI Tryd.prog 104 0 = some 0 := by kernel_rfl
theorem fl104_1 : fldI Tryd.prog 104 1 = some 1 := by kernel_rfl
theorem fl26_0 : fldI Tryd.prog 26 0 = some 0 := by kernel_rfl
theorem fl26_1 : fldI Tryd.prog 26 1 = some 1 := by kernel_rfl
theorem fl48_0 : fldI Tryd.prog 48 0 = some 0 := by kernel_rfl
theorem if129 : Tryd.prog.underlying 129 = some (.interface (Tryd.prog.methodsAt 129)) := by kernel_rfl
theorem mixed : Tryd.prog.follows .mixedOrders = true := by kernel_rfl
theorem pl104 : plI Tryd.prog 104 = some [(0, 1), (1, 1)] := by kernel_rfl
theorem pl26 : plI Tryd.prog 26 = some [(0, 1), (1, 1)] := by kernel_rfl
theorem sl100 : isSl Tryd.prog 100 = some 9 := by kernel_rfl
theorem sl39 : isSl Tryd.prog 39 = some 3 := by kernel_rfl
theorem sl44 : isSl Tryd.prog 44 = some 48 := by kernel_rfl
theorem ty26 : tyI Tryd.prog 26 = some (true, 2) := by kernel_rfl
theorem ty3 : tyI Tryd.prog 3 = some (false, 1) := by kernel_rfl
theorem ty39 : tyI Tryd.prog 39 = some (false, 1) := by kernel_rfl
theorem ty4 : tyI Tryd.prog 4 = some (false, 1) := by kernel_rfl
theorem ty48 : tyI Tryd.prog 48 = some (true, 4) := by kernel_rfl
theorem ty9 : tyI Tryd.prog 9 = some (false, 1) := by kernel_rfl
theorem ze104 : zeroI Tryd.prog 104 = some [.slice none 0 0, .int .i64 0] := by kernel_rfl
theorem ze26 : zeroI Tryd.prog 26 = some [.int .i64 0, .string (ByteArray.mk #[])] := by kernel_rfl


end Go.Proofs.YthpeklnhkkadjaaDoor

/- Data of the program; facts of its table of types. -/
set_option linter.unusedVariables false
set_option linter.unusedSimpArgs false
namespace Go.Proofs.YthpeklnhkkadjaaDoor
open Go.RowKit
structure DequeD where
  Keys : (List KeyD)
def R_DequeD : Rep DequeD where
  size := 1
  rel := fun T w cs x => ∃ v1, cs = [v1] ∧ SlR R_KeyD T w v1 x.Keys
  len := by rintro _ _ _ _ ⟨v1, rfl, hv1⟩; rfl
  one := by rintro _ _ _ _ ⟨v1, rfl, hv1⟩; exact (oc hv1.one on)
  keep := by rintro _ _ _ _ _ _ ⟨v1, rfl, hv1⟩ k n; exact ⟨v1, rfl, hv1.keep k n⟩
structure DequeDN where
  Keys : Value
def R_DequeDN : Rep DequeDN where
  size := 1
  rel := fun _ _ cs x => cs = [x.Keys] ∧ x.Keys.oneCell' = true
  len := by rintro _ _ _ _ ⟨rfl, h⟩; rfl
  one := by rintro _ _ _ _ ⟨rfl, h⟩; exact (oc h on)
  keep := fun h _ _ => h
def nst_DequeD : Nst DequeD DequeDN KeyD where
  R := R_DequeD
  RN := R_DequeDN
  RI := R_KeyD
  et := 26
  get := fun x => x.Keys
  put := fun l x => ⟨l⟩
  nf := fun v x => ⟨v⟩
  size := rfl
  pos := by decide
  close := by rintro T w cs v x ⟨rfl, _⟩ h; exact ⟨_, rfl, h⟩
  gp := fun _ _ => rfl
  np := fun _ _ _ => rfl
theorem ci12 : callI Tryd.prog 12 = true := by kernel_rfl
theorem ci14 : callI Tryd.prog 14 = true := by kernel_rfl
theorem ci15 : callI Tryd.prog 15 = true := by kernel_rfl
theorem ci17 : callI Tryd.prog 17 = true := by kernel_rfl
theorem ci20 : callI Tryd.prog 20 = true := by kernel_rfl
theorem ci22 : callI Tryd.prog 22 = true := by kernel_rfl
theorem ci24 : callI Tryd.prog 24 = true := by kernel_rfl
theorem ci52 : callI Tryd.prog 52 = true := by kernel_rfl
theorem ci53 : callI Tryd.prog 53 = true := by kernel_rfl
theorem ci56 : callI Tryd.prog 56 = true := by kernel_rfl
theorem ci57 : callI Tryd.prog 57 = true := by kernel_rfl
theorem ci58 : callI Tryd.prog 58 = true := by kernel_rfl
theorem ci59 : callI Tryd.prog 59 = true := by kernel_rfl
theorem ci86 : callI Tryd.prog 86 = true := by kernel_rfl
theorem el22 : elI Tryd.prog 22 = some (26, 2, 24) := by kernel_rfl
theorem el30 : elI Tryd.prog 30 = some (24, 1, 24) := by kernel_rfl
theorem fl24_0 : fldI Tryd.prog 24 0 = some 0 := by kernel_rfl
theorem pl24 : plI Tryd.prog 24 = some [(0, 1)] := by kernel_rfl
theorem sl22 : isSl Tryd.prog 22 = some 26 := by kernel_rfl
theorem sl30 : isSl Tryd.prog 30 = some 24 := by kernel_rfl
theorem ty22 : tyI Tryd.prog 22 = some (false, 1) := by kernel_rfl
theorem ty24 : tyI Tryd.prog 24 = some (true, 1) := by kernel_rfl
theorem ze24 : zeroI Tryd.prog 24 = some [.slice none 0 0] := by kernel_rfl
theorem eq26 {W : World} {M T E : Nat → Prop} {n : Nat} {G : List (Nat × Value)} {D : List Res} {F : List Fact} {a : Act} {w : World} {d : Option Nat} {t2 : TypeId} {x y : Operand} {ty : TypeId} {pos : String} {af : Array Edge} {g : Option (Nat × Bool)} {p0 q0 : Int} {p1 q1 : ByteArray} (hS : St W M T n G D F a w) (hx : ev G x = some (.agg #[.int .i64 p0, .string p1])) (hy : ev G y = some (.agg #[.int .i64 q0, .string q1])) : Ye Tryd.prog ⟨d, .binOp .eql 26 x y t2, ty, pos, af, g⟩ a E w (.bool (p0 == q0 && p1.toList == q1.toList)) :=
  Ye.of fun w => by
    have h1 := hS.ev hx
    have h2 := hS.ev hy
    clear hS hx hy
    simp only [execOp, h1, h2, eqGuard]
    simp [go_sem]
    (repeat' split) <;> simp_all
theorem eq26n {W : World} {M T E : Nat → Prop} {n : Nat} {G : List (Nat × Value)} {D : List Res} {F : List Fact} {a : Act} {w : World} {d : Option Nat} {t2 : TypeId} {x y : Operand} {ty : TypeId} {pos : String} {af : Array Edge} {g : Option (Nat × Bool)} {p0 q0 : Int} {p1 q1 : ByteArray} (hS : St W M T n G D F a w) (hx : ev G x = some (.agg #[.int .i64 p0, .string p1])) (hy : ev G y = some (.agg #[.int .i64 q0, .string q1])) : Ye Tryd.prog ⟨d, .binOp .neq 26 x y t2, ty, pos, af, g⟩ a E w (.bool (!(p0 == q0 && p1.toList == q1.toList))) :=
  Ye.of fun w => by
    have h1 := hS.ev hx
    have h2 := hS.ev hy
    clear hS hx hy
    simp only [execOp, h1, h2, eqGuard]
    simp [go_sem]
    (repeat' split) <;> simp_all

end Go.Proofs.YthpeklnhkkadjaaDoor

/- Data of the program; facts of its table of types. -/
set_option linter.unusedVariables false
set_option linter.unusedSimpArgs false
namespace Go.Proofs.YthpeklnhkkadjaaDoor
open Go.RowKit


theorem ci16 : callI Tryd.prog 16 = true := by kernel_rfl
theorem ci18 : callI Tryd.prog 18 = true := by kernel_rfl
theorem ci19 : callI Tryd.prog 19 = true := by kernel_rfl
theorem ci21 : callI Tryd.prog 21 = true := by kernel_rfl
theorem ci23 : callI Tryd.prog 23 = true := by kernel_rfl
theorem ci25 : callI Tryd.prog 25 = true := by kernel_rfl
theorem ci38 : callI Tryd.prog 38 = true := by kernel_rfl
theorem ci54 : callI Tryd.prog 54 = true := by kernel_rfl
theorem ci55 : callI Tryd.prog 55 = true := by kernel_rfl
theorem el38 : elI Tryd.prog 38 = some (22, 1, 24) := by kernel_rfl
theorem el39 : elI Tryd.prog 39 = some (3, 1, 8) := by kernel_rfl
theorem sl38 : isSl Tryd.prog 38 = some 22 := by kernel_rfl
theorem ze22 : zeroI Tryd.prog 22 = some [.slice none 0 0] := by kernel_rfl
theorem ze3 : zeroI Tryd.prog 3 = some [.int .i64 0] := by kernel_rfl


end Go.Proofs.YthpeklnhkkadjaaDoor
