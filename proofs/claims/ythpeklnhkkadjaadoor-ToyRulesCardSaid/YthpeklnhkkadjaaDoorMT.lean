/- Several texts in one. -/
import Derived.Test.YthpeklnhkkadjaaDoorHC
import Derived.Test.YthpeklnhkkadjaaDoorProg
import Derived.Test.YthpeklnhkkadjaaDoorMB
/- Data of the program; facts of its table of types. -/
set_option linter.unusedVariables false
set_option linter.unusedSimpArgs false
namespace Go.Proofs.YthpeklnhkkadjaaDoor
open Go.RowKit
structure KeyD where
  Kind : Int
  Text : ByteArray
def R_KeyD : Rep KeyD where
  size := 2
  rel := fun _ _ cs x => cs = [.int .i64 x.Kind, .string x.Text]
  len := by rintro _ _ _ _ rfl; rfl
  one := by rintro _ _ _ _ rfl; exact (oc rfl (oc rfl on))
  keep := fun h _ _ => h
structure AskD where
  Cell : Bool
  Pick : Bool
  N : Int
  Else : Int
def R_AskD : Rep AskD where
  size := 4
  rel := fun _ _ cs x => cs = [.bool x.Cell, .bool x.Pick, .int .i64 x.N, .int .i64 x.Else]
  len := by rintro _ _ _ _ rfl; rfl
  one := by rintro _ _ _ _ rfl; exact (oc rfl (oc rfl (oc rfl (oc rfl on))))
  keep := fun h _ _ => h
structure RuleD where
  Ring : Bool
  Asks : (List AskD)
  Final : Int
  C : Int
def R_RuleD : Rep RuleD where
  size := 4
  rel := fun T w cs x => ∃ v1, cs = [.bool x.Ring, v1, .int .i64 x.Final, .int .i64 x.C] ∧ SlR R_AskD T w v1 x.Asks
  len := by rintro _ _ _ _ ⟨v1, rfl, hv1⟩; rfl
  one := by rintro _ _ _ _ ⟨v1, rfl, hv1⟩; exact (oc rfl (oc hv1.one (oc rfl (oc rfl on))))
  keep := by rintro _ _ _ _ _ _ ⟨v1, rfl, hv1⟩ k n; exact ⟨v1, rfl, hv1.keep k n⟩
structure DiceD where
  L : (List Int)
  At : Int
def R_DiceD : Rep DiceD where
  size := 2
  rel := fun T w cs x => ∃ v1, cs = [v1, .int .i64 x.At] ∧ SlR (Rep.int .i64) T w v1 x.L
  len := by rintro _ _ _ _ ⟨v1, rfl, hv1⟩; rfl
  one := by rintro _ _ _ _ ⟨v1, rfl, hv1⟩; exact (oc hv1.one (oc rfl on))
  keep := by rintro _ _ _ _ _ _ ⟨v1, rfl, hv1⟩ k n; exact ⟨v1, rfl, hv1.keep k n⟩

theorem ci104 : callI Tryd.prog 104 = true := by kernel_rfl
theorem ci107 : callI Tryd.prog 107 = true := by kernel_rfl
theorem ci110 : callI Tryd.prog 110 = true := by kernel_rfl
theorem ci13 : callI Tryd.prog 13 = true := by kernel_rfl
theorem ci51 : callI Tryd.prog 51 = true := by kernel_rfl
theorem ci63 : callI Tryd.prog 63 = true := by kernel_rfl
theorem ci82 : callI Tryd.prog 82 = true := by kernel_rfl
theorem ci83 : callI Tryd.prog 83 = true := by kernel_rfl
theorem ci84 : callI Tryd.prog 84 = true := by kernel_rfl
theorem ci85 : callI Tryd.prog 85 = true := by kernel_rfl
theorem ci90 : callI Tryd.prog 90 = true := by kernel_rfl
theorem fl104_0 : fldI Tryd.prog 104 0 = some 0 := by kernel_rfl
theorem fl104_1 : fldI Tryd.prog 104 1 = some 1 := by kernel_rfl
theorem fl26_0 : fldI Tryd.prog 26 0 = some 0 := by kernel_rfl
theorem fl26_1 : fldI Tryd.prog 26 1 = some 1 := by kernel_rfl
theorem fl48_0 : fldI Tryd.prog 48 0 = some 0 := by kernel_rfl
theorem if129 : Tryd.prog.underlying 129 = some (.interface (Tryd.prog.methodsAt 129)) := by kernel_rfl
theorem mixed : Tryd.prog.follows .mixedOrders = true := by kernel_rfl
theorem pl104 : plI Tryd.prog 104 = some [(0, 1), (1, 1)] := by kernel_rfl
theorem pl26 : plI Tryd.prog 26 = some [(0, 1), (1, 1)] := by kernel_rfl
theorem sl100 : isSl Tryd.prog 100 = some 9 := by kernel_rfl
theorem sl39 : isSl Tryd.prog 39 = some 3 := by kernel_rfl
theorem sl44 : isSl Tryd.prog 44 = some 48 := by kernel_rfl
theorem ty26 : tyI Tryd.prog 26 = some (true, 2) := by kernel_rfl
theorem ty3 : tyI Tryd.prog 3 = some (false, 1) := by kernel_rfl
theorem ty39 : tyI Tryd.prog 39 = some (false, 1) := by kernel_rfl
theorem ty4 : tyI Tryd.prog 4 = some (false, 1) := by kernel_rfl
theorem ty48 : tyI Tryd.prog 48 = some (true, 4) := by kernel_rfl
theorem ty9 : tyI Tryd.prog 9 = some (false, 1) := by kernel_rfl
theorem ze104 : zeroI Tryd.prog 104 = some [.slice none 0 0, .int .i64 0] := by kernel_rfl
theorem ze26 : zeroI Tryd.prog 26 = some [.int .i64 0, .string (ByteArray.mk #[])] := by kernel_rfl


end Go.Proofs.YthpeklnhkkadjaaDoor

/- Data of the program; facts of its table of types. -/
set_option linter.unusedVariables false
set_option linter.unusedSimpArgs false
namespace Go.Proofs.YthpeklnhkkadjaaDoor
open Go.RowKit
structure ChangeD where
  Key : KeyD
  Value : ByteArray
def R_ChangeD : Rep ChangeD where
  size := 3
  rel := fun _ _ cs x => cs = [.int .i64 x.Key.Kind, .string x.Key.Text, .string x.Value]
  len := by rintro _ _ _ _ rfl; rfl
  one := by rintro _ _ _ _ rfl; exact (oc rfl (oc rfl (oc rfl on)))
  keep := fun h _ _ => h

theorem ci100 : callI Tryd.prog 100 = true := by kernel_rfl
theorem ci101 : callI Tryd.prog 101 = true := by kernel_rfl
theorem ci108 : callI Tryd.prog 108 = true := by kernel_rfl
theorem ci109 : callI Tryd.prog 109 = true := by kernel_rfl
theorem ci111 : callI Tryd.prog 111 = true := by kernel_rfl
theorem ci112 : callI Tryd.prog 112 = true := by kernel_rfl
theorem ci125 : callI Tryd.prog 125 = true := by kernel_rfl
theorem ci14 : callI Tryd.prog 14 = true := by kernel_rfl
theorem ci47 : callI Tryd.prog 47 = true := by kernel_rfl
theorem ci48 : callI Tryd.prog 48 = true := by kernel_rfl
theorem ci49 : callI Tryd.prog 49 = true := by kernel_rfl
theorem ci53 : callI Tryd.prog 53 = true := by kernel_rfl
theorem ci58 : callI Tryd.prog 58 = true := by kernel_rfl
theorem ci77 : callI Tryd.prog 77 = true := by kernel_rfl
theorem ci78 : callI Tryd.prog 78 = true := by kernel_rfl
theorem ci79 : callI Tryd.prog 79 = true := by kernel_rfl
theorem ci80 : callI Tryd.prog 80 = true := by kernel_rfl
theorem ci94 : callI Tryd.prog 94 = true := by kernel_rfl
theorem el22 : elI Tryd.prog 22 = some (26, 2, 24) := by kernel_rfl
theorem el39 : elI Tryd.prog 39 = some (3, 1, 8) := by kernel_rfl
theorem el79 : elI Tryd.prog 79 = some (88, 3, 40) := by kernel_rfl
theorem el86 : elI Tryd.prog 86 = some (79, 1, 24) := by kernel_rfl
theorem fl88_0 : fldI Tryd.prog 88 0 = some 0 := by kernel_rfl
theorem fl88_1 : fldI Tryd.prog 88 1 = some 2 := by kernel_rfl
theorem mp84 : mpI Tryd.prog 84 = some (26, 9) := by kernel_rfl
theorem pl88 : plI Tryd.prog 88 = some [(0, 2), (2, 1)] := by kernel_rfl
theorem sl22 : isSl Tryd.prog 22 = some 26 := by kernel_rfl
theorem sl79 : isSl Tryd.prog 79 = some 88 := by kernel_rfl
theorem sl86 : isSl Tryd.prog 86 = some 79 := by kernel_rfl
theorem ty79 : tyI Tryd.prog 79 = some (false, 1) := by kernel_rfl
theorem ty88 : tyI Tryd.prog 88 = some (true, 3) := by kernel_rfl
theorem ze3 : zeroI Tryd.prog 3 = some [.int .i64 0] := by kernel_rfl
theorem ze79 : zeroI Tryd.prog 79 = some [.slice none 0 0] := by kernel_rfl
theorem ze88 : zeroI Tryd.prog 88 = some [.int .i64 0, .string (ByteArray.mk #[]), .string (ByteArray.mk #[])] := by kernel_rfl
theorem zv9 : zvI Tryd.prog 9 = some (.string (ByteArray.mk #[])) := by kernel_rfl
theorem eq26 {W : World} {M T E : Nat → Prop} {n : Nat} {G : List (Nat × Value)} {D : List Res} {F : List Fact} {a : Act} {w : World} {d : Option Nat} {t2 : TypeId} {x y : Operand} {ty : TypeId} {pos : String} {af : Array Edge} {g : Option (Nat × Bool)} {p0 q0 : Int} {p1 q1 : ByteArray} (hS : St W M T n G D F a w) (hx : ev G x = some (.agg #[.int .i64 p0, .string p1])) (hy : ev G y = some (.agg #[.int .i64 q0, .string q1])) : Ye Tryd.prog ⟨d, .binOp .eql 26 x y t2, ty, pos, af, g⟩ a E w (.bool (p0 == q0 && p1.toList == q1.toList)) :=
  Ye.of fun w => by
    have h1 := hS.ev hx
    have h2 := hS.ev hy
    clear hS hx hy
    simp only [execOp, h1, h2, eqGuard]
    simp [go_sem]
    (repeat' split) <;> simp_all
theorem eq26n {W : World} {M T E : Nat → Prop} {n : Nat} {G : List (Nat × Value)} {D : List Res} {F : List Fact} {a : Act} {w : World} {d : Option Nat} {t2 : TypeId} {x y : Operand} {ty : TypeId} {pos : String} {af : Array Edge} {g : Option (Nat × Bool)} {p0 q0 : Int} {p1 q1 : ByteArray} (hS : St W M T n G D F a w) (hx : ev G x = some (.agg #[.int .i64 p0, .string p1])) (hy : ev G y = some (.agg #[.int .i64 q0, .string q1])) : Ye Tryd.prog ⟨d, .binOp .neq 26 x y t2, ty, pos, af, g⟩ a E w (.bool (!(p0 == q0 && p1.toList == q1.toList))) :=
  Ye.of fun w => by
    have h1 := hS.ev hx
    have h2 := hS.ev hy
    clear hS hx hy
    simp only [execOp, h1, h2, eqGuard]
    simp [go_sem]
    (repeat' split) <;> simp_all
theorem eq88 {W : World} {M T E : Nat → Prop} {n : Nat} {G : List (Nat × Value)} {D : List Res} {F : List Fact} {a : Act} {w : World} {d : Option Nat} {t2 : TypeId} {x y : Operand} {ty : TypeId} {pos : String} {af : Array Edge} {g : Option (Nat × Bool)} {p0 q0 : Int} {p1 q1 : ByteArray} {p2 q2 : ByteArray} (hS : St W M T n G D F a w) (hx : ev G x = some (.agg #[.int .i64 p0, .string p1, .string p2])) (hy : ev G y = some (.agg #[.int .i64 q0, .string q1, .string q2])) : Ye Tryd.prog ⟨d, .binOp .eql 88 x y t2, ty, pos, af, g⟩ a E w (.bool (p0 == q0 && p1.toList == q1.toList && p2.toList == q2.toList)) :=
  Ye.of fun w => by
    have h1 := hS.ev hx
    have h2 := hS.ev hy
    clear hS hx hy
    simp only [execOp, h1, h2, eqGuard]
    simp [go_sem]
    (repeat' split) <;> simp_all
theorem eq88n {W : World} {M T E : Nat → Prop} {n : Nat} {G : List (Nat × Value)} {D : List Res} {F : List Fact} {a : Act} {w : World} {d : Option Nat} {t2 : TypeId} {x y : Operand} {ty : TypeId} {pos : String} {af : Array Edge} {g : Option (Nat × Bool)} {p0 q0 : Int} {p1 q1 : ByteArray} {p2 q2 : ByteArray} (hS : St W M T n G D F a w) (hx : ev G x = some (.agg #[.int .i64 p0, .string p1, .string p2])) (hy : ev G y = some (.agg #[.int .i64 q0, .string q1, .string q2])) : Ye Tryd.prog ⟨d, .binOp .neq 88 x y t2, ty, pos, af, g⟩ a E w (.bool (!(p0 == q0 && p1.toList == q1.toList && p2.toList == q2.toList))) :=
  Ye.of fun w => by
    have h1 := hS.ev hx
    have h2 := hS.ev hy
    clear hS hx hy
    simp only [execOp, h1, h2, eqGuard]
    simp [go_sem]
    (repeat' split) <;> simp_all
def keq_KeyD (a b : KeyD) : Bool := a.Kind == b.Kind && a.Text.toList == b.Text.toList
theorem kt_KeyD : KeyT Tryd.prog 26 R_KeyD true keq_KeyD where
  check := by
    rintro b T w0 w c x rfl
    show (Instr.checkKey b (Nat.succ (Nat.succ 9998)) 26 _).run Tryd.prog w = _
    generalize 9998 = N
    simp [Instr.checkKey, valOf, go_sem]
  eq := by
    rintro T T2 w0 w1 w c d x y rfl rfl
    unfold keq_KeyD Op.equal
    show (Op.equalIn (Nat.succ (Nat.succ 9998)) 26 _ _).run Tryd.prog w = _
    generalize 9998 = N
    simp [Op.equalIn, valOf, beq_toListBytes, go_sem]
    (try (repeat' split) <;> simp_all)
  now := ⟨_, Tryd.underlying26, by rintro T T2 w0 w1 c d x y rfl rfl; first | (exact .inl rfl) | (right; unfold keq_KeyD; simp [valOf, Instr.sameNow, beq_toListBytes])⟩
  bits := by
    rintro T T2 w0 w1 c d x y rfl rfl h
    unfold keq_KeyD at h
    show Instr.sameBits (Nat.succ (Nat.succ 9998)) _ _ = _
    generalize 9998 = N
    simp [valOf, Instr.sameBits, beq_toListBytes] at h ⊢
    simp [h]
end Go.Proofs.YthpeklnhkkadjaaDoor

/- Data of the program; facts of its table of types. -/
set_option linter.unusedVariables false
set_option linter.unusedSimpArgs false
namespace Go.Proofs.YthpeklnhkkadjaaDoor
open Go.RowKit


theorem ci26 : callI Tryd.prog 26 = true := by kernel_rfl
theorem ci29 : callI Tryd.prog 29 = true := by kernel_rfl
theorem ci45 : callI Tryd.prog 45 = true := by kernel_rfl
theorem ci46 : callI Tryd.prog 46 = true := by kernel_rfl
theorem ci50 : callI Tryd.prog 50 = true := by kernel_rfl
theorem ci66 : callI Tryd.prog 66 = true := by kernel_rfl
theorem el100 : elI Tryd.prog 100 = some (9, 1, 16) := by kernel_rfl
theorem ze9 : zeroI Tryd.prog 9 = some [.string (ByteArray.mk #[])] := by kernel_rfl


end Go.Proofs.YthpeklnhkkadjaaDoor

/- Data of the program; facts of its table of types. -/
set_option linter.unusedVariables false
set_option linter.unusedSimpArgs false
namespace Go.Proofs.YthpeklnhkkadjaaDoor
open Go.RowKit


theorem ar85 : arI Tryd.prog 85 = some (4, 84) := by kernel_rfl
theorem ci38 : callI Tryd.prog 38 = true := by kernel_rfl
theorem ci42 : callI Tryd.prog 42 = true := by kernel_rfl
theorem ty84 : tyI Tryd.prog 84 = some (false, 1) := by kernel_rfl
theorem ty85 : tyI Tryd.prog 85 = some (true, 4) := by kernel_rfl
theorem ze85 : zeroI Tryd.prog 85 = some [.map none, .map none, .map none, .map none] := by kernel_rfl


end Go.Proofs.YthpeklnhkkadjaaDoor

/- Data of the program; facts of its table of types. -/
set_option linter.unusedVariables false
set_option linter.unusedSimpArgs false
namespace Go.Proofs.YthpeklnhkkadjaaDoor
open Go.RowKit
structure TurnD where
  Done : Bool
  Value : ByteArray
  Ask : KeyD
def R_TurnD : Rep TurnD where
  size := 4
  rel := fun _ _ cs x => cs = [.bool x.Done, .string x.Value, .int .i64 x.Ask.Kind, .string x.Ask.Text]
  len := by rintro _ _ _ _ rfl; rfl
  one := by rintro _ _ _ _ rfl; exact (oc rfl (oc rfl (oc rfl (oc rfl on))))
  keep := fun h _ _ => h

theorem ci30 : callI Tryd.prog 30 = true := by kernel_rfl
theorem ci32 : callI Tryd.prog 32 = true := by kernel_rfl
theorem ci33 : callI Tryd.prog 33 = true := by kernel_rfl
theorem ci60 : callI Tryd.prog 60 = true := by kernel_rfl
theorem ci61 : callI Tryd.prog 61 = true := by kernel_rfl
theorem ci62 : callI Tryd.prog 62 = true := by kernel_rfl
theorem ci64 : callI Tryd.prog 64 = true := by kernel_rfl
theorem ci65 : callI Tryd.prog 65 = true := by kernel_rfl
theorem ci87 : callI Tryd.prog 87 = true := by kernel_rfl
theorem ci88 : callI Tryd.prog 88 = true := by kernel_rfl
theorem ci89 : callI Tryd.prog 89 = true := by kernel_rfl
theorem ci91 : callI Tryd.prog 91 = true := by kernel_rfl
theorem el44 : elI Tryd.prog 44 = some (48, 4, 48) := by kernel_rfl
theorem el46 : elI Tryd.prog 46 = some (55, 4, 24) := by kernel_rfl
theorem fl48_1 : fldI Tryd.prog 48 1 = some 1 := by kernel_rfl
theorem fl48_2 : fldI Tryd.prog 48 2 = some 2 := by kernel_rfl
theorem fl48_3 : fldI Tryd.prog 48 3 = some 3 := by kernel_rfl
theorem fl55_0 : fldI Tryd.prog 55 0 = some 0 := by kernel_rfl
theorem fl55_1 : fldI Tryd.prog 55 1 = some 1 := by kernel_rfl
theorem fl55_2 : fldI Tryd.prog 55 2 = some 2 := by kernel_rfl
theorem fl55_3 : fldI Tryd.prog 55 3 = some 3 := by kernel_rfl
theorem fl97_0 : fldI Tryd.prog 97 0 = some 0 := by kernel_rfl
theorem fl97_1 : fldI Tryd.prog 97 1 = some 1 := by kernel_rfl
theorem fl97_2 : fldI Tryd.prog 97 2 = some 2 := by kernel_rfl
theorem pl48 : plI Tryd.prog 48 = some [(0, 1), (1, 1), (2, 1), (3, 1)] := by kernel_rfl
theorem pl55 : plI Tryd.prog 55 = some [(0, 1), (1, 1), (2, 1), (3, 1)] := by kernel_rfl
theorem pl97 : plI Tryd.prog 97 = some [(0, 1), (1, 1), (2, 2)] := by kernel_rfl
theorem sl46 : isSl Tryd.prog 46 = some 55 := by kernel_rfl
theorem ty46 : tyI Tryd.prog 46 = some (false, 1) := by kernel_rfl
theorem ty55 : tyI Tryd.prog 55 = some (true, 4) := by kernel_rfl
theorem ty97 : tyI Tryd.prog 97 = some (true, 4) := by kernel_rfl
theorem ze48 : zeroI Tryd.prog 48 = some [.bool false, .slice none 0 0, .int .i64 0, .int .i64 0] := by kernel_rfl
theorem ze55 : zeroI Tryd.prog 55 = some [.bool false, .bool false, .int .i64 0, .int .i64 0] := by kernel_rfl
theorem ze97 : zeroI Tryd.prog 97 = some [.bool false, .string (ByteArray.mk #[]), .int .i64 0, .string (ByteArray.mk #[])] := by kernel_rfl


end Go.Proofs.YthpeklnhkkadjaaDoor

/- Data of the program; facts of its table of types. -/
set_option linter.unusedVariables false
set_option linter.unusedSimpArgs false
namespace Go.Proofs.YthpeklnhkkadjaaDoor
open Go.RowKit


theorem ci27 : callI Tryd.prog 27 = true := by kernel_rfl
theorem ci28 : callI Tryd.prog 28 = true := by kernel_rfl
theorem ci31 : callI Tryd.prog 31 = true := by kernel_rfl
theorem el56 : elI Tryd.prog 56 = some (44, 1, 24) := by kernel_rfl
theorem sl56 : isSl Tryd.prog 56 = some 44 := by kernel_rfl
theorem ty44 : tyI Tryd.prog 44 = some (false, 1) := by kernel_rfl
theorem ze44 : zeroI Tryd.prog 44 = some [.slice none 0 0] := by kernel_rfl


end Go.Proofs.YthpeklnhkkadjaaDoor
