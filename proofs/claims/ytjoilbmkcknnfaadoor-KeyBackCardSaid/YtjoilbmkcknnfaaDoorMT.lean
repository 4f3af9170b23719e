/- Several texts in one. -/
import Derived.Test.YtjoilbmkcknnfaaDoorH3
import Derived.Test.YtjoilbmkcknnfaaDoorProg
import Derived.Test.YtjoilbmkcknnfaaDoorMB
/- Data of the program; facts of its table of types. -/
set_option linter.unusedVariables false
set_option linter.unusedSimpArgs false
namespace Go.Proofs.YtjoilbmkcknnfaaDoor
open Go.RowKit
structure KeyD where
  Kind : Int
  Text : ByteArray
def R_KeyD : Rep KeyD where
  size := 2
  rel := fun _ _ cs x => cs = [.int .i64 x.Kind, .string x.Text]
  len := by rintro _ _ _ _ rfl; rfl
  one := by rintro _ _ _ _ rfl; exact (oc rfl (oc rfl on))
  keep := fun h _ _ => h
structure AskD where
  Cell : Bool
  Pick : Bool
  N : Int
  Else : Int
def R_AskD : Rep AskD where
  size := 4
  rel := fun _ _ cs x => cs = [.bool x.Cell, .bool x.Pick, .int .i64 x.N, .int .i64 x.Else]
  len := by rintro _ _ _ _ rfl; rfl
  one := by rintro _ _ _ _ rfl; exact (oc rfl (oc rfl (oc rfl (oc rfl on))))
  keep := fun h _ _ => h
structure RuleD where
  Ring : Bool
  Asks : (List AskD)
  Final : Int
  C : Int
def R_RuleD : Rep RuleD where
  size := 4
  rel := fun T w cs x => ∃ v1, cs = [.bool x.Ring, v1, .int .i64 x.Final, .int .i64 x.C] ∧ SlR R_AskD T w v1 x.Asks
  len := by rintro _ _ _ _ ⟨v1, rfl, hv1⟩; rfl
  one := by rintro _ _ _ _ ⟨v1, rfl, hv1⟩; exact (oc rfl (oc hv1.one (oc rfl (oc rfl on))))
  keep := by rintro _ _ _ _ _ _ ⟨v1, rfl, hv1⟩ k n; exact ⟨v1, rfl, hv1.keep k n⟩
structure DiceD where
  L : (List Int)
  At : Int
def R_DiceD : Rep DiceD where
  size := 2
  rel := fun T w cs x => ∃ v1, cs = [v1, .int .i64 x.At] ∧ SlR (Rep.int .i64) T w v1 x.L
  len := by rintro _ _ _ _ ⟨v1, rfl, hv1⟩; rfl
  one := by rintro _ _ _ _ ⟨v1, rfl, hv1⟩; exact (oc hv1.one (oc rfl on))
  keep := by rintro _ _ _ _ _ _ ⟨v1, rfl, hv1⟩ k n; exact ⟨v1, rfl, hv1.keep k n⟩
theorem ci18 : callI Tryd.prog 18 = true := by kernel_rfl
theorem ci23 : callI Tryd.prog 23 = true := by kernel_rfl
theorem ci24 : callI Tryd.prog 24 = true := by kernel_rfl
theorem ci42 : callI Tryd.prog 42 = true := by kernel_rfl
theorem ci59 : callI Tryd.prog 59 = true := by kernel_rfl
theorem ci62 : callI Tryd.prog 62 = true := by kernel_rfl
theorem ci68 : callI Tryd.prog 68 = true := by kernel_rfl
theorem ci70 : callI Tryd.prog 70 = true := by kernel_rfl
theorem ci72 : callI Tryd.prog 72 = true := by kernel_rfl
theorem ci73 : callI Tryd.prog 73 = true := by kernel_rfl
theorem ci74 : callI Tryd.prog 74 = true := by kernel_rfl
theorem fl28_0 : fldI Tryd.prog 28 0 = some 0 := by kernel_rfl
theorem fl28_1 : fldI Tryd.prog 28 1 = some 1 := by kernel_rfl
theorem fl46_0 : fldI Tryd.prog 46 0 = some 0 := by kernel_rfl
theorem fl98_0 : fldI Tryd.prog 98 0 = some 0 := by kernel_rfl
theorem fl98_1 : fldI Tryd.prog 98 1 = some 1 := by kernel_rfl
theorem if83 : Tryd.prog.underlying 83 = some (.interface (Tryd.prog.methodsAt 83)) := by kernel_rfl
theorem mixed : Tryd.prog.follows .mixedOrders = true := by kernel_rfl
theorem pl28 : plI Tryd.prog 28 = some [(0, 1), (1, 1)] := by kernel_rfl
theorem pl98 : plI Tryd.prog 98 = some [(0, 1), (1, 1)] := by kernel_rfl
theorem sl23 : isSl Tryd.prog 23 = some 3 := by kernel_rfl
theorem sl32 : isSl Tryd.prog 32 = some 9 := by kernel_rfl
theorem sl38 : isSl Tryd.prog 38 = some 46 := by kernel_rfl
theorem ty23 : tyI Tryd.prog 23 = some (false, 1) := by kernel_rfl
theorem ty28 : tyI Tryd.prog 28 = some (true, 2) := by kernel_rfl
theorem ty3 : tyI Tryd.prog 3 = some (false, 1) := by kernel_rfl
theorem ty4 : tyI Tryd.prog 4 = some (false, 1) := by kernel_rfl
theorem ty46 : tyI Tryd.prog 46 = some (true, 4) := by kernel_rfl
theorem ty9 : tyI Tryd.prog 9 = some (false, 1) := by kernel_rfl
theorem ze28 : zeroI Tryd.prog 28 = some [.int .i64 0, .string (ByteArray.mk #[])] := by kernel_rfl
theorem ze98 : zeroI Tryd.prog 98 = some [.slice none 0 0, .int .i64 0] := by kernel_rfl


end Go.Proofs.YtjoilbmkcknnfaaDoor

/- Data of the program; facts of its table of types. -/
set_option linter.unusedVariables false
set_option linter.unusedSimpArgs false
namespace Go.Proofs.YtjoilbmkcknnfaaDoor
open Go.RowKit
structure BuilderD where
  Buf : (List Int)
theorem ci113 : callI Tryd.prog 113 = true := by kernel_rfl
theorem ci16 : callI Tryd.prog 16 = true := by kernel_rfl
theorem ci19 : callI Tryd.prog 19 = true := by kernel_rfl
theorem ci21 : callI Tryd.prog 21 = true := by kernel_rfl
theorem ci25 : callI Tryd.prog 25 = true := by kernel_rfl
theorem ci27 : callI Tryd.prog 27 = true := by kernel_rfl
theorem ci29 : callI Tryd.prog 29 = true := by kernel_rfl
theorem ci61 : callI Tryd.prog 61 = true := by kernel_rfl
theorem ci63 : callI Tryd.prog 63 = true := by kernel_rfl
theorem ci64 : callI Tryd.prog 64 = true := by kernel_rfl
theorem ci65 : callI Tryd.prog 65 = true := by kernel_rfl
theorem ci66 : callI Tryd.prog 66 = true := by kernel_rfl
theorem ci67 : callI Tryd.prog 67 = true := by kernel_rfl
theorem ci69 : callI Tryd.prog 69 = true := by kernel_rfl
theorem ci94 : callI Tryd.prog 94 = true := by kernel_rfl
theorem ci96 : callI Tryd.prog 96 = true := by kernel_rfl
theorem el31 : elI Tryd.prog 31 = some (5, 1, 1) := by kernel_rfl
theorem fl81_1 : fldI Tryd.prog 81 1 = some 1 := by kernel_rfl
theorem sl31 : isSl Tryd.prog 31 = some 5 := by kernel_rfl
theorem ty31 : tyI Tryd.prog 31 = some (false, 1) := by kernel_rfl
theorem ze5 : zeroI Tryd.prog 5 = some [.int .u8 0] := by kernel_rfl
theorem ze81 : zeroI Tryd.prog 81 = some [.pointer none, .slice none 0 0] := by kernel_rfl
theorem eq28 {W : World} {M T E : Nat → Prop} {n : Nat} {G : List (Nat × Value)} {D : List Res} {F : List Fact} {a : Act} {w : World} {d : Option Nat} {t2 : TypeId} {x y : Operand} {ty : TypeId} {pos : String} {af : Array Edge} {g : Option (Nat × Bool)} {p0 q0 : Int} {p1 q1 : ByteArray} (hS : St W M T n G D F a w) (hx : ev G x = some (.agg #[.int .i64 p0, .string p1])) (hy : ev G y = some (.agg #[.int .i64 q0, .string q1])) : Ye Tryd.prog ⟨d, .binOp .eql 28 x y t2, ty, pos, af, g⟩ a E w (.bool (p0 == q0 && p1.toList == q1.toList)) :=
  Ye.of fun w => by
    have h1 := hS.ev hx
    have h2 := hS.ev hy
    clear hS hx hy
    simp only [execOp, h1, h2, eqGuard]
    simp [go_sem]
    (repeat' split) <;> simp_all
theorem eq28n {W : World} {M T E : Nat → Prop} {n : Nat} {G : List (Nat × Value)} {D : List Res} {F : List Fact} {a : Act} {w : World} {d : Option Nat} {t2 : TypeId} {x y : Operand} {ty : TypeId} {pos : String} {af : Array Edge} {g : Option (Nat × Bool)} {p0 q0 : Int} {p1 q1 : ByteArray} (hS : St W M T n G D F a w) (hx : ev G x = some (.agg #[.int .i64 p0, .string p1])) (hy : ev G y = some (.agg #[.int .i64 q0, .string q1])) : Ye Tryd.prog ⟨d, .binOp .neq 28 x y t2, ty, pos, af, g⟩ a E w (.bool (!(p0 == q0 && p1.toList == q1.toList))) :=
  Ye.of fun w => by
    have h1 := hS.ev hx
    have h2 := hS.ev hy
    clear hS hx hy
    simp only [execOp, h1, h2, eqGuard]
    simp [go_sem]
    (repeat' split) <;> simp_all

end Go.Proofs.YtjoilbmkcknnfaaDoor

/- Data of the program; facts of its table of types. -/
set_option linter.unusedVariables false
set_option linter.unusedSimpArgs false
namespace Go.Proofs.YtjoilbmkcknnfaaDoor
open Go.RowKit
structure RecordD where
  Key : KeyD
  Value : ByteArray
  Reads : (List KeyD)
  Changed : Int
  Verified : Int
  Cost : Int
  Dirty : Bool
def R_RecordD : Rep RecordD where
  size := 8
  rel := fun T w cs x => ∃ v1, cs = [.int .i64 x.Key.Kind, .string x.Key.Text, .string x.Value, v1, .int .i64 x.Changed, .int .i64 x.Verified, .int .i64 x.Cost, .bool x.Dirty] ∧ SlR R_KeyD T w v1 x.Reads
  len := by rintro _ _ _ _ ⟨v1, rfl, hv1⟩; rfl
  one := by rintro _ _ _ _ ⟨v1, rfl, hv1⟩; exact (oc rfl (oc rfl (oc rfl (oc hv1.one (oc rfl (oc rfl (oc rfl (oc rfl on))))))))
  keep := by rintro _ _ _ _ _ _ ⟨v1, rfl, hv1⟩ k n; exact ⟨v1, rfl, hv1.keep k n⟩
theorem ci100 : callI Tryd.prog 100 = true := by kernel_rfl
theorem ci101 : callI Tryd.prog 101 = true := by kernel_rfl
theorem ci102 : callI Tryd.prog 102 = true := by kernel_rfl
theorem ci105 : callI Tryd.prog 105 = true := by kernel_rfl
theorem ci106 : callI Tryd.prog 106 = true := by kernel_rfl
theorem ci109 : callI Tryd.prog 109 = true := by kernel_rfl
theorem ci48 : callI Tryd.prog 48 = true := by kernel_rfl
theorem ci57 : callI Tryd.prog 57 = true := by kernel_rfl
theorem ci75 : callI Tryd.prog 75 = true := by kernel_rfl
theorem ci76 : callI Tryd.prog 76 = true := by kernel_rfl
theorem ci77 : callI Tryd.prog 77 = true := by kernel_rfl
theorem ci78 : callI Tryd.prog 78 = true := by kernel_rfl
theorem ci80 : callI Tryd.prog 80 = true := by kernel_rfl
theorem ci81 : callI Tryd.prog 81 = true := by kernel_rfl
theorem ci82 : callI Tryd.prog 82 = true := by kernel_rfl
theorem ci83 : callI Tryd.prog 83 = true := by kernel_rfl
theorem ci84 : callI Tryd.prog 84 = true := by kernel_rfl
theorem ci85 : callI Tryd.prog 85 = true := by kernel_rfl
theorem ci86 : callI Tryd.prog 86 = true := by kernel_rfl
theorem ci88 : callI Tryd.prog 88 = true := by kernel_rfl
theorem ci91 : callI Tryd.prog 91 = true := by kernel_rfl
theorem ci92 : callI Tryd.prog 92 = true := by kernel_rfl
theorem ci93 : callI Tryd.prog 93 = true := by kernel_rfl
theorem el22 : elI Tryd.prog 22 = some (28, 2, 24) := by kernel_rfl
theorem el23 : elI Tryd.prog 23 = some (3, 1, 8) := by kernel_rfl
theorem el51 : elI Tryd.prog 51 = some (54, 8, 96) := by kernel_rfl
theorem fl54_0 : fldI Tryd.prog 54 0 = some 0 := by kernel_rfl
theorem fl54_1 : fldI Tryd.prog 54 1 = some 2 := by kernel_rfl
theorem fl54_2 : fldI Tryd.prog 54 2 = some 3 := by kernel_rfl
theorem fl54_3 : fldI Tryd.prog 54 3 = some 4 := by kernel_rfl
theorem fl54_4 : fldI Tryd.prog 54 4 = some 5 := by kernel_rfl
theorem fl54_5 : fldI Tryd.prog 54 5 = some 6 := by kernel_rfl
theorem fl54_6 : fldI Tryd.prog 54 6 = some 7 := by kernel_rfl
theorem pl54 : plI Tryd.prog 54 = some [(0, 2), (2, 1), (3, 1), (4, 1), (5, 1), (6, 1), (7, 1)] := by kernel_rfl
theorem sl22 : isSl Tryd.prog 22 = some 28 := by kernel_rfl
theorem sl51 : isSl Tryd.prog 51 = some 54 := by kernel_rfl
theorem ty22 : tyI Tryd.prog 22 = some (false, 1) := by kernel_rfl
theorem ty54 : tyI Tryd.prog 54 = some (true, 8) := by kernel_rfl
theorem ze3 : zeroI Tryd.prog 3 = some [.int .i64 0] := by kernel_rfl
theorem ze54 : zeroI Tryd.prog 54 = some [.int .i64 0, .string (ByteArray.mk #[]), .string (ByteArray.mk #[]), .slice none 0 0, .int .i64 0, .int .i64 0, .int .i64 0, .bool false] := by kernel_rfl


end Go.Proofs.YtjoilbmkcknnfaaDoor

/- Data of the program; facts of its table of types. -/
set_option linter.unusedVariables false
set_option linter.unusedSimpArgs false
namespace Go.Proofs.YtjoilbmkcknnfaaDoor
open Go.RowKit

theorem ci30 : callI Tryd.prog 30 = true := by kernel_rfl
theorem ci36 : callI Tryd.prog 36 = true := by kernel_rfl
theorem ci38 : callI Tryd.prog 38 = true := by kernel_rfl
theorem ci39 : callI Tryd.prog 39 = true := by kernel_rfl
theorem ci40 : callI Tryd.prog 40 = true := by kernel_rfl
theorem ci44 : callI Tryd.prog 44 = true := by kernel_rfl
theorem ci45 : callI Tryd.prog 45 = true := by kernel_rfl
theorem ci47 : callI Tryd.prog 47 = true := by kernel_rfl
theorem ci53 : callI Tryd.prog 53 = true := by kernel_rfl
theorem ci58 : callI Tryd.prog 58 = true := by kernel_rfl
theorem ci60 : callI Tryd.prog 60 = true := by kernel_rfl
theorem ci79 : callI Tryd.prog 79 = true := by kernel_rfl
theorem el32 : elI Tryd.prog 32 = some (9, 1, 16) := by kernel_rfl
theorem ze9 : zeroI Tryd.prog 9 = some [.string (ByteArray.mk #[])] := by kernel_rfl


end Go.Proofs.YtjoilbmkcknnfaaDoor

/- Data of the program; facts of its table of types. -/
set_option linter.unusedVariables false
set_option linter.unusedSimpArgs false
namespace Go.Proofs.YtjoilbmkcknnfaaDoor
open Go.RowKit

theorem ci13 : callI Tryd.prog 13 = true := by kernel_rfl
theorem ci33 : callI Tryd.prog 33 = true := by kernel_rfl
theorem ci34 : callI Tryd.prog 34 = true := by kernel_rfl
theorem ci35 : callI Tryd.prog 35 = true := by kernel_rfl
theorem ci37 : callI Tryd.prog 37 = true := by kernel_rfl
theorem ci41 : callI Tryd.prog 41 = true := by kernel_rfl


end Go.Proofs.YtjoilbmkcknnfaaDoor

/- Data of the program; facts of its table of types. -/
set_option linter.unusedVariables false
set_option linter.unusedSimpArgs false
namespace Go.Proofs.YtjoilbmkcknnfaaDoor
open Go.RowKit

theorem ci43 : callI Tryd.prog 43 = true := by kernel_rfl
theorem mp60 : mpI Tryd.prog 60 = some (28, 54) := by kernel_rfl
theorem zv54 : zvI Tryd.prog 54 = some (.agg #[.int .i64 0, .string (ByteArray.mk #[]), .string (ByteArray.mk #[]), .slice none 0 0, .int .i64 0, .int .i64 0, .int .i64 0, .bool false]) := by kernel_rfl

def keq_KeyD (a b : KeyD) : Bool := a.Kind == b.Kind && a.Text.toList == b.Text.toList
theorem kt_KeyD : KeyT Tryd.prog 28 R_KeyD true keq_KeyD where
  check := by
    rintro b T w0 w c x rfl
    show (Instr.checkKey b (Nat.succ (Nat.succ 9998)) 28 _).run Tryd.prog w = _
    generalize 9998 = N
    simp [Instr.checkKey, valOf, go_sem]
  eq := by
    rintro T T2 w0 w1 w c d x y rfl rfl
    unfold keq_KeyD Op.equal
    show (Op.equalIn (Nat.succ (Nat.succ 9998)) 28 _ _).run Tryd.prog w = _
    generalize 9998 = N
    simp [Op.equalIn, valOf, beq_toListBytes, go_sem]
    (try (repeat' split) <;> simp_all)
  now := ⟨_, Tryd.underlying28, by rintro T T2 w0 w1 c d x y rfl rfl; first | (exact .inl rfl) | (right; unfold keq_KeyD; simp [valOf, Instr.sameNow, beq_toListBytes])⟩
  bits := by
    rintro T T2 w0 w1 c d x y rfl rfl h
    unfold keq_KeyD at h
    show Instr.sameBits (Nat.succ (Nat.succ 9998)) _ _ = _
    generalize 9998 = N
    simp [valOf, Instr.sameBits, beq_toListBytes] at h ⊢
    simp [h]
end Go.Proofs.YtjoilbmkcknnfaaDoor

/- Data of the program; facts of its table of types. -/
set_option linter.unusedVariables false
set_option linter.unusedSimpArgs false
namespace Go.Proofs.YtjoilbmkcknnfaaDoor
open Go.RowKit

theorem ci46 : callI Tryd.prog 46 = true := by kernel_rfl


end Go.Proofs.YtjoilbmkcknnfaaDoor

/- Data of the program; facts of its table of types. -/
set_option linter.unusedVariables false
set_option linter.unusedSimpArgs false
namespace Go.Proofs.YtjoilbmkcknnfaaDoor
open Go.RowKit

theorem ci22 : callI Tryd.prog 22 = true := by kernel_rfl
theorem ci26 : callI Tryd.prog 26 = true := by kernel_rfl
theorem ci28 : callI Tryd.prog 28 = true := by kernel_rfl
theorem ci49 : callI Tryd.prog 49 = true := by kernel_rfl
theorem ci50 : callI Tryd.prog 50 = true := by kernel_rfl
theorem ci51 : callI Tryd.prog 51 = true := by kernel_rfl
theorem ci52 : callI Tryd.prog 52 = true := by kernel_rfl
theorem ci54 : callI Tryd.prog 54 = true := by kernel_rfl
theorem ci87 : callI Tryd.prog 87 = true := by kernel_rfl
theorem el70 : elI Tryd.prog 70 = some (51, 1, 24) := by kernel_rfl
theorem sl70 : isSl Tryd.prog 70 = some 51 := by kernel_rfl
theorem ty51 : tyI Tryd.prog 51 = some (false, 1) := by kernel_rfl
theorem ze51 : zeroI Tryd.prog 51 = some [.slice none 0 0] := by kernel_rfl


end Go.Proofs.YtjoilbmkcknnfaaDoor

/- Data of the program; facts of its table of types. -/
set_option linter.unusedVariables false
set_option linter.unusedSimpArgs false
namespace Go.Proofs.YtjoilbmkcknnfaaDoor
open Go.RowKit

theorem ci89 : callI Tryd.prog 89 = true := by kernel_rfl
theorem ci90 : callI Tryd.prog 90 = true := by kernel_rfl


end Go.Proofs.YtjoilbmkcknnfaaDoor

/- Data of the program; facts of its table of types. -/
set_option linter.unusedVariables false
set_option linter.unusedSimpArgs false
namespace Go.Proofs.YtjoilbmkcknnfaaDoor
open Go.RowKit

theorem ci14 : callI Tryd.prog 14 = true := by kernel_rfl
theorem ci15 : callI Tryd.prog 15 = true := by kernel_rfl
theorem ci55 : callI Tryd.prog 55 = true := by kernel_rfl
theorem ci56 : callI Tryd.prog 56 = true := by kernel_rfl
theorem el73 : elI Tryd.prog 73 = some (22, 1, 24) := by kernel_rfl
theorem sl73 : isSl Tryd.prog 73 = some 22 := by kernel_rfl
theorem ze22 : zeroI Tryd.prog 22 = some [.slice none 0 0] := by kernel_rfl


end Go.Proofs.YtjoilbmkcknnfaaDoor

/- Data of the program; facts of its table of types. -/
set_option linter.unusedVariables false
set_option linter.unusedSimpArgs false
namespace Go.Proofs.YtjoilbmkcknnfaaDoor
open Go.RowKit




end Go.Proofs.YtjoilbmkcknnfaaDoor
