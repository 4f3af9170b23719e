/- Several texts in one. -/
import Derived.Test.YtdappapdddnciaaDoorHC
import Derived.Test.YtdappapdddnciaaDoorProg
import Derived.Test.YtdappapdddnciaaDoorMB
import Derived.Test.YtdappapdddnciaaDoorGK
import Derived.Test.YtdappapdddnciaaDoorGL
/- Data of the program; facts of its table of types. -/
set_option linter.unusedVariables false
set_option linter.unusedSimpArgs false
namespace Go.Proofs.YtdappapdddnciaaDoor
open Go.RowKit
structure KeyD where
  Kind : Int
  Text : ByteArray
def R_KeyD : Rep KeyD where
  size := 2
  rel := fun _ _ cs x => cs = [.int .i64 x.Kind, .string x.Text]
  len := by rintro _ _ _ _ rfl; rfl
  one := by rintro _ _ _ _ rfl; exact (oc rfl (oc rfl on))
  keep := fun h _ _ => h
structure RecordD where
  Key : KeyD
  Value : ByteArray
  Reads : (List KeyD)
  Changed : Int
  Verified : Int
  Cost : Int
  Dirty : Bool
def R_RecordD : Rep RecordD where
  size := 8
  rel := fun T w cs x => ∃ v1, cs = [.int .i64 x.Key.Kind, .string x.Key.Text, .string x.Value, v1, .int .i64 x.Changed, .int .i64 x.Verified, .int .i64 x.Cost, .bool x.Dirty] ∧ SlR R_KeyD T w v1 x.Reads
  len := by rintro _ _ _ _ ⟨v1, rfl, hv1⟩; rfl
  one := by rintro _ _ _ _ ⟨v1, rfl, hv1⟩; exact (oc rfl (oc rfl (oc rfl (oc hv1.one (oc rfl (oc rfl (oc rfl (oc rfl on))))))))
  keep := by rintro _ _ _ _ _ _ ⟨v1, rfl, hv1⟩ k n; exact ⟨v1, rfl, hv1.keep k n⟩
structure CheckD where
  Member : KeyD
  Read : KeyD
def R_CheckD : Rep CheckD where
  size := 4
  rel := fun _ _ cs x => cs = [.int .i64 x.Member.Kind, .string x.Member.Text, .int .i64 x.Read.Kind, .string x.Read.Text]
  len := by rintro _ _ _ _ rfl; rfl
  one := by rintro _ _ _ _ rfl; exact (oc rfl (oc rfl (oc rfl (oc rfl on))))
  keep := fun h _ _ => h

theorem ci32 : callI Tryd.prog 32 = true := by kernel_rfl
theorem ci33 : callI Tryd.prog 33 = true := by kernel_rfl
theorem ci38 : callI Tryd.prog 38 = true := by kernel_rfl
theorem ci41 : callI Tryd.prog 41 = true := by kernel_rfl
theorem ci42 : callI Tryd.prog 42 = true := by kernel_rfl
theorem ci43 : callI Tryd.prog 43 = true := by kernel_rfl
theorem ci44 : callI Tryd.prog 44 = true := by kernel_rfl
theorem ci47 : callI Tryd.prog 47 = true := by kernel_rfl
theorem ci48 : callI Tryd.prog 48 = true := by kernel_rfl
theorem ci49 : callI Tryd.prog 49 = true := by kernel_rfl
theorem el23 : elI Tryd.prog 23 = some (32, 2, 24) := by kernel_rfl
theorem el39 : elI Tryd.prog 39 = some (44, 4, 48) := by kernel_rfl
theorem fl32_0 : fldI Tryd.prog 32 0 = some 0 := by kernel_rfl
theorem fl34_0 : fldI Tryd.prog 34 0 = some 0 := by kernel_rfl
theorem fl34_2 : fldI Tryd.prog 34 2 = some 3 := by kernel_rfl
theorem fl34_4 : fldI Tryd.prog 34 4 = some 5 := by kernel_rfl
theorem fl34_6 : fldI Tryd.prog 34 6 = some 7 := by kernel_rfl
theorem mixed : Tryd.prog.follows .mixedOrders = true := by kernel_rfl
theorem pl34 : plI Tryd.prog 34 = some [(0, 2), (2, 1), (3, 1), (4, 1), (5, 1), (6, 1), (7, 1)] := by kernel_rfl
theorem pl44 : plI Tryd.prog 44 = some [(0, 2), (2, 2)] := by kernel_rfl
theorem sl23 : isSl Tryd.prog 23 = some 32 := by kernel_rfl
theorem sl28 : isSl Tryd.prog 28 = some 34 := by kernel_rfl
theorem sl39 : isSl Tryd.prog 39 = some 44 := by kernel_rfl
theorem ty23 : tyI Tryd.prog 23 = some (false, 1) := by kernel_rfl
theorem ty3 : tyI Tryd.prog 3 = some (false, 1) := by kernel_rfl
theorem ty32 : tyI Tryd.prog 32 = some (true, 2) := by kernel_rfl
theorem ty34 : tyI Tryd.prog 34 = some (true, 8) := by kernel_rfl
theorem ty4 : tyI Tryd.prog 4 = some (false, 1) := by kernel_rfl
theorem ty44 : tyI Tryd.prog 44 = some (true, 4) := by kernel_rfl
theorem ze32 : zeroI Tryd.prog 32 = some [.int .i64 0, .string (ByteArray.mk #[])] := by kernel_rfl
theorem ze34 : zeroI Tryd.prog 34 = some [.int .i64 0, .string (ByteArray.mk #[]), .string (ByteArray.mk #[]), .slice none 0 0, .int .i64 0, .int .i64 0, .int .i64 0, .bool false] := by kernel_rfl
theorem ze44 : zeroI Tryd.prog 44 = some [.int .i64 0, .string (ByteArray.mk #[]), .int .i64 0, .string (ByteArray.mk #[])] := by kernel_rfl
theorem eq32 {W : World} {M T E : Nat → Prop} {n : Nat} {G : List (Nat × Value)} {D : List Res} {F : List Fact} {a : Act} {w : World} {d : Option Nat} {t2 : TypeId} {x y : Operand} {ty : TypeId} {pos : String} {af : Array Edge} {g : Option (Nat × Bool)} {p0 q0 : Int} {p1 q1 : ByteArray} (hS : St W M T n G D F a w) (hx : ev G x = some (.agg #[.int .i64 p0, .string p1])) (hy : ev G y = some (.agg #[.int .i64 q0, .string q1])) : Ye Tryd.prog ⟨d, .binOp .eql 32 x y t2, ty, pos, af, g⟩ a E w (.bool (p0 == q0 && p1.toList == q1.toList)) :=
  Ye.of fun w => by
    have h1 := hS.ev hx
    have h2 := hS.ev hy
    clear hS hx hy
    simp only [execOp, h1, h2, eqGuard]
    simp [go_sem]
    (repeat' split) <;> simp_all
theorem eq32n {W : World} {M T E : Nat → Prop} {n : Nat} {G : List (Nat × Value)} {D : List Res} {F : List Fact} {a : Act} {w : World} {d : Option Nat} {t2 : TypeId} {x y : Operand} {ty : TypeId} {pos : String} {af : Array Edge} {g : Option (Nat × Bool)} {p0 q0 : Int} {p1 q1 : ByteArray} (hS : St W M T n G D F a w) (hx : ev G x = some (.agg #[.int .i64 p0, .string p1])) (hy : ev G y = some (.agg #[.int .i64 q0, .string q1])) : Ye Tryd.prog ⟨d, .binOp .neq 32 x y t2, ty, pos, af, g⟩ a E w (.bool (!(p0 == q0 && p1.toList == q1.toList))) :=
  Ye.of fun w => by
    have h1 := hS.ev hx
    have h2 := hS.ev hy
    clear hS hx hy
    simp only [execOp, h1, h2, eqGuard]
    simp [go_sem]
    (repeat' split) <;> simp_all
theorem eq44 {W : World} {M T E : Nat → Prop} {n : Nat} {G : List (Nat × Value)} {D : List Res} {F : List Fact} {a : Act} {w : World} {d : Option Nat} {t2 : TypeId} {x y : Operand} {ty : TypeId} {pos : String} {af : Array Edge} {g : Option (Nat × Bool)} {p0 q0 : Int} {p1 q1 : ByteArray} {p2 q2 : Int} {p3 q3 : ByteArray} (hS : St W M T n G D F a w) (hx : ev G x = some (.agg #[.int .i64 p0, .string p1, .int .i64 p2, .string p3])) (hy : ev G y = some (.agg #[.int .i64 q0, .string q1, .int .i64 q2, .string q3])) : Ye Tryd.prog ⟨d, .binOp .eql 44 x y t2, ty, pos, af, g⟩ a E w (.bool (p0 == q0 && p1.toList == q1.toList && p2 == q2 && p3.toList == q3.toList)) :=
  Ye.of fun w => by
    have h1 := hS.ev hx
    have h2 := hS.ev hy
    clear hS hx hy
    simp only [execOp, h1, h2, eqGuard]
    simp [go_sem]
    (repeat' split) <;> simp_all
theorem eq44n {W : World} {M T E : Nat → Prop} {n : Nat} {G : List (Nat × Value)} {D : List Res} {F : List Fact} {a : Act} {w : World} {d : Option Nat} {t2 : TypeId} {x y : Operand} {ty : TypeId} {pos : String} {af : Array Edge} {g : Option (Nat × Bool)} {p0 q0 : Int} {p1 q1 : ByteArray} {p2 q2 : Int} {p3 q3 : ByteArray} (hS : St W M T n G D F a w) (hx : ev G x = some (.agg #[.int .i64 p0, .string p1, .int .i64 p2, .string p3])) (hy : ev G y = some (.agg #[.int .i64 q0, .string q1, .int .i64 q2, .string q3])) : Ye Tryd.prog ⟨d, .binOp .neq 44 x y t2, ty, pos, af, g⟩ a E w (.bool (!(p0 == q0 && p1.toList == q1.toList && p2 == q2 && p3.toList == q3.toList))) :=
  Ye.of fun w => by
    have h1 := hS.ev hx
    have h2 := hS.ev hy
    clear hS hx hy
    simp only [execOp, h1, h2, eqGuard]
    simp [go_sem]
    (repeat' split) <;> simp_all

end Go.Proofs.YtdappapdddnciaaDoor

/- Data of the program; facts of its table of types. -/
set_option linter.unusedVariables false
set_option linter.unusedSimpArgs false
namespace Go.Proofs.YtdappapdddnciaaDoor
open Go.RowKit
structure DiceD where
  L : (List Int)
  At : Int
def R_DiceD : Rep DiceD where
  size := 2
  rel := fun T w cs x => ∃ v1, cs = [v1, .int .i64 x.At] ∧ SlR (Rep.int .i64) T w v1 x.L
  len := by rintro _ _ _ _ ⟨v1, rfl, hv1⟩; rfl
  one := by rintro _ _ _ _ ⟨v1, rfl, hv1⟩; exact (oc hv1.one (oc rfl on))
  keep := by rintro _ _ _ _ _ _ ⟨v1, rfl, hv1⟩ k n; exact ⟨v1, rfl, hv1.keep k n⟩

theorem ci11 : callI Tryd.prog 11 = true := by kernel_rfl
theorem ci19 : callI Tryd.prog 19 = true := by kernel_rfl
theorem ci20 : callI Tryd.prog 20 = true := by kernel_rfl
theorem ci21 : callI Tryd.prog 21 = true := by kernel_rfl
theorem ci22 : callI Tryd.prog 22 = true := by kernel_rfl
theorem ci23 : callI Tryd.prog 23 = true := by kernel_rfl
theorem ci24 : callI Tryd.prog 24 = true := by kernel_rfl
theorem ci29 : callI Tryd.prog 29 = true := by kernel_rfl
theorem ci30 : callI Tryd.prog 30 = true := by kernel_rfl
theorem ci31 : callI Tryd.prog 31 = true := by kernel_rfl
theorem ci34 : callI Tryd.prog 34 = true := by kernel_rfl
theorem ci35 : callI Tryd.prog 35 = true := by kernel_rfl
theorem ci40 : callI Tryd.prog 40 = true := by kernel_rfl
theorem ci45 : callI Tryd.prog 45 = true := by kernel_rfl
theorem ci53 : callI Tryd.prog 53 = true := by kernel_rfl
theorem el28 : elI Tryd.prog 28 = some (34, 8, 96) := by kernel_rfl
theorem el70 : elI Tryd.prog 70 = some (9, 1, 16) := by kernel_rfl
theorem fl32_1 : fldI Tryd.prog 32 1 = some 1 := by kernel_rfl
theorem fl52_0 : fldI Tryd.prog 52 0 = some 0 := by kernel_rfl
theorem fl52_1 : fldI Tryd.prog 52 1 = some 1 := by kernel_rfl
theorem mp65 : mpI Tryd.prog 65 = some (32, 4) := by kernel_rfl
theorem pl32 : plI Tryd.prog 32 = some [(0, 1), (1, 1)] := by kernel_rfl
theorem pl52 : plI Tryd.prog 52 = some [(0, 1), (1, 1)] := by kernel_rfl
theorem sl22 : isSl Tryd.prog 22 = some 3 := by kernel_rfl
theorem sl70 : isSl Tryd.prog 70 = some 9 := by kernel_rfl
theorem ty22 : tyI Tryd.prog 22 = some (false, 1) := by kernel_rfl
theorem ty9 : tyI Tryd.prog 9 = some (false, 1) := by kernel_rfl
theorem ze52 : zeroI Tryd.prog 52 = some [.slice none 0 0, .int .i64 0] := by kernel_rfl
theorem ze9 : zeroI Tryd.prog 9 = some [.string (ByteArray.mk #[])] := by kernel_rfl
theorem zv4 : zvI Tryd.prog 4 = some (.bool false) := by kernel_rfl

def keq_KeyD (a b : KeyD) : Bool := a.Kind == b.Kind && a.Text.toList == b.Text.toList
theorem kt_KeyD : KeyT Tryd.prog 32 R_KeyD true keq_KeyD where
  check := by
    rintro b T w0 w c x rfl
    show (Instr.checkKey b (Nat.succ (Nat.succ 9998)) 32 _).run Tryd.prog w = _
    generalize 9998 = N
    simp [Instr.checkKey, valOf, go_sem]
  eq := by
    rintro T T2 w0 w1 w c d x y rfl rfl
    unfold keq_KeyD Op.equal
    show (Op.equalIn (Nat.succ (Nat.succ 9998)) 32 _ _).run Tryd.prog w = _
    generalize 9998 = N
    simp [Op.equalIn, valOf, beq_toListBytes, go_sem]
    (try (repeat' split) <;> simp_all)
  now := ⟨_, Tryd.underlying32, by rintro T T2 w0 w1 c d x y rfl rfl; first | (exact .inl rfl) | (right; unfold keq_KeyD; simp [valOf, Instr.sameNow, beq_toListBytes])⟩
  bits := by
    rintro T T2 w0 w1 c d x y rfl rfl h
    unfold keq_KeyD at h
    show Instr.sameBits (Nat.succ (Nat.succ 9998)) _ _ = _
    generalize 9998 = N
    simp [valOf, Instr.sameBits, beq_toListBytes] at h ⊢
    simp [h]
end Go.Proofs.YtdappapdddnciaaDoor

/- Data of the program; facts of its table of types. -/
set_option linter.unusedVariables false
set_option linter.unusedSimpArgs false
namespace Go.Proofs.YtdappapdddnciaaDoor
open Go.RowKit


theorem ci50 : callI Tryd.prog 50 = true := by kernel_rfl
theorem ci52 : callI Tryd.prog 52 = true := by kernel_rfl
theorem ci61 : callI Tryd.prog 61 = true := by kernel_rfl
theorem ci62 : callI Tryd.prog 62 = true := by kernel_rfl
theorem ci78 : callI Tryd.prog 78 = true := by kernel_rfl
theorem el22 : elI Tryd.prog 22 = some (3, 1, 8) := by kernel_rfl
theorem ze3 : zeroI Tryd.prog 3 = some [.int .i64 0] := by kernel_rfl


end Go.Proofs.YtdappapdddnciaaDoor

/- Data of the program; facts of its table of types. -/
set_option linter.unusedVariables false
set_option linter.unusedSimpArgs false
namespace Go.Proofs.YtdappapdddnciaaDoor
open Go.RowKit


theorem ci39 : callI Tryd.prog 39 = true := by kernel_rfl
theorem mp56 : mpI Tryd.prog 56 = some (32, 23) := by kernel_rfl
theorem ty56 : tyI Tryd.prog 56 = some (false, 1) := by kernel_rfl
theorem zv23 : zvI Tryd.prog 23 = some (.slice none 0 0) := by kernel_rfl


end Go.Proofs.YtdappapdddnciaaDoor

/- Data of the program; facts of its table of types. -/
set_option linter.unusedVariables false
set_option linter.unusedSimpArgs false
namespace Go.Proofs.YtdappapdddnciaaDoor
open Go.RowKit


theorem ci10 : callI Tryd.prog 10 = true := by kernel_rfl
theorem ci12 : callI Tryd.prog 12 = true := by kernel_rfl
theorem ci13 : callI Tryd.prog 13 = true := by kernel_rfl
theorem ci14 : callI Tryd.prog 14 = true := by kernel_rfl
theorem ci15 : callI Tryd.prog 15 = true := by kernel_rfl
theorem ci16 : callI Tryd.prog 16 = true := by kernel_rfl
theorem ci17 : callI Tryd.prog 17 = true := by kernel_rfl
theorem ci18 : callI Tryd.prog 18 = true := by kernel_rfl
theorem ci7 : callI Tryd.prog 7 = true := by kernel_rfl
theorem ci8 : callI Tryd.prog 8 = true := by kernel_rfl
theorem ci9 : callI Tryd.prog 9 = true := by kernel_rfl
theorem fl44_0 : fldI Tryd.prog 44 0 = some 0 := by kernel_rfl
theorem fl44_1 : fldI Tryd.prog 44 1 = some 2 := by kernel_rfl


end Go.Proofs.YtdappapdddnciaaDoor

/- Data of the program; facts of its table of types. -/
set_option linter.unusedVariables false
set_option linter.unusedSimpArgs false
namespace Go.Proofs.YtdappapdddnciaaDoor
open Go.RowKit





end Go.Proofs.YtdappapdddnciaaDoor

/- Data of the program; facts of its table of types. -/
set_option linter.unusedVariables false
set_option linter.unusedSimpArgs false
namespace Go.Proofs.YtdappapdddnciaaDoor
open Go.RowKit

def R_L4N : Rep Value := rawR
def nst_L4 : Nst (List Bool) Value Bool := matN Rep.bool 4 (by decide)
theorem el47 : elI Tryd.prog 47 = some (48, 1, 24) := by kernel_rfl
theorem el48 : elI Tryd.prog 48 = some (4, 1, 1) := by kernel_rfl
theorem sl47 : isSl Tryd.prog 47 = some 48 := by kernel_rfl
theorem sl48 : isSl Tryd.prog 48 = some 4 := by kernel_rfl
theorem ty48 : tyI Tryd.prog 48 = some (false, 1) := by kernel_rfl
theorem ze4 : zeroI Tryd.prog 4 = some [.bool false] := by kernel_rfl
theorem ze48 : zeroI Tryd.prog 48 = some [.slice none 0 0] := by kernel_rfl


end Go.Proofs.YtdappapdddnciaaDoor
