/- Data of the program; facts of its table of types. -/
import Derived.Test.YtjoilbmkcknnfaaDoorTE3
import Derived.Test.YtjoilbmkcknnfaaDoorGC
set_option linter.unusedVariables false
set_option linter.unusedSimpArgs false
namespace Go.Proofs.YtjoilbmkcknnfaaDoor
open Go.RowKit

theorem ci43 : callI Tryd.prog 43 = true := by kernel_rfl
theorem mp60 : mpI Tryd.prog 60 = some (28, 54) := by kernel_rfl
theorem zv54 : zvI Tryd.prog 54 = some (.agg #[.int .i64 0, .string (ByteArray.mk #[]), .string (ByteArray.mk #[]), .slice none 0 0, .int .i64 0, .int .i64 0, .int .i64 0, .bool false]) := by kernel_rfl

def keq_KeyD (a b : KeyD) : Bool := a.Kind == b.Kind && a.Text.toList == b.Text.toList
theorem kt_KeyD : KeyT Tryd.prog 28 R_KeyD true keq_KeyD where
  check := by
    rintro b T w0 w c x rfl
    show (Instr.checkKey b (Nat.succ (Nat.succ 9998)) 28 _).run Tryd.prog w = _
    generalize 9998 = N
    simp [Instr.checkKey, valOf, go_sem]
  eq := by
    rintro T T2 w0 w1 w c d x y rfl rfl
    unfold keq_KeyD Op.equal
    show (Op.equalIn (Nat.succ (Nat.succ 9998)) 28 _ _).run Tryd.prog w = _
    generalize 9998 = N
    simp [Op.equalIn, valOf, beq_toListBytes, go_sem]
    (try (repeat' split) <;> simp_all)
  now := ⟨_, Tryd.underlying28, by rintro T T2 w0 w1 c d x y rfl rfl; first | (exact .inl rfl) | (right; unfold keq_KeyD; simp [valOf, Instr.sameNow, beq_toListBytes])⟩
  bits := by
    rintro T T2 w0 w1 c d x y rfl rfl h
    unfold keq_KeyD at h
    show Instr.sameBits (Nat.succ (Nat.succ 9998)) _ _ = _
    generalize 9998 = N
    simp [valOf, Instr.sameBits, beq_toListBytes] at h ⊢
    simp [h]
end Go.Proofs.YtjoilbmkcknnfaaDoor
