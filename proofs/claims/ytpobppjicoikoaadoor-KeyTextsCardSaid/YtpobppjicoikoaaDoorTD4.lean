/- Data of the program; facts of its table of types. -/
import Derived.Test.YtpobppjicoikoaaDoorTD3
set_option linter.unusedVariables false
set_option linter.unusedSimpArgs false
namespace Go.Proofs.YtpobppjicoikoaaDoor
open Go.RowKit

theorem el38 : elI Tryd.prog 38 = some (46, 4, 48) := by kernel_rfl
theorem mp47 : mpI Tryd.prog 47 = some (28, 4) := by kernel_rfl
theorem pl46 : plI Tryd.prog 46 = some [(0, 1), (1, 1), (2, 1), (3, 1)] := by kernel_rfl
theorem ty5 : tyI Tryd.prog 5 = some (false, 1) := by kernel_rfl
theorem ze46 : zeroI Tryd.prog 46 = some [.bool false, .slice none 0 0, .int .i64 0, .int .i64 0] := by kernel_rfl
theorem zv4 : zvI Tryd.prog 4 = some (.bool false) := by kernel_rfl

def keq_KeyD (a b : KeyD) : Bool := a.Kind == b.Kind && a.Text.toList == b.Text.toList
theorem kt_KeyD : KeyT Tryd.prog 28 R_KeyD true keq_KeyD where
  check := by
    rintro b T w0 w c x rfl
    show (Instr.checkKey b (Nat.succ (Nat.succ 9998)) 28 _).run Tryd.prog w = _
    generalize 9998 = N
    simp [Instr.checkKey, valOf, go_sem]
  eq := by
    rintro T T2 w0 w1 w c d x y rfl rfl
    unfold keq_KeyD Op.equal
    show (Op.equalIn (Nat.succ (Nat.succ 9998)) 28 _ _).run Tryd.prog w = _
    generalize 9998 = N
    simp [Op.equalIn, valOf, beq_toListBytes, go_sem]
    (try (repeat' split) <;> simp_all)
  now := ⟨_, Tryd.underlying28, by rintro T T2 w0 w1 c d x y rfl rfl; first | (exact .inl rfl) | (right; unfold keq_KeyD; simp [valOf, Instr.sameNow, beq_toListBytes])⟩
  bits := by
    rintro T T2 w0 w1 c d x y rfl rfl h
    unfold keq_KeyD at h
    show Instr.sameBits (Nat.succ (Nat.succ 9998)) _ _ = _
    generalize 9998 = N
    simp [valOf, Instr.sameBits, beq_toListBytes] at h ⊢
    simp [h]
end Go.Proofs.YtpobppjicoikoaaDoor
