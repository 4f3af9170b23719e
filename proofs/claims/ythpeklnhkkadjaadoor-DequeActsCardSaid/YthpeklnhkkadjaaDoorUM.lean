/- Keys, plain: valid, twice. -/
import Derived.Test.YthpeklnhkkadjaaDoorUK
set_option linter.unusedVariables false
set_option linter.unusedSimpArgs false
namespace Go.Proofs.YthpeklnhkkadjaaDoor
open Go.RowKit
open Go.Lib hiding intOf

theorem beq_dec (a b : Int) : (a == b) = decide (a = b) := by by_cases h : a = b <;> simp [h]
theorem valid_eq {k : KeyD} (hs : k.Text.size ≤ 140737488355328) : ∃ b, key_Valid k = some b ∧ ref23_Valid k = some b := by
  by_cases h : 30 ≤ k.Kind ∧ k.Kind ≤ 32
  · refine ⟨decide (0 ≤ numK k), ?_, ?_⟩
    · unfold key_Valid
      rw [toy_is, decide_eq_true h, key_number hs]
      rfl
    · unfold ref23_Valid ref23_Valid_j2
      rw [decide_eq_true h.1, decide_eq_true h.2]
      simp only [cond_true]
      rw [show (KeyD.mk k.Kind k.Text) = k from rfl, ref_number]
      rfl
  · have e2 : ref23_Valid k = ref23_Valid_j2 k false k.Kind := by
      unfold ref23_Valid
      by_cases h1 : 30 ≤ k.Kind
      · rw [decide_eq_true h1, cond_true, decide_eq_false (fun h2 => h ⟨h1, h2⟩)]
      · rw [decide_eq_false h1, cond_false]
    rw [e2]
    unfold key_Valid ref23_Valid_j2 key_Valid_j2 key_language key_language_j1 key_Valid_j1 ref23_Valid_j1
    rw [toy_is, decide_eq_false h]
    simp only [Option.bind_some, cond_false]
    by_cases h1 : 1 ≤ k.Kind <;> by_cases h2 : k.Kind ≤ 22 <;> by_cases h3 : (k.Text.size : Int) ≤ 1073741824 <;> by_cases h4 : k.Kind = 1 <;> by_cases h5 : k.Kind = 21 <;>
      cases h6 : (k.Text.toList == (ByteArray.mk #[]).toList) <;> simp [h1, h2, h3, h4, h5, beq_dec, bne]
noncomputable def vk (k : KeyD) : Bool := (key_Valid k).getD false
theorem vk_is {k : KeyD} (h : k.Text.size ≤ 140737488355328) : key_Valid k = some (vk k) ∧ ref23_Valid k = some (vk k) := by
  obtain ⟨b, h1, h2⟩ := valid_eq h
  unfold vk
  rw [h1, h2]; exact ⟨rfl, rfl⟩
end Go.Proofs.YthpeklnhkkadjaaDoor
