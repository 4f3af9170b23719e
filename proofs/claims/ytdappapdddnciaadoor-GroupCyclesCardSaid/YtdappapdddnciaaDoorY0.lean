/- The order of keys, plain. -/
import Derived.Test.YtdappapdddnciaaDoorUK
set_option linter.unusedVariables false
set_option linter.unusedSimpArgs false
namespace Go.Proofs.YtdappapdddnciaaDoor
open Go.RowKit
open Go.Lib hiding intOf

theorem cb_refl : ∀ a : List UInt8, compareBytes a a = 0
  | [] => rfl
  | x :: r => by
    have : ¬ x < x := UInt8.lt_irrefl x
    simp [compareBytes, this, cb_refl r]
theorem cb_eq : ∀ {a b : List UInt8}, compareBytes a b = 0 → a = b
  | [], [], _ => rfl
  | [], _ :: _, h => by simp [compareBytes] at h
  | _ :: _, [], h => by simp [compareBytes] at h
  | x :: a, y :: b, h => by
    unfold compareBytes at h
    split at h
    · cases h
    · split at h
      · cases h
      · rename_i h1 h2
        have e : x = y := UInt8.le_antisymm (UInt8.not_lt.1 h2) (UInt8.not_lt.1 h1)
        rw [e, cb_eq h]
theorem cb_anti : ∀ a b : List UInt8, compareBytes b a = -compareBytes a b
  | [], [] => rfl
  | [], _ :: _ => rfl
  | _ :: _, [] => rfl
  | x :: a, y :: b => by
    unfold compareBytes
    by_cases h1 : x < y
    · have h2 : ¬ y < x := fun h => UInt8.lt_irrefl _ (UInt8.lt_trans h1 h)
      simp [h1, h2]
    · by_cases h2 : y < x
      · simp [h1, h2]
      · simp [h1, h2, cb_anti a b]
theorem cb_cases (a b : List UInt8) : compareBytes a b = -1 ∨ compareBytes a b = 0 ∨ compareBytes a b = 1 := by
  induction a generalizing b with
  | nil => cases b <;> simp [compareBytes]
  | cons x a ih =>
    cases b with
    | nil => simp [compareBytes]
    | cons y b =>
      unfold compareBytes
      split
      · simp
      · split
        · simp
        · exact ih b
theorem cb_trans : ∀ {a b c : List UInt8}, compareBytes a b < 0 → compareBytes b c < 0 → compareBytes a c < 0
  | [], [], _, h, _ => by simp [compareBytes] at h
  | [], _ :: _, [], _, h => by simp [compareBytes] at h
  | [], _ :: _, _ :: _, _, _ => by simp [compareBytes]
  | _ :: _, [], _, h, _ => by simp [compareBytes] at h
  | _ :: _, _ :: _, [], _, h => by simp [compareBytes] at h
  | x :: a, y :: b, z :: c, h1, h2 => by
    unfold compareBytes at h1 h2 ⊢
    by_cases e1 : x < y
    · by_cases e2 : y < z
      · simp [UInt8.lt_trans e1 e2]
      · by_cases e3 : z < y
        · simp [e2, e3] at h2
        · have e : y = z := UInt8.le_antisymm (UInt8.not_lt.1 e3) (UInt8.not_lt.1 e2)
          subst e; simp [e1]
    · by_cases e2 : y < x
      · simp [e1, e2] at h1
      · have e : x = y := UInt8.le_antisymm (UInt8.not_lt.1 e2) (UInt8.not_lt.1 e1)
        subst e
        simp only [e1, if_false] at h1
        by_cases e3 : x < z
        · simp [e3]
        · by_cases e4 : z < x
          · simp [e3, e4] at h2
          · simp only [e3, e4, if_false] at h2 ⊢
            exact cb_trans h1 h2
/-- the order of keys -/
def kcmp (a b : KeyD) : Int := if a.Kind < b.Kind then -1 else if b.Kind < a.Kind then 1 else compareBytes a.Text.toList b.Text.toList
theorem toList_inj {a b : ByteArray} (h : a.toList = b.toList) : a = b := by
  rw [ByteArray.toList_eq, ByteArray.toList_eq] at h
  exact ByteArray.ext (Array.toList_inj.1 h)
theorem kcmp_refl (a : KeyD) : kcmp a a = 0 := by simp [kcmp, cb_refl]
theorem kcmp_eq {a b : KeyD} (h : kcmp a b = 0) : a = b := by
  unfold kcmp at h
  split at h
  · cases h
  · split at h
    · cases h
    · obtain ⟨k, t⟩ := a
      obtain ⟨l, s⟩ := b
      simp only [KeyD.mk.injEq] at *
      exact ⟨by omega, toList_inj (cb_eq h)⟩
theorem kcmp_zero {a b : KeyD} : kcmp a b = 0 ↔ a = b := ⟨kcmp_eq, fun h => by rw [h, kcmp_refl]⟩
theorem kcmp_anti (a b : KeyD) : kcmp b a = -kcmp a b := by
  unfold kcmp
  by_cases h1 : a.Kind < b.Kind
  · have h2 : ¬ b.Kind < a.Kind := by omega
    simp [h1, h2]
  · by_cases h2 : b.Kind < a.Kind
    · simp [h1, h2]
    · simp [h1, h2, cb_anti a.Text.toList]
theorem kcmp_cases (a b : KeyD) : kcmp a b = -1 ∨ kcmp a b = 0 ∨ kcmp a b = 1 := by
  unfold kcmp
  split
  · simp
  · split
    · simp
    · exact cb_cases _ _
theorem kcmp_trans {a b c : KeyD} (h1 : kcmp a b < 0) (h2 : kcmp b c < 0) : kcmp a c < 0 := by
  unfold kcmp at h1 h2 ⊢
  by_cases e1 : a.Kind < b.Kind
  · by_cases e2 : b.Kind < c.Kind
    · rw [if_pos (by omega)]; omega
    · by_cases e3 : c.Kind < b.Kind
      · simp [e2, e3] at h2
      · rw [if_pos (by omega)]; omega
  · by_cases e2 : b.Kind < a.Kind
    · simp [e1, e2] at h1
    · simp only [e1, e2, if_false] at h1
      by_cases e3 : b.Kind < c.Kind
      · rw [if_pos (by omega)]; omega
      · by_cases e4 : c.Kind < b.Kind
        · simp [e3, e4] at h2
        · simp only [e3, e4, if_false] at h2
          rw [if_neg (by omega), if_neg (by omega)]
          exact cb_trans h1 h2
theorem kcmp_pos {a b : KeyD} : 0 < kcmp a b ↔ kcmp b a < 0 := by rw [kcmp_anti a b]; omega
theorem kcmp_irr {a : KeyD} : ¬ kcmp a a < 0 := by rw [kcmp_refl]; omega
theorem kcmp_asym {a b : KeyD} (h : kcmp a b < 0) : ¬ kcmp b a < 0 := by rw [kcmp_anti a b]; omega
theorem kcmp_ne {a b : KeyD} (h : kcmp a b < 0) : a ≠ b := fun e => by subst e; exact kcmp_irr h
theorem kcmp_tri (a b : KeyD) : kcmp a b < 0 ∨ a = b ∨ kcmp b a < 0 := by
  rcases kcmp_cases a b with h | h | h
  · exact .inl (by omega)
  · exact .inr (.inl (kcmp_eq h))
  · exact .inr (.inr (by rw [kcmp_anti a b]; omega))
theorem kcmp_lt_of_le {a b c : KeyD} (h1 : ¬ kcmp b a < 0) (h2 : kcmp b c < 0) : kcmp a c < 0 := by
  rcases kcmp_tri a b with h | h | h
  · exact kcmp_trans h h2
  · subst h; exact h2
  · exact absurd h h1
def keqB (a b : KeyD) : Bool := a.Kind == b.Kind && a.Text.toList == b.Text.toList
theorem keqB_iff {a b : KeyD} : keqB a b = true ↔ a = b := by
  unfold keqB
  obtain ⟨k, t⟩ := a
  obtain ⟨l, s⟩ := b
  simp only [Bool.and_eq_true, beq_iff_eq, KeyD.mk.injEq]
  exact ⟨fun h => ⟨h.1, toList_inj h.2⟩, fun h => ⟨h.1, by rw [h.2]⟩⟩
theorem keqB_no {a b : KeyD} : keqB a b = false ↔ a ≠ b := by rw [← Bool.not_eq_true, keqB_iff]
end Go.Proofs.YtdappapdddnciaaDoor
