/- How keys are compared, plain. -/
import Derived.Test.YtdappapdddnciaaDoorUG
import Derived.Test.YtdappapdddnciaaDoorY0
import Derived.Test.YtdappapdddnciaaDoorD2
set_option linter.unusedVariables false
set_option linter.unusedSimpArgs false
namespace Go.Proofs.YtdappapdddnciaaDoor
open Go.RowKit
open Go.Lib hiding intOf

theorem cmp_int (x y : Int) : cmp_Compare x y = some (if x < y then -1 else if y < x then 1 else 0) := by
  unfold cmp_Compare cmp_isNaN_int
  by_cases h1 : x < y
  · simp [h1]
  · by_cases h2 : y < x <;> simp [h1, h2]
theorem or_two (a b : Int) : cmp_Or [a, b] = some (if a ≠ 0 then a else b) := by
  unfold cmp_Or
  by_cases h : a = 0
  · subst h
    rw [loop_go (s' := (0, 2, 1))]
    · by_cases hb : b = 0
      · subst hb
        rw [loop_go (s' := (0, 2, 2))]
        · rw [loop_out (r := .go 0)]
          · rfl
          · rfl
        · rfl
      · rw [loop_out (r := .out b)]
        · simp [Fl.el]
        · unfold cmp_Or_l2
          have : (b != 0) = true := by simpa using hb
          simp [getI, this]
    · rfl
  · rw [loop_out (r := .out a)]
    · simp [Fl.el, h]
    · unfold cmp_Or_l2
      have : (a != 0) = true := by simpa using h
      simp [getI, this]
theorem cmp_is (a b : KeyD) : key_Cmp a b = some (kcmp a b) := by
  unfold key_Cmp kcmp compareSM
  rw [cmp_int]
  simp only [Option.bind_some]
  rw [or_two]
  by_cases h1 : a.Kind < b.Kind
  · simp [h1]
  · by_cases h2 : b.Kind < a.Kind <;> simp [h1, h2]
end Go.Proofs.YtdappapdddnciaaDoor
