/- Keys of rules, values of strings, plain. -/
import Derived.Test.YtappkgmbdoiocaaDoorU1
import Derived.Test.YtappkgmbdoiocaaDoorD3
set_option linter.unusedVariables false
set_option linter.unusedSimpArgs false
namespace Go.Proofs.YtappkgmbdoiocaaDoor
open Go.RowKit
open Go.Lib hiding intOf

theorem atoiM_dec {n : Nat} (h : n < 1000000000) : atoiM (itoaS n) = some ((n : Int), false) := by
  unfold atoiM
  have hl : (itoaS n).toList = decDigits n := by rw [itoaS_list, itoa_nat]
  have hs : (itoaS n).size ≤ 140737488355328 := by
    have h1 : (itoaS n).size = (itoa n).length := by simp [itoaS, ByteArray.size]
    have := dec_len n 9 (by omega)
    rw [h1, itoa_nat]; omega
  rw [show Nat.ble (itoaS n).size 140737488355328 = true from Nat.ble_eq_true_of_le hs, hl, atoi_dec (by omega)]
  rfl
theorem number_of {k : Int} {n : Nat} (hk : k = 30 ∨ k = 31 ∨ k = 32) (h : n < 100) : key_Number ⟨k, itoaS n⟩ = some n := by
  have h1 : key_toy k = some true := by rcases hk with rfl | rfl | rfl <;> (unfold key_toy; rfl)
  unfold key_Number
  rw [h1]
  simp only [Option.bind_some, atoiM_dec (show n < 1000000000 by omega), itoaM_nat (show n < 1000000000 by omega)]
  rw [show decide ((n : Int) < 0) = false by simp, show decide ((99 : Int) < (n : Int)) = false by simp; omega]
  simp
theorem valid_of {k : Int} {n : Nat} (hk : k = 30 ∨ k = 31 ∨ k = 32) (h : n < 100) : key_Valid ⟨k, itoaS n⟩ = some true := by
  have h1 : key_toy k = some true := by rcases hk with rfl | rfl | rfl <;> (unfold key_toy; rfl)
  unfold key_Valid
  rw [h1, number_of hk h]
  simp
/-- the key of rule n -/
noncomputable def ruleK (r : RuleD) (n : Nat) : KeyD := ⟨if r.Ring then 32 else 31, itoaS n⟩
theorem key_of_is {l : List RuleD} {n : Nat} (h : n < l.length) (h100 : n < 100) : key_Of l n = some (ruleK l[n] n) := by
  unfold key_Of
  rw [show decide ((n : Int) < 0) = false by simp, show decide (((l.length : Int) : Int) ≤ (n : Int)) = false by simp; omega, show decide ((99 : Int) < (n : Int)) = false by simp; omega, getI_at h]
  simp only [Option.bind_some, cond_false]
  unfold key_Of_j1 ruleK
  rw [itoaM_nat (by omega)]
  cases l[n].Ring <;> simp
theorem ref_of_is {l : List RuleD} {n : Nat} (h : n < l.length) (h100 : n < 100) : ref23_Of l n = some (ruleK l[n] n) := by
  unfold ref23_Of
  rw [show decide ((n : Int) < 0) = false by simp, show decide (((l.length : Int) : Int) ≤ (n : Int)) = false by simp; omega, show decide ((99 : Int) < (n : Int)) = false by simp; omega, getI_at h, itoaM_nat (by omega)]
  simp only [Option.bind_some, cond_false]
  unfold ref23_Of_j1 ruleK
  cases l[n].Ring <;> simp
theorem value_is {n : Nat} (h : n < 65536) : toy_Value (itoaS n) = some n := by
  unfold toy_Value
  rw [atoiM_dec (by omega)]
  simp only [Option.bind_some]
  rw [show decide ((n : Int) < 0) = false by simp, show decide ((65535 : Int) < (n : Int)) = false by simp; omega, itoaM_nat (by omega)]
  simp
end Go.Proofs.YtappkgmbdoiocaaDoor
