/- Keys, plain: what the decompiled functions answer (keys of a seat whose first part holds them all). -/
import Derived.Test.YtdappapdddnciaaDoorU0
import Derived.Test.YtdappapdddnciaaDoorD1
set_option linter.unusedVariables false
set_option linter.unusedSimpArgs false
namespace Go.Proofs.YtdappapdddnciaaDoor
open Go.RowKit
open Go.Lib hiding intOf

theorem itoa_nat (n : Nat) : itoa (n : Int) = decDigits n := by
  unfold itoa
  first | rw [if_neg (by omega)]; simp | simp
/-- the key of cell n -/
noncomputable def cellK (n : Nat) : KeyD := ⟨30, itoaS n⟩
theorem itoaM_nat {n : Nat} (h : n < 1000000000) : itoaM n = some (itoaS n) := by
  unfold itoaM i64B
  rw [show (decide (-9223372036854775808 ≤ (n : Int)) && decide ((n : Int) ≤ 9223372036854775807)) = true by simp; omega]
  rfl
theorem ref23_cell {n : Nat} (h : n < 100) : ref23_Cell n = some (cellK n) := by
  unfold ref23_Cell
  rw [show decide ((n : Int) < 0) = false by simp, show decide ((99 : Int) < (n : Int)) = false by simp; omega]
  simp [cond, itoaM_nat (show n < 1000000000 by omega), cellK]
theorem mod_is (n : Int) {m : Nat} (hm : 0 < m) (hm2 : m ≤ 1000000000) : ∃ r : Nat, r < m ∧ mill_Mod n m = some (r : Int) := by
  have h1 := Int.tmod_lt_of_pos n (b := (m : Int)) (by omega)
  have h2 : -(m : Int) < Int.tmod n m := by
    rcases (show n < 0 ∨ 0 ≤ n by omega) with h | h
    · have := Int.tmod_lt_of_pos (-n) (b := (m : Int)) (by omega)
      rw [Int.neg_tmod] at this
      omega
    · have := Int.tmod_nonneg (m : Int) h
      omega
  refine ⟨(Int.tmod (Int.tmod n m + m) m).toNat, ?_, ?_⟩
  · have h3 := Int.tmod_lt_of_pos (Int.tmod n m + m) (b := (m : Int)) (by omega)
    have h4 := Int.tmod_nonneg (a := Int.tmod n m + m) (m : Int) (by omega)
    omega
  · unfold mill_Mod
    have h4 := Int.tmod_nonneg (a := Int.tmod n m + m) (m : Int) (by omega)
    rw [show decide ((m : Int) < 1) = false by simp; omega, show ((m : Int) != 0) = true by simp; omega, w64 (by omega) (by omega), Int.toNat_of_nonneg h4]
    rfl
theorem size_list (s : ByteArray) : s.toList.length = s.size := by rw [ByteArray.toList_eq]; rfl
theorem nil_list : (ByteArray.mk #[]).toList = [] := by rw [ByteArray.toList_eq]
theorem itoaM_pos {v : Int} (h0 : 0 ≤ v) (h : v < 1000000000) : itoaM v = some (itoaS v) := by
  obtain ⟨n, rfl⟩ : ∃ n : Nat, v = n := ⟨v.toNat, by omega⟩
  exact itoaM_nat (by omega)
theorem size_itoa {n : Nat} (h : n < 1000000000) : (itoaS (n : Int)).size ≤ 140737488355328 := by
  have h1 : (itoaS n).size = (itoa n).length := by simp [itoaS, ByteArray.size]
  have := dec_len n 9 (by omega)
  rw [h1, itoa_nat]; omega
theorem key_ext {a b : KeyD} (h1 : a.Kind = b.Kind) (h2 : a.Text.toList = b.Text.toList) : a = b := by
  obtain ⟨ka, ta⟩ := a
  obtain ⟨kb, tb⟩ := b
  simp only at h1 h2
  subst h1
  rw [ByteArray.toList_eq, ByteArray.toList_eq] at h2
  have : ta = tb := ByteArray.ext (Array.toList_inj.1 h2)
  rw [this]
end Go.Proofs.YtdappapdddnciaaDoor
