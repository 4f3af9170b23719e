/- Keys and deques, plain: what the decompiled functions answer. -/
import Derived.Test.YtappkgmbdoiocaaDoorU0
import Derived.Test.YtappkgmbdoiocaaDoorD1
import Derived.Test.YtappkgmbdoiocaaDoorD2
set_option linter.unusedVariables false
set_option linter.unusedSimpArgs false
namespace Go.Proofs.YtappkgmbdoiocaaDoor
open Go.RowKit
open Go.Lib hiding intOf

theorem itoa_nat (n : Nat) : itoa (n : Int) = decDigits n := by
  unfold itoa
  first | rw [if_neg (by omega)]; simp | simp
/-- the key of cell n -/
noncomputable def cellK (n : Nat) : KeyD := ⟨30, itoaS n⟩
theorem itoaM_nat {n : Nat} (h : n < 1000000000) : itoaM n = some (itoaS n) := by
  unfold itoaM i64B
  rw [show (decide (-9223372036854775808 ≤ (n : Int)) && decide ((n : Int) ≤ 9223372036854775807)) = true by simp; omega]
  rfl
theorem ref23_cell {n : Nat} (h : n < 100) : ref23_Cell n = some (cellK n) := by
  unfold ref23_Cell
  rw [show decide ((n : Int) < 0) = false by simp, show decide ((99 : Int) < (n : Int)) = false by simp; omega]
  simp [cond, itoaM_nat (show n < 1000000000 by omega), cellK]
theorem atoiM_cell {n : Nat} (h : n < 1000) : atoiM (itoaS n) = some ((n : Int), false) := by
  unfold atoiM
  have hl : (itoaS n).toList = decDigits n := by rw [itoaS_list, itoa_nat]
  have hs : (itoaS n).size ≤ 140737488355328 := by
    have h1 : (itoaS n).size = (itoa n).length := by simp [itoaS, ByteArray.size]
    have := dec_len n 3 (by omega)
    rw [h1, itoa_nat]; omega
  rw [show Nat.ble (itoaS n).size 140737488355328 = true from Nat.ble_eq_true_of_le hs, hl, atoi_dec (by omega)]
  rfl
theorem key_cell {n : Nat} (h : n < 100) : key_Valid (cellK n) = some true := by
  have h1 : key_toy 30 = some true := by unfold key_toy; rfl
  have h2 : key_Number (cellK n) = some n := by
    unfold key_Number cellK
    rw [h1]
    simp only [Option.bind_some, atoiM_cell (show n < 1000 by omega), itoaM_nat (show n < 1000000000 by omega)]
    rw [show decide ((n : Int) < 0) = false by simp, show decide ((99 : Int) < (n : Int)) = false by simp; omega]
    simp
  unfold key_Valid
  rw [show (cellK n).Kind = 30 from rfl, h1, h2]
  simp
theorem indexf_none {f : KeyD → Option Bool} {l : List KeyD} (hl : l.length ≤ maxLen) (h : ∀ x ∈ l, f x = some false) : indexf_key f l = some (-1) := by
  have hm : maxLen = 9223372036854775807 := rfl
  unfold indexf_key
  have hL : loop (fun s : Int × Int => indexf_key_l2 l f s.1 s.2) ((l.length : Int), 0) = some (Fl.go ()) := by
   refine loop_eq (I := fun k s => s = ((l.length : Int), (k : Int))) (y := Fl.go ()) (N := l.length) ?_ ?_ rfl
   · rintro k _ hk rfl
     left
     refine ⟨((l.length : Int), ((k + 1 : Nat) : Int)), ?_, rfl⟩
     unfold indexf_key_l2
     rw [show decide ((k : Int) < (l.length : Int)) = true by simpa using hk, getI_at hk, w64 (by omega) (by omega)]
     simp [h _ (List.getElem_mem hk)]
   · rintro _ rfl
     unfold indexf_key_l2
     simp
  rw [hL]; rfl
def CellsK (l : List KeyD) : Prop := ∀ x ∈ l, ∃ n : Nat, n < 100 ∧ x = cellK n
theorem deque_valid {l : List KeyD} (hl : l.length ≤ 64) (h : CellsK l) : deque_Valid ⟨l⟩ = some true := by
  unfold deque_Valid
  rw [show decide (((l.length : Int) : Int) ≤ 64) = true by simp; omega]
  have h1 : containsf_key deque_Valid1 l = some false := by
    unfold containsf_key
    rw [indexf_none (by unfold maxLen; omega) fun x hx => ?_]
    · simp
    · obtain ⟨n, hn, rfl⟩ := h x hx
      unfold deque_Valid1
      rw [key_cell hn]
      simp
  simp [h1, cond]
  rfl
theorem clone_is {l : List KeyD} (h : l.length ≤ 4294967296) : clone_key l = some l := by
  unfold clone_key
  rw [show roomB (([] : List KeyD).length + l.length) = true from room (by simpa using h)]
  simp [gd]
theorem push_is {l : List KeyD} {k : KeyD} (hl : l.length ≤ 64) (hk : key_Valid k = some true) : deque_Push ⟨l⟩ k = some (if l.length < 64 then (⟨l ++ [k]⟩, 0) else (⟨l⟩, 45)) := by
  unfold deque_Push deque_owned
  dsimp only
  rw [clone_is (by omega), hk]
  simp only [Option.bind_some, Bool.not_true, cond_false]
  by_cases h : l.length < 64
  · rw [show decide ((64 : Int) ≤ (l.length : Int)) = false by simp; omega, if_pos h, show roomB (l.length + [k].length) = true from room (by simp; omega)]
    rfl
  · rw [show decide ((64 : Int) ≤ (l.length : Int)) = true by simp; omega, if_neg h]
    rfl
theorem pop_nil : deque_Pop ⟨[]⟩ = some (⟨[]⟩, ⟨0, ByteArray.mk #[]⟩, false) := by
  unfold deque_Pop
  simp
theorem pop_snoc {l : List KeyD} {k : KeyD} (hl : l.length ≤ 64) : deque_Pop ⟨l ++ [k]⟩ = some (⟨l⟩, k, true) := by
  unfold deque_Pop
  simp only [List.length_append, List.length_cons, List.length_nil]
  rw [show ((((l.length + (0 + 1) : Nat) : Int) : Int) == 0) = false by simp; omega, w64 (by omega) (by omega), show (((l.length + (0 + 1) : Nat) : Int) - 1) = (l.length : Int) by omega,
    show (0 : Int) = ((0 : Nat) : Int) from rfl, subI_at (by omega) (by simp), getI_at (by simp)]
  simp [clone_is (show l.length ≤ 4294967296 by omega)]
theorem steal_nil : deque_Steal ⟨[]⟩ = some (⟨[]⟩, ⟨0, ByteArray.mk #[]⟩, false) := by
  unfold deque_Steal
  simp
theorem steal_cons {l : List KeyD} {k : KeyD} (hl : l.length ≤ 64) : deque_Steal ⟨k :: l⟩ = some (⟨l⟩, k, true) := by
  unfold deque_Steal
  simp only [List.length_cons]
  rw [show ((((l.length + 1 : Nat) : Int) : Int) == 0) = false by simp; omega, show (1 : Int) = ((1 : Nat) : Int) from rfl, subI_at (by omega) (by simp), show (0 : Int) = ((0 : Nat) : Int) from rfl, getI_at (by simp)]
  simp [clone_is (show l.length ≤ 4294967296 by omega)]
theorem mod_is (n : Int) {m : Nat} (hm : 0 < m) (hm2 : m ≤ 1000000000) : ∃ r : Nat, r < m ∧ mill_Mod n m = some (r : Int) := by
  have h1 := Int.tmod_lt_of_pos n (b := (m : Int)) (by omega)
  have h2 : -(m : Int) < Int.tmod n m := by
    rcases (show n < 0 ∨ 0 ≤ n by omega) with h | h
    · have := Int.tmod_lt_of_pos (-n) (b := (m : Int)) (by omega)
      rw [Int.neg_tmod] at this
      omega
    · have := Int.tmod_nonneg (m : Int) h
      omega
  refine ⟨(Int.tmod (Int.tmod n m + m) m).toNat, ?_, ?_⟩
  · have h3 := Int.tmod_lt_of_pos (Int.tmod n m + m) (b := (m : Int)) (by omega)
    have h4 := Int.tmod_nonneg (a := Int.tmod n m + m) (m : Int) (by omega)
    omega
  · unfold mill_Mod
    have h4 := Int.tmod_nonneg (a := Int.tmod n m + m) (m : Int) (by omega)
    rw [show decide ((m : Int) < 1) = false by simp; omega, show ((m : Int) != 0) = true by simp; omega, w64 (by omega) (by omega), Int.toNat_of_nonneg h4]
    rfl
end Go.Proofs.YtappkgmbdoiocaaDoor
