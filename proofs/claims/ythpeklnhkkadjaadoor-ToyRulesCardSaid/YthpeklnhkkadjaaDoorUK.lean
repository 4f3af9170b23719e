/- Keys, plain: what the decompiled functions answer (keys of a seat whose first part holds them all). -/
import Derived.Test.YthpeklnhkkadjaaDoorU0
import Derived.Test.YthpeklnhkkadjaaDoorD1
set_option linter.unusedVariables false
set_option linter.unusedSimpArgs false
namespace Go.Proofs.YthpeklnhkkadjaaDoor
open Go.RowKit
open Go.Lib hiding intOf

theorem itoa_nat (n : Nat) : itoa (n : Int) = decDigits n := by
  unfold itoa
  first | rw [if_neg (by omega)]; simp | simp
/-- the key of cell n -/
noncomputable def cellK (n : Nat) : KeyD := ⟨30, itoaS n⟩
theorem itoaM_nat {n : Nat} (h : n < 1000000000) : itoaM n = some (itoaS n) := by
  unfold itoaM i64B
  rw [show (decide (-9223372036854775808 ≤ (n : Int)) && decide ((n : Int) ≤ 9223372036854775807)) = true by simp; omega]
  rfl
theorem ref23_cell {n : Nat} (h : n < 100) : ref23_Cell n = some (cellK n) := by
  unfold ref23_Cell
  rw [show decide ((n : Int) < 0) = false by simp, show decide ((99 : Int) < (n : Int)) = false by simp; omega]
  simp [cond, itoaM_nat (show n < 1000000000 by omega), cellK]
theorem atoiM_cell {n : Nat} (h : n < 1000) : atoiM (itoaS n) = some ((n : Int), false) := by
  unfold atoiM
  have hl : (itoaS n).toList = decDigits n := by rw [itoaS_list, itoa_nat]
  have hs : (itoaS n).size ≤ 140737488355328 := by
    have h1 : (itoaS n).size = (itoa n).length := by simp [itoaS, ByteArray.size]
    have := dec_len n 3 (by omega)
    rw [h1, itoa_nat]; omega
  rw [show Nat.ble (itoaS n).size 140737488355328 = true from Nat.ble_eq_true_of_le hs, hl, atoi_dec (by omega)]
  rfl
theorem key_cell {n : Nat} (h : n < 100) : key_Valid (cellK n) = some true := by
  have h1 : key_toy 30 = some true := by unfold key_toy; rfl
  have h2 : key_Number (cellK n) = some n := by
    unfold key_Number cellK
    rw [h1]
    simp only [Option.bind_some, atoiM_cell (show n < 1000 by omega), itoaM_nat (show n < 1000000000 by omega)]
    rw [show decide ((n : Int) < 0) = false by simp, show decide ((99 : Int) < (n : Int)) = false by simp; omega]
    simp
  unfold key_Valid
  rw [show (cellK n).Kind = 30 from rfl, h1, h2]
  simp
theorem mod_is (n : Int) {m : Nat} (hm : 0 < m) (hm2 : m ≤ 1000000000) : ∃ r : Nat, r < m ∧ mill_Mod n m = some (r : Int) := by
  have h1 := Int.tmod_lt_of_pos n (b := (m : Int)) (by omega)
  have h2 : -(m : Int) < Int.tmod n m := by
    rcases (show n < 0 ∨ 0 ≤ n by omega) with h | h
    · have := Int.tmod_lt_of_pos (-n) (b := (m : Int)) (by omega)
      rw [Int.neg_tmod] at this
      omega
    · have := Int.tmod_nonneg (m : Int) h
      omega
  refine ⟨(Int.tmod (Int.tmod n m + m) m).toNat, ?_, ?_⟩
  · have h3 := Int.tmod_lt_of_pos (Int.tmod n m + m) (b := (m : Int)) (by omega)
    have h4 := Int.tmod_nonneg (a := Int.tmod n m + m) (m : Int) (by omega)
    omega
  · unfold mill_Mod
    have h4 := Int.tmod_nonneg (a := Int.tmod n m + m) (m : Int) (by omega)
    rw [show decide ((m : Int) < 1) = false by simp; omega, show ((m : Int) != 0) = true by simp; omega, w64 (by omega) (by omega), Int.toNat_of_nonneg h4]
    rfl
theorem atoiM_dec {n : Nat} (h : n < 1000000000) : atoiM (itoaS n) = some ((n : Int), false) := by
  unfold atoiM
  have hl : (itoaS n).toList = decDigits n := by rw [itoaS_list, itoa_nat]
  have hs : (itoaS n).size ≤ 140737488355328 := by
    have h1 : (itoaS n).size = (itoa n).length := by simp [itoaS, ByteArray.size]
    have := dec_len n 9 (by omega)
    rw [h1, itoa_nat]; omega
  rw [show Nat.ble (itoaS n).size 140737488355328 = true from Nat.ble_eq_true_of_le hs, hl, atoi_dec (by omega)]
  rfl
theorem number_of {k : Int} {n : Nat} (hk : k = 30 ∨ k = 31 ∨ k = 32) (h : n < 100) : key_Number ⟨k, itoaS n⟩ = some n := by
  have h1 : key_toy k = some true := by rcases hk with rfl | rfl | rfl <;> (unfold key_toy; rfl)
  unfold key_Number
  rw [h1]
  simp only [Option.bind_some, atoiM_dec (show n < 1000000000 by omega), itoaM_nat (show n < 1000000000 by omega)]
  rw [show decide ((n : Int) < 0) = false by simp, show decide ((99 : Int) < (n : Int)) = false by simp; omega]
  simp
theorem valid_of {k : Int} {n : Nat} (hk : k = 30 ∨ k = 31 ∨ k = 32) (h : n < 100) : key_Valid ⟨k, itoaS n⟩ = some true := by
  have h1 : key_toy k = some true := by rcases hk with rfl | rfl | rfl <;> (unfold key_toy; rfl)
  unfold key_Valid
  rw [h1, number_of hk h]
  simp
/-- the key of rule n -/
noncomputable def ruleK (r : RuleD) (n : Nat) : KeyD := ⟨if r.Ring then 32 else 31, itoaS n⟩
theorem key_of_is {l : List RuleD} {n : Nat} (h : n < l.length) (h100 : n < 100) : key_Of l n = some (ruleK l[n] n) := by
  unfold key_Of
  rw [show decide ((n : Int) < 0) = false by simp, show decide (((l.length : Int) : Int) ≤ (n : Int)) = false by simp; omega, show decide ((99 : Int) < (n : Int)) = false by simp; omega, getI_at h]
  simp only [Option.bind_some, cond_false]
  unfold key_Of_j1 ruleK
  rw [itoaM_nat (by omega)]
  cases l[n].Ring <;> simp
theorem ref_of_is {l : List RuleD} {n : Nat} (h : n < l.length) (h100 : n < 100) : ref23_Of l n = some (ruleK l[n] n) := by
  unfold ref23_Of
  rw [show decide ((n : Int) < 0) = false by simp, show decide (((l.length : Int) : Int) ≤ (n : Int)) = false by simp; omega, show decide ((99 : Int) < (n : Int)) = false by simp; omega, getI_at h, itoaM_nat (by omega)]
  simp only [Option.bind_some, cond_false]
  unfold ref23_Of_j1 ruleK
  cases l[n].Ring <;> simp
theorem size_list (s : ByteArray) : s.toList.length = s.size := by rw [ByteArray.toList_eq]; rfl
/-- the reference's Decimal -/
theorem fold_cons (c : UInt8) (r : List UInt8) (n : Nat) : decFold (c :: r) n = if (decide (48 ≤ c.toNat) && decide (c.toNat ≤ 57)) = true then decFold r (10 * n + (c.toNat - 48)) else -1 := rfl
theorem nil_list : (ByteArray.mk #[]).toList = [] := by rw [ByteArray.toList_eq]
theorem dec_is (s : ByteArray) : ref23_Decimal s = some (decI s.toList) := by
  have hsz := size_list s
  have j3t : ref23_Decimal_j3 s true = some (-1) := by unfold ref23_Decimal_j3; rfl
  have j3f : s.size ≤ 9 → ref23_Decimal_j3 s false = some (decFold s.toList 0) := fun h9 => by
    unfold ref23_Decimal_j3
    simp only [cond_false]
    have key : ∃ r, loop (fun s_1 : Int × Int => ref23_Decimal_l2 s s_1.1 s_1.2) (0, 0) = some r ∧ Fl.el r (fun s => ref23_Decimal_j1 s) (fun y => some y) = some (decFold s.toList 0) := ?_
    · obtain ⟨r, h1, h2⟩ := key
      rw [h1]; exact h2
    refine loop_spec (fun k st => ∃ m : Nat, st = ((m : Int), (k : Int)) ∧ decFold (s.toList.drop k) m = decFold s.toList 0 ∧ m < 10 ^ k)
      (fun r => Fl.el r (fun s => ref23_Decimal_j1 s) (fun y => some y) = some (decFold s.toList 0)) s.size (fun k st hk hI => ?_) (fun st hI => ?_) ⟨0, rfl, rfl, by simp⟩
    · obtain ⟨m, rfl, e, hm⟩ := hI
      have hk' : k < s.toList.length := by omega
      rw [List.drop_eq_getElem_cons hk'] at e
      unfold ref23_Decimal_l2
      rw [show decide ((k : Int) < (s.size : Int)) = true by simpa using hk, getI_at hk']
      simp only [cond_true, Option.bind_some]
      have hp : (10 : Nat) ^ k ≤ 10 ^ 8 := Nat.pow_le_pow_right (by omega) (by omega)
      have hq : (10 : Nat) ^ 8 = 100000000 := rfl
      have hu := (s.toList[k]).toNat_lt
      rw [fold_cons] at e
      by_cases h48 : ((s.toList[k]).toNat : Int) < 48
      · rw [show decide (((s.toList[k]).toNat : Int) < 48) = true by simpa using h48]
        rw [if_neg (by simp; omega)] at e
        exact .inr ⟨_, rfl, by rw [← e]; rfl⟩
      · rw [show decide (((s.toList[k]).toNat : Int) < 48) = false by simpa using h48]
        by_cases h57 : (57 : Int) < ((s.toList[k]).toNat : Int)
        · rw [show decide ((57 : Int) < ((s.toList[k]).toNat : Int)) = true by simpa using h57]
          rw [if_neg (by simp; omega)] at e
          exact .inr ⟨_, rfl, by rw [← e]; rfl⟩
        · rw [show decide ((57 : Int) < ((s.toList[k]).toNat : Int)) = false by simpa using h57]
          rw [if_pos (by simp; omega)] at e
          simp only [cond_false]
          have hw : IntKind.u8.wrap (((s.toList[k]).toNat : Int) - 48) = (((s.toList[k]).toNat - 48 : Nat) : Int) := by rw [IntKind.wrap_u8]; omega
          rw [hw, show IntKind.i64.wrap (10 * (m : Int)) = ((10 * m : Nat) : Int) from (w64 (by omega) (by omega)).trans (by omega), show IntKind.i64.wrap (((s.toList[k]).toNat - 48 : Nat) : Int) = (((s.toList[k]).toNat - 48 : Nat) : Int) from w64 (by omega) (by omega),
            w64 (by omega) (by omega), w64 (by omega) (by omega)]
          exact .inl ⟨_, rfl, 10 * m + ((s.toList[k]).toNat - 48), by simp, e, by rw [Nat.pow_succ]; omega⟩
    · obtain ⟨m, rfl, e, hm⟩ := hI
      rw [← hsz, List.drop_length] at e
      unfold ref23_Decimal_l2
      rw [show decide ((s.size : Int) < (s.size : Int)) = false by simp]
      exact ⟨_, rfl, by simp only [Fl.el, ref23_Decimal_j1]; rw [← e]; rfl⟩
  unfold ref23_Decimal decI
  have hz : (s.toList == (ByteArray.mk #[]).toList) = decide (s.toList = []) := by rw [nil_list]; cases s.toList <;> rfl
  rw [hz]
  by_cases h0 : s.toList = []
  · rw [if_pos (.inl h0), decide_eq_true h0]; exact j3t
  · rw [decide_eq_false h0]
    simp only [cond_false]
    by_cases h9 : 9 < s.toList.length
    · rw [if_pos (.inr (.inl h9)), show decide ((9 : Int) < (s.size : Int)) = true by simp; omega]; exact j3t
    · rw [show decide ((9 : Int) < (s.size : Int)) = false by simp; omega]
      have hl : 0 < s.toList.length := List.length_pos_iff.2 h0
      have h1 : getI s.toList (0 : Int) = some (s.toList.getD 0 0) := by
        have := getI_at hl
        simp only [Int.natCast_zero] at this
        rw [this, List.getD_eq_getElem?_getD, List.getElem?_eq_getElem hl]; rfl
      rw [h1]
      simp only [cond_false, Option.bind_some]
      by_cases h48 : s.toList.getD 0 0 = 48
      · rw [h48, show (((48 : UInt8).toNat : Int) == 48) = true from rfl]
        simp only [cond_true, true_and]
        have hq : (!(s.toList == (ByteArray.mk #[48]).toList)) = decide (s.toList ≠ [48]) := by rw [show (ByteArray.mk #[48]).toList = [48] from by rw [ByteArray.toList_eq]]; by_cases h : s.toList = [48] <;> simp [h]
        rw [hq]
        by_cases h : s.toList = [48]
        · rw [decide_eq_false (fun h2 => h2 h), j3f (by omega), if_neg (by rintro (h2 | h2 | h2); exact h0 h2; exact h9 h2; exact h2 h)]
        · rw [decide_eq_true h, if_pos (.inr (.inr h))]; exact j3t
      · have h48' : ((s.toList.getD 0 0).toNat : Int) ≠ 48 := fun h => h48 (UInt8.toNat_inj.1 (by have : (48 : UInt8).toNat = 48 := rfl; omega))
        rw [show (((s.toList.getD 0 0).toNat : Int) == 48) = false by simpa using h48']
        simp only [cond_false]
        rw [j3f (by omega), if_neg (by rintro (h2 | h2 | h2); exact h0 h2; exact h9 h2; exact h48 h2.1)]
theorem atoi_num {M : Nat} (hM : M < 1000000000) {s : ByteArray} (hs : s.size ≤ 140737488355328) :
    ∃ p, atoiM s = some p ∧ (-9223372036854775808 ≤ p.1 → p.1 ≤ 9223372036854775807 → True) ∧ numI M s.toList = (if p.2 = true then -1 else if p.1 < 0 ∨ (M : Int) < p.1 then -1 else if itoa p.1 = s.toList then p.1 else -1) := by
  refine ⟨_, by unfold atoiM; rw [show Nat.ble s.size 140737488355328 = true from Nat.ble_eq_true_of_le hs]; rfl, fun _ _ => trivial, ?_⟩
  rw [numI_atoi M hM]
  cases atoiAll s.toList <;> simp
theorem itoaM_pos {v : Int} (h0 : 0 ≤ v) (h : v < 1000000000) : itoaM v = some (itoaS v) := by
  obtain ⟨n, rfl⟩ : ∃ n : Nat, v = n := ⟨v.toNat, by omega⟩
  exact itoaM_nat (by omega)
/-- the number of a key -/
def numK (k : KeyD) : Int := if 30 ≤ k.Kind ∧ k.Kind ≤ 32 then numI 99 k.Text.toList else -1
theorem numI_range (M : Nat) (l : List UInt8) : -1 ≤ numI M l ∧ numI M l ≤ M := by
  have := decI_ge l
  unfold numI
  split <;> omega
theorem numK_range (k : KeyD) : -1 ≤ numK k ∧ numK k ≤ 99 := by
  have := numI_range 99 k.Text.toList
  unfold numK
  split <;> omega
theorem toy_is (k : Int) : key_toy k = some (decide (30 ≤ k ∧ k ≤ 32)) := by
  unfold key_toy key_toy_j1
  by_cases h1 : 30 ≤ k <;> by_cases h2 : k ≤ 32 <;> simp [h1, h2]
theorem key_number {k : KeyD} (hs : k.Text.size ≤ 140737488355328) : key_Number k = some (numK k) := by
  unfold key_Number numK
  rw [toy_is]
  by_cases h : 30 ≤ k.Kind ∧ k.Kind ≤ 32
  · rw [if_pos h, decide_eq_true h]
    obtain ⟨p, h1, _, h2⟩ := atoi_num (M := 99) (by omega) hs
    rw [h1, h2]
    simp only [Option.bind_some, Bool.not_true, cond_false]
    obtain ⟨v, b⟩ := p
    cases b with
    | true => rfl
    | false =>
      simp only [cond_false, Bool.false_eq_true, if_false]
      by_cases h3 : v < 0
      · simp [h3]
      · by_cases h4 : (99 : Int) < v
        · simp [h3, h4]
        · rw [itoaM_pos (by omega) (by omega), if_neg (by omega), decide_eq_false h3, decide_eq_false h4]
          simp only [cond_false, Option.bind_some, itoaS_list]
          by_cases h5 : itoa v = k.Text.toList
          · simp [h5]
          · rw [if_neg h5, show (itoa v == k.Text.toList) = false by simpa using h5]; rfl
  · rw [if_neg h, decide_eq_false h]; rfl
theorem ref_number (k : KeyD) : ref23_Number k = some (numK k) := by
  unfold ref23_Number numK numI
  rw [dec_is]
  simp only [Option.bind_some]
  unfold ref23_Number_j1
  have := decI_ge k.Text.toList
  by_cases h1 : 30 ≤ k.Kind <;> by_cases h2 : k.Kind ≤ 32 <;> by_cases h3 : decI k.Text.toList ≤ 99 <;> simp [h1, h2, h3]
theorem cell_eq (n : Int) : key_Cell n = ref23_Cell n := rfl
theorem of_eq {l : List RuleD} (hl : l.length ≤ 1000000) (n : Int) : key_Of l n = ref23_Of l n := by
  by_cases h : 0 ≤ n ∧ n < l.length ∧ n < 100
  · obtain ⟨m, rfl⟩ : ∃ m : Nat, n = m := ⟨n.toNat, by omega⟩
    rw [key_of_is (by omega) (by omega), ref_of_is (by omega) (by omega)]
  · unfold key_Of ref23_Of
    by_cases h1 : n < 0
    · simp [h1]
    · by_cases h2 : (l.length : Int) ≤ n
      · simp [h1, h2]
      · have h3 : 99 < n := by omega
        simp [h1, h2, h3]
theorem size_itoa {n : Nat} (h : n < 1000000000) : (itoaS (n : Int)).size ≤ 140737488355328 := by
  have h1 : (itoaS n).size = (itoa n).length := by simp [itoaS, ByteArray.size]
  have := dec_len n 9 (by omega)
  rw [h1, itoa_nat]; omega
theorem key_ext {a b : KeyD} (h1 : a.Kind = b.Kind) (h2 : a.Text.toList = b.Text.toList) : a = b := by
  obtain ⟨ka, ta⟩ := a
  obtain ⟨kb, tb⟩ := b
  simp only at h1 h2
  subst h1
  rw [ByteArray.toList_eq, ByteArray.toList_eq] at h2
  have : ta = tb := ByteArray.ext (Array.toList_inj.1 h2)
  rw [this]
end Go.Proofs.YthpeklnhkkadjaaDoor
