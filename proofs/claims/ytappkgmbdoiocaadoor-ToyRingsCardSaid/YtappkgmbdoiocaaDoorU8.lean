/- Plain laws: numbers of keys and values of strings, by strconv and by the reference; what rules make of numbers. -/
import Derived.Test.YtappkgmbdoiocaaDoorU7
set_option linter.unusedVariables false
set_option linter.unusedSimpArgs false
namespace Go.Proofs.YtappkgmbdoiocaaDoor
open Go.RowKit
open Go.Lib hiding intOf

theorem size_list (s : ByteArray) : s.toList.length = s.size := by rw [ByteArray.toList_eq]; rfl
/-- the reference's Decimal -/
theorem fold_cons (c : UInt8) (r : List UInt8) (n : Nat) : decFold (c :: r) n = if (decide (48 ≤ c.toNat) && decide (c.toNat ≤ 57)) = true then decFold r (10 * n + (c.toNat - 48)) else -1 := rfl
theorem nil_list : (ByteArray.mk #[]).toList = [] := by rw [ByteArray.toList_eq]
theorem dec_is (s : ByteArray) : ref23_Decimal s = some (decI s.toList) := by
  have hsz := size_list s
  have j3t : ref23_Decimal_j3 s true = some (-1) := by unfold ref23_Decimal_j3; rfl
  have j3f : s.size ≤ 9 → ref23_Decimal_j3 s false = some (decFold s.toList 0) := fun h9 => by
    unfold ref23_Decimal_j3
    simp only [cond_false]
    have key : ∃ r, loop (fun s_1 : Int × Int => ref23_Decimal_l2 s s_1.1 s_1.2) (0, 0) = some r ∧ Fl.el r (fun s => ref23_Decimal_j1 s) (fun y => some y) = some (decFold s.toList 0) := ?_
    · obtain ⟨r, h1, h2⟩ := key
      rw [h1]; exact h2
    refine loop_spec (fun k st => ∃ m : Nat, st = ((m : Int), (k : Int)) ∧ decFold (s.toList.drop k) m = decFold s.toList 0 ∧ m < 10 ^ k)
      (fun r => Fl.el r (fun s => ref23_Decimal_j1 s) (fun y => some y) = some (decFold s.toList 0)) s.size (fun k st hk hI => ?_) (fun st hI => ?_) ⟨0, rfl, rfl, by simp⟩
    · obtain ⟨m, rfl, e, hm⟩ := hI
      have hk' : k < s.toList.length := by omega
      rw [List.drop_eq_getElem_cons hk'] at e
      unfold ref23_Decimal_l2
      rw [show decide ((k : Int) < (s.size : Int)) = true by simpa using hk, getI_at hk']
      simp only [cond_true, Option.bind_some]
      have hp : (10 : Nat) ^ k ≤ 10 ^ 8 := Nat.pow_le_pow_right (by omega) (by omega)
      have hq : (10 : Nat) ^ 8 = 100000000 := rfl
      have hu := (s.toList[k]).toNat_lt
      rw [fold_cons] at e
      by_cases h48 : ((s.toList[k]).toNat : Int) < 48
      · rw [show decide (((s.toList[k]).toNat : Int) < 48) = true by simpa using h48]
        rw [if_neg (by simp; omega)] at e
        exact .inr ⟨_, rfl, by rw [← e]; rfl⟩
      · rw [show decide (((s.toList[k]).toNat : Int) < 48) = false by simpa using h48]
        by_cases h57 : (57 : Int) < ((s.toList[k]).toNat : Int)
        · rw [show decide ((57 : Int) < ((s.toList[k]).toNat : Int)) = true by simpa using h57]
          rw [if_neg (by simp; omega)] at e
          exact .inr ⟨_, rfl, by rw [← e]; rfl⟩
        · rw [show decide ((57 : Int) < ((s.toList[k]).toNat : Int)) = false by simpa using h57]
          rw [if_pos (by simp; omega)] at e
          simp only [cond_false]
          have hw : IntKind.u8.wrap (((s.toList[k]).toNat : Int) - 48) = (((s.toList[k]).toNat - 48 : Nat) : Int) := by rw [IntKind.wrap_u8]; omega
          rw [hw, show IntKind.i64.wrap (10 * (m : Int)) = ((10 * m : Nat) : Int) from (w64 (by omega) (by omega)).trans (by omega), show IntKind.i64.wrap (((s.toList[k]).toNat - 48 : Nat) : Int) = (((s.toList[k]).toNat - 48 : Nat) : Int) from w64 (by omega) (by omega),
            w64 (by omega) (by omega), w64 (by omega) (by omega)]
          exact .inl ⟨_, rfl, 10 * m + ((s.toList[k]).toNat - 48), by simp, e, by rw [Nat.pow_succ]; omega⟩
    · obtain ⟨m, rfl, e, hm⟩ := hI
      rw [← hsz, List.drop_length] at e
      unfold ref23_Decimal_l2
      rw [show decide ((s.size : Int) < (s.size : Int)) = false by simp]
      exact ⟨_, rfl, by simp only [Fl.el, ref23_Decimal_j1]; rw [← e]; rfl⟩
  unfold ref23_Decimal decI
  have hz : (s.toList == (ByteArray.mk #[]).toList) = decide (s.toList = []) := by rw [nil_list]; cases s.toList <;> rfl
  rw [hz]
  by_cases h0 : s.toList = []
  · rw [if_pos (.inl h0), decide_eq_true h0]; exact j3t
  · rw [decide_eq_false h0]
    simp only [cond_false]
    by_cases h9 : 9 < s.toList.length
    · rw [if_pos (.inr (.inl h9)), show decide ((9 : Int) < (s.size : Int)) = true by simp; omega]; exact j3t
    · rw [show decide ((9 : Int) < (s.size : Int)) = false by simp; omega]
      have hl : 0 < s.toList.length := List.length_pos_iff.2 h0
      have h1 : getI s.toList (0 : Int) = some (s.toList.getD 0 0) := by
        have := getI_at hl
        simp only [Int.natCast_zero] at this
        rw [this, List.getD_eq_getElem?_getD, List.getElem?_eq_getElem hl]; rfl
      rw [h1]
      simp only [cond_false, Option.bind_some]
      by_cases h48 : s.toList.getD 0 0 = 48
      · rw [h48, show (((48 : UInt8).toNat : Int) == 48) = true from rfl]
        simp only [cond_true, true_and]
        have hq : (!(s.toList == (ByteArray.mk #[48]).toList)) = decide (s.toList ≠ [48]) := by rw [show (ByteArray.mk #[48]).toList = [48] from by rw [ByteArray.toList_eq]]; by_cases h : s.toList = [48] <;> simp [h]
        rw [hq]
        by_cases h : s.toList = [48]
        · rw [decide_eq_false (fun h2 => h2 h), j3f (by omega), if_neg (by rintro (h2 | h2 | h2); exact h0 h2; exact h9 h2; exact h2 h)]
        · rw [decide_eq_true h, if_pos (.inr (.inr h))]; exact j3t
      · have h48' : ((s.toList.getD 0 0).toNat : Int) ≠ 48 := fun h => h48 (UInt8.toNat_inj.1 (by have : (48 : UInt8).toNat = 48 := rfl; omega))
        rw [show (((s.toList.getD 0 0).toNat : Int) == 48) = false by simpa using h48']
        simp only [cond_false]
        rw [j3f (by omega), if_neg (by rintro (h2 | h2 | h2); exact h0 h2; exact h9 h2; exact h48 h2.1)]
theorem atoi_num {M : Nat} (hM : M < 1000000000) {s : ByteArray} (hs : s.size ≤ 140737488355328) :
    ∃ p, atoiM s = some p ∧ (-9223372036854775808 ≤ p.1 → p.1 ≤ 9223372036854775807 → True) ∧ numI M s.toList = (if p.2 = true then -1 else if p.1 < 0 ∨ (M : Int) < p.1 then -1 else if itoa p.1 = s.toList then p.1 else -1) := by
  refine ⟨_, by unfold atoiM; rw [show Nat.ble s.size 140737488355328 = true from Nat.ble_eq_true_of_le hs]; rfl, fun _ _ => trivial, ?_⟩
  rw [numI_atoi M hM]
  cases atoiAll s.toList <;> simp
theorem itoaM_pos {v : Int} (h0 : 0 ≤ v) (h : v < 1000000000) : itoaM v = some (itoaS v) := by
  obtain ⟨n, rfl⟩ : ∃ n : Nat, v = n := ⟨v.toNat, by omega⟩
  exact itoaM_nat (by omega)
/-- the number of a key -/
def numK (k : KeyD) : Int := if 30 ≤ k.Kind ∧ k.Kind ≤ 32 then numI 99 k.Text.toList else -1
theorem numI_range (M : Nat) (l : List UInt8) : -1 ≤ numI M l ∧ numI M l ≤ M := by
  have := decI_ge l
  unfold numI
  split <;> omega
theorem numK_range (k : KeyD) : -1 ≤ numK k ∧ numK k ≤ 99 := by
  have := numI_range 99 k.Text.toList
  unfold numK
  split <;> omega
theorem toy_is (k : Int) : key_toy k = some (decide (30 ≤ k ∧ k ≤ 32)) := by
  unfold key_toy key_toy_j1
  by_cases h1 : 30 ≤ k <;> by_cases h2 : k ≤ 32 <;> simp [h1, h2]
theorem key_number {k : KeyD} (hs : k.Text.size ≤ 140737488355328) : key_Number k = some (numK k) := by
  unfold key_Number numK
  rw [toy_is]
  by_cases h : 30 ≤ k.Kind ∧ k.Kind ≤ 32
  · rw [if_pos h, decide_eq_true h]
    obtain ⟨p, h1, _, h2⟩ := atoi_num (M := 99) (by omega) hs
    rw [h1, h2]
    simp only [Option.bind_some, Bool.not_true, cond_false]
    obtain ⟨v, b⟩ := p
    cases b with
    | true => rfl
    | false =>
      simp only [cond_false, Bool.false_eq_true, if_false]
      by_cases h3 : v < 0
      · simp [h3]
      · by_cases h4 : (99 : Int) < v
        · simp [h3, h4]
        · rw [itoaM_pos (by omega) (by omega), if_neg (by omega), decide_eq_false h3, decide_eq_false h4]
          simp only [cond_false, Option.bind_some, itoaS_list]
          by_cases h5 : itoa v = k.Text.toList
          · simp [h5]
          · rw [if_neg h5, show (itoa v == k.Text.toList) = false by simpa using h5]; rfl
  · rw [if_neg h, decide_eq_false h]; rfl
theorem ref_number (k : KeyD) : ref23_Number k = some (numK k) := by
  unfold ref23_Number numK numI
  rw [dec_is]
  simp only [Option.bind_some]
  unfold ref23_Number_j1
  have := decI_ge k.Text.toList
  by_cases h1 : 30 ≤ k.Kind <;> by_cases h2 : k.Kind ≤ 32 <;> by_cases h3 : decI k.Text.toList ≤ 99 <;> simp [h1, h2, h3]
/-- what a string is worth -/
def valN (s : ByteArray) : Nat := (numI 65535 s.toList).toNat
theorem valN_le (s : ByteArray) : valN s ≤ 65535 := by have := numI_range 65535 s.toList; unfold valN; omega
theorem toy_value {s : ByteArray} (hs : s.size ≤ 140737488355328) : toy_Value s = some (valN s : Int) := by
  unfold toy_Value valN
  obtain ⟨p, h1, _, h2⟩ := atoi_num (M := 65535) (by omega) hs
  rw [h1, h2]
  simp only [Option.bind_some]
  obtain ⟨v, b⟩ := p
  cases b with
  | true => rfl
  | false =>
    simp only [cond_false, Bool.false_eq_true, if_false]
    by_cases h3 : v < 0
    · simp [h3]
    · by_cases h4 : (65535 : Int) < v
      · simp [h3, h4]
      · rw [itoaM_pos (by omega) (by omega), if_neg (by omega), decide_eq_false h3, decide_eq_false h4]
        simp only [cond_false, Option.bind_some, itoaS_list]
        by_cases h5 : itoa v = s.toList
        · simp [h5]; omega
        · rw [if_neg h5, show (itoa v == s.toList) = false by simpa using h5]; rfl
theorem ref_value (s : ByteArray) : ref24_Value s = some (valN s : Int) := by
  unfold ref24_Value valN numI
  rw [dec_is]
  have := decI_ge s.toList
  simp only [Option.bind_some]
  by_cases h1 : decI s.toList < 0
  · rw [decide_eq_true h1, if_pos (by omega)]; simp; omega
  · by_cases h2 : 65535 < decI s.toList
    · rw [decide_eq_false h1, decide_eq_true h2, if_neg (by omega)]; rfl
    · rw [decide_eq_false h1, decide_eq_false h2, if_pos (by omega)]; simp; omega
theorem valS_N {s : ByteArray} (hs : s.size ≤ 140737488355328) : valS s = valN s := by unfold valS; rw [toy_value hs]; rfl
theorem cell_eq (n : Int) : key_Cell n = ref23_Cell n := rfl
theorem of_eq {l : List RuleD} (hl : l.length ≤ 1000000) (n : Int) : key_Of l n = ref23_Of l n := by
  by_cases h : 0 ≤ n ∧ n < l.length ∧ n < 100
  · obtain ⟨m, rfl⟩ : ∃ m : Nat, n = m := ⟨n.toNat, by omega⟩
    rw [key_of_is (by omega) (by omega), ref_of_is (by omega) (by omega)]
  · unfold key_Of ref23_Of
    by_cases h1 : n < 0
    · simp [h1]
    · by_cases h2 : (l.length : Int) ≤ n
      · simp [h1, h2]
      · have h3 : 99 < n := by omega
        simp [h1, h2, h3]
theorem or_is {a b : Nat} (ha : a < 65536) (hb : b < 65536) : ibit .or .i64 (a : Int) (b : Int) = ((a ||| b : Nat) : Int) ∧ a ||| b < 65536 := by
  have h := Nat.or_lt_two_pow (n := 16) ha hb
  refine ⟨?_, h⟩
  unfold ibit
  simp only [show IntKind.i64.bits = 64 from rfl]
  rw [BitVec.toNat_or, BitVec.toNat_ofInt, BitVec.toNat_ofInt, show ((a : Int) % ((2 ^ IntKind.i64.bits : Nat) : Int)).toNat = a by rw [show IntKind.i64.bits = 64 from rfl]; omega, show ((b : Int) % ((2 ^ IntKind.i64.bits : Nat) : Int)).toNat = b by rw [show IntKind.i64.bits = 64 from rfl]; omega]
  exact w64 (by omega) (by omega)
theorem fold_or : ∀ (l : List Nat) (a : Nat), (∀ x ∈ l, x ≤ 65535) → a < 65536 → (l.map fun x : Nat => (x : Int)).foldl (fun a b => ibit .or .i64 a b) (a : Int) = ((l.foldl (· ||| ·) a : Nat) : Int) ∧ l.foldl (· ||| ·) a < 65536
  | [], a, _, ha => ⟨rfl, ha⟩
  | x :: l, a, h, ha => by
    have hx := h x List.mem_cons_self
    obtain ⟨h1, h2⟩ := or_is ha (show x < 65536 by omega)
    simp only [List.map_cons, List.foldl_cons, h1]
    exact fold_or l _ (fun y hy => h y (List.mem_cons_of_mem _ hy)) h2
theorem fold_max : ∀ (l : List Nat) (a : Nat), (∀ x ∈ l, x ≤ 65535) → a ≤ 65535 → (l.map fun x : Nat => (x : Int)).foldl max (a : Int) = ((l.foldl max a : Nat) : Int) ∧ l.foldl max a ≤ 65535
  | [], a, _, ha => ⟨rfl, ha⟩
  | x :: l, a, h, ha => by
    have hx := h x List.mem_cons_self
    simp only [List.map_cons, List.foldl_cons]
    rw [show max (a : Int) (x : Int) = ((max a x : Nat) : Int) by omega]
    exact fold_max l _ (fun y hy => h y (List.mem_cons_of_mem _ hy)) (by omega)
theorem sum_nat : ∀ (l : List Nat), (l.map fun x : Nat => (x : Int)).sum = ((l.sum : Nat) : Int)
  | [] => rfl
  | x :: l => by simp [sum_nat l]
theorem sum_le : ∀ (l : List Nat), (∀ x ∈ l, x ≤ 65535) → l.sum ≤ 65535 * l.length
  | [], _ => by simp
  | x :: l, h => by
    have := h x List.mem_cons_self
    have := sum_le l fun y hy => h y (List.mem_cons_of_mem _ hy)
    simp; omega
/-- what a rule makes of numbers -/
def finN (kind : Int) (l : List Nat) : Nat := if kind = 1 then l.sum % 1000 else if kind = 2 then l.sum / 2 % 1000 else if kind = 3 then l.foldl max 0 else if kind = 4 then l.sum % 2 else l.foldl (· ||| ·) 0
theorem finN_le (kind : Int) {l : List Nat} (h : ∀ x ∈ l, x ≤ 65535) : finN kind l ≤ 65535 := by
  have := (fold_max l 0 h (by omega)).2
  have := (fold_or l 0 h (by omega)).2
  unfold finN
  repeat' split
  all_goals omega
theorem j1_is (kind : Int) {l : List Nat} (h : ∀ x ∈ l, x ≤ 65535) (hl : l.length ≤ 1000) : toy_final_j1 kind (l.sum : Nat) ((l.foldl max 0 : Nat) : Int) ((l.foldl (· ||| ·) 0 : Nat) : Int) = some (finN kind l : Int) := by
  have := sum_le l h
  unfold toy_final_j1 finN
  have hd : Int.tdiv ((l.sum : Nat) : Int) 2 = ((l.sum / 2 : Nat) : Int) := by rw [Int.tdiv_eq_ediv_of_nonneg (by omega)]; omega
  rw [hd, w64 (by omega) (by omega)]
  have hm : ∀ a b : Nat, Int.tmod (a : Int) (b : Int) = ((a % b : Nat) : Int) := fun a b => by rw [Int.tmod_eq_emod_of_nonneg (by omega)]; omega
  rw [show (1000 : Int) = ((1000 : Nat) : Int) from rfl, show (2 : Int) = ((2 : Nat) : Int) from rfl, hm, hm, hm]
  by_cases h1 : kind = 1
  · subst h1; rfl
  · by_cases h2 : kind = 2
    · subst h2; rfl
    · by_cases h3 : kind = 3
      · subst h3; rfl
      · by_cases h4 : kind = 4
        · subst h4; rfl
        · have e1 : (kind == 1) = false := by simpa using h1
          have e2 : (kind == ((2 : Nat) : Int)) = false := by simpa using h2
          have e3 : (kind == 3) = false := by simpa using h3
          have e4 : (kind == 4) = false := by simpa using h4
          have h2' : ¬ kind = ((2 : Nat) : Int) := by simpa using h2
          rw [e1, e2, e3, e4, if_neg h1, if_neg h2', if_neg h3, if_neg h4]; rfl
theorem toy_final_is (kind : Int) {l : List Nat} (h : ∀ x ∈ l, x ≤ 65535) (hl : l.length ≤ 1000) : toy_final kind (l.map fun x : Nat => (x : Int)) = some (finN kind l : Int) := by
  rw [final_some (fun x hx => by
    obtain ⟨y, hy, rfl⟩ := List.mem_map.1 hx
    have := h y hy; omega) (by simpa using hl), sum_nat]
  have h1 := (fold_max l 0 h (by omega)).1
  have h2 := (fold_or l 0 h (by omega)).1
  rw [Int.natCast_zero] at h1 h2
  rw [h1, h2]
  exact j1_is kind h hl
end Go.Proofs.YtappkgmbdoiocaaDoor
