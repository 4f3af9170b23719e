/- Plain: decimal numerals without leading zeros and sign, of at most nine digits: as the reference reads them, and as strconv reads and writes them. -/
import Derived.Lib.ItoaNum
import Derived.Lib.AtoiAll
set_option linter.unusedVariables false
set_option linter.unusedSimpArgs false
namespace Go.Proofs.YtdappapdddnciaaDoor
open Go.Lib

def digB (c : UInt8) : Bool := decide (48 ≤ c.toNat) && decide (c.toNat ≤ 57)
/-- the value of digits, behind a number; -1 if one is none -/
def decFold : List UInt8 → Nat → Int
  | [], n => n
  | c :: r, n => if digB c then decFold r (10 * n + (c.toNat - 48)) else -1
/-- the reference's Decimal -/
def decI (l : List UInt8) : Int := if l = [] ∨ 9 < l.length ∨ (l.getD 0 0 = 48 ∧ l ≠ [48]) then -1 else decFold l 0

theorem decFold_ge : ∀ (l : List UInt8) (n : Nat), decFold l n = -1 ∨ (n : Int) ≤ decFold l n
  | [], n => .inr (by simp [decFold])
  | c :: r, n => by
    unfold decFold
    split
    · rcases decFold_ge r (10 * n + (c.toNat - 48)) with h | h
      · exact .inl h
      · exact .inr (by omega)
    · exact .inl rfl
theorem decFold_lt : ∀ (l : List UInt8) (n : Nat), decFold l n < (n + 1) * 10 ^ l.length
  | [], n => by simp [decFold]; omega
  | c :: r, n => by
    unfold decFold
    split
    · rename_i h
      have hc : c.toNat ≤ 57 := by simp [digB] at h; omega
      have := decFold_lt r (10 * n + (c.toNat - 48))
      have h2 : ((10 * n + (c.toNat - 48) : Nat) : Int) + 1 ≤ (n + 1) * 10 := by omega
      have h3 : (((10 * n + (c.toNat - 48) : Nat) : Int) + 1) * 10 ^ r.length ≤ ((n + 1) * 10) * 10 ^ r.length := Int.mul_le_mul_of_nonneg_right h2 (by exact Int.le_of_lt (Int.pow_pos (by omega)))
      have h4 : (((n : Int) + 1) * 10) * 10 ^ r.length = ((n : Int) + 1) * 10 ^ (c :: r).length := by rw [List.length_cons, Int.pow_succ, Int.mul_assoc, Int.mul_comm 10]
      omega
    · have : (0 : Int) < ((n : Int) + 1) * 10 ^ (c :: r).length := Int.mul_pos (by omega) (Int.pow_pos (by omega))
      omega
theorem decFold_append : ∀ (l : List UInt8) (n m : Nat) (c : UInt8), decFold l n = m → decFold (l ++ [c]) n = if digB c then ((10 * m + (c.toNat - 48) : Nat) : Int) else -1
  | [], n, m, c, h => by
    simp only [decFold] at h
    have : n = m := by omega
    subst this
    simp [decFold]
  | d :: r, n, m, c, h => by
    unfold decFold at h
    split at h
    · rename_i hd
      show decFold (d :: (r ++ [c])) n = _
      rw [decFold, if_pos hd]
      exact decFold_append r _ m c h
    · omega
theorem dig_of {k : Nat} (h : k < 10) : (UInt8.ofNat (48 + k)).toNat = 48 + k := by
  have : (UInt8.ofNat (48 + k)).toNat = (48 + k) % 256 := rfl
  omega
theorem digB_of {k : Nat} (h : k < 10) : digB (UInt8.ofNat (48 + k)) = true := by
  unfold digB; rw [dig_of h]; simp; omega
theorem decFold_dec (n : Nat) : decFold (decDigits n) 0 = n := by
  induction n using Nat.strongRecOn with
  | _ n ih =>
    rw [decDigits]
    split
    · rename_i h
      simp only [decFold, digB_of h, if_true, dig_of h]
      omega
    · rename_i h
      rw [decFold_append _ 0 (n / 10) _ (ih (n / 10) (by omega)), digB_of (by omega), if_pos rfl, dig_of (by omega)]
      omega
theorem dec_ne (n : Nat) : decDigits n ≠ [] := by
  rw [decDigits]; split <;> simp
theorem dec_head (n : Nat) : (decDigits n).getD 0 0 = 48 → decDigits n = [48] := by
  induction n using Nat.strongRecOn with
  | _ n ih =>
    rw [decDigits]
    split
    · rename_i h
      intro h2
      simp only [List.getD_cons_zero] at h2
      rw [h2]
    · rename_i h
      intro h2
      have hne := dec_ne (n / 10)
      have h3 : (decDigits (n / 10)).getD 0 0 = 48 := by
        cases hd : decDigits (n / 10) with
        | nil => exact absurd hd hne
        | cons a r => rw [hd] at h2; simpa using h2
      have h4 := ih (n / 10) (by omega) h3
      have h5 := decFold_dec (n / 10)
      rw [h4] at h5
      have : decFold [48] 0 = 0 := rfl
      omega
theorem dec_len (n : Nat) : ∀ k, n < 10 ^ (k + 1) → (decDigits n).length ≤ k + 1 := by
  induction n using Nat.strongRecOn with
  | _ n ih =>
    intro k hk
    rw [decDigits]
    split
    · simp
    · rename_i h
      cases k with
      | zero => simp at hk; omega
      | succ k =>
        have := ih (n / 10) (by omega) k (by rw [Nat.div_lt_iff_lt_mul (by omega)]; rwa [Nat.pow_succ] at hk)
        simp; omega
/-- a numeral, read -/
theorem decI_dec {n : Nat} (h : n < 1000000000) : decI (decDigits n) = n := by
  unfold decI
  rw [if_neg, decFold_dec]
  rintro (h1 | h1 | ⟨h1, h2⟩)
  · exact dec_ne n h1
  · have := dec_len n 8 (by simpa using h); omega
  · exact h2 (dec_head n h1)
theorem snoc_cases {α : Type} (l : List α) : l = [] ∨ ∃ r c, l = r ++ [c] := by
  rcases List.eq_nil_or_concat l with h | ⟨r, c, h⟩
  · exact .inl h
  · exact .inr ⟨r, c, by simpa using h⟩
theorem decFold_neg_app : ∀ (l : List UInt8) (n : Nat) (c : UInt8), decFold l n = -1 → decFold (l ++ [c]) n = -1
  | [], n, c, h => by simp [decFold] at h
  | d :: r, n, c, h => by
    show decFold (d :: (r ++ [c])) n = _
    unfold decFold at h ⊢
    split
    · rename_i hd
      rw [if_pos hd] at h
      exact decFold_neg_app r _ c h
    · rfl
/-- what reads as a number is its numeral -/
theorem dec_of_fold : ∀ (k : Nat) (l : List UInt8) (n : Nat), l.length ≤ k → l ≠ [] → (l.getD 0 0 = 48 → l = [48]) → decFold l 0 = n → decDigits n = l := by
  intro k
  induction k with
  | zero => intro l n hk h1 _ _; exact absurd (List.eq_nil_of_length_eq_zero (by omega)) h1
  | succ k ih =>
    intro l n hk h1 h2 h3
    rcases snoc_cases l with rfl | ⟨r, c, rfl⟩
    · exact absurd rfl h1
    · cases hr : r with
      | nil =>
        subst hr
        simp only [List.nil_append, decFold] at h3 ⊢
        split at h3
        · rename_i hd
          have hc : 48 ≤ c.toNat ∧ c.toNat ≤ 57 := by simpa [digB] using hd
          have hn : n = c.toNat - 48 := by omega
          rw [decDigits, dif_pos (by omega), hn, show 48 + (c.toNat - 48) = c.toNat by omega, UInt8.ofNat_toNat]
        · omega
      | cons a r' =>
        rw [← hr]
        rcases decFold_ge r 0 with h | h
        · rw [decFold_neg_app r 0 c h] at h3; omega
        · obtain ⟨m, hm⟩ : ∃ m : Nat, decFold r 0 = m := ⟨(decFold r 0).toNat, by omega⟩
          rw [decFold_append r 0 m c hm] at h3
          split at h3
          · rename_i hd
            have hc : 48 ≤ c.toNat ∧ c.toNat ≤ 57 := by simpa [digB] using hd
            have ha : r.getD 0 0 ≠ 48 := by
              intro e
              have := h2 (by rw [hr] at e ⊢; simpa using e)
              rw [hr] at this; simp at this
            have hrec := ih r m (by simp at hk; omega) (by rw [hr]; simp) (fun e => absurd e ha) hm
            have hm0 : 1 ≤ m := by
              rcases Nat.eq_zero_or_pos m with e | e
              · subst e
                rw [decDigits, dif_pos (by omega)] at hrec
                rw [← hrec] at ha
                exact absurd rfl ha
              · exact e
            rw [decDigits, dif_neg (by omega), show n / 10 = m by omega, hrec, show n % 10 = c.toNat - 48 by omega, show 48 + (c.toNat - 48) = c.toNat by omega, UInt8.ofNat_toNat]
          · omega
theorem dec_of {l : List UInt8} {n : Nat} (h : decI l = n) : decDigits n = l ∧ n < 1000000000 := by
  unfold decI at h
  split at h
  · omega
  · rename_i hc
    have h1 : l ≠ [] := fun e => hc (.inl e)
    have h2 : l.length ≤ 9 := by
      rcases Nat.lt_or_ge 9 l.length with e | e
      · exact absurd (.inr (.inl e)) hc
      · exact e
    have h3 : l.getD 0 0 = 48 → l = [48] := fun e => Classical.byContradiction fun e2 => hc (.inr (.inr ⟨e, e2⟩))
    refine ⟨dec_of_fold 9 l n h2 h1 h3 h, ?_⟩
    have := decFold_lt l 0
    have hp : (10 : Nat) ^ l.length ≤ 10 ^ 9 := Nat.pow_le_pow_right (by omega) h2
    have hq : ((10 : Int) ^ l.length) = ((10 ^ l.length : Nat) : Int) := by simp
    rw [h, hq] at this
    simp only [Int.natCast_zero, Int.zero_add, Int.one_mul] at this
    have : (10 : Nat) ^ 9 = 1000000000 := rfl
    omega
theorem decI_ge (l : List UInt8) : -1 ≤ decI l := by
  unfold decI
  split
  · omega
  · rcases decFold_ge l 0 with h | h <;> omega
/-- strconv reads a numeral -/
theorem parse_app : ∀ (l : List UInt8) (a m : Nat) (c : UInt8), parseUint10 a l = .ok m → m < 1000000000000 → digB c = true → parseUint10 a (l ++ [c]) = .ok (10 * m + (c.toNat - 48))
  | [], a, m, c, h, hm, hc => by
    simp only [parseUint10] at h
    injection h with h
    subst h
    have hc' : 48 ≤ c.toNat ∧ c.toNat ≤ 57 := by simpa [digB] using hc
    simp only [List.nil_append, parseUint10]
    rw [if_pos hc', if_neg (by omega), if_neg (by omega)]
    congr 1; omega
  | d :: r, a, m, c, h, hm, hc => by
    show parseUint10 a (d :: (r ++ [c])) = _
    unfold parseUint10 at h ⊢
    split at h
    · rename_i hd
      rw [if_pos hd]
      split at h
      · cases h
      · rename_i h2
        rw [if_neg h2]
        split at h
        · cases h
        · rename_i h3
          rw [if_neg h3]
          exact parse_app r _ m c h hm hc
    · cases h
theorem parse_dec (n : Nat) (h : n < 1000000000000) : parseUint10 0 (decDigits n) = .ok n := by
  induction n using Nat.strongRecOn with
  | _ n ih =>
    rw [decDigits]
    split
    · rename_i h
      simp only [parseUint10, dig_of h]
      rw [if_pos (by omega), if_neg (by omega), if_neg (by omega)]
      congr 1; omega
    · rename_i h
      rw [parse_app _ 0 (n / 10) _ (ih (n / 10) (by omega) (by omega)) (by omega) (digB_of (by omega)), dig_of (by omega)]
      congr 1; omega
theorem dec_dig (n : Nat) : 48 ≤ ((decDigits n).getD 0 0).toNat := by
  induction n using Nat.strongRecOn with
  | _ n ih =>
    rw [decDigits]
    split
    · rename_i h
      simp only [List.getD_cons_zero]
      rw [dig_of h]; omega
    · rename_i h
      have hne := dec_ne (n / 10)
      have := ih (n / 10) (by omega)
      cases hd : decDigits (n / 10) with
      | nil => exact absurd hd hne
      | cons a r => rw [hd] at this; simpa using this
theorem atoi_dec {n : Nat} (h : n < 1000000000) : atoiAll (decDigits n) = .ok (n : Int) := by
  have h1 := parse_dec n (by omega)
  have h2 := dec_dig n
  have h3 := dec_ne n
  cases hd : decDigits n with
  | nil => exact absurd hd h3
  | cons c r =>
    rw [hd] at h1 h2
    simp only [List.getD_cons_zero] at h2
    have h45 : ¬ (c.toNat = 43 ∨ c.toNat = 45) := by omega
    have h46 : ¬ c.toNat = 45 := by omega
    simp only [atoiAll, if_neg h45, parseMag, if_neg (List.cons_ne_nil c r), h1]
    rw [if_neg (by omega), if_neg (by omega), if_neg h46]
/-- a number up to a bound, read -/
def numI (M : Nat) (l : List UInt8) : Int := if decI l ≤ M then decI l else -1
/-- as strconv tells it -/
theorem numI_atoi (M : Nat) (hM : M < 1000000000) (l : List UInt8) : numI M l = match atoiAll l with
    | .ok v => if v < 0 ∨ (M : Int) < v then -1 else if itoa v = l then v else -1
    | _ => -1 := by
  have key : ∀ n : Nat, decI l = n → n ≤ M → numI M l = n ∧ atoiAll l = .ok (n : Int) ∧ itoa (n : Int) = l := fun n h1 h2 => by
    obtain ⟨h3, h4⟩ := dec_of h1
    refine ⟨by unfold numI; rw [h1, if_pos (by omega)], by rw [← h3]; exact atoi_dec h4, by unfold itoa; rw [if_neg (by omega)]; simpa using h3⟩
  have hge := decI_ge l
  by_cases hc : 0 ≤ decI l ∧ decI l ≤ M
  · obtain ⟨n, hn⟩ : ∃ n : Nat, decI l = n := ⟨(decI l).toNat, by omega⟩
    obtain ⟨k1, k2, k3⟩ := key n hn (by omega)
    rw [k1, k2]
    simp only
    rw [if_neg (by omega), if_pos k3]
  · have hl : numI M l = -1 := by
      unfold numI
      split
      · omega
      · rfl
    rw [hl]
    cases ha : atoiAll l
    · rename_i v
      simp only
      split
      · rfl
      · rename_i hv
        split
        · rename_i hi
          exfalso
          have hv0 : 0 ≤ v ∧ v ≤ M := by omega
          obtain ⟨n, rfl⟩ : ∃ n : Nat, v = n := ⟨v.toNat, by omega⟩
          unfold itoa at hi
          rw [if_neg (by omega)] at hi
          simp only [Int.toNat_natCast] at hi
          have := decI_dec (n := n) (by omega)
          rw [hi] at this
          omega
        · rfl
    · rfl
    · rfl
end Go.Proofs.YtdappapdddnciaaDoor
