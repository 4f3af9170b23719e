/- Leaf functions: contracts. -/
import Derived.Test.YtpjpndbagkcgcaaProg
import Derived.Test.YtpjpndbagkcgcaaW
set_option linter.unusedVariables false
set_option linter.unusedSimpArgs false
namespace Go.Proofs.Ytpjpndbagkcgcaa
open Go.RowKit

def modI (n m : Int) : Int := if m < 1 then 0 else n % m

theorem tmod_neg (n m : Int) (h : 1 ≤ m) (h0 : n.tmod m < 0) : n.tmod m + m = n % m := by
  have h1 : n < 0 := by
    rcases Int.lt_or_le n 0 with h2 | h2
    · exact h2
    · have := Int.tmod_nonneg m h2; omega
  have hnd : ¬ (0 ≤ n ∨ m ∣ n) := by
    rintro (h2 | h2)
    · omega
    · rw [Int.tmod_eq_zero_of_dvd h2] at h0; omega
  rw [Int.tmod_eq_emod, if_neg hnd]; omega
theorem tmod_pos (n m : Int) (h : 1 ≤ m) (h0 : 0 ≤ n.tmod m) : n.tmod m = n % m := by
  have := Int.emod_lt_of_pos n (show 0 < m by omega)
  rw [Int.tmod_eq_emod] at h0 ⊢
  split at h0
  · rename_i h2; rw [if_pos h2]; omega
  · omega
set_option maxHeartbeats 400000 in
theorem mod_any (n m : Int) (w : World) (hn : -9223372036854775808 ≤ n) (hn2 : n ≤ 9223372036854775807) (hm : m ≤ 9223372036854775807) :
    Calls Try.prog 12 #[.int .i64 n, .int .i64 m] w fun e w' => e = .returned (.int .i64 (modI n m)) ∧ w = w' := by
  by_cases h : m < 1
  · go_enter Try.func12, Try.ntmps12
    go_wp2
    go_ret
    simp [modI, h]
  · go_enter Try.func12, Try.ntmps12
    go_wp2
    · have h0 : n.tmod m < 0 := by assumption
      go_ret
      refine ⟨ret_int ?_, rfl⟩
      have e := tmod_neg n m (by omega) h0
      have := Int.emod_lt_of_pos n (show 0 < m by omega)
      have := Int.emod_nonneg n (show m ≠ 0 by omega)
      rw [modI, if_neg (by omega), ← e]
      exact IntWalk.wrap64_in _ (by omega)
    · have h0 : 0 ≤ n.tmod m := by assumption
      go_ret
      exact ⟨ret_int (by rw [tmod_pos n m (by omega) h0, modI, if_neg (by omega)]), rfl⟩

def beginB (c : Int) : Bool := (97 ≤ c && c ≤ 122) || (65 ≤ c && c ≤ 90) || c == 95
set_option maxHeartbeats 400000 in
theorem begins_any (c : Int) (w : World) :
    Calls Try.prog 63 #[.int .u8 c] w fun e w' => e = .returned (.bool (beginB c)) ∧ w = w' := by
  go_enter Try.func63, Try.ntmps63
  go_wp2
  all_goals go_ret
  all_goals (refine ⟨ret_bool ?_, rfl⟩; rw [Bool.eq_iff_iff]; simp [beginB]; try omega)

def nameB (c : Int) : Bool := beginB c || (decide (48 ≤ c) && decide (c ≤ 57))
def named (s : List UInt8) : Bool := decide (0 < s.length) && decide (s.length ≤ 40) && beginB ((s.getD 0 0).toNat) && s.all (fun c => nameB c.toNat)




theorem getD_toList (s : ByteArray) (k : Nat) (h : k < s.size) : (s.toList.getD k 0).toNat = s[k].toNat := by rw [get_eq s k h]
theorem named_no {s : ByteArray} {k : Nat} (h : k < s.size) (hb : nameB (s[k].toNat) = false) : named s.toList = false := by
  have h1 : s.toList.all (fun c => nameB c.toNat) = false := by
    rw [List.all_eq_false]
    have h2 : k < s.toList.length := by rw [← size_eq]; exact h
    refine ⟨s.toList.getD k 0, ?_, ?_⟩
    · rw [List.getD_eq_getElem?_getD, List.getElem?_eq_getElem h2]; exact List.getElem_mem _
    · rw [get_eq s k h, hb]; simp
  simp [named, h1]
theorem named_yes {s : ByteArray} (h0 : 0 < s.size) (h40 : s.size ≤ 40) (hb : beginB (s[0].toNat) = true) (h : ∀ j, (hj : j < s.size) → nameB (s[j].toNat) = true) : named s.toList = true := by
  have hsz := size_eq s
  have h1 : s.toList.all (fun c => nameB c.toNat) = true := by
    rw [List.all_eq_true]
    intro c hc
    obtain ⟨j, hj, rfl⟩ := List.getElem_of_mem hc
    have h2 : j < s.size := by omega
    have h3 := h j h2
    rw [← get_eq s j h2, List.getD_eq_getElem?_getD, List.getElem?_eq_getElem hj] at h3
    exact h3
  simp only [named, h1, getD_toList s 0 h0, hb]
  simp; omega

set_option maxHeartbeats 400000 in
theorem named_any (s : ByteArray) (w : World) (hs : s.size ≤ maxLen) :
    Calls Try.prog 57 #[.string s] w fun e w' => e = .returned (.bool (named s.toList)) ∧ w = w' := by
  unfold maxLen at hs
  have hsz := size_eq s
  by_cases h0 : s.size = 0
  · have h1 : s.toList.isEmpty = true := by
      rw [List.isEmpty_iff_length_eq_zero]; omega
    have hN : named s.toList = false := by simp [named]; omega
    have HN := hid hN
    clear hN
    go_enter Try.func57, Try.ntmps57
    go_wp2
    go_ret
    exact ⟨ret_bool HN.out.symm, rfl⟩
  · have h1 : s.toList.isEmpty = false := by
      rw [Bool.eq_false_iff, ne_eq, List.isEmpty_iff_length_eq_zero]; omega
    have h2 : 0 < s.size := by omega
    by_cases h40 : s.size ≤ 40
    · have Hsz := hid hsz
      clear hsz
      by_cases hb : beginB s[0].toNat = true
      · have Hb := hid hb
        go_enter Try.func57, Try.ntmps57
        go_wp2_with (go_at_call 63; refine (begins_any _ _).mono ?_; rintro e w' ⟨rfl, rfl⟩)
        clear hb
        go_loop [19] (fun i => ∃ k : Nat, k ≤ s.size ∧ i = .int .i64 k ∧ ∀ j, (hj : j < s.size) → j < k → nameB (s[j].toNat) = true) (fun i => s.size - (intOf i).toNat)
        case atStart => exact ⟨0, Nat.zero_le _, rfl, fun j hj h => absurd h (by omega)⟩
        case round =>
          obtain ⟨k, hk, rfl, hall⟩ := hrel
          have Hall := hid hall
          clear hall
          by_cases hlt : k < s.size
          · go_wp2_with (go_at_call 63; refine (begins_any _ _).mono ?_; rintro e w' ⟨rfl, rfl⟩)
            all_goals first
              | (go_round
                 case rel => exact ⟨k + 1, by omega, by go_num, fun j hj hjk => by
                   rcases Nat.lt_or_ge j k with h | h
                   · exact Hall.out j hj h
                   · obtain rfl : j = k := by omega
                     simp [nameB]; simp_all⟩
                 case measure => simp [intOf]; omega)
              | (go_ret
                 exact ⟨ret_bool (named_no hlt (by simp [nameB]; simp_all; try omega)).symm, rfl⟩)
          · go_wp2
            go_ret
            exact ⟨ret_bool (named_yes h2 h40 Hb.out (fun j hj => Hall.out j hj (by omega))).symm, rfl⟩
      · have hN : named s.toList = false := by simp only [named, getD_toList s 0 h2, hb]; simp
        have HN := hid hN
        clear hN
        have hb' : beginB s[0].toNat = false := by simpa using hb
        clear hb
        go_enter Try.func57, Try.ntmps57
        go_wp2_with (go_at_call 63; refine (begins_any _ _).mono ?_; rintro e w' ⟨rfl, rfl⟩)
        go_ret
        exact ⟨ret_bool HN.out.symm, rfl⟩
    · have hN : named s.toList = false := by simp [named]; omega
      have HN := hid hN
      clear hN hsz
      go_enter Try.func57, Try.ntmps57
      go_wp2
      go_ret
      exact ⟨ret_bool HN.out.symm, rfl⟩

end Go.Proofs.Ytpjpndbagkcgcaa
