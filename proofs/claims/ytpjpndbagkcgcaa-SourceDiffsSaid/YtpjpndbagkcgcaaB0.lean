/- The reference's Named, Check, Find, Same. -/
import Derived.Test.YtpjpndbagkcgcaaA5
set_option linter.unusedVariables false
set_option linter.unusedSimpArgs false
namespace Go.Proofs.Ytpjpndbagkcgcaa
open Go.RowKit

def digB (c : Int) : Bool := decide (48 ≤ c) && decide (c ≤ 57)
theorem begin_dig (c : Int) : beginB c = (nameB c && !digB c) := by
  rw [Bool.eq_iff_iff]; simp [beginB, nameB, digB]; omega
theorem named_sz {s : ByteArray} (h : s.size = 0 ∨ 40 < s.size) : named s.toList = false := by
  rw [size_eq] at h
  unfold named
  rcases h with h | h
  · rw [h]; rfl
  · have : decide (s.toList.length ≤ 40) = false := by simp; omega
    rw [this]; simp
theorem named_alt {s : ByteArray} (h0 : 0 < s.size) (h40 : s.size ≤ 40) (hd : digB (s[0].toNat) = false) (h : ∀ j, (hj : j < s.size) → nameB (s[j].toNat) = true) : named s.toList = true :=
  named_yes h0 h40 (by rw [begin_dig, h 0 h0, hd]; rfl) h

set_option maxHeartbeats 2000000 in
theorem refnamed_any (s : ByteArray) (w : World) (hs : s.size ≤ maxLen) :
    Calls Try.prog 55 #[.string s] w fun e w' => e = .returned (.bool (named s.toList)) ∧ w = w' := by
  unfold maxLen at hs
  have hsz := size_eq s
  by_cases h0 : s.size = 0
  · have hN : named s.toList = false := by simp [named, ← size_eq, h0]
    have HN := hid hN
    clear hN hsz
    go_enter Try.func55, Try.ntmps55
    go_wp2
    go_ret
    exact ⟨ret_bool HN.out.symm, rfl⟩
  · have h2 : 0 < s.size := by omega
    by_cases h40 : s.size ≤ 40
    · have Hsz := hid hsz
      have g0 : ((s.size : Int) == 0) = false := by rw [beq_eq_false_iff_ne]; omega
      have g1 : decide ((40 : Int) < (s.size : Int)) = false := by simp; omega
      clear hsz
      cases hd : digB (s[0].toNat)
      · have Hd := hid hd
        have hdd : (s[0].toNat : Int) < 48 ∨ (48 ≤ (s[0].toNat : Int) ∧ 57 < (s[0].toNat : Int)) := by
          simp [digB] at hd; omega
        clear hd h0
        rcases hdd with hdd | ⟨hdd1, hdd⟩
        all_goals
          go_enter Try.func55, Try.ntmps55
          go_wp2
          go_loop [3] (fun i => ∃ k : Nat, k ≤ s.size ∧ i = .int .i64 k ∧ Hid (∀ j, (hj : j < s.size) → j < k → nameB (s[j].toNat) = true)) (fun i => s.size - (intOf i).toNat)
          case atStart => exact ⟨0, Nat.zero_le _, rfl, fun j hj h => absurd h (by omega)⟩
          case round =>
            obtain ⟨k, hk, rfl, hall⟩ := hrel
            by_cases hlt : k < s.size
            · go_wp2
              all_goals first
                | (go_round
                   case rel => exact ⟨k + 1, by omega, by go_num, fun j hj hjk => by
                     rcases Nat.lt_or_ge j k with h | h
                     · exact hall.out j hj h
                     · obtain rfl : j = k := by omega
                       simp [nameB, beginB]; simp only [Bool.not_eq_true', Bool.not_eq_false', Bool.not_eq_eq_eq_not, Bool.not_false, Bool.not_true, Bool.or_eq_false_iff, Bool.or_eq_true, decide_eq_true_eq, decide_eq_false_iff_not, beq_iff_eq, beq_eq_false_iff_ne, ne_eq] at *; omega⟩
                   case measure => simp [intOf]; omega)
                | (go_ret
                   exact ⟨ret_bool (named_no hlt (by simp [nameB, beginB]; simp only [Bool.not_eq_true', Bool.not_eq_false', Bool.not_eq_eq_eq_not, Bool.not_false, Bool.not_true, Bool.or_eq_false_iff, Bool.or_eq_true, decide_eq_true_eq, decide_eq_false_iff_not, beq_iff_eq, beq_eq_false_iff_ne, ne_eq] at *; omega)).symm, rfl⟩)
            · go_wp2
              go_ret
              exact ⟨ret_bool (named_alt h2 h40 Hd.out (fun j hj => hall.out j hj (by omega))).symm, rfl⟩
      · have hN : named s.toList = false := by
          have : beginB (s[0].toNat) = false := by rw [begin_dig, hd]; simp
          simp only [named, getD_toList s 0 h2, this]; simp
        have HN := hid hN
        have hdd : (48 : Int) ≤ (s[0].toNat : Int) ∧ (s[0].toNat : Int) ≤ 57 := by simpa [digB] using hd
        obtain ⟨hd1, hd2⟩ := hdd
        clear hN hd h0
        go_enter Try.func55, Try.ntmps55
        go_wp2
        go_ret
        exact ⟨ret_bool HN.out.symm, rfl⟩
    · have hN : named s.toList = false := by simp [named, ← size_eq, h40]
      have HN := hid hN
      have g0 : ((s.size : Int) == 0) = false := by rw [beq_eq_false_iff_ne]; omega
      have g1 : decide ((40 : Int) < (s.size : Int)) = true := by simp; omega
      clear hN hsz
      go_enter Try.func55, Try.ntmps55
      go_wp2
      go_ret
      exact ⟨ret_bool HN.out.symm, rfl⟩
end Go.Proofs.Ytpjpndbagkcgcaa
