/- Dice that choose strings; digits; letters. -/
import Derived.Test.YtpjpndbagkcgcaaM0
set_option linter.unusedVariables false
set_option linter.unusedSimpArgs false
namespace Go.Proofs.Ytpjpndbagkcgcaa
open Go.RowKit

/-- a call that chooses one of some strings -/
def PostO (xs : List ByteArray) (w : World) (d : Nat) (e : Ending) (w' : World) : Prop := ∃ s : ByteArray, s ∈ xs ∧ e = .returned (.string s) ∧ DiceOk w' d ∧ Kp [d] w w'

set_option maxHeartbeats 1000000 in
theorem of_any (w : World) (d : Nat) (v : Value) (xs : List ByteArray) (h : DiceOk w d) (hv : Rs [d] w v xs) (hne : 0 < xs.length) :
    Calls Try.prog 25 #[.pointer (some ⟨d, 0, none⟩), v] w (PostO xs w d) := by
  have hv2 := hv
  obtain ⟨A, c, rfl, hnc, hc, hcell⟩ := hv
  unfold maxLen at hc
  rcases hcell with h0 | ⟨b, off, rfl, hb, hbl, hcell⟩
  · rw [h0] at hne; simp at hne
  have Hv2 := hid hv2
  clear hv2
  go_enter Try.func25, Try.ntmps25
  go_upto_region 1 with fail
  go_wp2_with fail
  refine (next_any _ d xs.length h (by omega) (by omega)).mono ?_
  rintro e w1 ⟨r, hr, rfl, hD, hK⟩
  obtain ⟨s, hs⟩ : ∃ s, xs[r]? = some s := ⟨_, List.getElem?_eq_getElem hr⟩
  have hs' := hcell r s hs
  have c1 : w1.cell? ⟨b, off + r, none⟩ = some (.string s) := (hK.cell hbl hb).trans hs'
  have Hs := hid hs
  clear hs hs'
  go_wp2_with fail
  go_ret
  exact ⟨s, List.mem_of_getElem? Hs.out, rfl, hD, hK⟩

def PostB (w : World) (d : Nat) (e : Ending) (w' : World) : Prop := ∃ b : Bool, e = .returned (.bool b) ∧ DiceOk w' d ∧ Kp [d] w w'
theorem one_any (w : World) (d n : Nat) (h : DiceOk w d) (hn : 1 ≤ n) (hn2 : n ≤ 9223372036854775807) :
    Calls Try.prog 51 #[.pointer (some ⟨d, 0, none⟩), .int .i64 n] w (PostB w d) := by
  have g1 : IntKind.i64.wrap ((n : Int) - 1) = (n : Int) - 1 := IntWalk.i64_in _ (by omega)
  go_enter Try.func51, Try.ntmps51
  go_wp2_with fail
  refine (next_any _ d n h hn hn2).mono ?_
  rintro e w1 ⟨r, hr, rfl, hD, hK⟩
  go_wp2_with fail
  go_ret
  exact ⟨_, rfl, hD, hK⟩

/-- a call that returns a short string, and makes memory of its own alone -/
def PostD (m : Nat) (w : World) (e : Ending) (w' : World) : Prop := ∃ s : ByteArray, s.size ≤ m ∧ e = .returned (.string s) ∧ Below w.heap.size w w'

theorem one_byte (w : World) (x : Int) : ∃ s : ByteArray, s.size = 1 ∧
    (convert 55 9 (.slice (some ⟨w.heap.size, 0, none⟩) 1 1)).run Try.prog (w.alloc (.cells #[.int .u8 x] 5)) = .ok (.string s) (w.alloc (.cells #[.int .u8 x] 5)) := by
  refine ⟨_, ?_, run_convert_bytes_arg (P := Try.prog) (w.alloc (.cells #[.int .u8 x] 5)) 55 5 Try.underlying55 Try.underlying5 w.heap.size 0 1 1 [x] rfl (fun i hi => ?_) 9 Try.underlying9⟩
  · rfl
  · obtain rfl : i = 0 := by omega
    rw [cell_of_row _ _ _ _ _ _ (heap_alloc_new w _)]; rfl

theorem digits_small (n : Nat) (w : World) (hn : n < 10) : Calls Try.prog 34 #[.int .i64 n] w (PostD 1 w) := by
  obtain ⟨s, hs, hcv⟩ := one_byte w (48 + n)
  go_enter Try.func34, Try.ntmps34
  go_wp2_with fail
  go_ret
  exact ⟨s, by omega, rfl, (Below.refl _ _).alloc (Nat.le_refl _) _⟩

theorem PostD.le {m n : Nat} {w : World} {e : Ending} {w' : World} (h : PostD m w e w') (hmn : m ≤ n) : PostD n w e w' := by
  obtain ⟨s, h1, h2, h3⟩ := h; exact ⟨s, by omega, h2, h3⟩

set_option maxHeartbeats 1000000 in
theorem digits_any : ∀ (m n : Nat) (w : World), m ≤ 30 → n < 10 ^ (m + 1) → n ≤ 9223372036854775807 → Calls Try.prog 34 #[.int .i64 n] w (PostD (m + 1) w) := by
  intro m
  induction m with
  | zero =>
    intro n w hm hn hn2
    exact digits_small n w (by simpa using hn)
  | succ m ih =>
    intro n w hm hn hn2
    by_cases h10 : n < 10
    · exact (digits_small n w h10).mono fun e w' h => h.le (by omega)
    · have q1 : (n : Int).tdiv 10 = ((n / 10 : Nat) : Int) := Int.ofNat_tdiv n 10
      have q2 : (n : Int).tmod 10 = ((n % 10 : Nat) : Int) := Int.ofNat_tmod n 10
      have q3 : n / 10 < 10 ^ (m + 1) := by rw [Nat.div_lt_iff_lt_mul (by omega)]; rw [Nat.pow_succ] at hn; exact hn
      have Q1 := hid q1
      have Q2 := hid q2
      have Q3 := hid q3
      clear q1 q2 q3 hn
      go_enter Try.func34, Try.ntmps34
      go_wp2_with fail
      first | rw [Q1.out] | skip
      refine (ih (n / 10) _ (by omega) Q3.out (by omega)).mono ?_
      rintro e w1 ⟨s1, h1, rfl, hb1⟩
      go_wp2_with fail
      first | rw [Q2.out] | skip
      refine (digits_small (n % 10) _ (by omega)).mono ?_
      rintro e w2 ⟨s2, h2, rfl, hb2⟩
      go_wp2_with fail
      go_ret
      exact ⟨_, by rw [ByteArray.size_append]; omega, rfl, below_step hb1 hb2⟩

/-- the name of a module -/
def letterS (i : Nat) : ByteArray := strOfNums [97 + (i : Int)]
theorem letter_any (i : Nat) (w : World) (hi : i < 26) :
    Calls Try.prog 29 #[.int .i64 i] w fun e w' => e = .returned (.string (letterS i)) ∧ Below w.heap.size w w' := by
  have hcv := run_convert_bytes_arg (P := Try.prog) (w.alloc (.cells #[.int .u8 (97 + (i : Int))] 5)) 55 5 Try.underlying55 Try.underlying5 w.heap.size 0 1 1 [97 + (i : Int)] rfl (fun j hj => by
    obtain rfl : j = 0 := by omega
    rw [cell_of_row _ _ _ _ _ _ (heap_alloc_new w _)]; rfl) 9 Try.underlying9
  go_enter Try.func29, Try.ntmps29
  go_wp2_with fail
  go_ret
  exact ⟨rfl, (Below.refl _ _).alloc (Nat.le_refl _) _⟩

end Go.Proofs.Ytpjpndbagkcgcaa
