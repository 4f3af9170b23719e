/- The sanity check of the statements of layer 1. -/
import Derived.Test.YtpjpndbagkcgcaaA2
import Derived.Test.YtpjpndbagkcgcaaA8
set_option linter.unusedVariables false
set_option linter.unusedSimpArgs false
namespace Go.Proofs.Ytpjpndbagkcgcaa
open Go.RowKit

theorem lit_toList (l : List UInt8) : (ByteArray.mk l.toArray).toList = l := ByteArray.toList_mk l

set_option maxHeartbeats 2000000 in
theorem awake_any (w : World) : Calls Try.prog 9 #[] w fun e w' => e = .returned (.bool true) ∧ Below w.heap.size w w' := by
  have d1 : cp (ByteArray.mk #[97, 98, 99, 100]).toList (ByteArray.mk #[97, 120, 100]).toList = 1 := by rw [lit_toList [97, 98, 99, 100], lit_toList [97, 120, 100]]; decide
  have d2 : cs (ByteArray.mk #[97, 98, 99, 100]).toList (ByteArray.mk #[97, 120, 100]).toList 1 = 1 := by rw [lit_toList [97, 98, 99, 100], lit_toList [97, 120, 100]]; decide
  have d3 : lineL ((ByteArray.mk #[97, 10, 98, 99]).toList.take (3 : Int).toNat) = 2 := by rw [lit_toList [97, 10, 98, 99]]; decide
  have d4 : colL ((ByteArray.mk #[97, 10, 98, 99]).toList.take (3 : Int).toNat) = 2 := by rw [lit_toList [97, 10, 98, 99]]; decide
  have d5 : putP [] (⟨#[109]⟩, ⟨#[120]⟩) = ([(⟨#[109]⟩, ⟨#[120]⟩)], 0) := by
    have h : okSrc (⟨#[109]⟩, ⟨#[120]⟩) = true := by unfold okSrc; rw [lit_toList [109]]; decide
    simp [putP, checkL, h, fIdx, insAt]
  have h1 := diff_any ⟨#[97, 98, 99, 100]⟩ ⟨#[97, 120, 100]⟩ w (by decide) (by decide)
  rw [d1, d2] at h1
  have H1 := hid h1
  have H3 := hid d3
  have H4 := hid d4
  have H5 := hid d5
  clear h1 d1 d2 d3 d4 d5
  go_enter Try.func9, Try.ntmps9
  go_wp2_with fail
  refine H1.out.mono ?_
  rintro e w1 ⟨u, rfl, hu, hd1⟩
  rw [lit_toList [97, 120, 100]] at hu
  have hu' : u.toList = [120] := hu
  have hb1 := hd1.below w.heap.size
  clear hu
  go_wp2_with fail
  refine (line_any _ 3 _ (by decide)).mono ?_
  rintro e w2 ⟨rfl, rfl⟩
  rw [H3.out, H4.out]
  go_wp2_with fail
  refine (put_any [] (⟨#[109]⟩, ⟨#[120]⟩) _ _ (Sl.nil_ 0 none (Nat.zero_le _)) (by intro x hx; simp at hx) (by simp) (by decide) (by decide)).mono ?_
  rintro e w3 ⟨v', rfl, hsl, hb3⟩
  rw [H5.out] at hsl ⊢
  obtain ⟨A, c, rfl, hnc, hcap, hcell⟩ := hsl
  clear hcell
  go_wp2_with fail
  go_ret
  exact ⟨rfl, below_step hb1 hb3⟩

set_option maxHeartbeats 2000000 in
set_option maxRecDepth 100000 in
theorem lines_any (s : ByteArray) (n : Int) (w : World) (hs : s.size ≤ maxLen) (h1 : -9223372036854775808 ≤ n) (h2 : n ≤ 9223372036854775807) :
    Calls Try.prog 3 #[.string s, .int .i64 n] w fun e w' => e = .returned (.bool true) ∧ Below w.heap.size w w' := by
  unfold maxLen at hs
  by_cases h : (3000 : Int) < (s.size : Int)
  · go_enter Try.func3, Try.ntmps3
    go_wp2_with fail
    refine (awake_any _).mono ?_
    rintro e w1 ⟨rfl, hb1⟩
    go_wp2_with fail
    go_ret
    exact ⟨rfl, hb1⟩
  · have hm : s.size ≤ maxLen - 1 := by unfold maxLen; omega
    have hc : (s.size : Int) + 2 ≤ 9223372036854775807 := by omega
    go_enter Try.func3, Try.ntmps3
    go_wp2_with (first
      | (go_at_call 10; refine (line_any _ _ _ hm).mono ?_; rintro e w1 ⟨rfl, rfl⟩)
      | (go_at_call 11; refine (refline_any _ _ _ hm).mono ?_; rintro e w1 ⟨rfl, rfl⟩)
      | (go_at_call 12; refine (mod_any _ _ _ h1 h2 hc).mono ?_; rintro e w1 ⟨rfl, rfl⟩)
      | (go_at_call 9; refine (awake_any _).mono ?_; rintro e w1 ⟨rfl, hb1⟩))
    go_ret
    exact ⟨rfl, hb1⟩

end Go.Proofs.Ytpjpndbagkcgcaa
