/- Lines of a text: contracts of source.Line and recompileref01.Line. -/
import Derived.Test.YtpjpndbagkcgcaaA0
import Derived.Lib.Bytealg
import Derived.Lib.LastIndexByte
import Derived.Shelf.Strings.LastIndex
set_option linter.unusedVariables false
set_option linter.unusedSimpArgs false
namespace Go.Proofs.Ytpjpndbagkcgcaa
open Go.RowKit

/-- the column behind a text that is given backwards -/
def colR : List UInt8 → Nat
  | [] => 1
  | c :: r => if c = 10 then 1 else colR r + 1
def lineL (p : List UInt8) : Nat := p.count 10 + 1
def colL (p : List UInt8) : Nat := colR p.reverse

theorem colL_snoc (p : List UInt8) (c : UInt8) : colL (p ++ [c]) = if c = 10 then 1 else colL p + 1 := by
  simp [colL, colR]
theorem lineL_snoc (p : List UInt8) (c : UInt8) : lineL (p ++ [c]) = if c = 10 then lineL p + 1 else lineL p := by
  unfold lineL
  rw [List.count_append]
  by_cases h : c = 10 <;> simp [h, List.count_cons] <;> omega
theorem colL_le (p : List UInt8) : colL p ≤ p.length + 1 := by
  unfold colL
  rw [← List.length_reverse]
  generalize p.reverse = q
  induction q with
  | nil => simp [colR]
  | cons c r ih => simp only [colR, List.length_cons]; split <;> omega
theorem lineL_le (p : List UInt8) : lineL p ≤ p.length + 1 := by
  unfold lineL; have := List.count_le_length (a := (10 : UInt8)) (l := p); omega

theorem byte10 (c : UInt8) : ((c.toNat : Int) == 10) = decide (c = 10) := by
  rw [Bool.eq_iff_iff, beq_iff_eq, decide_eq_true_eq]
  constructor
  · intro h; apply UInt8.toNat_inj.1; have : c.toNat = 10 := by omega
    rw [this]; rfl
  · intro h; subst h; rfl

set_option maxHeartbeats 400000 in
theorem refline_any (s : ByteArray) (n : Int) (w : World) (hs : s.size ≤ maxLen - 1) :
    Calls Try.prog 11 #[.string s, .int .i64 n] w fun e w' =>
      e = .returned (.tuple #[.int .i64 (lineL (s.toList.take n.toNat)), .int .i64 (colL (s.toList.take n.toNat))]) ∧ w = w' := by
  unfold maxLen at hs
  go_enter Try.func11, Try.ntmps11
  go_wp2
  go_loop [6, 7, 8] (fun a b i => ∃ k : Nat, k ≤ s.size ∧ (k : Int) ≤ max n 0 ∧ i = .int .i64 k ∧ a = .int .i64 (lineL (s.toList.take k)) ∧ b = .int .i64 (colL (s.toList.take k))) (fun _ _ i => s.size - (intOf i).toNat)
  case atStart => exact ⟨0, Nat.zero_le _, by omega, rfl, rfl, rfl⟩
  case round =>
    obtain ⟨k, hk, hkn, rfl, rfl, rfl⟩ := hrel
    have h1 := lineL_le (s.toList.take k)
    have h2 := colL_le (s.toList.take k)
    have h3 : (s.toList.take k).length ≤ k := List.length_take_le _ _
    by_cases hlt : k < s.size
    · by_cases hn : (k : Int) < n
      · have HS := hid (take_snoc s k hlt)
        by_cases hc : s[k] = 10
        · have hb : ((s[k].toNat : Int) == 10) = true := by rw [byte10]; simpa using hc
          have Hc := hid hc
          clear hc
          go_wp2
          go_round
          case rel => exact ⟨k + 1, by omega, by omega, by go_num, by rw [HS.out, lineL_snoc, if_pos Hc.out]; go_num, by rw [HS.out, colL_snoc, if_pos Hc.out]; rfl⟩
          case measure => simp [intOf]; omega
        · have hb : ((s[k].toNat : Int) == 10) = false := by rw [byte10]; simpa using hc
          have Hc := hid hc
          clear hc
          go_wp2
          go_round
          case rel => exact ⟨k + 1, by omega, by omega, by go_num, by rw [HS.out, lineL_snoc, if_neg Hc.out], by rw [HS.out, colL_snoc, if_neg Hc.out]; go_num⟩
          case measure => simp [intOf]; omega
      · go_wp2
        go_ret2
        have e : n.toNat = k := by omega
        rw [e]; exact ⟨rfl, rfl⟩
    · go_wp2
      go_ret2
      have e : s.toList.take n.toNat = s.toList.take k := by
        have := size_eq s
        rw [List.take_of_length_le (by omega), List.take_of_length_le (by omega)]
      rw [e]; exact ⟨rfl, rfl⟩

theorem count_one (s : ByteArray) (c : UInt8) (w : World) :
    Calls Try.prog 27 #[.string s, .string ⟨#[c]⟩] w fun e w' => e = .returned (.int .i64 (s.toList.count c : Nat)) ∧ w = w' := by
  go_enter Try.func27, Try.ntmps27
  go_wp2
  rw [run_callFunc_extern Try.func47 (by kernel_rfl) (by kernel_rfl) (by kernel_rfl) (e := Extern.BytealgCount.count) (by kernel_rfl), Lib.run_countString]
  simp only [Result.andThen]
  rw [Oper.upon_value]
  go_wp2
  go_ret
  refine ⟨?_, rfl⟩
  rw [ByteArray.toList_eq]; rfl

theorem last10 (s : ByteArray) (w : World) (hs : s.size ≤ maxLen) :
    Calls Try.prog 49 #[.string s, .int .u8 10] w fun e w' => e = .returned (.int .i64 ((s.size : Int) - colL s.toList)) ∧ w = w' := by
  unfold maxLen at hs
  go_enter Try.func49, Try.ntmps49
  go_wp2
  go_loop [5] (fun vi => ∃ k : Nat, k ≤ s.size ∧ vi = .int .i64 ((k : Int) - 1) ∧ Hid ((s.size : Int) - colL s.toList = k - colL (s.toList.take k))) (fun vi => ((RowKit.intOf vi) + 1).toNat)
  case atStart => exact ⟨s.size, Nat.le_refl _, by first | rfl | go_num | (congr 1; omega), by unfold Hid; rw [List.take_of_length_le (by rw [size_eq]; exact Nat.le_refl _)]⟩
  case round =>
    obtain ⟨k, hk, rfl, hh⟩ := hrel
    by_cases k0 : k = 0
    · subst k0
      go_wp2
      go_ret
      rw [hh.out]
      exact ⟨ret_int (by simp [colL, colR]), rfl⟩
    · have HS := hid (take_snoc s (k - 1) (by omega))
      rw [show k - 1 + 1 = k by omega] at HS
      by_cases hc : s[k - 1] = 10
      · have hb : ((s[k - 1].toNat : Int) == 10) = true := by rw [byte10]; simpa using hc
        have Hc := hid hc
        clear hc
        go_wp2
        go_ret
        rw [hh.out, HS.out, colL_snoc, if_pos Hc.out]
        exact ⟨rfl, rfl⟩
      · have hb : ((s[k - 1].toNat : Int) == 10) = false := by rw [byte10]; simpa using hc
        have Hc := hid hc
        clear hc
        go_wp2
        refine ⟨⟨k - 1, by omega, by congr 1; omega, ?_⟩, ?_⟩
        · unfold Hid
          rw [hh.out, HS.out, colL_snoc, if_neg Hc.out]; omega
        · simp [RowKit.intOf]; omega

theorem lastix10 (s : ByteArray) (w : World) (hs : s.size ≤ maxLen) :
    Calls Try.prog 28 #[.string s, .int .u8 10] w fun e w' => e = .returned (.int .i64 ((s.size : Int) - colL s.toList)) ∧ w = w' := by
  go_enter Try.func28, Try.ntmps28
  go_wp2_with (go_at_call 49; refine (last10 _ _ hs).mono ?_; rintro e w' ⟨rfl, rfl⟩)
  go_ret
  exact ⟨rfl, rfl⟩


set_option maxHeartbeats 400000 in
theorem line_any (s : ByteArray) (n : Int) (w : World) (hs : s.size ≤ maxLen - 1) :
    Calls Try.prog 10 #[.string s, .int .i64 n] w fun e w' =>
      e = .returned (.tuple #[.int .i64 (lineL (s.toList.take n.toNat)), .int .i64 (colL (s.toList.take n.toNat))]) ∧ w = w' := by
  unfold maxLen at hs
  go_enter Try.func10, Try.ntmps10
  have hm : (s.extract 0 (min (max n 0) ↑s.size).toNat).size ≤ s.size := by rw [ByteArray.size_extract]; omega
  have hl : (s.extract 0 (min (max n 0) ↑s.size).toNat).toList = s.toList.take n.toNat := by
    rw [extract_toList]
    have := size_eq s
    rcases Nat.le_total n.toNat s.size with h | h
    · rw [show (min (max n 0) ↑s.size).toNat = n.toNat by omega]; rfl
    · rw [show (min (max n 0) ↑s.size).toNat = s.size by omega, List.take_of_length_le (by omega), List.take_of_length_le (by omega)]; rfl
  have Hl := hid hl
  clear hl
  go_wp2_with fail
  generalize s.extract 0 (min (max n 0) ↑s.size).toNat = x at *
  have h1 := lineL_le x.toList
  have h2 := colL_le x.toList
  have h3 := size_eq x
  have h4 : (x.toList.count 10 : Nat) + 1 = lineL x.toList := rfl
  have H4 := hid h4
  have h5 : colL x.toList ≤ x.size + 1 := by omega
  have h6 : x.toList.count 10 ≤ x.size := by omega
  clear h1 h2 h3 h4
  go_wp2_with (first
    | (go_at_call 27; refine (count_one _ _ _).mono ?_; rintro e w' ⟨rfl, rfl⟩)
    | (go_at_call 28; refine (lastix10 _ _ (by unfold maxLen; omega)).mono ?_; rintro e w' ⟨rfl, rfl⟩))
  go_ret2
  rw [← Hl.out, ← H4.out]
  exact ⟨ret2 (int_eq (by omega)) (int_eq (by omega)), rfl⟩
end Go.Proofs.Ytpjpndbagkcgcaa
