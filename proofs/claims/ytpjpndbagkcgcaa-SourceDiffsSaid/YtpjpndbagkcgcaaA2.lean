/- Differences of texts: contracts of source.Diff and recompileref01.Diff. -/
import Derived.Test.YtpjpndbagkcgcaaA1
set_option linter.unusedVariables false
set_option linter.unusedSimpArgs false
namespace Go.Proofs.Ytpjpndbagkcgcaa
open Go.RowKit

/-- how many bytes two texts have in common at their beginning -/
def cp : List UInt8 → List UInt8 → Nat
  | a :: x, b :: y => if a = b then cp x y + 1 else 0
  | _, _ => 0
/-- how many bytes two texts have in common at their end, behind the first n -/
def cs (a b : List UInt8) (n : Nat) : Nat := cp (a.drop n).reverse (b.drop n).reverse
theorem cp_le_left : ∀ (a b : List UInt8), cp a b ≤ a.length
  | [], _ => by simp [cp]
  | _ :: _, [] => by simp [cp]
  | a :: x, b :: y => by have := cp_le_left x y; simp only [cp, List.length_cons]; split <;> omega
theorem cp_le_right : ∀ (a b : List UInt8), cp a b ≤ b.length
  | [], _ => by simp [cp]
  | _ :: _, [] => by simp [cp]
  | a :: x, b :: y => by have := cp_le_right x y; simp only [cp, List.length_cons]; split <;> omega
theorem cp_eq : ∀ (a b : List UInt8) (n : Nat), n ≤ a.length → n ≤ b.length → (∀ j, j < n → a.getD j 0 = b.getD j 0) → (n = a.length ∨ n = b.length ∨ a.getD n 0 ≠ b.getD n 0) → cp a b = n
  | [], b, n, h1, _, _, _ => by simp [cp]; simp at h1; omega
  | _ :: _, [], n, _, h2, _, _ => by simp [cp]; simp at h2; omega
  | a :: x, b :: y, 0, _, _, _, h4 => by
    simp only [List.length_cons, List.getD_cons_zero] at h4
    have : a ≠ b := by
      rcases h4 with h | h | h
      · omega
      · omega
      · exact h
    simp [cp, this]
  | a :: x, b :: y, n + 1, h1, h2, h3, h4 => by
    have h0 := h3 0 (by omega)
    simp only [List.getD_cons_zero] at h0
    have := cp_eq x y n (by simpa using h1) (by simpa using h2) (fun j hj => by simpa using h3 (j + 1) (by omega)) (by simpa using h4)
    simp [cp, h0, this]
theorem getD_rev_drop (a : List UInt8) (n j : Nat) (h : j < a.length - n) : (a.drop n).reverse.getD j 0 = a.getD (a.length - 1 - j) 0 := by
  have h1 : j < (a.drop n).length := by rw [List.length_drop]; exact h
  rw [List.getD_eq_getElem?_getD, List.getElem?_reverse h1, List.getElem?_drop, List.length_drop, List.getD_eq_getElem?_getD]
  congr 2; omega
theorem cs_eq (a b : List UInt8) (n k : Nat) (h1 : k ≤ a.length - n) (h2 : k ≤ b.length - n) (h3 : ∀ j, j < k → a.getD (a.length - 1 - j) 0 = b.getD (b.length - 1 - j) 0)
    (h4 : k = a.length - n ∨ k = b.length - n ∨ a.getD (a.length - 1 - k) 0 ≠ b.getD (b.length - 1 - k) 0) : cs a b n = k := by
  unfold cs
  apply cp_eq
  · simpa using h1
  · simpa using h2
  · intro j hj; rw [getD_rev_drop _ _ _ (by omega), getD_rev_drop _ _ _ (by omega)]; exact h3 j hj
  · by_cases e1 : k = a.length - n
    · left; simpa using e1
    · by_cases e2 : k = b.length - n
      · right; left; simpa using e2
      · right; right; rw [getD_rev_drop _ _ _ (by omega), getD_rev_drop _ _ _ (by omega)]
        rcases h4 with h | h | h
        · exact absurd h e1
        · exact absurd h e2
        · exact h

theorem getD_byte (s : ByteArray) (k : Nat) (h : k < s.size) : s.toList.getD k 0 = s[k] := get_eq s k h


theorem cp_ext {s t : ByteArray} {k : Nat} (h : Hid (∀ j, j < k → s.toList.getD j 0 = t.toList.getD j 0)) (h1 : k < s.size) (h2 : k < t.size) (h3 : s[k] = t[k]) :
    Hid (∀ j, j < k + 1 → s.toList.getD j 0 = t.toList.getD j 0) := by
  intro j hj
  rcases Nat.lt_or_ge j k with h4 | h4
  · exact h.out j h4
  · obtain rfl : j = k := by omega
    rw [get_eq s j h1, get_eq t j h2, h3]
theorem cp_stop {s t : ByteArray} {k : Nat} (h : Hid (∀ j, j < k → s.toList.getD j 0 = t.toList.getD j 0)) (h1 : k ≤ s.size) (h2 : k ≤ t.size)
    (h3 : k = s.size ∨ k = t.size ∨ ∃ (a : k < s.size) (b : k < t.size), s[k] ≠ t[k]) : cp s.toList t.toList = k := by
  have e1 := size_eq s
  have e2 := size_eq t
  refine cp_eq _ _ _ (by omega) (by omega) h.out ?_
  rcases h3 with h | h | ⟨a, b, h⟩
  · left; omega
  · right; left; omega
  · right; right; rw [get_eq s k a, get_eq t k b]; exact h
/-- the last k bytes behind the first n are alike -/
def Tail (s t : ByteArray) (k : Nat) : Prop := ∀ j, j < k → s.toList.getD (s.size - 1 - j) 0 = t.toList.getD (t.size - 1 - j) 0
theorem tail_ext {s t : ByteArray} {k : Nat} (h : Tail s t k) (h1 : k < s.size) (h2 : k < t.size) (h3 : s[s.size - 1 - k]'(by omega) = t[t.size - 1 - k]'(by omega)) : Tail s t (k + 1) := by
  intro j hj
  rcases Nat.lt_or_ge j k with h4 | h4
  · exact h j h4
  · obtain rfl : j = k := by omega
    rw [get_eq s _ (by omega), get_eq t _ (by omega), h3]
theorem tail_stop {s t : ByteArray} {n k : Nat} (h : Tail s t k) (h1 : k + n ≤ s.size) (h2 : k + n ≤ t.size)
    (h3 : k + n = s.size ∨ k + n = t.size ∨ ∃ (a : k < s.size) (b : k < t.size), s[s.size - 1 - k]'(by omega) ≠ t[t.size - 1 - k]'(by omega)) : cs s.toList t.toList n = k := by
  have e1 := size_eq s
  have e2 := size_eq t
  refine cs_eq _ _ _ _ (by omega) (by omega) (fun j hj => by rw [← e1, ← e2]; exact h j hj) ?_
  rcases h3 with h | h | ⟨a, b, h⟩
  · left; omega
  · right; left; omega
  · right; right; rw [← e1, ← e2, get_eq s _ (by omega), get_eq t _ (by omega)]; exact h

theorem tail_down {s t : ByteArray} {a b p : Nat} (h : Tail s t (s.size - a)) (e : b + s.size = a + t.size) (h1 : p < a) (h2 : p < b) {la : a - 1 < s.size} {lb : b - 1 < t.size} (h3 : s[a - 1] = t[b - 1]) : Tail s t (s.size - (a - 1)) := by
  rw [show s.size - (a - 1) = s.size - a + 1 by omega]
  refine tail_ext h (by omega) (by omega) ?_
  rw [← get_eq s _ (by omega), ← get_eq t _ (by omega)] at h3 ⊢
  rw [show s.size - 1 - (s.size - a) = a - 1 by omega, show t.size - 1 - (s.size - a) = b - 1 by omega, h3]
theorem tail_end {s t : ByteArray} {a b p : Nat} (h : Tail s t (s.size - a)) (e : b + s.size = a + t.size) (h1 : p ≤ a) (h2 : p ≤ b) (h5 : a ≤ s.size)
    (h3 : a = p ∨ b = p ∨ ∃ (la : a - 1 < s.size ∧ 0 < a) (lb : b - 1 < t.size ∧ 0 < b), s[a - 1]'la.1 ≠ t[b - 1]'lb.1) : Hid (cs s.toList t.toList p = s.size - a) := by
  refine tail_stop h (by omega) (by omega) ?_
  rcases h3 with h | h | ⟨la, lb, h⟩
  · left; omega
  · right; left; omega
  · right; right
    refine ⟨by omega, by omega, ?_⟩
    rw [← get_eq s _ (by omega), ← get_eq t _ (by omega)] at h ⊢
    rw [show s.size - 1 - (s.size - a) = a - 1 by omega, show t.size - 1 - (s.size - a) = b - 1 by omega]
    exact h

set_option maxHeartbeats 1000000 in
theorem diff_any (s t : ByteArray) (w : World) (hs : s.size ≤ maxLen) (ht : t.size ≤ maxLen) :
    Calls Try.prog 18 #[.string s, .string t] w fun e w' => ∃ u : ByteArray,
      e = .returned (.tuple #[.int .i64 (cp s.toList t.toList), .int .i64 (s.size - cp s.toList t.toList - cs s.toList t.toList (cp s.toList t.toList) : Nat), .string u]) ∧
        u.toList = (t.toList.take (t.size - cs s.toList t.toList (cp s.toList t.toList))).drop (cp s.toList t.toList) ∧ Dr w w' := by
  unfold maxLen at hs ht
  go_enter Try.func18, Try.ntmps18
  go_upto_block 0 with fail
  go_cut [7] (fun i wr => Dr w wr ∧ i = .int .i64 (cp s.toList t.toList : Nat))
  case first =>
    go_wp2_with fail
    go_loopw [7] (fun i wr => Dr w wr ∧ ∃ k : Nat, k ≤ s.size ∧ k ≤ t.size ∧ i = .int .i64 k ∧ Hid (∀ j, j < k → s.toList.getD j 0 = t.toList.getD j 0)) (fun i _ => s.size - (intOf i).toNat)
    case atStart => exact ⟨Dr.refl _, 0, Nat.zero_le _, Nat.zero_le _, rfl, fun j h => absurd h (by omega)⟩
    case round =>
      obtain ⟨hd, k, hk1, hk2, rfl, H⟩ := hrel
      by_cases h1 : k < s.size
      · by_cases h2 : k < t.size
        · by_cases h3 : s[k] = t[k]
          · have hb := toNat_eq h3
            have H3 := hid h3
            clear h3
            go_wp2
            go_quiet (fail)
            go_wp2
            go_roundw
            case rel => exact ⟨hd.next _, k + 1, by omega, by omega, by go_num, cp_ext H h1 h2 H3.out⟩
            case measure => simp [intOf]; omega
          · have hb := toNat_ne h3
            have H3 := hid h3
            clear h3
            go_wp2
            go_quiet (fail)
            go_wp2
            go_meet
            exact ⟨hd.next _, int_eq (by rw [cp_stop H hk1 hk2 (.inr (.inr ⟨h1, h2, H3.out⟩))])⟩
        · go_wp2
          go_quiet (fail)
          go_wp2
          go_meet
          exact ⟨hd.next _, int_eq (by rw [cp_stop H hk1 hk2 (.inr (.inl (by omega)))])⟩
      · go_wp2
        go_quiet (fail)
        go_wp2
        go_meet
        exact ⟨hd.next _, int_eq (by rw [cp_stop H hk1 hk2 (.inl (by omega))])⟩
  case rest =>
    obtain ⟨hd0, rfl⟩ := hcut
    rename_i w0
    have g1 : cp s.toList t.toList ≤ s.size := by rw [size_eq]; exact cp_le_left _ _
    have g2 : cp s.toList t.toList ≤ t.size := by rw [size_eq]; exact cp_le_right _ _
    generalize hp : cp s.toList t.toList = p at *
    have Hp := hid hp
    clear hp
    go_upto_block 2 with fail
    go_cut [8, 9] (fun i j wr => Dr w wr ∧ ∃ a b : Nat, p ≤ a ∧ p ≤ b ∧ a ≤ s.size ∧ b + s.size = a + t.size ∧ i = .int .i64 a ∧ j = .int .i64 b ∧ Hid (cs s.toList t.toList p = s.size - a))
    case first =>
      go_wp2_with fail
      go_loopw [8, 9] (fun i j wr => Dr w wr ∧ ∃ a b : Nat, p ≤ a ∧ p ≤ b ∧ a ≤ s.size ∧ b + s.size = a + t.size ∧ i = .int .i64 a ∧ j = .int .i64 b ∧ Tail s t (s.size - a)) (fun i _ _ => (intOf i).toNat)
      case atStart => exact ⟨hd0, s.size, t.size, g1, g2, Nat.le_refl _, by omega, rfl, rfl, fun j h => absurd h (by omega)⟩
      case round =>
        obtain ⟨hd, a, b, hk1, hk2, hk3, hk4, rfl, rfl, H⟩ := hrel
        have Hk4 := hid hk4
        have hk5 : b ≤ t.size := by omega
        clear hk4
        by_cases h1 : p < a
        · by_cases h2 : p < b
          · have wa : IntKind.i64.wrap ((a : Int) - 1) = ((a - 1 : Nat) : Int) := by rw [IntWalk.i64_in _ (by omega)]; omega
            have wb : IntKind.i64.wrap ((b : Int) - 1) = ((b - 1 : Nat) : Int) := by rw [IntWalk.i64_in _ (by omega)]; omega
            have la : a - 1 < s.size := by omega
            have lb : b - 1 < t.size := by omega
            by_cases h3 : s[a - 1] = t[b - 1]
            · have hb := toNat_eq h3
              have H3 := hid h3
              clear h3
              go_wp2
              go_quiet (fail)
              go_wp2
              go_roundw
              case rel => exact ⟨hd.next _, a - 1, b - 1, by omega, by omega, by omega, by have := Hk4.out; omega, rfl, rfl, tail_down H Hk4.out h1 h2 H3.out⟩
              case measure => simp [intOf]; omega
            · have hb := toNat_ne h3
              have H3 := hid h3
              clear h3
              go_wp2
              go_quiet (fail)
              go_wp2
              go_meet
              exact ⟨hd.next _, a, b, hk1, hk2, hk3, Hk4.out, rfl, rfl, tail_end H Hk4.out hk1 hk2 hk3 (.inr (.inr ⟨by omega, by omega, H3.out⟩))⟩
          · go_wp2
            go_quiet (fail)
            go_wp2
            go_meet
            exact ⟨hd.next _, a, b, hk1, hk2, hk3, Hk4.out, rfl, rfl, tail_end H Hk4.out hk1 hk2 hk3 (.inr (.inl (by omega)))⟩
        · go_wp2
          go_quiet (fail)
          go_wp2
          go_meet
          exact ⟨hd.next _, a, b, hk1, hk2, hk3, Hk4.out, rfl, rfl, tail_end H Hk4.out hk1 hk2 hk3 (.inl (by omega))⟩
    case rest =>
      obtain ⟨hd1, a, b, hk1, hk2, hk3, hk4, rfl, rfl, H⟩ := hcut
      rename_i w1
      have Hk4 := hid hk4
      have hk5 : b ≤ t.size := by omega
      clear hk4
      go_wp2
      go_quiet (fail)
      go_wp2
      have e4 := Hk4.out
      go_ret3
      rw [Hp.out, H.out]
      refine ⟨_, ret3 rfl (int_eq ?_) rfl, ?_, hd1.next _⟩
      · omega
      · rw [extract_toList, show t.size - (s.size - a) = b by omega]

set_option maxHeartbeats 1000000 in
theorem refdiff_any (s t : ByteArray) (w : World) (hs : s.size ≤ maxLen) (ht : t.size ≤ maxLen) :
    Calls Try.prog 19 #[.string s, .string t] w fun e w' => ∃ u : ByteArray,
      e = .returned (.tuple #[.int .i64 (cp s.toList t.toList), .int .i64 (s.size - cp s.toList t.toList - cs s.toList t.toList (cp s.toList t.toList) : Nat), .string u]) ∧
        u.toList = (t.toList.take (t.size - cs s.toList t.toList (cp s.toList t.toList))).drop (cp s.toList t.toList) ∧ Dr w w' := by
  unfold maxLen at hs ht
  go_enter Try.func19, Try.ntmps19
  go_upto_block 0 with fail
  go_cut [7] (fun i wr => Dr w wr ∧ i = .int .i64 (cp s.toList t.toList : Nat))
  case first =>
    go_wp2_with fail
    go_loopw [7] (fun i wr => Dr w wr ∧ ∃ k : Nat, k ≤ s.size ∧ k ≤ t.size ∧ i = .int .i64 k ∧ Hid (∀ j, j < k → s.toList.getD j 0 = t.toList.getD j 0)) (fun i _ => s.size - (intOf i).toNat)
    case atStart => exact ⟨Dr.refl _, 0, Nat.zero_le _, Nat.zero_le _, rfl, fun j h => absurd h (by omega)⟩
    case round =>
      obtain ⟨hd, k, hk1, hk2, rfl, H⟩ := hrel
      by_cases h1 : k < s.size
      · by_cases h2 : k < t.size
        · by_cases h3 : s[k] = t[k]
          · have hb := toNat_eq h3
            have H3 := hid h3
            clear h3
            go_wp2
            go_quiet (fail)
            go_wp2
            go_roundw
            case rel => exact ⟨hd.next _, k + 1, by omega, by omega, by go_num, cp_ext H h1 h2 H3.out⟩
            case measure => simp [intOf]; omega
          · have hb := toNat_ne h3
            have H3 := hid h3
            clear h3
            go_wp2
            go_quiet (fail)
            go_wp2
            go_meet
            exact ⟨hd.next _, int_eq (by rw [cp_stop H hk1 hk2 (.inr (.inr ⟨h1, h2, H3.out⟩))])⟩
        · go_wp2
          go_quiet (fail)
          go_wp2
          go_meet
          exact ⟨hd.next _, int_eq (by rw [cp_stop H hk1 hk2 (.inr (.inl (by omega)))])⟩
      · go_wp2
        go_quiet (fail)
        go_wp2
        go_meet
        exact ⟨hd.next _, int_eq (by rw [cp_stop H hk1 hk2 (.inl (by omega))])⟩
  case rest =>
    obtain ⟨hd0, rfl⟩ := hcut
    rename_i w0
    have g1 : cp s.toList t.toList ≤ s.size := by rw [size_eq]; exact cp_le_left _ _
    have g2 : cp s.toList t.toList ≤ t.size := by rw [size_eq]; exact cp_le_right _ _
    generalize hp : cp s.toList t.toList = p at *
    have Hp := hid hp
    clear hp
    go_upto_block 2 with fail
    go_cut [8] (fun i wr => Dr w wr ∧ ∃ k : Nat, k + p ≤ s.size ∧ k + p ≤ t.size ∧ i = .int .i64 k ∧ Hid (cs s.toList t.toList p = k))
    case first =>
      go_wp2_with fail
      go_loopw [8] (fun i wr => Dr w wr ∧ ∃ k : Nat, k + p ≤ s.size ∧ k + p ≤ t.size ∧ i = .int .i64 k ∧ Tail s t k) (fun i _ => s.size - (intOf i).toNat)
      case atStart => exact ⟨hd0, 0, by omega, by omega, rfl, fun j h => absurd h (by omega)⟩
      case round =>
        obtain ⟨hd, k, hk1, hk2, rfl, H⟩ := hrel
        have w1 : IntKind.i64.wrap ((s.size : Int) - (p : Int)) = ((s.size - p : Nat) : Int) := by rw [IntWalk.i64_in _ (by omega)]; omega
        have w2 : IntKind.i64.wrap ((t.size : Int) - (p : Int)) = ((t.size - p : Nat) : Int) := by rw [IntWalk.i64_in _ (by omega)]; omega
        by_cases h1 : k < s.size - p
        · by_cases h2 : k < t.size - p
          · have w3 : IntKind.i64.wrap ((s.size : Int) - 1) = ((s.size - 1 : Nat) : Int) := by rw [IntWalk.i64_in _ (by omega)]; omega
            have w4 : IntKind.i64.wrap ((t.size : Int) - 1) = ((t.size - 1 : Nat) : Int) := by rw [IntWalk.i64_in _ (by omega)]; omega
            have w5 : IntKind.i64.wrap (((s.size - 1 : Nat) : Int) - (k : Int)) = ((s.size - 1 - k : Nat) : Int) := by rw [IntWalk.i64_in _ (by omega)]; omega
            have w6 : IntKind.i64.wrap (((t.size - 1 : Nat) : Int) - (k : Int)) = ((t.size - 1 - k : Nat) : Int) := by rw [IntWalk.i64_in _ (by omega)]; omega
            have la : s.size - 1 - k < s.size := by omega
            have lb : t.size - 1 - k < t.size := by omega
            by_cases h3 : s[s.size - 1 - k] = t[t.size - 1 - k]
            · have hb := toNat_eq h3
              have H3 := hid h3
              clear h3
              go_wp2
              go_quiet (fail)
              clear w1 w2 w3 w4 w5 w6
              go_wp2
              go_roundw
              case rel => exact ⟨hd.next _, k + 1, by omega, by omega, by go_num, tail_ext H (by omega) (by omega) H3.out⟩
              case measure => simp [intOf]; omega
            · have hb := toNat_ne h3
              have H3 := hid h3
              clear h3
              go_wp2
              go_quiet (fail)
              go_wp2
              go_meet
              exact ⟨hd.next _, k, hk1, hk2, rfl, tail_stop H hk1 hk2 (.inr (.inr ⟨by omega, by omega, H3.out⟩))⟩
          · go_wp2
            go_quiet (fail)
            go_wp2
            go_meet
            exact ⟨hd.next _, k, hk1, hk2, rfl, tail_stop H hk1 hk2 (.inr (.inl (by omega)))⟩
        · go_wp2
          go_quiet (fail)
          go_wp2
          go_meet
          exact ⟨hd.next _, k, hk1, hk2, rfl, tail_stop H hk1 hk2 (.inl (by omega))⟩
    case rest =>
      obtain ⟨hd1, k, hk1, hk2, rfl, H⟩ := hcut
      have w1 : IntKind.i64.wrap ((s.size : Int) - (p : Int)) = ((s.size - p : Nat) : Int) := by rw [IntWalk.i64_in _ (by omega)]; omega
      have w2 : IntKind.i64.wrap (((s.size - p : Nat) : Int) - (k : Int)) = ((s.size - p - k : Nat) : Int) := by rw [IntWalk.i64_in _ (by omega)]; omega
      have w3 : IntKind.i64.wrap ((t.size : Int) - (k : Int)) = ((t.size - k : Nat) : Int) := by rw [IntWalk.i64_in _ (by omega)]; omega
      have l1 : p ≤ t.size - k := by omega
      have l2 : t.size - k ≤ t.size := by omega
      go_wp2
      go_quiet (fail)
      go_wp2
      go_ret3
      rw [Hp.out, H.out]
      exact ⟨_, ret3 rfl rfl rfl, by rw [extract_toList], hd1.next _⟩
end Go.Proofs.Ytpjpndbagkcgcaa
