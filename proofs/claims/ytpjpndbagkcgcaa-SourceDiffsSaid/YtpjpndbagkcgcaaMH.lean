/- recompilelaw01.SourceDiffs: true, whatever it is given. -/
import Derived.Test.YtpjpndbagkcgcaaMG
import Derived.Test.YtpjpndbagkcgcaaC1
set_option linter.unusedVariables false
set_option linter.unusedSimpArgs false
namespace Go.Proofs.Ytpjpndbagkcgcaa
open Go.RowKit

theorem take_cp : ∀ (a b : List UInt8), a.take (cp a b) = b.take (cp a b)
  | [], _ => by simp [cp]
  | _ :: _, [] => by simp [cp]
  | a :: x, b :: y => by
    by_cases h : a = b
    · simp [cp, h, take_cp x y]
    · simp [cp, h]
theorem drop_cs (a b : List UInt8) : a.drop (a.length - cp a.reverse b.reverse) = b.drop (b.length - cp a.reverse b.reverse) := by
  have h := take_cp a.reverse b.reverse
  rw [List.take_reverse, List.take_reverse] at h
  exact List.reverse_inj.1 h
/-- the difference, applied, makes the one of the other -/
theorem diff_makes (s t u : ByteArray) (hu : u.toList = (t.toList.take (t.size - cs s.toList t.toList (cp s.toList t.toList))).drop (cp s.toList t.toList)) :
    cp s.toList t.toList + (s.size - cp s.toList t.toList - cs s.toList t.toList (cp s.toList t.toList)) ≤ s.size ∧ spl s (cp s.toList t.toList) (s.size - cp s.toList t.toList - cs s.toList t.toList (cp s.toList t.toList)) u = t ∧ u.size ≤ t.size ∧
      s.size - (s.size - cp s.toList t.toList - cs s.toList t.toList (cp s.toList t.toList)) + u.size ≤ t.size := by
  have h1 := cp_le_left s.toList t.toList
  have h2 := cp_le_right s.toList t.toList
  have h3 := take_cp s.toList t.toList
  have h4 : (s.toList.drop (cp s.toList t.toList)).drop (s.toList.length - cp s.toList t.toList - cs s.toList t.toList (cp s.toList t.toList)) = (t.toList.drop (cp s.toList t.toList)).drop (t.toList.length - cp s.toList t.toList - cs s.toList t.toList (cp s.toList t.toList)) := by
    have := drop_cs (s.toList.drop (cp s.toList t.toList)) (t.toList.drop (cp s.toList t.toList))
    rw [List.length_drop, List.length_drop] at this
    exact this
  have h5 := cp_le_left (s.toList.drop (cp s.toList t.toList)).reverse (t.toList.drop (cp s.toList t.toList)).reverse
  have h6 := cp_le_right (s.toList.drop (cp s.toList t.toList)).reverse (t.toList.drop (cp s.toList t.toList)).reverse
  simp only [List.length_reverse, List.length_drop] at h5 h6
  change cs s.toList t.toList (cp s.toList t.toList) ≤ _ at h5
  change cs s.toList t.toList (cp s.toList t.toList) ≤ _ at h6
  rw [size_eq s, size_eq t]
  rw [size_eq t] at hu
  generalize cs s.toList t.toList (cp s.toList t.toList) = c at hu h4 h5 h6 ⊢
  generalize cp s.toList t.toList = p at hu h1 h2 h3 h4 h5 h6 ⊢
  rw [List.drop_drop, List.drop_drop] at h4
  have hus : u.size = t.toList.length - c - p := by rw [size_eq, hu]; simp
  refine ⟨by omega, ?_, by omega, by omega⟩
  apply str_ext
  rw [spl_list, hu, h3, h4]
  have e : t.toList.take p = (t.toList.take (t.toList.length - c)).take p := by rw [List.take_take]; congr 1; omega
  rw [e, List.take_append_drop, show p + (t.toList.length - p - c) = t.toList.length - c by omega, List.take_append_drop]

/-- one module, by an edit -/
theorem apply_one (s t u : ByteArray) (p n : Nat) (w : World) (hs : s.size ≤ 20000) (ht : t.size ≤ 20000) (h1 : p + n ≤ s.size) (h2 : spl s p n u = t) (h3 : u.size ≤ t.size) (h4 : s.size - n + u.size ≤ t.size) (v : Value) (hv : Sl srcE 2 w w.heap.size v [(⟨#[109]⟩, s)]) :
    Calls Try.prog 20 #[v, .agg #[.string ⟨#[109]⟩, .int .i64 p, .int .i64 n, .string u]] w (PostA w [(⟨#[109]⟩, t)]) := by
  have hc : checkL [((⟨#[109]⟩ : ByteArray), s)] = true := by
    have hn : named (ByteArray.mk #[109]).toList = true := by rw [lit_toList [109]]; decide
    simp [checkL, List.range_succ, chk, okSrc, hs]
    decide
  have hx : EdOk ⟨⟨#[109]⟩, (p : Int), (n : Int), u⟩ := ⟨by show (1 : Nat) ≤ _; omega, by simp only []; omega, by simp only []; omega, by simp only []; omega, by simp only []; omega, by simp only []; omega⟩
  have e := applyP_ok (x := ⟨⟨#[109]⟩, (p : Int), (n : Int), u⟩) (k := 0) (y := (⟨#[109]⟩, s)) hc (fun j x hj => absurd hj (by omega)) rfl (nameIs_self _) (by unfold inText; simp; omega) (by simp only []; omega)
  simp only [Int.toNat_natCast, h2, List.set_cons_zero] at e
  refine (apply_any _ ⟨⟨#[109]⟩, (p : Int), (n : Int), u⟩ v w hv (szok_one (by show (1 : Nat) ≤ _; omega) (by omega)) (by simp) hx).mono ?_
  rintro e' w' ⟨v', h1, h2, h3⟩
  rw [e] at h1 h2
  exact ⟨v', h1, h2, h3⟩
end Go.Proofs.Ytpjpndbagkcgcaa
