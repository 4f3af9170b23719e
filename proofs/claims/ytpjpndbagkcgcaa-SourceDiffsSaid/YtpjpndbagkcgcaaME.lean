/- What edits make of sources that were made: the plain law of SourceApart and SourceDiffs. -/
import Derived.Test.YtpjpndbagkcgcaaMD
set_option linter.unusedVariables false
set_option linter.unusedSimpArgs false
namespace Go.Proofs.Ytpjpndbagkcgcaa
open Go.RowKit

theorem letter_list (i : Nat) : (letterS i).toList = [UInt8.ofNat (97 + (i : Int)).toNat] := by
  rw [ByteArray.toList_eq, letterS, strOfNums_data]; rfl
theorem letter_ne {i j : Nat} (hi : i < 3) (hj : j < 3) (h : i ≠ j) : ((letterS i).toList == (letterS j).toList) = false := by
  rw [letter_list, letter_list]
  have hi' : i = 0 ∨ i = 1 ∨ i = 2 := by omega
  have hj' : j = 0 ∨ j = 1 ∨ j = 2 := by omega
  rcases hi' with rfl | rfl | rfl <;> rcases hj' with rfl | rfl | rfl <;> first | exact absurd rfl h | decide
theorem letter_named {i : Nat} (hi : i < 3) : named (letterS i).toList = true := by
  rw [letter_list]
  have hi' : i = 0 ∨ i = 1 ∨ i = 2 := by omega
  rcases hi' with rfl | rfl | rfl <;> decide
theorem letter_bl {i : Nat} (hi : i + 1 < 3) : bl (letterS i) (letterS (i + 1)) = true := by
  unfold bl
  rw [letter_list, letter_list]
  have hi' : i = 0 ∨ i = 1 := by omega
  rcases hi' with rfl | rfl <;> decide

/-- up to three modules a, b, c, of texts of at most so many bytes -/
def SrcN (L : Nat) (l : List Src) : Prop := l.length ≤ 3 ∧ ∀ i x, l[i]? = some x → x.1 = letterS i ∧ x.2.size ≤ L
theorem SrcL.n {l : List Src} (h : SrcL l) : SrcN 12000 l := ⟨h.2.1, h.2.2⟩
theorem SrcN.le {l : List Src} {L L' : Nat} (h : SrcN L l) (hL : L ≤ L') : SrcN L' l := ⟨h.1, fun i x hx => ⟨(h.2 i x hx).1, Nat.le_trans (h.2 i x hx).2 hL⟩⟩
theorem SrcN.check {l : List Src} {L : Nat} (h : SrcN L l) (hL : L ≤ 20000) : checkL l = true := by
  unfold checkL
  rw [List.all_eq_true]
  intro i hi
  have hi' : i < l.length := by simpa using hi
  have h3 := h.1
  have hx : l[i]? = some l[i] := List.getElem?_eq_getElem hi'
  obtain ⟨a, b⟩ := h.2 i _ hx
  have ok : okSrc l[i] = true := by
    unfold okSrc
    rw [a, letter_named (by omega), Bool.true_and, decide_eq_true_iff]
    omega
  cases i with
  | zero => rw [chk_zero hx]; exact ok
  | succ j =>
    have hy : l[j]? = some l[j] := List.getElem?_eq_getElem (by omega)
    rw [chk_some hx hy, ok, Bool.true_and, a, (h.2 j _ hy).1]
    exact letter_bl (by omega)
theorem SrcN.szok {l : List Src} {L : Nat} (h : SrcN L l) (hL : L ≤ 20000) : SzOk l := by
  intro x hx
  obtain ⟨j, hj, e⟩ := List.getElem_of_mem hx
  obtain ⟨a, b⟩ := h.2 j x (by rw [← e]; exact List.getElem?_eq_getElem hj)
  rw [a]
  have := letterS_size j
  constructor <;> omega
theorem SrcN.set {l : List Src} {L : Nat} (h : SrcN L l) {k : Nat} {q : Src} (hq : l[k]? = some q) {t : ByteArray} {L' : Nat} (ht : t.size ≤ L') (hL : L ≤ L') : SrcN L' (l.set k (q.1, t)) := by
  refine ⟨by simpa using h.1, fun i x hx => ?_⟩
  rw [List.getElem?_set] at hx
  split at hx
  · rename_i e
    subst e
    split at hx
    · simp only [Option.some.injEq] at hx
      subst hx
      exact ⟨(h.2 k q hq).1, ht⟩
    · simp at hx
  · exact ⟨(h.2 i x hx).1, Nat.le_trans (h.2 i x hx).2 hL⟩
theorem SrcN.notyet {l : List Src} {L : Nat} (h : SrcN L l) {k : Nat} {q : Src} (hq : l[k]? = some q) : NotYet l q.1 k := by
  intro j x hj hx
  have hk : k < l.length := (List.getElem?_eq_some_iff.1 hq).1
  have h3 := h.1
  unfold nameIs
  rw [(h.2 j x hx).1, (h.2 k q hq).1]
  exact letter_ne (by omega) (by omega) (by omega)
theorem nameIs_self (q : Src) : nameIs q.1 q = true := by unfold nameIs; simp
theorem SrcN.find {l : List Src} {L : Nat} (h : SrcN L l) {k : Nat} {q : Src} (hq : l[k]? = some q) : findP l q.1 = (q.2, true) := findP_hit (h.notyet hq) hq (nameIs_self q)
/-- an edit of the module at k that lies in its text -/
structure Fit (q : Src) (x : Ed) : Prop where
  m : x.m = q.1
  a : 0 ≤ x.at_
  c : 0 ≤ x.cnt
  i : x.at_ + x.cnt ≤ q.2.size
theorem SrcN.apply {l : List Src} {L : Nat} (h : SrcN L l) (hL : L ≤ 20000) {k : Nat} {q : Src} (hq : l[k]? = some q) {x : Ed} (hx : Fit q x) (hs : q.2.size - x.cnt + x.text.size ≤ 20000) :
    applyP l x = (l.set k (q.1, spl q.2 x.at_.toNat x.cnt.toNat x.text), 0) := by
  obtain ⟨hm, h1, h2, h3⟩ := hx
  exact applyP_ok (h.check hL) (by rw [hm]; exact h.notyet hq) hq (by rw [hm]; exact nameIs_self q) (by unfold inText; simp; omega) hs

theorem toList_app (a b : ByteArray) : (a ++ b).toList = a.toList ++ b.toList := by
  simp [ByteArray.toList_eq]
theorem spl_list (t : ByteArray) (i c : Nat) (s : ByteArray) : (spl t i c s).toList = t.toList.take i ++ s.toList ++ t.toList.drop (i + c) := by
  unfold spl
  simp only [toList_app, extract_toList, List.drop_zero]
  congr 1
  rw [size_eq, List.take_length]
/-- an edit is undone by the one back -/
theorem spl_back (t : ByteArray) (i c : Nat) (s : ByteArray) (h : i + c ≤ t.size) : spl (spl t i c s) i s.size (t.extract i (i + c)) = t := by
  apply str_ext
  rw [size_eq] at h
  rw [spl_list, spl_list, extract_toList, size_eq s]
  have e1 : List.take i (List.take i t.toList ++ s.toList ++ List.drop (i + c) t.toList) = t.toList.take i := by
    rw [List.append_assoc, List.take_append_of_le_length (by simp; omega), List.take_take]; simp
  have e2 : List.drop (i + s.toList.length) (List.take i t.toList ++ s.toList ++ List.drop (i + c) t.toList) = t.toList.drop (i + c) := by
    rw [List.drop_append_of_le_length (by simp; omega)]
    rw [List.drop_eq_nil_of_le (by simp; omega), List.nil_append]
  rw [e1, e2, List.append_assoc]
  have e3 : t.toList.take i = (t.toList.take (i + c)).take i := by rw [List.take_take]; congr 1; omega
  rw [e3, ← List.append_assoc, List.take_append_drop, List.take_append_drop]
/-- two edits, the later place first or last -/
theorem spl_two (t : ByteArray) (i c : Nat) (s : ByteArray) (j e : Nat) (u : ByteArray) (h1 : i + c ≤ j) (h2 : j + e ≤ t.size) : spl (spl t i c s) (j + s.size - c) e u = spl (spl t j e u) i c s := by
  apply str_ext
  rw [size_eq] at h2
  rw [spl_list, spl_list, spl_list, spl_list, size_eq s]
  obtain ⟨A, hA⟩ : ∃ A, A = t.toList := ⟨_, rfl⟩
  obtain ⟨S, hS⟩ : ∃ S, S = s.toList := ⟨_, rfl⟩
  obtain ⟨U, hU⟩ : ∃ U, U = u.toList := ⟨_, rfl⟩
  rw [← hA] at h2 ⊢
  rw [← hS, ← hU]
  have e1 : List.take (j + S.length - c) (List.take i A ++ S ++ List.drop (i + c) A) = List.take i A ++ S ++ (List.drop (i + c) A).take (j - (i + c)) := by
    rw [List.take_append, List.take_of_length_le (by simp; omega)]
    congr 2
    simp; omega
  have e2 : List.drop (j + S.length - c + e) (List.take i A ++ S ++ List.drop (i + c) A) = A.drop (j + e) := by
    rw [List.drop_append, List.drop_eq_nil_of_le (by simp; omega), List.nil_append, List.drop_drop]
    congr 1
    simp; omega
  have e3 : List.take i (List.take j A ++ U ++ List.drop (j + e) A) = A.take i := by
    rw [List.append_assoc, List.take_append_of_le_length (by simp; omega), List.take_take]
    congr 1; omega
  have e4 : List.drop (i + c) (List.take j A ++ U ++ List.drop (j + e) A) = (A.drop (i + c)).take (j - (i + c)) ++ U ++ List.drop (j + e) A := by
    rw [List.append_assoc, List.drop_append_of_le_length (by simp; omega), List.append_assoc, List.drop_take]
  rw [e1, e2, e3, e4]
  simp only [List.append_assoc]
end Go.Proofs.Ytpjpndbagkcgcaa
