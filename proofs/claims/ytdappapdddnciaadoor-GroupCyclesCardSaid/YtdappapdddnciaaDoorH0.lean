/- The library, in the frame's words: what its variables hold; Itoa (for a seat without Atoi). -/
import Derived.Test.YtdappapdddnciaaDoorMB
import Derived.Test.YtdappapdddnciaaDoorK0
import Derived.Test.YtdappapdddnciaaDoorShelf
import Derived.Lib.AppendIntMem
import Derived.Lib.SmallJoins
set_option linter.unusedVariables false
set_option linter.unusedSimpArgs false
namespace Go.Proofs.YtdappapdddnciaaDoor
open Go.RowKit
open Go.Lib hiding intOf

/-- the library's variables hold what they were given -/
structure Lv (w : World) : Prop where
  tab : TabIs Tryd.prog w "internal/strconv.uint64pow10" .u64 pow10Tab
def LvN (k : Nat) : Prop := k = 1
def LvP (T : Nat → Prop) (w : World) : Prop := Lv w ∧ ∀ k, LvN k → ¬ T k ∧ k < w.heap.size
theorem Lv.keep {w w' : World} (h : Lv w) (hk : ∀ k, LvN k → w'.heap[k]? = w.heap[k]?) : Lv w' := by
  obtain ⟨h5⟩ := h
  refine ⟨?_⟩
  have hg : Tryd.prog.globalNamed "internal/strconv.uint64pow10" = some 1 := by kernel_rfl
  unfold TabIs World.var? at *
  simp only [hg, Option.bind_some] at h5 ⊢
  rw [hk _ rfl]; exact h5
def LvF : Fact := ⟨LvP, fun {T T' w w'} h k n => ⟨h.1.keep fun j hj => k.block j (h.2 j hj).2 (h.2 j hj).1, fun j hj => ⟨fun ht => by
  rcases n j ht with h1 | h1
  · exact (h.2 j hj).1 h1
  · have := (h.2 j hj).2; omega, Nat.lt_of_lt_of_le (h.2 j hj).2 k.size⟩⟩⟩
theorem LvP.dn {T : Nat → Prop} {w : World} (h : LvP T w) : LvP (dT T []) w := LvF.keep h (Kt.refl _ _) (nw0 w)
/-- it is so where a call begins -/
theorem Lv.here {w : World} (h : Lv w) : LvP No w := by
  refine ⟨h, fun k hk => ⟨fun h => h, ?_⟩⟩
  obtain ⟨h5⟩ := h
  obtain rfl := hk
  have hg : Tryd.prog.globalNamed "internal/strconv.uint64pow10" = some 1 := by kernel_rfl
  unfold TabIs World.var? at h5
  simp only [hg, Option.bind_some] at h5
  rcases Nat.lt_or_ge 1 w.heap.size with h | h
  · exact h
  · rw [Array.getElem?_eq_none h] at h5; cases h5
def i64B (n : Int) : Bool := decide (-9223372036854775808 ≤ n) && decide (n ≤ 9223372036854775807)
def itoaS (n : Int) : ByteArray := ⟨(itoa n).toArray⟩
theorem itoaS_list (n : Int) : (itoaS n).toList = itoa n := by rw [itoaS, ByteArray.toList_eq]
def itoaM (n : Int) : Option ByteArray := gd (i64B n) (some (itoaS n))
theorem grow_kt (w : World) (k : Nat) (os : Array Obj) : Kt No w (Go.Sort.grow (w.drewN k) os) :=
  ⟨rfl, rfl, rfl, by show w.heap.size ≤ (w.heap ++ os).size; simp, fun j hj _ => by show (w.heap ++ os)[j]? = _; rw [Array.getElem?_append_left hj]⟩
theorem itoaM_c (T : Nat → Prop) (W0 : World) (hT : ∀ k, T k → k < W0.heap.size) (hLv : LvP T W0) (n : Int) (y : ByteArray) (hM : itoaM n = some y) : Rets Tryd.prog No 24 [.int .i64 n] W0 fun v w' => v = .string y := by
  unfold itoaM at hM
  obtain ⟨h1, h2⟩ := gd_some hM
  injection h2 with h2
  subst h2
  unfold i64B at h1
  simp only [Bool.and_eq_true, decide_eq_true_eq] at h1
  refine Calls.mono (Tryd.strconv_Itoa n h1.1 h1.2 W0 hLv.1.tab) ?_
  rintro e w' ⟨rfl, k, os, rfl⟩
  exact ⟨_, rfl, grow_kt _ _ _, rfl⟩
theorem data_list (s : ByteArray) : s.data.toList = s.toList := (ByteArray.toList_eq s).symm
end Go.Proofs.YtdappapdddnciaaDoor
