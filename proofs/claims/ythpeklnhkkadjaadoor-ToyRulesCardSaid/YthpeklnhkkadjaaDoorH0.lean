/- The library, in the frame's words: what its variables hold; Itoa, Atoi. -/
import Derived.Test.YthpeklnhkkadjaaDoorMB
import Derived.Test.YthpeklnhkkadjaaDoorK0
import Derived.Test.YthpeklnhkkadjaaDoorShelf
import Derived.Lib.AppendIntMem
import Derived.Lib.SmallJoins
set_option linter.unusedVariables false
set_option linter.unusedSimpArgs false
namespace Go.Proofs.YthpeklnhkkadjaaDoor
open Go.RowKit
open Go.Lib hiding intOf

/-- the library's variables hold what they were given -/
structure Lv (w : World) : Prop where
  sy : ∃ ev, w.cell? ⟨2, 0, none⟩ = some ev ∧ (ev = .nilIface ∨ ∃ te pe, ev = .iface te pe)
  ra : ∃ ev, w.cell? ⟨3, 0, none⟩ = some ev ∧ (ev = .nilIface ∨ ∃ te pe, ev = .iface te pe)
  tab : TabIs Tryd.prog w "internal/strconv.uint64pow10" .u64 pow10Tab
def LvN (k : Nat) : Prop := k = 2 ∨ k = 3 ∨ k = 1
def LvP (T : Nat → Prop) (w : World) : Prop := Lv w ∧ ∀ k, LvN k → ¬ T k ∧ k < w.heap.size
theorem Lv.keep {w w' : World} (h : Lv w) (hk : ∀ k, LvN k → w'.heap[k]? = w.heap[k]?) : Lv w' := by
  obtain ⟨⟨e1, h1, h2⟩, ⟨e3, h3, h4⟩, h5⟩ := h
  refine ⟨⟨e1, (World.cell?_of_block (w := w) (hk _ (.inl rfl))).trans h1, h2⟩, ⟨e3, (World.cell?_of_block (w := w) (hk _ (.inr (.inl rfl)))).trans h3, h4⟩, ?_⟩
  have hg : Tryd.prog.globalNamed "internal/strconv.uint64pow10" = some 1 := by kernel_rfl
  unfold TabIs World.var? at *
  simp only [hg, Option.bind_some] at h5 ⊢
  rw [hk _ (.inr (.inr rfl))]; exact h5
def LvF : Fact := ⟨LvP, fun {T T' w w'} h k n => ⟨h.1.keep fun j hj => k.block j (h.2 j hj).2 (h.2 j hj).1, fun j hj => ⟨fun ht => by
  rcases n j ht with h1 | h1
  · exact (h.2 j hj).1 h1
  · have := (h.2 j hj).2; omega, Nat.lt_of_lt_of_le (h.2 j hj).2 k.size⟩⟩⟩
theorem LvP.dn {T : Nat → Prop} {w : World} (h : LvP T w) : LvP (dT T []) w := LvF.keep h (Kt.refl _ _) (nw0 w)
/-- it is so where a call begins -/
theorem Lv.here {w : World} (h : Lv w) : LvP No w := by
  refine ⟨h, fun k hk => ⟨fun h => h, ?_⟩⟩
  obtain ⟨⟨e1, h1, h2⟩, ⟨e3, h3, h4⟩, h5⟩ := h
  rcases hk with rfl | rfl | rfl
  · exact World.block_lt_of_cell? _ _ h1
  · exact World.block_lt_of_cell? _ _ h3
  · have hg : Tryd.prog.globalNamed "internal/strconv.uint64pow10" = some 1 := by kernel_rfl
    unfold TabIs World.var? at h5
    simp only [hg, Option.bind_some] at h5
    rcases Nat.lt_or_ge 1 w.heap.size with h | h
    · exact h
    · rw [Array.getElem?_eq_none h] at h5; cases h5
def i64B (n : Int) : Bool := decide (-9223372036854775808 ≤ n) && decide (n ≤ 9223372036854775807)
def itoaS (n : Int) : ByteArray := ⟨(itoa n).toArray⟩
theorem itoaS_list (n : Int) : (itoaS n).toList = itoa n := by rw [itoaS, ByteArray.toList_eq]
def itoaM (n : Int) : Option ByteArray := gd (i64B n) (some (itoaS n))
theorem grow_kt (w : World) (k : Nat) (os : Array Obj) : Kt No w (Go.Sort.grow (w.drewN k) os) :=
  ⟨rfl, rfl, rfl, by show w.heap.size ≤ (w.heap ++ os).size; simp, fun j hj _ => by show (w.heap ++ os)[j]? = _; rw [Array.getElem?_append_left hj]⟩
theorem itoaM_c (T : Nat → Prop) (W0 : World) (hT : ∀ k, T k → k < W0.heap.size) (hLv : LvP T W0) (n : Int) (y : ByteArray) (hM : itoaM n = some y) : Rets Tryd.prog No 51 [.int .i64 n] W0 fun v w' => v = .string y := by
  unfold itoaM at hM
  obtain ⟨h1, h2⟩ := gd_some hM
  injection h2 with h2
  subst h2
  unfold i64B at h1
  simp only [Bool.and_eq_true, decide_eq_true_eq] at h1
  refine Calls.mono (Tryd.strconv_Itoa n h1.1 h1.2 W0 hLv.1.tab) ?_
  rintro e w' ⟨rfl, k, os, rfl⟩
  exact ⟨_, rfl, grow_kt _ _ _, rfl⟩
def atoiM (s : ByteArray) : Option (Int × Bool) := gd (Nat.ble s.size 140737488355328) (some (match atoiAll s.toList with
  | .ok v => (v, false)
  | .range => (atoiSat s.toList, true)
  | _ => (0, true)))
theorem data_list (s : ByteArray) : s.data.toList = s.toList := (ByteArray.toList_eq s).symm
theorem atoiM_c (T : Nat → Prop) (W0 : World) (hT : ∀ k, T k → k < W0.heap.size) (hLv : LvP T W0) (s : ByteArray) (y : Int × Bool) (hM : atoiM s = some y) : Rets Tryd.prog No 90 [.string s] W0 fun v w' => ∃ er, v = .tuple #[.int .i64 y.1, er] ∧ ErrIs er y.2 := by
  unfold atoiM at hM
  obtain ⟨h1, h2⟩ := gd_some hM
  have hs := Nat.le_of_ble_eq_true h1
  injection h2 with h2
  subst h2
  have hl : s.data.toList = s.toList := (ByteArray.toList_eq s).symm
  cases h : atoiAll s.toList
  · rename_i v
    refine Calls.mono (Tryd.strconv_Atoi_ok s (by omega) v (by rw [hl]; exact h) W0) ?_
    rintro e w' ⟨rfl, hw⟩
    refine ⟨_, rfl, ?_, .nilIface, rfl, .inl ⟨rfl, rfl⟩⟩
    rcases hw with rfl | ⟨t, rfl⟩
    · exact Kt.refl _ _
    · exact Kt.ofBelow (Go.Joins.below_bytesWorld _ _ _ _ (Nat.le_refl _))
  · obtain ⟨ev, h1, h2⟩ := hLv.1.sy
    refine Calls.mono (Tryd.strconv_Atoi_syntax s (by omega) (by rw [hl, h]; exact ⟨(fun _ h => nomatch h), (fun h => nomatch h)⟩) ev W0 h1 h2) ?_
    rintro e w' ⟨N, rfl, _, _, hb⟩
    exact ⟨_, rfl, Kt.ofBelow hb, _, rfl, .inr ⟨rfl, _, _, rfl⟩⟩
  · obtain ⟨ev, h1, h2⟩ := hLv.1.ra
    refine Calls.mono (Tryd.strconv_Atoi_range s (by omega) (by rw [hl]; exact h) ev W0 h1 h2) ?_
    rintro e w' ⟨N, rfl, _, _, hb⟩
    rw [hl]
    exact ⟨_, rfl, Kt.ofBelow hb, _, rfl, .inr ⟨rfl, _, _, rfl⟩⟩
end Go.Proofs.YthpeklnhkkadjaaDoor
