/- source.Apply. -/
import Derived.Test.YtpjpndbagkcgcaaB4
import Derived.BigRegion
set_option linter.unusedVariables false
set_option linter.unusedSimpArgs false
namespace Go.Proofs.Ytpjpndbagkcgcaa
open Go.RowKit

/-- one field of one element, set -/
theorem own_field {α : Type} {enc : α → List Value} {size : Nat} (he : ∀ x, (enc x).length = size) {w : World} {B : Nat} {e : TypeId} {l : List α} {g off cap : Nat} {cs : Array Value} (k j : Nat) (y s : α) (u : Value) (hy : l[k]? = some y) (hj : j < size) (hs : enc s = (enc y).set j u)
    (hB : B ≤ g) (hg : w.heap[g]? = some (.cells cs e (0, 0))) (hnc : l.length ≤ cap) (hc : cap ≤ maxLen) (hfit : off + cap * size ≤ cs.size) (hcs : ∀ j u, (l.flatMap enc)[j]? = some u → cs[off + j]? = some u) :
    Own (w.setCell ⟨g, off + k * size + j, none⟩ u) B e size (.slice (some ⟨g, off, none⟩) l.length cap) ((l.set k s).flatMap enc) := by
  have hk := (List.getElem?_eq_some_iff.1 hy).1
  have hm : (k + 1) * size ≤ cap * size := Nat.mul_le_mul_right _ (by omega)
  have hm' : (k + 1) * size = k * size + size := by rw [Nat.add_mul, Nat.one_mul]
  refine .inr ⟨g, off, l.length, cap, cs.setIfInBounds (off + k * size + j) u, rfl, by rw [flat_length he, List.length_set], hB, by simp [World.setCell, Array.getElem?_modify, hg], hnc, hc, by simpa using hfit, fun m v hv => ?_⟩
  have hml : m < l.length * size := by
    have := (List.getElem?_eq_some_iff.1 hv).1
    rwa [flat_length he, List.length_set] at this
  have hs0 : 0 < size := by omega
  have hq : m / size < l.length := by rw [Nat.div_lt_iff_lt_mul hs0]; exact hml
  have hr := Nat.mod_lt m hs0
  have hdm := Nat.div_add_mod' m size
  rw [Array.getElem?_setIfInBounds]
  by_cases hqk : m / size = k
  · have hx : (l.set k s)[m / size]? = some s := by rw [hqk]; simp [hk]
    have hf := flat_get he (l.set k s) (m / size) (m % size) s hx hr
    rw [hdm, hv, hs, List.getElem?_set] at hf
    rw [hqk] at hdm
    by_cases hrj : j = m % size
    · rw [if_pos hrj, if_pos (by rw [he]; omega)] at hf
      rw [if_pos (by omega), if_pos (by omega)]
      exact hf.symm
    · rw [if_neg hrj] at hf
      rw [if_neg (by omega)]
      refine hcs m v ?_
      have := flat_get he l k (m % size) y hy hr
      rw [hdm] at this
      rw [this, ← hf]
  · have hx : (l.set k s)[m / size]? = some l[m / size] := by rw [List.getElem?_set, if_neg (fun h => hqk h.symm)]; exact List.getElem?_eq_getElem hq
    have hf := flat_get he (l.set k s) (m / size) (m % size) _ hx hr
    have hf2 := flat_get he l (m / size) (m % size) _ (List.getElem?_eq_getElem hq) hr
    have hne : off + k * size + j ≠ off + m := by
      rcases Nat.lt_or_gt_of_ne hqk with h | h
      · have : (m / size + 1) * size ≤ k * size := Nat.mul_le_mul_right _ h
        rw [Nat.add_mul, Nat.one_mul] at this
        omega
      · have : (k + 1) * size ≤ m / size * size := Nat.mul_le_mul_right _ h
        rw [Nat.add_mul, Nat.one_mul] at this
        omega
    rw [if_neg hne]
    rw [hdm] at hf hf2
    exact hcs m v (by rw [hf2, ← hf]; exact hv)

def spl (t : ByteArray) (i c : Nat) (s : ByteArray) : ByteArray := t.extract 0 i ++ s ++ t.extract (i + c) t.size
theorem spl_size {t : ByteArray} {i c : Nat} {s : ByteArray} (h : i + c ≤ t.size) : (spl t i c s).size = t.size - c + s.size := by
  unfold spl
  simp only [ByteArray.size_append, ByteArray.size_extract]
  omega
structure Ed where
  m : ByteArray
  at_ : Int
  cnt : Int
  text : ByteArray
/-- whether the edit lies inside the text -/
def inText (t : ByteArray) (x : Ed) : Bool := decide (0 ≤ x.at_) && decide (0 ≤ x.cnt) && decide (x.at_ + x.cnt ≤ t.size)
def applyP (l : List Src) (x : Ed) : List Src × Int :=
  if checkL l then (match l.findIdx? (nameIs x.m) with
    | none => (l, 4)
    | some k => if inText (l.getD k default).2 x then (if (l.getD k default).2.size - x.cnt + x.text.size ≤ 20000 then (l.set k (x.m, spl (l.getD k default).2 x.at_.toNat x.cnt.toNat x.text), 0) else (l, 3)) else (l, 2))
  else (l, 1)
def edV (x : Ed) : Value := .agg #[.string x.m, .int .i64 x.at_, .int .i64 x.cnt, .string x.text]
/-- the whole of what an Edit's fields may be -/
structure EdOk (x : Ed) : Prop where
  m : x.m.size ≤ 140737488355328
  t : x.text.size ≤ 140737488355328
  a1 : -9223372036854775808 ≤ x.at_
  a2 : x.at_ ≤ 9223372036854775807
  c1 : -9223372036854775808 ≤ x.cnt
  c2 : x.cnt ≤ 9223372036854775807

theorem applyP_bad {l : List Src} {x : Ed} (h : checkL l = false) : applyP l x = (l, 1) := by simp [applyP, h]
theorem find_some {l : List Src} {n : ByteArray} {k : Nat} {x : Src} (h : NotYet l n k) (hx : l[k]? = some x) (hn : nameIs n x = true) : l.findIdx? (nameIs n) = some k := by
  rw [List.findIdx?_eq_some_iff_getElem]
  obtain ⟨hk, e⟩ := List.getElem?_eq_some_iff.1 hx
  exact ⟨hk, by rw [e]; exact hn, fun j hj => by have := h j _ hj (List.getElem?_eq_getElem (by omega)); simp [this]⟩
theorem find_none {l : List Src} {n : ByteArray} (h : NotYet l n l.length) : l.findIdx? (nameIs n) = none := by
  rw [List.findIdx?_eq_none_iff]
  intro x hx
  obtain ⟨j, hj, e⟩ := List.getElem_of_mem hx
  exact h j x (by omega) (by rw [← e]; exact List.getElem?_eq_getElem hj)
theorem applyP_unknown {l : List Src} {x : Ed} (h : checkL l = true) (hf : NotYet l x.m l.length) : applyP l x = (l, 4) := by simp [applyP, h, find_none hf]
theorem applyP_range {l : List Src} {x : Ed} {k : Nat} {y : Src} (h : checkL l = true) (H : NotYet l x.m k) (hx : l[k]? = some y) (hn : nameIs x.m y = true) (hi : inText y.2 x = false) : applyP l x = (l, 2) := by
  simp [applyP, h, find_some H hx hn, List.getD_eq_getElem?_getD, hx, hi]
theorem applyP_limit {l : List Src} {x : Ed} {k : Nat} {y : Src} (h : checkL l = true) (H : NotYet l x.m k) (hx : l[k]? = some y) (hn : nameIs x.m y = true) (hi : inText y.2 x = true) (hs : ¬ (y.2.size - x.cnt + x.text.size ≤ 20000)) : applyP l x = (l, 3) := by
  simp only [applyP, h, find_some H hx hn, List.getD_eq_getElem?_getD, hx, hi, Option.getD_some, if_true]
  rw [if_neg hs]
theorem applyP_ok {l : List Src} {x : Ed} {k : Nat} {y : Src} (h : checkL l = true) (H : NotYet l x.m k) (hx : l[k]? = some y) (hn : nameIs x.m y = true) (hi : inText y.2 x = true) (hs : y.2.size - x.cnt + x.text.size ≤ 20000) : applyP l x = (l.set k (y.1, spl y.2 x.at_.toNat x.cnt.toNat x.text), 0) := by
  simp only [applyP, h, find_some H hx hn, List.getD_eq_getElem?_getD, hx, hi, Option.getD_some, if_true]
  rw [if_pos hs, nameIs_eq hn]

theorem cell_new4 (w : World) (a b c d : Value) (t : TypeId) : (w.alloc (.cells #[a, b, c, d] t)).cell? ⟨w.heap.size, 0, none⟩ = some a ∧ (w.alloc (.cells #[a, b, c, d] t)).cell? ⟨w.heap.size, 1, none⟩ = some b ∧ (w.alloc (.cells #[a, b, c, d] t)).cell? ⟨w.heap.size, 2, none⟩ = some c ∧ (w.alloc (.cells #[a, b, c, d] t)).cell? ⟨w.heap.size, 3, none⟩ = some d := by
  refine ⟨?_, ?_, ?_, ?_⟩ <;> rw [cell_of_row _ _ _ _ _ _ (heap_alloc_new w _)] <;> rfl
/-- the four cells of an edit that lies in memory -/
def EdAt (w : World) (b : Nat) (x : Ed) : Prop := w.cell? ⟨b, 0, none⟩ = some (.string x.m) ∧ w.cell? ⟨b, 1, none⟩ = some (.int .i64 x.at_) ∧ w.cell? ⟨b, 2, none⟩ = some (.int .i64 x.cnt) ∧ w.cell? ⟨b, 3, none⟩ = some (.string x.text)
theorem EdAt.new (w : World) (x : Ed) (t : TypeId) : EdAt (w.alloc (.cells #[.string x.m, .int .i64 x.at_, .int .i64 x.cnt, .string x.text] t)) w.heap.size x := cell_new4 w _ _ _ _ t
theorem EdAt.later {w w' : World} {b : Nat} {x : Ed} (h : EdAt w b x) (hb : Below w.heap.size w w') : EdAt w' b x := by
  have hl := World.block_lt_of_cell? _ _ h.1
  exact ⟨(hb.cell hl).trans h.1, (hb.cell (p := ⟨b, 1, none⟩) hl).trans h.2.1, (hb.cell (p := ⟨b, 2, none⟩) hl).trans h.2.2.1, (hb.cell (p := ⟨b, 3, none⟩) hl).trans h.2.2.2⟩

set_option maxHeartbeats 2000000 in
theorem apply_early (l : List Src) (x : Ed) (v : Value) (w : World) (hv : Sl srcE 2 w w.heap.size v l) (hs : SzOk l) (hl : l.length ≤ 1000000000000) (hx : EdOk x) (hc : checkL l = false ∨ NotYet l x.m l.length) :
    Calls Try.prog 20 #[v, edV x] w (PostL w (applyP l x)) := by
  have hb0 : Below w.heap.size w (w.alloc (.cells #[.string x.m, .int .i64 x.at_, .int .i64 x.cnt, .string x.text] 34)) := (Below.refl _ _).alloc (Nat.le_refl _) _
  have hv0 := hv.later hb0
  have hed := EdAt.new w x 34
  cases hc2 : checkL l
  · have he : errB (checkL l) = 1 := errB_f hc2
    rw [applyP_bad hc2]
    clear hc hc2
    unfold edV
    go_enter Try.func20, Try.ntmps20
    go_wp2_with fail
    refine (clone_any l _ _ hv0 hl).mono ?_
    rintro e w1 ⟨v1, rfl, hown, hb1⟩
    go_wp2_with fail
    refine (check_any l _ _ (hv0.later hb1) hs).mono ?_
    rintro e w2 ⟨rfl, hb2⟩
    go_wp2_with fail
    go_ret2
    exact ⟨_, rfl, (hown.sl srcE_len (by omega)).later hb2, below_step (below_step hb0 hb1) hb2⟩
  · have he : errB (checkL l) = 0 := errB_t hc2
    have H : NotYet l x.m l.length := by rcases hc with h | h; rw [hc2] at h; cases h; exact h
    rw [applyP_unknown hc2 H]
    have hf : fIdx l x.m = -1 := fIdx_none H (Nat.le_refl _)
    have Hf := hid hf
    clear hc hc2 hf
    unfold edV
    go_enter Try.func20, Try.ntmps20
    go_wp2_with fail
    refine (clone_any l _ _ hv0 hl).mono ?_
    rintro e w1 ⟨v1, rfl, hown, hb1⟩
    have hed1 := hed.later hb1
    clear hed
    go_wp2_with fail
    refine (check_any l _ _ (hv0.later hb1) hs).mono ?_
    rintro e w2 ⟨rfl, hb2⟩
    obtain ⟨m1, m2, m3, m4⟩ := hed1.later hb2
    have hown2 := hown.later hb2
    clear hed1
    go_wp2_with fail
    refine (index_any l _ x.m _ (hown2.sl srcE_len (by omega))).mono ?_
    rintro e w3 ⟨rfl, hb3⟩
    rw [Hf.out]
    clear m1 m2 m3 m4
    go_wp2_with fail
    go_ret2
    exact ⟨_, rfl, (hown2.later hb3).sl srcE_len (by omega), below_step (below_step (below_step hb0 hb1) hb2) hb3⟩

/-- which test fails first -/
theorem not_in {t : ByteArray} {x : Ed} (h : inText t x = false) (ht : t.size ≤ 140737488355328) : (decide (x.at_ < 0) = true) ∨ (decide (x.at_ < 0) = false ∧ decide (x.cnt < 0) = true) ∨ (decide (x.at_ < 0) = false ∧ decide (x.cnt < 0) = false ∧ decide ((t.size : Int) < x.at_) = true) ∨
    (decide (x.at_ < 0) = false ∧ decide (x.cnt < 0) = false ∧ decide ((t.size : Int) < x.at_) = false ∧ decide ((t.size : Int) - x.at_ < x.cnt) = true) := by
  simp only [inText, Bool.and_eq_false_iff, decide_eq_false_iff_not] at h
  simp only [decide_eq_true_eq, decide_eq_false_iff_not]
  omega
theorem is_in {t : ByteArray} {x : Ed} (h : inText t x = true) : 0 ≤ x.at_ ∧ 0 ≤ x.cnt ∧ x.at_ + x.cnt ≤ t.size := by
  simp only [inText, Bool.and_eq_true, decide_eq_true_eq] at h
  omega

set_option maxHeartbeats 4000000 in
theorem apply_range (l : List Src) (x : Ed) (v : Value) (w : World) (hv : Sl srcE 2 w w.heap.size v l) (hs : SzOk l) (hl : l.length ≤ 1000000000000) (hx : EdOk x) (hc2 : checkL l = true)
    (k : Nat) (y : Src) (H : NotYet l x.m k) (hy : l[k]? = some y) (hn : nameIs x.m y = true) (hi : inText y.2 x = false) :
    Calls Try.prog 20 #[v, edV x] w (PostL w (applyP l x)) := by
  have hb0 : Below w.heap.size w (w.alloc (.cells #[.string x.m, .int .i64 x.at_, .int .i64 x.cnt, .string x.text] 34)) := (Below.refl _ _).alloc (Nat.le_refl _) _
  have hv0 := hv.later hb0
  have hed := EdAt.new w x 34
  have he : errB (checkL l) = 0 := errB_t hc2
  rw [applyP_range hc2 H hy hn hi]
  have hk : k < l.length := (List.getElem?_eq_some_iff.1 hy).1
  have hf : fIdx l x.m = k := fIdx_hit H hy hn
  have Hf := hid hf
  have sy := hs y (List.mem_of_getElem? hy)
  have hni := not_in hi sy.2
  have sy2 := sy.2
  obtain ⟨q1, q2, q3, q4, q5, q6⟩ := hx
  have Hy := hid hy
  clear hc2 hf hi hy hn H
  rcases hni with g1 | ⟨g1, g2⟩ | ⟨g1, g2, g3⟩ | ⟨g1, g2, g3, g4⟩
  all_goals
    have hw : decide ((y.2.size : Int) < x.at_) = false → decide (x.at_ < 0) = false → IntKind.i64.wrap ((y.2.size : Int) - x.at_) = (y.2.size : Int) - x.at_ := fun a b => by
      simp only [decide_eq_false_iff_not] at a b
      exact IntWalk.i64_in _ (by omega)
    first | (have hw2 := hw g3 g1) | skip
    clear hw
    unfold edV
    go_enter Try.func20, Try.ntmps20
    go_wp2_with fail
    refine (clone_any l _ _ hv0 hl).mono ?_
    rintro e w1 ⟨v1, rfl, hown, hb1⟩
    have hed1 := hed.later hb1
    clear hed
    go_wp2_with fail
    refine (check_any l _ _ (hv0.later hb1) hs).mono ?_
    rintro e w2 ⟨rfl, hb2⟩
    have hed2 := hed1.later hb2
    obtain ⟨m1, m2, m3, m4⟩ := hed2
    have hown2 := hown.later hb2
    clear hed1
    go_wp2_with fail
    refine (index_any l _ x.m _ (hown2.sl srcE_len (by omega))).mono ?_
    rintro e w3 ⟨rfl, hb3⟩
    rw [Hf.out]
    obtain ⟨n1, n2, n3, n4⟩ := EdAt.later (x := x) ⟨m1, m2, m3, m4⟩ hb3
    have hown3 := hown2.later hb3
    have hsl3 := hown3.sl srcE_len (by omega)
    obtain ⟨A, c, rfl, hnc, hcap, hcell⟩ := hsl3
    unfold maxLen at hcap
    rcases hcell with rfl | ⟨b, off, rfl, hbB, hcell⟩
    · simp at hk
    obtain ⟨c1, c2⟩ := src_at hcell Hy.out
    clear m1 m2 m3 m4 hcell
    go_wp2_with fail
    go_ret2
    exact ⟨_, rfl, hown3.sl srcE_len (by omega), below_step (below_step (below_step hb0 hb1) hb2) hb3⟩

set_option maxHeartbeats 4000000 in
theorem apply_limit (l : List Src) (x : Ed) (v : Value) (w : World) (hv : Sl srcE 2 w w.heap.size v l) (hs : SzOk l) (hl : l.length ≤ 1000000000000) (hx : EdOk x) (hc2 : checkL l = true)
    (k : Nat) (y : Src) (H : NotYet l x.m k) (hy : l[k]? = some y) (hn : nameIs x.m y = true) (hi : inText y.2 x = true) (hz : ¬ ((y.2.size : Int) - x.cnt + x.text.size ≤ 20000)) :
    Calls Try.prog 20 #[v, edV x] w (PostL w (applyP l x)) := by
  have hb0 : Below w.heap.size w (w.alloc (.cells #[.string x.m, .int .i64 x.at_, .int .i64 x.cnt, .string x.text] 34)) := (Below.refl _ _).alloc (Nat.le_refl _) _
  have hv0 := hv.later hb0
  have hed := EdAt.new w x 34
  have he : errB (checkL l) = 0 := errB_t hc2
  rw [applyP_limit hc2 H hy hn hi hz]
  have hk : k < l.length := (List.getElem?_eq_some_iff.1 hy).1
  have hf : fIdx l x.m = k := fIdx_hit H hy hn
  have Hf := hid hf
  have sy := hs y (List.mem_of_getElem? hy)
  obtain ⟨i1, i2, i3⟩ := is_in hi
  have sy2 := sy.2
  obtain ⟨q1, q2, q3, q4, q5, q6⟩ := hx
  have Hy := hid hy
  have g1 : decide (x.at_ < 0) = false := by simp; omega
  have g2 : decide (x.cnt < 0) = false := by simp; omega
  have g3 : decide ((y.2.size : Int) < x.at_) = false := by simp; omega
  have g4 : decide ((y.2.size : Int) - x.at_ < x.cnt) = false := by simp; omega
  have hw2 : IntKind.i64.wrap ((y.2.size : Int) - x.at_) = (y.2.size : Int) - x.at_ := IntWalk.i64_in _ (by omega)
  have hw3 : IntKind.i64.wrap ((y.2.size : Int) - x.cnt) = (y.2.size : Int) - x.cnt := IntWalk.i64_in _ (by omega)
  have hw4 : IntKind.i64.wrap ((y.2.size : Int) - x.cnt + (x.text.size : Int)) = (y.2.size : Int) - x.cnt + (x.text.size : Int) := IntWalk.i64_in _ (by omega)
  have g5 : decide ((20000 : Int) < (y.2.size : Int) - x.cnt + (x.text.size : Int)) = true := by simp; omega
  clear hc2 hf hi hy hn H
  unfold edV
  go_enter Try.func20, Try.ntmps20
  go_wp2_with fail
  refine (clone_any l _ _ hv0 hl).mono ?_
  rintro e w1 ⟨v1, rfl, hown, hb1⟩
  have hed1 := hed.later hb1
  clear hed
  go_wp2_with fail
  refine (check_any l _ _ (hv0.later hb1) hs).mono ?_
  rintro e w2 ⟨rfl, hb2⟩
  have hed2 := hed1.later hb2
  obtain ⟨m1, m2, m3, m4⟩ := hed2
  have hown2 := hown.later hb2
  clear hed1
  go_wp2_with fail
  refine (index_any l _ x.m _ (hown2.sl srcE_len (by omega))).mono ?_
  rintro e w3 ⟨rfl, hb3⟩
  rw [Hf.out]
  obtain ⟨n1, n2, n3, n4⟩ := EdAt.later (x := x) ⟨m1, m2, m3, m4⟩ hb3
  have hown3 := hown2.later hb3
  have hsl3 := hown3.sl srcE_len (by omega)
  obtain ⟨A, c, rfl, hnc, hcap, hcell⟩ := hsl3
  unfold maxLen at hcap
  rcases hcell with rfl | ⟨b, off, rfl, hbB, hcell⟩
  · simp at hk
  obtain ⟨c1, c2⟩ := src_at hcell Hy.out
  clear m1 m2 m3 m4 hcell
  go_wp2_with fail
  go_ret2
  exact ⟨_, rfl, hown3.sl srcE_len (by omega), below_step (below_step (below_step hb0 hb1) hb2) hb3⟩

set_option maxHeartbeats 8000000 in
theorem apply_ok (l : List Src) (x : Ed) (v : Value) (w : World) (hv : Sl srcE 2 w w.heap.size v l) (hs : SzOk l) (hl : l.length ≤ 1000000000000) (hx : EdOk x) (hc2 : checkL l = true)
    (k : Nat) (y : Src) (H : NotYet l x.m k) (hy : l[k]? = some y) (hn : nameIs x.m y = true) (hi : inText y.2 x = true) (hz : (y.2.size : Int) - x.cnt + x.text.size ≤ 20000) :
    Calls Try.prog 20 #[v, edV x] w (PostL w (applyP l x)) := by
  have hb0 : Below w.heap.size w (w.alloc (.cells #[.string x.m, .int .i64 x.at_, .int .i64 x.cnt, .string x.text] 34)) := (Below.refl _ _).alloc (Nat.le_refl _) _
  have hv0 := hv.later hb0
  have hed := EdAt.new w x 34
  have he : errB (checkL l) = 0 := errB_t hc2
  rw [applyP_ok hc2 H hy hn hi hz]
  have hk : k < l.length := (List.getElem?_eq_some_iff.1 hy).1
  have hf : fIdx l x.m = k := fIdx_hit H hy hn
  have Hf := hid hf
  have sy := hs y (List.mem_of_getElem? hy)
  obtain ⟨i1, i2, i3⟩ := is_in hi
  have sy2 := sy.2
  obtain ⟨q1, q2, q3, q4, q5, q6⟩ := hx
  have Hy := hid hy
  have g1 : decide (x.at_ < 0) = false := by simp; omega
  have g2 : decide (x.cnt < 0) = false := by simp; omega
  have g3 : decide ((y.2.size : Int) < x.at_) = false := by simp; omega
  have g4 : decide ((y.2.size : Int) - x.at_ < x.cnt) = false := by simp; omega
  have hw2 : IntKind.i64.wrap ((y.2.size : Int) - x.at_) = (y.2.size : Int) - x.at_ := IntWalk.i64_in _ (by omega)
  have hw3 : IntKind.i64.wrap ((y.2.size : Int) - x.cnt) = (y.2.size : Int) - x.cnt := IntWalk.i64_in _ (by omega)
  have hw4 : IntKind.i64.wrap ((y.2.size : Int) - x.cnt + (x.text.size : Int)) = (y.2.size : Int) - x.cnt + (x.text.size : Int) := IntWalk.i64_in _ (by omega)
  have g5 : decide ((20000 : Int) < (y.2.size : Int) - x.cnt + (x.text.size : Int)) = false := by simp; omega
  clear hc2 hf hi hy hn H
  unfold edV
  go_enter Try.func20, Try.ntmps20
  go_wp2_with fail
  refine (clone_any l _ _ hv0 hl).mono ?_
  rintro e w1 ⟨v1, rfl, hown, hb1⟩
  have hed1 := hed.later hb1
  clear hed
  go_wp2_with fail
  refine (check_any l _ _ (hv0.later hb1) hs).mono ?_
  rintro e w2 ⟨rfl, hb2⟩
  have hed2 := hed1.later hb2
  obtain ⟨m1, m2, m3, m4⟩ := hed2
  have hown2 := hown.later hb2
  clear hed1
  go_wp2_with fail
  refine (index_any l _ x.m _ (hown2.sl srcE_len (by omega))).mono ?_
  rintro e w3 ⟨rfl, hb3⟩
  rw [Hf.out]
  obtain ⟨n1, n2, n3, n4⟩ := EdAt.later (x := x) ⟨m1, m2, m3, m4⟩ hb3
  have hown3 := hown2.later hb3
  have hbb := below_step (below_step (below_step hb0 hb1) hb2) hb3
  have hz1 := hb1.size
  have hz2 := hb2.size
  have hz3 := hb3.size
  have hwz : (w.alloc (.cells #[.string x.m, .int .i64 x.at_, .int .i64 x.cnt, .string x.text] 34)).heap.size = w.heap.size + 1 := by simp
  rcases hown3 with ⟨rfl, h0⟩ | ⟨g, off, n, cap, cs, rfl, n9, hbg, hg, hnc, hcap, hfit, hcs⟩
  · have := srcs_len l
    rw [h0] at this
    simp at this
    omega
  rw [srcs_len] at n9
  obtain rfl : n = l.length := by omega
  have k1 := flat_get srcE_len l k 0 y Hy.out (by omega)
  have k2 := flat_get srcE_len l k 1 y Hy.out (by omega)
  have t1 := hcs (k * 2 + 0) (.string y.1) (by rw [k1]; rfl)
  have t2 := hcs (k * 2 + 1) (.string y.2) (by rw [k2]; rfl)
  have p1 : w3.cell? ⟨g, off + k * 2, none⟩ = some (.string y.1) := by rw [cell_of_row _ _ _ _ _ _ hg]; exact t1
  have p2 : w3.cell? ⟨g, off + k * 2 + 1, none⟩ = some (.string y.2) := by rw [cell_of_row _ _ _ _ _ _ hg]; exact t2
  have p3 : w3.frozen? ⟨g, off + k * 2, none⟩ = false := by simp [World.frozen?, hg]
  have p4 : w3.frozen? ⟨g, off + k * 2 + 1, none⟩ = false := by simp [World.frozen?, hg]
  have Hg := hid hg
  have Hcs := hid hcs
  have Hwz := hid hwz
  have hcap' := hcap
  unfold maxLen at hcap
  clear m1 m2 m3 m4 hb1 hb2 hb3 hv hv0 hb0 k1 k2 t1 t2 hg hcs hwz
  have hw5 : IntKind.i64.wrap (x.at_ + x.cnt) = x.at_ + x.cnt := IntWalk.i64_in _ (by omega)
  have z1 : (y.2.extract 0 x.at_.toNat).size = x.at_.toNat := by rw [ByteArray.size_extract]; omega
  have z2 : (y.2.extract (x.at_ + x.cnt).toNat y.2.size).size = y.2.size - (x.at_ + x.cnt).toNat := by rw [ByteArray.size_extract]; omega
  go_wp2_with fail
  go_region
  go_wp2_with fail
  go_ret2
  have hgw : w.heap.size ≤ g := by have := Hwz.out; omega
  have es : spl y.2 x.at_.toNat x.cnt.toNat x.text = y.2.extract 0 x.at_.toNat ++ x.text ++ y.2.extract (x.at_ + x.cnt).toNat y.2.size := by unfold spl; rw [show x.at_.toNat + x.cnt.toNat = (x.at_ + x.cnt).toNat by omega]
  rw [es]
  have ho := own_field srcE_len (w := w3) k 1 y (y.1, y.2.extract 0 x.at_.toNat ++ x.text ++ y.2.extract (x.at_ + x.cnt).toNat y.2.size) (.string (y.2.extract 0 x.at_.toNat ++ x.text ++ y.2.extract (x.at_ + x.cnt).toNat y.2.size)) Hy.out (by omega) rfl (Nat.le_refl g) Hg.out hnc hcap' hfit Hcs.out
  exact ⟨_, rfl, ho.drew.sl srcE_len (by omega), (hbb.setCell (p := ⟨g, off + k * 2 + 1, none⟩) hgw _).drew⟩

/-- source.Apply, whatever it is given -/
theorem apply_any (l : List Src) (x : Ed) (v : Value) (w : World) (hv : Sl srcE 2 w w.heap.size v l) (hs : SzOk l) (hl : l.length ≤ 1000000000000) (hx : EdOk x) :
    Calls Try.prog 20 #[v, edV x] w (PostL w (applyP l x)) := by
  cases hc : checkL l
  · exact apply_early l x v w hv hs hl hx (.inl hc)
  · rcases fIdx_cases l x.m with ⟨_, H⟩ | ⟨k, y, _, _, hy, hn, H⟩
    · exact apply_early l x v w hv hs hl hx (.inr H)
    · cases hi : inText y.2 x
      · exact apply_range l x v w hv hs hl hx hc k y H hy hn hi
      · by_cases hz : (y.2.size : Int) - x.cnt + x.text.size ≤ 20000
        · exact apply_ok l x v w hv hs hl hx hc k y H hy hn hi hz
        · exact apply_limit l x v w hv hs hl hx hc k y H hy hn hi hz
end Go.Proofs.Ytpjpndbagkcgcaa
