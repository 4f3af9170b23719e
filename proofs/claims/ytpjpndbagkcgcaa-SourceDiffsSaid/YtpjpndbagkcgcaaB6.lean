/- The reference's Apply. -/
import Derived.Test.YtpjpndbagkcgcaaB5
set_option linter.unusedVariables false
set_option linter.unusedSimpArgs false
namespace Go.Proofs.Ytpjpndbagkcgcaa
open Go.RowKit

theorem putP_at {l : List Src} {x : Ed} {k : Nat} {y : Src} (h : checkL l = true) (H : NotYet l x.m k) (hy : l[k]? = some y) (hn : nameIs x.m y = true) (t : ByteArray) (ht : t.size ≤ 20000) : refputP l (x.m, t) = (l.set k (x.m, t), 0) := by
  rw [refput_eq]
  have ho := chk_ok h hy
  simp only [okSrc, Bool.and_eq_true] at ho
  have hk : okSrc (x.m, t) = true := by
    simp only [okSrc, Bool.and_eq_true, decide_eq_true_eq]
    exact ⟨by rw [← nameIs_eq hn]; exact ho.1, ht⟩
  have hf : fIdx l x.m = k := fIdx_hit H hy hn
  simp [putP, h, hk, hf]

set_option maxHeartbeats 2000000 in
theorem refapply_early (l : List Src) (x : Ed) (v : Value) (w : World) (hv : Sl srcE 2 w w.heap.size v l) (hs : SzOk l) (hl : l.length ≤ 1000000000000) (hx : EdOk x) (hc : checkL l = false ∨ NotYet l x.m l.length) :
    Calls Try.prog 41 #[v, edV x] w (PostL w (applyP l x)) := by
  have hb0 : Below w.heap.size w (w.alloc (.cells #[.string x.m, .int .i64 x.at_, .int .i64 x.cnt, .string x.text] 34)) := (Below.refl _ _).alloc (Nat.le_refl _) _
  have hv0 := hv.later hb0
  have hed := EdAt.new w x 34
  cases hc2 : checkL l
  · have he : errB (checkL l) = 1 := errB_f hc2
    rw [applyP_bad hc2]
    clear hc hc2
    unfold edV
    go_enter Try.func41, Try.ntmps41
    go_wp2_with fail
    refine (refcheck_any l _ _ hv0 hs).mono ?_
    rintro e w1 ⟨rfl, hb1⟩
    have hv1 := hv0.later hb1
    go_wp2_with fail
    refine (copy_any l _ _ hv1 hl).mono ?_
    rintro e w2 ⟨v1, rfl, hown, hb2⟩
    go_wp2_with fail
    go_ret2
    exact ⟨_, rfl, hown.sl srcE_len (by omega), below_step (below_step hb0 hb1) hb2⟩
  · have he : errB (checkL l) = 0 := errB_t hc2
    have H : NotYet l x.m l.length := by rcases hc with h | h; rw [hc2] at h; cases h; exact h
    rw [applyP_unknown hc2 H]
    have hf : findP l x.m = (⟨#[]⟩, false) := findP_none H (Nat.le_refl _)
    have Hf := hid hf
    clear hc hc2 hf
    unfold edV
    go_enter Try.func41, Try.ntmps41
    go_wp2_with fail
    refine (refcheck_any l _ _ hv0 hs).mono ?_
    rintro e w1 ⟨rfl, hb1⟩
    have hv1 := hv0.later hb1
    obtain ⟨m1, m2, m3, m4⟩ := hed.later hb1
    clear hed
    go_wp2_with (first
      | (go_at_call 21; refine (reffind_any l _ x.m _ hv1).mono ?_; rintro e w2 ⟨rfl, rfl⟩; rw [Hf.out])
      | (go_at_call 54; refine (copy_any l _ _ hv1 hl).mono ?_; rintro e w2 ⟨v1, rfl, hown, hb2⟩))
    go_ret2
    exact ⟨_, rfl, hown.sl srcE_len (by omega), below_step (below_step hb0 hb1) hb2⟩

set_option maxHeartbeats 4000000 in
theorem refapply_range (l : List Src) (x : Ed) (v : Value) (w : World) (hv : Sl srcE 2 w w.heap.size v l) (hs : SzOk l) (hl : l.length ≤ 1000000000000) (hx : EdOk x) (hc2 : checkL l = true)
    (k : Nat) (y : Src) (H : NotYet l x.m k) (hy : l[k]? = some y) (hn : nameIs x.m y = true) (hi : inText y.2 x = false) :
    Calls Try.prog 41 #[v, edV x] w (PostL w (applyP l x)) := by
  have hb0 : Below w.heap.size w (w.alloc (.cells #[.string x.m, .int .i64 x.at_, .int .i64 x.cnt, .string x.text] 34)) := (Below.refl _ _).alloc (Nat.le_refl _) _
  have hv0 := hv.later hb0
  have hed := EdAt.new w x 34
  have he : errB (checkL l) = 0 := errB_t hc2
  rw [applyP_range hc2 H hy hn hi]
  have hk : k < l.length := (List.getElem?_eq_some_iff.1 hy).1
  have hf : findP l x.m = (y.2, true) := findP_hit H hy hn
  have Hf := hid hf
  have sy := hs y (List.mem_of_getElem? hy)
  have sy2 := sy.2
  have hni := not_in hi sy.2
  obtain ⟨q1, q2, q3, q4, q5, q6⟩ := hx
  clear hc2 hf hi hy hn H
  rcases hni with g1 | ⟨g1, g2⟩ | ⟨g1, g2, g3⟩ | ⟨g1, g2, g3, g4⟩
  all_goals
    have hw : decide ((y.2.size : Int) < x.at_) = false → decide (x.at_ < 0) = false → IntKind.i64.wrap ((y.2.size : Int) - x.at_) = (y.2.size : Int) - x.at_ := fun a b => by
      simp only [decide_eq_false_iff_not] at a b
      exact IntWalk.i64_in _ (by omega)
    first | (have hw2 := hw g3 g1) | skip
    clear hw
    unfold edV
    go_enter Try.func41, Try.ntmps41
    go_wp2_with fail
    refine (refcheck_any l _ _ hv0 hs).mono ?_
    rintro e w1 ⟨rfl, hb1⟩
    have hv1 := hv0.later hb1
    obtain ⟨m1, m2, m3, m4⟩ := hed.later hb1
    clear hed
    go_wp2_with (first
      | (go_at_call 21; refine (reffind_any l _ x.m _ hv1).mono ?_; rintro e w2 ⟨rfl, rfl⟩; rw [Hf.out])
      | (go_at_call 54; refine (copy_any l _ _ hv1 hl).mono ?_; rintro e w2 ⟨v1, rfl, hown, hb2⟩))
    go_ret2
    exact ⟨_, rfl, hown.sl srcE_len (by omega), below_step (below_step hb0 hb1) hb2⟩

set_option maxHeartbeats 4000000 in
theorem refapply_limit (l : List Src) (x : Ed) (v : Value) (w : World) (hv : Sl srcE 2 w w.heap.size v l) (hs : SzOk l) (hl : l.length ≤ 1000000000000) (hx : EdOk x) (hc2 : checkL l = true)
    (k : Nat) (y : Src) (H : NotYet l x.m k) (hy : l[k]? = some y) (hn : nameIs x.m y = true) (hi : inText y.2 x = true) (hz : ¬ ((y.2.size : Int) - x.cnt + x.text.size ≤ 20000)) :
    Calls Try.prog 41 #[v, edV x] w (PostL w (applyP l x)) := by
  have hb0 : Below w.heap.size w (w.alloc (.cells #[.string x.m, .int .i64 x.at_, .int .i64 x.cnt, .string x.text] 34)) := (Below.refl _ _).alloc (Nat.le_refl _) _
  have hv0 := hv.later hb0
  have hed := EdAt.new w x 34
  have he : errB (checkL l) = 0 := errB_t hc2
  rw [applyP_limit hc2 H hy hn hi hz]
  have hk : k < l.length := (List.getElem?_eq_some_iff.1 hy).1
  have hf : findP l x.m = (y.2, true) := findP_hit H hy hn
  have Hf := hid hf
  have sy := hs y (List.mem_of_getElem? hy)
  have sy2 := sy.2
  obtain ⟨i1, i2, i3⟩ := is_in hi
  obtain ⟨q1, q2, q3, q4, q5, q6⟩ := hx
  have es : spl y.2 x.at_.toNat x.cnt.toNat x.text = y.2.extract 0 x.at_.toNat ++ x.text ++ y.2.extract (x.at_ + x.cnt).toNat y.2.size := by unfold spl; rw [show x.at_.toNat + x.cnt.toNat = (x.at_ + x.cnt).toNat by omega]
  have ez : (spl y.2 x.at_.toNat x.cnt.toNat x.text).size = y.2.size - x.cnt.toNat + x.text.size := spl_size (by omega)
  have g1 : decide (x.at_ < 0) = false := by simp; omega
  have g2 : decide (x.cnt < 0) = false := by simp; omega
  have g3 : decide ((y.2.size : Int) < x.at_) = false := by simp; omega
  have g4 : decide ((y.2.size : Int) - x.at_ < x.cnt) = false := by simp; omega
  have hw2 : IntKind.i64.wrap ((y.2.size : Int) - x.at_) = (y.2.size : Int) - x.at_ := IntWalk.i64_in _ (by omega)
  have hw5 : IntKind.i64.wrap (x.at_ + x.cnt) = x.at_ + x.cnt := IntWalk.i64_in _ (by omega)
  have z1 : (y.2.extract 0 x.at_.toNat).size = x.at_.toNat := by rw [ByteArray.size_extract]; omega
  have z2 : (y.2.extract (x.at_ + x.cnt).toNat y.2.size).size = y.2.size - (x.at_ + x.cnt).toNat := by rw [ByteArray.size_extract]; omega
  obtain ⟨now, hnow⟩ : ∃ s, s = y.2.extract 0 x.at_.toNat ++ x.text ++ y.2.extract (x.at_ + x.cnt).toNat y.2.size := ⟨_, rfl⟩
  have hns : (now.size : Int) = (y.2.size : Int) - x.cnt + x.text.size := by rw [hnow, ← es, ez]; omega
  have g5 : decide ((20000 : Int) < (now.size : Int)) = true := by simp; omega
  have Hy := hid (And.intro hc2 (And.intro H (And.intro hy hn)))
  rw [← hnow] at es
  have Hes := hid es
  have Hnow := hid hnow
  clear hc2 hf hi hy hn H es hnow ez
  unfold edV
  go_enter Try.func41, Try.ntmps41
  go_wp2_with fail
  refine (refcheck_any l _ _ hv0 hs).mono ?_
  rintro e w1 ⟨rfl, hb1⟩
  have hv1 := hv0.later hb1
  obtain ⟨m1, m2, m3, m4⟩ := hed.later hb1
  clear hed
  go_wp2_with (go_at_call 21; refine (reffind_any l _ x.m _ hv1).mono ?_; rintro e w2 ⟨rfl, rfl⟩; rw [Hf.out])
  go_quiet (fail)
  rw [← Hnow.out]
  go_wp2_with fail
  refine (copy_any l _ _ (hv1.later ((Dr.refl _).next _ |>.below _)) hl).mono ?_
  rintro e w2 ⟨v1, rfl, hown, hb2⟩
  go_wp2_with fail
  go_ret2
  exact ⟨_, rfl, hown.sl srcE_len (by omega), below_step (below_step (below_step hb0 hb1) ((Dr.refl _).next _ |>.below _)) hb2⟩

set_option maxHeartbeats 4000000 in
theorem refapply_ok (l : List Src) (x : Ed) (v : Value) (w : World) (hv : Sl srcE 2 w w.heap.size v l) (hs : SzOk l) (hl : l.length ≤ 1000000000000) (hx : EdOk x) (hc2 : checkL l = true)
    (k : Nat) (y : Src) (H : NotYet l x.m k) (hy : l[k]? = some y) (hn : nameIs x.m y = true) (hi : inText y.2 x = true) (hz : (y.2.size : Int) - x.cnt + x.text.size ≤ 20000) :
    Calls Try.prog 41 #[v, edV x] w (PostL w (applyP l x)) := by
  have hb0 : Below w.heap.size w (w.alloc (.cells #[.string x.m, .int .i64 x.at_, .int .i64 x.cnt, .string x.text] 34)) := (Below.refl _ _).alloc (Nat.le_refl _) _
  have hv0 := hv.later hb0
  have hed := EdAt.new w x 34
  have he : errB (checkL l) = 0 := errB_t hc2
  rw [applyP_ok hc2 H hy hn hi hz]
  have hk : k < l.length := (List.getElem?_eq_some_iff.1 hy).1
  have hf : findP l x.m = (y.2, true) := findP_hit H hy hn
  have Hf := hid hf
  have sy := hs y (List.mem_of_getElem? hy)
  have sy2 := sy.2
  obtain ⟨i1, i2, i3⟩ := is_in hi
  obtain ⟨q1, q2, q3, q4, q5, q6⟩ := hx
  have es : spl y.2 x.at_.toNat x.cnt.toNat x.text = y.2.extract 0 x.at_.toNat ++ x.text ++ y.2.extract (x.at_ + x.cnt).toNat y.2.size := by unfold spl; rw [show x.at_.toNat + x.cnt.toNat = (x.at_ + x.cnt).toNat by omega]
  have ez : (spl y.2 x.at_.toNat x.cnt.toNat x.text).size = y.2.size - x.cnt.toNat + x.text.size := spl_size (by omega)
  have g1 : decide (x.at_ < 0) = false := by simp; omega
  have g2 : decide (x.cnt < 0) = false := by simp; omega
  have g3 : decide ((y.2.size : Int) < x.at_) = false := by simp; omega
  have g4 : decide ((y.2.size : Int) - x.at_ < x.cnt) = false := by simp; omega
  have hw2 : IntKind.i64.wrap ((y.2.size : Int) - x.at_) = (y.2.size : Int) - x.at_ := IntWalk.i64_in _ (by omega)
  have hw5 : IntKind.i64.wrap (x.at_ + x.cnt) = x.at_ + x.cnt := IntWalk.i64_in _ (by omega)
  have z1 : (y.2.extract 0 x.at_.toNat).size = x.at_.toNat := by rw [ByteArray.size_extract]; omega
  have z2 : (y.2.extract (x.at_ + x.cnt).toNat y.2.size).size = y.2.size - (x.at_ + x.cnt).toNat := by rw [ByteArray.size_extract]; omega
  obtain ⟨now, hnow⟩ : ∃ s, s = y.2.extract 0 x.at_.toNat ++ x.text ++ y.2.extract (x.at_ + x.cnt).toNat y.2.size := ⟨_, rfl⟩
  have hns : (now.size : Int) = (y.2.size : Int) - x.cnt + x.text.size := by rw [hnow, ← es, ez]; omega
  have g5 : decide ((20000 : Int) < (now.size : Int)) = false := by simp; omega
  have Hy := hid (And.intro hc2 (And.intro H (And.intro hy hn)))
  rw [← hnow] at es
  have Hes := hid es
  have Hnow := hid hnow
  clear hc2 hf hi hy hn H es hnow ez
  unfold edV
  go_enter Try.func41, Try.ntmps41
  go_wp2_with fail
  refine (refcheck_any l _ _ hv0 hs).mono ?_
  rintro e w1 ⟨rfl, hb1⟩
  have hv1 := hv0.later hb1
  obtain ⟨m1, m2, m3, m4⟩ := hed.later hb1
  clear hed
  go_wp2_with (go_at_call 21; refine (reffind_any l _ x.m _ hv1).mono ?_; rintro e w2 ⟨rfl, rfl⟩; rw [Hf.out])
  go_quiet (fail)
  rw [← Hnow.out]
  go_wp2_with fail
  refine (refput_any l (x.m, now) _ _ (hv1.later ((Dr.refl _).next _ |>.below _)) hs hl q1 (by simp only []; omega)).mono ?_
  obtain ⟨y1, y2, y3, y4⟩ := Hy.out
  rw [putP_at y1 y2 y3 y4 now (by omega)]
  rintro e w2 ⟨v1, rfl, hsl, hb2⟩
  have Hsl := hid hsl
  clear hsl y3
  go_wp2_with fail
  go_ret2
  rw [Hes.out, nameIs_eq y4]
  exact ⟨_, rfl, Hsl.out, below_step (below_step (below_step hb0 hb1) ((Dr.refl _).next _ |>.below _)) hb2⟩

/-- the reference's Apply, whatever it is given -/
theorem refapply_any (l : List Src) (x : Ed) (v : Value) (w : World) (hv : Sl srcE 2 w w.heap.size v l) (hs : SzOk l) (hl : l.length ≤ 1000000000000) (hx : EdOk x) :
    Calls Try.prog 41 #[v, edV x] w (PostL w (applyP l x)) := by
  cases hc : checkL l
  · exact refapply_early l x v w hv hs hl hx (.inl hc)
  · rcases fIdx_cases l x.m with ⟨_, H⟩ | ⟨k, y, _, _, hy, hn, H⟩
    · exact refapply_early l x v w hv hs hl hx (.inr H)
    · cases hi : inText y.2 x
      · exact refapply_range l x v w hv hs hl hx hc k y H hy hn hi
      · by_cases hz : (y.2.size : Int) - x.cnt + x.text.size ≤ 20000
        · exact refapply_ok l x v w hv hs hl hx hc k y H hy hn hi hz
        · exact refapply_limit l x v w hv hs hl hx hc k y H hy hn hi hz
end Go.Proofs.Ytpjpndbagkcgcaa
