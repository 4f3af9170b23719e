/- source.Put, Drop, Find. -/
import Derived.Test.YtpjpndbagkcgcaaA7
set_option linter.unusedVariables false
set_option linter.unusedSimpArgs false
namespace Go.Proofs.Ytpjpndbagkcgcaa
open Go.RowKit

/-- how many modules stand ahead of a name -/
def cnt (l : List Src) (n : ByteArray) : Nat := (l.takeWhile (fun x => bl x.1 n)).length
def putP (l : List Src) (s : Src) : List Src × Int :=
  if checkL l then (if okSrc s then (if 0 ≤ fIdx l s.1 then (l.set (fIdx l s.1).toNat s, 0) else (insAt l (cnt l s.1) s, 0)) else (l, 2)) else (l, 1)
/-- what a function that returns sources and an error leaves -/
def PostL (w : World) (r : List Src × Int) (e : Ending) (w' : World) : Prop := ∃ v', e = .returned (.tuple #[v', .int .i64 r.2]) ∧ Sl srcE 2 w' w'.heap.size v' r.1 ∧ Below w.heap.size w w'

theorem errB_t {b : Bool} (h : b = true) : errB b = 0 := by rw [h]; rfl
theorem errB_f {b : Bool} (h : b = false) : errB b = 1 := by rw [h]; rfl

theorem cell_new2 (w : World) (x y : Value) (t : TypeId) : (w.alloc (.cells #[x, y] t)).cell? ⟨w.heap.size, 0, none⟩ = some x ∧ (w.alloc (.cells #[x, y] t)).cell? ⟨w.heap.size, 1, none⟩ = some y := by
  constructor <;> rw [cell_of_row _ _ _ _ _ _ (heap_alloc_new w _)] <;> rfl

set_option maxHeartbeats 2000000 in
theorem put_bad (l : List Src) (s : Src) (v : Value) (w : World) (hv : Sl srcE 2 w w.heap.size v l) (hs : SzOk l) (hl : l.length ≤ 1000000000000) (hc : checkL l = false) :
    Calls Try.prog 26 #[v, .agg #[.string s.1, .string s.2]] w (PostL w (putP l s)) := by
  have hb0 : Below w.heap.size w (w.alloc (.cells #[.string s.1, .string s.2] 39)) := (Below.refl _ _).alloc (Nat.le_refl _) _
  have hv0 := hv.later hb0
  have he : errB (checkL l) = 1 := errB_f hc
  have hp : putP l s = (l, 1) := by simp [putP, hc]
  rw [hp]
  clear hc hp
  go_enter Try.func26, Try.ntmps26
  go_wp2_with fail
  refine (clone_any l _ _ hv0 hl).mono ?_
  rintro e w1 ⟨v1, rfl, hown, hb1⟩
  go_wp2_with fail
  refine (check_any l _ _ (hv0.later (hb1.mono (by simp))) hs).mono ?_
  rintro e w2 ⟨rfl, hb2⟩
  go_wp2_with fail
  go_ret2
  exact ⟨_, rfl, (hown.sl srcE_len (by omega)).later hb2, below_step (below_step hb0 hb1) hb2⟩

set_option maxHeartbeats 2000000 in
theorem put_range (l : List Src) (s : Src) (v : Value) (w : World) (hv : Sl srcE 2 w w.heap.size v l) (hs : SzOk l) (hl : l.length ≤ 1000000000000) (hc : checkL l = true) (h1 : s.1.size ≤ 140737488355328) (h2 : s.2.size ≤ 140737488355328) (hok : okSrc s = false) :
    Calls Try.prog 26 #[v, .agg #[.string s.1, .string s.2]] w (PostL w (putP l s)) := by
  have hb0 : Below w.heap.size w (w.alloc (.cells #[.string s.1, .string s.2] 39)) := (Below.refl _ _).alloc (Nat.le_refl _) _
  have hv0 := hv.later hb0
  have he : errB (checkL l) = 0 := errB_t hc
  have hp : putP l s = (l, 2) := by simp [putP, hc, hok]
  have hok' : okSrc (s.1, s.2) = false := hok
  obtain ⟨e1, e2⟩ := cell_new2 w (.string s.1) (.string s.2) 39
  rw [hp]
  clear hc hp hok
  go_enter Try.func26, Try.ntmps26
  go_wp2_with fail
  refine (clone_any l _ _ hv0 hl).mono ?_
  rintro e w1 ⟨v1, rfl, hown, hb1⟩
  have f1 := (hb1.cell (p := ⟨w.heap.size, 0, none⟩) (by simp)).trans e1
  have f2 := (hb1.cell (p := ⟨w.heap.size, 1, none⟩) (by simp)).trans e2
  have hz := hb1.size
  simp only [World.size_alloc] at hz
  go_wp2_with fail
  refine (check_any l _ _ (hv0.later (hb1.mono (by simp))) hs).mono ?_
  rintro e w2 ⟨rfl, hb2⟩
  have g1 := (hb2.cell (p := ⟨w.heap.size, 0, none⟩) (by show w.heap.size < _; omega)).trans f1
  have g2 := (hb2.cell (p := ⟨w.heap.size, 1, none⟩) (by show w.heap.size < _; omega)).trans f2
  clear f1 f2 e1 e2
  go_wp2_with fail
  refine (permitted_any s.1 s.2 _ h1 h2).mono ?_
  rintro e w3 ⟨rfl, hb3⟩
  go_wp2_with fail
  go_ret2
  exact ⟨_, rfl, ((hown.sl srcE_len (by omega)).later hb2).later hb3, below_step (below_step (below_step hb0 hb1) hb2) hb3⟩

set_option maxHeartbeats 4000000 in
theorem put_found (l : List Src) (s : Src) (v : Value) (w : World) (hv : Sl srcE 2 w w.heap.size v l) (hs : SzOk l) (hl : l.length ≤ 1000000000000) (hc : checkL l = true) (h1 : s.1.size ≤ 140737488355328) (h2 : s.2.size ≤ 140737488355328) (hok : okSrc s = true)
    (k : Nat) (hk : fIdx l s.1 = k) (hkl : k < l.length) :
    Calls Try.prog 26 #[v, .agg #[.string s.1, .string s.2]] w (PostL w (putP l s)) := by
  have hb0 : Below w.heap.size w (w.alloc (.cells #[.string s.1, .string s.2] 39)) := (Below.refl _ _).alloc (Nat.le_refl _) _
  have hv0 := hv.later hb0
  have he : errB (checkL l) = 0 := errB_t hc
  have hp : putP l s = (l.set k s, 0) := by simp [putP, hc, hok, hk]
  have hok' : okSrc (s.1, s.2) = true := hok
  obtain ⟨e1, e2⟩ := cell_new2 w (.string s.1) (.string s.2) 39
  rw [hp]
  clear hc hp hok
  go_enter Try.func26, Try.ntmps26
  go_wp2_with fail
  refine (clone_any l _ _ hv0 hl).mono ?_
  rintro e w1 ⟨v1, rfl, hown, hb1⟩
  have f1 := (hb1.cell (p := ⟨w.heap.size, 0, none⟩) (by simp)).trans e1
  have f2 := (hb1.cell (p := ⟨w.heap.size, 1, none⟩) (by simp)).trans e2
  have hz := hb1.size
  simp only [World.size_alloc] at hz
  go_wp2_with fail
  refine (check_any l _ _ (hv0.later (hb1.mono (by simp))) hs).mono ?_
  rintro e w2 ⟨rfl, hb2⟩
  have g1 := (hb2.cell (p := ⟨w.heap.size, 0, none⟩) (by show w.heap.size < _; omega)).trans f1
  have g2 := (hb2.cell (p := ⟨w.heap.size, 1, none⟩) (by show w.heap.size < _; omega)).trans f2
  have hz2 := hb2.size
  have hown2 := hown.later hb2
  clear f1 f2 e1 e2 hown
  go_wp2_with fail
  refine (permitted_any s.1 s.2 _ h1 h2).mono ?_
  rintro e w3 ⟨rfl, hb3⟩
  have i1 := (hb3.cell (p := ⟨w.heap.size, 0, none⟩) (by show w.heap.size < _; omega)).trans g1
  have i2 := (hb3.cell (p := ⟨w.heap.size, 1, none⟩) (by show w.heap.size < _; omega)).trans g2
  have hz3 := hb3.size
  have hown3 := hown2.later hb3
  clear g1 g2 hown2
  go_wp2_with fail
  refine (index_any l _ s.1 _ (hown3.sl srcE_len (by omega))).mono ?_
  rintro e w4 ⟨rfl, hb4⟩
  have j1 := (hb4.cell (p := ⟨w.heap.size, 0, none⟩) (by show w.heap.size < _; omega)).trans i1
  have j2 := (hb4.cell (p := ⟨w.heap.size, 1, none⟩) (by show w.heap.size < _; omega)).trans i2
  have hz4 := hb4.size
  have hown4 := hown3.later hb4
  clear i1 i2 hown3
  have hbb := below_step (below_step (below_step (below_step hb0 hb1) hb2) hb3) hb4
  have hwz : (w.alloc (.cells #[.string s.1, .string s.2] 39)).heap.size = w.heap.size + 1 := by simp
  rcases hown4 with ⟨rfl, h0⟩ | ⟨g, off, n, cap, cs, rfl, n1, hbg, hg, hnc, hcap, hfit, hcs⟩
  · have := srcs_len l
    rw [h0] at this
    simp at this
    omega
  rw [srcs_len] at n1
  obtain rfl : n = l.length := by omega
  have q1 : w4.cell? ⟨g, off + k * 2, none⟩ = some (cs[off + k * 2]'(by omega)) := by rw [cell_of_row _ _ _ _ _ _ hg, Array.getElem?_eq_getElem (by omega)]
  have q2 : w4.cell? ⟨g, off + k * 2 + 1, none⟩ = some (cs[off + k * 2 + 1]'(by omega)) := by rw [cell_of_row _ _ _ _ _ _ hg, Array.getElem?_eq_getElem (by omega)]
  have q3 : w4.frozen? ⟨g, off + k * 2, none⟩ = false := by simp [World.frozen?, hg]
  have q4 : w4.frozen? ⟨g, off + k * 2 + 1, none⟩ = false := by simp [World.frozen?, hg]
  have Hg := hid hg
  have Hcs := hid hcs
  have Hwz := hid hwz
  clear hg hcs hwz
  have hcap' := hcap
  unfold maxLen at hcap
  clear hb1 hb2 hb3 hb4 hv hv0 hb0
  go_wp2_with fail
  go_ret2
  have ho := own_set srcE_len (cap := cap) k s hkl (Nat.le_refl g) Hg.out hnc hcap' hfit Hcs.out
  refine ⟨_, rfl, ho.sl srcE_len (by omega), ?_⟩
  have hgw : w.heap.size ≤ g := by have := Hwz.out; omega
  exact (hbb.setCell (p := ⟨g, off + k * 2, none⟩) hgw _).setCell (p := ⟨g, off + k * 2 + 1, none⟩) hgw _

theorem cnt_eq {l : List Src} {n : ByteArray} {k : Nat} (hk : k ≤ l.length) (h : ∀ j x, j < k → l[j]? = some x → bl x.1 n = true) (he : k = l.length ∨ ∃ x, l[k]? = some x ∧ bl x.1 n = false) : cnt l n = k := by
  unfold cnt
  induction l generalizing k with
  | nil => simp at hk; simp [hk]
  | cons y r ih =>
    cases k with
    | zero =>
      rcases he with h0 | ⟨x, hx, hb⟩
      · simp at h0
      · simp only [List.getElem?_cons_zero, Option.some.injEq] at hx
        subst hx
        simp [hb]
    | succ k =>
      have hy := h 0 y (by omega) rfl
      rw [List.takeWhile_cons, if_pos hy, List.length_cons]
      congr 1
      refine ih (by simpa using hk) (fun j x hj hx => h (j + 1) x (by omega) (by simpa using hx)) ?_
      rcases he with h0 | ⟨x, hx, hb⟩
      · left; simpa using h0
      · right; exact ⟨x, by simpa using hx, hb⟩
theorem cnt_le (l : List Src) (n : ByteArray) : cnt l n ≤ l.length := by
  unfold cnt; exact (List.takeWhile_sublist _).length_le

set_option maxHeartbeats 4000000 in
theorem put_new (l : List Src) (s : Src) (v : Value) (w : World) (hv : Sl srcE 2 w w.heap.size v l) (hs : SzOk l) (hl : l.length ≤ 1000000000000) (hc : checkL l = true) (h1 : s.1.size ≤ 140737488355328) (h2 : s.2.size ≤ 140737488355328) (hok : okSrc s = true)
    (hk : fIdx l s.1 = -1) :
    Calls Try.prog 26 #[v, .agg #[.string s.1, .string s.2]] w (PostL w (putP l s)) := by
  have hb0 : Below w.heap.size w (w.alloc (.cells #[.string s.1, .string s.2] 39)) := (Below.refl _ _).alloc (Nat.le_refl _) _
  have hv0 := hv.later hb0
  have he : errB (checkL l) = 0 := errB_t hc
  have hp : putP l s = (insAt l (cnt l s.1) s, 0) := by simp [putP, hc, hok, hk]
  have hok' : okSrc (s.1, s.2) = true := hok
  obtain ⟨e1, e2⟩ := cell_new2 w (.string s.1) (.string s.2) 39
  have hwz : (w.alloc (.cells #[.string s.1, .string s.2] 39)).heap.size = w.heap.size + 1 := by simp
  rw [hp]
  clear hc hp hok
  go_enter Try.func26, Try.ntmps26
  go_upto_block 0 with (first
    | (go_at_call 35; refine (clone_any l _ _ hv0 hl).mono ?_; rintro e w1 ⟨v1, rfl, hown1, hb1⟩
       have hz1 := hb1.size; rw [hwz] at hz1
       have a1 := (hb1.cell (p := ⟨w.heap.size, 0, none⟩) (by simp)).trans e1; have a2 := (hb1.cell (p := ⟨w.heap.size, 1, none⟩) (by simp)).trans e2; clear e1 e2)
    | (go_at_call 36; refine (check_any l _ _ (hv0.later (hb1.mono (by simp))) hs).mono ?_; rintro e w2 ⟨rfl, hb2⟩
       have hz2 := hb2.size; have b1 := (hb2.cell (p := ⟨w.heap.size, 0, none⟩) (by show w.heap.size < _; omega)).trans a1; have b2 := (hb2.cell (p := ⟨w.heap.size, 1, none⟩) (by show w.heap.size < _; omega)).trans a2; have hown2 := hown1.later hb2; clear a1 a2 hown1)
    | (go_at_call 44; refine (permitted_any s.1 s.2 _ h1 h2).mono ?_; rintro e w3 ⟨rfl, hb3⟩
       have hz3 := hb3.size; have c1 := (hb3.cell (p := ⟨w.heap.size, 0, none⟩) (by show w.heap.size < _; omega)).trans b1; have c2 := (hb3.cell (p := ⟨w.heap.size, 1, none⟩) (by show w.heap.size < _; omega)).trans b2; have hown3 := hown2.later hb3; clear b1 b2 hown2)
    | (go_at_call 37; refine (index_any l _ s.1 _ (hown3.sl srcE_len (by omega))).mono ?_; rintro e w4 ⟨rfl, hb4⟩
       have hz4 := hb4.size; have d1 := (hb4.cell (p := ⟨w.heap.size, 0, none⟩) (by show w.heap.size < _; omega)).trans c1; have d2 := (hb4.cell (p := ⟨w.heap.size, 1, none⟩) (by show w.heap.size < _; omega)).trans c2; have hown4 := hown3.later hb4; clear c1 c2 hown3))
  have hbb := below_step (below_step (below_step (below_step hb0 hb1) hb2) hb3) hb4
  rw [hwz] at hown4
  have hzw : w.heap.size + 1 ≤ w4.heap.size := by omega
  have hsl := hown4.sl srcE_len (by omega)
  obtain ⟨A, c, rfl, hnc, hcap, hcell⟩ := hsl
  have Hown := hid hown4
  have Hcell := hid hcell
  have Hd2 := hid d2
  have Hwz := hid hwz
  have hcap' := hcap
  unfold maxLen at hcap
  clear hb0 hb1 hb2 hb3 hb4 hv hv0 hown4 hcell hz1 hwz
  go_cut [8] (fun i wr => Dr w4 wr ∧ i = .int .i64 (cnt l s.1 : Nat))
  case first =>
    go_wp2_with fail
    go_loopw [8] (fun i wr => Dr w4 wr ∧ ∃ k : Nat, k ≤ l.length ∧ i = .int .i64 k ∧ Hid (∀ j x, j < k → l[j]? = some x → bl x.1 s.1 = true)) (fun i _ => l.length - (intOf i).toNat)
    case atStart => exact ⟨Dr.refl _, 0, Nat.zero_le _, rfl, fun j x h => absurd h (by omega)⟩
    case round =>
      obtain ⟨hd, k, hkl, rfl, H⟩ := hrel
      have g1 := ((hd.below w4.heap.size).cell (p := ⟨w.heap.size, 0, none⟩) (World.block_lt_of_cell? _ _ d1)).trans d1
      by_cases hlt : k < l.length
      · rcases Hcell.out with rfl | ⟨b, off, rfl, hbB, hcell⟩
        · simp at hlt
        obtain ⟨x, hx⟩ : ∃ x, l[k]? = some x := ⟨_, List.getElem?_eq_getElem hlt⟩
        obtain ⟨c1, _⟩ := src_at hcell hx
        have g2 := ((hd.below w4.heap.size).cell (by exact hbB)).trans c1
        have Hx := hid hx
        clear hx c1
        cases hbl : bl x.1 s.1
        · have hbl' : Op.bytesLess x.1.toList s.1.toList = false := hbl
          have Hbl := hid hbl
          clear hbl
          go_wp2
          go_quiet (fail)
          go_wp2
          go_meet
          exact ⟨hd.next _, int_eq (by rw [cnt_eq hkl H.out (.inr ⟨x, Hx.out, Hbl.out⟩)])⟩
        · have hbl' : Op.bytesLess x.1.toList s.1.toList = true := hbl
          have Hbl := hid hbl
          clear hbl
          go_wp2
          go_quiet (fail)
          go_wp2
          go_roundw
          case rel => exact ⟨hd.next _, k + 1, by omega, by go_num, fun j y hj hy => by
            rcases Nat.lt_or_ge j k with h4 | h4
            · exact H.out j y h4 hy
            · obtain rfl : j = k := by omega
              rw [Hx.out] at hy; injection hy with hy; subst hy; exact Hbl.out⟩
          case measure => simp [intOf]; omega
      · go_wp2
        go_quiet (fail)
        go_wp2
        go_meet
        exact ⟨hd.next _, int_eq (by rw [cnt_eq hkl H.out (.inl (by omega))])⟩
  case rest =>
    obtain ⟨hd, rfl⟩ := hcut
    have hbd := hd.below w4.heap.size
    have g1 := (hbd.cell (p := ⟨w.heap.size, 0, none⟩) (World.block_lt_of_cell? _ _ d1)).trans d1
    have g2 := (hbd.cell (p := ⟨w.heap.size, 1, none⟩) (World.block_lt_of_cell? _ _ Hd2.out)).trans Hd2.out
    have ho5 : Own (wc.alloc (.cells #[.string s.1, .string s.2] 39)) (w.heap.size + 1) 39 2 (.slice A l.length c) (l.flatMap srcE) := (Hown.out.later hbd).alloc _
    have hne : (Value.slice A l.length c).ownBlock ≠ some wc.heap.size := fun e => by
      have := (Hown.out.later hbd).blk _ e
      omega
    have hzc := hbd.size
    have hzz := hbb.size
    have Ho5 := hid ho5
    have Hne := hid hne
    clear ho5 hne
    go_wp2_with fail
    refine (insert_any l s _ (cnt l s.1) _ (w.heap.size + 1) Ho5.out (cnt_le _ _) hl (by simp; omega) wc.heap.size (heap_alloc_new wc _) Hne.out).mono ?_
    rintro e w6 ⟨v6, rfl, hown6, hg6⟩
    go_wp2_with fail
    go_ret2
    exact ⟨_, rfl, hown6.sl srcE_len (by omega), ((below_step hbb hbd).alloc (by omega) _).grown hg6 (by simp; omega) (fun k hk => by have := (Ho5.out.blk k hk).1; omega)⟩

/-- source.Put, whatever it is given -/
theorem put_any (l : List Src) (s : Src) (v : Value) (w : World) (hv : Sl srcE 2 w w.heap.size v l) (hs : SzOk l) (hl : l.length ≤ 1000000000000) (h1 : s.1.size ≤ 140737488355328) (h2 : s.2.size ≤ 140737488355328) :
    Calls Try.prog 26 #[v, .agg #[.string s.1, .string s.2]] w (PostL w (putP l s)) := by
  cases hc : checkL l
  · exact put_bad l s v w hv hs hl hc
  · cases hok : okSrc s
    · exact put_range l s v w hv hs hl hc h1 h2 hok
    · rcases fIdx_cases l s.1 with ⟨h, _⟩ | ⟨k, x, h, hk, _⟩
      · exact put_new l s v w hv hs hl hc h1 h2 hok h
      · exact put_found l s v w hv hs hl hc h1 h2 hok k h hk

end Go.Proofs.Ytpjpndbagkcgcaa
