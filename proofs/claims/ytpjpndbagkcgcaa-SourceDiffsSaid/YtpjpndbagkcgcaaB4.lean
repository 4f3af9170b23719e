/- source.Drop and the reference's Drop. -/
import Derived.Test.YtpjpndbagkcgcaaB3
set_option linter.unusedVariables false
set_option linter.unusedSimpArgs false
namespace Go.Proofs.Ytpjpndbagkcgcaa
open Go.RowKit

def dropP (l : List Src) (n : ByteArray) : List Src × Int := if checkL l then (if 0 ≤ fIdx l n then (delAt l (fIdx l n).toNat, 0) else (l, 4)) else (l, 1)
def outF (n : ByteArray) (l : List Src) : List Src := l.filter (fun x => !nameIs n x)
def refdropP (l : List Src) (n : ByteArray) : List Src × Int := if checkL l then (if (findP l n).2 then (outF n l, 0) else (l, 4)) else (l, 1)

set_option maxHeartbeats 2000000 in
theorem drop_any (l : List Src) (n : ByteArray) (v : Value) (w : World) (hv : Sl srcE 2 w w.heap.size v l) (hs : SzOk l) (hl : l.length ≤ 1000000000000) :
    Calls Try.prog 39 #[v, .string n] w (PostL w (dropP l n)) := by
  cases hc : checkL l
  · have he : errB (checkL l) = 1 := errB_f hc
    have hp : dropP l n = (l, 1) := by simp [dropP, hc]
    rw [hp]
    clear hc hp
    go_enter Try.func39, Try.ntmps39
    go_wp2_with fail
    refine (clone_any l _ _ hv hl).mono ?_
    rintro e w1 ⟨v1, rfl, hown, hb1⟩
    go_wp2_with fail
    refine (check_any l _ _ (hv.later hb1) hs).mono ?_
    rintro e w2 ⟨rfl, hb2⟩
    go_wp2_with fail
    go_ret2
    exact ⟨_, rfl, (hown.sl srcE_len (by omega)).later hb2, below_step hb1 hb2⟩
  · have he : errB (checkL l) = 0 := errB_t hc
    rcases fIdx_cases l n with ⟨h, H⟩ | ⟨k, x, h, hk, hx, hn, H⟩
    · have hp : dropP l n = (l, 4) := by simp [dropP, hc, h]
      rw [hp]
      have Hf := hid h
      clear hc hp h
      go_enter Try.func39, Try.ntmps39
      go_wp2_with fail
      refine (clone_any l _ _ hv hl).mono ?_
      rintro e w1 ⟨v1, rfl, hown, hb1⟩
      go_wp2_with fail
      refine (check_any l _ _ (hv.later hb1) hs).mono ?_
      rintro e w2 ⟨rfl, hb2⟩
      have hown2 := hown.later hb2
      go_wp2_with fail
      refine (index_any l _ n _ (hown2.sl srcE_len (by omega))).mono ?_
      rintro e w3 ⟨rfl, hb3⟩
      rw [Hf.out]
      go_wp2_with fail
      go_ret2
      exact ⟨_, rfl, (hown2.later hb3).sl srcE_len (by omega), below_step (below_step hb1 hb2) hb3⟩
    · have hp : dropP l n = (delAt l k, 0) := by simp [dropP, hc, h]
      rw [hp]
      have Hf := hid h
      clear hc hp h hx hn H
      go_enter Try.func39, Try.ntmps39
      go_wp2_with fail
      refine (clone_any l _ _ hv hl).mono ?_
      rintro e w1 ⟨v1, rfl, hown, hb1⟩
      go_wp2_with fail
      refine (check_any l _ _ (hv.later hb1) hs).mono ?_
      rintro e w2 ⟨rfl, hb2⟩
      have hown2 := hown.later hb2
      go_wp2_with fail
      refine (index_any l _ n _ (hown2.sl srcE_len (by omega))).mono ?_
      rintro e w3 ⟨rfl, hb3⟩
      rw [Hf.out]
      have hown3 := hown2.later hb3
      have hz := (below_step hb1 (below_step hb2 hb3)).size
      have hk2 : IntKind.i64.wrap ((k : Int) + 1) = (k : Int) + 1 := IntWalk.i64_in _ (by omega)
      go_wp2_with fail
      refine (delete_any l _ k _ w.heap.size hown3 hk hl).mono ?_
      rintro e w4 ⟨v4, rfl, hown4, hg⟩
      go_wp2_with fail
      go_ret2
      exact ⟨_, rfl, hown4.sl srcE_len (by omega), (below_step (below_step hb1 hb2) hb3).grown hg hz (fun j hj => (hown3.blk j hj).1)⟩

theorem outF_step {n : ByteArray} {l ys : List Src} {k : Nat} {x : Src} (H : Hid (ys = outF n (l.take k))) (hx : l[k]? = some x) : Hid ((if nameIs n x then ys else ys ++ [x]) = outF n (l.take (k + 1))) := by
  obtain ⟨hk, e⟩ := List.getElem?_eq_some_iff.1 hx
  show _ = _
  rw [List.take_succ_eq_append_getElem hk, outF, List.filter_append, e, H.out]
  cases h : nameIs n x <;> simp [h, outF]
theorem findP_not {l : List Src} {n : ByteArray} (h : (findP l n).2 = false) : ∀ x ∈ l, nameIs n x = false := by
  unfold findP at h
  cases h' : l.findIdx? (nameIs n) with
  | none => rw [List.findIdx?_eq_none_iff] at h'; exact h'
  | some k => rw [h'] at h; simp at h

set_option maxHeartbeats 2000000 in
theorem refdrop_any (l : List Src) (n : ByteArray) (v : Value) (w : World) (hv : Sl srcE 2 w w.heap.size v l) (hs : SzOk l) (hl : l.length ≤ 1000000000000) :
    Calls Try.prog 40 #[v, .string n] w (PostL w (refdropP l n)) := by
  cases hc : checkL l
  · have he : errB (checkL l) = 1 := errB_f hc
    have hp : refdropP l n = (l, 1) := by simp [refdropP, hc]
    rw [hp]
    clear hc hp
    go_enter Try.func40, Try.ntmps40
    go_wp2_with fail
    refine (refcheck_any l _ _ hv hs).mono ?_
    rintro e w1 ⟨rfl, hb1⟩
    have hv1 := hv.later hb1
    go_wp2_with fail
    refine (copy_any l _ _ hv1 hl).mono ?_
    rintro e w2 ⟨v1, rfl, hown, hb2⟩
    go_wp2_with fail
    go_ret2
    exact ⟨_, rfl, hown.sl srcE_len (by omega), below_step hb1 hb2⟩
  · have he : errB (checkL l) = 0 := errB_t hc
    cases hf : (findP l n).2
    · have hp : refdropP l n = (l, 4) := by simp [refdropP, hc, hf]
      rw [hp]
      have Hf := hid hf
      clear hc hp hf
      go_enter Try.func40, Try.ntmps40
      go_wp2_with fail
      refine (refcheck_any l _ _ hv hs).mono ?_
      rintro e w1 ⟨rfl, hb1⟩
      have hv1 := hv.later hb1
      go_wp2_with (first
        | (go_at_call 21; refine (reffind_any l _ n _ hv1).mono ?_; rintro e w2 ⟨rfl, rfl⟩; rw [Hf.out])
        | (go_at_call 54; refine (copy_any l _ _ hv1 hl).mono ?_; rintro e w2 ⟨v1, rfl, hown, hb2⟩))
      go_ret2
      exact ⟨_, rfl, hown.sl srcE_len (by omega), below_step hb1 hb2⟩
    · have hp : refdropP l n = (outF n l, 0) := by simp [refdropP, hc, hf]
      rw [hp]
      have Hf := hid hf
      clear hc hp hf
      go_enter Try.func40, Try.ntmps40
      go_wp2_with fail
      refine (refcheck_any l _ _ hv hs).mono ?_
      rintro e w1 ⟨rfl, hb1⟩
      have hv1 := hv.later hb1
      have hv2 := hv1
      obtain ⟨A, c, rfl, hnc, hcap, hcell⟩ := hv1
      unfold maxLen at hcap
      have Hcell := hid hcell
      have Hv2 := hid hv2
      clear hcell hv2 hv
      go_wp2_with (go_at_call 21; refine (reffind_any l _ n _ Hv2.out).mono ?_; rintro e w2 ⟨rfl, rfl⟩; rw [Hf.out])
      go_loopw [8, 9] (fun o i wr => ∃ k ys, k ≤ l.length ∧ i = .int .i64 k ∧ Below w1.heap.size w1 wr ∧ w1.heap.size ≤ wr.heap.size ∧ Own wr w1.heap.size 39 2 o (ys.flatMap srcE) ∧ ys.length ≤ k ∧ Hid (ys = outF n (l.take k))) (fun o i _ => l.length - (intOf i).toNat)
      case atStart => exact ⟨0, [], Nat.zero_le _, rfl, Below.refl _ _, Nat.le_refl _, Own.nil_ _ _ _ _, Nat.le_refl _, by simp [Hid, outF]⟩
      case round =>
        obtain ⟨k, ys, hk, rfl, hb, hB, hown, hys, H⟩ := hrel
        by_cases hlt : k < l.length
        · rcases Hcell.out with rfl | ⟨b, off, rfl, hbB, hcell⟩
          · simp at hlt
          obtain ⟨x, hx⟩ : ∃ x, l[k]? = some x := ⟨_, List.getElem?_eq_getElem hlt⟩
          obtain ⟨c1, c2⟩ := src_at hcell hx
          have d1 := (hb.cell (by exact hbB)).trans c1
          have d2 := (hb.cell (by exact hbB)).trans c2
          have hst := outF_step H hx
          clear hx c1 c2 hcell
          cases hn : nameIs n x
          · have hn' : (x.1.toList == n.toList) = false := hn
            rw [hn] at hst
            clear hn
            go_wp2_with (at_builtin; refine wpl_append _ rfl _ _ 31 rfl _ 2 32 elSrc w1.heap.size _ (ys.flatMap srcE) rfl ((hown.dr (Dr.refl _)).alloc _) (some ⟨_, 0, none⟩) 1 1 [.string x.1, .string x.2] rfl rfl (at_lit2 _ _ _ _) (one_two _ _) (push_len hys (by omega)).1 (push_len hys (by omega)).2 (by simp; omega) ?_; intro v2 w2 ho2 hg2 hat2; obtain ⟨hb, hown, hB⟩ := own_push (x := x) hb hB hown (Dr.refl _) ho2 hg2; clear ho2 hg2 hat2)
            go_roundw
            case rel => exact ⟨k + 1, _, by omega, by go_num, hb, hB, hown, by simp; omega, hst⟩
            case measure => simp [intOf]; omega
          · have hn' : (x.1.toList == n.toList) = true := hn
            rw [hn] at hst
            clear hn
            go_wp2_with fail
            go_roundw
            case rel => exact ⟨k + 1, _, by omega, by go_num, hb, hB, hown, by omega, hst⟩
            case measure => simp [intOf]; omega
        · have e : l.take k = l := List.take_of_length_le (by omega)
          rw [e] at H
          clear e
          go_wp2_with fail
          go_ret2
          rw [← H.out]
          exact ⟨_, rfl, hown.sl srcE_len (by omega), below_step hb1 hb⟩

theorem outF_all {n : ByteArray} {l : List Src} (h : ∀ x ∈ l, nameIs n x = false) : outF n l = l := by
  unfold outF
  rw [List.filter_eq_self]
  intro x hx; simp [h x hx]
theorem outF_one {n : ByteArray} : ∀ {l : List Src} {k : Nat} {x : Src}, l[k]? = some x → nameIs n x = true → (∀ j y, j ≠ k → l[j]? = some y → nameIs n y = false) → outF n l = delAt l k
  | [], k, x, h, _, _ => by simp at h
  | z :: r, 0, x, h, hn, ha => by
    simp only [List.getElem?_cons_zero, Option.some.injEq] at h
    subst h
    have hr : ∀ y ∈ r, nameIs n y = false := by
      intro y hy
      obtain ⟨j, hj, e⟩ := List.getElem_of_mem hy
      exact ha (j + 1) y (by omega) (by simp [List.getElem?_eq_getElem hj, e])
    have := outF_all hr
    unfold outF at this ⊢
    simp [hn, delAt, this]
  | z :: r, k + 1, x, h, hn, ha => by
    simp only [List.getElem?_cons_succ] at h
    have hz := ha 0 z (by omega) rfl
    have ih := outF_one h hn (fun j y hj hy => ha (j + 1) y (by omega) (by simpa using hy))
    unfold outF at ih ⊢
    simp [hz, delAt, ih]
theorem refdrop_eq (l : List Src) (n : ByteArray) : refdropP l n = dropP l n := by
  unfold refdropP dropP
  cases hc : checkL l
  · rfl
  · simp only [if_true]
    rcases fIdx_cases l n with ⟨h, H⟩ | ⟨k, x, h, hk, hx, hn, H⟩
    · rw [findP_none H (Nat.le_refl _), h]; rfl
    · rw [findP_hit H hx hn, h, if_pos rfl, if_pos (by omega), Int.toNat_natCast, outF_one hx hn]
      intro j y hj hy
      rcases Nat.lt_or_ge j k with h1 | h1
      · exact H j y h1 hy
      · rw [← nameIs_eq hn]; exact bl_ne' (asc hc j k x y (by omega) hx hy)
end Go.Proofs.Ytpjpndbagkcgcaa
