/- The reference's Put, whole; the law that both Puts agree. -/
import Derived.Test.YtpjpndbagkcgcaaB2
set_option linter.unusedVariables false
set_option linter.unusedSimpArgs false
namespace Go.Proofs.Ytpjpndbagkcgcaa
open Go.RowKit

set_option maxHeartbeats 2000000 in
theorem refput_any (l : List Src) (s : Src) (v : Value) (w : World) (hv : Sl srcE 2 w w.heap.size v l) (hs : SzOk l) (hl : l.length ≤ 1000000000000) (h1 : s.1.size ≤ 140737488355328) (h2 : s.2.size ≤ 140737488355328) :
    Calls Try.prog 38 #[v, .agg #[.string s.1, .string s.2]] w (PostL w (refputP l s)) := by
  cases hc : checkL l
  · have hb0 : Below w.heap.size w (w.alloc (.cells #[.string s.1, .string s.2] 39)) := (Below.refl _ _).alloc (Nat.le_refl _) _
    have hv0 := hv.later hb0
    have he : errB (checkL l) = 1 := errB_f hc
    have hp : refputP l s = (l, 1) := by simp [refputP, hc]
    rw [hp]
    clear hc hp
    go_enter Try.func38, Try.ntmps38
    go_wp2_with fail
    refine (refcheck_any l _ _ hv0 hs).mono ?_
    rintro e w1 ⟨rfl, hb1⟩
    have hv1 := hv0.later hb1
    go_wp2_with fail
    refine (copy_any l _ _ hv1 hl).mono ?_
    rintro e w2 ⟨v1, rfl, hown, hb2⟩
    go_wp2_with fail
    go_ret2
    exact ⟨_, rfl, hown.sl srcE_len (by omega), below_step (below_step hb0 hb1) hb2⟩
  · cases hok : okSrc s
    · have hb0 : Below w.heap.size w (w.alloc (.cells #[.string s.1, .string s.2] 39)) := (Below.refl _ _).alloc (Nat.le_refl _) _
      have hv0 := hv.later hb0
      have he : errB (checkL l) = 0 := errB_t hc
      have hp : refputP l s = (l, 2) := by simp [refputP, hc, hok]
      rw [hp]
      obtain ⟨e1, e2⟩ := cell_new2 w (.string s.1) (.string s.2) 39
      have h1' : s.1.size ≤ maxLen := by unfold maxLen; omega
      clear hc hp
      cases hnm : named s.1.toList
      · clear hok
        go_enter Try.func38, Try.ntmps38
        go_wp2_with fail
        refine (refcheck_any l _ _ hv0 hs).mono ?_
        rintro e w1 ⟨rfl, hb1⟩
        have f1 := (hb1.cell (p := ⟨w.heap.size, 0, none⟩) (by simp)).trans e1
        have f2 := (hb1.cell (p := ⟨w.heap.size, 1, none⟩) (by simp)).trans e2
        have hv1 := hv0.later hb1
        clear e1 e2
        go_wp2_with (first
          | (go_at_call 55; refine (refnamed_any _ _ h1').mono ?_; rintro e w2 ⟨rfl, rfl⟩; rw [hnm])
          | (go_at_call 54; refine (copy_any l _ _ hv1 hl).mono ?_; rintro e w2 ⟨v1, rfl, hown, hb2⟩))
        go_ret2
        exact ⟨_, rfl, hown.sl srcE_len (by omega), below_step (below_step hb0 hb1) hb2⟩
      · have hmx : decide ((20000 : Int) < (s.2.size : Int)) = true := by
          simp only [okSrc, hnm, Bool.true_and, decide_eq_false_iff_not] at hok
          simp; omega
        clear hok
        go_enter Try.func38, Try.ntmps38
        go_wp2_with fail
        refine (refcheck_any l _ _ hv0 hs).mono ?_
        rintro e w1 ⟨rfl, hb1⟩
        have f1 := (hb1.cell (p := ⟨w.heap.size, 0, none⟩) (by simp)).trans e1
        have f2 := (hb1.cell (p := ⟨w.heap.size, 1, none⟩) (by simp)).trans e2
        have hv1 := hv0.later hb1
        clear e1 e2
        go_wp2_with (first
          | (go_at_call 55; refine (refnamed_any _ _ h1').mono ?_; rintro e w2 ⟨rfl, rfl⟩; rw [hnm])
          | (go_at_call 54; refine (copy_any l _ _ hv1 hl).mono ?_; rintro e w2 ⟨v1, rfl, hown, hb2⟩))
        go_ret2
        exact ⟨_, rfl, hown.sl srcE_len (by omega), below_step (below_step hb0 hb1) hb2⟩
    · have hp : refputP l s = (rp s l false, 0) := by simp [refputP, hc, hok]
      rw [hp]
      exact refput_loop l s v w hv hs hl hc h1 h2 hok

/-! the law -/
theorem u8_lt_trans {a b c : UInt8} (h : a < b) (k : b < c) : a < c := by
  have h1 : a.toNat < b.toNat := h
  have h2 : b.toNat < c.toNat := k
  show a.toNat < c.toNat
  omega
theorem less_irrefl : ∀ a : List UInt8, Op.bytesLess a a = false
  | [] => rfl
  | a :: x => by
    have h2 : ¬ a < a := fun h3 => by have : a.toNat < a.toNat := h3; omega
    simp [Op.bytesLess, less_irrefl x, h2]
theorem less_trans : ∀ {a b c : List UInt8}, Op.bytesLess a b = true → Op.bytesLess b c = true → Op.bytesLess a c = true
  | _, _, [], _, h => by cases ‹List UInt8› <;> simp [Op.bytesLess] at h
  | _, [], _ :: _, h, _ => by cases ‹List UInt8› <;> simp [Op.bytesLess] at h
  | [], _ :: _, _ :: _, _, _ => rfl
  | a :: x, b :: y, c :: z, h, k => by
    simp only [Op.bytesLess, Bool.or_eq_true, decide_eq_true_eq, Bool.and_eq_true, beq_iff_eq] at h k ⊢
    rcases h with h | ⟨rfl, h⟩
    · rcases k with k | ⟨rfl, k⟩
      · exact .inl (u8_lt_trans h k)
      · exact .inl h
    · rcases k with k | ⟨rfl, k⟩
      · exact .inl k
      · exact .inr ⟨rfl, less_trans h k⟩

theorem chk_all {l : List Src} (h : checkL l = true) : ∀ k, k < l.length → chk l k = true := by
  intro k hk
  unfold checkL at h
  rw [List.all_eq_true] at h
  exact h k (List.mem_range.2 hk)
theorem chk_ok {l : List Src} (h : checkL l = true) {k : Nat} {x : Src} (hx : l[k]? = some x) : okSrc x = true := by
  have hk := (List.getElem?_eq_some_iff.1 hx).1
  have := chk_all h k hk
  cases hx' : okSrc x with
  | true => rfl
  | false => rw [chk_bad hx hx'] at this; exact this
theorem asc {l : List Src} (h : checkL l = true) : ∀ (j i : Nat) (x y : Src), i < j → l[i]? = some x → l[j]? = some y → bl x.1 y.1 = true := by
  intro j
  induction j with
  | zero => intro i x y hi; omega
  | succ j ih =>
    intro i x y hi hx hy
    have hk := (List.getElem?_eq_some_iff.1 hy).1
    have hz : l[j]? = some l[j] := List.getElem?_eq_getElem (by omega)
    have := chk_all h (j + 1) hk
    rw [chk_some hy hz, Bool.and_eq_true] at this
    rcases Nat.lt_or_ge i j with h1 | h1
    · exact less_trans (ih i x _ h1 hx hz) this.2
    · obtain rfl : i = j := by omega
      rw [hz] at hx; injection hx with hx; rw [← hx]; exact this.2

theorem nameIs_eq {n : ByteArray} {x : Src} (h : nameIs n x = true) : x.1 = n := by
  simp only [nameIs, beq_iff_eq] at h; exact str_ext h
theorem bl_ne {n : ByteArray} {x : Src} (h : bl x.1 n = true) : nameIs n x = false := by
  cases h' : nameIs n x with
  | false => rfl
  | true => rw [nameIs_eq h', bl, less_irrefl] at h; exact h.symm
theorem bl_ne' {n : ByteArray} {x : Src} (h : bl n x.1 = true) : nameIs n x = false := by
  cases h' : nameIs n x with
  | false => rfl
  | true => rw [nameIs_eq h', bl, less_irrefl] at h; exact h.symm

theorem rp_done {s : Src} : ∀ {r : List Src}, (∀ x ∈ r, nameIs s.1 x = false) → rp s r true = r
  | [], _ => rfl
  | x :: r, h => by
    have h1 := h x (by simp)
    have ih := rp_done (r := r) (fun y hy => h y (by simp [hy]))
    simp [rp, h1, ih]
theorem rp_new {s : Src} : ∀ {l : List Src}, (∀ x ∈ l, nameIs s.1 x = false) → rp s l false = insAt l (cnt l s.1) s
  | [], _ => rfl
  | x :: r, h => by
    have h1 := h x (by simp)
    have hr : ∀ y ∈ r, nameIs s.1 y = false := fun y hy => h y (by simp [hy])
    cases hb : bl x.1 s.1
    · have : cnt (x :: r) s.1 = 0 := by simp [cnt, hb]
      rw [this]
      simp [rp, h1, hb, insAt, rp_done hr]
    · have : cnt (x :: r) s.1 = cnt r s.1 + 1 := by simp [cnt, hb]
      rw [this]
      simp [rp, h1, hb, insAt, rp_new hr]
theorem rp_found {s : Src} : ∀ {l : List Src} {k : Nat} {x : Src}, l[k]? = some x → nameIs s.1 x = true → (∀ j y, j < k → l[j]? = some y → bl y.1 s.1 = true) → (∀ j y, k < j → l[j]? = some y → bl s.1 y.1 = true) → rp s l false = l.set k s
  | [], k, x, h, _, _, _ => by simp at h
  | z :: r, 0, x, h, hn, _, ha => by
    simp only [List.getElem?_cons_zero, Option.some.injEq] at h
    subst h
    have hb : bl z.1 s.1 = false := by rw [nameIs_eq hn]; exact less_irrefl _
    have hr : ∀ y ∈ r, nameIs s.1 y = false := by
      intro y hy
      obtain ⟨j, hj, e⟩ := List.getElem_of_mem hy
      exact bl_ne' (ha (j + 1) y (by omega) (by simp [List.getElem?_eq_getElem hj, e]))
    simp [rp, hb, hn, rp_done hr]
  | z :: r, k + 1, x, h, hn, hb, ha => by
    simp only [List.getElem?_cons_succ] at h
    have hz := hb 0 z (by omega) rfl
    have ih := rp_found h hn (fun j y hj hy => hb (j + 1) y (by omega) (by simpa using hy)) (fun j y hj hy => ha (j + 1) y (by omega) (by simpa using hy))
    simp [rp, hz, bl_ne hz, ih]

theorem refput_eq (l : List Src) (s : Src) : refputP l s = putP l s := by
  unfold refputP putP
  cases hc : checkL l
  · rfl
  · cases hok : okSrc s
    · rfl
    · simp only [if_true]
      rcases fIdx_cases l s.1 with ⟨h, H⟩ | ⟨k, x, h, hk, hx, hn, H⟩
      · rw [h, if_neg (by omega), rp_new]
        intro x hx
        obtain ⟨j, hj, e⟩ := List.getElem_of_mem hx
        exact H j x hj (by rw [← e]; exact List.getElem?_eq_getElem hj)
      · rw [h, if_pos (by omega), Int.toNat_natCast, rp_found hx hn]
        · intro j y hj hy
          rw [← nameIs_eq hn]; exact asc hc k j y x hj hy hx
        · intro j y hj hy
          rw [← nameIs_eq hn]; exact asc hc j k x y hj hx hy
end Go.Proofs.Ytpjpndbagkcgcaa
