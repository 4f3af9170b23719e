/- Sources in memory: which are permitted, the check. -/
import Derived.Test.YtpjpndbagkcgcaaA0
set_option linter.unusedVariables false
set_option linter.unusedSimpArgs false
namespace Go.Proofs.Ytpjpndbagkcgcaa
open Go.RowKit

abbrev Src := ByteArray × ByteArray
def srcE (x : Src) : List Value := [.string x.1, .string x.2]
theorem srcE_len (x : Src) : (srcE x).length = 2 := rfl
def okSrc (x : Src) : Bool := named x.1.toList && decide (x.2.size ≤ 20000)
def errB (b : Bool) : Int := if b then 0 else 1
def bl (a b : ByteArray) : Bool := Op.bytesLess a.toList b.toList
def chk (l : List Src) (i : Nat) : Bool := match l[i]? with
  | none => true
  | some x => okSrc x && (match i with | 0 => true | j + 1 => match l[j]? with | none => true | some y => bl y.1 x.1)
def checkL (l : List Src) : Bool := (List.range l.length).all (chk l)
def SzOk (l : List Src) : Prop := ∀ x ∈ l, x.1.size ≤ 140737488355328 ∧ x.2.size ≤ 140737488355328

set_option maxHeartbeats 400000 in
theorem permitted_any (x y : ByteArray) (w : World) (hx : x.size ≤ 140737488355328) (hy : y.size ≤ 140737488355328) :
    Calls Try.prog 44 #[.agg #[.string x, .string y]] w fun e w' => e = .returned (.bool (okSrc (x, y))) ∧ Below w.heap.size w w' := by
  have h : okSrc (x, y) = (named x.toList && decide (y.size ≤ 20000)) := rfl
  rw [h]; clear h
  cases hb : named x.toList
  · go_enter Try.func44, Try.ntmps44
    go_wp2_with (go_at_call 57; refine (named_any _ _ (by unfold maxLen; omega)).mono ?_; rintro e w' ⟨rfl, rfl⟩)
    go_ret
    exact ⟨ret_bool (by simp), (Below.refl _ _).alloc (Nat.le_refl _) _⟩
  · go_enter Try.func44, Try.ntmps44
    go_wp2_with (go_at_call 57; refine (named_any _ _ (by unfold maxLen; omega)).mono ?_; rintro e w' ⟨rfl, rfl⟩)
    go_ret
    exact ⟨ret_bool (by simp; omega), (Below.refl _ _).alloc (Nat.le_refl _) _⟩


theorem src_at {w : World} {b off : Nat} {l : List Src} (h : ∀ k x, l[k]? = some x → ∀ j u, (srcE x)[j]? = some u → w.cell? ⟨b, off + k * 2 + j, none⟩ = some u) {k : Nat} {x : Src} (hk : l[k]? = some x) :
    w.cell? ⟨b, off + k * 2, none⟩ = some (.string x.1) ∧ w.cell? ⟨b, off + k * 2 + 1, none⟩ = some (.string x.2) :=
  ⟨h k x hk 0 _ rfl, h k x hk 1 _ rfl⟩

theorem chk_ext {l : List Src} {k : Nat} (H : Hid (∀ j, j < k → chk l j = true)) (h : chk l k = true) : Hid (∀ j, j < k + 1 → chk l j = true) := fun j hj => by
  rcases Nat.lt_or_ge j k with h1 | h1
  · exact H.out j h1
  · obtain rfl : j = k := by omega
    exact h
theorem check_no {l : List Src} {k : Nat} (hk : k < l.length) (h : chk l k = false) : errB (checkL l) = 1 := by
  have : checkL l = false := by
    unfold checkL
    rw [List.all_eq_false]
    exact ⟨k, List.mem_range.2 hk, by rw [h]; simp⟩
  rw [this]; rfl
theorem check_yes {l : List Src} {k : Nat} (hk : ¬ k < l.length) (H : Hid (∀ j, j < k → chk l j = true)) : errB (checkL l) = 0 := by
  have : checkL l = true := by
    unfold checkL
    rw [List.all_eq_true]
    intro j hj
    exact H.out j (by have := List.mem_range.1 hj; omega)
  rw [this]; rfl
theorem chk_some {l : List Src} {k : Nat} {x y : Src} (hx : l[k + 1]? = some x) (hy : l[k]? = some y) : chk l (k + 1) = (okSrc x && bl y.1 x.1) := by simp [chk, hx, hy]
theorem chk_zero {l : List Src} {x : Src} (hx : l[0]? = some x) : chk l 0 = okSrc x := by simp [chk, hx]
theorem chk_bad {l : List Src} {k : Nat} {x : Src} (hx : l[k]? = some x) (h : okSrc x = false) : chk l k = false := by simp [chk, hx, h]

set_option maxHeartbeats 2000000 in
theorem check_any (l : List Src) (v : Value) (w : World) (hv : Sl srcE 2 w w.heap.size v l) (hs : SzOk l) :
    Calls Try.prog 36 #[v] w fun e w' => e = .returned (.int .i64 (errB (checkL l))) ∧ Below w.heap.size w w' := by
  obtain ⟨A, c, rfl, hnc, hc, hcell⟩ := hv
  unfold maxLen at hc
  go_enter Try.func36, Try.ntmps36
  go_wp2_with fail
  go_loopw [7] (fun i wr => Below w.heap.size w wr ∧ ∃ k : Nat, k ≤ l.length ∧ i = .int .i64 k ∧ Hid (∀ j, j < k → chk l j = true)) (fun i _ => l.length - (intOf i).toNat)
  case atStart => exact ⟨Below.refl _ _, 0, Nat.zero_le _, rfl, fun j h => absurd h (by omega)⟩
  case round =>
    obtain ⟨hb, k, hk, rfl, H⟩ := hrel
    by_cases hlt : k < l.length
    · rcases hcell with rfl | ⟨b, off, rfl, hbB, hcell⟩
      · simp at hlt
      obtain ⟨x, hx⟩ : ∃ x, l[k]? = some x := ⟨_, List.getElem?_eq_getElem hlt⟩
      obtain ⟨c1, c2⟩ := src_at hcell hx
      have d1 := (hb.cell (by exact hbB)).trans c1
      have d2 := (hb.cell (by exact hbB)).trans c2
      have hxm : x ∈ l := List.mem_of_getElem? hx
      have hsx := hs x hxm
      obtain ⟨s1, s2⟩ := hsx
      have hsz := hb.size
      have e1 : ∀ x' : La (wr.alloc (.cells #[.string x.1, .string x.2] 39)), x'.w.cell? ⟨wr.heap.size, 0, none⟩ = some (.string x.1) := fun x' => x'.cell (by go_simp)
      have e2 : ∀ x' : La (wr.alloc (.cells #[.string x.1, .string x.2] 39)), x'.w.cell? ⟨wr.heap.size, 1, none⟩ = some (.string x.2) := fun x' => x'.cell (by go_simp)
      have Hx := hid hx
      clear hx c1 c2
      cases hok : okSrc x
      · go_wp2_with fail
        refine wp_region_la (by kernel_rfl) (by kernel_rfl) ?_
        repeat (go_big_quiet_step ((go_at_call 44; exact La.call (permitted_any _ _ _ s1 s2))))
        refine wpq_nil ?_
        intro w1 hb1
        go_wp2
        go_ret
        exact ⟨ret_int (check_no hlt (chk_bad Hx.out hok)).symm, below_step (hb.alloc hsz _) hb1⟩
      · rcases Nat.eq_zero_or_pos k with h0 | h0
        · have g0 : decide (0 < k) = false := by simp; omega
          have H0 := hid h0
          clear h0
          go_wp2_with fail
          refine wp_region_la (by kernel_rfl) (by kernel_rfl) ?_
          repeat (go_big_quiet_step ((go_at_call 44; exact La.call (permitted_any _ _ _ s1 s2))))
          refine wpq_nil ?_
          intro w1 hb1
          go_wp2
          go_roundw
          case rel => exact ⟨below_step (hb.alloc hsz _) hb1, k + 1, by omega, by go_num, chk_ext H (by have e := H0.out; subst e; rw [chk_zero Hx.out, hok])⟩
          case measure => simp [intOf]; omega
        · obtain ⟨j, hj⟩ : ∃ j, k = j + 1 := ⟨k - 1, by omega⟩
          obtain ⟨y, hy⟩ : ∃ y, l[j]? = some y := ⟨_, List.getElem?_eq_getElem (by omega)⟩
          obtain ⟨c1, c2⟩ := src_at hcell hy
          have d1' := (hb.cell (by exact hbB)).trans c1
          have e3 : ∀ x' : La (wr.alloc (.cells #[.string x.1, .string x.2] 39)), x'.w.cell? ⟨b, off + j * 2, none⟩ = some (.string y.1) := fun x' => x'.cell ((World.cell?_alloc_lt _ _ _ (Nat.lt_of_lt_of_le hbB hsz)).trans d1')
          have Hy := hid hy
          have g0 : decide ((0 : Int) < (k : Int)) = true := by simp; omega
          have g1 : IntKind.i64.wrap ((k : Int) - 1) = (j : Int) := by rw [IntWalk.i64_in _ (by omega)]; omega
          have g2 : j < l.length := by omega
          have Hj := hid hj
          clear hy c1 c2 d1' hj
          cases hbl : bl y.1 x.1
          · have hbl' : Op.bytesLess y.1.toList x.1.toList = false := hbl
            have Hbl := hid hbl
            clear hbl
            go_wp2_with fail
            refine wp_region_la (by kernel_rfl) (by kernel_rfl) ?_
            repeat (go_big_quiet_step ((go_at_call 44; exact La.call (permitted_any _ _ _ s1 s2))))
            refine wpq_nil ?_
            intro w1 hb1
            go_wp2
            go_ret
            exact ⟨ret_int (check_no hlt (by have e := Hj.out; subst e; rw [chk_some Hx.out Hy.out, hok, Hbl.out]; rfl)).symm, below_step (hb.alloc hsz _) hb1⟩
          · have hbl' : Op.bytesLess y.1.toList x.1.toList = true := hbl
            have Hbl := hid hbl
            clear hbl
            go_wp2_with fail
            refine wp_region_la (by kernel_rfl) (by kernel_rfl) ?_
            repeat (go_big_quiet_step ((go_at_call 44; exact La.call (permitted_any _ _ _ s1 s2))))
            refine wpq_nil ?_
            intro w1 hb1
            clear g1
            go_wp2
            go_roundw
            case rel => exact ⟨below_step (hb.alloc hsz _) hb1, k + 1, by omega, by go_num, chk_ext H (by have e := Hj.out; subst e; rw [chk_some Hx.out Hy.out, hok, Hbl.out]; rfl)⟩
            case measure => simp [intOf]; omega
    · go_wp2
      go_ret
      exact ⟨ret_int (check_yes hlt H).symm, hb⟩
end Go.Proofs.Ytpjpndbagkcgcaa
