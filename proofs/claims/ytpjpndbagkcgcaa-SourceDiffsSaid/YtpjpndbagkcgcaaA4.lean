/- Sources: where a name stands. -/
import Derived.Test.YtpjpndbagkcgcaaA3
set_option linter.unusedVariables false
set_option linter.unusedSimpArgs false
namespace Go.Proofs.Ytpjpndbagkcgcaa
open Go.RowKit

def nameIs (n : ByteArray) (x : Src) : Bool := x.1.toList == n.toList
/-- no module among the first k has the name -/
def NotYet (l : List Src) (n : ByteArray) (k : Nat) : Prop := ∀ j x, j < k → l[j]? = some x → nameIs n x = false
def fIdx (l : List Src) (n : ByteArray) : Int := match l.findIdx? (nameIs n) with
  | some k => k
  | none => -1
theorem NotYet.ext {l : List Src} {n : ByteArray} {k : Nat} {x : Src} (h : NotYet l n k) (hx : l[k]? = some x) (hn : nameIs n x = false) : NotYet l n (k + 1) := by
  intro j y hj hy
  rcases Nat.lt_or_ge j k with h1 | h1
  · exact h j y h1 hy
  · obtain rfl : j = k := by omega
    rw [hx] at hy; injection hy with hy; subst hy; exact hn
theorem fIdx_hit {l : List Src} {n : ByteArray} {k : Nat} {x : Src} (h : NotYet l n k) (hx : l[k]? = some x) (hn : nameIs n x = true) : fIdx l n = k := by
  have : l.findIdx? (nameIs n) = some k := by
    rw [List.findIdx?_eq_some_iff_getElem]
    obtain ⟨hk, e⟩ := List.getElem?_eq_some_iff.1 hx
    exact ⟨hk, by rw [e]; exact hn, fun j hj => by have := h j _ hj (List.getElem?_eq_getElem (by omega)); simp [this]⟩
  simp [fIdx, this]
theorem fIdx_none {l : List Src} {n : ByteArray} {k : Nat} (h : NotYet l n k) (hk : l.length ≤ k) : fIdx l n = -1 := by
  have : l.findIdx? (nameIs n) = none := by
    rw [List.findIdx?_eq_none_iff]
    intro x hx
    obtain ⟨j, hj, e⟩ := List.getElem_of_mem hx
    exact h j x (by omega) (by rw [← e]; exact List.getElem?_eq_getElem hj)
  simp [fIdx, this]
theorem fIdx_cases (l : List Src) (n : ByteArray) : (fIdx l n = -1 ∧ NotYet l n l.length) ∨ ∃ k x, fIdx l n = (k : Nat) ∧ k < l.length ∧ l[k]? = some x ∧ nameIs n x = true ∧ NotYet l n k := by
  unfold fIdx
  cases h : l.findIdx? (nameIs n) with
  | none =>
    left
    rw [List.findIdx?_eq_none_iff] at h
    exact ⟨rfl, fun j x _ hx => h x (List.mem_of_getElem? hx)⟩
  | some k =>
    right
    rw [List.findIdx?_eq_some_iff_getElem] at h
    obtain ⟨hk, h1, h2⟩ := h
    exact ⟨k, l[k], rfl, hk, List.getElem?_eq_getElem hk, h1, fun j x hj hx => by
      have := h2 j hj
      obtain ⟨hj', e⟩ := List.getElem?_eq_some_iff.1 hx
      rw [e] at this
      simpa using this⟩

theorem isName_any (x y n : ByteArray) (p : Addr) (w : World) (hp : w.cell? p = some (.string n)) :
    Calls Try.prog 53 #[.agg #[.string x, .string y], .pointer (some p)] w fun e w' => e = .returned (.bool (nameIs n (x, y))) ∧ Below w.heap.size w w' := by
  have hp' : (w.alloc (.cells #[.string x, .string y] 39)).cell? p = some (.string n) := (World.cell?_alloc_lt _ _ _ (World.block_lt_of_cell? w p hp)).trans hp
  go_enter Try.func53, Try.ntmps53
  go_wp2
  go_ret
  exact ⟨rfl, (Below.refl _ _).alloc (Nat.le_refl _) _⟩

set_option maxHeartbeats 1000000 in
theorem indexFunc_any (l : List Src) (v : Value) (n : ByteArray) (p : Addr) (w : World) (hv : Sl srcE 2 w w.heap.size v l) (hp : w.cell? p = some (.string n)) :
    Calls Try.prog 52 #[v, .func (.func 53) #[] #[.pointer (some p)]] w fun e w' => e = .returned (.int .i64 (fIdx l n)) ∧ Below w.heap.size w w' := by
  obtain ⟨A, c, rfl, hnc, hc, hcell⟩ := hv
  unfold maxLen at hc
  have hpb := World.block_lt_of_cell? w p hp
  go_enter Try.func52, Try.ntmps52
  go_wp2_with fail
  go_loopw [8] (fun i wr => Below w.heap.size w wr ∧ ∃ k : Nat, k ≤ l.length ∧ i = .int .i64 k ∧ NotYet l n k) (fun i _ => l.length - (intOf i).toNat)
  case atStart => exact ⟨Below.refl _ _, 0, Nat.zero_le _, rfl, fun j x h _ => absurd h (by omega)⟩
  case round =>
    obtain ⟨hb, k, hk, rfl, H⟩ := hrel
    by_cases hlt : k < l.length
    · rcases hcell with rfl | ⟨b, off, rfl, hbB, hcell⟩
      · simp at hlt
      obtain ⟨x, hx⟩ : ∃ x, l[k]? = some x := ⟨_, List.getElem?_eq_getElem hlt⟩
      obtain ⟨c1, c2⟩ := src_at hcell hx
      have d1 := (hb.cell (by exact hbB)).trans c1
      have d2 := (hb.cell (by exact hbB)).trans c2
      have d3 := (hb.cell hpb).trans hp
      have Hx := hid hx
      clear hx c1 c2 hp
      cases hn : nameIs n x
      · go_wp2_with (go_at_call 53; refine (isName_any _ _ _ _ _ d3).mono ?_; rintro e w1 ⟨rfl, hb1⟩)
        go_roundw
        case rel => exact ⟨below_step hb hb1, k + 1, by omega, by go_num, H.ext Hx.out hn⟩
        case measure => simp [intOf]; omega
      · go_wp2_with (go_at_call 53; refine (isName_any _ _ _ _ _ d3).mono ?_; rintro e w1 ⟨rfl, hb1⟩)
        go_ret
        exact ⟨ret_int (fIdx_hit H Hx.out hn).symm, below_step hb hb1⟩
    · go_wp2
      go_ret
      exact ⟨ret_int (fIdx_none H (by omega)).symm, hb⟩

theorem index_any (l : List Src) (v : Value) (n : ByteArray) (w : World) (hv : Sl srcE 2 w w.heap.size v l) :
    Calls Try.prog 37 #[v, .string n] w fun e w' => e = .returned (.int .i64 (fIdx l n)) ∧ Below w.heap.size w w' := by
  have hv' : Sl srcE 2 (w.alloc (.cells #[.string n] 9)) (w.alloc (.cells #[.string n] 9)).heap.size v l := hv.later ((Below.refl _ _).alloc (Nat.le_refl _) _)
  have Hv := hid hv'
  clear hv'
  go_enter Try.func37, Try.ntmps37
  go_wp2_with (go_at_call 52; refine (indexFunc_any l _ n _ _ Hv.out (by go_simp)).mono ?_; rintro e w1 ⟨rfl, hb1⟩)
  go_ret
  exact ⟨rfl, below_step ((Below.refl _ _).alloc (Nat.le_refl _) _) hb1⟩

end Go.Proofs.Ytpjpndbagkcgcaa
