/- Plain laws of loops over lists, and of counters. -/
import Derived.Test.YtpbbnkpplcnaoaaGreatDoorU0
set_option linter.unusedVariables false
set_option linter.unusedSimpArgs false
namespace Go.Proofs.YtpbbnkpplcnaoaaGreatDoor
open Go.RowKit
open Go.Lib hiding intOf

section
variable {σ ρ α : Type} {B : σ → Option (Fl σ ρ)}
/-- a loop that goes so far and ends -/
theorem loop_to (st : Nat → σ) (m : Nat) {s0 : σ} (h0 : s0 = st 0) {r : ρ} (hgo : ∀ k, k < m → B (st k) = some (.go (st (k + 1)))) (hout : B (st m) = some (.out r)) : loop B s0 = some r := by
  subst h0
  exact loop_eq (fun k s => s = st k) r m (fun k s hk hs => .inl ⟨st (k + 1), by rw [hs]; exact hgo k hk, rfl⟩) (fun s hs => by rw [hs]; exact hout) rfl
/-- a loop over a list that ends at the first element of a kind -/
theorem loop_first {xs : List α} (p : α → Bool) (st : Nat → σ) {s0 : σ} (h0 : s0 = st 0) {y : Nat → α → ρ} {n : ρ} (hgo : ∀ k x, xs[k]? = some x → p x = false → B (st k) = some (.go (st (k + 1))))
    (hy : ∀ k x, xs[k]? = some x → p x = true → B (st k) = some (.out (y k x))) (hn : B (st xs.length) = some (.out n)) :
    (∃ k x, xs[k]? = some x ∧ p x = true ∧ (∀ j z, j < k → xs[j]? = some z → p z = false) ∧ loop B s0 = some (y k x)) ∨ (∀ z ∈ xs, p z = false) ∧ loop B s0 = some n := by
  by_cases h : xs.findIdx p < xs.length
  · have e := List.getElem?_eq_getElem h
    have hp := List.findIdx_getElem (w := h)
    have hb : ∀ j z, j < xs.findIdx p → xs[j]? = some z → p z = false := fun j z hj hz => by
      have := List.not_of_lt_findIdx hj
      obtain ⟨h1, h2⟩ := List.getElem?_eq_some_iff.1 hz
      rw [h2] at this; simpa using this
    refine .inl ⟨_, _, e, hp, hb, loop_to st _ h0 (fun k hk => ?_) (hy _ _ e hp)⟩
    have hk2 : k < xs.length := by omega
    exact hgo k _ (List.getElem?_eq_getElem hk2) (hb k _ hk (List.getElem?_eq_getElem hk2))
  · have hb : ∀ j z, xs[j]? = some z → p z = false := fun j z hz => by
      obtain ⟨h1, h2⟩ := List.getElem?_eq_some_iff.1 hz
      have := List.not_of_lt_findIdx (p := p) (xs := xs) (i := j) (by omega)
      rw [h2] at this; simpa using this
    refine .inr ⟨fun z hz => ?_, loop_to st xs.length h0 (fun k hk => hgo k _ (List.getElem?_eq_getElem hk) (hb k _ (List.getElem?_eq_getElem hk))) hn⟩
    obtain ⟨i, hi⟩ := List.mem_iff_getElem?.1 hz
    exact hb i z hi
theorem loop_any {xs : List α} (p : α → Bool) (st : Nat → σ) {s0 : σ} (h0 : s0 = st 0) {y n : ρ} (hgo : ∀ k x, xs[k]? = some x → p x = false → B (st k) = some (.go (st (k + 1))))
    (hy : ∀ k x, xs[k]? = some x → p x = true → B (st k) = some (.out y)) (hn : B (st xs.length) = some (.out n)) : loop B s0 = some (if xs.any p then y else n) := by
  rcases loop_first p st h0 (y := fun _ _ => y) hgo hy hn with ⟨k, x, h1, h2, _, h3⟩ | ⟨h1, h2⟩
  · rw [if_pos (List.any_eq_true.2 ⟨x, List.mem_of_getElem? h1, h2⟩)]; exact h3
  · rw [if_neg (fun h => by obtain ⟨x, hx, e⟩ := List.any_eq_true.1 h; rw [h1 x hx] at e; cases e)]; exact h2
/-- a loop over a list that gathers -/
theorem loop_gather {xs : List α} (st : Nat → σ) {s0 : σ} (h0 : s0 = st 0) {r : ρ} (hgo : ∀ k x, xs[k]? = some x → B (st k) = some (.go (st (k + 1)))) (hout : B (st xs.length) = some (.out r)) : loop B s0 = some r :=
  loop_to st xs.length h0 (fun k hk => hgo k _ (List.getElem?_eq_getElem hk)) hout
theorem bind_to {β γ : Type} {m : Option β} {v : β} {f : β → Option γ} {y : Option γ} (h : m = some v) (k : f v = y) : m.bind f = y := by subst h; exact k
end
theorem getI_nat {α : Type} (xs : List α) (k : Nat) : getI xs (k : Int) = xs[k]? := by simp [getI]
theorem dlt {k n : Nat} (h : k < n) : decide ((k : Int) < (n : Int)) = true := decide_eq_true (by omega)
theorem dnlt {k n : Nat} (h : ¬ k < n) : decide ((k : Int) < (n : Int)) = false := decide_eq_false (by omega)
theorem dlt_of {α : Type} {xs : List α} {k : Nat} {x : α} (h : xs[k]? = some x) : decide ((k : Int) < (xs.length : Int)) = true := dlt (List.getElem?_eq_some_iff.1 h).1
theorem dlt_end (n : Nat) : decide ((n : Int) < (n : Int)) = false := dnlt (Nat.lt_irrefl _)
theorem winc {k : Nat} (h : k ≤ 9223372036854775806) : IntKind.i64.wrap ((k : Int) + 1) = ((k + 1 : Nat) : Int) := by rw [w64 (by omega) (by omega)]; omega
theorem lt_of_get {α : Type} {xs : List α} {k : Nat} {x : α} (h : xs[k]? = some x) : k < xs.length := (List.getElem?_eq_some_iff.1 h).1
theorem take_snoc' {α : Type} {xs : List α} {k : Nat} {x : α} (h : xs[k]? = some x) : xs.take (k + 1) = xs.take k ++ [x] := by
  rw [List.take_add_one, h]; rfl
theorem filter_take_len {α : Type} (p : α → Bool) (xs : List α) (k : Nat) : ((xs.take k).filter p).length ≤ xs.length :=
  Nat.le_trans (List.length_filter_le _ _) (by rw [List.length_take]; omega)
theorem set_self {α : Type} {xs : List α} {k : Nat} {x : α} (h : xs[k]? = some x) : xs.set k x = xs := by
  obtain ⟨h1, h2⟩ := List.getElem?_eq_some_iff.1 h
  rw [← h2]; exact List.set_getElem_self h1
/-- not more than fits -/
def Rm (n : Nat) : Prop := n ≤ 1000000000
theorem subI_to {α : Type} {xs : List α} {a : Nat} (h : a ≤ xs.length) : subI xs (a : Int) (xs.length : Int) = some (xs.drop a) := by
  rw [subI_at h (Nat.le_refl _), List.take_length]
theorem subI_from {α : Type} {xs : List α} {a : Nat} (h : a ≤ xs.length) : subI xs 0 (a : Int) = some (xs.take a) := by
  have := subI_at (xs := xs) (Nat.zero_le a) h
  rwa [List.drop_zero] at this
theorem wrap_small {z : Int} (h1 : -1000000000000 ≤ z) (h2 : z ≤ 1000000000000) : IntKind.i64.wrap z = z := w64 (by omega) (by omega)
end Go.Proofs.YtpbbnkpplcnaoaaGreatDoor
