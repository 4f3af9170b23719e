/- Ways over edges; lists that grow while they are gone through, plain. -/
import Derived.Test.YtdappapdddnciaaDoorY1
import Derived.Test.YtdappapdddnciaaDoorYS
set_option linter.unusedVariables false
set_option linter.unusedSimpArgs false
namespace Go.Proofs.YtdappapdddnciaaDoor
open Go.RowKit
open Go.Lib hiding intOf

inductive Star {α : Type} (E : α → α → Prop) (x : α) : α → Prop
  | refl : Star E x x
  | snoc {y z : α} : Star E x y → E y z → Star E x z
theorem Star.trans {α : Type} {E : α → α → Prop} {x y z : α} (h : Star E x y) (k : Star E y z) : Star E x z := by
  induction k with
  | refl => exact h
  | snoc _ e ih => exact .snoc ih e
theorem Star.head {α : Type} {E : α → α → Prop} {x y z : α} (h : E x y) (k : Star E y z) : Star E x z := (Star.snoc .refl h).trans k
theorem Star.cases_head {α : Type} {E : α → α → Prop} {x z : α} (h : Star E x z) : x = z ∨ ∃ y, E x y ∧ Star E y z := by
  induction h with
  | refl => exact .inl rfl
  | snoc h e ih =>
    rcases ih with rfl | ⟨y, h1, h2⟩
    · exact .inr ⟨_, e, .refl⟩
    · exact .inr ⟨y, h1, .snoc h2 e⟩
theorem Star.head_ind {α : Type} {E : α → α → Prop} {P : α → Prop} {x z : α} (h : Star E x z) (h0 : P z) (hs : ∀ a b, E a b → Star E b z → P b → P a) : P x := by
  induction h with
  | refl => exact h0
  | snoc h e ih => exact ih (hs _ _ e .refl h0) fun a b he hb hp => hs a b he (.snoc hb e) hp
/-- a way of one edge or more -/
def Plus {α : Type} (E : α → α → Prop) (x z : α) : Prop := ∃ y, Star E x y ∧ E y z
theorem Plus.star {α : Type} {E : α → α → Prop} {x z : α} (h : Plus E x z) : Star E x z := by obtain ⟨y, h1, h2⟩ := h; exact .snoc h1 h2
theorem Star.plus {α : Type} {E : α → α → Prop} {x z : α} (h : Star E x z) (hne : x ≠ z) : Plus E x z := by
  cases h with
  | refl => exact absurd rfl hne
  | snoc h1 h2 => exact ⟨_, h1, h2⟩
theorem nodup_len {α : Type} : ∀ {l m : List α}, l.Nodup → (∀ x ∈ l, x ∈ m) → l.length ≤ m.length
  | [], m, _, _ => Nat.zero_le _
  | x :: l, m, h, hs => by
    have h' := List.nodup_cons.1 h
    obtain ⟨a, b, rfl⟩ := List.append_of_mem (hs x List.mem_cons_self)
    have := nodup_len (l := l) (m := a ++ b) h'.2 fun y hy => by
      have h1 := hs y (List.mem_cons_of_mem _ hy)
      rw [List.mem_append, List.mem_cons] at h1
      rw [List.mem_append]
      rcases h1 with h1 | rfl | h1
      · exact .inl h1
      · exact absurd hy h'.1
      · exact .inr h1
    simp only [List.length_cons, List.length_append] at this ⊢
    omega
theorem keq_iff : ∀ a b : KeyD, keq_KeyD a b = true ↔ a = b := fun a b => keqB_iff (a := a) (b := b)
theorem put_seen {m : List (KeyD × Bool)} {M : List KeyD} (h : ∀ x, (mget keq_KeyD x m).getD false = decide (x ∈ M)) (e : KeyD) : ∀ x, (mget keq_KeyD x (mput keq_KeyD e true m)).getD false = decide (x ∈ M ++ [e]) := fun x => by
  rw [mget_put keq_iff]
  by_cases hx : x = e
  · subst hx; rw [if_pos ((keq_iff _ _).2 rfl)]; simp
  · rw [if_neg (fun h => hx ((keq_iff _ _).1 h)), h]; simp [hx]

section
variable {succ : KeyD → List KeyD} {filt : KeyD → Bool}
/-- what has been handed over, when i elements are done and g successors of the one at hand -/
def Con (succ : KeyD → List KeyD) (filt : KeyD → Bool) (T : List KeyD) (i g : Nat) (x r : KeyD) : Prop :=
  ∃ j, T[j]? = some x ∧ filt r = true ∧ ((j < i ∧ r ∈ succ x) ∨ (j = i ∧ r ∈ (succ x).take g))
theorem Con.grow {T T' : List KeyD} {i g : Nat} {x r : KeyD} (hi : i < T.length) : Con succ filt (T ++ T') i g x r ↔ Con succ filt T i g x r := by
  constructor
  · rintro ⟨j, h1, h2, h3⟩
    rw [List.getElem?_append_left (by omega)] at h1
    exact ⟨j, h1, h2, h3⟩
  · rintro ⟨j, h1, h2, h3⟩
    exact ⟨j, by rw [List.getElem?_append_left (by omega)]; exact h1, h2, h3⟩
theorem Con.step {T : List KeyD} {i g : Nat} {c e : KeyD} (hc : T[i]? = some c) (he : (succ c)[g]? = some e) {x r : KeyD} : Con succ filt T i (g + 1) x r ↔ Con succ filt T i g x r ∨ (x = c ∧ r = e ∧ filt e = true) := by
  constructor
  · rintro ⟨j, h1, h2, h3 | ⟨rfl, h3⟩⟩
    · exact .inl ⟨j, h1, h2, .inl h3⟩
    · rw [hc] at h1
      injection h1 with h1
      subst h1
      rw [take_snoc' he, List.mem_append, List.mem_singleton] at h3
      rcases h3 with h3 | rfl
      · exact .inl ⟨j, hc, h2, .inr ⟨rfl, h3⟩⟩
      · exact .inr ⟨rfl, rfl, h2⟩
  · rintro (⟨j, h1, h2, h3 | ⟨rfl, h3⟩⟩ | ⟨rfl, rfl, h⟩)
    · exact ⟨j, h1, h2, .inl h3⟩
    · rw [hc] at h1
      injection h1 with h1
      subst h1
      exact ⟨j, hc, h2, .inr ⟨rfl, by rw [take_snoc' he]; exact List.mem_append_left _ h3⟩⟩
    · exact ⟨i, hc, h, .inr ⟨rfl, by rw [take_snoc' he]; simp⟩⟩
theorem Con.next {T : List KeyD} {i : Nat} {c : KeyD} (hc : T[i]? = some c) {x r : KeyD} : Con succ filt T i (succ c).length x r ↔ Con succ filt T (i + 1) 0 x r := by
  constructor
  · rintro ⟨j, h1, h2, h3 | ⟨rfl, h3⟩⟩
    · exact ⟨j, h1, h2, .inl ⟨by omega, h3.2⟩⟩
    · rw [hc] at h1
      injection h1 with h1
      subst h1
      rw [List.take_length] at h3
      exact ⟨j, hc, h2, .inl ⟨by omega, h3⟩⟩
  · rintro ⟨j, h1, h2, h3 | ⟨rfl, h3⟩⟩
    · by_cases hj : j = i
      · subst hj
        rw [hc] at h1
        injection h1 with h1
        subst h1
        exact ⟨j, hc, h2, .inr ⟨rfl, by rw [List.take_length]; exact h3.2⟩⟩
      · exact ⟨j, h1, h2, .inl ⟨by omega, h3.2⟩⟩
    · simp at h3
/-- a list that grows while it is gone through: pre, and behind it what was found -/
structure WL (succ : KeyD → List KeyD) (filt : KeyD → Bool) (Rch : KeyD → Prop) (pre : List KeyD) (seen : List (KeyD × Bool)) (M : List KeyD) (i g : Nat) : Prop where
  nd : M.Nodup
  see : ∀ x, (mget keq_KeyD x seen).getD false = decide (x ∈ M)
  rch : ∀ x ∈ M, Rch x
  con : ∀ x r, Con succ filt (pre ++ M) i g x r → r ∈ M
variable {Rch : KeyD → Prop} {pre : List KeyD} {seen : List (KeyD × Bool)} {M : List KeyD} {i g : Nat} {c e : KeyD}
theorem WL.skip (h : WL succ filt Rch pre seen M i g) (hc : (pre ++ M)[i]? = some c) (he : (succ c)[g]? = some e) (hf : filt e = false) : WL succ filt Rch pre seen M i (g + 1) :=
  ⟨h.nd, h.see, h.rch, fun x r hx => by
    rcases (Con.step hc he).1 hx with h1 | ⟨_, _, h1⟩
    · exact h.con x r h1
    · rw [hf] at h1; cases h1⟩
theorem WL.old (h : WL succ filt Rch pre seen M i g) (hc : (pre ++ M)[i]? = some c) (he : (succ c)[g]? = some e) (hm : e ∈ M) : WL succ filt Rch pre seen M i (g + 1) :=
  ⟨h.nd, h.see, h.rch, fun x r hx => by
    rcases (Con.step hc he).1 hx with h1 | ⟨_, rfl, _⟩
    · exact h.con x r h1
    · exact hm⟩
theorem WL.new (h : WL succ filt Rch pre seen M i g) (hc : (pre ++ M)[i]? = some c) (he : (succ c)[g]? = some e) (hm : e ∉ M) (hr : Rch e) : WL succ filt Rch pre (mput keq_KeyD e true seen) (M ++ [e]) i (g + 1) :=
  ⟨List.nodup_append.2 ⟨h.nd, by simp, fun a ha b hb e2 => by rw [List.mem_singleton] at hb; subst hb e2; exact hm ha⟩, put_seen h.see e, fun x hx => by
    rcases List.mem_append.1 hx with hx | hx
    · exact h.rch x hx
    · rw [List.mem_singleton] at hx; subst hx; exact hr, fun x r hx => by
    have hi : i < (pre ++ M).length := (List.getElem?_eq_some_iff.1 hc).1
    rw [← List.append_assoc, Con.grow hi] at hx
    rcases (Con.step hc he).1 hx with h1 | ⟨_, rfl, _⟩
    · exact List.mem_append_left _ (h.con x r h1)
    · simp⟩
theorem WL.next (h : WL succ filt Rch pre seen M i g) (hc : (pre ++ M)[i]? = some c) (hg : g = (succ c).length) : WL succ filt Rch pre seen M (i + 1) 0 :=
  ⟨h.nd, h.see, h.rch, fun x r hx => h.con x r (by subst hg; exact (Con.next hc).2 hx)⟩
/-- when all is gone through -/
theorem WL.fin (h : WL succ filt Rch pre seen M i g) (hi : (pre ++ M).length ≤ i) {x r : KeyD} (hx : x ∈ pre ++ M) (hr : r ∈ succ x) (hf : filt r = true) : r ∈ M := by
  obtain ⟨j, hj⟩ := List.mem_iff_getElem?.1 hx
  exact h.con x r ⟨j, hj, hf, .inl ⟨by have := (List.getElem?_eq_some_iff.1 hj).1; omega, hr⟩⟩
end
end Go.Proofs.YtdappapdddnciaaDoor
