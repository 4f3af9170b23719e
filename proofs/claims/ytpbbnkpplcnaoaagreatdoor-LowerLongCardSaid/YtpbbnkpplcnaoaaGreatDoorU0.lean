/- Plain laws of what decompiled functions are made of. -/
import Derived.Test.YtpbbnkpplcnaoaaGreatDoorH0
import Derived.IntWalk
set_option linter.unusedVariables false
set_option linter.unusedSimpArgs false
namespace Go.Proofs.YtpbbnkpplcnaoaaGreatDoor
open Go.RowKit

theorem loop_spec {σ ρ : Type} {B : σ → Option (Fl σ ρ)} (I : Nat → σ → Prop) (post : ρ → Prop) (N : Nat)
    (hs : ∀ k s, k < N → I k s → (∃ s', B s = some (.go s') ∧ I (k + 1) s') ∨ ∃ r, B s = some (.out r) ∧ post r) (he : ∀ s, I N s → ∃ r, B s = some (.out r) ∧ post r) {s : σ} (h0 : I 0 s) : ∃ r, loop B s = some r ∧ post r := by
  have key : ∀ (m k : Nat) (s : σ), k + m = N → I k s → ∃ r, loop B s = some r ∧ post r := by
    intro m
    induction m with
    | zero =>
      intro k s hk hI
      obtain rfl : k = N := by omega
      obtain ⟨r, h1, h2⟩ := he s hI
      exact ⟨r, loop_out h1, h2⟩
    | succ m ih =>
      intro k s hk hI
      rcases hs k s (by omega) hI with ⟨s', h1, h2⟩ | ⟨r, h1, h2⟩
      · obtain ⟨r, h3, h4⟩ := ih (k + 1) s' (by omega) h2
        exact ⟨r, (loop_go h1).trans h3, h4⟩
      · exact ⟨r, loop_out h1, h2⟩
  exact key N 0 s (by omega) h0
/-- a loop whose result is told -/
theorem loop_eq {σ ρ : Type} {B : σ → Option (Fl σ ρ)} (I : Nat → σ → Prop) (y : ρ) (N : Nat)
    (hs : ∀ k s, k < N → I k s → (∃ s', B s = some (.go s') ∧ I (k + 1) s') ∨ B s = some (.out y)) (he : ∀ s, I N s → B s = some (.out y)) {s : σ} (h0 : I 0 s) : loop B s = some y := by
  obtain ⟨r, h1, rfl⟩ := loop_spec I (fun r => r = y) N (fun k s hk hI => (hs k s hk hI).imp id fun h => ⟨y, h, rfl⟩) (fun s hI => ⟨y, he s hI, rfl⟩) h0
  exact h1
theorem w64 {z : Int} (h1 : -9223372036854775808 ≤ z) (h2 : z ≤ 9223372036854775807) : IntKind.i64.wrap z = z := by rw [IntKind.wrap_i64]; omega
theorem getI_at {α : Type} {xs : List α} {k : Nat} (h : k < xs.length) : getI xs (k : Int) = some xs[k] := by
  unfold getI
  simp [h]
theorem subI_at {α : Type} {xs : List α} {l h : Nat} (h1 : l ≤ h) (h2 : h ≤ xs.length) : subI xs (l : Int) (h : Int) = some ((xs.take h).drop l) := by
  unfold subI
  rw [if_pos ⟨by omega, by omega, by omega⟩]
  simp
theorem room {n : Nat} (h : n ≤ 4294967296) : roomB n = true := Nat.ble_eq_true_of_le h
/-- it answers, and so -/
def Ok {α : Type} (m : Option α) (P : α → Prop) : Prop := ∃ y, m = some y ∧ P y
section
variable {α β : Type} {m : Option α} {P Q : α → Prop} {R : β → Prop} {f : α → Option β} {b : Bool} {x y : Option α}
theorem Ok.ret {v : α} (h : P v) : Ok (some v) P := ⟨v, rfl, h⟩
theorem Ok.bind (h : Ok m Q) (k : ∀ v, Q v → Ok (f v) R) : Ok (m.bind f) R := by
  obtain ⟨v, rfl, hv⟩ := h
  exact k v hv
theorem Ok.eq {v : α} (h : m = some v) (k : Ok (f v) R) : Ok (m.bind f) R := by rw [h]; exact k
theorem Ok.cond (ht : b = true → Ok x P) (hf : b = false → Ok y P) : Ok (cond b x y) P := by
  cases b
  · exact hf rfl
  · exact ht rfl
theorem Ok.gd (hb : b = true) (h : Ok x P) : Ok (gd b x) P := by subst hb; exact h
theorem Ok.mono (h : Ok m Q) (k : ∀ v, Q v → P v) : Ok m P := by obtain ⟨v, e, hv⟩ := h; exact ⟨v, e, k v hv⟩
theorem Ok.get {xs : List α} {i : Int} (h0 : 0 ≤ i) (h1 : i < xs.length) (k : ∀ v, xs[i.toNat]? = some v → v ∈ xs → Ok (f v) R) : Ok ((getI xs i).bind f) R := by
  have hk : i.toNat < xs.length := by omega
  have e : getI xs i = some xs[i.toNat] := by
    have := getI_at hk
    rwa [Int.toNat_of_nonneg h0] at this
  rw [e]
  exact k _ (List.getElem?_eq_getElem hk) (List.getElem_mem hk)
theorem Ok.loop {σ ρ : Type} {B : σ → Option (Fl σ ρ)} {s : σ} {g : ρ → Option β} (I : Nat → σ → Prop) (post : ρ → Prop) (N : Nat) (h0 : I 0 s)
    (hs : ∀ k s, k ≤ N → I k s → Ok (B s) fun r => match r with
      | .go s' => k < N ∧ I (k + 1) s'
      | .out r => post r)
    (k : ∀ r, post r → Ok (g r) R) : Ok ((Go.Proofs.YtpbbnkpplcnaoaaGreatDoor.loop B s).bind g) R := by
  obtain ⟨r, h1, h2⟩ := loop_spec (B := B) I post N (fun k s hk hI => by
      obtain ⟨y, e, hy⟩ := hs k s (by omega) hI
      cases y with
      | go s' => exact .inl ⟨s', e, hy.2⟩
      | out r => exact .inr ⟨r, e, hy⟩) (fun s hI => by
      obtain ⟨y, e, hy⟩ := hs N s (Nat.le_refl _) hI
      cases y with
      | go s' => exact absurd hy.1 (by omega)
      | out r => exact ⟨r, e, hy⟩) h0
  rw [h1]
  exact k r h2
end
end Go.Proofs.YtpbbnkpplcnaoaaGreatDoor
