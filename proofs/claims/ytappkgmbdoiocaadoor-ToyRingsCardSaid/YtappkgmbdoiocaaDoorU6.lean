/- Plain laws: what answers; dice; blocks of rules. -/
import Derived.Test.YtappkgmbdoiocaaDoorU5
import Derived.Test.YtappkgmbdoiocaaDoorD4
set_option linter.unusedVariables false
set_option linter.unusedSimpArgs false
namespace Go.Proofs.YtappkgmbdoiocaaDoor
open Go.RowKit
open Go.Lib hiding intOf

/-- it answers, and so -/
def Ok {α : Type} (m : Option α) (P : α → Prop) : Prop := ∃ y, m = some y ∧ P y
section
variable {α β : Type} {m : Option α} {P Q : α → Prop} {R : β → Prop} {f : α → Option β} {b : Bool} {x y : Option α}
theorem Ok.ret {v : α} (h : P v) : Ok (some v) P := ⟨v, rfl, h⟩
theorem Ok.bind (h : Ok m Q) (k : ∀ v, Q v → Ok (f v) R) : Ok (m.bind f) R := by
  obtain ⟨v, rfl, hv⟩ := h
  exact k v hv
theorem Ok.eq {v : α} (h : m = some v) (k : Ok (f v) R) : Ok (m.bind f) R := by rw [h]; exact k
theorem Ok.cond (ht : b = true → Ok x P) (hf : b = false → Ok y P) : Ok (cond b x y) P := by
  cases b
  · exact hf rfl
  · exact ht rfl
theorem Ok.gd (hb : b = true) (h : Ok x P) : Ok (gd b x) P := by subst hb; exact h
theorem Ok.mono (h : Ok m Q) (k : ∀ v, Q v → P v) : Ok m P := by obtain ⟨v, e, hv⟩ := h; exact ⟨v, e, k v hv⟩
theorem Ok.get {xs : List α} {i : Int} (h0 : 0 ≤ i) (h1 : i < xs.length) (k : ∀ v, xs[i.toNat]? = some v → v ∈ xs → Ok (f v) R) : Ok ((getI xs i).bind f) R := by
  have hk : i.toNat < xs.length := by omega
  have e : getI xs i = some xs[i.toNat] := by
    have := getI_at hk
    rwa [Int.toNat_of_nonneg h0] at this
  rw [e]
  exact k _ (List.getElem?_eq_getElem hk) (List.getElem_mem hk)
theorem Ok.loop {σ ρ : Type} {B : σ → Option (Fl σ ρ)} {s : σ} {g : ρ → Option β} (I : Nat → σ → Prop) (post : ρ → Prop) (N : Nat) (h0 : I 0 s)
    (hs : ∀ k s, k ≤ N → I k s → Ok (B s) fun r => match r with
      | .go s' => k < N ∧ I (k + 1) s'
      | .out r => post r)
    (k : ∀ r, post r → Ok (g r) R) : Ok ((Go.Proofs.YtappkgmbdoiocaaDoor.loop B s).bind g) R := by
  obtain ⟨r, h1, h2⟩ := loop_spec (B := B) I post N (fun k s hk hI => by
      obtain ⟨y, e, hy⟩ := hs k s (by omega) hI
      cases y with
      | go s' => exact .inl ⟨s', e, hy.2⟩
      | out r => exact .inr ⟨r, e, hy⟩) (fun s hI => by
      obtain ⟨y, e, hy⟩ := hs N s (Nat.le_refl _) hI
      cases y with
      | go s' => exact absurd hy.1 (by omega)
      | out r => exact ⟨r, e, hy⟩) h0
  rw [h1]
  exact k r h2
end

/-- dice that can be thrown -/
structure DiceOk (l : List Int) (at_ : Int) : Prop where
  low : 0 ≤ at_
  high : at_ ≤ l.length
  len : l.length ≤ 400
theorem next_ok {l : List Int} {i : Int} (h : DiceOk l i) {n : Int} (h1 : 1 ≤ n) (h2 : n ≤ 1000000000) : Ok (dice_Next ⟨l, i⟩ n) fun r => 0 ≤ r.1 ∧ r.1 < n ∧ DiceOk r.2.L r.2.At := by
  unfold dice_Next
  refine Ok.cond (fun h3 => Ok.ret ⟨by omega, by omega, h⟩) (fun h3 => ?_)
  have h3 : i < l.length := by simpa using h3
  have := h.low; have := h.high; have := h.len
  dsimp only
  rw [show IntKind.i64.wrap (i + 1) = i + 1 from w64 (by omega) (by omega), w64 (by omega) (by omega)]
  refine Ok.get (by simpa using h.low) (by simpa using h3) fun v _ _ => ?_
  obtain ⟨m, rfl⟩ : ∃ m : Nat, n = m := ⟨n.toNat, by omega⟩
  obtain ⟨r, hr, e⟩ := mod_is v (m := m) (by omega) (by omega)
  exact Ok.eq e (Ok.ret ⟨by simp, by simp; omega, ⟨by simp; omega, by simp; omega, h.len⟩⟩)
theorem word_ok {l : List Int} {i : Int} (h : DiceOk l i) {ws : List ByteArray} (h1 : 1 ≤ ws.length) (h2 : ws.length ≤ 1000) : Ok (dice_Word ⟨l, i⟩ ws) fun r => r.1 ∈ ws ∧ DiceOk r.2.L r.2.At := by
  unfold dice_Word
  refine Ok.bind (next_ok h (by omega) (by omega)) fun r hr => Ok.get hr.1 hr.2.1 fun v _ hv => Ok.ret ⟨hv, hr.2.2⟩

/-- the first rule of a ring's block -/
def lo (rs : List Bool) : Nat → Nat
  | 0 => 0
  | a + 1 => if rs[a]? = some true then lo rs a else a + 1
def hiF (rs : List Bool) : Nat → Nat → Nat
  | 0, b => b
  | f + 1, b => if rs[b]? = some true then hiF rs f (b + 1) else b
theorem lo_succ (rs : List Bool) (a : Nat) : lo rs (a + 1) = if rs[a]? = some true then lo rs a else a + 1 := rfl
theorem hiF_succ (rs : List Bool) (f b : Nat) : hiF rs (f + 1) b = if rs[b]? = some true then hiF rs f (b + 1) else b := rfl
theorem lo_le (rs : List Bool) : ∀ a, lo rs a ≤ a
  | 0 => Nat.le_refl _
  | a + 1 => by
    have := lo_le rs a
    unfold lo
    split <;> omega
theorem hiF_le (rs : List Bool) : ∀ f b, b ≤ hiF rs f b ∧ hiF rs f b ≤ b + f
  | 0, b => ⟨Nat.le_refl _, Nat.le_refl _⟩
  | f + 1, b => by
    have := hiF_le rs f (b + 1)
    unfold hiF
    split <;> omega
/-- a rule's block -/
def blk (rs : List Bool) (n : Nat) : Nat × Nat := if rs[n]? = some true then (lo rs n, hiF rs (rs.length - (n + 1)) (n + 1)) else (n, n + 1)
theorem blk_in {rs : List Bool} {n : Nat} (h : n < rs.length) : (blk rs n).1 ≤ n ∧ n < (blk rs n).2 ∧ (blk rs n).2 ≤ rs.length := by
  have h1 := lo_le rs n
  have h2 := hiF_le rs (rs.length - (n + 1)) (n + 1)
  unfold blk
  split <;> simp only [] <;> omega
theorem blk_plain {rs : List Bool} {n : Nat} (h : rs[n]? = some false) : blk rs n = (n, n + 1) := by simp [blk, h]
def rings (l : List RuleD) : List Bool := l.map (·.Ring)
theorem rings_at {l : List RuleD} {n : Nat} (h : n < l.length) : (rings l)[n]? = some l[n].Ring := by simp [rings, h]
theorem toy_block {l : List RuleD} {n : Nat} (h : n < l.length) (hl : l.length ≤ 1000000) : toy_Block l n = some (((blk (rings l) n).1 : Int), ((blk (rings l) n).2 : Int)) := by
  unfold toy_Block
  rw [show decide ((n : Int) < 0) = false by simp, show decide (((l.length : Int) : Int) ≤ (n : Int)) = false by simp; omega, getI_at h]
  simp only [cond_false, Option.bind_some]
  have hr := rings_at h
  cases hb : l[n].Ring with
  | false =>
    rw [hb] at hr
    rw [blk_plain hr, w64 (by omega) (by omega)]
    rfl
  | true =>
    rw [hb] at hr
    have h1 : loop (fun s : Int => toy_Block_l4 l s) (n : Int) = some ((lo (rings l) n : Nat) : Int) := by
      refine loop_eq (I := fun k s => ∃ a : Nat, a + k = n ∧ s = (a : Int) ∧ lo (rings l) a = lo (rings l) n) _ n ?_ ?_ ⟨n, rfl, rfl, rfl⟩
      · rintro k _ hk ⟨a, ha, rfl, e⟩
        unfold toy_Block_l4
        obtain ⟨c, rfl⟩ : ∃ c, a = c + 1 := ⟨a - 1, by omega⟩
        have hc : c < l.length := by omega
        rw [show decide ((0 : Int) < ((c + 1 : Nat) : Int)) = true by simp <;> omega, w64 (by omega) (by omega), show (((c + 1 : Nat) : Int) - 1) = (c : Int) by omega, getI_at hc]
        simp only [cond_true, Option.bind_some]
        have hr2 := rings_at hc
        rw [lo_succ, hr2] at e
        cases hb2 : l[c].Ring with
        | true => rw [hb2, if_pos rfl] at e; exact .inl ⟨_, rfl, c, by omega, rfl, e⟩
        | false => rw [hb2, if_neg (by simp)] at e; right; rw [← e]; rfl
      · rintro _ ⟨a, ha, rfl, e⟩
        obtain rfl : a = 0 := by omega
        unfold toy_Block_l4
        rw [← e]; rfl
    have h2 : loop (fun s : Int => toy_Block_l2 l s) ((n + 1 : Nat) : Int) = some ((hiF (rings l) ((rings l).length - (n + 1)) (n + 1) : Nat) : Int) := by
      have hlen : (rings l).length = l.length := by simp [rings]
      rw [hlen]
      refine loop_eq (I := fun k s => ∃ a : Nat, a = n + 1 + k ∧ a ≤ l.length ∧ s = (a : Int) ∧ hiF (rings l) (l.length - a) a = hiF (rings l) (l.length - (n + 1)) (n + 1)) _ (l.length - (n + 1)) ?_ ?_ ⟨n + 1, rfl, h, rfl, rfl⟩
      · rintro k _ hk ⟨a, ha, hal, rfl, e⟩
        unfold toy_Block_l2
        have hc : a < l.length := by omega
        rw [show decide ((a : Int) < (l.length : Int)) = true by simp; omega, getI_at hc, w64 (by omega) (by omega)]
        simp only [cond_true, Option.bind_some]
        have hr2 := rings_at hc
        rw [show l.length - a = (l.length - (a + 1)) + 1 by omega] at e
        rw [hiF_succ, hr2] at e
        cases hb2 : l[a].Ring with
        | true => rw [hb2, if_pos rfl] at e; exact .inl ⟨_, rfl, a + 1, by omega, by omega, by simp, e⟩
        | false => rw [hb2, if_neg (by simp)] at e; right; rw [← e]; rfl
      · rintro _ ⟨a, ha, hal, rfl, e⟩
        obtain rfl : a = l.length := by omega
        unfold toy_Block_l2
        rw [Nat.sub_self] at e
        rw [← e]
        simp [hiF]
    simp only [Bool.not_true, cond_false]
    rw [h1]
    simp only [Option.bind_some]
    unfold toy_Block_j3 toy_Block_j1
    rw [w64 (by omega) (by omega), show ((n : Int) + 1) = ((n + 1 : Nat) : Int) by omega, h2]
    simp [blk, hr]
theorem ref_block {l : List RuleD} {n : Nat} (h : n < l.length) (hl : l.length ≤ 1000000) : ref24_Block l n = some (((blk (rings l) n).1 : Int), ((blk (rings l) n).2 : Int)) := by
  unfold ref24_Block
  rw [show decide ((n : Int) < 0) = false by simp, show decide (((l.length : Int) : Int) ≤ (n : Int)) = false by simp; omega]
  simp only [cond_false, Option.bind_some]
  have hr := rings_at h
  cases hb : l[n].Ring with
  | false =>
    rw [hb] at hr
    have h1 : loop (fun s : Int => ref24_Block_l4 l n s) (n : Int) = some (n : Int) := loop_out (by
      unfold ref24_Block_l4; rw [getI_at h]; simp only [Option.bind_some, hb, cond_false])
    have h2 : loop (fun s : Int => ref24_Block_l2 l n s) ((n : Int) + 1) = some ((n : Int) + 1) := loop_out (by
      unfold ref24_Block_l2; rw [getI_at h]; simp only [Option.bind_some, hb, cond_false])
    rw [h1]
    unfold ref24_Block_j3 ref24_Block_j1
    rw [Option.bind_some, w64 (by omega) (by omega), h2, blk_plain hr]
    rfl
  | true =>
    rw [hb] at hr
    have h1 : loop (fun s : Int => ref24_Block_l4 l n s) (n : Int) = some ((lo (rings l) n : Nat) : Int) := by
      refine loop_eq (I := fun k s => ∃ a : Nat, a + k = n ∧ s = (a : Int) ∧ lo (rings l) a = lo (rings l) n) _ n ?_ ?_ ⟨n, rfl, rfl, rfl⟩
      · rintro k _ hk ⟨a, ha, rfl, e⟩
        unfold ref24_Block_l4
        obtain ⟨c, rfl⟩ : ∃ c, a = c + 1 := ⟨a - 1, by omega⟩
        have hc : c < l.length := by omega
        rw [getI_at h, show decide ((0 : Int) < ((c + 1 : Nat) : Int)) = true by simp <;> omega, w64 (by omega) (by omega), show (((c + 1 : Nat) : Int) - 1) = (c : Int) by omega, getI_at hc]
        simp only [cond_true, Option.bind_some, hb]
        have hr2 := rings_at hc
        rw [lo_succ, hr2] at e
        cases hb2 : l[c].Ring with
        | true => rw [hb2, if_pos rfl] at e; exact .inl ⟨_, rfl, c, by omega, rfl, e⟩
        | false => rw [hb2, if_neg (by simp)] at e; right; rw [← e]; rfl
      · rintro _ ⟨a, ha, rfl, e⟩
        obtain rfl : a = 0 := by omega
        unfold ref24_Block_l4
        rw [getI_at h, ← e]
        simp only [Option.bind_some, hb, cond_true]
        rfl
    have h2 : loop (fun s : Int => ref24_Block_l2 l n s) ((n + 1 : Nat) : Int) = some ((hiF (rings l) ((rings l).length - (n + 1)) (n + 1) : Nat) : Int) := by
      have hlen : (rings l).length = l.length := by simp [rings]
      rw [hlen]
      refine loop_eq (I := fun k s => ∃ a : Nat, a = n + 1 + k ∧ a ≤ l.length ∧ s = (a : Int) ∧ hiF (rings l) (l.length - a) a = hiF (rings l) (l.length - (n + 1)) (n + 1)) _ (l.length - (n + 1)) ?_ ?_ ⟨n + 1, rfl, h, rfl, rfl⟩
      · rintro k _ hk ⟨a, ha, hal, rfl, e⟩
        unfold ref24_Block_l2
        have hc : a < l.length := by omega
        rw [getI_at h, show decide ((a : Int) < (l.length : Int)) = true by simp; omega, getI_at hc, w64 (by omega) (by omega)]
        simp only [cond_true, Option.bind_some, hb]
        have hr2 := rings_at hc
        rw [show l.length - a = (l.length - (a + 1)) + 1 by omega] at e
        rw [hiF_succ, hr2] at e
        cases hb2 : l[a].Ring with
        | true => rw [hb2, if_pos rfl] at e; exact .inl ⟨_, rfl, a + 1, by omega, by omega, by simp, e⟩
        | false => rw [hb2, if_neg (by simp)] at e; right; rw [← e]; rfl
      · rintro _ ⟨a, ha, hal, rfl, e⟩
        obtain rfl : a = l.length := by omega
        unfold ref24_Block_l2
        rw [Nat.sub_self] at e
        rw [getI_at h, ← e]
        simp [hiF, hb]
    rw [h1]
    simp only [Option.bind_some]
    unfold ref24_Block_j3 ref24_Block_j1
    rw [w64 (by omega) (by omega), show ((n : Int) + 1) = ((n + 1 : Nat) : Int) by omega, h2]
    simp [blk, hr]
end Go.Proofs.YtappkgmbdoiocaaDoor
