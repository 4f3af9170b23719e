/- Blocks of rules, plain. -/
import Derived.Test.YthpeklnhkkadjaaDoorT5
import Derived.Test.YthpeklnhkkadjaaDoorUV
set_option linter.unusedVariables false
set_option linter.unusedSimpArgs false
namespace Go.Proofs.YthpeklnhkkadjaaDoor
open Go.RowKit
open Go.Lib hiding intOf

/-- the first rule of a ring's block -/
def lo (rs : List Bool) : Nat → Nat
  | 0 => 0
  | a + 1 => if rs[a]? = some true then lo rs a else a + 1
def hiF (rs : List Bool) : Nat → Nat → Nat
  | 0, b => b
  | f + 1, b => if rs[b]? = some true then hiF rs f (b + 1) else b
theorem lo_succ (rs : List Bool) (a : Nat) : lo rs (a + 1) = if rs[a]? = some true then lo rs a else a + 1 := rfl
theorem hiF_succ (rs : List Bool) (f b : Nat) : hiF rs (f + 1) b = if rs[b]? = some true then hiF rs f (b + 1) else b := rfl
theorem lo_le (rs : List Bool) : ∀ a, lo rs a ≤ a
  | 0 => Nat.le_refl _
  | a + 1 => by
    have := lo_le rs a
    unfold lo
    split <;> omega
theorem hiF_le (rs : List Bool) : ∀ f b, b ≤ hiF rs f b ∧ hiF rs f b ≤ b + f
  | 0, b => ⟨Nat.le_refl _, Nat.le_refl _⟩
  | f + 1, b => by
    have := hiF_le rs f (b + 1)
    unfold hiF
    split <;> omega
/-- a rule's block -/
def blk (rs : List Bool) (n : Nat) : Nat × Nat := if rs[n]? = some true then (lo rs n, hiF rs (rs.length - (n + 1)) (n + 1)) else (n, n + 1)
theorem blk_in {rs : List Bool} {n : Nat} (h : n < rs.length) : (blk rs n).1 ≤ n ∧ n < (blk rs n).2 ∧ (blk rs n).2 ≤ rs.length := by
  have h1 := lo_le rs n
  have h2 := hiF_le rs (rs.length - (n + 1)) (n + 1)
  unfold blk
  split <;> simp only [] <;> omega
theorem blk_plain {rs : List Bool} {n : Nat} (h : rs[n]? = some false) : blk rs n = (n, n + 1) := by simp [blk, h]
def rings (l : List RuleD) : List Bool := l.map (·.Ring)
theorem rings_at {l : List RuleD} {n : Nat} (h : n < l.length) : (rings l)[n]? = some l[n].Ring := by simp [rings, h]
theorem toy_block {l : List RuleD} {n : Nat} (h : n < l.length) (hl : l.length ≤ 1000000) : toy_Block l n = some (((blk (rings l) n).1 : Int), ((blk (rings l) n).2 : Int)) := by
  unfold toy_Block
  rw [show decide ((n : Int) < 0) = false by simp, show decide (((l.length : Int) : Int) ≤ (n : Int)) = false by simp; omega, getI_at h]
  simp only [cond_false, Option.bind_some]
  have hr := rings_at h
  cases hb : l[n].Ring with
  | false =>
    rw [hb] at hr
    rw [blk_plain hr, w64 (by omega) (by omega)]
    rfl
  | true =>
    rw [hb] at hr
    have h1 : loop (fun s : Int => toy_Block_l4 l s) (n : Int) = some ((lo (rings l) n : Nat) : Int) := by
      refine loop_eq (I := fun k s => ∃ a : Nat, a + k = n ∧ s = (a : Int) ∧ lo (rings l) a = lo (rings l) n) _ n ?_ ?_ ⟨n, rfl, rfl, rfl⟩
      · rintro k _ hk ⟨a, ha, rfl, e⟩
        unfold toy_Block_l4
        obtain ⟨c, rfl⟩ : ∃ c, a = c + 1 := ⟨a - 1, by omega⟩
        have hc : c < l.length := by omega
        rw [show decide ((0 : Int) < ((c + 1 : Nat) : Int)) = true by simp <;> omega, w64 (by omega) (by omega), show (((c + 1 : Nat) : Int) - 1) = (c : Int) by omega, getI_at hc]
        simp only [cond_true, Option.bind_some]
        have hr2 := rings_at hc
        rw [lo_succ, hr2] at e
        cases hb2 : l[c].Ring with
        | true => rw [hb2, if_pos rfl] at e; exact .inl ⟨_, rfl, c, by omega, rfl, e⟩
        | false => rw [hb2, if_neg (by simp)] at e; right; rw [← e]; rfl
      · rintro _ ⟨a, ha, rfl, e⟩
        obtain rfl : a = 0 := by omega
        unfold toy_Block_l4
        rw [← e]; rfl
    have h2 : loop (fun s : Int => toy_Block_l2 l s) ((n + 1 : Nat) : Int) = some ((hiF (rings l) ((rings l).length - (n + 1)) (n + 1) : Nat) : Int) := by
      have hlen : (rings l).length = l.length := by simp [rings]
      rw [hlen]
      refine loop_eq (I := fun k s => ∃ a : Nat, a = n + 1 + k ∧ a ≤ l.length ∧ s = (a : Int) ∧ hiF (rings l) (l.length - a) a = hiF (rings l) (l.length - (n + 1)) (n + 1)) _ (l.length - (n + 1)) ?_ ?_ ⟨n + 1, rfl, h, rfl, rfl⟩
      · rintro k _ hk ⟨a, ha, hal, rfl, e⟩
        unfold toy_Block_l2
        have hc : a < l.length := by omega
        rw [show decide ((a : Int) < (l.length : Int)) = true by simp; omega, getI_at hc, w64 (by omega) (by omega)]
        simp only [cond_true, Option.bind_some]
        have hr2 := rings_at hc
        rw [show l.length - a = (l.length - (a + 1)) + 1 by omega] at e
        rw [hiF_succ, hr2] at e
        cases hb2 : l[a].Ring with
        | true => rw [hb2, if_pos rfl] at e; exact .inl ⟨_, rfl, a + 1, by omega, by omega, by simp, e⟩
        | false => rw [hb2, if_neg (by simp)] at e; right; rw [← e]; rfl
      · rintro _ ⟨a, ha, hal, rfl, e⟩
        obtain rfl : a = l.length := by omega
        unfold toy_Block_l2
        rw [Nat.sub_self] at e
        rw [← e]
        simp [hiF]
    simp only [Bool.not_true, cond_false]
    rw [h1]
    simp only [Option.bind_some]
    unfold toy_Block_j3 toy_Block_j1
    rw [w64 (by omega) (by omega), show ((n : Int) + 1) = ((n + 1 : Nat) : Int) by omega, h2]
    simp [blk, hr]
theorem ref_block {l : List RuleD} {n : Nat} (h : n < l.length) (hl : l.length ≤ 1000000) : ref24_Block l n = some (((blk (rings l) n).1 : Int), ((blk (rings l) n).2 : Int)) := by
  unfold ref24_Block
  rw [show decide ((n : Int) < 0) = false by simp, show decide (((l.length : Int) : Int) ≤ (n : Int)) = false by simp; omega]
  simp only [cond_false, Option.bind_some]
  have hr := rings_at h
  cases hb : l[n].Ring with
  | false =>
    rw [hb] at hr
    have h1 : loop (fun s : Int => ref24_Block_l4 l n s) (n : Int) = some (n : Int) := loop_out (by
      unfold ref24_Block_l4; rw [getI_at h]; simp only [Option.bind_some, hb, cond_false])
    have h2 : loop (fun s : Int => ref24_Block_l2 l n s) ((n : Int) + 1) = some ((n : Int) + 1) := loop_out (by
      unfold ref24_Block_l2; rw [getI_at h]; simp only [Option.bind_some, hb, cond_false])
    rw [h1]
    unfold ref24_Block_j3 ref24_Block_j1
    rw [Option.bind_some, w64 (by omega) (by omega), h2, blk_plain hr]
    rfl
  | true =>
    rw [hb] at hr
    have h1 : loop (fun s : Int => ref24_Block_l4 l n s) (n : Int) = some ((lo (rings l) n : Nat) : Int) := by
      refine loop_eq (I := fun k s => ∃ a : Nat, a + k = n ∧ s = (a : Int) ∧ lo (rings l) a = lo (rings l) n) _ n ?_ ?_ ⟨n, rfl, rfl, rfl⟩
      · rintro k _ hk ⟨a, ha, rfl, e⟩
        unfold ref24_Block_l4
        obtain ⟨c, rfl⟩ : ∃ c, a = c + 1 := ⟨a - 1, by omega⟩
        have hc : c < l.length := by omega
        rw [getI_at h, show decide ((0 : Int) < ((c + 1 : Nat) : Int)) = true by simp <;> omega, w64 (by omega) (by omega), show (((c + 1 : Nat) : Int) - 1) = (c : Int) by omega, getI_at hc]
        simp only [cond_true, Option.bind_some, hb]
        have hr2 := rings_at hc
        rw [lo_succ, hr2] at e
        cases hb2 : l[c].Ring with
        | true => rw [hb2, if_pos rfl] at e; exact .inl ⟨_, rfl, c, by omega, rfl, e⟩
        | false => rw [hb2, if_neg (by simp)] at e; right; rw [← e]; rfl
      · rintro _ ⟨a, ha, rfl, e⟩
        obtain rfl : a = 0 := by omega
        unfold ref24_Block_l4
        rw [getI_at h, ← e]
        simp only [Option.bind_some, hb, cond_true]
        rfl
    have h2 : loop (fun s : Int => ref24_Block_l2 l n s) ((n + 1 : Nat) : Int) = some ((hiF (rings l) ((rings l).length - (n + 1)) (n + 1) : Nat) : Int) := by
      have hlen : (rings l).length = l.length := by simp [rings]
      rw [hlen]
      refine loop_eq (I := fun k s => ∃ a : Nat, a = n + 1 + k ∧ a ≤ l.length ∧ s = (a : Int) ∧ hiF (rings l) (l.length - a) a = hiF (rings l) (l.length - (n + 1)) (n + 1)) _ (l.length - (n + 1)) ?_ ?_ ⟨n + 1, rfl, h, rfl, rfl⟩
      · rintro k _ hk ⟨a, ha, hal, rfl, e⟩
        unfold ref24_Block_l2
        have hc : a < l.length := by omega
        rw [getI_at h, show decide ((a : Int) < (l.length : Int)) = true by simp; omega, getI_at hc, w64 (by omega) (by omega)]
        simp only [cond_true, Option.bind_some, hb]
        have hr2 := rings_at hc
        rw [show l.length - a = (l.length - (a + 1)) + 1 by omega] at e
        rw [hiF_succ, hr2] at e
        cases hb2 : l[a].Ring with
        | true => rw [hb2, if_pos rfl] at e; exact .inl ⟨_, rfl, a + 1, by omega, by omega, by simp, e⟩
        | false => rw [hb2, if_neg (by simp)] at e; right; rw [← e]; rfl
      · rintro _ ⟨a, ha, hal, rfl, e⟩
        obtain rfl : a = l.length := by omega
        unfold ref24_Block_l2
        rw [Nat.sub_self] at e
        rw [getI_at h, ← e]
        simp [hiF, hb]
    rw [h1]
    simp only [Option.bind_some]
    unfold ref24_Block_j3 ref24_Block_j1
    rw [w64 (by omega) (by omega), show ((n : Int) + 1) = ((n + 1 : Nat) : Int) by omega, h2]
    simp [blk, hr]

end Go.Proofs.YthpeklnhkkadjaaDoor
