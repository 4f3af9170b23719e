/- Law 24, plain: ToyRules. -/
import Derived.Test.YthpeklnhkkadjaaDoorT7
set_option linter.unusedVariables false
set_option linter.unusedSimpArgs false
namespace Go.Proofs.YthpeklnhkkadjaaDoor
open Go.RowKit
open Go.Lib hiding intOf

def mayB (rs : List Bool) (i : Nat) (cell : Bool) (n : Int) : Bool := decide (0 ≤ n) && cond cell (decide (n ≤ 15)) (decide (n < (lim rs i : Int)))
theorem toy_may_is {l : List RuleD} {i : Nat} (h : i < l.length) (hl : l.length ≤ 1000000) (cell : Bool) (n : Int) : toy_may l (i : Int) cell n = some (mayB (rings l) i cell n) := by
  unfold toy_may mayB
  cases cell with
  | true =>
    rw [cond_true, cond_true]
    cases decide (0 ≤ n) <;> rfl
  | false =>
    rw [cond_false, cond_false, toy_block h hl, Option.bind_some]
    dsimp only
    have hb := blk_in (rs := rings l) (n := i) (by unfold rings; simpa using h)
    have hr := rings_at h
    rw [getI_at h, Option.bind_some]
    unfold lim
    rw [hr]
    cases hg : l[i].Ring with
    | true =>
      rw [hg] at hr
      rw [if_pos rfl]
      unfold toy_may_j2
      by_cases h0 : 0 ≤ n
      · rw [decide_eq_true h0]
        by_cases h1 : n < ((blk (rings l) i).1 : Int)
        · rw [decide_eq_true h1, decide_eq_true (show n < ((blk (rings l) i).2 : Int) by omega)]; rfl
        · rw [decide_eq_false h1]; rfl
      · rw [decide_eq_false h0]; rfl
    | false =>
      rw [hg] at hr
      rw [if_neg (by simp), blk_plain hr]
      unfold toy_may_j2
      cases decide (0 ≤ n) <;> cases decide (n < (i : Int)) <;> rfl
theorem ref_may_is {l : List RuleD} {i : Nat} (h : i < l.length) (hl : l.length ≤ 1000000) (x : AskD) (n : Int) : ref24_may l (i : Int) x n = some (mayB (rings l) i x.Cell n) := by
  unfold ref24_may mayB
  cases x.Cell with
  | true =>
    rw [cond_true, cond_true]
    cases decide (0 ≤ n) <;> rfl
  | false =>
    rw [cond_false, cond_false, ref_block h hl, Option.bind_some]
    dsimp only
    have hr := rings_at h
    rw [getI_at h, Option.bind_some]
    unfold lim
    rw [hr]
    cases hg : l[i].Ring with
    | true =>
      rw [if_pos rfl]
      unfold ref24_may_j3 ref24_may_j2
      cases decide (0 ≤ n) <;> rfl
    | false =>
      rw [hg] at hr
      rw [if_neg (by simp), blk_plain hr]
      unfold ref24_may_j3 ref24_may_j2
      cases decide (0 ≤ n) <;> rfl
def askB (rs : List Bool) (i : Nat) (ring first : Bool) (a : AskD) : Bool := mayB rs i a.Cell a.N && cond a.Pick (!ring && !first && mayB rs i a.Cell a.Else) ((a.Else : Int) == 0)
theorem right_is {l : List RuleD} {i : Nat} (h : i < l.length) (hl : l.length ≤ 1000000) (a : AskD) (first : Bool) : toy_right l (i : Int) a first = some (askB (rings l) i l[i].Ring first a) := by
  unfold toy_right askB toy_right_j1
  rw [getI_at h, toy_may_is h hl, toy_may_is h hl]
  simp only [Option.bind_some]
  cases a.Pick <;> cases l[i].Ring <;> cases first <;> cases mayB (rings l) i a.Cell a.N <;> cases mayB (rings l) i a.Cell a.Else <;> rfl
theorem loop_range {ρ : Type} {B : Int → Option (Fl Int ρ)} (n : Nat) (p : Nat → Bool) {y r : ρ} (hgo : ∀ k, k < n → p k = false → B (k : Int) = some (.go ((k + 1 : Nat) : Int))) (hy : ∀ k, k < n → p k = true → B (k : Int) = some (.out y)) (hn : B (n : Int) = some (.out r)) : loop B 0 = some (if (List.range n).any p then y else r) := by
  have hx : ∀ (k x : Nat), (List.range n)[k]? = some x → x = k ∧ k < n := fun k x h => by
    have hk := lt_of_get h
    simp only [List.length_range] at hk
    rw [List.getElem?_range hk] at h
    exact ⟨(Option.some.inj h).symm, hk⟩
  refine loop_any (xs := List.range n) p (fun k => (k : Int)) rfl (fun k x h hp => ?_) (fun k x h hp => ?_) (by simpa using hn)
  · obtain ⟨rfl, hk⟩ := hx k x h
    exact hgo _ hk hp
  · obtain ⟨rfl, hk⟩ := hx k x h
    exact hy _ hk hp
def badA (rs : List Bool) (i : Nat) (r : RuleD) (k : Nat) : Bool := match r.Asks[k]? with
  | some a => !askB rs i r.Ring (((k : Nat) : Int) == 0) a
  | none => false
def asksB (rs : List Bool) (i : Nat) (r : RuleD) : Bool := !((List.range r.Asks.length).any (badA rs i r))
def ruleG (rs : List Bool) (i : Nat) (r : RuleD) (low high most : Int) : Bool := !decide ((6 : Int) < (r.Asks.length : Int)) && !decide (r.Final < low) && !decide (high < r.Final) && !decide (r.C < 0) && !decide (most < r.C) && asksB rs i r
def ruleB (rs : List Bool) (i : Nat) (r : RuleD) : Bool := cond r.Ring (ruleG rs i r 5 5 65535) (ruleG rs i r 1 4 999)
/-- rules of which it can be said whether they are valid -/
def Bnd (l : List RuleD) : Prop := l.length ≤ 1000 ∧ ∀ r ∈ l, r.Asks.length ≤ 1000
theorem toy_asks {l : List RuleD} {i : Nat} (h : i < l.length) (hl : Bnd l) : loop (fun s : Int => toy_Valid_l3 l (i : Int) l[i] s) 0 = some (cond (asksB (rings l) i l[i]) (Fl.go ()) (Fl.out false)) := by
  have hA := hl.2 _ (List.getElem_mem h)
  have hB := hl.1
  have hstep : ∀ k, (hk : k < l[i].Asks.length) → toy_Valid_l3 l (i : Int) l[i] (k : Int) = some (cond (badA (rings l) i l[i] k) (.out (.out false)) (.go ((k + 1 : Nat) : Int))) := fun k hk => by
    unfold badA
    rw [List.getElem?_eq_getElem hk]
    dsimp only
    unfold toy_Valid_l3
    rw [dlt hk, cond_true, getI_at hk, Option.bind_some, right_is h (by omega), Option.bind_some, winc (by omega)]
    generalize askB (rings l) i l[i].Ring (((k : Nat) : Int) == 0) l[i].Asks[k] = x
    cases x <;> rfl
  have e := loop_range (B := fun s : Int => toy_Valid_l3 l (i : Int) l[i] s) l[i].Asks.length (badA (rings l) i l[i]) (y := Fl.out false) (r := Fl.go ()) (fun k hk hp => by rw [hstep k hk, hp]; rfl) (fun k hk hp => by rw [hstep k hk, hp]; rfl) (by unfold toy_Valid_l3; rw [dlt_end]; rfl)
  rw [e]
  unfold asksB
  cases (List.range l[i].Asks.length).any (badA (rings l) i l[i]) <;> rfl
theorem ref_asks {l : List RuleD} {i : Nat} (h : i < l.length) (hl : Bnd l) : loop (fun s : Int => ref24_Valid_l6 l (i : Int) l[i] s) 0 = some (cond (asksB (rings l) i l[i]) (Fl.go ()) (Fl.out false)) := by
  have hA := hl.2 _ (List.getElem_mem h)
  have hB := hl.1
  have hstep : ∀ k, (hk : k < l[i].Asks.length) → ref24_Valid_l6 l (i : Int) l[i] (k : Int) = some (cond (badA (rings l) i l[i] k) (.out (.out false)) (.go ((k + 1 : Nat) : Int))) := fun k hk => by
    unfold badA
    rw [List.getElem?_eq_getElem hk]
    dsimp only
    unfold ref24_Valid_l6 askB ref24_Valid_j5
    rw [dlt hk, cond_true, getI_at hk, Option.bind_some, ref_may_is h (by omega), ref_may_is h (by omega), winc (by omega)]
    simp only [Option.bind_some, bne]
    generalize (((k : Nat) : Int) == 0) = f
    generalize ((l[i].Asks[k].Else : Int) == 0) = z
    generalize mayB (rings l) i l[i].Asks[k].Cell l[i].Asks[k].N = m1
    generalize mayB (rings l) i l[i].Asks[k].Cell l[i].Asks[k].Else = m2
    generalize l[i].Asks[k].Pick = pk
    generalize l[i].Ring = rg
    cases pk <;> cases rg <;> cases f <;> cases m1 <;> cases m2 <;> cases z <;> rfl
  have e := loop_range (B := fun s : Int => ref24_Valid_l6 l (i : Int) l[i] s) l[i].Asks.length (badA (rings l) i l[i]) (y := Fl.out false) (r := Fl.go ()) (fun k hk hp => by rw [hstep k hk, hp]; rfl) (fun k hk hp => by rw [hstep k hk, hp]; rfl) (by unfold ref24_Valid_l6; rw [dlt_end]; rfl)
  rw [e]
  unfold asksB
  cases (List.range l[i].Asks.length).any (badA (rings l) i l[i]) <;> rfl
def badR (l : List RuleD) (k : Nat) : Bool := match l[k]? with
  | some r => !ruleB (rings l) k r
  | none => false
def validB (l : List RuleD) : Bool := decide ((l.length : Int) ≤ 24) && !((List.range l.length).any (badR l))
theorem toy_valid {l : List RuleD} (hl : Bnd l) : toy_Valid l = some (validB l) := by
  have hB := hl.1
  unfold toy_Valid validB
  by_cases h24 : (24 : Int) < (l.length : Int)
  · rw [decide_eq_true h24, decide_eq_false (by omega)]; rfl
  rw [decide_eq_false h24, decide_eq_true (by omega), cond_false]
  have hstep : ∀ k, (hk : k < l.length) → toy_Valid_l5 l (k : Int) = some (cond (badR l k) (.out (.out false)) (.go ((k + 1 : Nat) : Int))) := fun k hk => by
    have hj : ∀ low high most, toy_Valid_j4 l (k : Int) l[k] low high most = some (cond (ruleG (rings l) k l[k] low high most) (.go ((k + 1 : Nat) : Int)) (.out (.out false))) := fun low high most => by
      unfold toy_Valid_j4 ruleG
      rw [toy_asks hk hl]
      unfold toy_Valid_j2
      rw [winc (by omega)]
      cases decide ((6 : Int) < (l[k].Asks.length : Int)) <;> cases decide (l[k].Final < low) <;> cases decide (high < l[k].Final) <;> cases decide (l[k].C < 0) <;> cases decide (most < l[k].C) <;> cases asksB (rings l) k l[k] <;> rfl
    unfold badR
    rw [List.getElem?_eq_getElem hk]
    dsimp only
    unfold toy_Valid_l5 ruleB
    rw [dlt hk, cond_true, getI_at hk, Option.bind_some, hj, hj]
    generalize ruleG (rings l) k l[k] 1 4 999 = x1
    generalize ruleG (rings l) k l[k] 5 5 65535 = x2
    generalize l[k].Ring = rg
    cases rg <;> cases x1 <;> cases x2 <;> rfl
  rw [loop_range (B := fun s : Int => toy_Valid_l5 l s) l.length (badR l) (y := Fl.out false) (r := Fl.go ()) (fun k hk hp => by rw [hstep k hk, hp]; rfl) (fun k hk hp => by rw [hstep k hk, hp]; rfl) (by unfold toy_Valid_l5; rw [dlt_end]; rfl)]
  cases (List.range l.length).any (badR l) <;> rfl
theorem ref_valid {l : List RuleD} (hl : Bnd l) : ref24_Valid l = some (validB l) := by
  have hB := hl.1
  unfold ref24_Valid validB
  have hstep : ∀ k, (hk : k < l.length) → ref24_Valid_l7 l (k : Int) = some (cond (badR l k) (.out (.out false)) (.go ((k + 1 : Nat) : Int))) := fun k hk => by
    have hj : ref24_Valid_j4 (k : Int) l[k] = some (cond ((cond l[k].Ring (!decide (l[k].Final < 5) && !decide (5 < l[k].Final) && !decide (l[k].C < 0) && !decide (65535 < l[k].C)) (!decide (l[k].Final < 1) && !decide (4 < l[k].Final) && !decide (l[k].C < 0) && !decide (999 < l[k].C)))) (.go ((k + 1 : Nat) : Int)) (.out (.out false))) := by
      unfold ref24_Valid_j4 ref24_Valid_j3 ref24_Valid_j2
      rw [winc (by omega)]
      cases hrg : l[k].Ring
      · cases decide (l[k].Final < 1) <;> cases decide (4 < l[k].Final) <;> cases decide (l[k].C < 0) <;> cases decide (999 < l[k].C) <;> rfl
      · by_cases h5 : l[k].Final = 5
        · rw [show ((l[k].Final : Int) != 5) = false by simp [h5], decide_eq_false (show ¬ l[k].Final < 5 by omega), decide_eq_false (show ¬ 5 < l[k].Final by omega)]
          cases decide (l[k].C < 0) <;> cases decide (65535 < l[k].C) <;> rfl
        · rw [show ((l[k].Final : Int) != 5) = true by simp [h5]]
          rcases (show l[k].Final < 5 ∨ 5 < l[k].Final by omega) with h | h
          · rw [decide_eq_true h]; rfl
          · rw [decide_eq_true h]; simp
    unfold badR
    rw [List.getElem?_eq_getElem hk]
    dsimp only
    unfold ref24_Valid_l7 ruleB ruleG
    rw [dlt hk, cond_true, getI_at hk, Option.bind_some, ref_asks hk hl, Option.bind_some]
    have hel : ∀ z : Bool, (cond z (Fl.go ()) (Fl.out false) : Fl Unit Bool).el (fun s => ref24_Valid_j4 (k : Int) l[k]) (fun y => some (.out (.out y))) = cond z (ref24_Valid_j4 (k : Int) l[k]) (some (.out (.out false))) := fun z => by cases z <;> rfl
    rw [hel, hj]
    generalize asksB (rings l) k l[k] = z
    generalize decide ((6 : Int) < (l[k].Asks.length : Int)) = d6
    cases l[k].Ring
    · simp only [cond_false]
      generalize decide (l[k].Final < 1) = d1
      generalize decide (4 < l[k].Final) = d2
      generalize decide (l[k].C < 0) = d3
      generalize decide (999 < l[k].C) = d4
      cases z <;> cases d6 <;> cases d1 <;> cases d2 <;> cases d3 <;> cases d4 <;> rfl
    · simp only [cond_true]
      generalize decide (l[k].Final < 5) = d1
      generalize decide (5 < l[k].Final) = d2
      generalize decide (l[k].C < 0) = d3
      generalize decide (65535 < l[k].C) = d4
      cases z <;> cases d6 <;> cases d1 <;> cases d2 <;> cases d3 <;> cases d4 <;> rfl
  rw [loop_range (B := fun s : Int => ref24_Valid_l7 l s) l.length (badR l) (y := Fl.out false) (r := Fl.go ()) (fun k hk hp => by rw [hstep k hk, hp]; rfl) (fun k hk hp => by rw [hstep k hk, hp]; rfl) (by unfold ref24_Valid_l7; rw [dlt_end]; rfl)]
  unfold ref24_Valid_j1
  cases (List.range l.length).any (badR l) <;> simp [Fl.el]
end Go.Proofs.YthpeklnhkkadjaaDoor
