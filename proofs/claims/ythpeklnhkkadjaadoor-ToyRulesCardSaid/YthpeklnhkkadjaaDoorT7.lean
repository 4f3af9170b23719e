/- Rules that are made, plain. -/
import Derived.Test.YthpeklnhkkadjaaDoorT6
import Derived.Test.YthpeklnhkkadjaaDoorD5
set_option linter.unusedVariables false
set_option linter.unusedSimpArgs false
namespace Go.Proofs.YthpeklnhkkadjaaDoor
open Go.RowKit
open Go.Lib hiding intOf

/-- an ask that a rule may have: k its place, b the first rule that it may not ask -/
structure AskOk (ring : Bool) (k : Nat) (b : Int) (a : AskD) : Prop where
  low : 0 ≤ a.N
  cell : a.Cell = true → a.N < 4
  rule : a.Cell = false → a.N < b
  pick : a.Pick = true → ring = false ∧ 0 < k
  low2 : 0 ≤ a.Else
  cell2 : a.Cell = true → a.Else < 4
  rule2 : a.Cell = false → a.Else < b
  none : a.Pick = false → a.Else = 0
structure RuleOk (b : Int) (r : RuleD) : Prop where
  asks : r.Asks.length ≤ 3
  each : ∀ k a, r.Asks[k]? = some a → AskOk r.Ring k b a
  ring : r.Ring = true → r.Final = 5 ∧ 0 ≤ r.C ∧ r.C ≤ 16
  plain : r.Ring = false → 1 ≤ r.Final ∧ r.Final ≤ 4 ∧ 0 ≤ r.C ∧ r.C ≤ 5
/-- the first rule that rule i may not ask -/
def lim (rs : List Bool) (i : Nat) : Nat := if rs[i]? = some true then (blk rs i).2 else i
structure RulesOk (l : List RuleD) : Prop where
  low : 2 ≤ l.length
  high : l.length ≤ 8
  each : ∀ i r, l[i]? = some r → RuleOk (lim (rings l) i) r

def AskP (ring : Bool) (b k : Int) (ks : List AskD) : Fl (Int × List Int × Int × List AskD) (List Int × Int × List AskD) → Prop
  | .go s => s.1 = k - 1 ∧ DiceOk s.2.1 s.2.2.1 ∧ ∃ a, AskOk ring ks.length b a ∧ s.2.2.2 = ks ++ [a]
  | .out _ => False
section
variable {ring : Bool} {b k : Int} {ks : List AskD} {cell : Bool} {most n : Int} {l : List Int} {i : Int}
theorem r_j5 {pick : Bool} {e : Int} (ha : AskOk ring ks.length b ⟨cell, pick, n, e⟩) (hd : DiceOk l i) (hk : 1 ≤ k ∧ k ≤ 3) (hl : ks.length ≤ 3) : Ok (mill_Rules_j5 k ks cell n l i pick e) (AskP ring b k ks) := by
  unfold mill_Rules_j5 mill_Rules_j4
  exact Ok.gd (room (by simp; omega)) (Ok.ret ⟨w64 (by omega) (by omega), hd, _, ha, rfl⟩)
theorem r_j6 {g : Bool} (hg : g = true → ring = false ∧ 0 < ks.length) (hn : 0 ≤ n ∧ n < most) (hc : cell = true → most = 4) (hr : cell = false → most = b) (hm : 1 ≤ most ∧ most ≤ 8) (hd : DiceOk l i) (hk : 1 ≤ k ∧ k ≤ 3) (hl : ks.length ≤ 3) :
    Ok (mill_Rules_j6 k ks cell most n g l i) (AskP ring b k ks) := by
  unfold mill_Rules_j6
  refine Ok.cond (fun e => Ok.bind (next_ok hd (by omega) (by omega)) fun r hr2 => r_j5 ⟨hn.1, fun h => ?_, fun h => ?_, fun _ => hg e, hr2.1, fun h => ?_, fun h => ?_, fun h => by cases h⟩ hr2.2.2 hk hl)
    (fun e => r_j5 ⟨hn.1, fun h => ?_, fun h => ?_, fun h => (by cases h), by simp, fun h => (by simp), fun h => ?_, fun h => rfl⟩ hd hk hl)
  all_goals first
    | (have := hc h; simp only []; omega)
    | (have := hr h; simp only []; omega)
theorem r_j7 (hn : 0 ≤ n ∧ n < most) (hc : cell = true → most = 4) (hr : cell = false → most = b) (hm : 1 ≤ most ∧ most ≤ 8) (hd : DiceOk l i) (hk : 1 ≤ k ∧ k ≤ 3) (hl : ks.length ≤ 3) :
    Ok (mill_Rules_j7 ring k ks cell most l i n) (AskP ring b k ks) := by
  unfold mill_Rules_j7
  refine Ok.cond (fun e => Ok.cond (fun e2 => Ok.bind (next_ok hd (by omega) (by omega)) fun r hr2 => r_j6 (fun _ => ⟨by simpa using e, by simpa using e2⟩) hn hc hr hm hr2.2.2 hk hl) (fun e2 => ?_)) (fun e => ?_)
  all_goals exact r_j6 (fun h => by cases h) hn hc hr hm hd hk hl
theorem r_j9 (hc : cell = true → most = 4) (hr : cell = false → most = b) (hm : 1 ≤ most ∧ most ≤ 8) (hd : DiceOk l i) (hk : 1 ≤ k ∧ k ≤ 3) (hl : ks.length ≤ 3) :
    Ok (mill_Rules_j9 ring k ks l i cell most) (AskP ring b k ks) := by
  unfold mill_Rules_j9
  refine Ok.bind (next_ok hd (by omega) (by omega)) fun r h1 => ?_
  have h8 : ∀ {g : Bool} {l2 : List Int} {i2 : Int}, DiceOk l2 i2 → Ok (mill_Rules_j8 ring k ks cell most r g l2 i2) (AskP ring b k ks) := fun {g l2 i2} h2 => by
    unfold mill_Rules_j8
    refine Ok.cond (fun _ => Ok.bind (next_ok h2 (by omega) (by omega)) fun q h3 => ?_) (fun _ => r_j7 ⟨h1.1, h1.2.1⟩ hc hr hm h2 hk hl)
    have := h3.1; have := h3.2.1
    rw [show IntKind.i64.wrap (most - 1) = most - 1 from w64 (by omega) (by omega), w64 (by omega) (by omega)]
    exact r_j7 ⟨by omega, by omega⟩ hc hr hm h3.2.2 hk hl
  refine Ok.cond (fun _ => Ok.bind (next_ok h1.2.2 (by omega) (by omega)) fun q h3 => h8 h3.2.2) (fun _ => h8 h1.2.2)
theorem r_l11 (hb : 0 ≤ b ∧ b ≤ 8) (hd : DiceOk l i) (hk : 1 ≤ k ∧ k ≤ 3) (hl : ks.length ≤ 3) : Ok (mill_Rules_l11 b ring k l i ks) (AskP ring b k ks) := by
  unfold mill_Rules_l11
  refine Ok.cond (fun _ => Ok.bind (next_ok hd (by omega) (by omega)) fun r h1 => ?_) (fun e => by simp at e; omega)
  have h10 : ∀ {c : Bool}, (c = false → 1 ≤ b) → Ok (mill_Rules_j10 b ring k ks r.2.L r.2.At c) (AskP ring b k ks) := fun {c} h => by
    unfold mill_Rules_j10
    exact Ok.cond (fun e => by subst e; exact r_j9 (fun _ => rfl) (fun h => by cases h) ⟨by omega, by omega⟩ h1.2.2 hk hl) (fun e => by subst e; exact r_j9 (fun h => by cases h) (fun _ => rfl) ⟨h rfl, hb.2⟩ h1.2.2 hk hl)
  exact Ok.cond (fun _ => h10 fun h => by cases h) (fun _ => h10 fun h => by simp at h; omega)
end
/-- the rule that comes to place n, with dice that can be thrown on -/
def NewP (l : List RuleD) (n : Nat) (ring : Bool) (b : Int) : Fl (List RuleD × Int × List Int × Int) (List RuleD × List Int × Int) → Prop
  | .go s => (∃ r, RuleOk b r ∧ r.Ring = ring ∧ s.1 = l.set n r) ∧ s.2.1 = n + 1 ∧ DiceOk s.2.2.1 s.2.2.2
  | .out _ => False
theorem r_j12 {l : List RuleD} {n : Nat} (h : n < l.length) (hl : l.length ≤ 8) {b : Int} (hb : 0 ≤ b ∧ b ≤ 8) {ring : Bool} {d : List Int} {i : Int} (hd : DiceOk d i) {f c : Int}
    (h5 : ring = true → f = 5 ∧ 0 ≤ c ∧ c ≤ 16) (h6 : ring = false → 1 ≤ f ∧ f ≤ 4 ∧ 0 ≤ c ∧ c ≤ 5) : Ok (mill_Rules_j12 l n b ring d i f c) (NewP l n ring b) := by
  unfold mill_Rules_j12
  refine Ok.bind (next_ok hd (by omega) (by omega)) fun r h1 => ?_
  refine Ok.loop (fun k s => s.1 = r.1 - k ∧ s.2.2.2.length = k ∧ DiceOk s.2.1 s.2.2.1 ∧ ∀ j a, s.2.2.2[j]? = some a → AskOk ring j b a) (fun q => q.2.2.length ≤ 3 ∧ DiceOk q.1 q.2.1 ∧ ∀ j a, q.2.2[j]? = some a → AskOk ring j b a) r.1.toNat
    ⟨by simp, rfl, h1.2.2, fun j a e => by simp at e⟩ (fun k s hk hI => ?_) (fun q hq => ?_)
  · obtain ⟨e1, e2, e3, e4⟩ := hI
    have := h1.1; have := h1.2.1
    by_cases hz : (0 : Int) < s.1
    · refine (r_l11 hb e3 ⟨by omega, by omega⟩ (by omega)).mono fun y hy => ?_
      cases y with
      | out q => exact hy.elim
      | go s2 =>
        obtain ⟨g1, g2, a, g3, g4⟩ := hy
        refine ⟨by omega, by omega, by rw [g4]; simp; omega, g2, fun j x hx => ?_⟩
        rw [g4] at hx
        by_cases hj : j < s.2.2.2.length
        · rw [List.getElem?_append_left hj] at hx; exact e4 j x hx
        · rw [List.getElem?_append_right (by omega)] at hx
          obtain rfl : j = s.2.2.2.length := by
            rcases Nat.lt_or_ge s.2.2.2.length j with h | h
            · rw [List.getElem?_eq_none (by simp; omega)] at hx; cases hx
            · omega
          simp at hx; subst hx; exact g3
    · unfold mill_Rules_l11
      rw [show decide ((0 : Int) < s.1) = false by simpa using hz]
      exact Ok.ret ⟨by simp only []; omega, e3, e4⟩
  · unfold mill_Rules_j3 mill_Rules_j2
    refine Ok.get (by omega) (by omega) fun v _ _ => Ok.ret ⟨⟨⟨ring, q.2.2, f, c⟩, ⟨hq.1, hq.2.2, h5, h6⟩, rfl, by simp⟩, w64 (by omega) (by omega), hq.2.1⟩
theorem r_l15 {l : List RuleD} {n : Nat} (h : n < l.length) (hl : l.length ≤ 8) {d : List Int} {i : Int} (hd : DiceOk d i) (l0 : List RuleD) (h0 : l0.length = l.length) : Ok (mill_Rules_l15 l0 l n d i) (NewP l n l[n].Ring (lim (rings l) n)) := by
  unfold mill_Rules_l15
  rw [show decide ((n : Int) < (l0.length : Int)) = true by simp; omega, ref_block h (by omega)]
  simp only [cond_true, Option.bind_some]
  rw [getI_at h]
  simp only [Option.bind_some]
  have hb := blk_in (rs := rings l) (n := n) (by simpa [rings] using h)
  have hlen : (rings l).length = l.length := by simp [rings]
  have h14 : ∀ {b : Int}, 0 ≤ b ∧ b ≤ 8 → Ok (mill_Rules_j14 l n d i b) (NewP l n l[n].Ring b) := fun {b} hb => by
    unfold mill_Rules_j14
    rw [getI_at h, Option.bind_some]
    refine Ok.bind (next_ok hd (by omega) (by omega)) fun r h1 => Ok.bind (next_ok h1.2.2 (by omega) (by omega)) fun q h2 => ?_
    have := h1.1; have := h1.2.1; have := h2.1; have := h2.2.1
    rw [w64 (by omega) (by omega)]
    unfold mill_Rules_j13
    refine Ok.cond (fun e => Ok.bind (next_ok h2.2.2 (by omega) (by omega)) fun p h3 => Ok.get h3.1 (by simpa using h3.2.1) fun v _ hv => ?_) (fun e => ?_)
    · refine r_j12 h hl hb h3.2.2 (fun _ => ⟨rfl, ?_⟩) (fun e2 => by rw [e] at e2; cases e2)
      simp only [List.mem_cons, List.not_mem_nil, or_false] at hv
      omega
    · exact r_j12 h hl hb h2.2.2 (fun e2 => by rw [e] at e2; cases e2) (fun _ => ⟨by omega, by omega, by omega, by omega⟩)
  have hr := rings_at h
  unfold lim
  rw [hr]
  cases e : l[n].Ring with
  | true => rw [e] at h14; simp only [Bool.not_true, cond_false, if_true]; exact h14 ⟨by omega, by omega⟩
  | false => rw [e] at h14 hr; rw [blk_plain hr]; simp only [Bool.not_false, cond_true]; exact h14 ⟨by omega, by omega⟩
theorem rings_set {l : List RuleD} {n : Nat} {r : RuleD} (h : n < l.length) (e : r.Ring = l[n].Ring) : rings (l.set n r) = rings l := by
  unfold rings
  rw [List.map_set, e]
  apply List.ext_getElem (by simp)
  intro j h1 h2
  by_cases hj : n = j
  · subst hj; simp
  · simp [hj]
theorem rules_ok {d : List Int} {i : Int} (hd : DiceOk d i) : Ok (mill_Rules ⟨d, i⟩) fun y => RulesOk y.1 ∧ DiceOk y.2.L y.2.At := by
  unfold mill_Rules
  refine Ok.bind (next_ok hd (by omega) (by omega)) fun r h1 => ?_
  have := h1.1; have := h1.2.1
  rw [w64 (by omega) (by omega)]
  refine Ok.loop (fun k s => s.1.length = k ∧ s.2.1 = 2 + r.1 - k ∧ DiceOk s.2.2.1 s.2.2.2) (fun q => 2 ≤ q.1.length ∧ q.1.length ≤ 8 ∧ DiceOk q.2.1 q.2.2) (2 + r.1).toNat ⟨rfl, by simp, h1.2.2⟩ (fun k s hk hI => ?_) (fun q hq => ?_)
  · obtain ⟨e1, e2, e3⟩ := hI
    unfold mill_Rules_l17
    refine Ok.cond (fun e => Ok.bind (next_ok e3 (by omega) (by omega)) fun q h2 => Ok.gd (room (by simp; omega)) (Ok.ret ?_)) (fun e => Ok.ret ?_)
    · have e : (0 : Int) < s.2.1 := by simpa using e
      exact ⟨by omega, by simp [e1], by dsimp only; rw [w64 (by omega) (by omega)]; omega, h2.2.2⟩
    · have e : ¬ (0 : Int) < s.2.1 := by simpa using e
      exact ⟨by dsimp only; omega, by dsimp only; omega, e3⟩
  · obtain ⟨q1, q2, q3⟩ := hq
    unfold mill_Rules_j16
    refine Ok.loop (fun k s => s.1.length = q.1.length ∧ s.2.1 = k ∧ DiceOk s.2.2.1 s.2.2.2 ∧ rings s.1 = rings q.1 ∧ ∀ j r, j < k → s.1[j]? = some r → RuleOk (lim (rings q.1) j) r) (fun p => RulesOk p.1 ∧ DiceOk p.2.1 p.2.2) q.1.length ⟨rfl, rfl, q3, rfl, fun j r h => by omega⟩ (fun k s hk hI => ?_) (fun p hp => ?_)
    · obtain ⟨e1, e2, e3, e4, e5⟩ := hI
      by_cases hz : k < q.1.length
      · have hz1 : k < s.1.length := by omega
        rw [e2]
        refine (r_l15 hz1 (by omega) e3 q.1 e1.symm).mono fun y hy => ?_
        cases y with
        | out q => exact hy.elim
        | go s2 =>
          obtain ⟨⟨x, g1, g2, g3⟩, g4, g5⟩ := hy
          refine ⟨hz, by rw [g3]; simpa using e1, by rw [g4]; simp, g5, by rw [g3, rings_set hz1 g2]; exact e4, fun j r hj hr => ?_⟩
          rw [g3] at hr
          by_cases hjk : k = j
          · subst hjk
            rw [List.getElem?_set_self hz1] at hr
            injection hr with hr; subst hr
            rw [e4] at g1; exact g1
          · rw [List.getElem?_set_ne hjk] at hr
            exact e5 j r (by omega) hr
      · unfold mill_Rules_l15
        rw [show decide ((s.2.1 : Int) < (q.1.length : Int)) = false by simp; omega]
        refine Ok.ret ⟨⟨by simp only []; omega, by simp only []; omega, fun j r hr => ?_⟩, e3⟩
        rw [e4]
        exact e5 j r (by have := (List.getElem?_eq_some_iff.1 hr).1; dsimp only at this; omega) hr
    · unfold mill_Rules_j1
      exact Ok.ret hp

end Go.Proofs.YthpeklnhkkadjaaDoor
