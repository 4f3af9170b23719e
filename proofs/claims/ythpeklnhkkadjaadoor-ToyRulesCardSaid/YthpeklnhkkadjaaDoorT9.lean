/- Law 24, plain: ToyRules, joined. -/
import Derived.Test.YthpeklnhkkadjaaDoorT8
set_option linter.unusedVariables false
set_option linter.unusedSimpArgs false
namespace Go.Proofs.YthpeklnhkkadjaaDoor
open Go.RowKit
open Go.Lib hiding intOf

theorem block_same {l : List RuleD} (hl : l.length ≤ 1000000) (i : Int) : ∃ a b : Int, toy_Block l i = some (a, b) ∧ ref24_Block l i = some (a, b) := by
  by_cases h0 : i < 0
  · refine ⟨0, 0, ?_, ?_⟩
    · unfold toy_Block; rw [decide_eq_true h0]; rfl
    · unfold ref24_Block; rw [decide_eq_true h0]; rfl
  by_cases h1 : (l.length : Int) ≤ i
  · refine ⟨0, 0, ?_, ?_⟩
    · unfold toy_Block; rw [decide_eq_false h0, decide_eq_true h1]; rfl
    · unfold ref24_Block; rw [decide_eq_false h0, decide_eq_true h1]; rfl
  obtain ⟨n, rfl⟩ : ∃ n : Nat, i = n := ⟨i.toNat, by omega⟩
  exact ⟨_, _, toy_block (by omega) hl, ref_block (by omega) hl⟩
theorem rules_l3 {l : List RuleD} (hl : Bnd l) : loop (fun s : Int => law24_ToyRules_l3 l s) (-1) = some (Fl.go ()) := by
  have hB := hl.1
  refine loop_to (fun k => (k : Int) - 1) (l.length + 2) rfl (fun k hk => ?_) ?_
  · unfold law24_ToyRules_l3
    obtain ⟨a, b, h1, h2⟩ := block_same (l := l) (by omega) ((k : Int) - 1)
    rw [decide_eq_true (show (k : Int) - 1 ≤ (l.length : Int) by omega), cond_true, h1, h2, Option.bind_some, Option.bind_some]
    dsimp only
    rw [bne_self_eq_false, bne_self_eq_false, cond_false, cond_false, w64 (by omega) (by omega), show (k : Int) - 1 + 1 = ((k + 1 : Nat) : Int) - 1 by omega]
  · unfold law24_ToyRules_l3
    rw [decide_eq_false (by omega)]; rfl
theorem rules_l4 {raw l : List RuleD} (hr : Bnd raw) (hl : Bnd l) : loop (fun s : (List (List RuleD)) × Int => law24_ToyRules_l4 raw l s.1 s.2) ([l, raw], 0) = some (Fl.go ()) := by
  refine loop_gather (xs := [l, raw]) (fun k => ([l, raw], (k : Int))) rfl (fun k x hx => ?_) ?_
  · dsimp only
    have hk := lt_of_get hx
    simp only [List.length_cons, List.length_nil] at hk
    have hX : Bnd x := by
      have := List.mem_of_getElem? hx
      simp only [List.mem_cons, List.not_mem_nil, or_false] at this
      rcases this with rfl | rfl
      · exact hl
      · exact hr
    unfold law24_ToyRules_l4
    rw [dlt_of hx, cond_true, getI_nat, hx, Option.bind_some, toy_valid hX, ref_valid hX, Option.bind_some, Option.bind_some, bne_self_eq_false, cond_false, rules_l3 hX, Option.bind_some]
    show law24_ToyRules_j2 _ _ = _
    unfold law24_ToyRules_j2
    rw [winc (by omega)]
  · dsimp only
    unfold law24_ToyRules_l4
    rw [dlt_end]; rfl
theorem rules_j5 {raw l : List RuleD} (hr : Bnd raw) (hl : Bnd l) : Ok (law24_ToyRules_j5 raw l) fun y => y = true := by
  refine ⟨true, ?_, rfl⟩
  unfold law24_ToyRules_j5
  rw [rules_l4 hr hl, Option.bind_some]
  show law24_ToyRules_j1 = _
  unfold law24_ToyRules_j1
  rw [law24_awake_is]; rfl
theorem made_valid {l : List RuleD} (h : RulesOk l) : validB l = true := by
  unfold validB
  have h8 := h.high
  rw [decide_eq_true (by omega), Bool.true_and, Bool.not_eq_true', List.any_eq_false]
  intro i hi
  have hi := List.mem_range.1 hi
  unfold badR
  have hg := List.getElem?_eq_getElem hi
  rw [hg]
  dsimp only
  have hR := h.each i l[i] hg
  have ha : asksB (rings l) i l[i] = true := by
    unfold asksB
    rw [Bool.not_eq_true', List.any_eq_false]
    intro k hk
    have hk := List.mem_range.1 hk
    unfold badA
    have hka := List.getElem?_eq_getElem hk
    rw [hka]
    dsimp only
    have hA := hR.each k _ hka
    generalize l[i].Asks[k] = a at hA
    unfold askB mayB
    have hn := hA.low
    have he := hA.low2
    rw [decide_eq_true hn, decide_eq_true he, Bool.true_and, Bool.true_and]
    have c1 : cond a.Cell (decide (a.N ≤ 15)) (decide (a.N < (lim (rings l) i : Int))) = true := by
      cases hc : a.Cell
      · exact decide_eq_true (hA.rule hc)
      · have := hA.cell hc
        exact decide_eq_true (by omega)
    have c2 : cond a.Cell (decide (a.Else ≤ 15)) (decide (a.Else < (lim (rings l) i : Int))) = true := by
      cases hc : a.Cell
      · exact decide_eq_true (hA.rule2 hc)
      · have := hA.cell2 hc
        exact decide_eq_true (by omega)
    rw [c1, c2, Bool.true_and]
    cases hp : a.Pick
    · rw [hA.none hp]; simp
    · obtain ⟨p1, p2⟩ := hA.pick hp
      rw [p1, show (((k : Nat) : Int) == 0) = false by simp; omega]; simp
  have hb : ruleB (rings l) i l[i] = true := by
    have hl := hR.asks
    unfold ruleB ruleG
    rw [ha, decide_eq_false (show ¬ (6 : Int) < (l[i].Asks.length : Int) by omega)]
    cases hr : l[i].Ring
    · obtain ⟨q1, q2, q3, q4⟩ := hR.plain hr
      rw [cond_false, decide_eq_false (show ¬ l[i].Final < 1 by omega), decide_eq_false (show ¬ 4 < l[i].Final by omega), decide_eq_false (show ¬ l[i].C < 0 by omega), decide_eq_false (show ¬ 999 < l[i].C by omega)]; rfl
    · obtain ⟨q1, q2, q3⟩ := hR.ring hr
      rw [cond_true, decide_eq_false (show ¬ l[i].Final < 5 by omega), decide_eq_false (show ¬ 5 < l[i].Final by omega), decide_eq_false (show ¬ l[i].C < 0 by omega), decide_eq_false (show ¬ 65535 < l[i].C by omega)]; rfl
  rw [hb]; decide
theorem Bnd.set {l : List RuleD} (h : Bnd l) (k : Nat) {r : RuleD} (hr : r.Asks.length ≤ 1000) : Bnd (l.set k r) :=
  ⟨by rw [List.length_set]; exact h.1, fun x hx => by
    rcases List.mem_or_eq_of_mem_set hx with hx | rfl
    · exact h.2 x hx
    · exact hr⟩
theorem RulesOk.bnd {l : List RuleD} (h : RulesOk l) : Bnd l := ⟨by have := h.high; omega, fun r hr => by
  obtain ⟨i, hi⟩ := List.mem_iff_getElem?.1 hr
  have := (h.each i r hi).asks; omega⟩
theorem mod_ok (n : Int) {m : Int} (hm : 0 < m) (hm2 : m ≤ 1000000000) : Ok (mill_Mod n m) fun r => 0 ≤ r ∧ r < m := by
  obtain ⟨k, rfl⟩ : ∃ k : Nat, m = k := ⟨m.toNat, by omega⟩
  obtain ⟨r, hr, e⟩ := mod_is n (m := k) (by omega) (by omega)
  exact ⟨_, e, by omega, by omega⟩
theorem rules_j8 {raw : List RuleD} (hr : Bnd raw) {t : List Int} (ht : t.length ≤ 400) (what at_ by_ : Int) : Ok (law24_ToyRules_j8 raw t what at_ by_) fun y => y = true := by
  unfold law24_ToyRules_j8
  refine Ok.eq (show mill_Roll t = some ⟨t, 0⟩ from rfl) ?_
  refine Ok.bind (rules_ok (d := t) (i := 0) ⟨by omega, by omega, ht⟩) fun u hu => ?_
  obtain ⟨l, d⟩ := u
  obtain ⟨hR, hD⟩ := hu
  dsimp only at hR hD ⊢
  have hB := hR.bnd
  have h2 := hR.low
  have h8 := hR.high
  rw [toy_valid hB, Option.bind_some, made_valid hR, Bool.not_true, cond_false]
  refine Ok.bind (mod_ok at_ (m := (l.length : Int)) (by omega) (by omega)) fun n hn => ?_
  obtain ⟨n, rfl⟩ : ∃ k : Nat, n = k := ⟨n.toNat, by omega⟩
  have hnl : n < l.length := by omega
  rw [getI_at hnl, Option.bind_some]
  have hA := (hR.each n l[n] (List.getElem?_eq_getElem hnl)).asks
  rw [List.nil_append]
  generalize l[n] = e at hA
  refine Ok.gd (room (by simp; omega)) ?_
  refine Ok.bind (mod_ok what (m := 10) (by omega) (by omega)) fun w hw => ?_
  have leaf : ∀ {r : RuleD}, r.Asks.length ≤ 1000 → Ok (law24_ToyRules_j5 raw (l.set (Int.toNat (n : Int)) r)) fun y => y = true := fun h => rules_j5 hr (hB.set _ h)
  refine Ok.cond (fun _ => leaf (by dsimp only; omega)) fun _ => ?_
  refine Ok.cond (fun _ => Ok.bind (mod_ok by_ (m := 7) (by omega) (by omega)) fun _ _ => leaf (by dsimp only; omega)) fun _ => ?_
  refine Ok.cond (fun _ => Ok.bind (mod_ok by_ (m := 5) (by omega) (by omega)) fun u hu => Ok.get (by omega) (by simp; omega) fun _ _ _ => leaf (by dsimp only; omega)) fun _ => ?_
  refine Ok.cond (fun _ => Ok.bind (mod_ok _ (m := 18) (by omega) (by omega)) fun u hu => Ok.gd (room (by simp; omega)) (leaf (by simp; omega))) fun _ => ?_
  refine Ok.cond (fun _ => Ok.bind (mod_ok _ (m := 9) (by omega) (by omega)) fun u hu => Ok.bind (mod_ok _ (m := 9) (by omega) (by omega)) fun u2 hu2 => Ok.gd (room (by simp; omega)) (leaf (by simp; omega))) fun _ => ?_
  refine Ok.cond (fun _ => Ok.cond (fun h => ?_) fun _ => leaf (by dsimp only; omega)) fun _ => ?_
  · have h := of_decide_eq_true h
    exact Ok.get (by omega) h fun _ _ _ => Ok.get (by omega) h fun _ _ _ => leaf (by simp; omega)
  refine Ok.cond (fun _ => ?_) fun _ => ?_
  · refine Ok.loop (fun k s => s.length ≤ 8 ∧ k ≤ s.length) (fun r => Bnd r) 10 ⟨by omega, Nat.zero_le _⟩ (fun k s hk hI => ?_) fun r hr' => rules_j5 hr hr'
    unfold law24_ToyRules_l6
    refine Ok.bind (mod_ok by_ (m := 2) (by omega) (by omega)) fun u hu => ?_
    rw [w64 (by omega) (by omega)]
    refine Ok.cond (fun h => ?_) fun h => ?_
    · have h := of_decide_eq_true h
      exact Ok.gd (room (by simp; omega)) (Ok.ret ⟨by omega, by simp; omega, by simp; omega⟩)
    · exact Ok.ret (hB.set _ (by dsimp only; omega))
  refine Ok.cond (fun _ => ?_) fun _ => ?_
  · refine Ok.loop (fun k s => s.length ≤ 26 ∧ k ≤ s.length ∧ Bnd s) (fun r => Bnd r) 30 ⟨by rw [List.length_set]; omega, Nat.zero_le _, hB.set _ (by dsimp only; omega)⟩ (fun k s hk hI => ?_) fun r hr' => rules_j5 hr hr'
    unfold law24_ToyRules_l7
    refine Ok.bind (mod_ok by_ (m := 2) (by omega) (by omega)) fun u hu => ?_
    rw [w64 (by omega) (by omega)]
    obtain ⟨i1, i2, i3⟩ := hI
    refine Ok.cond (fun h => ?_) fun h => ?_
    · have h := of_decide_eq_true h
      refine Ok.gd (room (by simp; omega)) (Ok.ret ⟨by omega, by simp; omega, by simp; omega, by simp; omega, fun x hx => ?_⟩)
      rcases List.mem_append.1 hx with hx | hx
      · exact i3.2 x hx
      · rw [List.mem_singleton.1 hx]; simp
    · exact Ok.ret i3
  refine Ok.cond (fun _ => Ok.cond (fun h => ?_) fun _ => leaf (by dsimp only; omega)) fun _ => leaf (by dsimp only; omega)
  have h := of_decide_eq_true h
  refine Ok.bind (mod_ok by_ (m := 3) (by omega) (by omega)) fun u hu => ?_
  rw [w64 (by omega) (by omega)]
  exact Ok.get (by omega) (by omega) fun _ _ _ => leaf (by simp; omega)
theorem toyRules_pure (raw : List RuleD) (t : List Int) (what at_ by_ : Int) : law24_ToyRules raw t what at_ by_ = some true := by
  have key : Ok (law24_ToyRules raw t what at_ by_) fun y => y = true := by
    unfold law24_ToyRules
    rw [law24_awake_is]
    refine Ok.cond (fun _ => Ok.ret rfl) fun h40 => ?_
    have h40 := of_decide_eq_false h40
    have hlight : mill_Light t = some (decide (t.length ≤ 400)) := by
      unfold mill_Light
      by_cases h : t.length ≤ 400
      · rw [decide_eq_true h, decide_eq_true (by omega)]
      · rw [decide_eq_false h, decide_eq_false (by omega)]
    rw [hlight, Option.bind_some]
    refine Ok.cond (fun _ => Ok.ret rfl) fun ht => ?_
    have ht : t.length ≤ 400 := by
      cases hd : decide (t.length ≤ 400)
      · rw [hd] at ht; cases ht
      · exact of_decide_eq_true hd
    refine Ok.loop (fun k s => s = (k : Int) ∧ k ≤ raw.length ∧ ∀ j r, j < k → raw[j]? = some r → r.Asks.length ≤ 1000) (fun r => r = .out true ∨ (r = .go () ∧ Bnd raw)) raw.length ⟨rfl, Nat.zero_le _, fun j r hj => by omega⟩ (fun k s hk hI => ?_) (fun r hr => ?_)
    · obtain ⟨rfl, i2, i3⟩ := hI
      unfold law24_ToyRules_l9
      rw [law24_awake_is]
      refine Ok.cond (fun h => ?_) fun h => ?_
      · have h : k < raw.length := by have := of_decide_eq_true h; omega
        rw [getI_at h, Option.bind_some]
        refine Ok.cond (fun _ => Ok.ret (.inl rfl)) fun h2 => ?_
        have h2 := of_decide_eq_false h2
        refine Ok.ret ⟨h, winc (by omega), h, fun j r hj hr => ?_⟩
        by_cases e : j = k
        · subst e
          rw [List.getElem?_eq_getElem h] at hr
          rw [← Option.some.inj hr]; omega
        · exact i3 j r (by omega) hr
      · have h : k = raw.length := by have := of_decide_eq_false h; omega
        refine Ok.ret (.inr ⟨rfl, by omega, fun r hr => ?_⟩)
        obtain ⟨j, hj⟩ := List.mem_iff_getElem?.1 hr
        exact i3 j r (by have := lt_of_get hj; omega) hj
    · rcases hr with rfl | ⟨rfl, hB⟩
      · exact Ok.ret rfl
      · exact rules_j8 hB ht what at_ by_
  obtain ⟨y, e, rfl⟩ := key
  exact e
end Go.Proofs.YthpeklnhkkadjaaDoor
