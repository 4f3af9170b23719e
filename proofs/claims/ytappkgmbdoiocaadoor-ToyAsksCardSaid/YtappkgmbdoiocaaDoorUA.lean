/- Law 24, plain: ToyAsks. -/
import Derived.Test.YtappkgmbdoiocaaDoorU9
import Derived.Test.YtappkgmbdoiocaaDoorD5
set_option linter.unusedVariables false
set_option linter.unusedSimpArgs false
namespace Go.Proofs.YtappkgmbdoiocaaDoor
open Go.RowKit
open Go.Lib hiding intOf

theorem small_lit {s : ByteArray} (h : s ∈ [ByteArray.mk #[48], ByteArray.mk #[49], ByteArray.mk #[50]]) : s.size ≤ 140737488355328 := by
  simp only [List.mem_cons, List.not_mem_nil, or_false] at h
  rcases h with rfl | rfl | rfl <;> decide
section
variable {l : List RuleD} {i : Nat} {ls : List ByteArray} {y : DiceD} {d : List Int} {j : Int}
theorem asks_l4 (hR : RulesOk l) (h : i < l.length) (hs : Small ls) (hd : DiceOk d j) (hle : ls.length ≤ l[i].Asks.length) :
    Ok (law24_ToyAsks_l4 (l, y) i l[i] (((blk (rings l) i).1 : Int), ((blk (rings l) i).2 : Int)) ls d j) fun r => match r with
      | .go s => ls.length < l[i].Asks.length ∧ s.1.length = ls.length + 1 ∧ Small s.1 ∧ DiceOk s.2.1 s.2.2
      | .out r => ∃ q, r = Fl.go q ∧ DiceOk q.1 q.2 := by
  have hl8 := hR.high
  have h3 := (hR.each i _ (List.getElem?_eq_getElem h)).asks
  unfold law24_ToyAsks_l4
  rw [ref_of_is h (by omega)]
  simp only [Option.bind_some]
  by_cases hn : ls.length < l[i].Asks.length
  · obtain ⟨t, _, hc, hr, e⟩ := asks_ok hR h hn hs
    rw [e]
    obtain ⟨n1, n2, n3, _⟩ := number_ask (l := l) (a := l[i].Asks[ls.length]) (t := t) hc (fun h => (hr h).2) (by omega)
    simp only [Option.bind_some, cond_false]
    rw [n1]
    simp only [Option.bind_some]
    rw [show decide ((6 : Int) < (ls.length : Int)) = false by simp; omega, show decide ((t : Int) < 0) = false by simp]
    simp only [cond_false]
    have j3 : Ok (law24_ToyAsks_j3 ls d j false) fun r => match r with
      | .go s => ls.length < l[i].Asks.length ∧ s.1.length = ls.length + 1 ∧ Small s.1 ∧ DiceOk s.2.1 s.2.2
      | .out r => ∃ q, r = Fl.go q ∧ DiceOk q.1 q.2 := by
      unfold law24_ToyAsks_j3
      rw [cond_false]
      refine Ok.bind (word_ok hd (by simp) (by simp)) fun r hr => Ok.gd (room (by simp; omega)) (Ok.ret ⟨hn, by simp, fun s hs2 => ?_, hr.2⟩)
      rcases List.mem_append.1 hs2 with h1 | h1
      · exact hs s h1
      · simp only [List.mem_cons, List.not_mem_nil, or_false] at h1
        subst h1; exact small_lit hr.1
    cases hcell : l[i].Asks[ls.length].Cell with
    | true => rw [n2 hcell]; exact j3
    | false =>
      have h30 := n3 hcell
      have ht := (hr hcell).1
      rw [show ((askK l l[i].Asks[ls.length] t).Kind != 30) = true by simpa using h30]
      simp only [cond_true]
      have hrg := rings_at h
      unfold lim at ht
      cases hb : l[i].Ring with
      | true =>
        rw [hrg, hb, if_pos rfl] at ht
        rw [show decide (((blk (rings l) i).2 : Int) ≤ (t : Int)) = false by simp; omega]
        simp only [cond_false, Bool.not_true]
        cases decide (((blk (rings l) i).1 : Int) ≤ (t : Int)) <;> exact j3
      | false =>
        rw [hrg, hb, if_neg (by simp)] at ht
        rw [blk_plain (by rw [hrg, hb])]
        rw [show decide ((((i, i + 1) : Nat × Nat).2 : Int) ≤ (t : Int)) = false by simp; omega, show decide ((((i, i + 1) : Nat × Nat).1 : Int) ≤ (t : Int)) = false by simp; omega]
        exact j3
  · obtain ⟨c, _, _, e, _⟩ := done_ok hR h (by omega) hs
    rw [e]
    exact Ok.ret ⟨_, rfl, hd⟩
theorem asks_l6 (hR : RulesOk l) (h : i < l.length) (hd : DiceOk d j) : Ok (law24_ToyAsks_l6 (l, y) i d j) fun r => match r with
      | .go s => s.1 = (i : Int) + 1 ∧ DiceOk s.2.1 s.2.2
      | .out r => False := by
  have hl8 := hR.high
  have hb := blk_in (rs := rings l) (n := i) (by simpa [rings] using h)
  have hlen : (rings l).length = l.length := by simp [rings]
  have hrg := rings_at h
  unfold law24_ToyAsks_l6
  rw [show decide ((i : Int) < (l.length : Int)) = true by simpa using h, getI_at h]
  simp only [cond_true, Option.bind_some]
  rw [toy_block h (by omega)]
  simp only [Option.bind_some]
  rw [show decide ((i : Int) < ((blk (rings l) i).1 : Int)) = false by simp; omega, show decide (((blk (rings l) i).2 : Int) ≤ (i : Int)) = false by simp; omega, show decide ((l.length : Int) < ((blk (rings l) i).2 : Int)) = false by simp; omega]
  simp only [cond_false]
  have j5 : Ok (law24_ToyAsks_j5 (l, y) i d j l[i] (((blk (rings l) i).1 : Int), ((blk (rings l) i).2 : Int)) false) fun r => match r with
      | .go s => s.1 = (i : Int) + 1 ∧ DiceOk s.2.1 s.2.2
      | .out r => False := by
    unfold law24_ToyAsks_j5
    rw [cond_false]
    refine Ok.loop (fun k s => s.1.length = k ∧ Small s.1 ∧ DiceOk s.2.1 s.2.2) (fun r => ∃ q, r = Fl.go q ∧ DiceOk q.1 q.2) l[i].Asks.length ⟨rfl, fun s hs => (by cases hs), hd⟩ (fun k s hk hI => ?_) (fun r hr => ?_)
    · obtain ⟨e1, e2, e3⟩ := hI
      refine (asks_l4 hR h e2 e3 (by omega)).mono fun r hr => ?_
      cases r with
      | go s2 => exact ⟨by omega, by omega, hr.2.2⟩
      | out q => exact hr
    · obtain ⟨q, rfl, hq⟩ := hr
      simp only [Fl.el]
      unfold law24_ToyAsks_j2
      exact Ok.ret ⟨w64 (by omega) (by omega), hq⟩
  cases hbb : l[i].Ring with
  | true => exact j5
  | false =>
    simp only [Bool.not_false, cond_true]
    rw [show (((blk (rings l) i).2 : Int) != IntKind.i64.wrap ((i : Int) + 1)) = false by rw [blk_plain (by rw [hrg, hbb]), w64 (by omega) (by omega)]; simp]
    exact j5
end
theorem asks_is (t : List Int) : law24_ToyAsks t = some true := by
  have key : Ok (law24_ToyAsks t) fun b => b = true := by
    unfold law24_ToyAsks mill_Light
    simp only [Option.bind_some]
    rw [law24_awake_is]
    by_cases h : (t.length : Int) ≤ 400
    · rw [decide_eq_true h]
      simp only [Bool.not_true, cond_false]
      unfold mill_Roll
      simp only [Option.bind_some]
      refine Ok.bind (rules_ok (d := t) (i := 0) ⟨by omega, by omega, by omega⟩) fun y hy => ?_
      obtain ⟨l, dd⟩ := y
      obtain ⟨hR, hD⟩ := hy
      have hl8 := hR.high
      refine Ok.loop (fun k s => s.1 = (k : Int) ∧ DiceOk s.2.1 s.2.2) (fun r => r = Fl.go ()) l.length ⟨rfl, hD⟩ (fun k s hk hI => ?_) (fun r hr => ?_)
      · obtain ⟨e1, e2⟩ := hI
        rw [e1]
        by_cases hz : k < l.length
        · refine (asks_l6 hR hz e2).mono fun r hr => ?_
          cases r with
          | go s2 => exact ⟨hz, by rw [hr.1]; simp, hr.2⟩
          | out q => exact hr.elim
        · unfold law24_ToyAsks_l6
          rw [show decide ((k : Int) < (l.length : Int)) = false by simp; omega]
          exact Ok.ret rfl
      · subst hr
        simp only [Fl.el]
        unfold law24_ToyAsks_j1
        rw [law24_awake_is]
        exact Ok.ret rfl
    · rw [decide_eq_false h]
      exact Ok.ret rfl
  obtain ⟨b, e, rfl⟩ := key
  exact e
end Go.Proofs.YtappkgmbdoiocaaDoor
