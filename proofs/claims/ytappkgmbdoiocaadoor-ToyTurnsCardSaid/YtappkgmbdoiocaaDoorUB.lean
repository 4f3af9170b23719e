/- Law 24, plain: what rules do next, by the reference; ToyTurns. -/
import Derived.Test.YtappkgmbdoiocaaDoorU9
import Derived.Test.YtappkgmbdoiocaaDoorD6
set_option linter.unusedVariables false
set_option linter.unusedSimpArgs false
namespace Go.Proofs.YtappkgmbdoiocaaDoor
open Go.RowKit
open Go.Lib hiding intOf

theorem key_ext {a b : KeyD} (h1 : a.Kind = b.Kind) (h2 : a.Text.toList = b.Text.toList) : a = b := by
  obtain ⟨ka, ta⟩ := a
  obtain ⟨kb, tb⟩ := b
  simp only at h1 h2
  subst h1
  rw [ByteArray.toList_eq, ByteArray.toList_eq] at h2
  have : ta = tb := ByteArray.ext (Array.toList_inj.1 h2)
  rw [this]
theorem tj1_eq {l : List RuleD} (hl : l.length ≤ 1000000) (a : AskD) (t : Int) : toy_Turn_j1 l a t = ref24_Turn_j1 l a t := by
  unfold toy_Turn_j1 ref24_Turn_j1
  rw [of_eq hl, cell_eq]
theorem tj2_eq {l : List RuleD} (hl : l.length ≤ 1000000) (a : AskD) (g : Bool) : toy_Turn_j2 l a g = ref24_Turn_j2 l a g := by
  unfold toy_Turn_j2 ref24_Turn_j2
  rw [tj1_eq hl, tj1_eq hl]
theorem ref_final_is (r : RuleD) {ls : List ByteArray} (hl : ls.length ≤ 100) {c : Nat} (hc : r.C = c) (hc2 : c ≤ 65535) : ref24_final r ls = some (finN r.Final (c :: ls.map valN) : Int) := by
  have hb : ∀ x ∈ c :: ls.map valN, x ≤ 65535 := fun x hx => by
    rcases List.mem_cons.1 hx with rfl | hx
    · exact hc2
    · obtain ⟨s, _, rfl⟩ := List.mem_map.1 hx
      exact valN_le s
  unfold ref24_final
  have hL : loop (fun s : Int × Int × Int × Int => ref24_final_l2 r ls s.1 s.2.1 s.2.2.1 s.2.2.2) (r.C, r.C, r.C, 0) = some ((((c :: ls.map valN).sum : Nat) : Int), (((c :: ls.map valN).foldl max 0 : Nat) : Int), (((c :: ls.map valN).foldl (· ||| ·) 0 : Nat) : Int), r.Final, r.C) := by
    refine loop_eq (I := fun k s => s = ((((c :: (ls.take k).map valN).sum : Nat) : Int), (((c :: (ls.take k).map valN).foldl max 0 : Nat) : Int), (((c :: (ls.take k).map valN).foldl (· ||| ·) 0 : Nat) : Int), (k : Int))) _ ls.length ?_ ?_ (by simp [hc])
    · rintro k _ hk rfl
      left
      refine ⟨_, ?_, rfl⟩
      unfold ref24_final_l2
      have hb2 : ∀ x ∈ c :: (ls.take k).map valN, x ≤ 65535 := fun x hx => hb x (by
        rcases List.mem_cons.1 hx with rfl | hx
        · exact List.mem_cons_self
        · obtain ⟨s, hs, rfl⟩ := List.mem_map.1 hx
          exact List.mem_cons_of_mem _ (List.mem_map_of_mem (List.mem_of_mem_take hs)))
      have h1 := sum_le _ hb2
      have h2 := (fold_or _ 0 hb2 (by omega)).2
      have hv := valN_le ls[k]
      have ht : ls.take (k + 1) = ls.take k ++ [ls[k]] := by rw [List.take_add_one, List.getElem?_eq_getElem hk]; rfl
      have hlen : (c :: (ls.take k).map valN).length ≤ 101 := by simp; omega
      rw [show decide ((k : Int) < (ls.length : Int)) = true by simpa using hk, getI_at hk]
      simp only [cond_true, Option.bind_some]
      rw [ref_value]
      simp only [Option.bind_some]
      rw [w64 (by omega) (by omega), w64 (by omega) (by omega), (or_is h2 (show valN ls[k] < 65536 by omega)).1, ht]
      simp only [List.map_append, List.map_cons, List.map_nil, ← List.cons_append, List.sum_append, List.foldl_append, List.sum_cons, List.sum_nil, List.foldl_cons, List.foldl_nil, Nat.add_zero, Int.natCast_add, Int.natCast_one]
      congr 4
      omega
    · rintro _ rfl
      unfold ref24_final_l2
      rw [show decide ((ls.length : Int) < (ls.length : Int)) = false by simp, List.take_length]
      rfl
  rw [hL]
  exact j1_is r.Final hb (by simp; omega)
/-- both say the same -/
theorem turn_eq {l : List RuleD} (hR : RulesOk l) {k : KeyD} (hk : k.Text.size ≤ 140737488355328) {ls : List ByteArray} (hs : Small ls) : ∃ t, toy_Turn l k ls = some t ∧ ref24_Turn l k ls = some t := by
  have hl8 := hR.high
  have hn := numK_range k
  by_cases h0 : numK k < 0
  · exact ⟨⟨true, ByteArray.mk #[], ⟨0, ByteArray.mk #[]⟩⟩, by unfold toy_Turn; rw [key_number hk]; simp [h0], by unfold ref24_Turn; rw [ref_number]; simp [h0]⟩
  have hkind : 30 ≤ k.Kind ∧ k.Kind ≤ 32 := by
    unfold numK at h0
    split at h0
    · assumption
    · omega
  obtain ⟨n, hn2⟩ : ∃ n : Nat, numK k = n := ⟨(numK k).toNat, by omega⟩
  by_cases hin : n < l.length
  · by_cases he : k = ruleK l[n] n
    · subst he
      have e1 := key_number hk
      by_cases hlt : ls.length < l[n].Asks.length
      · obtain ⟨t, ht, hc, hr, e⟩ := asks_ok hR hin hlt hs
        refine ⟨_, e, ?_⟩
        rw [← e, turn_ask hin (by omega) hlt (by have := (hR.each n _ (List.getElem?_eq_getElem hin)).asks; omega) hs, tj2_eq (by omega)]
        unfold ref24_Turn
        rw [ref_number, hn2]
        simp only [Option.bind_some]
        rw [show decide ((n : Int) < 0) = false by simp, show decide ((l.length : Int) ≤ (n : Int)) = false by simp; omega, ref_of_is hin (by omega), getI_at hin]
        simp only [cond_false, Option.bind_some, beq_self_eq_true, Bool.and_self, Bool.not_true]
        rw [show decide ((l[n].Asks.length : Int) ≤ (ls.length : Int)) = false by simp; omega, getI_at hlt]
        simp only [cond_false, Option.bind_some]
        have ha := (hR.each n _ (List.getElem?_eq_getElem hin)).each _ _ (List.getElem?_eq_getElem hlt)
        have h3 := (hR.each n _ (List.getElem?_eq_getElem hin)).asks
        unfold elseB
        cases hp : l[n].Asks[ls.length].Pick with
        | false => rfl
        | true =>
          obtain ⟨_, hpos⟩ := ha.pick hp
          obtain ⟨r, c, hrc⟩ := (snoc_cases ls).resolve_left (fun h => by rw [h] at hpos; simp at hpos)
          have hgl : ls.getLast? = some c := by rw [hrc]; simp
          have hsz : c.size ≤ 140737488355328 := hs c (by rw [hrc]; simp)
          rw [hgl, show ((ls.length : Int) == 0) = false by rw [beq_eq_false_iff_ne]; omega, w64 (by omega) (by omega)]
          simp only [cond_true, cond_false, Bool.true_and]
          have hg : getI ls ((ls.length : Int) - 1) = some c := by
            have hl2 : ls.length = r.length + 1 := by rw [hrc]; simp
            have h3 := getI_at (xs := ls) (k := r.length) (by omega)
            rw [show ((ls.length : Int) - 1) = (r.length : Int) by omega, h3]
            congr 1
            simp [hrc]
          rw [hg, Option.bind_some, ref_value, Option.bind_some, valS_N hsz]
      · obtain ⟨c, hc, hc16, e, _⟩ := done_ok hR hin (by omega) hs
        refine ⟨_, e, ?_⟩
        have h3 := (hR.each n _ (List.getElem?_eq_getElem hin)).asks
        unfold ref24_Turn
        rw [ref_number, hn2]
        simp only [Option.bind_some]
        rw [show decide ((n : Int) < 0) = false by simp, show decide ((l.length : Int) ≤ (n : Int)) = false by simp; omega, ref_of_is hin (by omega), getI_at hin]
        simp only [cond_false, Option.bind_some, beq_self_eq_true, Bool.and_self, Bool.not_true]
        rw [show decide ((l[n].Asks.length : Int) ≤ (ls.length : Int)) = true by simp; omega, show (0 : Int) = ((0 : Nat) : Int) from rfl, subI_at (by omega) (by omega)]
        simp only [cond_true, Option.bind_some, List.drop_zero]
        rw [ref_final_is l[n] (by rw [List.length_take]; omega) hc (by omega), Option.bind_some, itoaM_nat (by
          have := finN_le l[n].Final (l := c :: (ls.take l[n].Asks.length).map valN) (fun x hx => by
            rcases List.mem_cons.1 hx with rfl | hx
            · omega
            · obtain ⟨s, _, rfl⟩ := List.mem_map.1 hx
              exact valN_le s)
          omega)]
        rfl
    · have hne : (!((ruleK l[n] n).Kind == k.Kind && (ruleK l[n] n).Text.toList == k.Text.toList)) = true := by
        rw [Bool.not_eq_true', Bool.and_eq_false_iff]
        by_cases h1 : (ruleK l[n] n).Kind = k.Kind
        · right
          rw [beq_eq_false_iff_ne]
          intro h2
          apply he
          exact (key_ext h1 h2).symm
        · left; simpa using h1
      refine ⟨⟨true, ByteArray.mk #[], ⟨0, ByteArray.mk #[]⟩⟩, ?_, ?_⟩
      · unfold toy_Turn
        rw [key_number hk, hn2]
        simp only [Option.bind_some]
        rw [show decide ((n : Int) < 0) = false by simp, key_of_is hin (by omega)]
        simp only [cond_false, Option.bind_some]
        cases (k.Kind == 30)
        · simp only [cond_false]; rw [hne]; rfl
        · rfl
      · unfold ref24_Turn
        rw [ref_number, hn2]
        simp only [Option.bind_some]
        rw [show decide ((n : Int) < 0) = false by simp, show decide ((l.length : Int) ≤ (n : Int)) = false by simp; omega, ref_of_is hin (by omega)]
        simp only [cond_false, Option.bind_some]
        rw [hne]; rfl
  · refine ⟨⟨true, ByteArray.mk #[], ⟨0, ByteArray.mk #[]⟩⟩, ?_, ?_⟩
    · unfold toy_Turn
      rw [key_number hk, hn2]
      simp only [Option.bind_some]
      have hz : key_Of l (n : Int) = some ⟨0, ByteArray.mk #[]⟩ := by
        unfold key_Of
        rw [show decide ((n : Int) < 0) = false by simp, show decide ((l.length : Int) ≤ (n : Int)) = true by simp; omega]
        rfl
      rw [show decide ((n : Int) < 0) = false by simp, hz]
      simp only [cond_false, Option.bind_some]
      cases (k.Kind == 30)
      · simp only [cond_false]
        rw [show ((0 : Int) == k.Kind) = false by simp; omega]; rfl
      · rfl
    · unfold ref24_Turn
      rw [ref_number, hn2]
      simp only [Option.bind_some]
      rw [show decide ((n : Int) < 0) = false by simp, show decide ((l.length : Int) ≤ (n : Int)) = true by simp; omega]
      rfl
theorem turn_ne {l : List RuleD} (hR : RulesOk l) {k : KeyD} (hk : k.Text.size ≤ 140737488355328) {ls : List ByteArray} (hs : Small ls) {α : Type} {g : Bool → Option α} {P : α → Prop} (h : Ok (g false) P) :
    Ok ((toy_Turn l k ls).bind fun u => (ref24_Turn l k ls).bind fun v => g (!(u.Done == v.Done && u.Value.toList == v.Value.toList && (u.Ask.Kind : Int) == v.Ask.Kind && u.Ask.Text.toList == v.Ask.Text.toList))) P := by
  obtain ⟨t, e1, e2⟩ := turn_eq hR hk hs
  rw [e1, e2]
  simp only [Option.bind_some, beq_self_eq_true, Bool.and_self, Bool.not_true]
  exact h
theorem words_ok {s : ByteArray} (h : s ∈ [ByteArray.mk #[48], ByteArray.mk #[49], ByteArray.mk #[50], ByteArray.mk #[53], ByteArray.mk #[57, 57, 57], ByteArray.mk #[54, 53, 53, 51, 53], ByteArray.mk #[54, 53, 53, 51, 54], ByteArray.mk #[], ByteArray.mk #[120], ByteArray.mk #[48, 49]]) : s.size ≤ 140737488355328 := by
  simp only [List.mem_cons, List.not_mem_nil, or_false] at h
  rcases h with rfl | rfl | rfl | rfl | rfl | rfl | rfl | rfl | rfl | rfl <;> decide
theorem turns_is (t : List Int) (ls : List ByteArray) (n : Int) (k : KeyD) (hs : Small ls) (hk : k.Text.size ≤ 140737488355328) : law24_ToyTurns t ls n k = some true := by
  have key : Ok (law24_ToyTurns t ls n k) fun b => b = true := by
    unfold law24_ToyTurns mill_Light
    rw [law24_awake_is]
    refine Ok.cond (fun _ => Ok.ret rfl) fun h20 => ?_
    have h20 : ls.length ≤ 20 := by simp at h20; omega
    simp only [Option.bind_some]
    refine Ok.cond (fun _ => Ok.ret rfl) fun h => ?_
    have h : t.length ≤ 400 := by simp at h; omega
    unfold mill_Roll
    simp only [Option.bind_some]
    refine Ok.bind (rules_ok (d := t) (i := 0) ⟨by omega, by omega, by omega⟩) fun y hy => ?_
    obtain ⟨l, dd⟩ := y
    obtain ⟨hR, hD⟩ := hy
    have hR : RulesOk l := hR
    have hl8 := hR.high
    have hl2 := hR.low
    refine Ok.loop (fun k s => s.1.length = k ∧ s.2.1 = (k : Int) ∧ Small s.1 ∧ DiceOk s.2.2.1 s.2.2.2) (fun r => r.length ≤ 7 ∧ Small r) 7 ⟨rfl, rfl, fun s hs => (by cases hs), hD⟩ (fun k s hk hI => ?_) (fun near hnear => ?_)
    · obtain ⟨e1, e2, e3, e4⟩ := hI
      unfold law24_ToyTurns_l9
      refine Ok.cond (fun e => Ok.bind (word_ok e4 (by simp) (by simp)) fun r hr => Ok.gd (room (by simp; omega)) (Ok.ret ⟨by simp at e; omega, by simp [e1], by dsimp only; rw [w64 (by omega) (by omega)]; omega, fun s hs2 => ?_, hr.2⟩)) fun e => Ok.ret ⟨by omega, e3⟩
      rcases List.mem_append.1 hs2 with h1 | h1
      · exact e3 s h1
      · simp only [List.mem_cons, List.not_mem_nil, or_false] at h1
        subst h1; exact words_ok hr.1
    · obtain ⟨hn7, hnS⟩ := hnear
      unfold law24_ToyTurns_j8
      obtain ⟨r, hr, er⟩ := mod_is n (m := l.length) (by omega) (by omega)
      obtain ⟨q, hq, eq⟩ := mod_is n (m := 10) (by omega) (by omega)
      simp only []
      rw [er, Option.bind_some, ref_of_is hr (by omega), Option.bind_some, show mill_Mod n 10 = some (q : Int) from eq, Option.bind_some, itoaM_nat (show q < 1000000000 by omega), Option.bind_some, Option.bind_some, itoaM_nat (show q < 1000000000 by omega), Option.bind_some]
      have hks : ∀ x ∈ [k, ruleK l[r] r, KeyD.mk 31 (itoaS q), KeyD.mk 32 (itoaS q)], x.Text.size ≤ 140737488355328 := fun x hx => by
        simp only [List.mem_cons, List.not_mem_nil, or_false] at hx
        rcases hx with rfl | rfl | rfl | rfl
        · exact hk
        · exact size_itoa (by omega)
        · exact size_itoa (by omega)
        · exact size_itoa (by omega)
      refine Ok.loop (fun j s => s.1 = [k, ruleK l[r] r, KeyD.mk 31 (itoaS q), KeyD.mk 32 (itoaS q)] ∧ s.2 = (j : Int)) (fun r => r = Fl.go ()) 4 ⟨rfl, rfl⟩ (fun j s hj hI => ?_) (fun r hr => ?_)
      · obtain ⟨e1, e2⟩ := hI
        unfold law24_ToyTurns_l7
        rw [e1, e2]
        refine Ok.cond (fun e => ?_) (fun e => Ok.ret rfl)
        have e : j < 4 := by simp at e; omega
        refine Ok.get (by omega) (by simp; omega) fun x _ hx => ?_
        have hx := hks x hx
        refine Ok.loop (fun i s => s = (i : Int)) (fun r => r = Fl.go ()) (near.length + 1) rfl (fun i s hi hI => ?_) (fun r hr => ?_)
        · subst hI
          unfold law24_ToyTurns_l6
          rw [w64 (by omega) (by omega)]
          refine Ok.cond (fun e => ?_) (fun e => Ok.ret rfl)
          have e : i ≤ near.length := by simp at e; omega
          rw [show (0 : Int) = ((0 : Nat) : Int) from rfl, subI_at (by omega) e]
          simp only [Option.bind_some, List.drop_zero]
          refine turn_ne hR hx (g := fun b => cond b (some (Fl.out (Fl.out false) : Fl Int (Fl Unit Bool))) (some (Fl.go (IntKind.i64.wrap ((i : Int) + 1))))) (fun s hs2 => hnS s (List.mem_of_mem_take hs2)) ?_
          exact Ok.ret ⟨by omega, w64 (by omega) (by omega)⟩
        · subst hr
          simp only [Fl.el]
          unfold law24_ToyTurns_j5
          refine turn_ne hR hx (g := fun b => cond b (some (Fl.out (Fl.out false))) (law24_ToyTurns_j4 [k, ruleK l[r] r, KeyD.mk 31 (itoaS q), KeyD.mk 32 (itoaS q)] (j : Int))) hs ?_
          unfold law24_ToyTurns_j4
          exact Ok.ret ⟨e, rfl, w64 (by omega) (by omega)⟩
      · subst hr
        simp only [Fl.el]
        unfold law24_ToyTurns_j3
        refine Ok.gd (room (by omega)) ?_
        refine Ok.loop (fun i s => s = (i : Int)) (fun r => r = Fl.go ()) (near ++ ls).length rfl (fun i s hi hI => ?_) (fun r hr => ?_)
        · subst hI
          unfold law24_ToyTurns_l2
          refine Ok.cond (fun e => ?_) (fun e => Ok.ret rfl)
          have e : i < (near ++ ls).length := by have := of_decide_eq_true e; omega
          have hlen : (near ++ ls).length ≤ 27 := by simp; omega
          refine Ok.get (by omega) (by omega) fun x _ hx => ?_
          have hx2 : x.size ≤ 140737488355328 := by
            rcases List.mem_append.1 hx with h1 | h1
            · exact hnS x h1
            · exact hs x h1
          rw [toy_value hx2, ref_value]
          simp only [Option.bind_some, bne_self_eq_false, cond_false]
          exact Ok.ret ⟨by omega, w64 (by omega) (by omega)⟩
        · subst hr
          simp only [Fl.el]
          unfold law24_ToyTurns_j1
          rw [law24_awake_is]
          exact Ok.ret rfl
  obtain ⟨b, e, rfl⟩ := key
  exact e
end Go.Proofs.YtappkgmbdoiocaaDoor
