/- Law 23, plain: KeyRules. -/
import Derived.Test.YtpobppjicoikoaaDoorUL
import Derived.Test.YtpobppjicoikoaaDoorD4
set_option linter.unusedVariables false
set_option linter.unusedSimpArgs false
namespace Go.Proofs.YtpobppjicoikoaaDoor
open Go.RowKit
open Go.Lib hiding intOf

theorem mget_no {κ ν : Type} {q : κ → κ → Bool} {k : κ} : ∀ {l : List (κ × ν)}, (∀ y ∈ l, q k y.1 = false) → mget q k l = none ∧ ∀ v, mput q k v l = l ++ [(k, v)]
  | [], _ => ⟨rfl, fun _ => rfl⟩
  | x :: r, h => by
    obtain ⟨h1, h2⟩ := mget_no (l := r) fun y hy => h y (List.mem_cons_of_mem _ hy)
    have h3 := h x List.mem_cons_self
    exact ⟨by simp [mget, h3, h1], fun v => by simp [mput, h3, h2]⟩
theorem keq_num {a b : Int} {x y : Nat} (hx : x < 100) (hy : y < 100) (h : x ≠ y) : keq_KeyD ⟨a, itoaS x⟩ ⟨b, itoaS y⟩ = false := by
  unfold keq_KeyD
  rw [Bool.and_eq_false_iff]
  right
  simp only [itoaS_list, itoa_nat]
  rw [beq_eq_false_iff_ne]
  intro e
  have h1 := decI_dec (n := x) (by omega)
  rw [e, decI_dec (by omega)] at h1
  omega
theorem rule_facts (r : RuleD) {n : Nat} (h : n < 100) : key_Valid (ruleK r n) = some true ∧ key_Input (ruleK r n) = some false ∧ key_Number (ruleK r n) = some (n : Int) ∧ key_Cyclic (ruleK r n) = some r.Ring ∧ ((cellK n).Kind == (ruleK r n).Kind && (cellK n).Text.toList == (ruleK r n).Text.toList) = false := by
  unfold ruleK
  cases r.Ring with
  | true => exact ⟨valid_of (.inr (.inr rfl)) h, rfl, number_of (.inr (.inr rfl)) h, rfl, rfl⟩
  | false => exact ⟨valid_of (.inr (.inl rfl)) h, rfl, number_of (.inr (.inl rfl)) h, rfl, rfl⟩
theorem key_of_out {l : List RuleD} {n : Int} (h : n < 0 ∨ (l.length : Int) ≤ n ∨ 99 < n) : key_Of l n = some ⟨0, ByteArray.mk #[]⟩ := by
  unfold key_Of
  by_cases h1 : n < 0
  · rw [decide_eq_true h1]; rfl
  · by_cases h2 : (l.length : Int) ≤ n
    · rw [decide_eq_false h1, decide_eq_true h2]; rfl
    · rw [decide_eq_false h1, decide_eq_false h2, decide_eq_true (show 99 < n by omega)]; rfl
theorem rules_is (rings : List Int) (n : Int) (hr : rings.length ≤ maxLen) : law23_KeyRules rings n = some true := by
  have key : Ok (law23_KeyRules rings n) fun b => b = true := by
    unfold law23_KeyRules
    rw [show (min (rings.length : Int) 120) = ((min rings.length 120 : Nat) : Int) by omega, show (0 : Int) = ((0 : Nat) : Int) from rfl, subI_at (by omega) (by omega), Option.bind_some, List.drop_zero]
    have hl : (rings.take (min rings.length 120)).length ≤ 120 := by rw [List.length_take]; omega
    generalize rings.take (min rings.length 120) = rs at hl ⊢
    refine Ok.loop (fun k s => s.1.length = k ∧ s.2 = (k : Int)) (fun r => r.length ≤ 120) rs.length ⟨rfl, rfl⟩ (fun k s hk hI => ?_) (fun l hll => ?_)
    · obtain ⟨e1, e2⟩ := hI
      unfold law23_KeyRules_l6
      rw [e2]
      refine Ok.cond (fun e => Ok.get (by omega) (by have := of_decide_eq_true e; omega) fun x _ _ => Ok.gd (room (by simp; omega)) (Ok.ret ⟨by have := of_decide_eq_true e; omega, by simp [e1], w64 (by omega) (by omega)⟩)) (fun e => Ok.ret (by omega))
    · unfold law23_KeyRules_j5
      refine Ok.loop (fun k s => s.2 = (k : Int) ∧ ∀ y ∈ s.1, ∃ (a : Int) (x : Nat), x < k ∧ x < 100 ∧ y.1 = ⟨a, itoaS x⟩) (fun r => r = Fl.go ()) l.length ⟨rfl, fun y hy => (by cases hy)⟩ (fun k s hk hI => ?_) (fun r hr => ?_)
      · obtain ⟨e1, e2⟩ := hI
        obtain ⟨seen, i⟩ := s
        simp only at e1 e2
        subst e1
        unfold law23_KeyRules_l4
        refine Ok.cond (fun e => ?_) (fun e => Ok.ret rfl)
        have e : k < l.length := by have := of_decide_eq_true e; omega
        rw [getI_at e, Option.bind_some]
        by_cases h99 : 99 < k
        · rw [key_of_out (.inr (.inr (by omega))), Option.bind_some, decide_eq_true (show (99 : Int) < (k : Int) by omega)]
          unfold law23_KeyRules_j3
          simp only [beq_self_eq_true, Bool.and_self, Bool.not_true, cond_true, cond_false]
          exact Ok.ret ⟨e, w64 (by omega) (by omega), fun y hy => by
            obtain ⟨a, x, h1, h2, h3⟩ := e2 y hy
            exact ⟨a, x, by omega, h2, h3⟩⟩
        · have hk1 : k < 100 := by omega
          obtain ⟨f1, f2, f3, f4, f5⟩ := rule_facts l[k] hk1
          rw [key_of_is e hk1, Option.bind_some, decide_eq_false (show ¬ (99 : Int) < (k : Int) by omega)]
          obtain ⟨g1, g2⟩ := mget_no (q := keq_KeyD) (k := ruleK l[k] k) (l := seen) fun y hy => by
            obtain ⟨a, x, h1, h2, h3⟩ := e2 y hy
            rw [h3]; exact keq_num hk1 h2 (by omega)
          rw [g1, g2, f1, f2, f3, f4]
          simp only [Option.bind_some, cond_false, Option.getD_none, Bool.not_true, bne_self_eq_false]
          rw [show key_Cell (k : Int) = some (cellK k) from ref23_cell hk1]
          simp only [Option.bind_some]
          rw [f5, show key_Number (cellK k) = some (k : Int) from number_of (.inl rfl) hk1]
          simp only [Option.bind_some, cond_false, bne_self_eq_false]
          unfold law23_KeyRules_j3
          refine Ok.ret ⟨e, w64 (by omega) (by omega), fun y hy => ?_⟩
          rcases List.mem_append.1 hy with h | h
          · obtain ⟨a, x, h1, h2, h3⟩ := e2 y h
            exact ⟨a, x, by omega, h2, h3⟩
          · simp only [List.mem_cons, List.not_mem_nil, or_false] at h
            subst h
            exact ⟨_, k, by omega, hk1, rfl⟩
      · subst hr
        simp only [Fl.el]
        unfold law23_KeyRules_j2
        obtain ⟨r, hr, er⟩ := mod_is n (m := 9) (by omega) (by omega)
        rw [show mill_Mod n 9 = some (r : Int) from er]
        simp only [Option.bind_some]
        rw [w64 (by omega) (by omega), key_of_out (.inr (.inl (by omega))), w64 (by omega) (by omega), key_of_out (.inl (by omega)), law23_awake_is]
        simp only [Option.bind_some, beq_self_eq_true, Bool.and_self, cond_true]
        exact Ok.ret rfl
  obtain ⟨b, e, rfl⟩ := key
  exact e
end Go.Proofs.YtpobppjicoikoaaDoor
