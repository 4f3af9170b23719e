/- Law 23, plain: KeyKinds. -/
import Derived.Test.YtpobppjicoikoaaDoorUL
import Derived.Test.YtpobppjicoikoaaDoorD3
set_option linter.unusedVariables false
set_option linter.unusedSimpArgs false
namespace Go.Proofs.YtpobppjicoikoaaDoor
open Go.RowKit
open Go.Lib hiding intOf

theorem cell_some (n : Int) : ∃ k, ref23_Cell n = some k := by
  unfold ref23_Cell
  by_cases h1 : n < 0
  · exact ⟨_, by rw [decide_eq_true h1]; rfl⟩
  · by_cases h2 : 99 < n
    · exact ⟨_, by rw [decide_eq_false h1, decide_eq_true h2]; rfl⟩
    · exact ⟨_, by rw [decide_eq_false h1, decide_eq_false h2, itoaM_pos (by omega) (by omega)]; rfl⟩
theorem of_some {l : List RuleD} (n : Int) : ∃ k, ref23_Of l n = some k := by
  by_cases h : 0 ≤ n ∧ n < l.length ∧ n < 100
  · obtain ⟨m, rfl⟩ : ∃ m : Nat, n = m := ⟨n.toNat, by omega⟩
    exact ⟨_, ref_of_is (by omega) (by omega)⟩
  · unfold ref23_Of
    by_cases h1 : n < 0
    · exact ⟨_, by rw [decide_eq_true h1]; rfl⟩
    · by_cases h2 : (l.length : Int) ≤ n
      · exact ⟨_, by rw [decide_eq_false h1, decide_eq_true h2]; rfl⟩
      · exact ⟨_, by rw [decide_eq_false h1, decide_eq_false h2, decide_eq_true (show 99 < n by omega)]; rfl⟩
theorem kinds_l4 {ks : List KeyD} (hk : ∀ x ∈ ks, x.Text.size ≤ 140737488355328) {i : Nat} (hi : i < ks.length) (hl : ks.length ≤ 1000) : law23_KeyKinds_l4 ks ks.length i = some (.go ((i : Int) + 1)) := by
  unfold law23_KeyKinds_l4
  rw [decide_eq_true (show (i : Int) < (ks.length : Int) by omega), getI_at hi]
  simp only [cond_true, Option.bind_some]
  have hs := hk _ (List.getElem_mem hi)
  generalize ks[i] = k at hs ⊢
  obtain ⟨b, e1, e2⟩ := valid_eq hs
  obtain ⟨c, e3⟩ := input_some k
  obtain ⟨d, e4, e5⟩ := cyclic_eq k
  rw [e1, e2]
  simp only [Option.bind_some, bne_self_eq_false, cond_false]
  rw [key_number hs, ref_number]
  simp only [Option.bind_some, bne_self_eq_false, cond_false]
  rw [input_eq, e3]
  simp only [Option.bind_some, bne_self_eq_false, cond_false]
  rw [e4, e5]
  simp only [Option.bind_some, bne_self_eq_false, cond_false]
  rw [w64 (by omega) (by omega)]
theorem kinds_j3 (n : Int) {rules : List RuleD} (hl : rules.length ≤ 200) : Ok (law23_KeyKinds_j3 n rules) fun b => b = true := by
  unfold law23_KeyKinds_j3
  obtain ⟨r, hr, e1⟩ := mod_is n (m := 103) (by omega) (by omega)
  obtain ⟨q, hq, e2⟩ := mod_is n (m := rules.length + 1) (by omega) (by omega)
  rw [show mill_Mod n 103 = some (r : Int) from e1, Option.bind_some, w64 (by omega) (by omega), show ((rules.length : Int) + 1) = ((rules.length + 1 : Nat) : Int) by omega, e2, Option.bind_some]
  refine Ok.loop (fun i s => s.1.length = 3 ∧ s.2 = (i : Int)) (fun r => r = Fl.go ()) 3 ⟨rfl, rfl⟩ (fun i s hi hI => ?_) (fun r hr => ?_)
  · obtain ⟨h1, h2⟩ := hI
    unfold law23_KeyKinds_l2
    rw [h2]
    refine Ok.cond (fun e => ?_) (fun e => Ok.ret rfl)
    have e : i < 3 := by have := of_decide_eq_true e; simp at this; omega
    refine Ok.get (by omega) (by omega) fun x _ _ => ?_
    obtain ⟨k1, f1⟩ := cell_some x
    obtain ⟨k2, f2⟩ := of_some (l := rules) x
    rw [cell_eq, f1, Option.bind_some, Option.bind_some, of_eq (by omega), f2]
    simp only [Option.bind_some, beq_self_eq_true, Bool.and_self, Bool.not_true, cond_false]
    exact Ok.ret ⟨e, h1, w64 (by omega) (by omega)⟩
  · subst hr
    simp only [Fl.el]
    unfold law23_KeyKinds_j1
    rw [law23_awake_is]
    exact Ok.ret rfl
theorem kinds_is (k : KeyD) (kind n : Int) (rules : List RuleD) (text : ByteArray) : law23_KeyKinds k kind n rules text = some true := by
  have key : Ok (law23_KeyKinds k kind n rules text) fun b => b = true := by
    unfold law23_KeyKinds
    rw [law23_awake_is]
    refine Ok.cond (fun _ => Ok.ret rfl) fun h1 => Ok.cond (fun _ => Ok.ret rfl) fun h2 => Ok.cond (fun _ => Ok.ret rfl) fun h => ?_
    have hk : k.Text.size ≤ 140737488355328 := by have := of_decide_eq_false h1; omega
    have ht : text.size ≤ 140737488355328 := by have := of_decide_eq_false h2; omega
    have h : rules.length ≤ 200 := by have := of_decide_eq_false h; omega
    obtain ⟨r, hr, e1⟩ := mod_is kind (m := 36) (by omega) (by omega)
    obtain ⟨q, hq, e2⟩ := mod_is kind (m := 3) (by omega) (by omega)
    obtain ⟨p, hp, e3⟩ := mod_is n (m := 7) (by omega) (by omega)
    rw [show mill_Mod kind 36 = some (r : Int) from e1, show mill_Mod kind 3 = some (q : Int) from e2, show mill_Mod n 7 = some (p : Int) from e3]
    simp only [Option.bind_some]
    refine Ok.get (by omega) (by simp; omega) fun t _ ht2 => ?_
    have ht3 : t.size ≤ 140737488355328 := by
      simp only [List.mem_cons, List.not_mem_nil, or_false] at ht2
      rcases ht2 with rfl | rfl | rfl | rfl | rfl | rfl | rfl <;> decide
    unfold law23_KeyKinds_j5
    have hz : (ByteArray.mk #[]).size ≤ 140737488355328 := by decide
    refine Ok.loop (fun i s => s = (i : Int)) (fun r => r = Fl.go ()) 5 rfl (fun i s hi hI => ?_) (fun r hr => ?_)
    · subst hI
      by_cases h5 : i < 5
      · rw [kinds_l4 (fun x hx => by
          simp only [List.mem_cons, List.not_mem_nil, or_false] at hx
          rcases hx with rfl | rfl | rfl | rfl | rfl
          · exact hk
          · exact hk
          · exact hz
          · exact ht
          · exact ht3) (by simpa using h5) (by simp)]
        exact Ok.ret ⟨h5, rfl⟩
      · unfold law23_KeyKinds_l4
        rw [decide_eq_false (by simp; omega)]
        exact Ok.ret rfl
    · subst hr
      simp only [Fl.el]
      exact kinds_j3 n h
  obtain ⟨b, e, rfl⟩ := key
  exact e
end Go.Proofs.YtpobppjicoikoaaDoor
