/- Rules, plain: turns. -/
import Derived.Test.YthpeklnhkkadjaaDoorT3
set_option linter.unusedVariables false
set_option linter.unusedSimpArgs false
namespace Go.Proofs.YthpeklnhkkadjaaDoor
open Go.RowKit
open Go.Lib hiding intOf

theorem s7 : (ByteArray.mk #[55]) = itoaS (7 : Nat) := by unfold itoaS; rw [itoa_nat]; kernel_rfl
theorem s499 : (ByteArray.mk #[52, 57, 57]) = itoaS (499 : Nat) := by unfold itoaS; rw [itoa_nat]; kernel_rfl
theorem v_x : toy_Value (ByteArray.mk #[120]) = some 0 := by
  unfold toy_Value
  rw [show atoiM (ByteArray.mk #[120]) = some (0, true) by kernel_rfl]
  rfl
theorem v_9 : toy_Value (ByteArray.mk #[57]) = some 9 := by
  rw [show (ByteArray.mk #[57]) = itoaS (9 : Nat) by unfold itoaS; rw [itoa_nat]; kernel_rfl, value_is (by omega)]; rfl
theorem v_09 : toy_Value (ByteArray.mk #[48, 57]) = some 0 := by
  unfold toy_Value
  rw [show atoiM (ByteArray.mk #[48, 57]) = some (9, false) by kernel_rfl]
  simp only [Option.bind_some]
  rw [show itoaM 9 = some (ByteArray.mk #[57]) by kernel_rfl]
  kernel_rfl
/-- what a string is worth -/
noncomputable def valS (s : ByteArray) : Int := (toy_Value s).getD 0
theorem value_some {s : ByteArray} (h : s.size ≤ 140737488355328) : toy_Value s = some (valS s) ∧ 0 ≤ valS s ∧ valS s ≤ 65535 := by
  have key : ∃ v, toy_Value s = some v ∧ 0 ≤ v ∧ v ≤ 65535 := by
    obtain ⟨p, hp⟩ : ∃ p, atoiM s = some p := ⟨_, by unfold atoiM; rw [show Nat.ble s.size 140737488355328 = true from Nat.ble_eq_true_of_le h]; rfl⟩
    unfold toy_Value
    rw [hp]
    simp only [Option.bind_some]
    obtain ⟨v, b⟩ := p
    cases b with
    | true => exact ⟨0, rfl, by omega, by omega⟩
    | false =>
      simp only [cond_false]
      by_cases h1 : v < 0
      · exact ⟨0, by simp [h1], by omega, by omega⟩
      · by_cases h2 : 65535 < v
        · exact ⟨0, by simp [h1, h2], by omega, by omega⟩
        · obtain ⟨n, rfl⟩ : ∃ n : Nat, v = n := ⟨v.toNat, by omega⟩
          rw [itoaM_nat (by omega)]
          simp only [h1, h2, decide_false, cond_false, Option.bind_some]
          cases hq : !((itoaS (n : Int)).toList == s.toList) with
          | true => exact ⟨0, rfl, by omega, by omega⟩
          | false => exact ⟨n, rfl, by omega, by omega⟩
  obtain ⟨v, h1, h2, h3⟩ := key
  unfold valS
  rw [h1]
  exact ⟨rfl, h2, h3⟩
theorem sum_bound : ∀ {l : List Int}, (∀ x ∈ l, 0 ≤ x ∧ x ≤ 65535) → 0 ≤ l.sum ∧ l.sum ≤ 65535 * l.length
  | [], _ => by simp
  | a :: l, h => by
    have h1 := sum_bound (l := l) fun x hx => h x (List.mem_cons_of_mem _ hx)
    have h2 := h a List.mem_cons_self
    simp only [List.sum_cons, List.length_cons]
    omega
/-- the sums that a rule's final step takes -/
theorem final_loop {kind : Int} {l : List Int} (hb : ∀ x ∈ l, 0 ≤ x ∧ x ≤ 65535) (hl : l.length ≤ 1000) :
    loop (fun s : Int × Int × Int × Int => toy_final_l2 kind l s.1 s.2.1 s.2.2.1 s.2.2.2) (0, 0, 0, 0) = some (kind, l.sum, l.foldl max 0, l.foldl (fun a b => ibit .or .i64 a b) 0) := by
  refine loop_eq (I := fun k s => s = ((l.take k).sum, (l.take k).foldl max 0, (l.take k).foldl (fun a b => ibit .or .i64 a b) 0, (k : Int))) (y := (kind, l.sum, l.foldl max 0, l.foldl (fun a b => ibit .or .i64 a b) 0)) (N := l.length) ?_ ?_ rfl
  · rintro k _ hk rfl
    left
    refine ⟨_, ?_, rfl⟩
    unfold toy_final_l2
    have hs := sum_bound (l := l.take k) fun x hx => hb x (List.mem_of_mem_take hx)
    have hx := hb _ (List.getElem_mem hk)
    have hlen : (l.take k).length ≤ 1000 := by rw [List.length_take]; omega
    rw [show decide ((k : Int) < (l.length : Int)) = true by simpa using hk, getI_at hk]
    simp only [Option.bind_some, cond_true]
    have ht : l.take (k + 1) = l.take k ++ [l[k]] := by rw [List.take_add_one, List.getElem?_eq_getElem hk]; rfl
    rw [w64 (by omega) (by omega), w64 (by omega) (by omega), ht]
    simp only [List.sum_append, List.foldl_append, List.foldl_cons, List.foldl_nil, List.sum_cons, List.sum_nil, Int.add_zero, Int.natCast_add, Int.natCast_one]
  · rintro _ rfl
    unfold toy_final_l2
    simp
/-- the answers' values, one by one -/
theorem turn_loop {c : Int} {ls : List ByteArray} (hb : ∀ s ∈ ls, s.size ≤ 140737488355328) (hl : ls.length ≤ 1000) :
    loop (fun s : (List Int) × Int => toy_Turn_l4 ls s.1 s.2) ([c], 0) = some (c :: ls.map valS) := by
  refine loop_eq (I := fun k s => s = (c :: (ls.take k).map valS, (k : Int))) (y := c :: ls.map valS) (N := ls.length) ?_ ?_ rfl
  · rintro k _ hk rfl
    left
    refine ⟨_, ?_, rfl⟩
    unfold toy_Turn_l4
    have hx := value_some (hb _ (List.getElem_mem hk))
    have ht : ls.take (k + 1) = ls.take k ++ [ls[k]] := by rw [List.take_add_one, List.getElem?_eq_getElem hk]; rfl
    rw [show decide ((k : Int) < (ls.length : Int)) = true by simpa using hk, getI_at hk]
    simp only [Option.bind_some, cond_true, hx.1]
    rw [w64 (by omega) (by omega), ht, room (by simp; omega)]
    simp only [gd, cond_true, List.map_append, List.map_cons, List.map_nil, List.cons_append, Int.natCast_add, Int.natCast_one]
  · rintro _ rfl
    unfold toy_Turn_l4
    simp
/-- what a rule's final step makes -/
noncomputable def finV (kind : Int) (l : List Int) : Int := (toy_final kind l).getD 0
theorem final_some {kind : Int} {l : List Int} (hb : ∀ x ∈ l, 0 ≤ x ∧ x ≤ 65535) (hl : l.length ≤ 1000) : toy_final kind l = toy_final_j1 kind l.sum (l.foldl max 0) (l.foldl (fun a b => ibit .or .i64 a b) 0) := by
  unfold toy_final
  rw [final_loop hb hl]
  rfl
/-- a rule that has all its answers -/
theorem turn_done {l : List RuleD} {n : Nat} {ls : List ByteArray} (h : n < l.length) (h100 : n < 100) (hn : l[n].Asks.length ≤ ls.length) (ha : l[n].Asks.length ≤ 100) (hb : ∀ s ∈ ls, s.size ≤ 140737488355328) :
    toy_Turn l (ruleK l[n] n) ls = toy_Turn_j3 l[n] (l[n].C :: (ls.take l[n].Asks.length).map valS) := by
  have hk : ∃ k : Int, (k = 31 ∨ k = 32) ∧ ruleK l[n] n = ⟨k, itoaS n⟩ := by
    unfold ruleK
    cases l[n].Ring
    · exact ⟨31, .inl rfl, rfl⟩
    · exact ⟨32, .inr rfl, rfl⟩
  obtain ⟨k, hk, he⟩ := hk
  unfold toy_Turn
  rw [show key_Number (ruleK l[n] n) = some (n : Int) by rw [he]; exact number_of (by omega) h100]
  simp only [Option.bind_some]
  rw [show decide ((n : Int) < 0) = false by simp, show ((ruleK l[n] n).Kind == 30) = false by rw [he]; rcases hk with rfl | rfl <;> rfl, key_of_is h h100, getI_at h]
  simp only [Option.bind_some, cond_false, beq_self_eq_true, Bool.and_self, Bool.not_true]
  rw [show decide ((ls.length : Int) < (l[n].Asks.length : Int)) = false by simp; omega, show (0 : Int) = ((0 : Nat) : Int) from rfl, subI_at (by omega) hn]
  simp only [Option.bind_some, cond_false, List.drop_zero]
  have := turn_loop (c := l[n].C) (ls := ls.take l[n].Asks.length) (fun s hs => hb s (List.mem_of_mem_take hs)) (by rw [List.length_take]; omega)
  rw [show (((0 : Nat) : Int)) = 0 from rfl, this]
  rfl
/-- whether a step takes its other -/
noncomputable def elseB (a : AskD) (ls : List ByteArray) : Bool := a.Pick && (match ls.getLast? with
  | some s => Int.tmod (valS s) 2 == 0
  | none => false)
/-- a rule that asks -/
theorem turn_ask {l : List RuleD} {n : Nat} {ls : List ByteArray} (h : n < l.length) (h100 : n < 100) (hn : ls.length < l[n].Asks.length) (ha : l[n].Asks.length ≤ 1000) (hb : ∀ s ∈ ls, s.size ≤ 140737488355328) :
    toy_Turn l (ruleK l[n] n) ls = toy_Turn_j2 l (l[n].Asks[ls.length]) (elseB l[n].Asks[ls.length] ls) := by
  have hk : ∃ k : Int, (k = 31 ∨ k = 32) ∧ ruleK l[n] n = ⟨k, itoaS n⟩ := by
    unfold ruleK
    cases l[n].Ring
    · exact ⟨31, .inl rfl, rfl⟩
    · exact ⟨32, .inr rfl, rfl⟩
  obtain ⟨k, hk, he⟩ := hk
  unfold toy_Turn
  rw [show key_Number (ruleK l[n] n) = some (n : Int) by rw [he]; exact number_of (by omega) h100]
  simp only [Option.bind_some]
  rw [show decide ((n : Int) < 0) = false by simp, show ((ruleK l[n] n).Kind == 30) = false by rw [he]; rcases hk with rfl | rfl <;> rfl, key_of_is h h100, getI_at h]
  simp only [Option.bind_some, cond_false, beq_self_eq_true, Bool.and_self, Bool.not_true]
  rw [show decide ((ls.length : Int) < (l[n].Asks.length : Int)) = true by simpa using hn, getI_at hn]
  simp only [Option.bind_some, cond_true]
  unfold elseB
  cases hp : l[n].Asks[ls.length].Pick with
  | false => simp
  | true =>
    simp only [cond_true, Bool.true_and]
    rcases List.eq_nil_or_concat ls with rfl | ⟨r, c, rfl⟩
    · simp
    · have hd : decide ((0 : Int) < (((r.concat c).length : Nat) : Int)) = true := by simp
      rw [hd, w64 (by omega) (by omega)]
      simp only [cond_true, List.concat_eq_append, List.length_append, List.length_cons, List.length_nil, List.getLast?_append, List.getLast?_singleton, Option.some_or]
      rw [show (((r.length + (0 + 1) : Nat) : Int) - 1) = (r.length : Int) by omega, getI_at (by simp)]
      simp only [Option.bind_some, List.getElem_concat_length, (value_some (hb c (by simp))).1]
theorem key_cell_is {n : Nat} (h : n < 100) : key_Cell n = some (cellK n) := by
  unfold key_Cell
  rw [show decide ((n : Int) < 0) = false by simp, show decide ((99 : Int) < (n : Int)) = false by simp; omega]
  simp [cond, itoaM_nat (show n < 1000000000 by omega), cellK]
theorem valS_nat {n : Nat} (h : n < 65536) : valS (itoaS n) = n := by unfold valS; rw [value_is h]; rfl
end Go.Proofs.YthpeklnhkkadjaaDoor
