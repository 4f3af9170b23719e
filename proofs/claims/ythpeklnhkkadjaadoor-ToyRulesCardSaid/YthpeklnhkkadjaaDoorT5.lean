/- Law 24's check of itself, plain. -/
import Derived.Test.YthpeklnhkkadjaaDoorT4
set_option linter.unusedVariables false
set_option linter.unusedSimpArgs false
namespace Go.Proofs.YthpeklnhkkadjaaDoor
open Go.RowKit
open Go.Lib hiding intOf

noncomputable def awR : RuleD := RuleD.mk false ([(AskD.mk true false 0 0), (AskD.mk true false 1 0)]) 1 5
theorem aw_ask : toy_Turn [awR] (ruleK awR 0) [ByteArray.mk #[55]] = some (TurnD.mk false (ByteArray.mk #[]) (cellK 1)) := by
  have := turn_ask (l := [awR]) (n := 0) (ls := [ByteArray.mk #[55]]) (by decide) (by omega) (by show 1 < 2; omega) (by show 2 ≤ 1000; omega) (fun s hs => by simp only [List.mem_singleton] at hs; subst hs; decide)
  refine this.trans ?_
  show toy_Turn_j2 [awR] (AskD.mk true false 1 0) (elseB (AskD.mk true false 1 0) _) = _
  unfold toy_Turn_j2 elseB toy_Turn_j1
  simp only [Bool.false_and, cond_false, cond_true]
  rw [show key_Cell 1 = some (cellK 1) from key_cell_is (n := 1) (by omega)]
  rfl
theorem aw_done : toy_Turn [awR] (ruleK awR 0) [ByteArray.mk #[55], ByteArray.mk #[120]] = some (TurnD.mk true (itoaS 12) (KeyD.mk 0 (ByteArray.mk #[]))) := by
  have := turn_done (l := [awR]) (n := 0) (ls := [ByteArray.mk #[55], ByteArray.mk #[120]]) (by decide) (by omega) (by show 2 ≤ 2; omega) (by show 2 ≤ 100; omega) (fun s hs => by
    simp only [List.mem_cons, List.not_mem_nil, or_false] at hs; rcases hs with rfl | rfl <;> decide)
  refine this.trans ?_
  show toy_Turn_j3 awR [5, valS (ByteArray.mk #[55]), valS (ByteArray.mk #[120])] = _
  rw [show valS (ByteArray.mk #[55]) = 7 by rw [s7]; exact valS_nat (by omega), show valS (ByteArray.mk #[120]) = 0 by unfold valS; rw [v_x]; rfl]
  unfold toy_Turn_j3
  rw [final_some (by intro x hx; simp only [List.mem_cons, List.not_mem_nil, or_false] at hx; omega) (by decide)]
  show (toy_final_j1 1 _ _ _).bind _ = _
  unfold toy_final_j1
  simp only [beq_self_eq_true, cond_true, Option.bind_some]
  rw [show Int.tmod ([5, 7, 0] : List Int).sum 1000 = ((12 : Nat) : Int) by decide, itoaM_nat (by omega)]
  rfl
theorem aw_valid : toy_Valid [awR] = some true := by
  have r0 : toy_right [awR] 0 (AskD.mk true false 0 0) true = some true := by unfold toy_right toy_may; rfl
  have r1 : toy_right [awR] 0 (AskD.mk true false 1 0) false = some true := by unfold toy_right toy_may; rfl
  unfold toy_Valid
  have hin : loop (fun s : Int => toy_Valid_l3 [awR] 0 awR s) 0 = some (Fl.go ()) := by
    rw [loop_go (s' := 1), loop_go (s' := 2), loop_out (r := Fl.go ())]
    · unfold toy_Valid_l3; rfl
    · unfold toy_Valid_l3
      rw [show decide ((1 : Int) < (awR.Asks.length : Int)) = true from rfl, show getI awR.Asks 1 = some (AskD.mk true false 1 0) from rfl]
      simp only [Option.bind_some, cond_true]
      rw [show ((1 : Int) == 0) = false from rfl, r1, w64 (by omega) (by omega)]
      rfl
    · unfold toy_Valid_l3
      rw [show decide ((0 : Int) < (awR.Asks.length : Int)) = true from rfl, show getI awR.Asks 0 = some (AskD.mk true false 0 0) from rfl]
      simp only [Option.bind_some, cond_true]
      rw [show ((0 : Int) == 0) = true from rfl, r0, w64 (by omega) (by omega)]
      rfl
  have hout : loop (fun s : Int => toy_Valid_l5 [awR] s) 0 = some (Fl.go ()) := by
    rw [loop_go (s' := 1), loop_out (r := Fl.go ())]
    · unfold toy_Valid_l5; rfl
    · unfold toy_Valid_l5
      rw [show decide ((0 : Int) < (([awR] : List RuleD).length : Int)) = true from rfl, show getI [awR] 0 = some awR from rfl]
      simp only [Option.bind_some, cond_true]
      rw [show awR.Ring = false from rfl]
      simp only [cond_false]
      unfold toy_Valid_j4
      rw [hin]
      show toy_Valid_j2 0 = _
      unfold toy_Valid_j2
      rw [w64 (by omega) (by omega)]
      rfl
  rw [show decide ((24 : Int) < (([awR] : List RuleD).length : Int)) = false from rfl]
  simp only [cond_false]
  rw [hout]
  rfl
theorem law24_awake_is : law24_awake = some true := by
  have hof : ref23_Of [awR] 0 = some (ruleK awR 0) := ref_of_is (l := [awR]) (n := 0) (by decide) (by omega)
  have hc : ref23_Cell 1 = some (cellK 1) := ref23_cell (n := 1) (by omega)
  unfold law24_awake
  rw [show (RuleD.mk false ([(AskD.mk true false 0 0), (AskD.mk true false 1 0)]) 1 5) = awR from rfl, hof]
  simp only [Option.bind_some]
  rw [aw_ask, aw_done, aw_valid]
  simp only [Option.bind_some, cond_true, Bool.not_false]
  rw [hc]
  simp only [Option.bind_some]
  rw [v_9, v_09, show ((itoaS 12).toList == (ByteArray.mk #[49, 50]).toList) = true by rw [itoaS_list, show itoa 12 = decDigits 12 from itoa_nat 12]; kernel_rfl]
  simp [law24_awake_j1]
theorem may_cell {l : List RuleD} {k : Int} {n : Nat} (h : n < 16) : toy_may l k true n = some true := by
  unfold toy_may toy_may_j1
  rw [show decide ((0 : Int) ≤ (n : Int)) = true by simp, show decide ((n : Int) ≤ 15) = true by simp; omega]
  rfl
end Go.Proofs.YthpeklnhkkadjaaDoor
