/- Law 24, plain: its check of itself, ToyPicks. -/
import Derived.Test.YtappkgmbdoiocaaDoorU4
import Derived.Test.YtappkgmbdoiocaaDoorD3
set_option linter.unusedVariables false
set_option linter.unusedSimpArgs false
namespace Go.Proofs.YtappkgmbdoiocaaDoor
open Go.RowKit
open Go.Lib hiding intOf

noncomputable def awR : RuleD := RuleD.mk false ([(AskD.mk true false 0 0), (AskD.mk true false 1 0)]) 1 5
theorem aw_ask : toy_Turn [awR] (ruleK awR 0) [ByteArray.mk #[55]] = some (TurnD.mk false (ByteArray.mk #[]) (cellK 1)) := by
  have := turn_ask (l := [awR]) (n := 0) (ls := [ByteArray.mk #[55]]) (by decide) (by omega) (by show 1 < 2; omega) (by show 2 ≤ 1000; omega) (fun s hs => by simp only [List.mem_singleton] at hs; subst hs; decide)
  refine this.trans ?_
  show toy_Turn_j2 [awR] (AskD.mk true false 1 0) (elseB (AskD.mk true false 1 0) _) = _
  unfold toy_Turn_j2 elseB toy_Turn_j1
  simp only [Bool.false_and, cond_false, cond_true]
  rw [show key_Cell 1 = some (cellK 1) from key_cell_is (n := 1) (by omega)]
  rfl
theorem aw_done : toy_Turn [awR] (ruleK awR 0) [ByteArray.mk #[55], ByteArray.mk #[120]] = some (TurnD.mk true (itoaS 12) (KeyD.mk 0 (ByteArray.mk #[]))) := by
  have := turn_done (l := [awR]) (n := 0) (ls := [ByteArray.mk #[55], ByteArray.mk #[120]]) (by decide) (by omega) (by show 2 ≤ 2; omega) (by show 2 ≤ 100; omega) (fun s hs => by
    simp only [List.mem_cons, List.not_mem_nil, or_false] at hs; rcases hs with rfl | rfl <;> decide)
  refine this.trans ?_
  show toy_Turn_j3 awR [5, valS (ByteArray.mk #[55]), valS (ByteArray.mk #[120])] = _
  rw [show valS (ByteArray.mk #[55]) = 7 by rw [s7]; exact valS_nat (by omega), show valS (ByteArray.mk #[120]) = 0 by unfold valS; rw [v_x]; rfl]
  unfold toy_Turn_j3
  rw [final_some (by intro x hx; simp only [List.mem_cons, List.not_mem_nil, or_false] at hx; omega) (by decide)]
  show (toy_final_j1 1 _ _ _).bind _ = _
  unfold toy_final_j1
  simp only [beq_self_eq_true, cond_true, Option.bind_some]
  rw [show Int.tmod ([5, 7, 0] : List Int).sum 1000 = ((12 : Nat) : Int) by decide, itoaM_nat (by omega)]
  rfl
theorem aw_valid : toy_Valid [awR] = some true := by
  have r0 : toy_right [awR] 0 (AskD.mk true false 0 0) true = some true := by unfold toy_right toy_may; rfl
  have r1 : toy_right [awR] 0 (AskD.mk true false 1 0) false = some true := by unfold toy_right toy_may; rfl
  unfold toy_Valid
  have hin : loop (fun s : Int => toy_Valid_l3 [awR] 0 awR s) 0 = some (Fl.go ()) := by
    rw [loop_go (s' := 1), loop_go (s' := 2), loop_out (r := Fl.go ())]
    · unfold toy_Valid_l3; rfl
    · unfold toy_Valid_l3
      rw [show decide ((1 : Int) < (awR.Asks.length : Int)) = true from rfl, show getI awR.Asks 1 = some (AskD.mk true false 1 0) from rfl]
      simp only [Option.bind_some, cond_true]
      rw [show ((1 : Int) == 0) = false from rfl, r1, w64 (by omega) (by omega)]
      rfl
    · unfold toy_Valid_l3
      rw [show decide ((0 : Int) < (awR.Asks.length : Int)) = true from rfl, show getI awR.Asks 0 = some (AskD.mk true false 0 0) from rfl]
      simp only [Option.bind_some, cond_true]
      rw [show ((0 : Int) == 0) = true from rfl, r0, w64 (by omega) (by omega)]
      rfl
  have hout : loop (fun s : Int => toy_Valid_l5 [awR] s) 0 = some (Fl.go ()) := by
    rw [loop_go (s' := 1), loop_out (r := Fl.go ())]
    · unfold toy_Valid_l5; rfl
    · unfold toy_Valid_l5
      rw [show decide ((0 : Int) < (([awR] : List RuleD).length : Int)) = true from rfl, show getI [awR] 0 = some awR from rfl]
      simp only [Option.bind_some, cond_true]
      rw [show awR.Ring = false from rfl]
      simp only [cond_false]
      unfold toy_Valid_j4
      rw [hin]
      show toy_Valid_j2 0 = _
      unfold toy_Valid_j2
      rw [w64 (by omega) (by omega)]
      rfl
  rw [show decide ((24 : Int) < (([awR] : List RuleD).length : Int)) = false from rfl]
  simp only [cond_false]
  rw [hout]
  rfl
theorem law24_awake_is : law24_awake = some true := by
  have hof : ref23_Of [awR] 0 = some (ruleK awR 0) := ref_of_is (l := [awR]) (n := 0) (by decide) (by omega)
  have hc : ref23_Cell 1 = some (cellK 1) := ref23_cell (n := 1) (by omega)
  unfold law24_awake
  rw [show (RuleD.mk false ([(AskD.mk true false 0 0), (AskD.mk true false 1 0)]) 1 5) = awR from rfl, hof]
  simp only [Option.bind_some]
  rw [aw_ask, aw_done, aw_valid]
  simp only [Option.bind_some, cond_true, Bool.not_false]
  rw [hc]
  simp only [Option.bind_some]
  rw [v_9, v_09, show ((itoaS 12).toList == (ByteArray.mk #[49, 50]).toList) = true by rw [itoaS_list, show itoa 12 = decDigits 12 from itoa_nat 12]; kernel_rfl]
  simp [law24_awake_j1]
theorem mod_is (n : Int) {m : Nat} (hm : 0 < m) (hm2 : m ≤ 1000000000) : ∃ r : Nat, r < m ∧ mill_Mod n m = some (r : Int) := by
  have h1 := Int.tmod_lt_of_pos n (b := (m : Int)) (by omega)
  have h2 : -(m : Int) < Int.tmod n m := by
    rcases (show n < 0 ∨ 0 ≤ n by omega) with h | h
    · have := Int.tmod_lt_of_pos (-n) (b := (m : Int)) (by omega)
      rw [Int.neg_tmod] at this
      omega
    · have := Int.tmod_nonneg (m : Int) h
      omega
  refine ⟨(Int.tmod (Int.tmod n m + m) m).toNat, ?_, ?_⟩
  · have h3 := Int.tmod_lt_of_pos (Int.tmod n m + m) (b := (m : Int)) (by omega)
    have h4 := Int.tmod_nonneg (a := Int.tmod n m + m) (m : Int) (by omega)
    omega
  · unfold mill_Mod
    have h4 := Int.tmod_nonneg (a := Int.tmod n m + m) (m : Int) (by omega)
    rw [show decide ((m : Int) < 1) = false by simp; omega, show ((m : Int) != 0) = true by simp; omega, w64 (by omega) (by omega), Int.toNat_of_nonneg h4]
    rfl
noncomputable def pR (c n o : Nat) : RuleD := RuleD.mk false ([(AskD.mk true false c 0), (AskD.mk true true n o)]) 1 0
theorem p_ask {c n o v : Nat} (hn : n < 16) (ho : o < 16) (hv : v < 500) : toy_Turn [pR c n o] (ruleK (pR c n o) 0) [itoaS v] = some (TurnD.mk false (ByteArray.mk #[]) (cellK (if v % 2 = 0 then o else n))) := by
  have := turn_ask (l := [pR c n o]) (n := 0) (ls := [itoaS v]) (by simp) (by omega) (by show 1 < 2; omega) (by show 2 ≤ 1000; omega) (fun s hs => by simp only [List.mem_singleton] at hs; subst hs; exact size_itoa (by omega))
  refine this.trans ?_
  show toy_Turn_j2 [pR c n o] (AskD.mk true true n o) (elseB (AskD.mk true true n o) _) = _
  have hm : Int.tmod (v : Int) 2 = ((v % 2 : Nat) : Int) := by rw [Int.tmod_eq_emod_of_nonneg (by omega)]; omega
  unfold toy_Turn_j2 elseB toy_Turn_j1
  simp only [Bool.true_and, List.getLast?_singleton, valS_nat (show v < 65536 by omega), hm, cond_true]
  rw [key_cell_is (show n < 100 by omega), key_cell_is (show o < 100 by omega)]
  by_cases h : v % 2 = 0
  · rw [if_pos h, h]; rfl
  · rw [if_neg h, show v % 2 = 1 by omega]; rfl
theorem p_done {c n o v : Nat} (hv : v < 500) : toy_Turn [pR c n o] (ruleK (pR c n o) 0) [itoaS v, ByteArray.mk #[52, 57, 57]] = some (TurnD.mk true (itoaS ((v + 499) % 1000 : Nat)) (KeyD.mk 0 (ByteArray.mk #[]))) := by
  have := turn_done (l := [pR c n o]) (n := 0) (ls := [itoaS v, ByteArray.mk #[52, 57, 57]]) (by simp) (by omega) (by show 2 ≤ 2; omega) (by show 2 ≤ 100; omega) (fun s hs => by
    simp only [List.mem_cons, List.not_mem_nil, or_false] at hs
    rcases hs with rfl | rfl
    · exact size_itoa (by omega)
    · decide)
  refine this.trans ?_
  show toy_Turn_j3 (pR c n o) [0, valS (itoaS v), valS (ByteArray.mk #[52, 57, 57])] = _
  rw [valS_nat (show v < 65536 by omega), show valS (ByteArray.mk #[52, 57, 57]) = 499 by rw [s499]; exact valS_nat (by omega)]
  unfold toy_Turn_j3
  rw [final_some (by intro x hx; simp only [List.mem_cons, List.not_mem_nil, or_false] at hx; omega) (by simp)]
  show (toy_final_j1 1 _ _ _).bind _ = _
  unfold toy_final_j1
  simp only [beq_self_eq_true, cond_true, Option.bind_some, List.sum_cons, List.sum_nil]
  rw [show Int.tmod (0 + ((v : Int) + (499 + 0))) 1000 = (((v + 499) % 1000 : Nat) : Int) by rw [Int.tmod_eq_emod_of_nonneg (by omega)]; omega, itoaM_nat (by omega)]
  rfl
theorem may_cell {l : List RuleD} {k : Int} {n : Nat} (h : n < 16) : toy_may l k true n = some true := by
  unfold toy_may toy_may_j1
  rw [show decide ((0 : Int) ≤ (n : Int)) = true by simp, show decide ((n : Int) ≤ 15) = true by simp; omega]
  rfl
theorem p_valid {c n o : Nat} (hc : c < 16) (hn : n < 16) (ho : o < 16) : toy_Valid [pR c n o] = some true := by
  have r0 : toy_right [pR c n o] 0 (AskD.mk true false c 0) true = some true := by
    unfold toy_right toy_right_j1
    simp only [cond_false, may_cell hc, Option.bind_some, Bool.not_true, Bool.not_false, cond_true]
    rfl
  have r1 : toy_right [pR c n o] 0 (AskD.mk true true n o) false = some true := by
    unfold toy_right toy_right_j1
    rw [show getI [pR c n o] 0 = some (pR c n o) from rfl]
    simp only [cond_true, Option.bind_some]
    rw [show (pR c n o).Ring = false from rfl]
    simp only [cond_false, may_cell hn, may_cell ho, Option.bind_some, Bool.not_true]
  have hin : loop (fun s : Int => toy_Valid_l3 [pR c n o] 0 (pR c n o) s) 0 = some (Fl.go ()) := by
    rw [loop_go (s' := 1), loop_go (s' := 2), loop_out (r := Fl.go ())]
    · unfold toy_Valid_l3; rfl
    · unfold toy_Valid_l3
      rw [show decide ((1 : Int) < ((pR c n o).Asks.length : Int)) = true from rfl, show getI (pR c n o).Asks 1 = some (AskD.mk true true n o) from rfl]
      simp only [Option.bind_some, cond_true]
      rw [show ((1 : Int) == 0) = false from rfl, r1, w64 (by omega) (by omega)]
      rfl
    · unfold toy_Valid_l3
      rw [show decide ((0 : Int) < ((pR c n o).Asks.length : Int)) = true from rfl, show getI (pR c n o).Asks 0 = some (AskD.mk true false c 0) from rfl]
      simp only [Option.bind_some, cond_true]
      rw [show ((0 : Int) == 0) = true from rfl, r0, w64 (by omega) (by omega)]
      rfl
  have hout : loop (fun s : Int => toy_Valid_l5 [pR c n o] s) 0 = some (Fl.go ()) := by
    rw [loop_go (s' := 1), loop_out (r := Fl.go ())]
    · unfold toy_Valid_l5; rfl
    · unfold toy_Valid_l5
      rw [show decide ((0 : Int) < (([pR c n o] : List RuleD).length : Int)) = true from rfl, show getI [pR c n o] 0 = some (pR c n o) from rfl]
      simp only [Option.bind_some, cond_true]
      rw [show (pR c n o).Ring = false from rfl]
      simp only [cond_false]
      unfold toy_Valid_j4
      rw [hin]
      show toy_Valid_j2 0 = _
      unfold toy_Valid_j2
      rw [w64 (by omega) (by omega)]
      rfl
  unfold toy_Valid
  rw [show decide ((24 : Int) < (([pR c n o] : List RuleD).length : Int)) = false from rfl]
  simp only [cond_false]
  rw [hout]
  rfl
theorem picks_is (a b c v : Int) : law24_ToyPicks a b c v = some true := by
  obtain ⟨n, hn, e1⟩ := mod_is a (m := 16) (by omega) (by omega)
  obtain ⟨o, ho, e2⟩ := mod_is b (m := 16) (by omega) (by omega)
  obtain ⟨k, hk, e3⟩ := mod_is c (m := 16) (by omega) (by omega)
  obtain ⟨x, hx, e4⟩ := mod_is v (m := 500) (by omega) (by omega)
  have hof : ref23_Of [pR k n o] 0 = some (ruleK (pR k n o) 0) := ref_of_is (l := [pR k n o]) (n := 0) (by simp) (by omega)
  unfold law24_ToyPicks
  rw [show mill_Mod a 16 = some (n : Int) from e1, show mill_Mod b 16 = some (o : Int) from e2, show mill_Mod c 16 = some (k : Int) from e3, show mill_Mod v 500 = some (x : Int) from e4]
  simp only [Option.bind_some]
  rw [show (RuleD.mk false ([(AskD.mk true false (k : Int) 0), (AskD.mk true true (n : Int) (o : Int))]) 1 0) = pR k n o from rfl, hof, itoaM_nat (show x < 1000000000 by omega)]
  simp only [Option.bind_some]
  rw [p_ask hn ho hx, ref23_cell (show o < 100 by omega), ref23_cell (show n < 100 by omega)]
  have hm : Int.tmod (x : Int) 2 = ((x % 2 : Nat) : Int) := by rw [Int.tmod_eq_emod_of_nonneg (by omega)]; omega
  have j2 : ∀ q : Nat, q = (if x % 2 = 0 then o else n) → law24_ToyPicks_j2 (x : Int) (TurnD.mk false (ByteArray.mk #[]) (cellK (if x % 2 = 0 then o else n))) [pR k n o] (cellK q).Kind (cellK q).Text = some true := fun q hq => by
    subst hq
    unfold law24_ToyPicks_j2
    rw [hof, itoaM_nat (show x < 1000000000 by omega)]
    simp only [Option.bind_some]
    rw [p_done hx, p_valid hk hn ho, w64 (by omega) (by omega), show Int.tmod ((x : Int) + 499) 1000 = (((x + 499) % 1000 : Nat) : Int) by rw [Int.tmod_eq_emod_of_nonneg (by omega)]; omega, itoaM_nat (by omega), law24_awake_is]
    simp [law24_ToyPicks_j1]
  simp only [Option.bind_some, hm]
  by_cases h : x % 2 = 0
  · rw [show (((x % 2 : Nat) : Int) == 1) = false by rw [h]; rfl]
    exact j2 o (by rw [if_pos h])
  · rw [show (((x % 2 : Nat) : Int) == 1) = true by rw [show x % 2 = 1 by omega]; rfl]
    exact j2 n (by rw [if_neg h])
end Go.Proofs.YtappkgmbdoiocaaDoor
