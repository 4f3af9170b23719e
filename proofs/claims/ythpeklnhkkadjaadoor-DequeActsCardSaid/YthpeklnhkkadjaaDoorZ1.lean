/- Deques, plain: what the decompiled functions answer. -/
import Derived.Test.YthpeklnhkkadjaaDoorUM
import Derived.Test.YthpeklnhkkadjaaDoorUG
import Derived.Test.YthpeklnhkkadjaaDoorD2
set_option linter.unusedVariables false
set_option linter.unusedSimpArgs false
namespace Go.Proofs.YthpeklnhkkadjaaDoor
open Go.RowKit
open Go.Lib hiding intOf

theorem indexf_none {f : KeyD → Option Bool} {l : List KeyD} (hl : l.length ≤ maxLen) (h : ∀ x ∈ l, f x = some false) : indexf_key f l = some (-1) := by
  have hm : maxLen = 9223372036854775807 := rfl
  unfold indexf_key
  have hL : loop (fun s : Int × Int => indexf_key_l2 l f s.1 s.2) ((l.length : Int), 0) = some (Fl.go ()) := by
   refine loop_eq (I := fun k s => s = ((l.length : Int), (k : Int))) (y := Fl.go ()) (N := l.length) ?_ ?_ rfl
   · rintro k _ hk rfl
     left
     refine ⟨((l.length : Int), ((k + 1 : Nat) : Int)), ?_, rfl⟩
     unfold indexf_key_l2
     rw [show decide ((k : Int) < (l.length : Int)) = true by simpa using hk, getI_at hk, w64 (by omega) (by omega)]
     simp [h _ (List.getElem_mem hk)]
   · rintro _ rfl
     unfold indexf_key_l2
     simp
  rw [hL]; rfl
def CellsK (l : List KeyD) : Prop := ∀ x ∈ l, ∃ n : Nat, n < 100 ∧ x = cellK n
theorem deque_valid {l : List KeyD} (hl : l.length ≤ 64) (h : CellsK l) : deque_Valid ⟨l⟩ = some true := by
  unfold deque_Valid
  rw [show decide (((l.length : Int) : Int) ≤ 64) = true by simp; omega]
  have h1 : containsf_key deque_Valid1 l = some false := by
    unfold containsf_key
    rw [indexf_none (by unfold maxLen; omega) fun x hx => ?_]
    · simp
    · obtain ⟨n, hn, rfl⟩ := h x hx
      unfold deque_Valid1
      rw [key_cell hn]
      simp
  simp [h1, cond]
  rfl
theorem clone_is {l : List KeyD} (h : l.length ≤ 4294967296) : clone_key l = some l := by
  unfold clone_key
  rw [show roomB (([] : List KeyD).length + l.length) = true from room (by simpa using h)]
  simp [gd]
theorem push_is {l : List KeyD} {k : KeyD} (hl : l.length ≤ 64) (hk : key_Valid k = some true) : deque_Push ⟨l⟩ k = some (if l.length < 64 then (⟨l ++ [k]⟩, 0) else (⟨l⟩, 45)) := by
  unfold deque_Push deque_owned
  dsimp only
  rw [clone_is (by omega), hk]
  simp only [Option.bind_some, Bool.not_true, cond_false]
  by_cases h : l.length < 64
  · rw [show decide ((64 : Int) ≤ (l.length : Int)) = false by simp; omega, if_pos h, show roomB (l.length + [k].length) = true from room (by simp; omega)]
    rfl
  · rw [show decide ((64 : Int) ≤ (l.length : Int)) = true by simp; omega, if_neg h]
    rfl
theorem pop_nil : deque_Pop ⟨[]⟩ = some (⟨[]⟩, ⟨0, ByteArray.mk #[]⟩, false) := by
  unfold deque_Pop
  simp
theorem pop_snoc {l : List KeyD} {k : KeyD} (hl : l.length ≤ 64) : deque_Pop ⟨l ++ [k]⟩ = some (⟨l⟩, k, true) := by
  unfold deque_Pop
  simp only [List.length_append, List.length_cons, List.length_nil]
  rw [show ((((l.length + (0 + 1) : Nat) : Int) : Int) == 0) = false by simp; omega, w64 (by omega) (by omega), show (((l.length + (0 + 1) : Nat) : Int) - 1) = (l.length : Int) by omega,
    show (0 : Int) = ((0 : Nat) : Int) from rfl, subI_at (by omega) (by simp), getI_at (by simp)]
  simp [clone_is (show l.length ≤ 4294967296 by omega)]
theorem steal_nil : deque_Steal ⟨[]⟩ = some (⟨[]⟩, ⟨0, ByteArray.mk #[]⟩, false) := by
  unfold deque_Steal
  simp
theorem steal_cons {l : List KeyD} {k : KeyD} (hl : l.length ≤ 64) : deque_Steal ⟨k :: l⟩ = some (⟨l⟩, k, true) := by
  unfold deque_Steal
  simp only [List.length_cons]
  rw [show ((((l.length + 1 : Nat) : Int) : Int) == 0) = false by simp; omega, show (1 : Int) = ((1 : Nat) : Int) from rfl, subI_at (by omega) (by simp), show (0 : Int) = ((0 : Nat) : Int) from rfl, getI_at (by simp)]
  simp [clone_is (show l.length ≤ 4294967296 by omega)]
theorem key_self (k : KeyD) : ((k.Kind : Int) == k.Kind && k.Text.toList == k.Text.toList) = true := by simp
theorem awake_l3 {n : Nat} {l : List KeyD} (h : n < 4) (hl : l.length < 64) : law32_awake_l3 (n : Int) l = some (.go (((n + 1 : Nat) : Int), l ++ [cellK n])) := by
  unfold law32_awake_l3
  rw [show decide ((n : Int) < 4) = true by simp; omega, ref23_cell (by omega), w64 (by omega) (by omega)]
  simp only [Option.bind_some, cond_true, push_is (Nat.le_of_lt hl) (key_cell (show n < 100 by omega)), if_pos hl]
  rfl
theorem law32_awake_is : law32_awake = some true := by
  unfold law32_awake
  have h : loop (fun s : Int × (List KeyD) => law32_awake_l3 s.1 s.2) (1, ([] : List KeyD)) = some [cellK 1, cellK 2, cellK 3] := by
    rw [loop_go (awake_l3 (n := 1) (l := []) (by omega) (by decide))]
    rw [loop_go (awake_l3 (n := 2) (l := [cellK 1]) (by omega) (by simp))]
    rw [loop_go (awake_l3 (n := 3) (l := [cellK 1, cellK 2]) (by omega) (by simp))]
    exact loop_out rfl
  rw [h]
  simp only [Option.bind_some]
  unfold law32_awake_j2
  rw [steal_cons (by simp)]
  simp only [Option.bind_some]
  rw [show ([cellK 2, cellK 3] : List KeyD) = [cellK 2] ++ [cellK 3] from rfl, pop_snoc (by simp)]
  simp only [Option.bind_some, cond_true]
  have c1 := ref23_cell (n := 1) (by omega)
  have c3 := ref23_cell (n := 3) (by omega)
  rw [show ref23_Cell 1 = some (cellK 1) from c1, show ref23_Cell 3 = some (cellK 3) from c3]
  simp only [Option.bind_some, key_self, cond_true]
  rw [deque_valid (by simp) (fun x hx => ⟨2, by omega, by simpa using hx⟩)]
  rfl
end Go.Proofs.YthpeklnhkkadjaaDoor
