/- Law 32, plain: its check of itself, DequeOnce. -/
import Derived.Test.YtappkgmbdoiocaaDoorU1
set_option linter.unusedVariables false
set_option linter.unusedSimpArgs false
namespace Go.Proofs.YtappkgmbdoiocaaDoor
open Go.RowKit
open Go.Lib hiding intOf

theorem key_self (k : KeyD) : ((k.Kind : Int) == k.Kind && k.Text.toList == k.Text.toList) = true := by simp
theorem awake_l3 {n : Nat} {l : List KeyD} (h : n < 4) (hl : l.length < 64) : law32_awake_l3 (n : Int) l = some (.go (((n + 1 : Nat) : Int), l ++ [cellK n])) := by
  unfold law32_awake_l3
  rw [show decide ((n : Int) < 4) = true by simp; omega, ref23_cell (by omega), w64 (by omega) (by omega)]
  simp only [Option.bind_some, cond_true, push_is (Nat.le_of_lt hl) (key_cell (show n < 100 by omega)), if_pos hl]
  rfl
theorem law32_awake_is : law32_awake = some true := by
  unfold law32_awake
  have h : loop (fun s : Int × (List KeyD) => law32_awake_l3 s.1 s.2) (1, ([] : List KeyD)) = some [cellK 1, cellK 2, cellK 3] := by
    rw [loop_go (awake_l3 (n := 1) (l := []) (by omega) (by decide))]
    rw [loop_go (awake_l3 (n := 2) (l := [cellK 1]) (by omega) (by simp))]
    rw [loop_go (awake_l3 (n := 3) (l := [cellK 1, cellK 2]) (by omega) (by simp))]
    exact loop_out rfl
  rw [h]
  simp only [Option.bind_some]
  unfold law32_awake_j2
  rw [steal_cons (by simp)]
  simp only [Option.bind_some]
  rw [show ([cellK 2, cellK 3] : List KeyD) = [cellK 2] ++ [cellK 3] from rfl, pop_snoc (by simp)]
  simp only [Option.bind_some, cond_true]
  have c1 := ref23_cell (n := 1) (by omega)
  have c3 := ref23_cell (n := 3) (by omega)
  rw [show ref23_Cell 1 = some (cellK 1) from c1, show ref23_Cell 3 = some (cellK 3) from c3]
  simp only [Option.bind_some, key_self, cond_true]
  rw [deque_valid (by simp) (fun x hx => ⟨2, by omega, by simpa using hx⟩)]
  rfl
theorem once_j3 {g next : Int} {l : List KeyD} (hl : l.length ≤ 64) (h : CellsK l) : law32_DequeOnce_j3 g l next l = some (.go (l, next, IntKind.i64.wrap (g + 1), l)) := by
  unfold law32_DequeOnce_j3 law32_DequeOnce_j2
  rw [deque_valid hl h]
  simp
theorem CellsK.sub {l m : List KeyD} (h : CellsK l) (hs : ∀ x ∈ m, x ∈ l) : CellsK m := fun x hx => h x (hs x hx)
/-- one step of the law -/
theorem once_step {steps : List Int} {k next : Nat} {l : List KeyD} (hk : k < steps.length) (hn : next ≤ k) (h100 : steps.length ≤ 100) (hl : l.length ≤ 64) (h : CellsK l) :
    ∃ l' next', l'.length ≤ 64 ∧ CellsK l' ∧ next' ≤ k + 1 ∧ law32_DequeOnce_l10 steps l (next : Int) (k : Int) l = some (.go (l', ((next' : Nat) : Int), ((k + 1 : Nat) : Int), l')) := by
  unfold law32_DequeOnce_l10
  rw [show decide ((k : Int) < (steps.length : Int)) = true by simpa using hk, getI_at hk]
  simp only [Option.bind_some, cond_true]
  have hw : IntKind.i64.wrap ((k : Int) + 1) = ((k + 1 : Nat) : Int) := by rw [w64 (by omega) (by omega)]; omega
  cases h0 : ((Int.tmod steps[k] 4 : Int) == 0) with
  | true =>
    simp only [cond_true]
    rcases snoc_cases l with rfl | ⟨r, c, rfl⟩
    · rw [pop_nil]
      refine ⟨[], next, by simp, h, by omega, ?_⟩
      simp only [Option.bind_some, List.length_nil]
      have := once_j3 (g := k) (next := next) (l := []) (by simp) h
      rw [hw] at this
      simpa [law32_DequeOnce_j5, law32_DequeOnce_j4] using this
    · have hr : r.length ≤ 64 := by simp at hl; omega
      rw [pop_snoc hr]
      have hc : CellsK r := h.sub fun x hx => by simp [hx]
      refine ⟨r, next, hr, hc, by omega, ?_⟩
      have := once_j3 (g := k) (next := next) (l := r) hr hc
      rw [hw] at this
      simp only [Option.bind_some, List.length_append, List.length_cons, List.length_nil]
      rw [w64 (by omega) (by omega), show (((r.length + (0 + 1) : Nat) : Int) - 1) = (r.length : Int) by omega, getI_at (by simp)]
      have hd : (true != decide ((0 : Int) < ((r.length + (0 + 1) : Nat) : Int))) = false := by simp
      rw [hd]
      simp only [Option.bind_some, cond_true, cond_false, List.getElem_concat_length, key_self, Bool.not_true]
      unfold law32_DequeOnce_j5 law32_DequeOnce_j4
      simp only [cond_true, cond_false, List.length_append, List.length_cons, List.length_nil]
      rw [w64 (by omega) (by omega), show (((r.length + (0 + 1) : Nat) : Int) - 1) = (r.length : Int) by omega, show (0 : Int) = ((0 : Nat) : Int) from rfl, subI_at (by omega) (by simp)]
      simpa using this
  | false =>
    simp only [cond_false]
    cases h1 : ((Int.tmod steps[k] 4 : Int) == 1) with
    | true =>
      simp only [cond_true]
      cases l with
      | nil =>
        rw [steal_nil]
        refine ⟨[], next, by simp, h, by omega, ?_⟩
        have := once_j3 (g := k) (next := next) (l := []) (by simp) h
        rw [hw] at this
        simpa [law32_DequeOnce_j7, law32_DequeOnce_j6] using this
      | cons c r =>
        have hr : r.length ≤ 64 := by simp at hl; omega
        have hc : CellsK r := h.sub fun x hx => by simp [hx]
        rw [steal_cons hr]
        refine ⟨r, next, hr, hc, by omega, ?_⟩
        have := once_j3 (g := k) (next := next) (l := r) hr hc
        rw [hw] at this
        simp only [Option.bind_some, List.length_cons]
        have hd : (true != decide ((0 : Int) < ((r.length + 1 : Nat) : Int))) = false := by simp
        rw [hd, show (0 : Int) = ((0 : Nat) : Int) from rfl, getI_at (by simp)]
        simp only [Option.bind_some, cond_true, cond_false, List.getElem_cons_zero, key_self, Bool.not_true]
        unfold law32_DequeOnce_j7 law32_DequeOnce_j6
        simp only [cond_true, cond_false, List.length_cons]
        rw [show (1 : Int) = ((1 : Nat) : Int) from rfl, subI_at (by omega) (by simp)]
        simpa using this
    | false =>
      simp only [cond_false]
      have hm : Int.tmod (next : Int) 100 = ((next % 100 : Nat) : Int) := by rw [Int.tmod_eq_emod_of_nonneg (by omega)]; omega
      have hlt : next % 100 < 100 := Nat.mod_lt _ (by omega)
      rw [hm, ref23_cell hlt]
      simp only [Option.bind_some]
      rw [push_is hl (key_cell hlt)]
      simp only [Option.bind_some]
      by_cases hf : l.length < 64
      · rw [if_pos hf]
        have hc : CellsK (l ++ [cellK (next % 100)]) := fun x hx => by
          rcases List.mem_append.1 hx with hx | hx
          · exact h x hx
          · exact ⟨_, hlt, by simpa using hx⟩
        refine ⟨l ++ [cellK (next % 100)], next + 1, by simp; omega, hc, by omega, ?_⟩
        have := once_j3 (g := k) (next := ((next + 1 : Nat) : Int)) (l := l ++ [cellK (next % 100)]) (by simp; omega) hc
        rw [hw] at this
        unfold law32_DequeOnce_j9 law32_DequeOnce_j8
        rw [hm, ref23_cell hlt, w64 (by omega) (by omega)]
        have hd : decide (((l.length : Int) : Int) < 64) = true := by simp; omega
        rw [hd]
        simp only [Option.bind_some, show roomB (l.length + [cellK (next % 100)].length) = true from room (by simp; omega)]
        simpa [gd] using this
      · rw [if_neg hf]
        refine ⟨l, next, hl, h, by omega, ?_⟩
        have := once_j3 (g := k) (next := next) (l := l) hl h
        rw [hw] at this
        unfold law32_DequeOnce_j9 law32_DequeOnce_j8
        have hd : decide (((l.length : Int) : Int) < 64) = false := by simp; omega
        rw [hd]
        simpa using this
theorem once_is (steps : List Int) : law32_DequeOnce steps = some true := by
  unfold law32_DequeOnce
  by_cases h : 100 < steps.length
  · rw [show decide ((100 : Int) < (steps.length : Int)) = true by simp; omega, law32_awake_is]
    rfl
  · rw [show decide ((100 : Int) < (steps.length : Int)) = false by simp; omega]
    have hL : loop (fun s : (List KeyD) × Int × Int × (List KeyD) => law32_DequeOnce_l10 steps s.1 s.2.1 s.2.2.1 s.2.2.2) (([] : List KeyD), 0, 0, ([] : List KeyD)) = some (Fl.go ()) := by
      refine loop_eq (I := fun k s => ∃ (l : List KeyD) (next : Nat), l.length ≤ 64 ∧ CellsK l ∧ next ≤ k ∧ s = (l, (next : Int), (k : Int), l)) (y := Fl.go ()) (N := steps.length) ?_ ?_ ⟨[], 0, by simp, (fun x hx => by cases hx), Nat.le_refl _, rfl⟩
      · rintro k _ hk ⟨l, next, hl, hc, hn, rfl⟩
        left
        obtain ⟨l', next', a1, a2, a3, a4⟩ := once_step hk hn (by omega) hl hc
        exact ⟨_, a4, l', next', a1, a2, a3, rfl⟩
      · rintro _ ⟨l, next, hl, hc, hn, rfl⟩
        unfold law32_DequeOnce_l10
        simp
    simp only [cond_false]
    rw [hL]
    show law32_DequeOnce_j1 = _
    unfold law32_DequeOnce_j1
    rw [law32_awake_is]
    rfl
end Go.Proofs.YtappkgmbdoiocaaDoor
