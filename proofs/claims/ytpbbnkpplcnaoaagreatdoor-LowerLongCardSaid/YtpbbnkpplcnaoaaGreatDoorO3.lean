/- LowerLong: the panic of code that is too large. -/
import Derived.Test.YtpbbnkpplcnaoaaGreatDoorO2
set_option linter.unusedVariables false
set_option linter.unusedSimpArgs false
namespace Go.Proofs.YtpbbnkpplcnaoaaGreatDoor
open Go.RowKit

/-- the panic -/
abbrev lgP : List PanicEntry := [{ v := .iface 84 (.agg #[]), recovered := false }]

set_option maxHeartbeats 2000000 in
theorem addW_pan (w : World) (B p : Nat) (lo tg v : Value) (L : List Op4) (nx : Int) (k a b c : Int) (h : Wr w B p lo tg v L nx) (hl : L.length = 4000) :
    Calls Tryz.prog 39 #[.pointer (some ⟨p, 0, none⟩), opV k a b c] w (fun e w' => e = .panicked lgP ∧ Kt No w w') := by
  have hh := h.1
  have hp := h.lt
  obtain ⟨A, n, c', rfl, hn, hnc, hc, hat⟩ := h.2.2.form (by decide)
  obtain rfl : n = 4000 := by have := flat_length opE_len L; omega
  have c0 : w.cell? ⟨p, 0, none⟩ = some (.slice A 4000 c') := by rw [cell_of_row _ _ _ _ _ _ hh]; rfl
  clear hh hat hn
  go_enter Tryz.func39, Tryz.ntmps39
  go_wp2
  exact ⟨rfl, rfl, Kt.alloc _ _⟩

set_option maxHeartbeats 2000000 in
theorem result_pan (w : World) (B p : Nat) (lo tg v : Value) (L : List Op4) (nx : Int) (k a b c : Int) (h : Wr w B p lo tg v L nx) (h0 : 0 ≤ nx) (h1 : nx ≤ 100000) (hl : L.length = 4000) :
    Calls Tryz.prog 63 #[.pointer (some ⟨p, 0, none⟩), opV k a b c] w (fun e w' => e = .panicked lgP ∧ Kt (fun k => k = p ∨ v.ownBlock = some k) w w') := by
  have hp := h.lt
  have hv := fun k hk => (h.own k hk).2
  have hz := h.keep (Kt.alloc w (.cells (opE ⟨k, a, b, c⟩).toArray 35))
  have hb0 : (w.alloc (.cells (opE ⟨k, a, b, c⟩).toArray 35)).heap[w.heap.size]? = some (.cells (opE ⟨k, a, b, c⟩).toArray 35 (0, 0)) := heap_alloc_new _ _
  have hs0 : (w.alloc (.cells (opE ⟨k, a, b, c⟩).toArray 35)).heap.size = w.heap.size + 1 := by simp
  have hF0 : Fr p v w v (w.alloc (.cells (opE ⟨k, a, b, c⟩).toArray 35)) := Fr.of (Kt.alloc _ _)
  clear h
  go_enter Tryz.func63, Tryz.ntmps63
  go_wp2_with fail
  refine (freshW_fr _ B p lo tg v L nx hz h0 h1).mono ?_
  rintro e w1 ⟨rfl, hW1, hF1⟩
  have hb1 : w1.heap[w.heap.size]? = some (.cells (opE ⟨k, a, b, c⟩).toArray 35 (0, 0)) := (hF1.block (by omega) (by omega) (own_lt_ne hv)).trans hb0
  have hF1 := hF0.trans hF1
  have c0 : w1.cell? ⟨w.heap.size, 0, none⟩ = some (.int .i64 k) := by rw [cell_of_row _ _ _ _ _ _ hb1]; rfl
  have c1 : w1.cell? ⟨w.heap.size, 1, none⟩ = some (.int .i64 a) := by rw [cell_of_row _ _ _ _ _ _ hb1]; rfl
  have c2 : w1.cell? ⟨w.heap.size, 2, none⟩ = some (.int .i64 b) := by rw [cell_of_row _ _ _ _ _ _ hb1]; rfl
  have c3 : w1.cell? ⟨w.heap.size, 3, none⟩ = some (.int .i64 c) := by rw [cell_of_row _ _ _ _ _ _ hb1]; rfl
  have c4 : w1.cell? ⟨w.heap.size, 4, none⟩ = some (.slice none 0 0) := by rw [cell_of_row _ _ _ _ _ _ hb1]; rfl
  have c5 : w1.cell? ⟨w.heap.size, 5, none⟩ = some (.string (ByteArray.mk #[])) := by rw [cell_of_row _ _ _ _ _ _ hb1]; rfl
  have f1 : w1.frozen? ⟨w.heap.size, 1, none⟩ = false := by simp [World.frozen?, hb1]
  have HF := hid hF1
  have HW := hid hW1
  clear hb1 hF1 hW1 hz hb0 hs0 hF0
  go_wp2_with fail
  have hK2 := Kt.setCell w1 ⟨w.heap.size, 1, none⟩ (.int .i64 nx)
  have hW2 := HW.out.keepN hK2 (by show w.heap.size ≠ p; omega) (own_lt_ne hv)
  refine (addW_pan _ B p lo tg v L (nx + 1) k nx b c hW2 hl).mono ?_
  rintro e w3 ⟨rfl, hK3⟩
  have hF := ((HF.out.new hK2 (Nat.le_refl _)).no hK3).1
  clear c0 c1 c2 c3 c4 c5 f1 HF HW hW2 hK2 hK3
  exact ⟨rfl, rfl, hF⟩
end Go.Proofs.YtpbbnkpplcnaoaaGreatDoor
