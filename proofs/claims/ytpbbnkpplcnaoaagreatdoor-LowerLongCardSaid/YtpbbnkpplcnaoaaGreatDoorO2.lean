/- LowerLong: a new register; a result. -/
import Derived.Test.YtpbbnkpplcnaoaaGreatDoorO1
set_option linter.unusedVariables false
set_option linter.unusedSimpArgs false
namespace Go.Proofs.YtpbbnkpplcnaoaaGreatDoor
open Go.RowKit

theorem Kt.grownBy_ {w w' : World} {b : Nat} (h : Kt (fun k => k = b) w w') : w.grownBy w' (some b) :=
  ⟨h.os, h.tape, h.output, h.size, fun k hk hn => h.block k hk (fun e => hn (by rw [e]))⟩

set_option maxHeartbeats 2000000 in
theorem freshW_fr (w : World) (B p : Nat) (lo tg v : Value) (L : List Op4) (nx : Int) (h : Wr w B p lo tg v L nx) (h0 : 0 ≤ nx) (h1 : nx ≤ 100000) :
    Calls Tryz.prog 92 #[.pointer (some ⟨p, 0, none⟩)] w (fun e w' => e = .returned (.int .i64 nx) ∧ Wr w' B p lo tg v L (nx + 1) ∧ Fr p v w v w') := by
  have hh := h.1
  have c1 : w.cell? ⟨p, 1, none⟩ = some (.int .i64 nx) := by rw [cell_of_row _ _ _ _ _ _ hh]; rfl
  have f1 : w.frozen? ⟨p, 1, none⟩ = false := by simp [World.frozen?, hh]
  have g1 : IntKind.i64.wrap (nx + 1) = nx + 1 := IntWalk.i64_in _ (by omega)
  have g2 : IntKind.i64.wrap (nx + 1 - 1) = nx := by rw [IntWalk.i64_in _ (by omega)]; omega
  have H := hid h
  clear hh h
  go_enter Tryz.func92, Tryz.ntmps92
  go_wp2
  go_returns
  have h := H.out
  have hK := Kt.setCell w ⟨p, 1, none⟩ (.int .i64 (nx + 1))
  have hrow : (w.setCell ⟨p, 1, none⟩ (.int .i64 (nx + 1))).heap[p]? = some (.cells #[v, .int .i64 (nx + 1), lo, tg] 47 (0, 0)) := by
    simp only [World.setCell, Array.getElem?_modify, h.1, if_true]; rfl
  refine ⟨rfl, ⟨hrow, h.2.1, ?_⟩, hK.mono fun k hk => .inl hk, fun k hk => .inl hk⟩
  refine h.2.2.kept hK.grownBy_ (.inr ?_)
  exact h.no

set_option maxHeartbeats 2000000 in
theorem freshS_fr (w : World) (B p : Nat) (vs rs ns gs ts v : Value) (L : List Op4) (nx : Int) (h : St14 w B p vs rs ns gs ts v L nx) (h0 : 0 ≤ nx) (h1 : nx ≤ 100000) :
    Calls Tryz.prog 49 #[.pointer (some ⟨p, 0, none⟩)] w (fun e w' => e = .returned (.int .i64 nx) ∧ St14 w' B p vs rs ns gs ts v L (nx + 1) ∧ Fr p v w v w') := by
  have hh := h.1
  have c1 : w.cell? ⟨p, 1, none⟩ = some (.int .i64 nx) := by rw [cell_of_row _ _ _ _ _ _ hh]; rfl
  have f1 : w.frozen? ⟨p, 1, none⟩ = false := by simp [World.frozen?, hh]
  have g1 : IntKind.i64.wrap (nx + 1) = nx + 1 := IntWalk.i64_in _ (by omega)
  have g2 : IntKind.i64.wrap (nx + 1 - 1) = nx := by rw [IntWalk.i64_in _ (by omega)]; omega
  have H := hid h
  clear hh h
  go_enter Tryz.func49, Tryz.ntmps49
  go_wp2
  go_returns
  have h := H.out
  have hK := Kt.setCell w ⟨p, 1, none⟩ (.int .i64 (nx + 1))
  have hrow : (w.setCell ⟨p, 1, none⟩ (.int .i64 (nx + 1))).heap[p]? = some (.cells #[v, .int .i64 (nx + 1), vs, rs, ns, gs, ts] 70 (0, 0)) := by
    simp only [World.setCell, Array.getElem?_modify, h.1, if_true]; rfl
  refine ⟨rfl, ⟨hrow, h.2.1, ?_⟩, hK.mono fun k hk => .inl hk, fun k hk => .inl hk⟩
  refine h.2.2.kept hK.grownBy_ (.inr ?_)
  exact h.no

section
variable {w w' : World} {B p N : Nat} {lo tg vs rs ns gs ts v v' : Value} {L : List Op4} {nx : Int}
theorem Wr.keepN (h : Wr w B p lo tg v L nx) (k : Kt (fun j => j = N) w w') (h1 : N ≠ p) (h2 : v.ownBlock ≠ some N) : Wr w' B p lo tg v L nx :=
  ⟨(k.block p h.lt (fun h => h1 h.symm)).trans h.1, h.2.1, h.2.2.kept k.grownBy_ (.inr h2)⟩
theorem St14.keepN (h : St14 w B p vs rs ns gs ts v L nx) (k : Kt (fun j => j = N) w w') (h1 : N ≠ p) (h2 : v.ownBlock ≠ some N) : St14 w' B p vs rs ns gs ts v L nx :=
  ⟨(k.block p h.lt (fun h => h1 h.symm)).trans h.1, h.2.1, h.2.2.kept k.grownBy_ (.inr h2)⟩
theorem Fr.new {w1 w2 : World} (h : Fr p v w v' w1) (k : Kt (fun j => j = N) w1 w2) (hN : w.heap.size ≤ N) : Fr p v w v' w2 :=
  ⟨h.1.step k (fun j hj => .inr (by subst hj; exact hN)), h.2⟩
theorem Fr.no {w1 w2 : World} (h : Fr p v w v' w1) (k : Kt No w1 w2) : Fr p v w v' w2 := ⟨h.1.step k (fun j hj => hj.elim), h.2⟩
/-- a block that the step keeps -/
theorem Fr.block (h : Fr p v w v' w') {b : Nat} (h1 : b < w.heap.size) (h2 : b ≠ p) (h3 : v.ownBlock ≠ some b) : w'.heap[b]? = w.heap[b]? := h.1.block b h1 (fun e => e.elim h2 h3)
theorem Fr.size (h : Fr p v w v' w') : w.heap.size ≤ w'.heap.size := h.1.size
end
theorem own_lt_ne {v : Value} {n : Nat} (h : ∀ k, v.ownBlock = some k → k < n) : v.ownBlock ≠ some n := fun e => by have := h n e; omega

set_option maxHeartbeats 2000000 in
theorem result_fr (w : World) (B p : Nat) (lo tg v : Value) (L : List Op4) (nx : Int) (k a b c : Int) (h : Wr w B p lo tg v L nx) (h0 : 0 ≤ nx) (h1 : nx ≤ 100000) (hl : L.length < 4000) :
    Calls Tryz.prog 63 #[.pointer (some ⟨p, 0, none⟩), opV k a b c] w (fun e w' => e = .returned (.int .i64 nx) ∧ ∃ v', Wr w' B p lo tg v' (L ++ [⟨k, nx, b, c⟩]) (nx + 1) ∧ Fr p v w v' w') := by
  have hp := h.lt
  have hv := fun k hk => (h.own k hk).2
  have hz := h.keep (Kt.alloc w (.cells (opE ⟨k, a, b, c⟩).toArray 35))
  have hb0 : (w.alloc (.cells (opE ⟨k, a, b, c⟩).toArray 35)).heap[w.heap.size]? = some (.cells (opE ⟨k, a, b, c⟩).toArray 35 (0, 0)) := heap_alloc_new _ _
  have hs0 : (w.alloc (.cells (opE ⟨k, a, b, c⟩).toArray 35)).heap.size = w.heap.size + 1 := by simp
  have hF0 : Fr p v w v (w.alloc (.cells (opE ⟨k, a, b, c⟩).toArray 35)) := Fr.of (Kt.alloc _ _)
  have H := hid h
  clear h
  go_enter Tryz.func63, Tryz.ntmps63
  go_wp2_with fail
  refine (freshW_fr _ B p lo tg v L nx hz h0 h1).mono ?_
  rintro e w1 ⟨rfl, hW1, hF1⟩
  have hb1 : w1.heap[w.heap.size]? = some (.cells (opE ⟨k, a, b, c⟩).toArray 35 (0, 0)) := (hF1.block (by omega) (by omega) (own_lt_ne hv)).trans hb0
  have hF1 := hF0.trans hF1
  have c0 : w1.cell? ⟨w.heap.size, 0, none⟩ = some (.int .i64 k) := by rw [cell_of_row _ _ _ _ _ _ hb1]; rfl
  have c1 : w1.cell? ⟨w.heap.size, 1, none⟩ = some (.int .i64 a) := by rw [cell_of_row _ _ _ _ _ _ hb1]; rfl
  have c2 : w1.cell? ⟨w.heap.size, 2, none⟩ = some (.int .i64 b) := by rw [cell_of_row _ _ _ _ _ _ hb1]; rfl
  have c3 : w1.cell? ⟨w.heap.size, 3, none⟩ = some (.int .i64 c) := by rw [cell_of_row _ _ _ _ _ _ hb1]; rfl
  have c4 : w1.cell? ⟨w.heap.size, 4, none⟩ = some (.slice none 0 0) := by rw [cell_of_row _ _ _ _ _ _ hb1]; rfl
  have c5 : w1.cell? ⟨w.heap.size, 5, none⟩ = some (.string (ByteArray.mk #[])) := by rw [cell_of_row _ _ _ _ _ _ hb1]; rfl
  have f1 : w1.frozen? ⟨w.heap.size, 1, none⟩ = false := by simp [World.frozen?, hb1]
  have HH := hid hb1
  have HF := hid hF1
  have HW := hid hW1
  clear hb1 hF1 hW1 hz hb0 hs0 hF0
  go_wp2_with fail
  have hK2 := Kt.setCell w1 ⟨w.heap.size, 1, none⟩ (.int .i64 nx)
  have hW2 := HW.out.keepN hK2 (by show w.heap.size ≠ p; omega) (own_lt_ne hv)
  refine (addW_fr _ B p lo tg v L (nx + 1) k nx b c hW2 hl).mono ?_
  rintro e w3 ⟨rfl, v', hW3, hF3⟩
  have hb2 : (w1.setCell ⟨w.heap.size, 1, none⟩ (.int .i64 nx)).heap[w.heap.size]? = some (.cells #[.int .i64 k, .int .i64 nx, .int .i64 b, .int .i64 c, .slice none 0 0, .string (ByteArray.mk #[])] 35 (0, 0)) := by
    simp only [World.setCell, Array.getElem?_modify, HH.out, if_true]; rfl
  have hb3 := (hF3.block (Array.getElem?_eq_some_iff.1 hb2).1 (by omega) (own_lt_ne hv)).trans hb2
  have d1 : w3.cell? ⟨w.heap.size, 1, none⟩ = some (.int .i64 nx) := by rw [cell_of_row _ _ _ _ _ _ hb3]; rfl
  have hF := (HF.out.new hK2 (Nat.le_refl _)).trans hF3
  clear hb2 hb3 hF3 c0 c1 c2 c3 c4 c5 f1 HH HF hW2 hK2
  go_wp2
  go_returns
  exact ⟨rfl, v', hW3, hF⟩
end Go.Proofs.YtpbbnkpplcnaoaaGreatDoor
