/- LowerLong: the code of a value, or that it would be too large. -/
import Derived.Test.YtpbbnkpplcnaoaaGreatDoorO9
set_option linter.unusedVariables false
set_option linter.unusedSimpArgs false
namespace Go.Proofs.YtpbbnkpplcnaoaaGreatDoor
open Go.RowKit

/-- what the value of a tree does: its operations are M (then the panic, if there are too many), its register r -/
def OutV (B p : Nat) (lo tg v : Value) (M : List Op4) (r nx2 : Int) (w : World) (e : Ending) (w' : World) : Prop :=
  (M.length ≤ 4000 ∧ e = .returned (.int .i64 r) ∧ ∃ v', Wr w' B p lo tg v' M nx2 ∧ Fr p v w v' w') ∨
  (4000 < M.length ∧ e = .panicked lgP ∧ Kt (fun k => k = p ∨ v.ownBlock = some k) w w')

set_option maxRecDepth 100000 in
set_option maxHeartbeats 8000000 in
theorem code_any (w : World) (B p : Nat) (lo tg v : Value) (L M : List Op4) (nx r nx2 : Int) (k : Int) (s : ByteArray) (A : Option Addr) (m d : Nat) (h : Wr w B p lo tg v L nx)
    (HV : ∀ w1, Kt No w w1 → Calls Tryz.prog 40 #[.pointer (some ⟨p, 0, none⟩), trV k s A m d] w1 (OutV B p lo tg v M r nx2 w1)) :
    Calls Tryz.prog 21 #[.pointer (some ⟨p, 0, none⟩), trV k s A m d] w (fun e w' =>
      (M.length + 1 ≤ 4000 ∧ e = .returned (.bool true) ∧ ∃ v', Wr w' B p lo tg v' (M ++ [⟨18, 0, r, 0⟩]) nx2 ∧ Fr p v w v' w') ∨
      (4000 < M.length + 1 ∧ e = .returned (.bool false) ∧ Kt (fun k => k = p ∨ v.ownBlock = some k) w w')) := by
  have hmf : ∀ (fn : Fn) (first cap : Array Value) (w : World), (Instr.makeFunc fn first cap).run Tryz.prog w = .ok (.func fn first cap) w := fun _ _ _ _ => rfl
  have hp := h.lt
  have hv := fun k hk => (h.own k hk).2
  have hk0 : Kt No w ((w.alloc (.cells (trC k s A m d) 25)).alloc (.cells #[.bool false] 4)) := (Kt.alloc _ _).trans (Kt.alloc _ _)
  have hb0 : ((w.alloc (.cells (trC k s A m d) 25)).alloc (.cells #[.bool false] 4)).heap[w.heap.size + 1]? = some (.cells #[.bool false] 4 (0, 0)) := heap_alloc2_new _ _ _
  have hs0 : ((w.alloc (.cells (trC k s A m d) 25)).alloc (.cells #[.bool false] 4)).heap.size = w.heap.size + 2 := by simp
  have HVi := HV _ hk0
  clear HV
  go_enter_defers Tryz.func21, Tryz.ntmps21
  go_wp2_with fail
  refine HVi.mono ?_
  rintro e w1 (⟨hm, rfl, v1, hW1, hF1⟩ | ⟨hm, rfl, hK1⟩)
  · have hb1 := (hF1.block (b := w.heap.size + 1) (by omega) (by omega) (fun e => by have := hv _ e; omega)).trans hb0
    have hF := hid ((Fr.of (p := p) (v := v) hk0).trans hF1)
    have hlt1 : w.heap.size + 1 < w1.heap.size := (Array.getElem?_eq_some_iff.1 hb1).1
    have HW := hid hW1
    have hv1 : v1.ownBlock ≠ some (w.heap.size + 1) := fun e => by
      rcases (hF.out.2 _ e) with h1 | h1
      · have := hv _ h1; omega
      · exact own_no hW1.2.2 hb1 (by decide) e
    clear hk0 hb0 hs0 hF1 hW1 HVi
    have Hb1 := hid hb1
    clear hb1
    go_wp2_with fail
    by_cases hc : M.length + 1 ≤ 4000
    case neg =>
      refine (addW_pan _ B p lo tg v1 M nx2 18 0 r 0 HW.out (by omega)).mono ?_
      rintro e w2 ⟨rfl, hK2⟩
      have hb2 := (hK2.block _ hlt1 (fun h => h)).trans Hb1.out
      have c0 : w2.cell? ⟨w.heap.size + 1, 0, none⟩ = some (.bool false) := by rw [cell_of_row _ _ _ _ _ _ hb2]; rfl
      have f0 : w2.frozen? ⟨w.heap.size + 1, 0, none⟩ = false := by simp [World.frozen?, hb2]
      refine leaves_cons (f := 38) (args := #[.pointer (some ⟨w.heap.size + 1, 0, none⟩)]) (by simp) (by simp [go_sem]) ?_
      refine (catch_pan _ _ _ c0 f0).mono ?_
      rintro e u' w3 ⟨rfl, rfl, hK3, c3⟩
      have hK := (hF.out.no hK2).1.step hK3 (fun j hj => .inr (by omega))
      simp [Leaves, settle, results, Tryz.results21, go_sem, c3]
      exact ⟨by omega, hK⟩
    case pos =>
    refine (addW_fr _ B p lo tg v1 M nx2 18 0 r 0 HW.out (by omega)).mono ?_
    rintro e w2 ⟨rfl, v2, hW2, hF2⟩
    have hb2 := (hF2.block hlt1 (by omega) hv1).trans Hb1.out
    have c0 : w2.cell? ⟨w.heap.size + 1, 0, none⟩ = some (.bool false) := by rw [cell_of_row _ _ _ _ _ _ hb2]; rfl
    have f0 : w2.frozen? ⟨w.heap.size + 1, 0, none⟩ = false := by simp [World.frozen?, hb2]
    have HF2 := hid (hF.out.trans hF2)
    have HW2 := hid hW2
    have hv2 := hid (own_no hW2.2.2 hb2 (by decide))
    clear hF2 hW2 Hb1 hb2
    go_wp2
    refine leaves_cons (f := 38) (args := #[.pointer (some ⟨w.heap.size + 1, 0, none⟩)]) (by simp) (by simp [go_sem]) ?_
    refine (catch_idle _ _).mono ?_
    rintro e u' w3 ⟨rfl, rfl, rfl⟩
    have hK3 := Kt.setCell w2 ⟨w.heap.size + 1, 0, none⟩ (.bool true)
    simp [Leaves, settle, results, Tryz.results21, go_sem, c0]
    exact ⟨by omega, v2, HW2.out.keepN hK3 (by show w.heap.size + 1 ≠ p; omega) hv2.out, HF2.out.new hK3 (by show w.heap.size ≤ w.heap.size + 1; omega)⟩
  · have hb1 := (hK1.block (w.heap.size + 1) (by omega) (fun e => by rcases e with e | e; omega; have := hv _ e; omega)).trans hb0
    have c0 : w1.cell? ⟨w.heap.size + 1, 0, none⟩ = some (.bool false) := by rw [cell_of_row _ _ _ _ _ _ hb1]; rfl
    have f0 : w1.frozen? ⟨w.heap.size + 1, 0, none⟩ = false := by simp [World.frozen?, hb1]
    refine leaves_cons (f := 38) (args := #[.pointer (some ⟨w.heap.size + 1, 0, none⟩)]) (by simp) (by simp [go_sem]) ?_
    refine (catch_pan _ _ _ c0 f0).mono ?_
    rintro e u' w3 ⟨rfl, rfl, hK3, c3⟩
    have hK := (pan_later (Fr.of (p := p) (v := v) hk0) hK1).step hK3 (fun j hj => .inr (by omega))
    simp [Leaves, settle, results, Tryz.results21, go_sem, c3]
    exact ⟨by omega, hK⟩
end Go.Proofs.YtpbbnkpplcnaoaaGreatDoor
