/- LowerLong: the deferred call that catches the panic. -/
import Derived.Test.YtpbbnkpplcnaoaaGreatDoorO8
import Derived.Defers
import Derived.Recover
import Derived.Laws.Pointers
set_option linter.unusedVariables false
set_option linter.unusedSimpArgs false
namespace Go.Proofs.YtpbbnkpplcnaoaaGreatDoor
open Go.RowKit

set_option maxRecDepth 100000 in
set_option maxHeartbeats 4000000 in
theorem catch_idle (q : Addr) (w : World) :
    CallsD Tryz.prog 38 #[.pointer (some q)] .returning w fun e u' w' => e = .returned (.tuple #[]) ∧ u' = .returning ∧ w' = w := by
  refine callsD_of_wpS Tryz.func38 rfl fun c₀ cs hu => ?_
  apply wpS_seq
  apply wpS_region
  simp [wpOpsS, go_sem, recoverD, hu, Tryz.ntmps38, Exit.thenS]
  apply wpS_seq
  apply wpS_region
  simp [wpOpsS, go_sem, recoverD, hu, Tryz.ntmps38, Exit.thenS]
  refine wpS_cond (t := false) (by simp [Act.eval, Array.replicate]) ?_
  simp only [Bool.false_eq_true, if_false]
  refine wpS_of_wp (wp_skip ?_)
  cases c₀
  simp_all [bodyPostS, results, Tryz.results38]

/-- what the closure leaves -/
def QC (b : Nat) (w : World) (e : Exit) (a : Act) (w' : World) : Prop := e = .normal ∧ a.defers = [] ∧ Kt (fun k => k = b) w w' ∧ w'.cell? ⟨b, 0, none⟩ = some (.bool false)
set_option maxRecDepth 100000 in
set_option maxHeartbeats 4000000 in
theorem catch_pan (b : Nat) (x : Bool) (w : World) (hc : w.cell? ⟨b, 0, none⟩ = some (.bool x)) (hz : w.frozen? ⟨b, 0, none⟩ = false) :
    CallsD Tryz.prog 38 #[.pointer (some ⟨b, 0, none⟩)] (.panicking ({ v := .iface 84 (.agg #[]), recovered := false } :: [])) w fun e u' w' => e = .returned (.tuple #[]) ∧ u' = .panicking ({ v := .iface 84 (.agg #[]), recovered := true } :: []) ∧ Kt (fun k => k = b) w w' ∧ w'.cell? ⟨b, 0, none⟩ = some (.bool false) := by
  refine callsD_of_wpS Tryz.func38 rfl fun c₀ cs hu => ?_
  apply wpS_seq
  apply wpS_region
  simp [wpOpsS, go_sem, recoverD, hu, Tryz.ntmps38, Exit.thenS]
  apply wpS_seq
  apply wpS_region
  simp [wpOpsS, go_sem, recoverD, hu, Tryz.ntmps38, Exit.thenS]
  refine wpS_cond (t := true) (by simp [Act.eval, Array.replicate]) ?_
  simp only [if_true]
  refine wpS_of_wp ?_
  have ht : (#[Value.pointer (some { block := b, off := 0 })] ++ ((((Array.replicate 14 undef).setIfInBounds 3 (Value.iface 84 (Value.agg #[]))).setIfInBounds 0 (Value.iface 84 (Value.agg #[]))).setIfInBounds 4 (Value.iface 84 (Value.agg #[]))).setIfInBounds 5 (Value.bool true)) =
      #[.pointer (some ⟨b, 0, none⟩), .iface 84 (.agg #[]), undef, undef, .iface 84 (.agg #[]), .iface 84 (.agg #[]), .bool true, undef, undef, undef, undef, undef, undef, undef, undef] := rfl
  rw [ht]
  refine Code.wp_mono (Q := QC b w) (fun e a' w' h => ?_) ?_
  · obtain ⟨rfl, hd, hK, hcell⟩ := h
    cases c₀
    simp_all [bodyPostS, results, Tryz.results38]
  have hta : ∀ w, (Instr.typeAssert (.iface 84 (.agg #[])) 20 84 true).run Tryz.prog w = .ok (.tuple #[.agg #[], .bool true]) w := fun w => by kernel_rfl
  have hlt : b < w.heap.size := World.block_lt_of_cell? _ _ hc
  go_wp2
  have hk := Kt.setCell w ⟨b, 0, none⟩ (.bool false)
  refine ⟨rfl, rfl, Kt.trans (T := fun k => k = b) hk (Kt.alloc _ _).no, ?_⟩
  simp [go_sem, hc, hlt]
end Go.Proofs.YtpbbnkpplcnaoaaGreatDoor
