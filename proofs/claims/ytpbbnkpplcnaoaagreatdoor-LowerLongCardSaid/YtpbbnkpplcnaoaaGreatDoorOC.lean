/- LowerLong: bodies. -/
import Derived.Test.YtpbbnkpplcnaoaaGreatDoorOB
import Derived.Maps.Own
set_option linter.unusedVariables false
set_option linter.unusedSimpArgs false
namespace Go.Proofs.YtpbbnkpplcnaoaaGreatDoor
open Go.RowKit

set_option maxRecDepth 100000 in
set_option maxHeartbeats 4000000 in
theorem pars_none (w : World) (bt : Nat) (hl : bt < w.heap.size) (h1 : TrAt w bt (1 * 4) 12 ⟨#[]⟩ none 0 0) :
    Calls Tryz.prog 13 #[trV 4 ⟨#[]⟩ (some ⟨bt, 0, none⟩) 4 4] w (fun e w' => e = .returned (.slice none 0 0) ∧ Kt No w w') := by
  have hk0 := Kt.alloc w (.cells (trC 4 ⟨#[]⟩ (some ⟨bt, 0, none⟩) 4 4) 25)
  have hs0 : (w.alloc (.cells (trC 4 ⟨#[]⟩ (some ⟨bt, 0, none⟩) 4 4) 25)).heap.size = w.heap.size + 1 := by simp
  have hfl : ∀ (k : Int) (s : ByteArray) (A : Option Addr) (n c : Nat) (w : World), (Instr.field 25 (trV k s A n c) 3).run Tryz.prog w = .ok (.slice A n c) w := fun _ _ _ _ _ _ => by kernel_rfl
  go_enter Tryz.func13, Tryz.ntmps13
  go_wp2_with fail
  refine (kid_at _ 4 ⟨#[]⟩ bt 4 4 1 12 ⟨#[]⟩ _ 0 0 (by omega) (by omega) (h1.keep fun q hq => hk0.cell (by omega) (fun h => h)) (by rw [hs0]; omega)).mono ?_
  rintro e w1 ⟨rfl, hK1⟩
  have hK := hk0.trans hK1
  clear hk0 hs0 hK1 h1
  go_wp2_with fail
  refine wp_loop_rounds 1 ?_
  rw [rounds_succ]
  go_wp2
  go_returns
  exact ⟨rfl, hK⟩

set_option maxRecDepth 100000 in
set_option maxHeartbeats 4000000 in
theorem body_ok (w : World) (bt : Nat) (hl : bt < w.heap.size) (k : Int) (s : ByteArray) (A : Option Addr) (m d : Nat) (h1 : TrAt w bt (3 * 4) k s A m d) :
    Calls Tryz.prog 20 #[trV 4 ⟨#[]⟩ (some ⟨bt, 0, none⟩) 4 4] w (fun e w' => e = .returned (.tuple #[trV k s A m d, .bool true]) ∧ Kt No w w') := by
  obtain ⟨a0, a1, a2, a3⟩ := h1
  go_enter Tryz.func20, Tryz.ntmps20
  go_wp2
  go_returns
  exact ⟨rfl, (Kt.alloc _ _).trans (Kt.alloc _ _)⟩
set_option maxRecDepth 100000 in
set_option maxHeartbeats 4000000 in
theorem last_ok (w : World) (bt : Nat) (hl : bt < w.heap.size) (k : Int) (s : ByteArray) (A : Option Addr) (m d : Nat) (h1 : TrAt w bt (3 * 4) k s A m d) :
    Calls Tryz.prog 27 #[trV 4 ⟨#[]⟩ (some ⟨bt, 0, none⟩) 4 4] w (fun e w' => e = .returned (.tuple #[trV k s A m d, .bool true]) ∧ Kt No w w') := by
  obtain ⟨a0, a1, a2, a3⟩ := h1
  go_enter Tryz.func27, Tryz.ntmps27
  go_wp2
  go_returns
  exact ⟨rfl, (Kt.alloc _ _).trans (Kt.alloc _ _)⟩
end Go.Proofs.YtpbbnkpplcnaoaaGreatDoor
