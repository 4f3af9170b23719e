/- The library: what strings.Builder's methods check first; searching in strings; comparing. -/
import Derived.Test.YtjoilbmkcknnfaaDoorH0
import Derived.Shelf.Strings.Builder1
set_option linter.unusedVariables false
set_option linter.unusedSimpArgs false
namespace Go.Proofs.YtjoilbmkcknnfaaDoor
open Go.RowKit
open Go.Lib hiding intOf

theorem cc_size : (Tryd.prog.info? 81).map (·.size) = some 2 := by kernel_rfl
theorem cc_lies : liesAt Tryd.prog Tryd.prog.depth 81 (2 / Tryd.prog.cellsOf 81) 0 81 1 = true := by kernel_rfl
set_option maxHeartbeats 1000000 in
set_option maxRecDepth 100000 in
theorem cc_used (b : Nat) (w : World) (h0 : w.cell? ⟨b, 0, none⟩ = some (.pointer (some ⟨b, 0, none⟩))) :
    Calls Tryd.prog 94 #[.pointer (some ⟨b, 0, none⟩)] w fun e w' => e = .returned (.tuple #[]) ∧ w' = w := by
  obtain ⟨j, hj, _⟩ := Option.map_eq_some_iff.1 cc_size
  go_enter Tryd.func94, Tryd.ntmps94
  go_wp2
  rw [Lib.run_neq_ptr_same w _ Tryd.underlying79 hj]
  go_wp2
  go_end0
  exact ⟨rfl, rfl⟩
set_option maxHeartbeats 1000000 in
set_option maxRecDepth 100000 in
theorem cc_fresh (b : Nat) (w : World) (h0 : w.cell? ⟨b, 0, none⟩ = some (.pointer none)) (hsh : w.shape? b = some (81, 2)) (hfz : w.frozen? ⟨b, 0, none⟩ = false) :
    Calls Tryd.prog 94 #[.pointer (some ⟨b, 0, none⟩)] w fun e w' => e = .returned (.tuple #[]) ∧ w' = w.setCell ⟨b, 0, none⟩ (.pointer (some ⟨b, 0, none⟩)) := by
  obtain ⟨j, hj, hjs⟩ := Option.map_eq_some_iff.1 cc_size
  go_enter Tryd.func94, Tryd.ntmps94
  go_wp2
  rw [Lib.run_to_unsafe w ⟨b, 0, none⟩ Tryd.underlying79 Tryd.underlying120 hj (by rw [hjs]; decide) hsh (Nat.zero_lt_succ 1)]
  simp only [Result.andThen]
  rw [Oper.upon_value]
  go_wp2
  rw [run_callFunc_extern Tryd.func111 (by kernel_rfl) (by kernel_rfl) (by kernel_rfl) (e := Extern.AbiNoEscape.same) (by kernel_rfl)]
  rw [Lib.run_noEscape]
  simp only [Result.andThen]
  rw [Oper.upon_value]
  go_wp2
  rw [Lib.run_from_unsafe w ⟨b, 0, none⟩ Tryd.underlying120 Tryd.underlying79 hj hsh cc_lies]
  simp only [Result.andThen]
  rw [Oper.upon_value]
  go_wp2
  go_end0
  exact ⟨rfl, rfl⟩
theorem cc_c (W0 : World) (b : Nat) (p v : Value) (hb : W0.heap[b]? = some (.cells #[p, v] 81 (0, 0))) (hp : p = .pointer none ∨ p = .pointer (some ⟨b, 0, none⟩)) :
    Rets Tryd.prog (fun k => k = b) 94 [.pointer (some ⟨b, 0, none⟩)] W0 fun u w' => u = .tuple #[] ∧ w'.heap[b]? = some (.cells #[.pointer (some ⟨b, 0, none⟩), v] 81 (0, 0)) := by
  have h0 : W0.cell? ⟨b, 0, none⟩ = some p := by simp [World.cell?, hb]
  rcases hp with rfl | rfl
  · refine Calls.mono (cc_fresh b W0 h0 (by simp [World.shape?, hb]) (by simp [World.frozen?, hb])) ?_
    rintro e w' ⟨rfl, rfl⟩
    refine ⟨_, rfl, (Kt.setCell W0 ⟨b, 0, none⟩ _).mono fun k h => h, rfl, ?_⟩
    have hlt : b < W0.heap.size := (Array.getElem?_eq_some_iff.1 hb).1
    simp [World.setCell, Array.getElem?_modify, hb]
  · refine Calls.mono (cc_used b W0 h0) ?_
    rintro e w' ⟨rfl, rfl⟩
    exact ⟨_, rfl, Kt.refl _ _, rfl, hb⟩
end Go.Proofs.YtjoilbmkcknnfaaDoor
