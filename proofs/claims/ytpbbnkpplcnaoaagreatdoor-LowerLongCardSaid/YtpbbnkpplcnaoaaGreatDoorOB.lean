/- LowerLong: the parameters of a function; its body. -/
import Derived.Test.YtpbbnkpplcnaoaaGreatDoorOA
set_option linter.unusedVariables false
set_option linter.unusedSimpArgs false
namespace Go.Proofs.YtpbbnkpplcnaoaaGreatDoor
open Go.RowKit

theorem el36 : elI Tryz.prog 36 = some (9, 1, 16) := by kernel_rfl
theorem at_one (w : World) (x : Value) (t : TypeId) (N : Nat) (hN : N = w.heap.size) : At (w.alloc (.cells #[x] t)) (some ⟨N, 0, none⟩) [x] := by
  subst hN
  refine .inr ⟨_, 0, rfl, fun j u hu => ?_⟩
  rw [Nat.zero_add, cell_of_row _ _ _ _ _ _ (heap_alloc_new w _)]
  simpa using hu
/-- "x@0", "y@1" -/
abbrev sx : ByteArray := ⟨#[120, 64, 48]⟩
abbrev sy : ByteArray := ⟨#[121, 64, 49]⟩

set_option maxRecDepth 100000 in
set_option maxHeartbeats 4000000 in
theorem pars_two (w : World) (bt ba : Nat) (hl : bt < w.heap.size) (hl2 : ba < w.heap.size) (h1 : TrAt w bt (1 * 4) 12 ⟨#[]⟩ (some ⟨ba, 0, none⟩) 2 2) (h2 : TrAt w ba 0 13 sx none 0 0) (h3 : TrAt w ba 4 13 sy none 0 0) :
    Calls Tryz.prog 13 #[trV 4 ⟨#[]⟩ (some ⟨bt, 0, none⟩) 4 4] w (fun e w' => ∃ b off c, e = .returned (.slice (some ⟨b, off, none⟩) 2 c) ∧ b < w'.heap.size ∧ w.heap.size ≤ b ∧ w'.cell? ⟨b, off, none⟩ = some (.string sx) ∧ w'.cell? ⟨b, off + 1, none⟩ = some (.string sy) ∧ Kt No w w') := by
  have hk0 := Kt.alloc w (.cells (trC 4 ⟨#[]⟩ (some ⟨bt, 0, none⟩) 4 4) 25)
  have hb0 := heap_alloc_new w (.cells (trC 4 ⟨#[]⟩ (some ⟨bt, 0, none⟩) 4 4) 25)
  have hs0 : (w.alloc (.cells (trC 4 ⟨#[]⟩ (some ⟨bt, 0, none⟩) 4 4) 25)).heap.size = w.heap.size + 1 := by simp
  have hfl : ∀ (k : Int) (s : ByteArray) (A : Option Addr) (n c : Nat) (w : World), (Instr.field 25 (trV k s A n c) 3).run Tryz.prog w = .ok (.slice A n c) w := fun _ _ _ _ _ _ => by kernel_rfl
  go_enter Tryz.func13, Tryz.ntmps13
  go_wp2_with fail
  refine (kid_at _ 4 ⟨#[]⟩ bt 4 4 1 12 ⟨#[]⟩ _ 2 2 (by omega) (by omega) (h1.keep fun q hq => hk0.cell (by omega) (fun h => h)) (by rw [hs0]; omega)).mono ?_
  rintro e w1 ⟨rfl, hK1⟩
  have hK := hk0.trans hK1
  have hs1 := hK1.size
  rw [hs0] at hs1
  obtain ⟨a0, a1, a2, a3⟩ := h2.keep (w' := w1) fun q hq => hK.cell (by omega) (fun h => h)
  obtain ⟨b0, b1, b2, b3⟩ := h3.keep (w' := w1) fun q hq => hK.cell (by omega) (fun h => h)
  have hb1 := (hK1.block w.heap.size (by rw [hs0]; omega) (fun h => h)).trans hb0
  obtain ⟨c0, c1, c2, c3⟩ := trBox (w' := w1) hb1 rfl
  have HK := hid hK
  have hba : ba < w1.heap.size := by omega
  have hN : w.heap.size < w1.heap.size := by omega
  clear hk0 hb0 hs0 hK hK1 hb1 h1 h2 h3
  go_wp2_with fail
  refine wp_loop_rounds 3 ?_
  rw [rounds_succ]
  go_wp2_with (at_builtin; go_loud (refine wpl_append _ rfl _ _ 36 rfl _ 1 16 (elI_el el36) w.heap.size (.slice none 0 0) [] rfl (Own.nil_ _ _ _ _) (some ⟨_, 0, none⟩) 1 1 [.string sx] rfl rfl (at_one _ _ _ _ (by simp)) (by intro u hu; rw [List.mem_singleton] at hu; subst hu; rfl) (by show 0 + 1 ≤ maxLen; unfold maxLen; omega) (by show (0 + 1) * 16 ≤ _; omega) (by simp only [World.size_alloc]; omega) ?_; intro v1 w2 hown1 hg1 hat1))
  have hg := hid hg1
  have hB2 : w1.heap.size + 2 ≤ w2.heap.size := by have := hg1.size; simp at this; omega
  have keep : ∀ k, k < w1.heap.size → w2.heap[k]? = w1.heap[k]? := fun k hk => (hg.out.block k (by simp; omega) (fun e => by cases e)).trans ((Below.heap_alloc _ _ k (by simp; omega)).trans (Below.heap_alloc _ _ k hk))
  have cellk : ∀ q : Addr, q.block < w1.heap.size → w2.cell? q = w1.cell? q := fun q hq => World.cell?_of_block (keep _ hq)
  replace b0 := (cellk ⟨ba, 4, none⟩ hba).trans b0
  replace b1 := (cellk ⟨ba, 4 + 1, none⟩ hba).trans b1
  replace b2 := (cellk ⟨ba, 4 + 2, none⟩ hba).trans b2
  replace b3 := (cellk ⟨ba, 4 + 3, none⟩ hba).trans b3
  replace c0 := (cellk ⟨w.heap.size, 0, none⟩ hN).trans c0
  have hK2 : Kt No w1 w2 := ⟨hg.out.os, hg.out.tape, hg.out.output, by omega, fun k hk _ => keep k hk⟩
  have HK2 := hid (HK.out.trans hK2)
  have hba2 : ba < w2.heap.size := by omega
  have hN2 : w.heap.size < w2.heap.size := by omega
  have Hown1 := hid hown1
  clear keep cellk hg1 hat1 hg hK2 HK a0 a1 a2 a3 c1 c2 c3 hown1
  rw [rounds_succ]
  go_wp2_with (at_builtin; refine wpl_append _ rfl _ _ 36 rfl _ 1 16 (elI_el el36) w.heap.size v1 [.string sx] rfl ((Hown1.out.alloc _).alloc _) (some ⟨_, 0, none⟩) 1 1 [.string sy] rfl rfl (at_one _ _ _ _ (by simp)) (by intro u hu; rw [List.mem_singleton] at hu; subst hu; rfl) (by show 1 + 1 ≤ maxLen; unfold maxLen; omega) (by show (1 + 1) * 16 ≤ _; omega) (by simp only [World.size_alloc]; omega) ?_; intro v2 w3 hown2 hg2 hat2)
  have hK3 : Kt (fun k => v1.ownBlock = some k) w2 w3 := by
    refine ⟨hg2.os, hg2.tape, hg2.output, by have := hg2.size; simp at this; omega, fun k hk hn => ?_⟩
    exact (hg2.block k (by simp; omega) (fun e => hn e.symm)).trans ((Below.heap_alloc _ _ k (by simp; omega)).trans (Below.heap_alloc _ _ k hk))
  have HK3 := hid (HK2.out.step hK3 (fun k hk => .inr (Hown1.out.blk k hk).1))
  have Hown2 := hid hown2
  clear hK3 HK2 Hown1 hg2 hat2 hown2 b0 b1 b2 b3 c0
  rw [rounds_succ]
  go_wp2
  go_returns
  rcases Hown2.out with ⟨_, h⟩ | ⟨g, off, n, cap, cs, rfl, hx, hb, hr, hn, hc, hsz, hcs⟩
  · cases h
  · have hn2 : n = 2 := by simp at hx; omega
    subst hn2
    exact ⟨g, off, cap, rfl, hr.lt, hb, by rw [hr.cell]; exact hcs 0 _ rfl, by rw [hr.cell]; exact hcs 1 _ rfl, HK3.out⟩
end Go.Proofs.YtpbbnkpplcnaoaaGreatDoor
