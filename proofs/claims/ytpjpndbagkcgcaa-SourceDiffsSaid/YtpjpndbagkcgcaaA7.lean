/- slices.Delete at sources: one module goes. -/
import Derived.Test.YtpjpndbagkcgcaaA6
set_option linter.unusedVariables false
set_option linter.unusedSimpArgs false
namespace Go.Proofs.Ytpjpndbagkcgcaa
open Go.RowKit

def delAt (l : List Src) (i : Nat) : List Src := l.take i ++ l.drop (i + 1)
theorem delAt_flat (l : List Src) (i : Nat) : (delAt l i).flatMap srcE = (l.take i).flatMap srcE ++ (l.drop (i + 1)).flatMap srcE := by simp [delAt]
theorem zeroSrc (w : World) : (zeroValue 39).run Try.prog w = .ok (.agg #[.string ⟨#[]⟩, .string ⟨#[]⟩]) w := by kernel_rfl

set_option maxHeartbeats 4000000 in
set_option maxRecDepth 100000 in
theorem delete_any (l : List Src) (v : Value) (i : Nat) (w : World) (B : Nat) (hown : Own w B 39 2 v (l.flatMap srcE)) (hi : i < l.length) (hl : l.length ≤ 1000000000000) :
    Calls Try.prog 56 #[v, .int .i64 i, .int .i64 ((i : Int) + 1)] w fun e w' =>
      ∃ v', e = .returned v' ∧ Own w' B 39 2 v' ((delAt l i).flatMap srcE) ∧ w.grownBy w' v.ownBlock := by
  rcases hown with ⟨rfl, h0⟩ | ⟨g, off, n, c, cs, rfl, h1, hbg, hg, hnc, hc, hfit, hcs⟩
  · have := srcs_len l
    rw [h0] at this
    simp at this
    omega
  rw [srcs_len] at h1
  obtain rfl : n = l.length := by omega
  have hc' := hc
  unfold maxLen at hc
  have hT := flat_take srcE_len l i (by omega)
  have hD := flat_drop srcE_len l (i + 1) (by omega)
  have hTl : ((l.take i).flatMap srcE).length = i * 2 := by rw [srcs_len, List.length_take, Nat.min_eq_left (by omega)]
  have hDl : ((l.drop (i + 1)).flatMap srcE).length = (l.length - (i + 1)) * 2 := by rw [srcs_len, List.length_drop]
  have hcell : ∀ o, w.cell? ⟨g, o, none⟩ = cs[o]? := fun o => cell_of_row w g o cs _ _ hg
  obtain ⟨c1, a1, a2, a3, a4⟩ := setCells_block g _ (0, 0) ((l.drop (i + 1)).flatMap srcE) (off + i * 2) w.drew cs hg
  obtain ⟨W1, hW1⟩ : ∃ W1, W1 = w.drew.setCells g (off + i * 2) ((l.drop (i + 1)).flatMap srcE) := ⟨_, rfl⟩
  rw [← hW1] at a1
  have hap : ∀ (A : Option Addr) (sc : Nat) ty, (l.length - (i + 1) = 0 ∨ A = some ⟨g, off + (i + 1) * 2, none⟩) → (Builtin.append_ #[31, 31] ty #[.slice (some ⟨g, off, none⟩) i c, .slice A (l.length - (i + 1)) sc]).run Try.prog w.drew = .ok (.slice (some ⟨g, off, none⟩) (l.length - 1) c) W1 := by
    intro A sc ty hA
    obtain ⟨_, ⟨i0, z, hi0, hz0, hsize, hby, hzs⟩, _⟩ := elSrc
    rcases hA with h | rfl
    · have hn : (l.drop (i + 1)).flatMap srcE = [] := List.eq_nil_of_length_eq_zero (by rw [hDl, h])
      rw [hW1, hn, h, run_append_none w.drew _ ty _ i0 Try.underlying31 hi0 _ _ _ _ _ (by omega)]
      rw [show i = l.length - 1 by omega]; rfl
    · have h := run_append_room_cells (P := Try.prog) w.drew 31 ty 39 i0 Try.underlying31 hi0 g off i c ⟨g, off + (i + 1) * 2, none⟩ (l.length - (i + 1)) sc ((l.drop (i + 1)).flatMap srcE) (by rw [hsize]; exact hDl)
        (fun j u hu => by
          rw [Addr.add_lit]
          show w.cell? _ = _
          rw [hcell, Nat.add_assoc]
          rw [hD, List.getElem?_drop] at hu
          exact hcs _ u hu) (srcs_one _) (by omega)
        (fun j hj => by
          show (w.cell? _).isSome = true
          rw [hcell, hsize, Array.getElem?_eq_getElem (by omega)]; rfl)
        (fun j hj => by
          show w.frozen? _ = false
          simp [World.frozen?, hg])
      rw [hsize, ← hW1, show i + (l.length - (i + 1)) = l.length - 1 by omega] at h
      exact h
  obtain ⟨vs, hvs⟩ : ∃ vs : List Value, vs = (Builtin.zeroCells (Value.agg #[.string ⟨#[]⟩, .string ⟨#[]⟩]).cells 1).toList := ⟨_, rfl⟩
  have hvl : vs.length = 2 := by rw [hvs, Array.length_toList, size_zeroCells]; rfl
  have hclr : ∀ ty sc, (Builtin.clear_ #[31] ty #[.slice (some ⟨g, off + (l.length - 1) * 2, none⟩) 1 sc]).run Try.prog W1 = .ok (.tuple #[]) (W1.setCells g (off + (l.length - 1) * 2) vs) := fun ty sc => by
    rw [hvs]
    exact (run_clear_any (P := Try.prog) W1 31 ty _ 2 32 elSrc _ zeroSrc rfl (by intro u hu; simp [Value.cells] at hu; subst hu; rfl) g (off + (l.length - 1) * 2) 1 sc (by omega)
      (fun j hj => by rw [cell_of_row _ _ _ _ _ _ a1, Array.getElem?_eq_getElem (by omega)]; rfl) (fun j hj => by simp [World.frozen?, a1])).2
  obtain ⟨c2, b1, b2, b3, b4⟩ := setCells_block g _ (0, 0) vs (off + (l.length - 1) * 2) W1 c1 a1
  have hin : i ≤ l.length := by omega
  have hic : i ≤ c := by omega
  have hic1 : i + 1 ≤ c := by omega
  have hii : (i : Int) ≤ (i : Int) + 1 := by omega
  have hil : (i : Int) + 1 ≤ (l.length : Int) := by omega
  have hin1 : i + 1 ≤ l.length := by omega
  have hz2 : ¬ ((i : Int) = (i : Int) + 1) := by omega
  have hw1 : ((i : Int) + 1).toNat = i + 1 := by omega
  have hb1 : (0 : Int) ≤ (i : Int) + 1 := by omega
  have hb4 : ¬ (c = i) := by omega
  have HT := hid hT
  have HD := hid hD
  have Hg := hid hg
  have HTl := hid hTl
  have HDl := hid hDl
  have HW1 := hid hW1
  have Ha1 := hid a1
  have Hc := hid hcs
  have Ha := hid a4
  have Ha3 := hid a3
  have Ha2 := hid a2
  have Hvs := hid hvs
  have Hvl := hid hvl
  have Hb1 := hid b1
  have Hb2 := hid b2
  have Hb3 := hid b3
  have Hap := hid hap
  have e1 : l.length - (l.length - 1) = 1 := by omega
  have e2 : l.length - 1 ≤ l.length := by omega
  have e3 : ¬ (c = l.length - 1) := by omega
  have fin : ∀ w', w' = W1.setCells g (off + (l.length - 1) * 2) vs → Own w' B 39 2 (.slice (some ⟨g, off, none⟩) (l.length - 1) c) ((delAt l i).flatMap srcE) ∧ w.grownBy w' (some g) := by
    intro w' hw'
    subst hw'
    have eT := HTl.out
    have eD := HDl.out
    refine ⟨.inr ⟨g, off, l.length - 1, c, c2, rfl, ?_, hbg, Hb1.out, by omega, hc', by rw [Hb2.out, Ha2.out]; exact hfit, ?_⟩, ?_⟩
    · rw [delAt_flat, List.length_append, eT, eD]; omega
    · intro j u hu
      have hj := (List.getElem?_eq_some_iff.1 hu).1
      rw [delAt_flat] at hu hj
      rw [List.length_append, eT, eD] at hj
      rw [Hb3.out _ (.inl (by omega))]
      by_cases hjT : j < i * 2
      · rw [List.getElem?_append_left (by rw [eT]; exact hjT), HT.out, List.getElem?_take, if_pos hjT] at hu
        rw [Ha3.out _ (.inl (by omega))]
        exact Hc.out j u hu
      · rw [List.getElem?_append_right (by rw [eT]; omega), eT] at hu
        have := Ha.out (by rw [eD]; omega) _ u hu
        rwa [show off + i * 2 + (j - i * 2) = off + j by omega] at this
    · have g1 := setCells_grown w.drew g (off + i * 2) ((l.drop (i + 1)).flatMap srcE)
      have g2 := setCells_grown W1 g (off + (l.length - 1) * 2) vs
      rw [← HW1.out] at g1
      exact World.grownBy.trans (a := w) (b := W1) ⟨g1.os, g1.tape, g1.output, g1.size, g1.block⟩ g2
  have Hfin := hid fin
  clear hT hD hg hTl hDl hW1 a1 hcs a4 a3 hcell a2 hap hvs hvl b1 b2 b3 b4 fin
  by_cases hci : i + 1 < l.length
  · have hrun := fun ty sc => Hap.out (some ⟨g, off + (i + 1) * 2, none⟩) sc ty (.inr rfl)
    have hci2 : ¬ (c = i + 1) := by omega
    go_enter Try.func56, Try.ntmps56
    go_wp2_with fail
    go_region_law (refine step_append_run rfl (.tmp 22) (.tmp 25) 31 31 rfl (.slice (some ⟨g, off, none⟩) i c) (.slice (some ⟨g, off + (i + 1) * 2, none⟩) (l.length - (i + 1)) (c - (i + 1))) rfl rfl (hrun _ _) ?_)
    go_wp2
    go_ret
    exact ⟨_, rfl, Hfin.out _ rfl⟩
  · have e4 : l.length - 1 = i := by omega
    have e5 : W1 = w.drew := by
      have hn : (l.drop (i + 1)).flatMap srcE = [] := List.eq_nil_of_length_eq_zero (by rw [HDl.out]; omega)
      rw [HW1.out, hn]; rfl
    have e6 : l.length - (i + 1) = 0 := by omega
    have e7 : l.length - i = 1 := by omega
    have Hfin2 := Hfin.out
    rw [e4, e5] at Hfin2
    rw [e4, e5] at hclr
    have Hfin3 := hid Hfin2
    clear Hfin2 e1 e2 e3 e4 e5
    by_cases hcj : c = i + 1
    · subst hcj
      go_enter Try.func56, Try.ntmps56
      go_wp2_with fail
      go_region
      go_wp2
      go_ret
      exact ⟨_, rfl, Hfin3.out _ rfl⟩
    · go_enter Try.func56, Try.ntmps56
      go_wp2_with fail
      go_region
      go_wp2
      go_ret
      exact ⟨_, rfl, Hfin3.out _ rfl⟩

end Go.Proofs.Ytpjpndbagkcgcaa
