/- slices.Insert of one element, into a row that is handed over. -/
import Derived.Test.YtjoilbmkcknnfaaDoorI0
import Derived.Test.YtjoilbmkcknnfaaDoorProg
set_option linter.unusedVariables false
set_option linter.unusedSimpArgs false
namespace Go.Proofs.YtjoilbmkcknnfaaDoor
open Go.RowKit

theorem elInsRec : Elem Tryd.prog 51 54 8 96 := elI_el (by kernel_rfl : elI Tryd.prog 51 = some (54, 8, 96))

set_option maxHeartbeats 2000000 in
theorem insEndRec (cl xc : List Value) (n : Nat) (v : Value) (w : World) (hown : Own w 0 54 8 v cl) (hcl : cl.length = n * 8) (hxl : xc.length = 8) (hx1 : ∀ u ∈ xc, u.oneCell' = true) (hn : n ≤ 4294967296)
    (vb : Nat) (hv : w.heap[vb]? = some (.cells xc.toArray 54 (0, 0))) :
    Calls Tryd.prog 78 #[v, .int .i64 n, .slice (some ⟨vb, 0, none⟩) 1 1] w fun e w' =>
      ∃ v', e = .returned v' ∧ Own w' 0 54 8 v' (cl ++ xc) ∧ w.grownBy w' v.ownBlock ∧ (∀ k, v'.ownBlock = some k → v.ownBlock = some k ∨ w.heap.size ≤ k) := by
  obtain ⟨A, m, c, rfl, h1, hnc, hc, hat⟩ := hown.form (by omega)
  obtain rfl : m = n := by omega
  unfold maxLen at hc
  have hsrc : At w (some ⟨vb, 0, none⟩) xc := .inr ⟨vb, 0, rfl, fun j u hu => by rw [cell_of_row w vb _ _ _ _ hv]; simpa using hu⟩
  have Hsrc := hid hsrc
  have Hown := hid hown
  have Hv := hid hv
  have Hx1 := hid hx1
  clear hsrc hown hv hat hx1
  have hb1 : cl.length + xc.length ≤ 35000000000 * 4 := by omega
  cases A with
  | none =>
    go_enter Tryd.func78, Tryd.ntmps78
    go_wp2_with (at_builtin; refine wpl_append _ rfl _ _ 51 rfl _ 8 96 elInsRec 0 (.slice none m c) cl rfl Hown.out _ 1 1 xc rfl (by rw [hxl]) Hsrc.out Hx1.out (by unfold maxLen; omega) (by omega) (Nat.zero_le _) ?_; intro v1 w1 hown1 hg1 hat1)
    all_goals (go_ret; exact ⟨v1, rfl, hown1, hg1, fun k hk => by rcases hat1 with h | h <;> rw [h] at hk; exact .inl hk; exact .inr (by injection hk with hk; omega)⟩)
  | some a =>
    obtain ⟨ab, ao, asp⟩ := a
    go_enter Tryd.func78, Tryd.ntmps78
    go_wp2_with (at_builtin; refine wpl_append _ rfl _ _ 51 rfl _ 8 96 elInsRec 0 (.slice (some ⟨ab, ao, asp⟩) m c) cl rfl Hown.out _ 1 1 xc rfl (by rw [hxl]) Hsrc.out Hx1.out (by unfold maxLen; omega) (by omega) (Nat.zero_le _) ?_; intro v1 w1 hown1 hg1 hat1)
    all_goals (go_ret; exact ⟨v1, rfl, hown1, hg1, fun k hk => by rcases hat1 with h | h <;> rw [h] at hk; exact .inl hk; exact .inr (by injection hk with hk; omega)⟩)

set_option maxHeartbeats 4000000 in
set_option maxRecDepth 100000 in
/-- there is room: in place -/
theorem insRoomRec (cl xc : List Value) (n i g off c : Nat) (cs : Array Value) (fz : Nat × Nat) (w : World) (hi : i < n) (hroom : n + 1 ≤ c) (hc : c ≤ maxLen) (hl : n ≤ 4294967296) (hcl : cl.length = n * 8) (hxl : xc.length = 8) (hx1 : ∀ u ∈ xc, u.oneCell' = true) (hc1 : ∀ u ∈ cl, u.oneCell' = true)
    (hg : w.heap[g]? = some (.cells cs 54 fz)) (hfz : fz = (0, 0) ∨ cs.size ≤ fz.1) (hfit : off + c * 8 ≤ cs.size) (hcs : ∀ j u, cl[j]? = some u → cs[off + j]? = some u)
    (vb : Nat) (hv : w.heap[vb]? = some (.cells xc.toArray 54 (0, 0))) (hne : vb ≠ g) :
    Calls Tryd.prog 78 #[.slice (some ⟨g, off, none⟩) n c, .int .i64 i, .slice (some ⟨vb, 0, none⟩) 1 1] w fun e w' =>
      ∃ v', e = .returned v' ∧ Own w' 0 54 8 v' (cl.take (i * 8) ++ xc ++ cl.drop (i * 8)) ∧ w.grownBy w' (some g) ∧ (∀ k, v'.ownBlock = some k → some g = some k ∨ w.heap.size ≤ k) := by
  have hc' := hc
  unfold maxLen at hc
  obtain ⟨TT, hT⟩ : ∃ TT, TT = cl.take (i * 8) := ⟨_, rfl⟩
  obtain ⟨DD, hD⟩ : ∃ DD, DD = cl.drop (i * 8) := ⟨_, rfl⟩
  have hTl : TT.length = i * 8 := by rw [hT, List.length_take, hcl]; omega
  have hDl : DD.length = (n - i) * 8 := by rw [hD, List.length_drop, hcl]; omega
  rw [← hT, ← hD]
  have hD1 : ∀ u ∈ DD, u.oneCell' = true := fun u hu => hc1 u (by rw [hD] at hu; exact List.mem_of_mem_drop hu)
  have hcell : ∀ o, w.cell? ⟨g, o, none⟩ = cs[o]? := fun o => cell_of_row w g o cs _ _ hg
  obtain ⟨G1, hG1⟩ : ∃ G, G = w.drew.setCells g (off + (i + 1) * 8) DD := ⟨_, rfl⟩
  obtain ⟨c1, a1, a2, a3, a4⟩ := setCells_block g _ fz DD (off + (i + 1) * 8) w.drew cs hg
  obtain ⟨c2, b1, b2, b3, b4⟩ := setCells_block g _ fz xc (off + i * 8) G1 c1 (by rw [hG1]; exact a1)
  have hv1 : G1.heap[vb]? = some (.cells xc.toArray 54 (0, 0)) := by rw [hG1, setCells_far _ _ _ _ _ hne]; exact hv
  have hcp1 : ∀ ty dc sc, (Builtin.copy_ #[51, 51] ty #[.slice (some ⟨g, off + (i + 1) * 8, none⟩) (n - i) dc, .slice (some ⟨g, off + i * 8, none⟩) (n + 1 - i) sc]).run Tryd.prog w.drew = .ok (goInt ((n - i : Nat) : Int)) G1 := fun ty dc sc => by
    rw [hG1]
    refine run_copy_any (P := Tryd.prog) w.drew _ _ ty _ 8 96 elInsRec g (off + (i + 1) * 8) _ dc g (off + i * 8) _ sc _ _ (by simp only [Nat.min_def]; split <;> omega) hDl ?_ ?_ ?_ hD1
    · intro j u hu
      show w.cell? _ = _
      rw [hcell, Nat.add_assoc]
      rw [hD, List.getElem?_drop] at hu
      exact hcs _ u hu
    · intro j hj
      show (w.cell? _).isSome = true
      rw [hcell, Array.getElem?_eq_getElem (by omega)]; rfl
    · intro j hj
      show w.frozen? _ = false
      exact Row.free ⟨fz, hg, hfz⟩ (by omega)
  have hcp2 : ∀ ty dc, (Builtin.copy_ #[51, 51] ty #[.slice (some ⟨g, off + i * 8, none⟩) (n + 1 - i) dc, .slice (some ⟨vb, 0, none⟩) 1 1]).run Tryd.prog G1 = .ok (goInt 1) (G1.setCells g (off + i * 8) xc) := fun ty dc => by
    have hg1 : G1.heap[g]? = some (.cells c1 54 fz) := by rw [hG1]; exact a1
    refine run_copy_any (P := Tryd.prog) G1 _ _ ty _ 8 96 elInsRec g (off + i * 8) _ dc vb 0 1 1 1 xc (by simp only [Nat.min_def]; split <;> omega) (by rw [hxl]) ?_ ?_ ?_ hx1
    · intro j u hu
      rw [cell_of_row _ vb _ _ _ _ hv1]
      simpa using hu
    · intro j hj
      rw [cell_of_row _ g _ _ _ _ hg1, Array.getElem?_eq_getElem (by omega)]; rfl
    · intro j hj
      exact Row.free ⟨fz, hg1, by rw [a2]; exact hfz⟩ (by omega)
  have hov : ∀ lb cb, (callFunc 103 #[.slice (some ⟨vb, 0, none⟩) 1 1, .slice (some ⟨g, off + (i + 1) * 8, none⟩) lb cb]).run Tryd.prog w = .ok (.value (.bool false)) w := fun lb cb => by
    rw [run_callFunc_extern Tryd.func103 (by kernel_rfl) (by kernel_rfl) (by kernel_rfl) (e := Extern.SlicesOverlaps.overlaps #[51, 51] #[4]) (by kernel_rfl),
      Lib.run_overlaps_apart w 51 4 54 Tryd.underlying51 8 (fun _ => by kernel_rfl) ⟨vb, 0, none⟩ ⟨g, off + (i + 1) * 8, none⟩ 1 1 lb cb hne 54 54 8 cs.size
        (by simp [World.shape?, hv, hxl]) (by simp [World.shape?, hg]) (by omega) (by simp [World.frozen?, hv]) (by simp [World.frozen?, hv])]
    rfl
  have hz2 : ¬ ((i : Int) = (n : Int)) := by omega
  have hw1 : IntKind.i64.wrap ((i : Int) + 1) = (i : Int) + 1 := IntWalk.i64_in _ (by omega)
  have hb1 : (0 : Int) ≤ (i : Int) + 1 := by omega
  have htn : ((i : Int) + 1).toNat = i + 1 := by omega
  have hb2 : ¬ (c = i + 1) := by omega
  have hb3 : (i : Int) ≤ (n : Int) + 1 := by omega
  have hb4 : ¬ (c = i) := by omega
  have hin : i ≤ n := by omega
  have HT := hid hT
  have HD := hid hD
  have Hg := hid hg
  have Hv := hid hv
  have Hv1 := hid hv1
  have HTl := hid hTl
  have HDl := hid hDl
  have HG1 := hid hG1
  have Ha1 := hid a1
  have Hb1 := hid b1
  have Hc := hid hcs
  have Ha := hid a4
  have Hb := hid b4
  have Ha3 := hid a3
  have Hb3 := hid b3
  have Ha2 := hid a2
  have Hb2 := hid b2
  have Hcl := hid hcl
  have Hxl := hid hxl
  have Hfz := hid hfz
  clear hT hD hg hv hv1 hTl hDl hG1 a1 b1 hcs a4 b4 a3 b3 hcell a2 b2 hcl hxl hfz hx1 hc1 hD1
  go_enter Tryd.func78, Tryd.ntmps78
  go_wp2_with (simp only [hov])
  go_region_law (refine step_copy rfl _ _ 51 51 rfl _ _ (by simp [Act.eval, Act.put]) (by simp [Act.eval, Act.put]) (hcp1 _ _ _) ?_)
  go_wp2_with (at_builtin; refine wpl_copy _ rfl _ _ 51 51 rfl _ _ rfl rfl (hcp2 _ _) ?_)
  go_ret
  have eT := HTl.out
  have eD := HDl.out
  have eX := Hxl.out
  refine ⟨_, rfl, .inr ⟨g, off, n + 1, c, c2, rfl, ?_, Nat.zero_le _, ⟨fz, Hb1.out, by rw [Hb2.out, Ha2.out]; exact Hfz.out⟩, hroom, hc', by rw [Hb2.out, Ha2.out]; exact hfit, ?_⟩, ?_, fun k hk => .inl hk⟩
  · rw [List.length_append, List.length_append, eT, eD, eX]; omega
  · refine two_writes (cs := cs) (c1 := c1) (fun j u hu => ?_) (fun j u hu => ?_) (fun j hj => ?_) (fun j u hu => ?_) (fun j hj => ?_)
    · rw [HT.out, List.getElem?_take] at hu
      split at hu
      · exact Hc.out j u hu
      · cases hu
    · have := Ha.out (by omega) j u hu
      rwa [show off + (i + 1) * 8 + j = off + TT.length + xc.length + j by rw [eT, eX]; omega] at this
    · exact Ha3.out j (.inl (by rw [eT] at hj; omega))
    · have := Hb.out (by rw [eX, Ha2.out]; omega) j u hu
      rwa [← eT] at this
    · refine Hb3.out j ?_
      rw [eT, eX] at hj
      rw [eX]
      omega
  · have e1 := setCells_grown w.drew g (off + (i + 1) * 8) DD
    have e2 := setCells_grown G1 g (off + i * 8) xc
    rw [← HG1.out] at e1
    exact World.grownBy.trans (a := w) (b := G1) ⟨e1.os, e1.tape, e1.output, e1.size, e1.block⟩ e2

set_option maxHeartbeats 4000000 in
set_option maxRecDepth 100000 in
/-- no room: a new row -/
theorem insGrowRec (cl xc : List Value) (n i g off c : Nat) (cs : Array Value) (fz : Nat × Nat) (w : World) (hi : i < n) (hnc : n ≤ c) (hroom : c < n + 1) (hc : c ≤ maxLen) (hl : n ≤ 4294967296) (hcl : cl.length = n * 8) (hxl : xc.length = 8) (hx1 : ∀ u ∈ xc, u.oneCell' = true) (hc1 : ∀ u ∈ cl, u.oneCell' = true)
    (hg : w.heap[g]? = some (.cells cs 54 fz)) (hfit : off + c * 8 ≤ cs.size) (hcs : ∀ j u, cl[j]? = some u → cs[off + j]? = some u)
    (vb : Nat) (hv : w.heap[vb]? = some (.cells xc.toArray 54 (0, 0))) :
    Calls Tryd.prog 78 #[.slice (some ⟨g, off, none⟩) n c, .int .i64 i, .slice (some ⟨vb, 0, none⟩) 1 1] w fun e w' =>
      ∃ v', e = .returned v' ∧ Own w' 0 54 8 v' (cl.take (i * 8) ++ xc ++ cl.drop (i * 8)) ∧ w.grownBy w' (some g) ∧ (∀ k, v'.ownBlock = some k → some g = some k ∨ w.heap.size ≤ k) := by
  have hc' := hc
  unfold maxLen at hc
  obtain ⟨TT, hT⟩ : ∃ TT, TT = cl.take (i * 8) := ⟨_, rfl⟩
  obtain ⟨DD, hD⟩ : ∃ DD, DD = cl.drop (i * 8) := ⟨_, rfl⟩
  have hTl : TT.length = i * 8 := by rw [hT, List.length_take, hcl]; omega
  have hDl : DD.length = (n - i) * 8 := by rw [hD, List.length_drop, hcl]; omega
  rw [← hT, ← hD]
  have hD1 : ∀ u ∈ DD, u.oneCell' = true := fun u hu => hc1 u (by rw [hD] at hu; exact List.mem_of_mem_drop hu)
  have hcell : ∀ o, w.cell? ⟨g, o, none⟩ = cs[o]? := fun o => cell_of_row w g o cs _ _ hg
  have hgl : g < w.heap.size := (Array.getElem?_eq_some_iff.1 hg).1
  have hvl : vb < w.heap.size := (Array.getElem?_eq_some_iff.1 hv).1
  obtain ⟨_, ⟨i0, z, hi0, hz0, hsize, hby, hzs⟩, _⟩ := elInsRec
  have hold : (Builtin.firstCells i0.size i (.slice (some ⟨g, off, none⟩) i c)).run Tryd.prog w.drew = .ok TT.toArray w.drew := by
    rw [hsize]
    exact run_firstCells_some w.drew 8 i ⟨g, off, none⟩ i c _ hTl (fun j u hu => by
      rw [Addr.add_lit]
      show w.cell? _ = _
      rw [hcell]
      rw [hT, List.getElem?_take] at hu
      split at hu
      · exact hcs j u hu
      · cases hu)
  have hk : i + (n + 1 - i) = n + 1 := by omega
  obtain ⟨G, hG⟩ : ∃ G, G = grownCap w (n + 1) c 54 := ⟨_, rfl⟩
  obtain ⟨ROW, hROW⟩ : ∃ ROW : Array Value, ROW = TT.toArray ++ Builtin.zeroCells z.cells (n + 1 - i) ++ Builtin.zeroCells z.cells (G - (n + 1)) := ⟨_, rfl⟩
  have hGn : n + 1 ≤ G := by rw [hG]; exact grownCap_ge w _ _ _
  have hG63 : G ≤ maxLen := by rw [hG]; exact grownCap_le_maxLen w _ _ _ (by unfold maxLen; omega)
  have hRl : ROW.size = G * 8 := by
    rw [hROW]
    simp only [Array.size_append, List.size_toArray, size_zeroCells, hzs, hTl]
    omega
  have hrz : ∀ ty, (Builtin.append_ #[51, 3] ty #[.slice (some ⟨g, off, none⟩) i c, .int .i64 ((n : Int) + 1 - (i : Int))]).run Tryd.prog w =
      .ok (.slice (some ⟨w.heap.size, 0, none⟩) (n + 1) G) (w.drew.alloc (.cells ROW 54)) := fun ty => by
    have h := Lib.run_append_grow_zeros w 51 3 ty 54 i0 z .i64 .i64 Tryd.underlying51 Tryd.underlying3 hi0 hz0 (some ⟨g, off, none⟩) i c _ hold (n + 1 - i) (by omega) (by omega) (by omega) (by omega) (by rw [hby]; omega) (by rw [hby, hk]; exact growslice_fits hroom (by omega))
    rw [hk, ← hG, ← hROW] at h
    rw [show (n : Int) + 1 - (i : Int) = ((n + 1 - i : Nat) : Int) by omega]
    exact h
  obtain ⟨W1, hW1⟩ : ∃ W1, W1 = w.drew.alloc (.cells ROW 54) := ⟨_, rfl⟩
  have hW1g : W1.heap[w.heap.size]? = some (.cells ROW 54 (0, 0)) := by rw [hW1]; exact heap_alloc_new w.drew _
  have hW1o : ∀ k, k < w.heap.size → W1.heap[k]? = w.heap[k]? := fun k hk => by rw [hW1]; exact Below.heap_alloc w.drew _ k hk
  rw [← hW1] at hrz
  have hcpA : ∀ ty dc, (Builtin.copy_ #[51, 51] ty #[.slice (some ⟨w.heap.size, i * 8, none⟩) (n + 1 - i) dc, .slice (some ⟨vb, 0, none⟩) 1 1]).run Tryd.prog W1 = .ok (goInt 1) (W1.setCells w.heap.size (i * 8) xc) := fun ty dc => by
    refine run_copy_any (P := Tryd.prog) W1 _ _ ty _ 8 96 elInsRec w.heap.size (i * 8) _ dc vb 0 1 1 1 xc (by simp only [Nat.min_def]; split <;> omega) (by rw [hxl]) ?_ ?_ ?_ hx1
    · intro j u hu
      rw [cell_of_row _ vb _ _ _ _ ((hW1o vb hvl).trans hv)]
      simpa using hu
    · intro j hj
      rw [cell_of_row _ _ _ _ _ _ hW1g, Array.getElem?_eq_getElem (by omega)]; rfl
    · intro j hj
      simp [World.frozen?, hW1g]
  obtain ⟨c1, a1, a2, a3, a4⟩ := setCells_block w.heap.size _ (0, 0) xc (i * 8) W1 ROW hW1g
  obtain ⟨W2, hW2⟩ : ∃ W2, W2 = W1.setCells w.heap.size (i * 8) xc := ⟨_, rfl⟩
  rw [← hW2] at a1 hcpA
  have hcpB : ∀ ty dc sc, (Builtin.copy_ #[51, 51] ty #[.slice (some ⟨w.heap.size, (i + 1) * 8, none⟩) (n - i) dc, .slice (some ⟨g, off + i * 8, none⟩) (n - i) sc]).run Tryd.prog W2.drew = .ok (goInt ((n - i : Nat) : Int)) (W2.drew.setCells w.heap.size ((i + 1) * 8) DD) := fun ty dc sc => by
    refine run_copy_any (P := Tryd.prog) W2.drew _ _ ty _ 8 96 elInsRec w.heap.size ((i + 1) * 8) _ dc g (off + i * 8) _ sc _ _ (by simp only [Nat.min_def]; split <;> omega) hDl ?_ ?_ ?_ hD1
    · intro j u hu
      show W2.cell? _ = _
      rw [hW2, World.cell?_of_block (a := ⟨g, _, none⟩) (setCells_far _ _ _ W1 g (by omega)), World.cell?_of_block (a := ⟨g, _, none⟩) (hW1o g hgl), hcell, Nat.add_assoc]
      rw [hD, List.getElem?_drop] at hu
      exact hcs _ u hu
    · intro j hj
      show (W2.cell? _).isSome = true
      rw [cell_of_row _ _ _ _ _ _ a1, Array.getElem?_eq_getElem (by omega)]; rfl
    · intro j hj
      show W2.frozen? _ = false
      simp [World.frozen?, a1]
  obtain ⟨c2, b1, b2, b3, b4⟩ := setCells_block w.heap.size _ (0, 0) DD ((i + 1) * 8) W2.drew c1 a1
  have hz2 : ¬ ((i : Int) = (n : Int)) := by omega
  have hz3 : (c : Int) < (n : Int) + 1 := by omega
  have hw1 : IntKind.i64.wrap ((i : Int) + 1) = (i : Int) + 1 := IntWalk.i64_in _ (by omega)
  have hb1 : (0 : Int) ≤ (i : Int) + 1 := by omega
  have htn : ((i : Int) + 1).toNat = i + 1 := by omega
  have hb3 : (i : Int) ≤ (n : Int) + 1 := by omega
  have hb4 : ¬ (c = i) := by omega
  have hin : i ≤ n := by omega
  have hGi : ¬ (G = i) := by omega
  have hGim : ¬ (G = i + 1) := by omega
  have hG63' := hG63
  unfold maxLen at hG63
  have HT := hid hT
  have HD := hid hD
  have HTl := hid hTl
  have HDl := hid hDl
  have Hb1 := hid b1
  have Hc := hid hcs
  have Ha := hid a4
  have Hb := hid b4
  have Ha3 := hid a3
  have Hb3 := hid b3
  have Ha2 := hid a2
  have Hb2 := hid b2
  have HR := hid hRl
  have HROW := hid hROW
  have HW1 := hid hW1
  have HW2 := hid hW2
  have Hxl := hid hxl
  clear hT hD hg hv hTl hDl a1 b1 hcs a4 b4 a3 b3 hcell a2 b2 hRl hROW hW1 hW2 hG hold hk hW1g hW1o hi0 hz0 hsize hby hzs hcl hxl hx1 hc1 hD1
  go_enter Tryd.func78, Tryd.ntmps78
  go_wp2_with (first
    | (at_builtin; refine wpl_append_run _ rfl _ _ _ _ rfl _ _ rfl rfl (hrz _) ?_)
    | (at_builtin; refine wpl_copy _ rfl _ _ 51 51 rfl _ _ rfl rfl (hcpA _ _) ?_))
  go_region_law (refine step_copy rfl _ _ 51 51 rfl _ _ (by simp [Act.eval, Act.put]) (by simp [Act.eval, Act.put]) (hcpB _ _ _) ?_)
  go_wp2
  go_ret
  have eT := HTl.out
  have eD := HDl.out
  have eX := Hxl.out
  refine ⟨.slice (some ⟨w.heap.size, 0, none⟩) (n + 1) G, rfl, .inr ⟨w.heap.size, 0, n + 1, G, c2, rfl, ?_, Nat.zero_le _, Row.of Hb1.out, hGn, hG63', by rw [Hb2.out, Ha2.out, HR.out]; omega, ?_⟩, ?_, fun k hk => .inr (Nat.le_of_eq (Option.some.inj hk))⟩
  · rw [List.length_append, List.length_append, eT, eD, eX]; omega
  · refine two_writes' (cs := ROW) (c1 := c1) (fun j u hu => ?_) (fun j u hu => ?_) (fun j hj => ?_) (fun j u hu => ?_) (fun j hj => ?_)
    · have hj := (List.getElem?_eq_some_iff.1 hu).1
      rw [HROW.out, Nat.zero_add, Array.append_assoc, Array.getElem?_append_left (by simpa using hj)]
      simpa using hu
    · have := Ha.out (by rw [eX, HR.out]; omega) j u hu
      rwa [Nat.zero_add, eT]
    · refine Ha3.out j ?_
      rw [eT, eX] at hj
      rw [eX]
      omega
    · have := Hb.out (by rw [eD, Ha2.out, HR.out]; omega) j u hu
      rwa [show (i + 1) * 8 + j = 0 + TT.length + xc.length + j by rw [eT, eX]; omega] at this
    · exact Hb3.out j (.inl (by rw [eT, eX] at hj; omega))
  · have e0 : w.grownBy W1 (some g) := by rw [HW1.out]; exact ⟨rfl, rfl, rfl, by simp, fun k hk _ => Below.heap_alloc w.drew _ k hk⟩
    have e1 := setCells_grown W1 w.heap.size (i * 8) xc
    have e2 := setCells_grown W2.drew w.heap.size ((i + 1) * 8) DD
    rw [← HW2.out] at e1
    refine ⟨?_, ?_, ?_, ?_, ?_⟩
    · exact e2.os.trans (e1.os.trans e0.os)
    · exact e2.tape.trans (e1.tape.trans e0.tape)
    · exact e2.output.trans (e1.output.trans e0.output)
    · exact Nat.le_trans e0.size (Nat.le_trans e1.size e2.size)
    · intro k hk hne
      have hk1 := Nat.lt_of_lt_of_le hk e0.size
      have hk2 := Nat.lt_of_lt_of_le hk1 e1.size
      have hne' : some k ≠ some w.heap.size := fun e => by injection e; omega
      exact (e2.block k hk2 hne').trans ((e1.block k hk1 hne').trans (e0.block k hk hne))

/-- slices.Insert of one element -/
theorem insAnyRec (cl xc : List Value) (n : Nat) (v : Value) (i : Nat) (w : World) (hown : Own w 0 54 8 v cl) (hcl : cl.length = n * 8) (hxl : xc.length = 8) (hx1 : ∀ u ∈ xc, u.oneCell' = true) (hc1 : ∀ u ∈ cl, u.oneCell' = true) (hi : i ≤ n) (hl : n ≤ 4294967296)
    (vb : Nat) (hv : w.heap[vb]? = some (.cells xc.toArray 54 (0, 0))) (hne : v.ownBlock ≠ some vb) :
    Calls Tryd.prog 78 #[v, .int .i64 i, .slice (some ⟨vb, 0, none⟩) 1 1] w fun e w' =>
      ∃ v', e = .returned v' ∧ Own w' 0 54 8 v' (cl.take (i * 8) ++ xc ++ cl.drop (i * 8)) ∧ w.grownBy w' v.ownBlock ∧ (∀ k, v'.ownBlock = some k → v.ownBlock = some k ∨ w.heap.size ≤ k) := by
  rcases Nat.lt_or_ge i n with h | h
  · have ho := hown
    rcases hown with ⟨rfl, h0⟩ | ⟨g, off, m, cap, cs, rfl, h1, hb, hg, hnc, hc, hsz, hcs⟩
    · rw [h0] at hcl
      simp at hcl
      omega
    · obtain rfl : m = n := by omega
      obtain ⟨fz, hg, hfz⟩ := hg
      have hne' : vb ≠ g := fun e => hne (by simp [Value.ownBlock, e])
      rcases Nat.lt_or_ge cap (m + 1) with h2 | h2
      · exact insGrowRec cl xc m i g off cap cs fz w h hnc h2 hc hl hcl hxl hx1 hc1 hg hsz hcs vb hv
      · exact insRoomRec cl xc m i g off cap cs fz w h h2 hc hl hcl hxl hx1 hc1 hg hfz hsz hcs vb hv hne'
  · obtain rfl : i = n := by omega
    have e1 : cl.take (i * 8) ++ xc ++ cl.drop (i * 8) = cl ++ xc := by
      rw [← hcl, List.take_length, List.drop_length, List.append_nil]
    rw [e1]
    exact insEndRec cl xc i v w hown hcl hxl hx1 hl vb hv

theorem insRec_c {α : Type} {R : Rep α} (hR : R.size = 8) (T : Nat → Prop) (W0 : World) (v : Value) (cl : List Value) (vb : Nat) (xc : List Value) (xs : List α) (x : α) (i : Int) (hD : DOk T W0 [.own v 54 R.size cl, .box vb xc 54]) (hv : RowsOk R (dT T [.own v 54 R.size cl, .box vb xc 54]) W0 cl xs) (hx : R.rel (dT T [.own v 54 R.size cl, .box vb xc 54]) W0 xc x)
    (h0 : decide (0 ≤ i) = true) (h1 : decide (i ≤ xs.length) = true) (hr : roomB (xs.length + 1) = true) : Rets Tryd.prog (MD [.own v 54 R.size cl, .box vb xc 54]) 78 [v, .int .i64 i, .slice (some ⟨vb, 0, none⟩) 1 1] W0 (fun v' w' => ∃ cl', RowsOk R (dT T [.own v' 54 R.size cl']) w' cl' (xs.take i.toNat ++ x :: xs.drop i.toNat) ∧ DNew W0 w' [.own v 54 R.size cl, .box vb xc 54] [.own v' 54 R.size cl']) := by
  have h0 := of_decide_eq_true h0
  have h1 := of_decide_eq_true h1
  have hr := roomB_le hr
  obtain ⟨k, rfl⟩ : ∃ k : Nat, i = k := ⟨i.toNat, by omega⟩
  have hown := (hD.own _ List.mem_cons_self).1
  have hbox : W0.heap[vb]? = some (.cells xc.toArray 54 (0, 0)) := hD.own (.box vb xc 54) (by simp)
  have hap := (List.pairwise_cons.1 hD.apart).1 (.box vb xc 54) (by simp)
  have hne : v.ownBlock ≠ some vb := fun e => hap vb e rfl
  have hpos : 0 < R.size := by rw [hR]; omega
  have hx1 := hv.cell hpos
  have hcl := hv.1
  rw [hR] at hown hcl
  refine (insAnyRec cl xc xs.length v k W0 hown hcl (by rw [R.len hx, hR]) (fun u hu => R.one hx u hu) hx1 (by omega) (by omega) vb hbox hne).mono ?_
  rintro e w' ⟨v', rfl, g1, g2, g3⟩
  have hk := Kt.grown g2
  have hkM : Kt (MD [.own v 54 R.size cl, .box vb xc 54]) W0 w' := hk.mono fun j hj => ⟨_, List.mem_cons_self, hj⟩
  have hN : DNew W0 w' [.own v 54 R.size cl, .box vb xc 54] [.own v' 54 R.size (cl.take (k * 8) ++ xc ++ cl.drop (k * 8))] := by
    refine ⟨fun r hr => ?_, fun r hr j hj => ?_, pw1 _⟩
    · simp only [List.mem_cons, List.not_mem_nil, or_false] at hr
      subst hr
      refine ⟨?_, hpos⟩
      rw [hR]; exact g1
    · simp only [List.mem_cons, List.not_mem_nil, or_false] at hr
      subst hr
      rcases g3 j hj with h | h
      · exact .inl ⟨_, List.mem_cons_self, h⟩
      · exact .inr h
  refine ⟨v', rfl, hkM, _, ?_, hN⟩
  have hlo := hv.cut (Nat.zero_le k) (by omega : k ≤ xs.length)
  have hhi := hv.cut (by omega : k ≤ xs.length) (Nat.le_refl _)
  have e8 : k * R.size = k * 8 := by rw [hR]
  rw [Nat.zero_mul, List.drop_zero, List.drop_zero, e8] at hlo
  rw [List.take_length, List.take_of_length_le (by rw [hv.1]; exact Nat.le_refl _), e8] at hhi
  have h3 := (hlo.append (RowsOk.one_ hx)).append hhi
  rw [show ((k : Int)).toNat = k by omega, show xs.take k ++ x :: xs.drop k = xs.take k ++ [x] ++ xs.drop k by simp]
  refine h3.keep (hkM.mono fun j hj => .inr hj) fun j hj => ?_
  rcases hj with hj | ⟨r, hr, hj⟩
  · exact .inl (.inl hj)
  · rcases hN.from_ r hr j hj with h | h
    · exact .inl (.inr h)
    · exact .inr h
end Go.Proofs.YtjoilbmkcknnfaaDoor
