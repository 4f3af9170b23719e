/- slices.Insert and slices.Delete at sources. -/
import Derived.Test.YtpjpndbagkcgcaaA5
import Derived.Test.YtpjpndbagkcgcaaV
set_option linter.unusedVariables false
set_option linter.unusedSimpArgs false
namespace Go.Proofs.Ytpjpndbagkcgcaa
open Go.RowKit

/-- a block's content behind two writes -/
theorem two_writes {T X D : List Value} {cs c1 c2 : Array Value} {off : Nat}
    (h0 : ∀ j u, T[j]? = some u → cs[off + j]? = some u)
    (hd : ∀ j u, D[j]? = some u → c1[off + T.length + X.length + j]? = some u) (h1 : ∀ j, j < off + T.length → c1[j]? = cs[j]?)
    (hx : ∀ j u, X[j]? = some u → c2[off + T.length + j]? = some u) (h2 : ∀ j, (j < off + T.length ∨ off + T.length + X.length ≤ j) → c2[j]? = c1[j]?) :
    ∀ j u, (T ++ X ++ D)[j]? = some u → c2[off + j]? = some u := by
  intro j u hu
  by_cases hT : j < T.length
  · rw [List.append_assoc, List.getElem?_append_left hT] at hu
    rw [h2 _ (.inl (by omega)), h1 _ (by omega)]
    exact h0 j u hu
  · by_cases hX : j < T.length + X.length
    · rw [List.getElem?_append_left (by rw [List.length_append]; exact hX), List.getElem?_append_right (by omega)] at hu
      have := hx _ u hu
      rwa [show off + T.length + (j - T.length) = off + j by omega] at this
    · rw [List.getElem?_append_right (by rw [List.length_append]; omega), List.length_append] at hu
      have := hd _ u hu
      rw [show off + T.length + X.length + (j - (T.length + X.length)) = off + j by omega] at this
      rw [h2 _ (.inr (by omega))]
      exact this
theorem two_writes' {T X D : List Value} {cs c1 c2 : Array Value} {off : Nat}
    (h0 : ∀ j u, T[j]? = some u → cs[off + j]? = some u)
    (hx : ∀ j u, X[j]? = some u → c1[off + T.length + j]? = some u) (h1 : ∀ j, (j < off + T.length ∨ off + T.length + X.length ≤ j) → c1[j]? = cs[j]?)
    (hd : ∀ j u, D[j]? = some u → c2[off + T.length + X.length + j]? = some u) (h2 : ∀ j, j < off + T.length + X.length → c2[j]? = c1[j]?) :
    ∀ j u, (T ++ X ++ D)[j]? = some u → c2[off + j]? = some u := by
  intro j u hu
  by_cases hT : j < T.length
  · rw [List.append_assoc, List.getElem?_append_left hT] at hu
    rw [h2 _ (by omega), h1 _ (.inl (by omega))]
    exact h0 j u hu
  · by_cases hX : j < T.length + X.length
    · rw [List.getElem?_append_left (by rw [List.length_append]; exact hX), List.getElem?_append_right (by omega)] at hu
      have := hx _ u hu
      rw [show off + T.length + (j - T.length) = off + j by omega] at this
      rw [h2 _ (by omega)]
      exact this
    · rw [List.getElem?_append_right (by rw [List.length_append]; omega), List.length_append] at hu
      have := hd _ u hu
      rwa [show off + T.length + X.length + (j - (T.length + X.length)) = off + j by omega] at this

def insAt (l : List Src) (i : Nat) (x : Src) : List Src := l.take i ++ x :: l.drop i
theorem insAt_flat (l : List Src) (i : Nat) (x : Src) : (insAt l i x).flatMap srcE = (l.take i).flatMap srcE ++ srcE x ++ (l.drop i).flatMap srcE := by
  simp [insAt]

set_option maxHeartbeats 2000000 in
theorem insert_end (l : List Src) (x : Src) (v : Value) (w : World) (B : Nat) (hown : Own w B 39 2 v (l.flatMap srcE)) (hl : l.length ≤ 1000000000000) (hB : B ≤ w.heap.size)
    (vb : Nat) (hv : w.heap[vb]? = some (.cells #[.string x.1, .string x.2] 39 (0, 0))) :
    Calls Try.prog 45 #[v, .int .i64 l.length, .slice (some ⟨vb, 0, none⟩) 1 1] w fun e w' =>
      ∃ v', e = .returned v' ∧ Own w' B 39 2 v' ((insAt l l.length x).flatMap srcE) ∧ w.grownBy w' v.ownBlock := by
  obtain ⟨A, n, c, rfl, h1, hnc, hc, hat⟩ := hown.form (by omega)
  rw [srcs_len] at h1
  obtain rfl : n = l.length := by omega
  have hll := srcs_len l
  have Hll := hid hll
  clear hll hat h1
  unfold maxLen at hc
  have hsrc : At w (some ⟨vb, 0, none⟩) (srcE x) := .inr ⟨vb, 0, rfl, fun j u hu => by rw [cell_of_row w vb _ _ _ _ hv]; simpa [srcE] using hu⟩
  have Hsrc := hid hsrc
  have Hown := hid hown
  have Hv := hid hv
  clear hsrc hown hv
  have hE : (insAt l l.length x).flatMap srcE = l.flatMap srcE ++ srcE x := by simp [insAt]
  rw [hE]
  have hb1 : (l.flatMap srcE).length + (srcE x).length ≤ 3000000000000 := by rw [Hll.out]; simp [srcE]; omega
  clear hE
  cases A with
  | none =>
    go_enter Try.func45, Try.ntmps45
    go_wp2_with (at_builtin; refine wpl_append _ rfl _ _ 31 rfl _ 2 32 elSrc B (.slice none l.length c) (l.flatMap srcE) rfl Hown.out _ 1 1 (srcE x) rfl rfl Hsrc.out (by intro u hu; simp only [srcE, List.mem_cons, List.not_mem_nil, or_false] at hu; rcases hu with rfl | rfl <;> rfl) (by unfold maxLen; omega) (by omega) hB ?_; intro v1 w1 hown1 hg1 hat1)
    all_goals (go_ret; exact ⟨_, rfl, hown1, hg1⟩)
  | some a =>
    obtain ⟨ab, ao, asp⟩ := a
    go_enter Try.func45, Try.ntmps45
    go_wp2_with (at_builtin; refine wpl_append _ rfl _ _ 31 rfl _ 2 32 elSrc B (.slice (some ⟨ab, ao, asp⟩) l.length c) (l.flatMap srcE) rfl Hown.out _ 1 1 (srcE x) rfl rfl Hsrc.out (by intro u hu; simp only [srcE, List.mem_cons, List.not_mem_nil, or_false] at hu; rcases hu with rfl | rfl <;> rfl) (by unfold maxLen; omega) (by omega) hB ?_; intro v1 w1 hown1 hg1 hat1)
    all_goals (go_ret; exact ⟨_, rfl, hown1, hg1⟩)


theorem one_srcE (x : Src) : ∀ u ∈ srcE x, u.oneCell' = true := by
  intro u hu; simp only [srcE, List.mem_cons, List.not_mem_nil, or_false] at hu; rcases hu with rfl | rfl <;> rfl

set_option maxHeartbeats 4000000 in
set_option maxRecDepth 100000 in
/-- there is room: in place -/
theorem insert_room (l : List Src) (x : Src) (i g off c : Nat) (cs : Array Value) (w : World) (B : Nat) (hi : i < l.length) (hroom : l.length + 1 ≤ c) (hc : c ≤ maxLen) (hl : l.length ≤ 1000000000000) (hbg : B ≤ g)
    (hg : w.heap[g]? = some (.cells cs 39 (0, 0))) (hfit : off + c * 2 ≤ cs.size) (hcs : ∀ j u, (l.flatMap srcE)[j]? = some u → cs[off + j]? = some u)
    (vb : Nat) (hv : w.heap[vb]? = some (.cells #[.string x.1, .string x.2] 39 (0, 0))) (hne : vb ≠ g) :
    Calls Try.prog 45 #[.slice (some ⟨g, off, none⟩) l.length c, .int .i64 i, .slice (some ⟨vb, 0, none⟩) 1 1] w fun e w' =>
      ∃ v', e = .returned v' ∧ Own w' B 39 2 v' ((insAt l i x).flatMap srcE) ∧ w.grownBy w' (some g) := by
  have hc' := hc
  unfold maxLen at hc
  have hT := flat_take srcE_len l i (by omega)
  have hD := flat_drop srcE_len l i (by omega)
  have hTl : ((l.take i).flatMap srcE).length = i * 2 := by rw [srcs_len, List.length_take, Nat.min_eq_left (by omega)]
  have hDl : ((l.drop i).flatMap srcE).length = (l.length - i) * 2 := by rw [srcs_len, List.length_drop]
  have hcell : ∀ o, w.cell? ⟨g, o, none⟩ = cs[o]? := fun o => cell_of_row w g o cs _ _ hg
  obtain ⟨G1, hG1⟩ : ∃ G, G = w.drew.setCells g (off + (i + 1) * 2) ((l.drop i).flatMap srcE) := ⟨_, rfl⟩
  obtain ⟨c1, a1, a2, a3, a4⟩ := setCells_block g _ (0, 0) ((l.drop i).flatMap srcE) (off + (i + 1) * 2) w.drew cs hg
  obtain ⟨c2, b1, b2, b3, b4⟩ := setCells_block g _ (0, 0) (srcE x) (off + i * 2) G1 c1 (by rw [hG1]; exact a1)
  have hv1 : G1.heap[vb]? = some (.cells #[.string x.1, .string x.2] 39 (0, 0)) := by rw [hG1, setCells_far _ _ _ _ _ hne]; exact hv
  have hcp1 : ∀ ty dc sc, (Builtin.copy_ #[31, 31] ty #[.slice (some ⟨g, off + (i + 1) * 2, none⟩) (l.length - i) dc, .slice (some ⟨g, off + i * 2, none⟩) (l.length + 1 - i) sc]).run Try.prog w.drew = .ok (goInt ((l.length - i : Nat) : Int)) G1 := fun ty dc sc => by
    rw [hG1]
    refine run_copy_any (P := Try.prog) w.drew _ _ ty _ 2 32 elSrc g (off + (i + 1) * 2) _ dc g (off + i * 2) _ sc _ _ (by simp only [Nat.min_def]; split <;> omega) hDl ?_ ?_ ?_ (srcs_one _)
    · intro j u hu
      show w.cell? _ = _
      rw [hcell, Nat.add_assoc]
      rw [hD, List.getElem?_drop] at hu
      exact hcs _ u hu
    · intro j hj
      show (w.cell? _).isSome = true
      rw [hcell, Array.getElem?_eq_getElem (by omega)]; rfl
    · intro j hj
      show w.frozen? _ = false
      simp [World.frozen?, hg]
  have hcp2 : ∀ ty dc, (Builtin.copy_ #[31, 31] ty #[.slice (some ⟨g, off + i * 2, none⟩) (l.length + 1 - i) dc, .slice (some ⟨vb, 0, none⟩) 1 1]).run Try.prog G1 = .ok (goInt 1) (G1.setCells g (off + i * 2) (srcE x)) := fun ty dc => by
    have hg1 : G1.heap[g]? = some (.cells c1 39 (0, 0)) := by rw [hG1]; exact a1
    refine run_copy_any (P := Try.prog) G1 _ _ ty _ 2 32 elSrc g (off + i * 2) _ dc vb 0 1 1 1 (srcE x) (by simp only [Nat.min_def]; split <;> omega) rfl ?_ ?_ ?_ (one_srcE x)
    · intro j u hu
      rw [cell_of_row _ vb _ _ _ _ hv1]
      simpa [srcE] using hu
    · intro j hj
      simp only [srcE_len] at hj
      rw [cell_of_row _ g _ _ _ _ hg1, Array.getElem?_eq_getElem (by omega)]; rfl
    · intro j hj
      simp [World.frozen?, hg1]
  have hov : ∀ lb cb, (callFunc 58 #[.slice (some ⟨vb, 0, none⟩) 1 1, .slice (some ⟨g, off + (i + 1) * 2, none⟩) lb cb]).run Try.prog w = .ok (.value (.bool false)) w := fun lb cb => by
    rw [run_callFunc_extern Try.func58 (by kernel_rfl) (by kernel_rfl) (by kernel_rfl) (e := Extern.SlicesOverlaps.overlaps #[31, 31] #[4]) (by kernel_rfl),
      Lib.run_overlaps_apart w 31 4 39 Try.underlying31 2 (fun _ => by kernel_rfl) ⟨vb, 0, none⟩ ⟨g, off + (i + 1) * 2, none⟩ 1 1 lb cb hne 39 39 2 cs.size
        (by simp [World.shape?, hv]) (by simp [World.shape?, hg]) (by omega) (by simp [World.frozen?, hv]) (by simp [World.frozen?, hv])]
    rfl
  have hz2 : ¬ ((i : Int) = (l.length : Int)) := by omega
  have hw1 : IntKind.i64.wrap ((i : Int) + 1) = (i : Int) + 1 := IntWalk.i64_in _ (by omega)
  have hb1 : (0 : Int) ≤ (i : Int) + 1 := by omega
  have htn : ((i : Int) + 1).toNat = i + 1 := by omega
  have hb2 : ¬ (c = i + 1) := by omega
  have hb3 : (i : Int) ≤ (l.length : Int) + 1 := by omega
  have hb4 : ¬ (c = i) := by omega
  have hin : i ≤ l.length := by omega
  have HT := hid hT
  have HD := hid hD
  have Hg := hid hg
  have Hv := hid hv
  have Hv1 := hid hv1
  have HTl := hid hTl
  have HDl := hid hDl
  have HG1 := hid hG1
  have Ha1 := hid a1
  have Hb1 := hid b1
  have Hc := hid hcs
  have Ha := hid a4
  have Hb := hid b4
  have Ha3 := hid a3
  have Hb3 := hid b3
  have Ha2 := hid a2
  have Hb2 := hid b2
  clear hT hD hg hv hv1 hTl hDl hG1 a1 b1 hcs a4 b4 a3 b3 hcell a2 b2
  go_enter Try.func45, Try.ntmps45
  go_wp2_with (simp only [hov])
  go_region_law (refine step_copy rfl _ _ 31 31 rfl _ _ (by simp [Act.eval, Act.put]) (by simp [Act.eval, Act.put]) (hcp1 _ _ _) ?_)
  go_wp2_with (at_builtin; refine wpl_copy _ rfl _ _ 31 31 rfl _ _ rfl rfl (hcp2 _ _) ?_)
  go_ret
  have eT := HTl.out
  have eD := HDl.out
  refine ⟨_, rfl, .inr ⟨g, off, l.length + 1, c, c2, rfl, ?_, hbg, Hb1.out, hroom, hc', by rw [Hb2.out, Ha2.out]; exact hfit, ?_⟩, ?_⟩
  · rw [insAt_flat, List.length_append, List.length_append, eT, eD, srcE_len]; omega
  · rw [insAt_flat]
    refine two_writes (cs := cs) (c1 := c1) (fun j u hu => ?_) (fun j u hu => ?_) (fun j hj => ?_) (fun j u hu => ?_) (fun j hj => ?_)
    · rw [HT.out, List.getElem?_take] at hu
      split at hu
      · exact Hc.out j u hu
      · cases hu
    · have := Ha.out (by omega) j u hu
      rwa [show off + (i + 1) * 2 + j = off + ((l.take i).flatMap srcE).length + (srcE x).length + j by rw [eT, srcE_len]; omega] at this
    · exact Ha3.out j (.inl (by rw [eT] at hj; omega))
    · have := Hb.out (by rw [srcE_len, Ha2.out]; omega) j u hu
      rwa [← eT] at this
    · refine Hb3.out j ?_
      rw [eT, srcE_len] at hj
      rw [srcE_len]
      omega
  · have e1 := setCells_grown w.drew g (off + (i + 1) * 2) ((l.drop i).flatMap srcE)
    have e2 := setCells_grown G1 g (off + i * 2) (srcE x)
    rw [← HG1.out] at e1
    exact World.grownBy.trans (a := w) (b := G1) ⟨e1.os, e1.tape, e1.output, e1.size, e1.block⟩ e2

set_option maxHeartbeats 4000000 in
set_option maxRecDepth 100000 in
/-- no room: a new row -/
theorem insert_grow (l : List Src) (x : Src) (i g off c : Nat) (cs : Array Value) (w : World) (B : Nat) (hi : i < l.length) (hnc : l.length ≤ c) (hroom : c < l.length + 1) (hc : c ≤ maxLen) (hl : l.length ≤ 1000000000000) (hB : B ≤ w.heap.size)
    (hg : w.heap[g]? = some (.cells cs 39 (0, 0))) (hfit : off + c * 2 ≤ cs.size) (hcs : ∀ j u, (l.flatMap srcE)[j]? = some u → cs[off + j]? = some u)
    (vb : Nat) (hv : w.heap[vb]? = some (.cells #[.string x.1, .string x.2] 39 (0, 0))) :
    Calls Try.prog 45 #[.slice (some ⟨g, off, none⟩) l.length c, .int .i64 i, .slice (some ⟨vb, 0, none⟩) 1 1] w fun e w' =>
      ∃ v', e = .returned v' ∧ Own w' B 39 2 v' ((insAt l i x).flatMap srcE) ∧ w.grownBy w' (some g) := by
  have hc' := hc
  unfold maxLen at hc
  have hT := flat_take srcE_len l i (by omega)
  have hD := flat_drop srcE_len l i (by omega)
  have hTl : ((l.take i).flatMap srcE).length = i * 2 := by rw [srcs_len, List.length_take, Nat.min_eq_left (by omega)]
  have hDl : ((l.drop i).flatMap srcE).length = (l.length - i) * 2 := by rw [srcs_len, List.length_drop]
  have hcell : ∀ o, w.cell? ⟨g, o, none⟩ = cs[o]? := fun o => cell_of_row w g o cs _ _ hg
  have hgl : g < w.heap.size := (Array.getElem?_eq_some_iff.1 hg).1
  have hvl : vb < w.heap.size := (Array.getElem?_eq_some_iff.1 hv).1
  obtain ⟨_, ⟨i0, z, hi0, hz0, hsize, hby, hzs⟩, _⟩ := elSrc
  have hold : (Builtin.firstCells i0.size i (.slice (some ⟨g, off, none⟩) i c)).run Try.prog w.drew = .ok ((l.take i).flatMap srcE).toArray w.drew := by
    rw [hsize]
    exact run_firstCells_some w.drew 2 i ⟨g, off, none⟩ i c _ hTl (fun j u hu => by
      rw [Addr.add_lit]
      show w.cell? _ = _
      rw [hcell]
      rw [hT, List.getElem?_take] at hu
      split at hu
      · exact hcs j u hu
      · cases hu)
  have hk : i + (l.length + 1 - i) = l.length + 1 := by omega
  obtain ⟨G, hG⟩ : ∃ G, G = grownCap w (l.length + 1) c 39 := ⟨_, rfl⟩
  obtain ⟨ROW, hROW⟩ : ∃ ROW : Array Value, ROW = ((l.take i).flatMap srcE).toArray ++ Builtin.zeroCells z.cells (l.length + 1 - i) ++ Builtin.zeroCells z.cells (G - (l.length + 1)) := ⟨_, rfl⟩
  have hGn : l.length + 1 ≤ G := by rw [hG]; exact grownCap_ge w _ _ _
  have hG63 : G ≤ maxLen := by rw [hG]; exact grownCap_le_maxLen w _ _ _ (by unfold maxLen; omega)
  have hRl : ROW.size = G * 2 := by
    rw [hROW]
    simp only [Array.size_append, List.size_toArray, size_zeroCells, hzs, hTl]
    omega
  have hrz : ∀ ty, (Builtin.append_ #[31, 3] ty #[.slice (some ⟨g, off, none⟩) i c, .int .i64 ((l.length : Int) + 1 - (i : Int))]).run Try.prog w =
      .ok (.slice (some ⟨w.heap.size, 0, none⟩) (l.length + 1) G) (w.drew.alloc (.cells ROW 39)) := fun ty => by
    have h := Lib.run_append_grow_zeros w 31 3 ty 39 i0 z .i64 .i64 Try.underlying31 Try.underlying3 hi0 hz0 (some ⟨g, off, none⟩) i c _ hold (l.length + 1 - i) (by omega) (by omega) (by omega) (by omega) (by rw [hby]; omega) (by rw [hby, hk]; exact growslice_fits hroom (by omega))
    rw [hk, ← hG, ← hROW] at h
    rw [show (l.length : Int) + 1 - (i : Int) = ((l.length + 1 - i : Nat) : Int) by omega]
    exact h
  obtain ⟨W1, hW1⟩ : ∃ W1, W1 = w.drew.alloc (.cells ROW 39) := ⟨_, rfl⟩
  have hW1g : W1.heap[w.heap.size]? = some (.cells ROW 39 (0, 0)) := by rw [hW1]; exact heap_alloc_new w.drew _
  have hW1o : ∀ k, k < w.heap.size → W1.heap[k]? = w.heap[k]? := fun k hk => by rw [hW1]; exact Below.heap_alloc w.drew _ k hk
  rw [← hW1] at hrz
  have hcpA : ∀ ty dc, (Builtin.copy_ #[31, 31] ty #[.slice (some ⟨w.heap.size, i * 2, none⟩) (l.length + 1 - i) dc, .slice (some ⟨vb, 0, none⟩) 1 1]).run Try.prog W1 = .ok (goInt 1) (W1.setCells w.heap.size (i * 2) (srcE x)) := fun ty dc => by
    refine run_copy_any (P := Try.prog) W1 _ _ ty _ 2 32 elSrc w.heap.size (i * 2) _ dc vb 0 1 1 1 (srcE x) (by simp only [Nat.min_def]; split <;> omega) rfl ?_ ?_ ?_ (one_srcE x)
    · intro j u hu
      rw [cell_of_row _ vb _ _ _ _ ((hW1o vb hvl).trans hv)]
      simpa [srcE] using hu
    · intro j hj
      simp only [srcE_len] at hj
      rw [cell_of_row _ _ _ _ _ _ hW1g, Array.getElem?_eq_getElem (by omega)]; rfl
    · intro j hj
      simp [World.frozen?, hW1g]
  obtain ⟨c1, a1, a2, a3, a4⟩ := setCells_block w.heap.size _ (0, 0) (srcE x) (i * 2) W1 ROW hW1g
  obtain ⟨W2, hW2⟩ : ∃ W2, W2 = W1.setCells w.heap.size (i * 2) (srcE x) := ⟨_, rfl⟩
  rw [← hW2] at a1 hcpA
  have hcpB : ∀ ty dc sc, (Builtin.copy_ #[31, 31] ty #[.slice (some ⟨w.heap.size, (i + 1) * 2, none⟩) (l.length - i) dc, .slice (some ⟨g, off + i * 2, none⟩) (l.length - i) sc]).run Try.prog W2.drew = .ok (goInt ((l.length - i : Nat) : Int)) (W2.drew.setCells w.heap.size ((i + 1) * 2) ((l.drop i).flatMap srcE)) := fun ty dc sc => by
    refine run_copy_any (P := Try.prog) W2.drew _ _ ty _ 2 32 elSrc w.heap.size ((i + 1) * 2) _ dc g (off + i * 2) _ sc _ _ (by simp only [Nat.min_def]; split <;> omega) hDl ?_ ?_ ?_ (srcs_one _)
    · intro j u hu
      show W2.cell? _ = _
      rw [hW2, World.cell?_of_block (a := ⟨g, _, none⟩) (setCells_far _ _ _ W1 g (by omega)), World.cell?_of_block (a := ⟨g, _, none⟩) (hW1o g hgl), hcell, Nat.add_assoc]
      rw [hD, List.getElem?_drop] at hu
      exact hcs _ u hu
    · intro j hj
      show (W2.cell? _).isSome = true
      rw [cell_of_row _ _ _ _ _ _ a1, Array.getElem?_eq_getElem (by omega)]; rfl
    · intro j hj
      show W2.frozen? _ = false
      simp [World.frozen?, a1]
  obtain ⟨c2, b1, b2, b3, b4⟩ := setCells_block w.heap.size _ (0, 0) ((l.drop i).flatMap srcE) ((i + 1) * 2) W2.drew c1 a1
  have hz2 : ¬ ((i : Int) = (l.length : Int)) := by omega
  have hz3 : (c : Int) < (l.length : Int) + 1 := by omega
  have hw1 : IntKind.i64.wrap ((i : Int) + 1) = (i : Int) + 1 := IntWalk.i64_in _ (by omega)
  have hb1 : (0 : Int) ≤ (i : Int) + 1 := by omega
  have htn : ((i : Int) + 1).toNat = i + 1 := by omega
  have hb3 : (i : Int) ≤ (l.length : Int) + 1 := by omega
  have hb4 : ¬ (c = i) := by omega
  have hin : i ≤ l.length := by omega
  have hGi : ¬ (G = i) := by omega
  have hGim : ¬ (G = i + 1) := by omega
  have hG63' := hG63
  unfold maxLen at hG63
  have HT := hid hT
  have HD := hid hD
  have HTl := hid hTl
  have HDl := hid hDl
  have Hb1 := hid b1
  have Hc := hid hcs
  have Ha := hid a4
  have Hb := hid b4
  have Ha3 := hid a3
  have Hb3 := hid b3
  have Ha2 := hid a2
  have Hb2 := hid b2
  have HR := hid hRl
  have HROW := hid hROW
  have HW1 := hid hW1
  have HW2 := hid hW2
  clear hT hD hg hv hTl hDl a1 b1 hcs a4 b4 a3 b3 hcell a2 b2 hRl hROW hW1 hW2 hG hold hk hW1g hW1o hi0 hz0 hsize hby hzs
  go_enter Try.func45, Try.ntmps45
  go_wp2_with (first
    | (at_builtin; refine wpl_append_run _ rfl _ _ _ _ rfl _ _ rfl rfl (hrz _) ?_)
    | (at_builtin; refine wpl_copy _ rfl _ _ 31 31 rfl _ _ rfl rfl (hcpA _ _) ?_))
  go_region_law (refine step_copy rfl _ _ 31 31 rfl _ _ (by simp [Act.eval, Act.put]) (by simp [Act.eval, Act.put]) (hcpB _ _ _) ?_)
  go_wp2
  go_ret
  have eT := HTl.out
  have eD := HDl.out
  refine ⟨_, rfl, .inr ⟨w.heap.size, 0, l.length + 1, G, c2, rfl, ?_, hB, Hb1.out, hGn, hG63', by rw [Hb2.out, Ha2.out, HR.out]; omega, ?_⟩, ?_⟩
  · rw [insAt_flat, List.length_append, List.length_append, eT, eD, srcE_len]; omega
  · rw [insAt_flat]
    refine two_writes' (cs := ROW) (c1 := c1) (fun j u hu => ?_) (fun j u hu => ?_) (fun j hj => ?_) (fun j u hu => ?_) (fun j hj => ?_)
    · have hj := (List.getElem?_eq_some_iff.1 hu).1
      rw [HROW.out, Nat.zero_add, Array.append_assoc, Array.getElem?_append_left (by simpa using hj)]
      simpa using hu
    · have := Ha.out (by rw [srcE_len, HR.out]; omega) j u hu
      rwa [Nat.zero_add, eT]
    · refine Ha3.out j ?_
      rw [eT, srcE_len] at hj
      rw [srcE_len]
      omega
    · have := Hb.out (by rw [eD, Ha2.out, HR.out]; omega) j u hu
      rwa [show (i + 1) * 2 + j = 0 + ((l.take i).flatMap srcE).length + (srcE x).length + j by rw [eT, srcE_len]; omega] at this
    · exact Hb3.out j (.inl (by rw [eT, srcE_len] at hj; omega))
  · have e0 : w.grownBy W1 (some g) := by rw [HW1.out]; exact ⟨rfl, rfl, rfl, by simp, fun k hk _ => Below.heap_alloc w.drew _ k hk⟩
    have e1 := setCells_grown W1 w.heap.size (i * 2) (srcE x)
    have e2 := setCells_grown W2.drew w.heap.size ((i + 1) * 2) ((l.drop i).flatMap srcE)
    rw [← HW2.out] at e1
    refine ⟨?_, ?_, ?_, ?_, ?_⟩
    · exact e2.os.trans (e1.os.trans e0.os)
    · exact e2.tape.trans (e1.tape.trans e0.tape)
    · exact e2.output.trans (e1.output.trans e0.output)
    · exact Nat.le_trans e0.size (Nat.le_trans e1.size e2.size)
    · intro k hk hne
      have hk1 := Nat.lt_of_lt_of_le hk e0.size
      have hk2 := Nat.lt_of_lt_of_le hk1 e1.size
      have hne' : some k ≠ some w.heap.size := fun e => by injection e; omega
      exact (e2.block k hk2 hne').trans ((e1.block k hk1 hne').trans (e0.block k hk hne))

/-- slices.Insert of one module, wherever -/
theorem insert_any (l : List Src) (x : Src) (v : Value) (i : Nat) (w : World) (B : Nat) (hown : Own w B 39 2 v (l.flatMap srcE)) (hi : i ≤ l.length) (hl : l.length ≤ 1000000000000) (hB : B ≤ w.heap.size)
    (vb : Nat) (hv : w.heap[vb]? = some (.cells #[.string x.1, .string x.2] 39 (0, 0))) (hne : v.ownBlock ≠ some vb) :
    Calls Try.prog 45 #[v, .int .i64 i, .slice (some ⟨vb, 0, none⟩) 1 1] w fun e w' =>
      ∃ v', e = .returned v' ∧ Own w' B 39 2 v' ((insAt l i x).flatMap srcE) ∧ w.grownBy w' v.ownBlock := by
  rcases Nat.lt_or_ge i l.length with h | h
  · have ho := hown
    rcases hown with ⟨rfl, h0⟩ | ⟨g, off, n, cap, cs, rfl, h1, hb, hg, hnc, hc, hsz, hcs⟩
    · have := srcs_len l
      rw [h0] at this
      simp at this
      omega
    · rw [srcs_len] at h1
      obtain rfl : n = l.length := by omega
      have hne' : vb ≠ g := fun e => hne (by simp [Value.ownBlock, e])
      rcases Nat.lt_or_ge cap (l.length + 1) with h2 | h2
      · exact insert_grow l x i g off cap cs w B h hnc h2 hc hl hB hg hsz hcs vb hv
      · exact insert_room l x i g off cap cs w B h h2 hc hl hb hg hsz hcs vb hv hne'
  · obtain rfl : i = l.length := by omega
    exact insert_end l x v w B hown hl hB vb hv

end Go.Proofs.Ytpjpndbagkcgcaa
