/- Law 32, plain: DequeDeals. -/
import Derived.Test.YthpeklnhkkadjaaDoorZ1
set_option linter.unusedVariables false
set_option linter.unusedSimpArgs false
namespace Go.Proofs.YthpeklnhkkadjaaDoor
open Go.RowKit
open Go.Lib hiding intOf

/-- how many of the first n fall to worker j of w -/
def cntD (w n j : Nat) : Nat := (n + w - 1 - j) / w
theorem six {w : Nat} (h : 1 ≤ w) (h6 : w ≤ 6) : w = 1 ∨ w = 2 ∨ w = 3 ∨ w = 4 ∨ w = 5 ∨ w = 6 := by omega
theorem cnt_at {w i j : Nat} (h : 1 ≤ w) (h6 : w ≤ 6) (hj : j = i % w) : cntD w (i + 1) j = cntD w i j + 1 ∧ j + cntD w i j * w = i := by
  unfold cntD
  rcases six h h6 with rfl | rfl | rfl | rfl | rfl | rfl <;> omega
theorem cnt_ne {w i j : Nat} (h : 1 ≤ w) (h6 : w ≤ 6) (hj : j < w) (hn : i % w ≠ j) : cntD w (i + 1) j = cntD w i j := by
  unfold cntD
  rcases six h h6 with rfl | rfl | rfl | rfl | rfl | rfl <;> omega
theorem cnt_zero {w j : Nat} (h : 1 ≤ w) (h6 : w ≤ 6) (hj : j < w) : cntD w 0 j = 0 := by
  unfold cntD
  rcases six h h6 with rfl | rfl | rfl | rfl | rfl | rfl <;> omega
theorem cnt_lt {w n j t : Nat} (h : 1 ≤ w) (h6 : w ≤ 6) (hj : j < w) (ht : t < cntD w n j) : j + t * w < n := by
  unfold cntD at ht
  rcases six h h6 with rfl | rfl | rfl | rfl | rfl | rfl <;> omega
theorem cnt_ends {w n : Nat} (h : 1 ≤ w) (h6 : w ≤ 6) : cntD w n 0 ≤ cntD w n (w - 1) + 1 ∧ cntD w n (w - 1) ≤ cntD w n 0 ∧ cntD w n 0 ≤ n := by
  unfold cntD
  rcases six h h6 with rfl | rfl | rfl | rfl | rfl | rfl <;> omega
def sumD (w n : Nat) : Nat → Nat
  | 0 => 0
  | j + 1 => sumD w n j + cntD w n j
theorem sum_step {w i : Nat} (h : 1 ≤ w) (h6 : w ≤ 6) : ∀ j, j ≤ w → sumD w (i + 1) j = sumD w i j + if i % w < j then 1 else 0
  | 0, _ => by simp [sumD]
  | j + 1, hj => by
    show sumD w (i + 1) j + cntD w (i + 1) j = sumD w i j + cntD w i j + _
    rw [sum_step h h6 j (by omega)]
    by_cases e : i % w = j
    · rw [(cnt_at h h6 e.symm).1, if_neg (by omega), if_pos (by omega)]; omega
    · rw [cnt_ne h h6 (by omega) e]
      by_cases e2 : i % w < j
      · rw [if_pos e2, if_pos (by omega)]; omega
      · rw [if_neg e2, if_neg (by omega)]; omega
theorem sum_zero {w : Nat} (h : 1 ≤ w) (h6 : w ≤ 6) : ∀ j, j ≤ w → sumD w 0 j = 0
  | 0, _ => rfl
  | j + 1, hj => by
    show sumD w 0 j + cntD w 0 j = 0
    rw [sum_zero h h6 j (by omega), cnt_zero h h6 (by omega)]
theorem sum_all {w : Nat} (h : 1 ≤ w) (h6 : w ≤ 6) : ∀ n, sumD w n w = n
  | 0 => sum_zero h h6 w (Nat.le_refl _)
  | n + 1 => by rw [sum_step h h6 w (Nat.le_refl _), sum_all h h6 n, if_pos (Nat.mod_lt _ h)]
theorem sum_le {w n : Nat} (h : 1 ≤ w) (h6 : w ≤ 6) (j : Nat) (hj : j ≤ w) : sumD w n j ≤ n := by
  have key : ∀ d, sumD w n j ≤ sumD w n (j + d) := by
    intro d
    induction d with
    | zero => exact Nat.le_refl _
    | succ d ih => exact Nat.le_trans ih (Nat.le_add_right _ _)
  have := key (w - j)
  rw [show j + (w - j) = w by omega, sum_all h h6] at this
  exact this
theorem gd_tt {α : Type} (x : Option α) : gd true x = x := rfl
/-- worker j's share of n keys -/
def shareD (f : Nat → KeyD) (w n j : Nat) : List KeyD := (List.range (cntD w n j)).map fun t => f (j + t * w)
theorem share_at {f : Nat → KeyD} {w i j : Nat} (h : 1 ≤ w) (h6 : w ≤ 6) (hj : j = i % w) : shareD f w (i + 1) j = shareD f w i j ++ [f i] := by
  obtain ⟨h1, h2⟩ := cnt_at h h6 hj
  unfold shareD
  rw [h1, List.range_succ, List.map_append, List.map_cons, List.map_nil, h2]
theorem share_ne {f : Nat → KeyD} {w i j : Nat} (h : 1 ≤ w) (h6 : w ≤ 6) (hj : j < w) (hn : i % w ≠ j) : shareD f w (i + 1) j = shareD f w i j := by
  unfold shareD
  rw [cnt_ne h h6 hj hn]
theorem share_get {f : Nat → KeyD} {w n j t : Nat} {x : KeyD} (hx : (shareD f w n j)[t]? = some x) : t < cntD w n j ∧ x = f (j + t * w) := by
  unfold shareD at hx
  rw [List.getElem?_map] at hx
  rcases (show t < cntD w n j ∨ ¬ t < cntD w n j by omega) with h | h
  · rw [List.getElem?_range h] at hx
    exact ⟨h, (Option.some.inj hx).symm⟩
  · rw [List.getElem?_eq_none (by simpa using h)] at hx; cases hx
theorem share_len {f : Nat → KeyD} {w n j : Nat} : (shareD f w n j).length = cntD w n j := by unfold shareD; simp
/-- what the workers hold after n keys -/
def dealtD (f : Nat → KeyD) (w n : Nat) : List DequeD := (List.range w).map fun j => ⟨shareD f w n j⟩
theorem dealt_len {f : Nat → KeyD} {w n : Nat} : (dealtD f w n).length = w := by unfold dealtD; simp
theorem dealt_get {f : Nat → KeyD} {w n j : Nat} (h : j < w) : (dealtD f w n)[j]? = some ⟨shareD f w n j⟩ := by
  unfold dealtD; rw [List.getElem?_map, List.getElem?_range h]; rfl
theorem dealt_zero {f : Nat → KeyD} {w : Nat} (h : 1 ≤ w) (h6 : w ≤ 6) : List.replicate w (DequeD.mk []) = dealtD f w 0 := by
  refine List.ext_getElem? fun j => ?_
  rcases (show j < w ∨ ¬ j < w by omega) with hj | hj
  · rw [dealt_get hj, List.getElem?_replicate, if_pos hj]
    unfold shareD; rw [cnt_zero h h6 hj]; rfl
  · rw [List.getElem?_eq_none (by simpa using hj), List.getElem?_eq_none (by rw [dealt_len]; omega)]
theorem dealt_step {f : Nat → KeyD} {w i : Nat} (h : 1 ≤ w) (h6 : w ≤ 6) : (dealtD f w i).set (i % w) (DequeD.mk (shareD f w i (i % w) ++ [f i])) = dealtD f w (i + 1) := by
  refine List.ext_getElem? fun j => ?_
  rw [List.getElem?_set]
  have hm : i % w < w := Nat.mod_lt _ h
  rcases (show j < w ∨ ¬ j < w by omega) with hj | hj
  · by_cases e : i % w = j
    · rw [if_pos e, dealt_len, if_pos (by omega)]
      subst e
      rw [dealt_get hj, share_at h h6 rfl]
    · rw [if_neg e, dealt_get hj, dealt_get hj, share_ne h h6 hj e]
  · rw [if_neg (by omega), List.getElem?_eq_none (by rw [dealt_len]; omega), List.getElem?_eq_none (by rw [dealt_len]; omega)]
theorem share_room {f : Nat → KeyD} {w n j : Nat} (h : 1 ≤ w) (h6 : w ≤ 6) (hj : j < w) : cntD w n j ≤ n := by
  unfold cntD
  rcases six h h6 with rfl | rfl | rfl | rfl | rfl | rfl <;> omega
theorem tmod_nat {i w : Nat} : Int.tmod (i : Int) (w : Int) = ((i % w : Nat) : Int) := rfl
theorem deal_loop {l : List KeyD} {f : Nat → KeyD} {w : Nat} (h : 1 ≤ w) (h6 : w ≤ 6) (hl : l.length ≤ 1000) (hf : ∀ (k : Nat) x, l[k]? = some x → f k = x) :
    loop (fun s : (List DequeD) × Int => deque_Deal_l2 l (w : Int) s.1 s.2) ((List.replicate w (DequeD.mk [])), 0) = some (dealtD f w l.length) := by
  refine loop_gather (xs := l) (fun k => (dealtD f w k, (k : Int))) (by rw [dealt_zero (f := f) h h6]; rfl) (fun k x hx => ?_) ?_
  · dsimp only
    have hk := lt_of_get hx
    have hm : k % w < w := Nat.mod_lt _ h
    have hc := share_room (f := f) (n := k) h h6 hm
    unfold deque_Deal_l2
    rw [dlt_of hx, cond_true, getI_nat, hx, Option.bind_some, show ((w : Int) != 0) = true by simp; omega, tmod_nat, getI_nat, dealt_get hm]
    simp only [Option.bind_some, gd_tt, Int.toNat_natCast]
    rw [show roomB ((shareD f w k (k % w)).length + [x].length) = true from room (by rw [share_len]; simp; omega), gd_tt, ← hf k x hx, dealt_step h h6, winc (by omega)]
  · dsimp only
    unfold deque_Deal_l2
    rw [dlt_end]; rfl
theorem contains_none {l : List KeyD} (hl : l.length ≤ 1000) (h : ∀ x ∈ l, key_Valid x = some true) : containsf_key deque_Deal1 l = some false := by
  unfold containsf_key
  rw [indexf_none (by unfold maxLen; omega) fun x hx => ?_]
  · simp
  · unfold deque_Deal1
    rw [h x hx]; rfl
theorem deal_is {l : List KeyD} {f : Nat → KeyD} {w : Nat} (h : 1 ≤ w) (h6 : w ≤ 6) (hl : l.length ≤ w * 64) (hv : ∀ x ∈ l, key_Valid x = some true) (hf : ∀ (k : Nat) x, l[k]? = some x → f k = x) :
    deque_Deal l (w : Int) = some (dealtD f w l.length, 0) := by
  unfold deque_Deal
  rw [decide_eq_false (show ¬ ((w : Int) < 1) by omega), decide_eq_false (show ¬ ((6 : Int) < (w : Int)) by omega), contains_none (by omega) hv, w64 (by omega) (by omega), decide_eq_false (show ¬ ((w : Int) * 64 < (l.length : Int)) by omega), decide_eq_true (show (0 : Int) ≤ (w : Int) by omega)]
  simp only [cond_false, Option.bind_some, gd_tt, Int.toNat_natCast]
  rw [show roomB w = true from room (by omega), gd_tt, deal_loop h h6 (by omega) hf]
  rfl
noncomputable def cellsD (n : Nat) : List KeyD := (List.range n).map cellK
theorem cells_get {n k : Nat} (h : k < n) : (cellsD n)[k]? = some (cellK k) := by
  unfold cellsD; rw [List.getElem?_map, List.getElem?_range h]; rfl
theorem cells_step {n : Nat} : cellsD (n + 1) = cellsD n ++ [cellK n] := by unfold cellsD; rw [List.range_succ]; simp
theorem cells_len {n : Nat} : (cellsD n).length = n := by unfold cellsD; simp
theorem deals_l8 {m : Nat} (h : m ≤ 99) : loop (fun s : (List KeyD) × Int => law32_DequeDeals_l8 (m : Int) s.1 s.2) (([] : List KeyD), 0) = some (cellsD m) := by
  refine loop_to (fun k => (cellsD k, (k : Int))) m rfl (fun k hk => ?_) ?_
  · dsimp only
    unfold law32_DequeDeals_l8
    rw [dlt hk, cond_true, ref23_cell (by omega), Option.bind_some, show roomB ((cellsD k).length + [cellK k].length) = true from room (by rw [cells_len]; simp; omega), gd_tt, winc (by omega), cells_step]
  · dsimp only
    unfold law32_DequeDeals_l8
    rw [dlt_end]; rfl
theorem deals_l5 {w m j : Nat} (h : 1 ≤ w) (h6 : w ≤ 6) (hm : m ≤ 99) (hj : j < w) :
    loop (fun s : Int => law32_DequeDeals_l5 ((w : Int) - 1) (j : Int) ⟨shareD cellK w m j⟩ s) 0 = some (Fl.go ()) := by
  refine loop_gather (xs := shareD cellK w m j) (fun k => (k : Int)) rfl (fun k x hx => ?_) ?_
  · skip
    obtain ⟨h1, h2⟩ := share_get hx
    have h3 := cnt_lt h h6 hj h1
    have h5 : k * w ≤ 99 := by omega
    have h4 := share_room (f := cellK) (n := m) h h6 hj
    unfold law32_DequeDeals_l5
    rw [dlt_of hx, cond_true, getI_nat, hx, Option.bind_some, w64 (z := 1 + ((w : Int) - 1)) (by omega) (by omega), show (1 + ((w : Int) - 1)) = (w : Int) by omega, show (k : Int) * (w : Int) = ((k * w : Nat) : Int) by simp, w64 (z := ((k * w : Nat) : Int)) (by omega) (by omega), w64 (by omega) (by omega),
      show (j : Int) + ((k * w : Nat) : Int) = ((j + k * w : Nat) : Int) by omega, ref23_cell (by omega), Option.bind_some, h2, key_self, winc (by omega)]
    rfl
  · skip
    unfold law32_DequeDeals_l5
    rw [dlt_end]; rfl
theorem deals_l6 {w m : Nat} (h : 1 ≤ w) (h6 : w ≤ 6) (hm : m ≤ 99) :
    loop (fun s : Int × Int => law32_DequeDeals_l6 ((w : Int) - 1) (dealtD cellK w m, 0) s.1 s.2) (0, 0) = some (Fl.go (m : Int)) := by
  have hd : (dealtD cellK w m).length = w := dealt_len
  refine loop_gather (xs := dealtD cellK w m) (fun k => (((sumD w m k : Nat) : Int), (k : Int))) rfl (fun k x hx => ?_) ?_
  · dsimp only
    have hk := lt_of_get hx
    rw [hd] at hk
    have hx2 := hx
    rw [dealt_get hk] at hx2
    obtain rfl := Option.some.inj hx2
    unfold law32_DequeDeals_l6
    dsimp only
    have h1 := sum_le (n := m) h h6 (k + 1) (by omega)
    have h2 : sumD w m (k + 1) = sumD w m k + cntD w m k := rfl
    rw [dlt_of hx, cond_true, getI_nat, hx, Option.bind_some, deals_l5 h h6 hm hk, Option.bind_some]
    show law32_DequeDeals_j4 _ _ _ = _
    unfold law32_DequeDeals_j4 law32_DequeDeals_j3
    rw [winc (by omega)]
    dsimp only
    rw [share_len, w64 (by omega) (by omega), show ((sumD w m k : Nat) : Int) + ((cntD w m k : Nat) : Int) = ((sumD w m (k + 1) : Nat) : Int) by omega]
  · dsimp only
    unfold law32_DequeDeals_l6
    dsimp only
    rw [hd, dlt_end, sum_all h h6 m]; rfl
theorem dequeDeals_pure (n workers : Int) : law32_DequeDeals n workers = some true := by
  unfold law32_DequeDeals
  obtain ⟨r, hr, h1⟩ := mod_is workers (m := 6) (by omega) (by omega)
  obtain ⟨m, hm, h2⟩ := mod_is n (m := 40) (by omega) (by omega)
  rw [show (6 : Int) = ((6 : Nat) : Int) from rfl, show (40 : Int) = ((40 : Nat) : Int) from rfl, h1, h2]
  simp only [Option.bind_some]
  rw [deals_l8 (by omega)]
  simp only [Option.bind_some]
  unfold law32_DequeDeals_j7
  have hw : (1 : Int) + (r : Int) = ((r + 1 : Nat) : Int) := by omega
  have hr1 : (r : Int) = ((r + 1 : Nat) : Int) - 1 := by omega
  rw [w64 (by omega) (by omega), hw, deal_is (f := cellK) (w := r + 1) (by omega) (by omega) (by rw [cells_len]; omega) (fun x hx => ?_) (fun k x hx => ?_)]
  · simp only [Option.bind_some, cells_len]
    rw [dealt_len, hr1, deals_l6 (by omega) (by omega) (by omega)]
    rw [show ((0 : Int) != 0) = false from rfl, show (((r + 1 : Nat) : Int) != ((r + 1 : Nat) : Int)) = false by simp]
    simp only [cond_false, Option.bind_some]
    show law32_DequeDeals_j2 _ _ _ _ = _
    unfold law32_DequeDeals_j2
    dsimp only
    have e0 := dealt_get (f := cellK) (w := r + 1) (n := m) (j := 0) (by omega)
    have e1 := dealt_get (f := cellK) (w := r + 1) (n := m) (j := r) (by omega)
    obtain ⟨c1, c2, c3⟩ := cnt_ends (w := r + 1) (n := m) (by omega) (by omega)
    rw [show r + 1 - 1 = r by omega] at c1 c2
    rw [cells_len, show (((m : Int)) == (m : Int)) = true by simp, cond_true, show (0 : Int) = ((0 : Nat) : Int) from rfl, getI_nat, e0, Option.bind_some, w64 (z := 1 + (((r + 1 : Nat) : Int) - 1)) (by omega) (by omega), show (1 : Int) + (((r + 1 : Nat) : Int) - 1) - 1 = ((r : Nat) : Int) by omega, w64 (by omega) (by omega), getI_nat, e1, Option.bind_some]
    dsimp only
    rw [share_len, share_len, w64 (by omega) (by omega), decide_eq_true (by omega), cond_true, law32_awake_is]
    rfl
  · unfold cellsD at hx
    obtain ⟨k, hk, rfl⟩ := List.mem_map.1 hx
    exact key_cell (by have := List.mem_range.1 hk; omega)
  · have hk := lt_of_get hx
    rw [cells_len] at hk
    rw [cells_get hk] at hx
    exact Option.some.inj hx
end Go.Proofs.YthpeklnhkkadjaaDoor
