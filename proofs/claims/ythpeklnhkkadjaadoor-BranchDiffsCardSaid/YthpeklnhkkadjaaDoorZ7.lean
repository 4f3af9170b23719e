/- Law 39, plain: BranchDiffs. -/
import Derived.Test.YthpeklnhkkadjaaDoorZ6
set_option linter.unusedVariables false
set_option linter.unusedSimpArgs false
namespace Go.Proofs.YthpeklnhkkadjaaDoor
open Go.RowKit
open Go.Lib hiding intOf

def mputs (m : List (KeyD × ByteArray)) (l : List ChangeD) : List (KeyD × ByteArray) := l.foldl (fun m c => mput keq_KeyD c.Key c.Value m) m
theorem mputs_snoc (m : List (KeyD × ByteArray)) (l : List ChangeD) (c : ChangeD) : mputs m (l ++ [c]) = mput keq_KeyD c.Key c.Value (mputs m l) := by unfold mputs; rw [List.foldl_append]; rfl
theorem mputs_out (m : List (KeyD × ByteArray)) {k : KeyD} (l : List ChangeD) : k ∉ keysOf l → mv (mputs m l) k = mv m k := by
  refine snocInd (P := fun l => k ∉ keysOf l → mv (mputs m l) k = mv m k) (fun _ => rfl) (fun l c ih h => ?_) l
  have h2 : k ∉ keysOf l ∧ k ≠ c.Key := by
    unfold keysOf at *
    rw [List.map_append, List.mem_append] at h
    exact ⟨fun e => h (.inl e), fun e => h (.inr (by simp [e]))⟩
  rw [mputs_snoc, mv_put, if_neg h2.2]
  exact ih h2.1
theorem mputs_in (m : List (KeyD × ByteArray)) {c : ChangeD} (l : List ChangeD) : (keysOf l).Nodup → c ∈ l → mv (mputs m l) c.Key = c.Value := by
  refine snocInd (P := fun l => (keysOf l).Nodup → c ∈ l → mv (mputs m l) c.Key = c.Value) (fun _ h => by cases h) (fun l d ih hn h => ?_) l
  unfold keysOf at hn
  rw [List.map_append, List.nodup_append] at hn
  rw [mputs_snoc, mv_put]
  rcases List.mem_append.1 h with h | h
  · rw [if_neg fun e => hn.2.2 c.Key (List.mem_map_of_mem h) d.Key (by simp) e]
    exact ih hn.1 h
  · rw [List.mem_singleton.1 h, if_pos rfl]
theorem diff_keys (f t : List ChangeD) (ks : List KeyD) : keysOf (diffOf f t ks) = ks.filter fun k => !decide (va f k = va t k) := by
  unfold keysOf diffOf
  rw [List.map_map]
  exact List.map_id _
theorem diff_asc {f t : List ChangeD} {ks : List KeyD} (h : KAsc ks) : KAsc (keysOf (diffOf f t ks)) := by
  rw [diff_keys]; exact List.Pairwise.sublist List.filter_sublist h
theorem diff_mem {f t : List ChangeD} {ks : List KeyD} {c : ChangeD} (h : c ∈ diffOf f t ks) : va f c.Key ≠ va t c.Key ∧ c.Value = va t c.Key := by
  unfold diffOf at h
  obtain ⟨k, hk, rfl⟩ := List.mem_map.1 h
  have := (List.mem_filter.1 hk).2
  exact ⟨by simpa using this, rfl⟩
theorem diff_done {f t : List ChangeD} {ks : List KeyD} (h : IsNub (keysOf f ++ keysOf t) ks) {m : List (KeyD × ByteArray)} (hm : ∀ k, mv m k = va f k) (k : KeyD) : mv (mputs m (diffOf f t ks)) k = va t k := by
  by_cases hk : k ∈ keysOf (diffOf f t ks)
  · obtain ⟨c, hc, rfl⟩ := List.mem_map.1 hk
    rw [mputs_in m _ (KAsc.nodup (diff_asc h.asc)) hc]
    exact (diff_mem hc).2
  · rw [mputs_out m _ hk, hm]
    rw [diff_keys, List.mem_filter] at hk
    by_cases h1 : k ∈ ks
    · refine Classical.byContradiction fun h2 => hk ⟨h1, by simpa using h2⟩
    · rw [h.mem, List.mem_append] at h1
      rw [va_out f fun c hc e => h1 (.inl (by rw [← e]; exact List.mem_map_of_mem hc)), va_out t fun c hc e => h1 (.inr (by rw [← e]; exact List.mem_map_of_mem hc))]
theorem diffs_l10 {f t : List ChangeD} {ks : List KeyD} (h : IsNub (keysOf f ++ keysOf t) ks) (hl : ks.length ≤ 2000) {m : List (KeyD × ByteArray)} (hm : ∀ k, mv m k = va f k) :
    loop (fun s : (List (KeyD × ByteArray)) × Int => law39_BranchDiffs_l10 (diffOf f t ks) s.1 s.2) (m, 0) = some (Fl.go (mputs m (diffOf f t ks))) := by
  have hlen := diffOf_len f t ks
  have hasc := diff_asc (f := f) (t := t) h.asc
  refine (loop_gather (xs := diffOf f t ks) (fun n => (mputs m ((diffOf f t ks).take n), (n : Int))) rfl (fun n c hx => ?_) ?_)
  · dsimp only
    have hn := lt_of_get hx
    have hc := List.mem_of_getElem? hx
    have hj : law39_BranchDiffs_j9 (mputs m ((diffOf f t ks).take n)) (n : Int) c false = some (.go (mputs m ((diffOf f t ks).take (n + 1)), ((n + 1 : Nat) : Int))) := by
      unfold law39_BranchDiffs_j9
      rw [winc (by omega), take_snoc' hx, mputs_snoc]; rfl
    have hnew : c.Key ∉ keysOf ((diffOf f t ks).take n) := by
      have h2 := KAsc.nodup hasc
      rw [← List.take_append_drop (n + 1) (diffOf f t ks), take_snoc' hx] at h2
      unfold keysOf at *
      rw [List.map_append, List.map_append, List.nodup_append, List.nodup_append] at h2
      exact fun e => h2.1.2.2 _ e _ (by simp) rfl
    have hv : (mv (mputs m ((diffOf f t ks).take n)) c.Key).toList == c.Value.toList ↔ False := by
      rw [beq_bytes, mputs_out m _ hnew, hm, (diff_mem hc).2]
      simp [(diff_mem hc).1]
    have hv2 : ((mv (mputs m ((diffOf f t ks).take n)) c.Key).toList == c.Value.toList) = false := by
      rw [← Bool.not_eq_true, hv]; exact fun h => h
    unfold law39_BranchDiffs_l10
    rw [dlt_of hx, cond_true, getI_nat, hx, Option.bind_some, Option.bind_some]
    show cond _ _ (law39_BranchDiffs_j9 (mputs m ((diffOf f t ks).take n)) (n : Int) c ((mv (mputs m ((diffOf f t ks).take n)) c.Key).toList == c.Value.toList)) = _
    rcases (show n = 0 ∨ 0 < n by omega) with h0 | h0
    · subst h0
      rw [decide_eq_false (show ¬ ((0 : Int) < ((0 : Nat) : Int)) by omega), cond_false, hv2]
      exact hj
    · have hp := List.getElem?_eq_getElem (show n - 1 < (diffOf f t ks).length by omega)
      rw [decide_eq_true (show (0 : Int) < (n : Int) by omega), cond_true, w64 (by omega) (by omega), show (n : Int) - 1 = ((n - 1 : Nat) : Int) by omega, getI_nat, hp, Option.bind_some, refcmp_is, Option.bind_some]
      have hlt : kcmp (diffOf f t ks)[n - 1].Key c.Key < 0 := by
        have h2 := List.pairwise_iff_getElem.1 hasc (n - 1) n (by unfold keysOf; simp; omega) (by unfold keysOf; simpa using hn) (by omega)
        obtain ⟨q1, q2⟩ := List.getElem?_eq_some_iff.1 hx
        simp only [keysOf, List.getElem_map] at h2
        rw [q2] at h2; exact h2
      rw [decide_eq_false (by omega)]
      show law39_BranchDiffs_j9 (mputs m ((diffOf f t ks).take n)) (n : Int) c ((mv (mputs m ((diffOf f t ks).take n)) c.Key).toList == c.Value.toList) = _
      rw [hv2]
      exact hj
  · dsimp only
    unfold law39_BranchDiffs_l10
    rw [dlt_end, List.take_length]; rfl
theorem diffs_want {d : DiceD} {l : List ChangeD} (hl : l.length ≤ 1000) {i : Nat} (hi : i < 100) : loop (fun s : ByteArray × Int => law39_BranchDiffs_l5 (l, d) (i : Int) s.1 s.2) ((ByteArray.mk #[]), 0) = some (va l (cellK i)) := by
  refine (loop_gather (xs := l) (fun n => (va (l.take n) (cellK i), (n : Int))) rfl (fun n c hx => ?_) ?_)
  · dsimp only
    have hn := lt_of_get hx
    unfold law39_BranchDiffs_l5
    dsimp only
    rw [dlt_of hx, cond_true, getI_nat, hx, Option.bind_some, ref23_cell hi, Option.bind_some]
    show cond (keqB c.Key (cellK i)) _ _ = _
    unfold law39_BranchDiffs_j4
    rw [winc (by omega), take_snoc' hx, va_snoc]
    cases hq : keqB c.Key (cellK i)
    · rw [if_neg fun e => keqB_no.1 hq e.symm]; rfl
    · rw [if_pos (keqB_iff.1 hq).symm]; rfl
  · dsimp only
    unfold law39_BranchDiffs_l5
    rw [dlt_end, List.take_length]; rfl
theorem branchDiffs_pure (t : List Int) : law39_BranchDiffs t = some true := by
  unfold law39_BranchDiffs
  rw [light_is, Option.bind_some]
  by_cases h : t.length ≤ 400
  · rw [decide_eq_true h]
    simp only [Bool.not_true, cond_false]
    rw [roll_is, Option.bind_some]
    obtain ⟨u1, e1, a1, d1⟩ := made_ok (d := ⟨t, 0⟩) ⟨Int.le_refl _, by dsimp only; omega, h⟩
    obtain ⟨u2, e2, a2, d2⟩ := made_ok (d := ⟨u1.2.L, u1.2.At⟩) d1
    obtain ⟨u3, e3, a3, d3⟩ := made_ok (d := ⟨u2.2.L, u2.2.At⟩) d2
    rw [e1, Option.bind_some, e2, Option.bind_some, e3, Option.bind_some]
    obtain ⟨a, da⟩ := u1
    obtain ⟨b, db⟩ := u2
    obtain ⟨c, dc⟩ := u3
    dsimp only at a1 a2 a3 ⊢
    have la := a1.len
    have lb := a2.len
    have lc := a3.len
    rw [show loop (fun s : (List (KeyD × ByteArray)) × Int => law39_BranchDiffs_l13 (a, da) s.1 s.2) (([] : (List (KeyD × ByteArray))), 0) = some (vals a) from by
      refine (loop_gather (xs := a) (fun n => (vals (a.take n), (n : Int))) rfl (fun n x hx => ?_) ?_)
      · dsimp only
        have hn := lt_of_get hx
        unfold law39_BranchDiffs_l13
        dsimp only
        rw [dlt_of hx, cond_true, getI_nat, hx, Option.bind_some, winc (by omega), take_snoc' hx, vals_snoc]
      · dsimp only
        unfold law39_BranchDiffs_l13
        rw [dlt_end, List.take_length]; rfl, Option.bind_some]
    unfold law39_BranchDiffs_j12
    dsimp only
    obtain ⟨k1, n1, l1, q1⟩ := diff_is (f := a) (t := b) (by omega) (by omega)
    obtain ⟨k2, n2, l2, q2⟩ := diff_is (f := b) (t := c) (by omega) (by omega)
    rw [q1, Option.bind_some, q2, Option.bind_some]
    have hm1 : ∀ k, mv (mputs (vals a) (diffOf a b k1)) k = va b k := diff_done n1 fun _ => rfl
    have hm2 : ∀ k, mv (mputs (mputs (vals a) (diffOf a b k1)) (diffOf b c k2)) k = va c k := diff_done n2 hm1
    rw [show loop (fun s : (List (KeyD × ByteArray)) × (List (List ChangeD)) × Int => law39_BranchDiffs_l11 (diffOf a b k1) (diffOf b c k2) s.1 s.2.1 s.2.2) (vals a, [diffOf a b k1, diffOf b c k2], 0) = some (Fl.go (mputs (mputs (vals a) (diffOf a b k1)) (diffOf b c k2))) from by
      rw [loop_go (s' := (mputs (vals a) (diffOf a b k1), [diffOf a b k1, diffOf b c k2], 1)) (by
        dsimp only
        unfold law39_BranchDiffs_l11
        show cond true _ _ = _
        rw [cond_true, show getI [diffOf a b k1, diffOf b c k2] 0 = some (diffOf a b k1) from rfl, Option.bind_some, diffs_l10 n1 l1 fun _ => rfl]
        rfl),
        loop_go (s' := (mputs (mputs (vals a) (diffOf a b k1)) (diffOf b c k2), [diffOf a b k1, diffOf b c k2], 2)) (by
        dsimp only
        unfold law39_BranchDiffs_l11
        show cond true _ _ = _
        rw [cond_true, show getI [diffOf a b k1, diffOf b c k2] 1 = some (diffOf b c k2) from rfl, Option.bind_some, diffs_l10 n2 l2 hm1]
        rfl)]
      exact loop_out rfl, Option.bind_some]
    show law39_BranchDiffs_j7 _ _ = _
    unfold law39_BranchDiffs_j7
    rw [show loop (fun s : Int => law39_BranchDiffs_l6 (c, dc) (mputs (mputs (vals a) (diffOf a b k1)) (diffOf b c k2)) s) 0 = some (Fl.go ()) from by
      refine loop_to (fun n => (n : Int)) 6 rfl (fun n hn => ?_) ?_
      · unfold law39_BranchDiffs_l6
        rw [decide_eq_true (show (n : Int) < 6 by omega), cond_true, diffs_want (by omega) (by omega), Option.bind_some]
        unfold law39_BranchDiffs_j3
        rw [ref23_cell (by omega), Option.bind_some, Option.bind_some]
        show cond (!((mv (mputs (mputs (vals a) (diffOf a b k1)) (diffOf b c k2)) (cellK n)).toList == (va c (cellK n)).toList)) _ _ = _
        rw [hm2, beq_bytes, decide_eq_true rfl, Bool.not_true, cond_false]
        unfold law39_BranchDiffs_j2
        rw [winc (by omega)]
      · rfl, Option.bind_some]
    show law39_BranchDiffs_j1 = _
    unfold law39_BranchDiffs_j1
    rw [law39_awake_is]; rfl
  · rw [decide_eq_false h, law39_awake_is]; rfl
end Go.Proofs.YthpeklnhkkadjaaDoor
