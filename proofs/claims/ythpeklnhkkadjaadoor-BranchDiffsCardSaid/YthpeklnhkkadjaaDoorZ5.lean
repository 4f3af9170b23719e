/- Contents, plain: values, keys, differences, merges. -/
import Derived.Test.YthpeklnhkkadjaaDoorY1
import Derived.Test.YthpeklnhkkadjaaDoorYC
import Derived.Test.YthpeklnhkkadjaaDoorY8
set_option linter.unusedVariables false
set_option linter.unusedSimpArgs false
namespace Go.Proofs.YthpeklnhkkadjaaDoor
open Go.RowKit
open Go.Lib hiding intOf

theorem gd_true' {α : Type} (x : Option α) : gd true x = x := rfl
theorem snocInd {α : Type} {P : List α → Prop} (h0 : P []) (h1 : ∀ l c, P l → P (l ++ [c])) (l : List α) : P l := by
  have key : ∀ m : List α, P m.reverse := fun m => by
    induction m with
    | nil => exact h0
    | cons c m ih => rw [List.reverse_cons]; exact h1 _ _ ih
  have := key l.reverse
  rwa [List.reverse_reverse] at this
def e0 : ByteArray := ByteArray.mk #[]
theorem keq_iff (a b : KeyD) : keq_KeyD a b = true ↔ a = b := keqB_iff
/-- what lies at a key, or nothing -/
def mv (m : List (KeyD × ByteArray)) (k : KeyD) : ByteArray := (mget keq_KeyD k m).getD (ByteArray.mk #[])
theorem mv_put (m : List (KeyD × ByteArray)) (k k' : KeyD) (v : ByteArray) : mv (mput keq_KeyD k' v m) k = if k = k' then v else mv m k := by
  unfold mv
  rw [mget_put keq_iff]
  by_cases h : k = k'
  · rw [if_pos ((keq_iff _ _).2 h), if_pos h]; rfl
  · rw [if_neg (by rw [keq_iff]; exact h), if_neg h]
def vals (l : List ChangeD) : List (KeyD × ByteArray) := l.foldl (fun m c => mput keq_KeyD c.Key c.Value m) []
theorem vals_snoc (l : List ChangeD) (c : ChangeD) : vals (l ++ [c]) = mput keq_KeyD c.Key c.Value (vals l) := by unfold vals; rw [List.foldl_append]; rfl
def va (l : List ChangeD) (k : KeyD) : ByteArray := mv (vals l) k
theorem va_nil (k : KeyD) : va [] k = e0 := rfl
theorem va_snoc (l : List ChangeD) (c : ChangeD) (k : KeyD) : va (l ++ [c]) k = if k = c.Key then c.Value else va l k := by
  unfold va; rw [vals_snoc, mv_put]
theorem va_out {k : KeyD} (l : List ChangeD) : (∀ c ∈ l, c.Key ≠ k) → va l k = e0 := by
  refine snocInd (P := fun l => (∀ c ∈ l, c.Key ≠ k) → va l k = e0) (fun _ => rfl) (fun l c ih h => ?_) l
  rw [va_snoc, if_neg fun e => h c (by simp) e.symm]
  exact ih fun d hd => h d (List.mem_append_left _ hd)
theorem va_in {c : ChangeD} (l : List ChangeD) : (l.map (·.Key)).Nodup → c ∈ l → va l c.Key = c.Value := by
  refine snocInd (P := fun l => (l.map (·.Key)).Nodup → c ∈ l → va l c.Key = c.Value) (fun _ h => by cases h) (fun l d ih hn h => ?_) l
  rw [List.map_append, List.nodup_append] at hn
  rw [va_snoc]
  rcases List.mem_append.1 h with h | h
  · rw [if_neg fun e => hn.2.2 c.Key (List.mem_map_of_mem h) d.Key (by simp) e]
    exact ih hn.1 h
  · rw [List.mem_singleton.1 h, if_pos rfl]
theorem values_is {l : List ChangeD} (h : l.length ≤ 1000000) : branch_values l = some (vals l) := by
  unfold branch_values
  rw [show loop (fun s : (List (KeyD × ByteArray)) × Int => branch_values_l2 l s.1 s.2) (([] : (List (KeyD × ByteArray))), 0) = some (vals l) from by
    refine (loop_gather (xs := l) (fun k => (vals (l.take k), (k : Int))) rfl (fun k c hx => ?_) ?_)
    · dsimp only
      have := lt_of_get hx
      unfold branch_values_l2
      rw [dlt_of hx, cond_true, getI_nat, hx, Option.bind_some, winc (by omega), take_snoc' hx, vals_snoc]
    · dsimp only
      unfold branch_values_l2
      rw [dlt_end, List.take_length]; rfl]
  rfl
def keysOf (l : List ChangeD) : List KeyD := l.map (·.Key)
theorem keys_l3 {l : List ChangeD} {acc : List KeyD} (h : acc.length + l.length ≤ 1000000) : loop (fun s : (List KeyD) × Int => branch_keys_l3 l s.1 s.2) (acc, 0) = some (acc ++ keysOf l) := by
  refine (loop_gather (xs := l) (fun k => (acc ++ keysOf (l.take k), (k : Int))) (by simp [keysOf]) (fun k c hx => ?_) ?_)
  · dsimp only
    have := lt_of_get hx
    unfold branch_keys_l3
    rw [dlt_of hx, cond_true, getI_nat, hx, Option.bind_some, room (by simp [keysOf]; omega), gd_true', winc (by omega), take_snoc' hx]
    simp [keysOf]
  · dsimp only
    unfold branch_keys_l3
    rw [dlt_end, List.take_length]; rfl
theorem keys_ok {ls : List (List ChangeD)} (h : (ls.flatMap keysOf).length ≤ 1000000) (h2 : ls.length ≤ 1000000) : ∃ ks, branch_keys ls = some ks ∧ IsNub (ls.flatMap keysOf) ks := by
  obtain ⟨ks, k1, k2⟩ := sorted_ok (l := ls.flatMap keysOf) (by unfold Rm; omega)
  refine ⟨ks, ?_, k2⟩
  unfold branch_keys
  rw [show loop (fun s : (List KeyD) × Int => branch_keys_l4 ls s.1 s.2) (([] : List KeyD), 0) = some (ls.flatMap keysOf) from by
    refine (loop_gather (xs := ls) (fun k => ((ls.take k).flatMap keysOf, (k : Int))) rfl (fun k c hx => ?_) ?_)
    · dsimp only
      have := lt_of_get hx
      unfold branch_keys_l4
      have hl : ((ls.take k).flatMap keysOf).length + c.length ≤ 1000000 := by
        have e : ls = ls.take (k + 1) ++ ls.drop (k + 1) := (List.take_append_drop _ _).symm
        rw [e, take_snoc' hx] at h
        simp only [List.flatMap_append, List.length_append, List.flatMap_cons, List.flatMap_nil, List.append_nil] at h
        have : (keysOf c).length = c.length := by simp [keysOf]
        omega
      rw [dlt_of hx, cond_true, getI_nat, hx, Option.bind_some, keys_l3 hl, Option.bind_some]
      unfold branch_keys_j2
      rw [winc (by omega), take_snoc' hx]
      simp
    · dsimp only
      unfold branch_keys_l4
      rw [dlt_end, List.take_length]; rfl]
  rw [Option.bind_some]
  unfold branch_keys_j1
  rw [k1]; rfl
theorem beq_bytes (a b : ByteArray) : (a.toList == b.toList) = decide (a = b) := by
  by_cases h : a = b
  · rw [h]; simp
  · rw [decide_eq_false h, beq_eq_false_iff_ne]
    exact fun e => h (toList_inj e)
def diffOf (f t : List ChangeD) (ks : List KeyD) : List ChangeD := (ks.filter fun k => !decide (va f k = va t k)).map fun k => ⟨k, va t k⟩
theorem diffOf_len (f t : List ChangeD) (ks : List KeyD) : (diffOf f t ks).length ≤ ks.length := by
  unfold diffOf; rw [List.length_map]; exact List.length_filter_le _ _
theorem diff_loop {f t : List ChangeD} {ks : List KeyD} (h : ks.length ≤ 1000000) : loop (fun s : (List ChangeD) × Int => branch_Diff_l3 (vals f) (vals t) ks s.1 s.2) (([] : List ChangeD), 0) = some (diffOf f t ks) := by
  refine (loop_gather (xs := ks) (fun n => (diffOf f t (ks.take n), (n : Int))) rfl (fun n k hx => ?_) ?_)
  · dsimp only
    have hn := lt_of_get hx
    have hl := diffOf_len f t (ks.take n)
    rw [List.length_take] at hl
    unfold branch_Diff_l3
    rw [dlt_of hx, cond_true, getI_nat, hx, Option.bind_some, Option.bind_some, Option.bind_some, Option.bind_some]
    show cond (!((va f k).toList == (va t k).toList)) (gd (roomB ((diffOf f t (ks.take n)).length + [ChangeD.mk k (va t k)].length)) (branch_Diff_j2 (n : Int) (diffOf f t (ks.take n) ++ [ChangeD.mk k (va t k)]))) (branch_Diff_j2 (n : Int) (diffOf f t (ks.take n))) = _
    rw [beq_bytes, room (by simp; omega), gd_true']
    unfold branch_Diff_j2
    rw [winc (by omega), take_snoc' hx]
    unfold diffOf
    rw [List.filter_append, List.map_append]
    cases hd : decide (va f k = va t k) <;> simp [hd]
  · dsimp only
    unfold branch_Diff_l3
    rw [dlt_end, List.take_length]; rfl
theorem diff_is {f t : List ChangeD} (hf : f.length ≤ 1000) (ht : t.length ≤ 1000) : ∃ ks, IsNub (keysOf f ++ keysOf t) ks ∧ ks.length ≤ 2000 ∧ branch_Diff f t = some (diffOf f t ks) := by
  have hl : ([f, t].flatMap keysOf).length ≤ 2000 := by simp [keysOf]; omega
  obtain ⟨ks, k1, k2⟩ := keys_ok (ls := [f, t]) (by omega) (by simp)
  have e : [f, t].flatMap keysOf = keysOf f ++ keysOf t := by simp
  have hk := k2.len
  rw [e] at k2
  refine ⟨ks, k2, by omega, ?_⟩
  unfold branch_Diff
  rw [values_is (by omega), values_is (by omega), Option.bind_some, Option.bind_some, k1, Option.bind_some, diff_loop (by omega)]
  rfl
/-- what a merge puts at a key; whether both sides clash there -/
def mval (o a b : List ChangeD) (k : KeyD) : ByteArray := if va b k = va o k ∨ va b k = va a k then va a k else if va a k = va o k then va b k else va a k
def mclash (o a b : List ChangeD) (k : KeyD) : Bool := !decide (va b k = va o k) && !decide (va b k = va a k) && !decide (va a k = va o k)
def mout (o a b : List ChangeD) (ks : List KeyD) : List ChangeD := (ks.filter fun k => !decide (mval o a b k = e0)).map fun k => ⟨k, mval o a b k⟩
theorem mout_len (o a b : List ChangeD) (ks : List KeyD) : (mout o a b ks).length ≤ ks.length := by
  unfold mout; rw [List.length_map]; exact List.length_filter_le _ _
theorem merge_loop {o a b : List ChangeD} {ks : List KeyD} (h : ks.length ≤ 1000000) : loop (fun s : (List ChangeD) × (List KeyD) × Int => branch_Merge_l5 (vals o) (vals a) (vals b) ks s.1 s.2.1 s.2.2) (([] : List ChangeD), ([] : List KeyD), 0) = some (mout o a b ks, ks.filter (mclash o a b)) := by
  refine (loop_gather (xs := ks) (fun n => (mout o a b (ks.take n), (ks.take n).filter (mclash o a b), (n : Int))) rfl (fun n k hx => ?_) ?_)
  · dsimp only
    have hn := lt_of_get hx
    have hl := mout_len o a b (ks.take n)
    have hc := List.length_filter_le (mclash o a b) (ks.take n)
    rw [List.length_take] at hl hc
    have hj3 : ∀ (cl : List KeyD) (v : ByteArray), branch_Merge_j3 (mout o a b (ks.take n)) (n : Int) k cl v = some (.go ((mout o a b (ks.take n) ++ (if v = e0 then [] else [ChangeD.mk k v])), cl, ((n + 1 : Nat) : Int))) := fun cl v => by
      unfold branch_Merge_j3
      rw [beq_bytes, room (by simp; omega), gd_true']
      unfold branch_Merge_j2
      rw [winc (by omega)]
      by_cases hv : v = e0
      · rw [if_pos hv, decide_eq_true (show v = ByteArray.mk #[] from hv)]; simp
      · rw [if_neg hv, decide_eq_false (show ¬ v = ByteArray.mk #[] from hv)]; rfl
    have hj4 : ∀ g : Bool, branch_Merge_j4 (vals o) (vals b) (mout o a b (ks.take n)) ((ks.take n).filter (mclash o a b)) (n : Int) k (va a k) g = cond g (branch_Merge_j3 (mout o a b (ks.take n)) (n : Int) k ((ks.take n).filter (mclash o a b)) (va a k)) (cond (decide (va a k = va o k)) (branch_Merge_j3 (mout o a b (ks.take n)) (n : Int) k ((ks.take n).filter (mclash o a b)) (va b k)) (branch_Merge_j3 (mout o a b (ks.take n)) (n : Int) k ((ks.take n).filter (mclash o a b) ++ [k]) (va a k))) := fun g => by
      unfold branch_Merge_j4
      rw [← beq_bytes, room (by simp; omega), gd_true']
      rfl
    have e : ∀ r, branch_Merge_l5 (vals o) (vals a) (vals b) ks (mout o a b (ks.take n)) ((ks.take n).filter (mclash o a b)) (n : Int) = r ↔ cond (decide (va b k = va o k)) (branch_Merge_j4 (vals o) (vals b) (mout o a b (ks.take n)) ((ks.take n).filter (mclash o a b)) (n : Int) k (va a k) true) (branch_Merge_j4 (vals o) (vals b) (mout o a b (ks.take n)) ((ks.take n).filter (mclash o a b)) (n : Int) k (va a k) (decide (va b k = va a k))) = r := fun r => by
      unfold branch_Merge_l5
      rw [dlt_of hx, cond_true, getI_nat, hx, Option.bind_some, Option.bind_some, Option.bind_some, Option.bind_some, Option.bind_some, ← beq_bytes, ← beq_bytes]
      exact Iff.rfl
    rw [e, hj4, hj4, hj3, hj3, hj3, take_snoc' hx]
    have em : mout o a b (ks.take n ++ [k]) = mout o a b (ks.take n) ++ (if mval o a b k = e0 then [] else [ChangeD.mk k (mval o a b k)]) := by
      unfold mout
      rw [List.filter_append, List.map_append]
      by_cases hv : mval o a b k = e0 <;> simp [hv]
    have ec : (ks.take n ++ [k]).filter (mclash o a b) = (ks.take n).filter (mclash o a b) ++ (if mclash o a b k then [k] else []) := by
      rw [List.filter_append]
      cases hv : mclash o a b k <;> simp [hv]
    rw [em, ec]
    by_cases h1 : va b k = va o k
    · have q1 : mval o a b k = va a k := by unfold mval; rw [if_pos (.inl h1)]
      have q2 : mclash o a b k = false := by unfold mclash; rw [decide_eq_true h1]; rfl
      rw [q1, q2, decide_eq_true h1]; simp
    · by_cases h2 : va b k = va a k
      · have q1 : mval o a b k = va a k := by unfold mval; rw [if_pos (.inr h2)]
        have q2 : mclash o a b k = false := by unfold mclash; rw [decide_eq_true h2]; simp
        rw [q1, q2, decide_eq_false h1, decide_eq_true h2]; simp
      · have h3 : ¬ (va b k = va o k ∨ va b k = va a k) := fun h => h.elim h1 h2
        by_cases h4 : va a k = va o k
        · have q1 : mval o a b k = va b k := by unfold mval; rw [if_neg h3, if_pos h4]
          have q2 : mclash o a b k = false := by unfold mclash; rw [decide_eq_true h4]; simp
          rw [q1, q2, decide_eq_false h1, decide_eq_false h2, decide_eq_true h4]; simp
        · have q1 : mval o a b k = va a k := by unfold mval; rw [if_neg h3, if_neg h4]
          have q2 : mclash o a b k = true := by unfold mclash; rw [decide_eq_false h4, decide_eq_false h1, decide_eq_false h2]; rfl
          rw [q1, q2, decide_eq_false h1, decide_eq_false h2, decide_eq_false h4]; simp
  · dsimp only
    unfold branch_Merge_l5
    rw [dlt_end, List.take_length]; rfl
theorem merge_is {o a b : List ChangeD} (ho : o.length ≤ 20) (ha : a.length ≤ 20) (hb : b.length ≤ 20) (co : branch_contents o = some true) (ca : branch_contents a = some true) (cb : branch_contents b = some true) :
    ∃ ks, IsNub (keysOf o ++ keysOf a ++ keysOf b) ks ∧ ks.length ≤ 60 ∧ branch_Merge o a b = some (mout o a b ks, if 0 < (ks.filter (mclash o a b)).length then (ks.filter (mclash o a b), 49) else ([], 0)) := by
  have hl : ([o, a, b].flatMap keysOf).length ≤ 60 := by simp [keysOf]; omega
  obtain ⟨ks, k1, k2⟩ := keys_ok (ls := [o, a, b]) (by omega) (by simp)
  have e : [o, a, b].flatMap keysOf = keysOf o ++ keysOf a ++ keysOf b := by simp
  have hk := k2.len
  rw [e] at k2
  refine ⟨ks, k2, by omega, ?_⟩
  unfold branch_Merge
  rw [co, ca, cb]
  simp only [Option.bind_some, Bool.not_true, cond_false]
  rw [values_is (by omega), values_is (by omega), values_is (by omega), Option.bind_some, Option.bind_some, Option.bind_some, k1, Option.bind_some, merge_loop (by omega), Option.bind_some]
  dsimp only
  unfold branch_Merge_j1
  have hm := mout_len o a b ks
  rw [decide_eq_false (show ¬ ((64 : Int) < ((mout o a b ks).length : Int)) by omega), cond_false]
  by_cases h0 : 0 < (ks.filter (mclash o a b)).length
  · rw [if_pos h0, decide_eq_true (by omega)]; rfl
  · rw [if_neg h0, decide_eq_false (by omega)]; rfl
end Go.Proofs.YthpeklnhkkadjaaDoor
