/- Law 39, plain: BranchMerges. -/
import Derived.Test.YthpeklnhkkadjaaDoorZ6
import Derived.Test.YthpeklnhkkadjaaDoorE3
set_option linter.unusedVariables false
set_option linter.unusedSimpArgs false
namespace Go.Proofs.YthpeklnhkkadjaaDoor
open Go.RowKit
open Go.Lib hiding intOf

theorem merge_two {o a b : List ChangeD} (ho : CellsC 5 o) (ha : CellsC 5 a) (hb : CellsC 5 b) :
    ∃ ks, IsNub (keysOf o ++ keysOf a ++ keysOf b) ks ∧ ks.length ≤ 60 ∧ branch_Merge o a b = some (mout o a b ks, ks.filter (mclash o a b), if 0 < (ks.filter (mclash o a b)).length then 49 else 0) := by
  obtain ⟨ks, k1, k2, k3⟩ := merge_is (by have := ho.len; omega) (by have := ha.len; omega) (by have := hb.len; omega) (contents_is ho (by omega)) (contents_is ha (by omega)) (contents_is hb (by omega))
  refine ⟨ks, k1, k2, ?_⟩
  rw [k3]
  by_cases h : 0 < (ks.filter (mclash o a b)).length
  · rw [if_pos h, if_pos h]
  · rw [if_neg h, if_neg h, List.eq_nil_of_length_eq_zero (show (ks.filter (mclash o a b)).length = 0 by omega)]
theorem nub_out {o a b : List ChangeD} {ks : List KeyD} (h : IsNub (keysOf o ++ keysOf a ++ keysOf b) ks) {k : KeyD} (hk : k ∉ ks) : va o k = e0 ∧ va a k = e0 ∧ va b k = e0 := by
  rw [h.mem, List.mem_append, List.mem_append] at hk
  exact ⟨va_out o fun c hc e => hk (.inl (.inl (by rw [← e]; exact List.mem_map_of_mem hc))), va_out a fun c hc e => hk (.inl (.inr (by rw [← e]; exact List.mem_map_of_mem hc))), va_out b fun c hc e => hk (.inr (by rw [← e]; exact List.mem_map_of_mem hc))⟩
theorem mout_keys (o a b : List ChangeD) (ks : List KeyD) : keysOf (mout o a b ks) = ks.filter fun k => !decide (mval o a b k = e0) := by
  unfold keysOf mout
  rw [List.map_map]
  exact List.map_id _
theorem mout_va {o a b : List ChangeD} {ks : List KeyD} (h : IsNub (keysOf o ++ keysOf a ++ keysOf b) ks) (k : KeyD) : va (mout o a b ks) k = mval o a b k := by
  by_cases hk : k ∈ keysOf (mout o a b ks)
  · obtain ⟨c, hc, rfl⟩ := List.mem_map.1 hk
    rw [va_in _ (by
      show (keysOf (mout o a b ks)).Nodup
      rw [mout_keys]; exact (KAsc.nodup h.asc).sublist List.filter_sublist) hc]
    unfold mout at hc
    obtain ⟨k, _, rfl⟩ := List.mem_map.1 hc
    rfl
  · rw [va_out _ fun c hc e => hk (by rw [← e]; exact List.mem_map_of_mem hc)]
    rw [mout_keys, List.mem_filter] at hk
    by_cases h1 : k ∈ ks
    · refine Classical.byContradiction fun h2 => hk ⟨h1, by simpa using fun e => h2 e.symm⟩
    · obtain ⟨q1, q2, q3⟩ := nub_out h h1
      unfold mval
      rw [q1, q2, q3]; simp
theorem mout_canon {o a b x : List ChangeD} {ks : List KeyD} (h : IsNub (keysOf o ++ keysOf a ++ keysOf b) ks) (hx : CellsC 5 x) (hs : ∀ k ∈ keysOf x, k ∈ ks) (hv : ∀ k, mval o a b k = va x k) : mout o a b ks = x := by
  have hn := KAsc.nodup hx.asc
  have hk : (ks.filter fun k => !decide (mval o a b k = e0)) = keysOf x := by
    refine kasc_ext (List.Pairwise.sublist List.filter_sublist h.asc) hx.asc fun k => ?_
    rw [List.mem_filter]
    constructor
    · rintro ⟨h1, h2⟩
      refine Classical.byContradiction fun h3 => ?_
      rw [hv, va_out x fun c hc e => h3 (by rw [← e]; exact List.mem_map_of_mem hc)] at h2
      simp at h2
    · intro h1
      refine ⟨hs k h1, ?_⟩
      obtain ⟨c, hc, rfl⟩ := List.mem_map.1 h1
      rw [hv, va_in x hn hc]
      simp [(hx.vals c hc).1]
  unfold mout
  rw [hk]
  unfold keysOf
  rw [List.map_map]
  refine (List.map_congr_left (g := id) fun c hc => ?_).trans (List.map_id _)
  show ChangeD.mk c.Key (mval o a b c.Key) = c
  rw [hv, va_in x hn hc]
theorem clash_sym (o a b : List ChangeD) : mclash o a b = mclash o b a := by
  funext k
  unfold mclash
  rw [show decide (va b k = va a k) = decide (va a k = va b k) from by rw [decide_eq_decide]; exact eq_comm]
  cases decide (va b k = va o k) <;> cases decide (va a k = va b k) <;> cases decide (va a k = va o k) <;> rfl
theorem val_sym {o a b : List ChangeD} {k : KeyD} (h : mclash o a b k = false) : mval o a b k = mval o b a k := by
  unfold mclash at h
  unfold mval
  by_cases h1 : va b k = va o k <;> by_cases h2 : va a k = va o k <;> by_cases h3 : va b k = va a k <;> simp_all
theorem has_is {l : List KeyD} (hl : l.length ≤ 1000000) (k : KeyD) : ref23_Has l k = some (l.any fun e => keqB e k) := by
  unfold ref23_Has
  rw [loop_any (B := fun s : Int × Int × Int => ref23_Has_l2 l k s.1 s.2.1 s.2.2) (xs := l) (fun e => keqB e k) (fun n => ((l.length : Int), (n : Int), k.Kind)) (s0 := ((l.length : Int), 0, k.Kind)) rfl (y := Fl.out true) (n := Fl.go ()) (fun n e hx hp => by
      dsimp only
      have := lt_of_get hx
      unfold ref23_Has_l2
      rw [dlt_of hx, cond_true, getI_nat, hx, Option.bind_some]
      show cond (keqB e k) _ _ = _
      rw [hp, winc (by omega)]; rfl) (fun n e hx hp => by
      dsimp only
      unfold ref23_Has_l2
      rw [dlt_of hx, cond_true, getI_nat, hx, Option.bind_some]
      show cond (keqB e k) _ _ = _
      rw [hp]; rfl) (by
      dsimp only
      unfold ref23_Has_l2
      rw [dlt_end]; rfl)]
  cases l.any fun e => keqB e k
  · show ref23_Has_j1 = _
    rfl
  · simp [Fl.el]
theorem has_clash {o a b : List ChangeD} {ks : List KeyD} (h : IsNub (keysOf o ++ keysOf a ++ keysOf b) ks) (hl : ks.length ≤ 60) (k : KeyD) : ref23_Has (ks.filter (mclash o a b)) k = some (mclash o a b k) := by
  rw [has_is (by have := List.length_filter_le (mclash o a b) ks; omega)]
  congr 1
  cases hc : mclash o a b k
  · rw [List.any_eq_false]
    intro e he
    rw [keqB_iff]
    rintro rfl
    have := (List.mem_filter.1 he).2
    rw [hc] at this; cases this
  · rw [List.any_eq_true]
    refine ⟨k, List.mem_filter.2 ⟨?_, hc⟩, keqB_iff.2 rfl⟩
    refine Classical.byContradiction fun hk => ?_
    obtain ⟨q1, q2, q3⟩ := nub_out h hk
    unfold mclash at hc
    rw [q1, q2, q3] at hc
    simp at hc
theorem samelist_self {l : List KeyD} (h : l.length ≤ 100000) : ref23_SameList l l = some true := by
  unfold ref23_SameList
  rw [show ((l.length : Int) != (l.length : Int)) = false by simp, cond_false]
  rw [show loop (fun s : Int => ref23_SameList_l2 l l s) 0 = some (Fl.go ()) from by
    refine loop_gather (xs := l) (fun k => (k : Int)) rfl (fun k x hx => ?_) ?_
    · unfold ref23_SameList_l2
      have := lt_of_get hx
      rw [dlt_of hx, cond_true, getI_nat, hx, Option.bind_some, Option.bind_some, winc (by omega)]
      simp
    · unfold ref23_SameList_l2
      rw [dlt_end]; rfl]
  rfl
section
variable {l : List ChangeD} (hl : l.length ≤ 1000) (g0 g1 g2 g3 : List (KeyD × ByteArray))
include hl
theorem l9_0 : loop (fun s : Int × (List (KeyD × ByteArray)) × (List (KeyD × ByteArray)) × (List (KeyD × ByteArray)) × (List (KeyD × ByteArray)) => law39_BranchMerges_l9 0 l s.1 s.2.1 s.2.2.1 s.2.2.2.1 s.2.2.2.2) (0, [], g1, g2, g3) = some (vals l, g1, g2, g3) := by
  refine loop_gather (xs := l) (fun n => ((n : Int), vals (l.take n), g1, g2, g3)) rfl (fun n c hx => ?_) ?_
  · dsimp only
    have := lt_of_get hx
    unfold law39_BranchMerges_l9
    rw [dlt_of hx, cond_true, getI_nat, hx, Option.bind_some, winc (by omega), take_snoc' hx, vals_snoc]; rfl
  · dsimp only
    unfold law39_BranchMerges_l9
    rw [dlt_end, List.take_length]; rfl
theorem l9_1 : loop (fun s : Int × (List (KeyD × ByteArray)) × (List (KeyD × ByteArray)) × (List (KeyD × ByteArray)) × (List (KeyD × ByteArray)) => law39_BranchMerges_l9 1 l s.1 s.2.1 s.2.2.1 s.2.2.2.1 s.2.2.2.2) (0, g0, [], g2, g3) = some (g0, vals l, g2, g3) := by
  refine loop_gather (xs := l) (fun n => ((n : Int), g0, vals (l.take n), g2, g3)) rfl (fun n c hx => ?_) ?_
  · dsimp only
    have := lt_of_get hx
    unfold law39_BranchMerges_l9
    rw [dlt_of hx, cond_true, getI_nat, hx, Option.bind_some, winc (by omega), take_snoc' hx, vals_snoc]; rfl
  · dsimp only
    unfold law39_BranchMerges_l9
    rw [dlt_end, List.take_length]; rfl
theorem l9_2 : loop (fun s : Int × (List (KeyD × ByteArray)) × (List (KeyD × ByteArray)) × (List (KeyD × ByteArray)) × (List (KeyD × ByteArray)) => law39_BranchMerges_l9 2 l s.1 s.2.1 s.2.2.1 s.2.2.2.1 s.2.2.2.2) (0, g0, g1, [], g3) = some (g0, g1, vals l, g3) := by
  refine loop_gather (xs := l) (fun n => ((n : Int), g0, g1, vals (l.take n), g3)) rfl (fun n c hx => ?_) ?_
  · dsimp only
    have := lt_of_get hx
    unfold law39_BranchMerges_l9
    rw [dlt_of hx, cond_true, getI_nat, hx, Option.bind_some, winc (by omega), take_snoc' hx, vals_snoc]; rfl
  · dsimp only
    unfold law39_BranchMerges_l9
    rw [dlt_end, List.take_length]; rfl
theorem l9_3 : loop (fun s : Int × (List (KeyD × ByteArray)) × (List (KeyD × ByteArray)) × (List (KeyD × ByteArray)) × (List (KeyD × ByteArray)) => law39_BranchMerges_l9 3 l s.1 s.2.1 s.2.2.1 s.2.2.2.1 s.2.2.2.2) (0, g0, g1, g2, []) = some (g0, g1, g2, vals l) := by
  refine loop_gather (xs := l) (fun n => ((n : Int), g0, g1, g2, vals (l.take n))) rfl (fun n c hx => ?_) ?_
  · dsimp only
    have := lt_of_get hx
    unfold law39_BranchMerges_l9
    rw [dlt_of hx, cond_true, getI_nat, hx, Option.bind_some, winc (by omega), take_snoc' hx, vals_snoc]; rfl
  · dsimp only
    unfold law39_BranchMerges_l9
    rw [dlt_end, List.take_length]; rfl
end
theorem merges_l10 {o x y m : List ChangeD} {do_ dx dy : DiceD} {cl : List KeyD} {e : Int} (ho : o.length ≤ 1000) (hx : x.length ≤ 1000) (hy : y.length ≤ 1000) (hm : m.length ≤ 1000) :
    loop (fun s : (List (List ChangeD)) × Int × (List (KeyD × ByteArray)) × (List (KeyD × ByteArray)) × (List (KeyD × ByteArray)) × (List (KeyD × ByteArray)) => law39_BranchMerges_l10 (o, do_) (x, dx) (y, dy) (m, cl, e) s.1 s.2.1 s.2.2.1 s.2.2.2.1 s.2.2.2.2.1 s.2.2.2.2.2) ([o, x, y, m], 0, ([] : (List (KeyD × ByteArray))), ([] : (List (KeyD × ByteArray))), ([] : (List (KeyD × ByteArray))), ([] : (List (KeyD × ByteArray)))) = some (vals o, vals x, vals y, vals m) := by
  rw [loop_go (s' := ([o, x, y, m], 1, vals o, [], [], [])) (by
      dsimp only
      unfold law39_BranchMerges_l10
      show cond true _ _ = _
      rw [cond_true, show getI [o, x, y, m] 0 = some o from rfl, Option.bind_some, l9_0 ho]; rfl),
    loop_go (s' := ([o, x, y, m], 2, vals o, vals x, [], [])) (by
      dsimp only
      unfold law39_BranchMerges_l10
      show cond true _ _ = _
      rw [cond_true, show getI [o, x, y, m] 1 = some x from rfl, Option.bind_some, l9_1 hx]; rfl),
    loop_go (s' := ([o, x, y, m], 3, vals o, vals x, vals y, [])) (by
      dsimp only
      unfold law39_BranchMerges_l10
      show cond true _ _ = _
      rw [cond_true, show getI [o, x, y, m] 2 = some y from rfl, Option.bind_some, l9_2 hy]; rfl),
    loop_go (s' := ([o, x, y, m], 4, vals o, vals x, vals y, vals m)) (by
      dsimp only
      unfold law39_BranchMerges_l10
      show cond true _ _ = _
      rw [cond_true, show getI [o, x, y, m] 3 = some m from rfl, Option.bind_some, l9_3 hm]; rfl)]
  exact loop_out rfl
theorem merges_l6 {o x y : List ChangeD} {ks : List KeyD} {e : Int} (h : IsNub (keysOf o ++ keysOf x ++ keysOf y) ks) (hl : ks.length ≤ 60) :
    loop (fun s : Int => law39_BranchMerges_l6 (mout o x y ks, ks.filter (mclash o x y), e) (vals o) (vals x) (vals y) (vals (mout o x y ks)) s) 0 = some (Fl.go ()) := by
  refine loop_to (fun n => (n : Int)) 6 rfl (fun n hn => ?_) ?_
  · generalize hk : cellK n = k
    have hj4 : ∀ (c : Bool) (w : ByteArray), c = mclash o x y k → w = mval o x y k → law39_BranchMerges_j4 (mout o x y ks, ks.filter (mclash o x y), e) (vals (mout o x y ks)) (n : Int) k c w = some (.go (((n + 1 : Nat) : Int))) := fun c w hc hw => by
      unfold law39_BranchMerges_j4
      dsimp only
      rw [has_clash h hl, Option.bind_some, hc, bne_self_eq_false, cond_false, Option.bind_some]
      show cond (!((va (mout o x y ks) k).toList == w.toList)) _ _ = _
      rw [mout_va h, hw, beq_bytes, decide_eq_true rfl, Bool.not_true, cond_false]
      unfold law39_BranchMerges_j3
      rw [winc (by omega)]
    have hj5 : ∀ c : Bool, c = mclash o x y k → law39_BranchMerges_j5 (mout o x y ks, ks.filter (mclash o x y), e) (vals (mout o x y ks)) (n : Int) k (va o k) (va x k) (va y k) c = some (.go (((n + 1 : Nat) : Int))) := fun c hc => by
      unfold law39_BranchMerges_j5
      rw [beq_bytes]
      by_cases h1 : va o k = va x k
      · rw [decide_eq_true h1, cond_true]
        refine hj4 _ _ hc ?_
        unfold mval
        by_cases h2 : va y k = va o k <;> by_cases h3 : va y k = va x k <;> simp_all
      · rw [decide_eq_false h1, cond_false]
        refine hj4 _ _ hc ?_
        unfold mval
        by_cases h2 : va y k = va o k <;> by_cases h3 : va y k = va x k <;> by_cases h4 : va x k = va o k <;> simp_all
    unfold law39_BranchMerges_l6
    rw [decide_eq_true (show (n : Int) < 6 by omega), cond_true, ref23_cell (by omega), Option.bind_some, hk, Option.bind_some, Option.bind_some, Option.bind_some]
    show cond (!((va o k).toList == (va x k).toList)) (cond (!((va o k).toList == (va y k).toList)) (law39_BranchMerges_j5 (mout o x y ks, ks.filter (mclash o x y), e) (vals (mout o x y ks)) (n : Int) k (va o k) (va x k) (va y k) (!((va x k).toList == (va y k).toList))) (law39_BranchMerges_j5 (mout o x y ks, ks.filter (mclash o x y), e) (vals (mout o x y ks)) (n : Int) k (va o k) (va x k) (va y k) false)) (law39_BranchMerges_j5 (mout o x y ks, ks.filter (mclash o x y), e) (vals (mout o x y ks)) (n : Int) k (va o k) (va x k) (va y k) false) = _
    rw [beq_bytes, beq_bytes, beq_bytes]
    by_cases h1 : va o k = va x k
    · rw [decide_eq_true h1, Bool.not_true, cond_false]
      refine hj5 _ ?_
      unfold mclash
      rw [decide_eq_true h1.symm]; simp
    · rw [decide_eq_false h1, Bool.not_false, cond_true]
      by_cases h2 : va o k = va y k
      · rw [decide_eq_true h2, Bool.not_true, cond_false]
        refine hj5 _ ?_
        unfold mclash
        rw [decide_eq_true h2.symm]; simp
      · rw [decide_eq_false h2, Bool.not_false, cond_true]
        refine hj5 _ ?_
        unfold mclash
        have h1' : ¬ va x k = va o k := fun e => h1 e.symm
        have h2' : ¬ va y k = va o k := fun e => h2 e.symm
        rw [decide_eq_false h2', decide_eq_false h1', show decide (va y k = va x k) = decide (va x k = va y k) from by rw [decide_eq_decide]; exact eq_comm]
        cases decide (va x k = va y k) <;> rfl
  · rfl
theorem branchMerges_pure (t : List Int) : law39_BranchMerges t = some true := by
  unfold law39_BranchMerges
  rw [light_is, Option.bind_some]
  by_cases h : t.length ≤ 400
  · rw [decide_eq_true h]
    simp only [Bool.not_true, cond_false]
    rw [roll_is, Option.bind_some]
    obtain ⟨u1, e1, a1, d1⟩ := made_ok (d := ⟨t, 0⟩) ⟨Int.le_refl _, by dsimp only; omega, h⟩
    obtain ⟨u2, e2, a2, d2⟩ := made_ok (d := ⟨u1.2.L, u1.2.At⟩) d1
    obtain ⟨u3, e3, a3, d3⟩ := made_ok (d := ⟨u2.2.L, u2.2.At⟩) d2
    rw [e1, Option.bind_some, e2, Option.bind_some, e3, Option.bind_some]
    obtain ⟨o, do_⟩ := u1
    obtain ⟨x, dx⟩ := u2
    obtain ⟨y, dy⟩ := u3
    dsimp only at a1 a2 a3 ⊢
    have lo := a1.len
    have lx := a2.len
    have ly := a3.len
    obtain ⟨ks, n1, l1, q1⟩ := merge_two a1 a2 a3
    obtain ⟨ks', n2, l2, q2⟩ := merge_two a1 a3 a2
    have hks : ks' = ks := n2.uniq ⟨n1.asc, fun k => by rw [n1.mem]; simp only [List.mem_append]; constructor <;> rintro ((h | h) | h) <;> simp [h], by have := n1.len; simp only [List.length_append] at this ⊢; omega⟩
    subst hks
    rw [q1, Option.bind_some, q2, Option.bind_some, clash_sym o y x]
    have hcl := List.length_filter_le (mclash o x y) ks'
    have hml := mout_len o x y ks'
    have hJ : law39_BranchMerges_j11 (o, do_) (x, dx) (y, dy) (mout o x y ks', ks'.filter (mclash o x y), if 0 < (ks'.filter (mclash o x y)).length then 49 else 0) false = some true := by
      unfold law39_BranchMerges_j11
      rw [cond_false]
      dsimp only
      rw [merges_l10 (by omega) (by omega) (by omega) (by omega), Option.bind_some]
      unfold law39_BranchMerges_j7
      dsimp only
      rw [merges_l6 n1 l1, Option.bind_some]
      show law39_BranchMerges_j2 _ _ = _
      unfold law39_BranchMerges_j2
      dsimp only
      obtain ⟨k3, n3, l3, q3⟩ := merge_two a1 a2 a1
      obtain ⟨k4, n4, l4, q4⟩ := merge_two a1 a1 a2
      have c3 : k3.filter (mclash o x o) = [] := by
        rw [List.filter_eq_nil_iff]; intro k _; unfold mclash; simp
      have c4 : k4.filter (mclash o o x) = [] := by
        rw [List.filter_eq_nil_iff]; intro k _; unfold mclash; simp
      have m3 : mout o x o k3 = x := mout_canon n3 a2 (fun k hk => by rw [n3.mem]; simp [hk]) fun k => by unfold mval; rw [if_pos (.inl rfl)]
      have m4 : mout o o x k4 = x := mout_canon n4 a2 (fun k hk => by rw [n4.mem]; simp [hk]) fun k => by
        unfold mval
        by_cases h1 : va x k = va o k
        · rw [if_pos (.inl h1), h1]
        · rw [if_neg (by rintro (h | h) <;> exact h1 h), if_pos rfl]
      rw [q3, q4, c3, c4, m3, m4, Option.bind_some, Option.bind_some, if_neg (by simp)]
      dsimp only
      rw [same39 (by omega), law39_awake_is]
      rfl
    dsimp only
    rw [samelist_self (by omega), bne_self_eq_false, cond_false, Option.bind_some, Bool.not_true, cond_false]
    by_cases h0 : 0 < (ks'.filter (mclash o x y)).length
    · rw [if_pos h0, decide_eq_true (show (0 : Int) < ((ks'.filter (mclash o x y)).length : Int) by omega)]
      rw [if_pos h0] at hJ
      exact hJ
    · rw [if_neg h0, decide_eq_false (show ¬ (0 : Int) < ((ks'.filter (mclash o x y)).length : Int) by omega)]
      rw [if_neg h0] at hJ
      have hm : mout o y x ks' = mout o x y ks' := by
        have hv : ∀ k ∈ ks', mval o x y k = mval o y x k := fun k hk => val_sym (by
          cases hc : mclash o x y k
          · rfl
          · exact absurd (List.length_pos_of_mem (List.mem_filter.2 ⟨hk, hc⟩)) h0)
        unfold mout
        rw [List.filter_congr (q := fun k => !decide (mval o x y k = e0)) fun k hk => by rw [hv k hk]]
        exact List.map_congr_left fun k hk => by rw [hv k (List.mem_filter.1 hk).1]
      rw [hm, same39 (by omega)]
      exact hJ
  · rw [decide_eq_false h, law39_awake_is]; rfl
end Go.Proofs.YthpeklnhkkadjaaDoor
