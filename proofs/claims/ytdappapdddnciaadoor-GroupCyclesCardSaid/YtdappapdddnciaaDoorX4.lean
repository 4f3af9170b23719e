/- Checks, lists that are the same, the records that law 29 makes, plain. -/
import Derived.Test.YtdappapdddnciaaDoorX3
import Derived.Test.YtdappapdddnciaaDoorUV
import Derived.Test.YtdappapdddnciaaDoorE2
set_option linter.unusedVariables false
set_option linter.unusedSimpArgs false
namespace Go.Proofs.YtdappapdddnciaaDoor
open Go.RowKit
open Go.Lib hiding intOf

theorem contains_is {g : List KeyD} (hg : Rm g.length) (e : KeyD) : contains_Key g e = some (g.any fun x => keqB e x) := by
  unfold Rm at hg
  have key := loop_first (B := fun s : Int => index_Key_l2 g e s) (xs := g) (fun x => keqB e x) (fun k => (k : Int)) (s0 := 0) rfl (y := fun k _ => Fl.out (k : Int)) (n := Fl.go ()) (fun k x hx hp => by
      unfold index_Key_l2
      rw [dlt_of hx, cond_true, getI_nat, hx, Option.bind_some]
      show cond (keqB e x) _ _ = _
      rw [hp, cond_false, winc (by have := lt_of_get hx; omega)]) (fun k x hx hp => by
      unfold index_Key_l2
      rw [dlt_of hx, cond_true, getI_nat, hx, Option.bind_some]
      show cond (keqB e x) _ _ = _
      rw [hp, cond_true]) (by
      unfold index_Key_l2
      rw [dlt_end]; rfl)
  unfold contains_Key index_Key index_Key_j1
  rcases key with ⟨k, x, h1, h2, _, h4⟩ | ⟨h1, h2⟩
  · rw [h4, List.any_eq_true.2 ⟨x, List.mem_of_getElem? h1, h2⟩]
    simp only [Option.bind_some, Fl.el]
    rw [decide_eq_true (by omega)]
  · rw [h2, show g.any (fun x => keqB e x) = false from by
      rw [← Bool.not_eq_true, List.any_eq_true]
      rintro ⟨x, hx, h⟩
      rw [h1 x hx] at h; cases h]
    rfl
theorem checks_both {l : List RecordD} (hl : RmL l) {g : List KeyD} (hg : Rm g.length) : group_Checks l g = ref29_Checks l g := by
  have h1 : ∀ e, contains_Key g e = ref23_Has g e := fun e => by rw [contains_is hg, refhas_is hg]
  have h2 : ∀ e, record_Find l e = ref26_Find l e := fun e => by rw [find_is hl, reffind_is hl]
  have h4 : group_Checks_l4 g = ref29_Checks_l4 g := by
    funext a u o i
    unfold group_Checks_l4 ref29_Checks_l4 group_Checks_j3 ref29_Checks_j3
    simp only [h1]
  have h5 : group_Checks_l5 l g = ref29_Checks_l5 l g := by
    funext o i
    unfold group_Checks_l5 ref29_Checks_l5 group_Checks_j2 ref29_Checks_j2
    simp only [h2, h4]
  unfold group_Checks ref29_Checks group_Checks_j1 ref29_Checks_j1
  rw [h5]
/-- what the keys of a group have read outside of it -/
def chk1 (l : List RecordD) (g : List KeyD) (m : KeyD) : List CheckD := ((rdK l m).filter fun x => !(g.any fun y => keqB x y)).map fun x => ⟨m, x⟩
def checksL (l : List RecordD) (g h : List KeyD) : List CheckD := h.flatMap (chk1 l g)
theorem chk1_len {l : List RecordD} (hl : SmL l) (g : List KeyD) (m : KeyD) : (chk1 l g m).length ≤ 1000 := by
  unfold chk1
  rw [List.length_map]
  exact Nat.le_trans (List.length_filter_le _ _) (hl.rd m)
theorem checksL_len {l : List RecordD} (hl : SmL l) (g : List KeyD) : ∀ h : List KeyD, (checksL l g h).length ≤ h.length * 1000
  | [] => Nat.zero_le _
  | m :: h => by
    have := checksL_len hl g h
    have := chk1_len hl g m
    unfold checksL at *
    rw [List.flatMap_cons, List.length_append, List.length_cons]; omega
theorem checks_is {l : List RecordD} (hl : SmL l) {g : List KeyD} (hg : g.length ≤ 2000) : ref29_Checks l g = some (checksL l g g) := by
  unfold ref29_Checks ref29_Checks_j1
  refine bind_to (loop_gather (xs := g) (fun k => (checksL l g (g.take k), (k : Int))) rfl (r := checksL l g g) (fun k m hm => ?_) ?_) rfl
  · have hk := lt_of_get hm
    have hc := checksL_len hl g (g.take k)
    have hct : (g.take k).length ≤ 2000 := by rw [List.length_take]; omega
    unfold ref29_Checks_l5 ref29_Checks_j2
    dsimp only
    rw [dlt_of hm, cond_true, getI_nat, hm, Option.bind_some, reffind_is hl.rm, Option.bind_some, winc (by omega)]
    have hin : loop (fun s : List CheckD × Int => ref29_Checks_l4 g m (findL l m) s.1 s.2) (checksL l g (g.take k), 0) = some (checksL l g (g.take k) ++ chk1 l g m) := by
      have hrl := hl.rd m
      refine loop_gather (xs := rdK l m) (fun i => (checksL l g (g.take k) ++ (((rdK l m).take i).filter fun x => !(g.any fun y => keqB x y)).map (fun x => (⟨m, x⟩ : CheckD)), (i : Int))) (by simp) (fun i x hx => ?_) ?_
      · have hi := lt_of_get hx
        unfold ref29_Checks_l4 ref29_Checks_j3
        dsimp only
        rw [show (findL l m).1.Reads = rdK l m from rfl, dlt_of hx, cond_true, getI_nat, hx, Option.bind_some, refhas_is (by unfold Rm; omega), Option.bind_some, winc (by omega), take_snoc' hx, List.filter_append, List.map_append]
        have hpl : ((((rdK l m).take i).filter fun x => !(g.any fun y => keqB x y)).map (fun x => (⟨m, x⟩ : CheckD))).length ≤ 1000 := by
          rw [List.length_map]
          exact Nat.le_trans (filter_take_len _ _ _) hrl
        cases hh : g.any fun y => keqB x y with
        | true => simp [hh]
        | false =>
          simp only [Bool.not_false, cond_true]
          rw [gd, room (by simp only [List.length_append, List.length_singleton]; omega), cond_true]
          simp [hh]
      · unfold ref29_Checks_l4
        dsimp only
        rw [show (findL l m).1.Reads = rdK l m from rfl, dlt_end, List.take_length]; rfl
    rw [hin, Option.bind_some, take_snoc' hm]
    unfold checksL
    rw [List.flatMap_append, List.flatMap_singleton]
  · unfold ref29_Checks_l5
    dsimp only
    rw [dlt_end, List.take_length]; rfl
theorem samechecks_refl {l : List CheckD} (h : l.length ≤ 100000000) : ref29_SameChecks l l = some true := by
  unfold ref29_SameChecks
  rw [show (((l.length : Int) : Int) != (l.length : Int)) = false from by simp, cond_false]
  refine bind_to (loop_gather (B := fun s : Int => ref29_SameChecks_l2 l l s) (xs := l) (fun k => (k : Int)) rfl (r := Fl.go ()) (fun k x hx => ?_) ?_) rfl
  · unfold ref29_SameChecks_l2
    have := lt_of_get hx
    rw [dlt_of hx, cond_true, getI_nat, hx, Option.bind_some, Option.bind_some, winc (by omega)]
    simp
  · unfold ref29_SameChecks_l2
    rw [dlt_end]; rfl
theorem samelist_is {a b : List KeyD} (ha : a.length ≤ 100000000) : ref23_SameList a b = some (decide (a = b)) := by
  unfold ref23_SameList
  by_cases hl : a.length = b.length
  · rw [show (((a.length : Int) : Int) != (b.length : Int)) = false from by simp [hl], cond_false]
    have key := loop_first (B := fun s : Int => ref23_SameList_l2 a b s) (xs := a.zip b) (fun p => !(keqB p.2 p.1)) (fun k => (k : Int)) (s0 := 0) rfl (y := fun k _ => Fl.out false) (n := Fl.go ()) (fun k x hx hp => by
        obtain ⟨h1, h2⟩ := List.getElem?_zip_eq_some.1 hx
        have := lt_of_get h1
        unfold ref23_SameList_l2
        rw [dlt_of h1, cond_true, getI_nat, h1, Option.bind_some, getI_nat, h2, Option.bind_some]
        show cond (!(keqB x.2 x.1)) _ _ = _
        rw [hp, cond_false, winc (by omega)]) (fun k x hx hp => by
        obtain ⟨h1, h2⟩ := List.getElem?_zip_eq_some.1 hx
        unfold ref23_SameList_l2
        rw [dlt_of h1, cond_true, getI_nat, h1, Option.bind_some, getI_nat, h2, Option.bind_some]
        show cond (!(keqB x.2 x.1)) _ _ = _
        rw [hp, cond_true]) (by
        have : (a.zip b).length = a.length := by rw [List.length_zip]; omega
        unfold ref23_SameList_l2
        rw [this, dlt_end]; rfl)
    rcases key with ⟨k, x, h1, h2, _, h4⟩ | ⟨h1, h2⟩
    · rw [h4]
      have hne : a ≠ b := by
        rintro rfl
        obtain ⟨q1, q2⟩ := List.getElem?_zip_eq_some.1 h1
        rw [q1] at q2
        have : x.1 = x.2 := Option.some.inj q2
        rw [this, keqB_refl] at h2; cases h2
      rw [decide_eq_false hne]; rfl
    · rw [h2]
      have he : a = b := by
        refine List.ext_getElem hl fun i i1 i2 => ?_
        have hz : (a.zip b)[i]? = some (a[i], b[i]) := List.getElem?_zip_eq_some.2 ⟨List.getElem?_eq_getElem i1, List.getElem?_eq_getElem i2⟩
        have := h1 _ (List.mem_of_getElem? hz)
        simp only [Bool.not_eq_false'] at this
        exact (keqB_iff.1 this).symm
      rw [decide_eq_true he]; rfl
  · rw [show (((a.length : Int) : Int) != (b.length : Int)) = true from by simp; omega, cond_true, decide_eq_false (fun e => hl (by rw [e]))]
end Go.Proofs.YtdappapdddnciaaDoor
