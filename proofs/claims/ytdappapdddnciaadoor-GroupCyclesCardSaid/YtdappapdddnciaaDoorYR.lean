/- Records, plain (out of XY2, XY3, XY4, XY7). -/
import Derived.Test.YtdappapdddnciaaDoorY8
import Derived.Test.YtdappapdddnciaaDoorYC
import Derived.Test.YtdappapdddnciaaDoorD1
import Derived.Test.YtdappapdddnciaaDoorD0
set_option linter.unusedVariables false
set_option linter.unusedSimpArgs false
namespace Go.Proofs.YtdappapdddnciaaDoor
open Go.RowKit
open Go.Lib hiding intOf

theorem clone_key {s : List KeyD} (h : Rm s.length) : clone_Key s = some s := by
  unfold clone_Key Rm at *
  rw [show roomB (([] : List KeyD).length + s.length) = true from room (by simp; omega)]; rfl
theorem own_is {r : RecordD} (h : Rm r.Reads.length) : record_Own r = some r := by
  unfold record_Own
  rw [clone_key h]; rfl
def RmL (l : List RecordD) : Prop := Rm l.length ∧ ∀ r ∈ l, Rm r.Reads.length
/-- records in order, each key once -/
def Asc (l : List RecordD) : Prop := l.Pairwise fun a b => kcmp a.Key b.Key < 0
/-- a list after a record is put -/
def putL (l : List RecordD) (r : RecordD) : List RecordD := (l.filter fun x => decide (kcmp x.Key r.Key < 0)) ++ r :: (l.filter fun x => decide (0 < kcmp x.Key r.Key))
theorem keqB_refl (a : KeyD) : keqB a a = true := keqB_iff.2 rfl
theorem keqB_comm (a b : KeyD) : keqB a b = keqB b a := by
  by_cases h : a = b
  · rw [h]
  · rw [keqB_no.2 h, keqB_no.2 fun e => h e.symm]
/-- the first place of a kind -/
theorem indexf_rec {s : List RecordD} {f : RecordD → Option Bool} (p : RecordD → Bool) (hl : Rm s.length) (hf : ∀ x ∈ s, f x = some (p x)) :
    (∃ (k : Nat) (x : RecordD), s[k]? = some x ∧ p x = true ∧ (∀ (j : Nat) (z : RecordD), j < k → s[j]? = some z → p z = false) ∧ indexf_Record f s = some (k : Int)) ∨ (∀ z ∈ s, p z = false) ∧ indexf_Record f s = some (-1) := by
  unfold Rm at hl
  have key := loop_first (B := fun t : Int × Int => indexf_Record_l2 s f t.1 t.2) (xs := s) p (fun k => ((s.length : Int), (k : Int))) (s0 := ((s.length : Int), 0)) rfl (y := fun k _ => Fl.out (k : Int)) (n := Fl.go ()) (fun k x hx hp => by
      unfold indexf_Record_l2
      dsimp only
      rw [dlt_of hx, cond_true, getI_nat, hx, Option.bind_some, hf x (List.mem_of_getElem? hx), Option.bind_some, hp, cond_false, winc (by have := lt_of_get hx; omega)]) (fun k x hx hp => by
      unfold indexf_Record_l2
      dsimp only
      rw [dlt_of hx, cond_true, getI_nat, hx, Option.bind_some, hf x (List.mem_of_getElem? hx), Option.bind_some, hp, cond_true]) (by
      unfold indexf_Record_l2
      dsimp only
      rw [dlt_end]; rfl)
  rcases key with ⟨k, x, h1, h2, h3, h4⟩ | ⟨h1, h2⟩
  · refine .inl ⟨k, x, h1, h2, h3, ?_⟩
    unfold indexf_Record
    rw [h4]; rfl
  · refine .inr ⟨h1, ?_⟩
    unfold indexf_Record
    rw [h2]; rfl
/-- no record -/
def noR : RecordD := ⟨⟨0, ⟨#[]⟩⟩, ⟨#[]⟩, [], 0, 0, 0, false⟩
def findL (l : List RecordD) (k : KeyD) : RecordD × Bool := match l.find? (fun r => keqB r.Key k) with | some r => (r, true) | none => (noR, false)
theorem find_at {α : Type} {p : α → Bool} {l : List α} {k : Nat} {x : α} (h1 : l[k]? = some x) (h2 : p x = true) (h3 : ∀ j z, j < k → l[j]? = some z → p z = false) : l.find? p = some x := by
  obtain ⟨h, e⟩ := List.getElem?_eq_some_iff.1 h1
  have : l = l.take k ++ x :: l.drop (k + 1) := by rw [← e]; simp
  rw [this, List.find?_append, List.find?_cons_of_pos h2]
  have : (l.take k).find? p = none := by
    rw [List.find?_eq_none]
    intro z hz
    obtain ⟨j, hj⟩ := List.mem_iff_getElem?.1 hz
    rw [List.getElem?_take] at hj
    split at hj
    · rename_i hjk
      rw [h3 j z hjk hj]; simp
    · cases hj
  rw [this]; rfl
theorem find_is {l : List RecordD} (hl : RmL l) (k : KeyD) : record_Find l k = some (findL l k) := by
  unfold record_Find findL
  rcases indexf_rec (s := l) (f := fun x0 => record_Find_1 x0 k) (fun r => keqB r.Key k) hl.1 (fun x hx => rfl) with ⟨i, x, h1, h2, h3, h4⟩ | ⟨h1, h2⟩
  · rw [h4, Option.bind_some, show decide ((i : Int) < 0) = false from decide_eq_false (by omega), cond_false, getI_nat, h1, Option.bind_some, own_is (hl.2 x (List.mem_of_getElem? h1)), find_at (p := fun r => keqB r.Key k) h1 h2 h3]
    rfl
  · rw [h2, Option.bind_some, show l.find? (fun r => keqB r.Key k) = none from List.find?_eq_none.2 fun x hx => by rw [h1 x hx]; simp]
    rfl
theorem refcmp_is (a b : KeyD) : ref23_Cmp a b = some (kcmp a b) := by
  unfold ref23_Cmp kcmp compareSM
  by_cases h1 : a.Kind < b.Kind
  · simp [h1]
  · by_cases h2 : b.Kind < a.Kind <;> simp [h1, h2]
theorem copyone_is {r : RecordD} (h : Rm r.Reads.length) : ref26_CopyOne r = some r := by
  unfold ref26_CopyOne Rm at *
  rw [show roomB (([] : List KeyD).length + r.Reads.length) = true from room (by simp; omega)]; rfl
theorem refput_is {l : List RecordD} {r : RecordD} (h : Asc l) (hl : Rm l.length) (hr : Rm r.Reads.length) : ref26_Put l r = some (putL l r) := by
  unfold Rm at hl
  have hpl : ∀ i, ((l.take i).filter fun x => decide (kcmp x.Key r.Key < 0)).length + ((l.take i).filter fun x => decide (0 < kcmp x.Key r.Key)).length ≤ l.length := fun i => by
    have h1 : ∀ m : List RecordD, (m.filter fun x => decide (kcmp x.Key r.Key < 0)).length + (m.filter fun x => decide (0 < kcmp x.Key r.Key)).length ≤ m.length := by
      intro m
      induction m with
      | nil => simp
      | cons y m ih =>
        by_cases a : kcmp y.Key r.Key < 0
        · rw [List.filter_cons_of_pos (by simpa using a), List.filter_cons_of_neg (by simp; omega)]; simp only [List.length_cons]; omega
        · by_cases b : 0 < kcmp y.Key r.Key
          · rw [List.filter_cons_of_neg (by simpa using a), List.filter_cons_of_pos (by simpa using b)]; simp only [List.length_cons]; omega
          · rw [List.filter_cons_of_neg (by simpa using a), List.filter_cons_of_neg (by simpa using b)]; simp only [List.length_cons]; omega
    have := h1 (l.take i)
    rw [List.length_take] at this; omega
  have key : Ok (ref26_Put l r) fun y => y = putL l r := by
    unfold ref26_Put
    refine Ok.loop (fun n t => n ≤ l.length ∧ t.2.2 = (n : Int) ∧ ((t.1 = l.take n ∧ t.2.1 = false ∧ ∀ x ∈ l.take n, kcmp x.Key r.Key < 0) ∨ (t.1 = putL (l.take n) r ∧ t.2.1 = true ∧ ∃ x ∈ l.take n, ¬ kcmp x.Key r.Key < 0)))
      (fun t => (t.1 = l ∧ t.2 = false ∧ ∀ x ∈ l, kcmp x.Key r.Key < 0) ∨ (t.1 = putL l r ∧ t.2 = true)) l.length ⟨Nat.zero_le _, rfl, .inl ⟨rfl, rfl, by simp⟩⟩ (fun n t hn hI => ?_) (fun t ht => ?_)
    · obtain ⟨out, put, i⟩ := t
      obtain ⟨_, h1, h2⟩ := hI
      dsimp only at h1 h2
      subst h1
      unfold ref26_Put_l6
      dsimp only
      by_cases hi : n < l.length
      · have hx : l[n]? = some l[n] := List.getElem?_eq_getElem hi
        obtain ⟨x, hxe⟩ : ∃ x, x = l[n] := ⟨_, rfl⟩
        rw [← hxe] at hx
        rw [dlt hi, cond_true, getI_nat, hx, Option.bind_some, refcmp_is, Option.bind_some]
        have tk := take_snoc' hx
        have hle := hpl n
        rcases h2 with ⟨rfl, rfl, h3⟩ | ⟨rfl, rfl, y, hy, h3⟩
        · have e0 : ((l.take n).filter fun x => decide (kcmp x.Key r.Key < 0)) = l.take n := List.filter_eq_self.2 fun x hx => by simpa using h3 x hx
          have e1 : ((l.take n).filter fun x => decide (0 < kcmp x.Key r.Key)) = [] := List.filter_eq_nil_iff.2 fun x hx => by have := h3 x hx; simp; omega
          rcases kcmp_cases x.Key r.Key with hc | hc | hc
          · rw [hc]
            unfold ref26_Put_j5 ref26_Put_j4 ref26_Put_j3
            rw [show roomB ((l.take n).length + [x].length) = true from room (by simp; omega), winc (by omega)]
            refine Ok.ret ⟨hi, hi, rfl, .inl ⟨tk.symm, rfl, fun z hz => ?_⟩⟩
            rw [tk] at hz
            rcases List.mem_append.1 hz with hz | hz
            · exact h3 z hz
            · simp only [List.mem_cons, List.not_mem_nil, or_false] at hz; subst hz; omega
          · rw [hc]
            unfold ref26_Put_j5 ref26_Put_j4 ref26_Put_j3
            rw [copyone_is hr, winc (by omega)]
            simp only [Option.bind_some]
            rw [show roomB ((l.take n).length + [r].length) = true from room (by simp; omega)]
            refine Ok.ret ⟨hi, hi, rfl, .inr ⟨?_, rfl, x, by rw [tk]; simp, by omega⟩⟩
            unfold putL
            rw [tk, List.filter_append, List.filter_append, e0, e1]
            simp [hc]
          · rw [hc]
            unfold ref26_Put_j5 ref26_Put_j4 ref26_Put_j3
            rw [copyone_is hr, winc (by omega)]
            simp only [Option.bind_some]
            rw [show roomB ((l.take n).length + [r].length) = true from room (by simp; omega), show roomB ((l.take n ++ [r]).length + [x].length) = true from room (by simp; omega)]
            refine Ok.ret ⟨hi, hi, rfl, .inr ⟨?_, rfl, x, by rw [tk]; simp, by omega⟩⟩
            unfold putL
            rw [tk, List.filter_append, List.filter_append, e0, e1]
            simp [hc]
        · have hyx : kcmp y.Key x.Key < 0 := by
            obtain ⟨j, hj⟩ := List.mem_iff_getElem?.1 hy
            rw [List.getElem?_take] at hj
            split at hj
            · rename_i hjn
              obtain ⟨q1, q2⟩ := List.getElem?_eq_some_iff.1 hj
              have := List.pairwise_iff_getElem.1 h j n q1 hi hjn
              rw [q2, ← hxe] at this; exact this
            · cases hj
          have hc : 0 < kcmp x.Key r.Key := by
            rw [kcmp_pos]
            exact kcmp_lt_of_le (b := y.Key) h3 hyx
          have hc1 : kcmp x.Key r.Key = 1 := by rcases kcmp_cases x.Key r.Key with h | h | h <;> omega
          rw [hc1]
          unfold ref26_Put_j5 ref26_Put_j4 ref26_Put_j3
          rw [winc (by omega), show roomB ((putL (l.take n) r).length + [x].length) = true from room (by unfold putL; simp only [List.length_append, List.length_cons, List.length_nil]; omega)]
          refine Ok.ret ⟨hi, hi, rfl, .inr ⟨?_, rfl, y, by rw [tk]; exact List.mem_append_left _ hy, h3⟩⟩
          unfold putL
          rw [tk, List.filter_append, List.filter_append]
          simp [hc1]
      · have hn2 : n = l.length := by omega
        rw [hn2, dlt_end, cond_false]
        rw [hn2, List.take_length] at h2
        refine Ok.ret ?_
        rcases h2 with ⟨a, b, c⟩ | ⟨a, b, c⟩
        · exact .inl ⟨a, b, c⟩
        · exact .inr ⟨a, b⟩
    · obtain ⟨out, put⟩ := t
      dsimp only at ht
      unfold ref26_Put_j2 ref26_Put_j1
      rcases ht with ⟨rfl, rfl, h3⟩ | ⟨rfl, rfl⟩
      · rw [copyone_is hr]
        simp only [Bool.not_false, cond_true, Option.bind_some]
        rw [show roomB (out.length + [r].length) = true from room (by simp; omega)]
        refine Ok.ret ?_
        unfold putL
        rw [List.filter_eq_self.2 fun x hx => by simpa using h3 x hx, List.filter_eq_nil_iff.2 fun x hx => by have := h3 x hx; simp; omega]
      · exact Ok.ret rfl
  obtain ⟨y, e, rfl⟩ := key
  exact e
theorem samelist_refl {l : List KeyD} (h : Rm l.length) : ref23_SameList l l = some true := by
  unfold Rm at h
  unfold ref23_SameList
  rw [show ((l.length : Int) != (l.length : Int)) = false by simp, cond_false]
  refine bind_to (loop_gather (xs := l) (fun i => (i : Int)) rfl (r := .go ()) (fun i x hx => ?_) ?_) rfl
  · unfold ref23_SameList_l2
    rw [dlt_of hx, cond_true, getI_nat, hx, Option.bind_some, Option.bind_some, winc (by have := lt_of_get hx; omega)]
    show cond (!keqB x x) _ _ = _
    rw [keqB_refl]; rfl
  · unfold ref23_SameList_l2
    rw [dlt_end]; rfl
theorem putL_mem {l : List RecordD} {r x : RecordD} (h : x ∈ putL l r) : x ∈ l ∨ x = r := by
  unfold putL at h
  rcases List.mem_append.1 h with h | h
  · exact .inl (List.mem_filter.1 h).1
  · rcases List.mem_cons.1 h with h | h
    · exact .inr h
    · exact .inl (List.mem_filter.1 h).1
theorem putL_len (l : List RecordD) (r : RecordD) : (putL l r).length ≤ l.length + 1 := by
  have h1 : ∀ m : List RecordD, (m.filter fun x => decide (kcmp x.Key r.Key < 0)).length + (m.filter fun x => decide (0 < kcmp x.Key r.Key)).length ≤ m.length := by
    intro m
    induction m with
    | nil => simp
    | cons y m ih =>
      by_cases a : kcmp y.Key r.Key < 0
      · rw [List.filter_cons_of_pos (by simpa using a), List.filter_cons_of_neg (by simp; omega)]; simp only [List.length_cons]; omega
      · by_cases b : 0 < kcmp y.Key r.Key
        · rw [List.filter_cons_of_neg (by simpa using a), List.filter_cons_of_pos (by simpa using b)]; simp only [List.length_cons]; omega
        · rw [List.filter_cons_of_neg (by simpa using a), List.filter_cons_of_neg (by simpa using b)]; simp only [List.length_cons]; omega
  have := h1 l
  unfold putL
  simp only [List.length_append, List.length_cons]; omega
theorem putL_asc {l : List RecordD} (h : Asc l) (r : RecordD) : Asc (putL l r) := by
  unfold Asc putL
  rw [List.pairwise_append]
  refine ⟨List.Pairwise.filter _ h, List.pairwise_cons.2 ⟨fun x hx => ?_, List.Pairwise.filter _ h⟩, fun x hx y hy => ?_⟩
  · have := (List.mem_filter.1 hx).2
    simp only [decide_eq_true_eq] at this
    exact kcmp_pos.1 this
  · have h1 := (List.mem_filter.1 hx).2
    simp only [decide_eq_true_eq] at h1
    rcases List.mem_cons.1 hy with rfl | hy
    · exact h1
    · have h2 := (List.mem_filter.1 hy).2
      simp only [decide_eq_true_eq] at h2
      exact kcmp_trans h1 (kcmp_pos.1 h2)
theorem light_is (t : List Int) : mill_Light t = some (decide (t.length ≤ 400)) := by
  unfold mill_Light
  by_cases h : t.length ≤ 400
  · rw [decide_eq_true h, decide_eq_true (by omega)]
  · rw [decide_eq_false h, decide_eq_false (by omega)]
theorem roll_is (t : List Int) : mill_Roll t = some ⟨t, 0⟩ := rfl
theorem rec_eta (r : RecordD) : RecordD.mk (KeyD.mk r.Key.Kind r.Key.Text) r.Value r.Reads r.Changed r.Verified r.Cost r.Dirty = r := rfl
theorem key_eta (k : KeyD) : KeyD.mk k.Kind k.Text = k := rfl
theorem reffind_is {l : List RecordD} (hl : RmL l) (k : KeyD) : ref26_Find l k = some (findL l k) := by
  have h1 := hl.1
  unfold Rm at h1
  unfold ref26_Find
  have key := loop_first (B := fun t : Int => ref26_Find_l2 l k t) (xs := l) (fun r => keqB r.Key k) (fun i => (i : Int)) (s0 := 0) rfl (y := fun i x => Fl.out (x, true)) (n := Fl.go ()) (fun i x hx hp => by
      unfold ref26_Find_l2
      rw [dlt_of hx, cond_true, getI_nat, hx, Option.bind_some, winc (by have := lt_of_get hx; omega)]
      show cond (keqB x.Key k) _ _ = _
      rw [hp]; rfl) (fun i x hx hp => by
      unfold ref26_Find_l2
      rw [dlt_of hx, cond_true, getI_nat, hx, Option.bind_some]
      show cond (keqB x.Key k) _ _ = _
      rw [hp, copyone_is (hl.2 x (List.mem_of_getElem? hx))]; rfl) (by
      unfold ref26_Find_l2
      rw [dlt_end]; rfl)
  unfold findL
  rcases key with ⟨i, x, h1, h2, h3, h4⟩ | ⟨h1, h2⟩
  · rw [h4, find_at (p := fun r => keqB r.Key k) h1 h2 h3]; rfl
  · rw [h2, show l.find? (fun r => keqB r.Key k) = none from List.find?_eq_none.2 fun x hx => by rw [h1 x hx]; simp]; rfl
theorem refhas_is {l : List KeyD} (hl : Rm l.length) (k : KeyD) : ref23_Has l k = some (l.any fun x => keqB k x) := by
  unfold Rm at hl
  unfold ref23_Has
  refine bind_to (loop_any (xs := l) (fun x => keqB k x) (fun i => ((l.length : Int), (i : Int), k.Kind)) rfl (y := Fl.out true) (n := Fl.go ()) (fun i x hx hp => ?_) (fun i x hx hp => ?_) ?_) ?_
  · unfold ref23_Has_l2
    dsimp only
    rw [dlt_of hx, cond_true, getI_nat, hx, Option.bind_some, winc (by have := lt_of_get hx; omega)]
    show cond (keqB x k) _ _ = _
    rw [keqB_comm, hp]; rfl
  · unfold ref23_Has_l2
    dsimp only
    rw [dlt_of hx, cond_true, getI_nat, hx, Option.bind_some]
    show cond (keqB x k) _ _ = _
    rw [keqB_comm, hp]; rfl
  · unfold ref23_Has_l2
    dsimp only
    rw [dlt_end]; rfl
  · cases l.any fun x => keqB k x <;> rfl
end Go.Proofs.YtdappapdddnciaaDoor
