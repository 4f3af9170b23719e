/- Records, plain: find, drop; the document's put and drop; some records. -/
import Derived.Test.YtjoilbmkcknnfaaDoorY2
import Derived.Test.YtjoilbmkcknnfaaDoorUV
import Derived.Test.YtjoilbmkcknnfaaDoorE2
set_option linter.unusedVariables false
set_option linter.unusedSimpArgs false
namespace Go.Proofs.YtjoilbmkcknnfaaDoor
open Go.RowKit
open Go.Lib hiding intOf

def keqB (a b : KeyD) : Bool := a.Kind == b.Kind && a.Text.toList == b.Text.toList
theorem keqB_iff {a b : KeyD} : keqB a b = true ↔ a = b := by
  unfold keqB
  obtain ⟨k, t⟩ := a
  obtain ⟨l, s⟩ := b
  simp only [Bool.and_eq_true, beq_iff_eq, KeyD.mk.injEq]
  exact ⟨fun h => ⟨h.1, toList_inj h.2⟩, fun h => ⟨h.1, by rw [h.2]⟩⟩
theorem keqB_refl (a : KeyD) : keqB a a = true := keqB_iff.2 rfl
theorem keqB_no {a b : KeyD} : keqB a b = false ↔ a ≠ b := by rw [← Bool.not_eq_true, keqB_iff]
theorem keqB_comm (a b : KeyD) : keqB a b = keqB b a := by
  by_cases h : a = b
  · rw [h]
  · rw [keqB_no.2 h, keqB_no.2 fun e => h e.symm]
/-- the first place of a kind -/
theorem indexf_rec {s : List RecordD} {f : RecordD → Option Bool} (p : RecordD → Bool) (hl : Rm s.length) (hf : ∀ x ∈ s, f x = some (p x)) :
    (∃ (k : Nat) (x : RecordD), s[k]? = some x ∧ p x = true ∧ (∀ (j : Nat) (z : RecordD), j < k → s[j]? = some z → p z = false) ∧ indexf_Record f s = some (k : Int)) ∨ (∀ z ∈ s, p z = false) ∧ indexf_Record f s = some (-1) := by
  unfold Rm at hl
  have key := loop_first (B := fun t : Int × Int => indexf_Record_l2 s f t.1 t.2) (xs := s) p (fun k => ((s.length : Int), (k : Int))) (s0 := ((s.length : Int), 0)) rfl (y := fun k _ => Fl.out (k : Int)) (n := Fl.go ()) (fun k x hx hp => by
      unfold indexf_Record_l2
      dsimp only
      rw [dlt_of hx, cond_true, getI_nat, hx, Option.bind_some, hf x (List.mem_of_getElem? hx), Option.bind_some, hp, cond_false, winc (by have := lt_of_get hx; omega)]) (fun k x hx hp => by
      unfold indexf_Record_l2
      dsimp only
      rw [dlt_of hx, cond_true, getI_nat, hx, Option.bind_some, hf x (List.mem_of_getElem? hx), Option.bind_some, hp, cond_true]) (by
      unfold indexf_Record_l2
      dsimp only
      rw [dlt_end]; rfl)
  rcases key with ⟨k, x, h1, h2, h3, h4⟩ | ⟨h1, h2⟩
  · refine .inl ⟨k, x, h1, h2, h3, ?_⟩
    unfold indexf_Record
    rw [h4]; rfl
  · refine .inr ⟨h1, ?_⟩
    unfold indexf_Record
    rw [h2]; rfl
/-- no record -/
def noR : RecordD := ⟨⟨0, ⟨#[]⟩⟩, ⟨#[]⟩, [], 0, 0, 0, false⟩
def findL (l : List RecordD) (k : KeyD) : RecordD × Bool := match l.find? (fun r => keqB r.Key k) with | some r => (r, true) | none => (noR, false)
theorem find_at {α : Type} {p : α → Bool} {l : List α} {k : Nat} {x : α} (h1 : l[k]? = some x) (h2 : p x = true) (h3 : ∀ j z, j < k → l[j]? = some z → p z = false) : l.find? p = some x := by
  obtain ⟨h, e⟩ := List.getElem?_eq_some_iff.1 h1
  have : l = l.take k ++ x :: l.drop (k + 1) := by rw [← e]; simp
  rw [this, List.find?_append, List.find?_cons_of_pos h2]
  have : (l.take k).find? p = none := by
    rw [List.find?_eq_none]
    intro z hz
    obtain ⟨j, hj⟩ := List.mem_iff_getElem?.1 hz
    rw [List.getElem?_take] at hj
    split at hj
    · rename_i hjk
      rw [h3 j z hjk hj]; simp
    · cases hj
  rw [this]; rfl
theorem find_is {l : List RecordD} (hl : RmL l) (k : KeyD) : record_Find l k = some (findL l k) := by
  unfold record_Find findL
  rcases indexf_rec (s := l) (f := fun x0 => record_Find_1 x0 k) (fun r => keqB r.Key k) hl.1 (fun x hx => rfl) with ⟨i, x, h1, h2, h3, h4⟩ | ⟨h1, h2⟩
  · rw [h4, Option.bind_some, show decide ((i : Int) < 0) = false from decide_eq_false (by omega), cond_false, getI_nat, h1, Option.bind_some, own_is (hl.2 x (List.mem_of_getElem? h1)), find_at (p := fun r => keqB r.Key k) h1 h2 h3]
    rfl
  · rw [h2, Option.bind_some, show l.find? (fun r => keqB r.Key k) = none from List.find?_eq_none.2 fun x hx => by rw [h1 x hx]; simp]
    rfl
theorem subI_to {α : Type} {xs : List α} {a : Nat} (h : a ≤ xs.length) : subI xs (a : Int) (xs.length : Int) = some (xs.drop a) := by
  rw [subI_at h (Nat.le_refl _), List.take_length]
theorem subI_from {α : Type} {xs : List α} {a : Nat} (h : a ≤ xs.length) : subI xs 0 (a : Int) = some (xs.take a) := by
  have := subI_at (xs := xs) (Nat.zero_le a) h
  rwa [List.drop_zero] at this
/-- what is deleted goes -/
theorem deletef_is {s : List RecordD} {f : RecordD → Option Bool} (p : RecordD → Bool) (hl : Rm s.length) (hf : ∀ x ∈ s, f x = some (p x)) : deletef f s = some (s.filter fun x => !p x) := by
  unfold deletef
  rcases indexf_rec (s := s) p hl hf with ⟨i, x, h1, h2, h3, h4⟩ | ⟨h1, h2⟩
  · unfold Rm at hl
    rw [h4, Option.bind_some, show ((i : Int) == -1) = false from by simp, cond_false, winc (by have := lt_of_get h1; omega)]
    have hi := lt_of_get h1
    have hf0 : (s.take i).filter (fun x => !p x) = s.take i := by
      rw [List.filter_eq_self]
      intro z hz
      obtain ⟨j, hj⟩ := List.mem_iff_getElem?.1 hz
      rw [List.getElem?_take] at hj
      split at hj
      · rename_i hji
        rw [h3 j z hji hj]; rfl
      · cases hj
    have key : Ok ((loop (fun t : List RecordD × Int × Int => deletef_l3 f t.1 t.2.1 t.2.2) (s, (i : Int), ((i + 1 : Nat) : Int))).bind fun r => deletef_j1 r.1 r.2) fun y => y = s.filter fun x => !p x := by
      refine Ok.loop (fun n t => ∃ s' i' j, t = (s', ((i' : Nat) : Int), ((j : Nat) : Int)) ∧ s'.length = s.length ∧ s'.take i' = (s.take j).filter (fun x => !p x) ∧ s'.drop j = s.drop j ∧ i' < j ∧ j ≤ s.length ∧ i + 1 + n = j) (fun t => ∃ s' i', t = (s', ((i' : Nat) : Int)) ∧ s'.length = s.length ∧ i' ≤ s.length ∧ s'.take i' = s.filter fun x => !p x) (s.length - (i + 1))
        ⟨s, i, i + 1, rfl, rfl, ?_, rfl, Nat.lt_succ_self _, hi, rfl⟩ (fun n t hn hI => ?_) (fun t ht => ?_)
      · rw [take_snoc' h1, List.filter_append, hf0]; simp [h2]
      · obtain ⟨s', i', j, rfl, e1, e2, e3, e4, e5, e6⟩ := hI
        unfold deletef_l3
        dsimp only
        by_cases hj : j < s.length
        · have hx : s[j]? = some s[j] := List.getElem?_eq_getElem hj
          have hx' : s'[j]? = some s[j] := by
            have := congrArg (fun l => l[0]?) e3
            rw [← hx]
            simpa using this
          rw [dlt (by omega), cond_true, getI_nat, hx', Option.bind_some, hf _ (List.getElem_mem hj), Option.bind_some]
          unfold deletef_j2
          rw [winc (by omega), getI_nat, winc (by omega)]
          have hi2 : i' < s'.length := by omega
          rw [List.getElem?_eq_getElem hi2, Option.bind_some, Int.toNat_natCast]
          cases hp : p s[j]
          · simp only [Bool.not_false, cond_true]
            refine Ok.ret ⟨by omega, _, i' + 1, j + 1, rfl, by simp [e1], ?_, ?_, by omega, by omega, by omega⟩
            · rw [take_snoc' hx, List.filter_append, ← e2]
              simp only [hp, Bool.not_false, List.filter_cons_of_pos, List.filter_nil]
              rw [take_snoc' (x := s[j]) (by simp [hi2]), List.take_set_of_le (Nat.le_refl _)]
            · rw [List.drop_set_of_lt (by omega)]
              have := congrArg (List.drop 1) e3
              simpa [Nat.add_comm] using this
          · simp only [Bool.not_true, cond_false]
            refine Ok.ret ⟨by omega, _, i', j + 1, rfl, e1, ?_, ?_, by omega, by omega, by omega⟩
            · rw [take_snoc' hx, List.filter_append, ← e2]
              simp [hp]
            · have := congrArg (List.drop 1) e3
              simpa [Nat.add_comm] using this
        · have hj2 : j = s.length := by omega
          rw [dnlt (by omega), cond_false]
          exact Ok.ret ⟨s', i', rfl, e1, by omega, by rw [e2, hj2, List.take_length]⟩
      · obtain ⟨s', i', rfl, e1, e2, e3⟩ := ht
        unfold deletef_j1
        dsimp only
        rw [subI_to (by omega), Option.bind_some]
        simp only [Int.toNat_natCast, List.drop_length, List.append_nil]
        rw [subI_from (by simp; omega), Option.bind_some]
        refine Ok.ret ?_
        rw [List.take_append_of_le_length (by simp; omega), List.take_take, Nat.min_self, e3]
    obtain ⟨y, e, rfl⟩ := key
    exact e
  · rw [h2, Option.bind_some]
    show some s = _
    rw [List.filter_eq_self.2 fun x hx => by rw [h1 x hx]; rfl]
def dropL (l : List RecordD) (k : KeyD) : List RecordD := l.filter fun r => !keqB r.Key k
theorem drop_is {l : List RecordD} (hl : RmL l) (k : KeyD) : record_Drop l k = some (dropL l k) := by
  unfold record_Drop dropL
  rw [copy_is hl, Option.bind_some, deletef_is (f := fun x0 => record_Drop_1 x0 k) (fun r => keqB r.Key k) hl.1 fun x hx => rfl]; rfl
/-! the document -/
theorem refcmp_is (a b : KeyD) : ref23_Cmp a b = some (kcmp a b) := by
  unfold ref23_Cmp kcmp compareSM
  by_cases h1 : a.Kind < b.Kind
  · simp [h1]
  · by_cases h2 : b.Kind < a.Kind <;> simp [h1, h2]
theorem copyone_is {r : RecordD} (h : Rm r.Reads.length) : ref26_CopyOne r = some r := by
  unfold ref26_CopyOne Rm at *
  rw [show roomB (([] : List KeyD).length + r.Reads.length) = true from room (by simp; omega)]; rfl
theorem refdrop_is {l : List RecordD} (hl : Rm l.length) (k : KeyD) : ref26_Drop l k = some (dropL l k) := by
  unfold Rm at hl
  unfold ref26_Drop
  refine bind_to (loop_gather (xs := l) (fun i => (dropL (l.take i) k, (i : Int))) rfl (r := dropL l k) (fun i x hx => ?_) ?_) rfl
  · have hi := lt_of_get hx
    unfold ref26_Drop_l3 ref26_Drop_j2
    dsimp only
    rw [dlt_of hx, cond_true, getI_nat, hx, Option.bind_some, winc (by omega)]
    have hr : roomB ((dropL (l.take i) k).length + [x].length) = true := room (by
      have := filter_take_len (fun r : RecordD => !keqB r.Key k) l i
      unfold dropL; simp only [List.length_cons, List.length_nil]; omega)
    rw [hr]
    unfold dropL
    rw [take_snoc' hx, List.filter_append]
    show cond (!keqB x.Key k) _ _ = _
    cases h : keqB x.Key k <;> simp [gd, h]
  · unfold ref26_Drop_l3
    dsimp only
    rw [dlt_end, List.take_length]; rfl
theorem refput_is {l : List RecordD} {r : RecordD} (h : Asc l) (hl : Rm l.length) (hr : Rm r.Reads.length) : ref26_Put l r = some (putL l r) := by
  unfold Rm at hl
  have hpl : ∀ i, ((l.take i).filter fun x => decide (kcmp x.Key r.Key < 0)).length + ((l.take i).filter fun x => decide (0 < kcmp x.Key r.Key)).length ≤ l.length := fun i => by
    have h1 : ∀ m : List RecordD, (m.filter fun x => decide (kcmp x.Key r.Key < 0)).length + (m.filter fun x => decide (0 < kcmp x.Key r.Key)).length ≤ m.length := by
      intro m
      induction m with
      | nil => simp
      | cons y m ih =>
        by_cases a : kcmp y.Key r.Key < 0
        · rw [List.filter_cons_of_pos (by simpa using a), List.filter_cons_of_neg (by simp; omega)]; simp only [List.length_cons]; omega
        · by_cases b : 0 < kcmp y.Key r.Key
          · rw [List.filter_cons_of_neg (by simpa using a), List.filter_cons_of_pos (by simpa using b)]; simp only [List.length_cons]; omega
          · rw [List.filter_cons_of_neg (by simpa using a), List.filter_cons_of_neg (by simpa using b)]; simp only [List.length_cons]; omega
    have := h1 (l.take i)
    rw [List.length_take] at this; omega
  have key : Ok (ref26_Put l r) fun y => y = putL l r := by
    unfold ref26_Put
    refine Ok.loop (fun n t => n ≤ l.length ∧ t.2.2 = (n : Int) ∧ ((t.1 = l.take n ∧ t.2.1 = false ∧ ∀ x ∈ l.take n, kcmp x.Key r.Key < 0) ∨ (t.1 = putL (l.take n) r ∧ t.2.1 = true ∧ ∃ x ∈ l.take n, ¬ kcmp x.Key r.Key < 0)))
      (fun t => (t.1 = l ∧ t.2 = false ∧ ∀ x ∈ l, kcmp x.Key r.Key < 0) ∨ (t.1 = putL l r ∧ t.2 = true)) l.length ⟨Nat.zero_le _, rfl, .inl ⟨rfl, rfl, by simp⟩⟩ (fun n t hn hI => ?_) (fun t ht => ?_)
    · obtain ⟨out, put, i⟩ := t
      obtain ⟨_, h1, h2⟩ := hI
      dsimp only at h1 h2
      subst h1
      unfold ref26_Put_l6
      dsimp only
      by_cases hi : n < l.length
      · have hx : l[n]? = some l[n] := List.getElem?_eq_getElem hi
        obtain ⟨x, hxe⟩ : ∃ x, x = l[n] := ⟨_, rfl⟩
        rw [← hxe] at hx
        rw [dlt hi, cond_true, getI_nat, hx, Option.bind_some, refcmp_is, Option.bind_some]
        have tk := take_snoc' hx
        have hle := hpl n
        rcases h2 with ⟨rfl, rfl, h3⟩ | ⟨rfl, rfl, y, hy, h3⟩
        · have e0 : ((l.take n).filter fun x => decide (kcmp x.Key r.Key < 0)) = l.take n := List.filter_eq_self.2 fun x hx => by simpa using h3 x hx
          have e1 : ((l.take n).filter fun x => decide (0 < kcmp x.Key r.Key)) = [] := List.filter_eq_nil_iff.2 fun x hx => by have := h3 x hx; simp; omega
          rcases kcmp_cases x.Key r.Key with hc | hc | hc
          · rw [hc]
            unfold ref26_Put_j5 ref26_Put_j4 ref26_Put_j3
            rw [show roomB ((l.take n).length + [x].length) = true from room (by simp; omega), winc (by omega)]
            refine Ok.ret ⟨hi, hi, rfl, .inl ⟨tk.symm, rfl, fun z hz => ?_⟩⟩
            rw [tk] at hz
            rcases List.mem_append.1 hz with hz | hz
            · exact h3 z hz
            · simp only [List.mem_cons, List.not_mem_nil, or_false] at hz; subst hz; omega
          · rw [hc]
            unfold ref26_Put_j5 ref26_Put_j4 ref26_Put_j3
            rw [copyone_is hr, winc (by omega)]
            simp only [Option.bind_some]
            rw [show roomB ((l.take n).length + [r].length) = true from room (by simp; omega)]
            refine Ok.ret ⟨hi, hi, rfl, .inr ⟨?_, rfl, x, by rw [tk]; simp, by omega⟩⟩
            unfold putL
            rw [tk, List.filter_append, List.filter_append, e0, e1]
            simp [hc]
          · rw [hc]
            unfold ref26_Put_j5 ref26_Put_j4 ref26_Put_j3
            rw [copyone_is hr, winc (by omega)]
            simp only [Option.bind_some]
            rw [show roomB ((l.take n).length + [r].length) = true from room (by simp; omega), show roomB ((l.take n ++ [r]).length + [x].length) = true from room (by simp; omega)]
            refine Ok.ret ⟨hi, hi, rfl, .inr ⟨?_, rfl, x, by rw [tk]; simp, by omega⟩⟩
            unfold putL
            rw [tk, List.filter_append, List.filter_append, e0, e1]
            simp [hc]
        · have hyx : kcmp y.Key x.Key < 0 := by
            obtain ⟨j, hj⟩ := List.mem_iff_getElem?.1 hy
            rw [List.getElem?_take] at hj
            split at hj
            · rename_i hjn
              obtain ⟨q1, q2⟩ := List.getElem?_eq_some_iff.1 hj
              have := List.pairwise_iff_getElem.1 h j n q1 hi hjn
              rw [q2, ← hxe] at this; exact this
            · cases hj
          have hc : 0 < kcmp x.Key r.Key := by
            rw [kcmp_pos]
            exact kcmp_lt_of_le (b := y.Key) h3 hyx
          have hc1 : kcmp x.Key r.Key = 1 := by rcases kcmp_cases x.Key r.Key with h | h | h <;> omega
          rw [hc1]
          unfold ref26_Put_j5 ref26_Put_j4 ref26_Put_j3
          rw [winc (by omega), show roomB ((putL (l.take n) r).length + [x].length) = true from room (by unfold putL; simp only [List.length_append, List.length_cons, List.length_nil]; omega)]
          refine Ok.ret ⟨hi, hi, rfl, .inr ⟨?_, rfl, y, by rw [tk]; exact List.mem_append_left _ hy, h3⟩⟩
          unfold putL
          rw [tk, List.filter_append, List.filter_append]
          simp [hc1]
      · have hn2 : n = l.length := by omega
        rw [hn2, dlt_end, cond_false]
        rw [hn2, List.take_length] at h2
        refine Ok.ret ?_
        rcases h2 with ⟨a, b, c⟩ | ⟨a, b, c⟩
        · exact .inl ⟨a, b, c⟩
        · exact .inr ⟨a, b⟩
    · obtain ⟨out, put⟩ := t
      dsimp only at ht
      unfold ref26_Put_j2 ref26_Put_j1
      rcases ht with ⟨rfl, rfl, h3⟩ | ⟨rfl, rfl⟩
      · rw [copyone_is hr]
        simp only [Bool.not_false, cond_true, Option.bind_some]
        rw [show roomB (out.length + [r].length) = true from room (by simp; omega)]
        refine Ok.ret ?_
        unfold putL
        rw [List.filter_eq_self.2 fun x hx => by simpa using h3 x hx, List.filter_eq_nil_iff.2 fun x hx => by have := h3 x hx; simp; omega]
      · exact Ok.ret rfl
  obtain ⟨y, e, rfl⟩ := key
  exact e
theorem samelist_refl {l : List KeyD} (h : Rm l.length) : ref23_SameList l l = some true := by
  unfold Rm at h
  unfold ref23_SameList
  rw [show ((l.length : Int) != (l.length : Int)) = false by simp, cond_false]
  refine bind_to (loop_gather (xs := l) (fun i => (i : Int)) rfl (r := .go ()) (fun i x hx => ?_) ?_) rfl
  · unfold ref23_SameList_l2
    rw [dlt_of hx, cond_true, getI_nat, hx, Option.bind_some, Option.bind_some, winc (by have := lt_of_get hx; omega)]
    show cond (!keqB x x) _ _ = _
    rw [keqB_refl]; rfl
  · unfold ref23_SameList_l2
    rw [dlt_end]; rfl
theorem sameone_refl {r : RecordD} (h : Rm r.Reads.length) : ref26_SameOne r r = some true := by
  unfold ref26_SameOne ref26_SameOne_j1
  rw [samelist_refl h]
  simp
theorem same_refl {l : List RecordD} (h : RmL l) : ref26_Same l l = some true := by
  have h1 := h.1
  unfold Rm at h1
  unfold ref26_Same
  rw [show ((l.length : Int) != (l.length : Int)) = false by simp, cond_false]
  refine bind_to (loop_gather (xs := l) (fun i => (i : Int)) rfl (r := .go ()) (fun i x hx => ?_) ?_) rfl
  · unfold ref26_Same_l2
    rw [dlt_of hx, cond_true, getI_nat, hx, Option.bind_some, Option.bind_some, sameone_refl (h.2 x (List.mem_of_getElem? hx)), winc (by have := lt_of_get hx; omega)]
    rfl
  · unfold ref26_Same_l2
    rw [dlt_end]; rfl
end Go.Proofs.YtjoilbmkcknnfaaDoor
