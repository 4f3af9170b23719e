/- Sorting by the document. -/
import Derived.Test.YtdappapdddnciaaDoorYR
set_option linter.unusedVariables false
set_option linter.unusedSimpArgs false
namespace Go.Proofs.YtdappapdddnciaaDoor
open Go.RowKit
open Go.Lib hiding intOf

theorem ins_asc {out : List KeyD} (h : KAsc out) {i : Nat} {k : KeyD} (h1 : ∀ y ∈ out.take i, kcmp y k < 0) (h2 : ∀ y ∈ out.drop i, kcmp k y < 0) : KAsc (out.take i ++ [k] ++ out.drop i) := by
  unfold KAsc at *
  rw [List.append_assoc, List.pairwise_append]
  refine ⟨h.sublist (List.take_sublist _ _), List.pairwise_cons.2 ⟨fun y hy => h2 y hy, h.sublist (List.drop_sublist _ _)⟩, fun a ha b hb => ?_⟩
  rcases List.mem_cons.1 hb with rfl | hb
  · exact h1 a ha
  · exact kcmp_trans (h1 a ha) (h2 b hb)
theorem ins_mem {out : List KeyD} {i : Nat} {k x : KeyD} : x ∈ out.take i ++ [k] ++ out.drop i ↔ x ∈ out ∨ x = k := by
  conv => rhs; rw [← List.take_append_drop i out]
  simp only [List.mem_append, List.mem_cons, List.not_mem_nil, or_false]
  constructor
  · rintro ((h | h) | h)
    · exact .inl (.inl h)
    · exact .inr h
    · exact .inl (.inr h)
  · rintro ((h | h) | h)
    · exact .inl (.inl h)
    · exact .inr h
    · exact .inl (.inr h)
theorem ref_sorted_ok {l : List KeyD} (hl : Rm l.length) : ∃ m, ref23_Sorted l = some m ∧ IsNub l m := by
  unfold Rm at hl
  have key : Ok (ref23_Sorted l) fun m => IsNub l m := by
    unfold ref23_Sorted
    refine Ok.loop (fun n s => s.2 = (n : Int) ∧ n ≤ l.length ∧ IsNub (l.take n) s.1) (fun r => IsNub l r) l.length ⟨rfl, Nat.zero_le _, List.Pairwise.nil, fun x => by simp, by simp⟩ (fun n s hn hI => ?_) (fun r hr => Ok.ret hr)
    obtain ⟨out, g⟩ := s
    obtain ⟨h1, h2, h3⟩ := hI
    dsimp only at h1 h3
    subst h1
    have hol := h3.len
    rw [List.length_take] at hol
    unfold ref23_Sorted_l6
    dsimp only
    by_cases hi : n < l.length
    · have hx : l[n]? = some l[n] := List.getElem?_eq_getElem hi
      obtain ⟨k, hk⟩ : ∃ k, k = l[n] := ⟨_, rfl⟩
      rw [← hk] at hx
      rw [dlt hi, cond_true, getI_nat, hx, Option.bind_some]
      have stay : k ∈ out → IsNub (l.take (n + 1)) out := fun hm => ⟨h3.asc, fun x => by
        rw [take_snoc' hx, List.mem_append, h3.mem]
        constructor
        · exact .inl
        · rintro (h | h)
          · exact h
          · simp only [List.mem_cons, List.not_mem_nil, or_false] at h
            subst h; exact (h3.mem _).1 hm, by rw [List.length_take]; omega⟩
      have put : ∀ i : Nat, i ≤ out.length → (∀ y ∈ out.take i, kcmp y k < 0) → (∀ y ∈ out.drop i, kcmp k y < 0) → IsNub (l.take (n + 1)) (out.take i ++ [k] ++ out.drop i) := fun i hio q1 q2 => ⟨ins_asc h3.asc q1 q2, fun x => by
        rw [ins_mem, take_snoc' hx, List.mem_append, h3.mem]
        simp, by simp only [List.length_append, List.length_take, List.length_drop, List.length_cons, List.length_nil]; omega⟩
      have j3 : ∀ i : Nat, i ≤ out.length → (∀ y ∈ out.take i, kcmp y k < 0) → (∀ y ∈ out.drop i, kcmp k y < 0) → Ok (ref23_Sorted_j3 out (n : Int) k (i : Int) true) fun r => match r with
          | .go s' => n < l.length ∧ s'.2 = ((n + 1 : Nat) : Int) ∧ n + 1 ≤ l.length ∧ IsNub (l.take (n + 1)) s'.1
          | .out r => IsNub l r := fun i hio q1 q2 => by
        unfold ref23_Sorted_j3 ref23_Sorted_j2
        rw [cond_true, subI_from hio, Option.bind_some, subI_to hio, Option.bind_some, winc (by omega)]
        have r1 : roomB (([] : List KeyD).length + (out.take i).length) = true := room (by simp; omega)
        have r2 : roomB ((([] : List KeyD) ++ out.take i).length + [k].length) = true := room (by simp; omega)
        have r3 : roomB (((([] : List KeyD) ++ out.take i) ++ [k]).length + (out.drop i).length) = true := room (by simp; omega)
        rw [r1, r2, r3]
        simp only [gd, cond_true, List.nil_append]
        exact Ok.ret ⟨hi, rfl, hi, put i hio q1 q2⟩
      have inner := loop_first (B := fun t : Int => ref23_Sorted_l5 out k t) (xs := out) (fun y => !decide (kcmp y k < 0)) (fun i => (i : Int)) (s0 := 0) rfl (y := fun i _ => (i : Int)) (n := (out.length : Int)) (fun i y hy hp => by
          unfold ref23_Sorted_l5
          simp only [Bool.not_eq_false'] at hp
          rw [dlt_of hy, cond_true, getI_nat, hy, Option.bind_some, refcmp_is, Option.bind_some, hp, cond_true, winc (by have := lt_of_get hy; omega)]) (fun i y hy hp => by
          unfold ref23_Sorted_l5
          simp only [Bool.not_eq_true'] at hp
          rw [dlt_of hy, cond_true, getI_nat, hy, Option.bind_some, refcmp_is, Option.bind_some, hp, cond_false]) (by
          unfold ref23_Sorted_l5
          rw [dlt_end]; rfl)
      rcases inner with ⟨i, y, a1, a2, a3, a4⟩ | ⟨a1, a2⟩
      · rw [a4, Option.bind_some]
        have hio := lt_of_get a1
        have hge : ¬ kcmp y k < 0 := by simpa using a2
        have hb : ∀ z ∈ out.take i, kcmp z k < 0 := fun z hz => by
          obtain ⟨j, hj⟩ := List.mem_iff_getElem?.1 hz
          rw [List.getElem?_take] at hj
          split at hj
          · rename_i hji
            simpa using a3 j z hji hj
          · cases hj
        unfold ref23_Sorted_j4
        rw [show ((i : Int) == (out.length : Int)) = false from by simp; omega, cond_false, getI_nat, a1, Option.bind_some]
        show Ok (ref23_Sorted_j3 out (n : Int) k (i : Int) (!keqB y k)) _
        cases hq : keqB y k
        · rw [Bool.not_false]
          refine (j3 i (by omega) hb fun z hz => ?_).mono fun y hy => by cases y <;> exact hy
          have hyk : kcmp k y < 0 := by
            rcases kcmp_tri y k with h | h | h
            · exact absurd h hge
            · exact absurd h (keqB_no.1 hq)
            · exact h
          obtain ⟨j, hj⟩ := List.mem_iff_getElem?.1 hz
          rw [List.getElem?_drop] at hj
          obtain ⟨q1, q2⟩ := List.getElem?_eq_some_iff.1 hj
          obtain ⟨q3, q4⟩ := List.getElem?_eq_some_iff.1 a1
          by_cases hj0 : j = 0
          · subst hj0
            rw [Nat.add_zero, a1] at hj
            injection hj with hj
            rw [← hj]; exact hyk
          · have := List.pairwise_iff_getElem.1 h3.asc i (i + j) q3 q1 (by omega)
            rw [q4, q2] at this
            exact kcmp_trans hyk this
        · unfold ref23_Sorted_j3 ref23_Sorted_j2
          rw [Bool.not_true, cond_false, winc (by omega)]
          exact Ok.ret ⟨hi, rfl, hi, stay (by rw [← keqB_iff.1 hq]; exact List.mem_of_getElem? a1)⟩
      · rw [a2, Option.bind_some]
        unfold ref23_Sorted_j4
        rw [beq_self_eq_true, cond_true]
        refine (j3 out.length (Nat.le_refl _) (fun z hz => ?_) (fun z hz => by rw [List.drop_length] at hz; cases hz)).mono fun y hy => by cases y <;> exact hy
        rw [List.take_length] at hz
        simpa using a1 z hz
    · rw [dnlt hi, cond_false]
      have : n = l.length := by omega
      subst this
      rw [List.take_length] at h3
      exact Ok.ret h3
  obtain ⟨m, e, h⟩ := key
  exact ⟨m, e, h⟩
end Go.Proofs.YtdappapdddnciaaDoor
