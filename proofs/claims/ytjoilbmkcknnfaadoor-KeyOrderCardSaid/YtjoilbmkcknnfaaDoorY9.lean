/- Law 23, plain: the document's sorted lists; KeyOrder. -/
import Derived.Test.YtjoilbmkcknnfaaDoorY8
import Derived.Test.YtjoilbmkcknnfaaDoorF2
set_option linter.unusedVariables false
set_option linter.unusedSimpArgs false
namespace Go.Proofs.YtjoilbmkcknnfaaDoor
open Go.RowKit
open Go.Lib hiding intOf

theorem ins_asc {out : List KeyD} (h : KAsc out) {i : Nat} {k : KeyD} (h1 : ∀ y ∈ out.take i, kcmp y k < 0) (h2 : ∀ y ∈ out.drop i, kcmp k y < 0) : KAsc (out.take i ++ [k] ++ out.drop i) := by
  unfold KAsc at *
  rw [List.append_assoc, List.pairwise_append]
  refine ⟨h.sublist (List.take_sublist _ _), List.pairwise_cons.2 ⟨fun y hy => h2 y hy, h.sublist (List.drop_sublist _ _)⟩, fun a ha b hb => ?_⟩
  rcases List.mem_cons.1 hb with rfl | hb
  · exact h1 a ha
  · exact kcmp_trans (h1 a ha) (h2 b hb)
theorem ins_mem {out : List KeyD} {i : Nat} {k x : KeyD} : x ∈ out.take i ++ [k] ++ out.drop i ↔ x ∈ out ∨ x = k := by
  conv => rhs; rw [← List.take_append_drop i out]
  simp only [List.mem_append, List.mem_cons, List.not_mem_nil, or_false]
  constructor
  · rintro ((h | h) | h)
    · exact .inl (.inl h)
    · exact .inr h
    · exact .inl (.inr h)
  · rintro ((h | h) | h)
    · exact .inl (.inl h)
    · exact .inr h
    · exact .inl (.inr h)
theorem ref_sorted_ok {l : List KeyD} (hl : Rm l.length) : ∃ m, ref23_Sorted l = some m ∧ IsNub l m := by
  unfold Rm at hl
  have key : Ok (ref23_Sorted l) fun m => IsNub l m := by
    unfold ref23_Sorted
    refine Ok.loop (fun n s => s.2 = (n : Int) ∧ n ≤ l.length ∧ IsNub (l.take n) s.1) (fun r => IsNub l r) l.length ⟨rfl, Nat.zero_le _, List.Pairwise.nil, fun x => by simp, by simp⟩ (fun n s hn hI => ?_) (fun r hr => Ok.ret hr)
    obtain ⟨out, g⟩ := s
    obtain ⟨h1, h2, h3⟩ := hI
    dsimp only at h1 h3
    subst h1
    have hol := h3.len
    rw [List.length_take] at hol
    unfold ref23_Sorted_l6
    dsimp only
    by_cases hi : n < l.length
    · have hx : l[n]? = some l[n] := List.getElem?_eq_getElem hi
      obtain ⟨k, hk⟩ : ∃ k, k = l[n] := ⟨_, rfl⟩
      rw [← hk] at hx
      rw [dlt hi, cond_true, getI_nat, hx, Option.bind_some]
      have stay : k ∈ out → IsNub (l.take (n + 1)) out := fun hm => ⟨h3.asc, fun x => by
        rw [take_snoc' hx, List.mem_append, h3.mem]
        constructor
        · exact .inl
        · rintro (h | h)
          · exact h
          · simp only [List.mem_cons, List.not_mem_nil, or_false] at h
            subst h; exact (h3.mem _).1 hm, by rw [List.length_take]; omega⟩
      have put : ∀ i : Nat, i ≤ out.length → (∀ y ∈ out.take i, kcmp y k < 0) → (∀ y ∈ out.drop i, kcmp k y < 0) → IsNub (l.take (n + 1)) (out.take i ++ [k] ++ out.drop i) := fun i hio q1 q2 => ⟨ins_asc h3.asc q1 q2, fun x => by
        rw [ins_mem, take_snoc' hx, List.mem_append, h3.mem]
        simp, by simp only [List.length_append, List.length_take, List.length_drop, List.length_cons, List.length_nil]; omega⟩
      have j3 : ∀ i : Nat, i ≤ out.length → (∀ y ∈ out.take i, kcmp y k < 0) → (∀ y ∈ out.drop i, kcmp k y < 0) → Ok (ref23_Sorted_j3 out (n : Int) k (i : Int) true) fun r => match r with
          | .go s' => n < l.length ∧ s'.2 = ((n + 1 : Nat) : Int) ∧ n + 1 ≤ l.length ∧ IsNub (l.take (n + 1)) s'.1
          | .out r => IsNub l r := fun i hio q1 q2 => by
        unfold ref23_Sorted_j3 ref23_Sorted_j2
        rw [cond_true, subI_from hio, Option.bind_some, subI_to hio, Option.bind_some, winc (by omega)]
        have r1 : roomB (([] : List KeyD).length + (out.take i).length) = true := room (by simp; omega)
        have r2 : roomB ((([] : List KeyD) ++ out.take i).length + [k].length) = true := room (by simp; omega)
        have r3 : roomB (((([] : List KeyD) ++ out.take i) ++ [k]).length + (out.drop i).length) = true := room (by simp; omega)
        rw [r1, r2, r3]
        simp only [gd, cond_true, List.nil_append]
        exact Ok.ret ⟨hi, rfl, hi, put i hio q1 q2⟩
      have inner := loop_first (B := fun t : Int => ref23_Sorted_l5 out k t) (xs := out) (fun y => !decide (kcmp y k < 0)) (fun i => (i : Int)) (s0 := 0) rfl (y := fun i _ => (i : Int)) (n := (out.length : Int)) (fun i y hy hp => by
          unfold ref23_Sorted_l5
          simp only [Bool.not_eq_false'] at hp
          rw [dlt_of hy, cond_true, getI_nat, hy, Option.bind_some, refcmp_is, Option.bind_some, hp, cond_true, winc (by have := lt_of_get hy; omega)]) (fun i y hy hp => by
          unfold ref23_Sorted_l5
          simp only [Bool.not_eq_true'] at hp
          rw [dlt_of hy, cond_true, getI_nat, hy, Option.bind_some, refcmp_is, Option.bind_some, hp, cond_false]) (by
          unfold ref23_Sorted_l5
          rw [dlt_end]; rfl)
      rcases inner with ⟨i, y, a1, a2, a3, a4⟩ | ⟨a1, a2⟩
      · rw [a4, Option.bind_some]
        have hio := lt_of_get a1
        have hge : ¬ kcmp y k < 0 := by simpa using a2
        have hb : ∀ z ∈ out.take i, kcmp z k < 0 := fun z hz => by
          obtain ⟨j, hj⟩ := List.mem_iff_getElem?.1 hz
          rw [List.getElem?_take] at hj
          split at hj
          · rename_i hji
            simpa using a3 j z hji hj
          · cases hj
        unfold ref23_Sorted_j4
        rw [show ((i : Int) == (out.length : Int)) = false from by simp; omega, cond_false, getI_nat, a1, Option.bind_some]
        show Ok (ref23_Sorted_j3 out (n : Int) k (i : Int) (!keqB y k)) _
        cases hq : keqB y k
        · rw [Bool.not_false]
          refine (j3 i (by omega) hb fun z hz => ?_).mono fun y hy => by cases y <;> exact hy
          have hyk : kcmp k y < 0 := by
            rcases kcmp_tri y k with h | h | h
            · exact absurd h hge
            · exact absurd h (keqB_no.1 hq)
            · exact h
          obtain ⟨j, hj⟩ := List.mem_iff_getElem?.1 hz
          rw [List.getElem?_drop] at hj
          obtain ⟨q1, q2⟩ := List.getElem?_eq_some_iff.1 hj
          obtain ⟨q3, q4⟩ := List.getElem?_eq_some_iff.1 a1
          by_cases hj0 : j = 0
          · subst hj0
            rw [Nat.add_zero, a1] at hj
            injection hj with hj
            rw [← hj]; exact hyk
          · have := List.pairwise_iff_getElem.1 h3.asc i (i + j) q3 q1 (by omega)
            rw [q4, q2] at this
            exact kcmp_trans hyk this
        · unfold ref23_Sorted_j3 ref23_Sorted_j2
          rw [Bool.not_true, cond_false, winc (by omega)]
          exact Ok.ret ⟨hi, rfl, hi, stay (by rw [← keqB_iff.1 hq]; exact List.mem_of_getElem? a1)⟩
      · rw [a2, Option.bind_some]
        unfold ref23_Sorted_j4
        rw [beq_self_eq_true, cond_true]
        refine (j3 out.length (Nat.le_refl _) (fun z hz => ?_) (fun z hz => by rw [List.drop_length] at hz; cases hz)).mono fun y hy => by cases y <;> exact hy
        rw [List.take_length] at hz
        simpa using a1 z hz
    · rw [dnlt hi, cond_false]
      have : n = l.length := by omega
      subst this
      rw [List.take_length] at h3
      exact Ok.ret h3
  obtain ⟨m, e, h⟩ := key
  exact ⟨m, e, h⟩
theorem keys_ok {t : List Int} (ht : t.length ≤ 400) : Ok (law23_keys t) fun l => l.length ≤ 11 := by
  unfold law23_keys mill_Roll
  simp only [Option.bind_some]
  refine Ok.bind (next_ok (l := t) (i := 0) ⟨by omega, by omega, by omega⟩ (by omega) (by omega)) fun r hr => ?_
  refine Ok.loop (fun k s => s.1.length = k ∧ s.2.1 = r.1 - k ∧ DiceOk s.2.2.1 s.2.2.2) (fun q => q.length ≤ 11) r.1.toNat ⟨rfl, by simp, hr.2.2⟩ (fun k s hk hI => ?_) (fun q hq => ?_)
  · obtain ⟨e1, e2, e3⟩ := hI
    have := hr.1; have := hr.2.1
    unfold law23_keys_l2
    refine Ok.cond (fun e => ?_) (fun e => Ok.ret (by dsimp only; omega))
    have e : (0 : Int) < s.2.1 := of_decide_eq_true e
    refine Ok.bind (next_ok e3 (by omega) (by omega)) fun u hu => Ok.bind (word_ok hu.2.2 (by simp) (by simp)) fun v hv => Ok.gd (room (by simp; omega)) (Ok.ret ⟨by omega, by simp [e1], by dsimp only; rw [w64 (by omega) (by omega)]; omega, hv.2⟩)
  · unfold law23_keys_j1
    exact Ok.ret hq
theorem order_is (raw : List KeyD) (t : List Int) : law23_KeyOrder raw t = some true := by
  have key : Ok (law23_KeyOrder raw t) fun b => b = true := by
    unfold law23_KeyOrder
    refine Ok.cond (fun _ => by rw [law23_awake_is]; exact Ok.ret rfl) (fun e => ?_)
    have hr : raw.length ≤ 60 := by have := of_decide_eq_false e; omega
    rw [light_is, Option.bind_some]
    refine Ok.cond (fun _ => by rw [law23_awake_is]; exact Ok.ret rfl) (fun e => ?_)
    have ht : t.length ≤ 400 := by simpa using e
    refine Ok.bind (keys_ok ht) fun u hu => ?_
    have hlp : loop (fun s : List (List KeyD) × Int => law23_KeyOrder_l4 raw u s.1 s.2) ([raw, u], 0) = some (.go ()) := by
      refine loop_gather (xs := [raw, u]) (fun i => ([raw, u], (i : Int))) rfl (fun i x hx => ?_) ?_
      · have hi := lt_of_get hx
        have hm := List.mem_of_getElem? hx
        simp only [List.length_cons, List.length_nil] at hi
        have hxl : x.length ≤ 60 := by
          simp only [List.mem_cons, List.not_mem_nil, or_false] at hm
          rcases hm with rfl | rfl <;> omega
        obtain ⟨m, em, nm⟩ := sorted_ok (l := x) (by unfold Rm; omega)
        obtain ⟨m', em', nm'⟩ := ref_sorted_ok (l := x) (by unfold Rm; omega)
        have e : m = m' := nm.uniq nm'
        subst e
        unfold law23_KeyOrder_l4
        dsimp only
        rw [dlt_of hx, cond_true, getI_nat, hx, Option.bind_some, em, em']
        simp only [Option.bind_some]
        rw [samelist_refl (by have := nm.len; unfold Rm; omega), Option.bind_some, Bool.not_true, cond_false]
        have inner : Ok (loop (fun s : Int => law23_KeyOrder_l3 x s) 1) fun r => r = .go () := by
          have := Ok.loop (B := fun s : Int => law23_KeyOrder_l3 x s) (s := 1) (g := fun r => some r) (R := fun r => r = .go ()) (fun n s => s = ((n + 1 : Nat) : Int) ∧ (n + 1 ≤ x.length ∨ n = 0)) (fun r => r = .go ()) x.length ⟨rfl, .inr rfl⟩ (fun n s hn hI => by
            obtain ⟨rfl, hI2⟩ := hI
            unfold law23_KeyOrder_l3
            by_cases hk : n + 1 < x.length
            · rw [dlt hk, cond_true, wrap_small (by omega) (by omega), show (((n + 1 : Nat) : Int) - 1) = ((n : Nat) : Int) by omega, getI_nat, getI_nat, List.getElem?_eq_getElem hk, List.getElem?_eq_getElem (by omega : n < x.length)]
              simp only [Option.bind_some]
              rw [cmp_is, refcmp_is, cmp_is, kcmp_refl]
              simp only [Option.bind_some, bne_self_eq_false, cond_false]
              rw [winc (by omega)]
              exact Ok.ret ⟨by omega, rfl, .inl hk⟩
            · rw [dnlt hk, cond_false]
              exact Ok.ret rfl) (fun r hr => Ok.ret hr)
          obtain ⟨y, ey, hy⟩ := this
          cases hlp : loop (fun s : Int => law23_KeyOrder_l3 x s) 1 with
          | none => rw [hlp] at ey; cases ey
          | some z => rw [hlp] at ey; injection ey with ey; exact ⟨z, rfl, by rw [ey]; exact hy⟩
        obtain ⟨r, er, rfl⟩ := inner
        rw [er, Option.bind_some]
        simp only [Fl.el]
        unfold law23_KeyOrder_j2
        rw [winc (by omega)]
      · unfold law23_KeyOrder_l4
        dsimp only
        rw [dlt_end]; rfl
    rw [hlp, Option.bind_some]
    simp only [Fl.el]
    unfold law23_KeyOrder_j1
    rw [law23_awake_is]
    exact Ok.ret rfl
  obtain ⟨b, e, rfl⟩ := key
  exact e
end Go.Proofs.YtjoilbmkcknnfaaDoor
