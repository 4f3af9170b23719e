/- Maps, plain: lists of pairs with keys that are all different. -/
import Derived.Test.YtdappapdddnciaaDoorU0
import Derived.Test.YtdappapdddnciaaDoorMB
set_option linter.unusedVariables false
set_option linter.unusedSimpArgs false
namespace Go.Proofs.YtdappapdddnciaaDoor
open Go.RowKit
open Go.Lib hiding intOf

section
variable {κ ν : Type} {q : κ → κ → Bool} (hq : ∀ a b, q a b = true ↔ a = b)
def Nd (xs : List (κ × ν)) : Prop := (xs.map (·.1)).Nodup
include hq
theorem q_self (a : κ) : q a a = true := (hq a a).2 rfl
theorem q_ne {a b : κ} (h : a ≠ b) : q a b = false := by rw [← Bool.not_eq_true, hq]; exact h
theorem mget_mem {k : κ} {v : ν} : ∀ {xs : List (κ × ν)}, Nd xs → (mget q k xs = some v ↔ (k, v) ∈ xs)
  | [], _ => by simp [mget]
  | x :: r, h => by
    have h' := List.nodup_cons.1 (show (x.1 :: r.map (·.1)).Nodup from h)
    have ih := mget_mem (k := k) (v := v) (xs := r) h'.2
    by_cases e : k = x.1
    · subst e
      rw [mget, q_self hq, cond_true]
      constructor
      · intro h; injection h with h; rw [← h]; exact List.mem_cons_self
      · intro hm
        rcases List.mem_cons.1 hm with hm | hm
        · rw [← hm]
        · exact absurd (List.mem_map_of_mem (f := (·.1)) hm) h'.1
    · rw [mget, q_ne hq e, cond_false, ih, List.mem_cons]
      constructor
      · exact .inr
      · rintro (h | h)
        · exact absurd (congrArg (·.1) h) e
        · exact h
theorem mget_none {k : κ} : ∀ {xs : List (κ × ν)}, mget q k xs = none ↔ ∀ v, (k, v) ∉ xs
  | [] => by simp [mget]
  | x :: r => by
    by_cases e : k = x.1
    · rw [mget, e, q_self hq, cond_true]
      constructor
      · intro h; cases h
      · intro h; exact absurd List.mem_cons_self (h x.2)
    · rw [mget, q_ne hq e, cond_false, mget_none]
      constructor
      · intro h v hv
        rcases List.mem_cons.1 hv with hv | hv
        · exact e (congrArg (·.1) hv)
        · exact h v hv
      · intro h v hv; exact h v (List.mem_cons_of_mem _ hv)
theorem mget_put (k k' : κ) (v : ν) : ∀ (xs : List (κ × ν)), mget q k (mput q k' v xs) = if q k k' then some v else mget q k xs
  | [] => by simp [mput, mget, Bool.cond_eq_ite]
  | x :: r => by
    by_cases e : k' = x.1
    · rw [mput, e, q_self hq, cond_true, mget, mget]
      cases q k x.1 <;> simp
    · rw [mput, q_ne hq e, cond_false, mget, mget, mget_put k k' v r]
      by_cases e2 : k = x.1
      · have : q k k' = false := q_ne hq (fun h => e (h.symm.trans e2))
        rw [e2, q_self hq, cond_true, cond_true, ← e2, this]; rfl
      · rw [q_ne hq e2]; rfl
theorem mput_perm (k : κ) (v : ν) : ∀ {xs : List (κ × ν)}, Nd xs → (mput q k v xs).Perm ((k, v) :: xs.filter fun y => !q k y.1)
  | [], _ => by simp [mput]
  | x :: r, h => by
    have h' := List.nodup_cons.1 (show (x.1 :: r.map (·.1)).Nodup from h)
    by_cases e : k = x.1
    · rw [mput, e, q_self hq, cond_true, List.filter_cons_of_neg (by simp [q_self hq])]
      rw [List.filter_eq_self.2]
      intro y hy
      rw [q_ne hq]; rfl
      intro e2
      exact h'.1 (e2 ▸ List.mem_map_of_mem hy)
    · rw [mput, q_ne hq e, cond_false, List.filter_cons_of_pos (by simp [q_ne hq e])]
      exact ((mput_perm k v h'.2).cons x).trans (List.Perm.swap _ _ _)
theorem mdel_filter (k : κ) : ∀ {xs : List (κ × ν)}, Nd xs → mdel q k xs = xs.filter fun y => !q k y.1
  | [], _ => rfl
  | x :: r, h => by
    have h' := List.nodup_cons.1 (show (x.1 :: r.map (·.1)).Nodup from h)
    by_cases e : k = x.1
    · rw [mdel, e, q_self hq, cond_true, List.filter_cons_of_neg (by simp [q_self hq])]
      rw [List.filter_eq_self.2]
      intro y hy
      rw [q_ne hq]; rfl
      intro e2
      exact h'.1 (e2 ▸ List.mem_map_of_mem hy)
    · rw [mdel, q_ne hq e, cond_false, List.filter_cons_of_pos (by simp [q_ne hq e]), mdel_filter k h'.2]
omit hq in
theorem Nd.perm {xs ys : List (κ × ν)} (h : Nd xs) (p : xs.Perm ys) : Nd ys := (p.map _).nodup_iff.1 h
omit hq in
theorem Nd.filter {xs : List (κ × ν)} (h : Nd xs) (p : κ × ν → Bool) : Nd (xs.filter p) := h.sublist (List.Sublist.map _ List.filter_sublist)
theorem Nd.put {xs : List (κ × ν)} (h : Nd xs) (k : κ) (v : ν) : Nd (mput q k v xs) := by
  refine Nd.perm ?_ (mput_perm hq k v h).symm
  show (k :: (xs.filter fun y => !q k y.1).map (·.1)).Nodup
  refine List.nodup_cons.2 ⟨fun hm => ?_, h.filter _⟩
  obtain ⟨y, hy, e⟩ := List.mem_map.1 hm
  have := (List.mem_filter.1 hy).2
  rw [e, q_self hq] at this
  cases this
theorem Nd.del {xs : List (κ × ν)} (h : Nd xs) (k : κ) : Nd (mdel q k xs) := by rw [mdel_filter hq k h]; exact h.filter _
theorem mget_del (k k' : κ) {xs : List (κ × ν)} (h : Nd xs) : mget q k (mdel q k' xs) = if q k k' then none else mget q k xs := by
  rw [mdel_filter hq k' h]
  by_cases e : k = k'
  · subst e
    rw [q_self hq, if_pos rfl, mget_none hq]
    intro v hv
    have := (List.mem_filter.1 hv).2
    simp [q_self hq] at this
  · rw [q_ne hq e, if_neg (by simp)]
    refine Option.ext fun v => ?_
    rw [mget_mem hq (h.filter _), mget_mem hq h, List.mem_filter]
    simp [q_ne hq (fun h => e h.symm)]
end
end Go.Proofs.YtdappapdddnciaaDoor
