/- Sorted lists of keys, plain. -/
import Derived.Test.YtdappapdddnciaaDoorUG
import Derived.Test.YtdappapdddnciaaDoorJ1
import Derived.Test.YtdappapdddnciaaDoorD2
set_option linter.unusedVariables false
set_option linter.unusedSimpArgs false
namespace Go.Proofs.YtdappapdddnciaaDoor
open Go.RowKit
open Go.Lib hiding intOf

instance : DecidableEq KeyD := fun a b => decidable_of_iff (keqB a b = true) keqB_iff
/-- keys in order, each once -/
def KAsc (l : List KeyD) : Prop := l.Pairwise fun a b => kcmp a b < 0
theorem kasc_ext : ∀ {a b : List KeyD}, KAsc a → KAsc b → (∀ x, x ∈ a ↔ x ∈ b) → a = b
  | [], [], _, _, _ => rfl
  | [], y :: b, _, _, h => by have := (h y).2 List.mem_cons_self; cases this
  | x :: a, [], _, _, h => by have := (h x).1 List.mem_cons_self; cases this
  | x :: a, y :: b, ha, hb, h => by
    have ha' := List.pairwise_cons.1 ha
    have hb' := List.pairwise_cons.1 hb
    have e : x = y := by
      rcases List.mem_cons.1 ((h x).1 List.mem_cons_self) with e | h1
      · exact e
      · rcases List.mem_cons.1 ((h y).2 List.mem_cons_self) with e | h2
        · exact e.symm
        · exact absurd (hb'.1 x h1) (kcmp_asym (ha'.1 y h2))
    subst e
    rw [kasc_ext ha'.2 hb'.2 fun z => ?_]
    constructor
    · intro hz
      rcases List.mem_cons.1 ((h z).1 (List.mem_cons_of_mem _ hz)) with e | h1
      · subst e; exact absurd (ha'.1 z hz) kcmp_irr
      · exact h1
    · intro hz
      rcases List.mem_cons.1 ((h z).2 (List.mem_cons_of_mem _ hz)) with e | h1
      · subst e; exact absurd (hb'.1 z hz) kcmp_irr
      · exact h1
/-- m holds the keys of l, in order, each once -/
structure IsNub (l m : List KeyD) : Prop where
  asc : KAsc m
  mem : ∀ x, x ∈ m ↔ x ∈ l
  len : m.length ≤ l.length
theorem IsNub.uniq {l m m' : List KeyD} (h : IsNub l m) (h' : IsNub l m') : m = m' := kasc_ext h.asc h'.asc fun x => (h.mem x).trans (h'.mem x).symm
theorem sortK_perm (xs : List KeyD) : (sortK xs).Perm xs := List.mergeSort_perm _ _
theorem sortK_sorted (xs : List KeyD) : (sortK xs).Pairwise fun a b => ¬ kcmp b a < 0 := by
  have h := List.pairwise_mergeSort (le := fun x y => !ltOf kcmp y x) (fun a b c h1 h2 => by
    simp only [Bool.not_eq_true'] at *
    exact swoK.ntrans _ _ _ h2 h1) (fun a b => by
    simp only [Bool.or_eq_true, Bool.not_eq_true']
    unfold ltOf
    simp only [decide_eq_false_iff_not]
    by_cases h : kcmp b a < 0
    · exact .inr (kcmp_asym h)
    · exact .inl h) xs
  refine List.Pairwise.imp (fun {a b} h => ?_) h
  unfold ltOf at h
  simpa using h
/-- the first k of a list, each but those that are like the one before -/
def cptN (s : List KeyD) : Nat → List KeyD
  | 0 => []
  | n + 1 => cptN s n ++ (match s[n]? with
    | some x => if n ≠ 0 ∧ s[n - 1]? = some x then [] else [x]
    | none => [])
theorem cptN_le (s : List KeyD) : ∀ n, (cptN s n).length ≤ n
  | 0 => Nat.le_refl _
  | n + 1 => by
    have := cptN_le s n
    unfold cptN
    rw [List.length_append]
    cases s[n]? with
    | none => simp; omega
    | some x => dsimp only; split <;> simp <;> omega
theorem cptN_new {s : List KeyD} {n : Nat} {x : KeyD} (hx : s[n]? = some x) (h : n = 0 ∨ s[n - 1]? ≠ some x) : cptN s (n + 1) = cptN s n ++ [x] := by
  rw [cptN, hx]
  dsimp only
  rw [if_neg (by rintro ⟨h1, h2⟩; rcases h with h | h; exact h1 h; exact h h2)]
theorem cptN_old {s : List KeyD} {n : Nat} {x : KeyD} (hx : s[n]? = some x) (h0 : n ≠ 0) (h : s[n - 1]? = some x) : cptN s (n + 1) = cptN s n := by
  rw [cptN, hx]
  dsimp only
  rw [if_pos ⟨h0, h⟩, List.append_nil]
theorem cptN_mem {s : List KeyD} : ∀ {n : Nat} {x : KeyD}, n ≤ s.length → (x ∈ cptN s n ↔ ∃ i, i < n ∧ s[i]? = some x)
  | 0, x, _ => by simp [cptN]
  | n + 1, x, h => by
    have ih := cptN_mem (s := s) (n := n) (x := x) (by omega)
    have hn : s[n]? = some s[n] := List.getElem?_eq_getElem (by omega)
    by_cases hc : n ≠ 0 ∧ s[n - 1]? = some s[n]
    · rw [cptN_old hn hc.1 hc.2, ih]
      constructor
      · rintro ⟨i, h1, h2⟩; exact ⟨i, by omega, h2⟩
      · rintro ⟨i, h1, h2⟩
        by_cases hi : i = n
        · subst hi
          rw [hn] at h2
          exact ⟨i - 1, by omega, by rw [hc.2, ← h2]⟩
        · exact ⟨i, by omega, h2⟩
    · rw [cptN_new hn (by by_cases h0 : n = 0; exact .inl h0; exact .inr fun h => hc ⟨h0, h⟩), List.mem_append, ih]
      constructor
      · rintro (⟨i, h1, h2⟩ | h)
        · exact ⟨i, by omega, h2⟩
        · simp only [List.mem_cons, List.not_mem_nil, or_false] at h
          exact ⟨n, by omega, by rw [hn, h]⟩
      · rintro ⟨i, h1, h2⟩
        by_cases hi : i = n
        · subst hi
          rw [hn] at h2
          injection h2 with h2
          exact .inr (by simp [h2])
        · exact .inl ⟨i, by omega, h2⟩
theorem cptN_asc {s : List KeyD} (hs : s.Pairwise fun a b => ¬ kcmp b a < 0) : ∀ n, n ≤ s.length → KAsc (cptN s n)
  | 0, _ => List.Pairwise.nil
  | n + 1, h => by
    have ih := cptN_asc hs n (by omega)
    have hn : s[n]? = some s[n] := List.getElem?_eq_getElem (by omega)
    by_cases hc : n ≠ 0 ∧ s[n - 1]? = some s[n]
    · rw [cptN_old hn hc.1 hc.2]; exact ih
    · rw [cptN_new hn (by by_cases h0 : n = 0; exact .inl h0; exact .inr fun h => hc ⟨h0, h⟩)]
      unfold KAsc
      rw [List.pairwise_append]
      refine ⟨ih, List.pairwise_singleton _ _, fun a ha b hb => ?_⟩
      simp only [List.mem_cons, List.not_mem_nil, or_false] at hb
      subst hb
      obtain ⟨i, hi, hia⟩ := (cptN_mem (by omega)).1 ha
      have h0 : n ≠ 0 := by omega
      have hm : s[n - 1]? = some s[n - 1] := List.getElem?_eq_getElem (by omega)
      have hlt : kcmp s[n - 1] s[n] < 0 := by
        have h1 := List.pairwise_iff_getElem.1 hs (n - 1) n (by omega) (by omega) (by omega)
        rcases kcmp_tri s[n - 1] s[n] with h | h | h
        · exact h
        · exact absurd ⟨h0, by rw [hm, h]⟩ hc
        · exact absurd h h1
      by_cases hin : i = n - 1
      · subst hin
        rw [hm] at hia
        injection hia with hia
        rw [← hia]; exact hlt
      · have h1 := List.pairwise_iff_getElem.1 hs i (n - 1) (by omega) (by omega) (by omega)
        obtain ⟨q1, q2⟩ := List.getElem?_eq_some_iff.1 hia
        rw [q2] at h1
        exact kcmp_lt_of_le h1 hlt
theorem cptN_take {s : List KeyD} : ∀ n, n ≤ s.length → (∀ i, i ≠ 0 → i < n → s[i - 1]? ≠ s[i]?) → cptN s n = s.take n
  | 0, _, _ => by simp [cptN]
  | n + 1, h, hd => by
    have hn : s[n]? = some s[n] := List.getElem?_eq_getElem (by omega)
    rw [cptN_new hn (by by_cases h0 : n = 0; exact .inl h0; exact .inr (by rw [← hn]; exact hd n h0 (by omega))), cptN_take n (by omega) fun i h0 hi => hd i h0 (by omega), take_snoc' hn]
theorem compact_is {s : List KeyD} (hl : Rm s.length) : compact_Key s = some (cptN s s.length) := by
  unfold Rm at hl
  have key : Ok (compact_Key s) fun y => y = cptN s s.length := by
    unfold compact_Key
    refine Ok.cond (fun e => Ok.ret ?_) (fun e => ?_)
    · have e : s.length < 2 := by have := of_decide_eq_true e; omega
      rw [cptN_take _ (Nat.le_refl _) fun i h0 hi => by omega, List.take_length]
    · have e : 2 ≤ s.length := by have := of_decide_eq_false e; omega
      refine Ok.loop (fun n t => t = ((n + 1 : Nat) : Int) ∧ n + 1 ≤ s.length ∧ ∀ i, i ≠ 0 → i < n + 1 → s[i - 1]? ≠ s[i]?) (fun r => (r = .go () ∧ cptN s s.length = s) ∨ r = .out (cptN s s.length)) (s.length - 1) ⟨rfl, by omega, fun i h0 hi => by omega⟩ (fun n t hn hI => ?_) (fun r hr => ?_)
      · obtain ⟨rfl, hI1, hI2⟩ := hI
        unfold compact_Key_l6
        by_cases hk : n + 1 < s.length
        · have hx : s[n + 1]? = some s[n + 1] := List.getElem?_eq_getElem hk
          have hy : s[n]? = some s[n] := List.getElem?_eq_getElem (by omega)
          rw [dlt hk, cond_true, getI_nat, hx, Option.bind_some, wrap_small (by omega) (by omega), show (((n + 1 : Nat) : Int) - 1) = ((n : Nat) : Int) by omega, getI_nat, hy, Option.bind_some]
          show Ok (cond (keqB s[n + 1] s[n]) _ _) _
          cases hq : keqB s[n + 1] s[n]
          · rw [cond_false]
            unfold compact_Key_j2
            rw [winc (by omega)]
            refine Ok.ret ⟨by omega, rfl, by omega, fun i h0 hi => ?_⟩
            by_cases hin : i = n + 1
            · subst hin
              rw [Nat.add_sub_cancel, hx, hy]
              have := keqB_no.1 hq
              exact fun h => this (Option.some.inj h).symm
            · exact hI2 i h0 (by omega)
          · rw [cond_true, subI_to (by omega), Option.bind_some]
            have heq := keqB_iff.1 hq
            refine Ok.loop (fun m t => ∃ s' kk, t = (s', ((kk : Nat) : Int), ((m + 1 : Nat) : Int)) ∧ s'.length = s.length ∧ s'.take kk = cptN s (n + 1 + (m + 1)) ∧ s'.drop (n + 1 + m) = s.drop (n + 1 + m) ∧ kk ≤ n + 1 + m ∧ n + 1 + (m + 1) ≤ s.length)
              (fun t => ∃ s' kk, t = (s', ((kk : Nat) : Int)) ∧ s'.length = s.length ∧ kk ≤ s.length ∧ s'.take kk = cptN s s.length) (s.length - (n + 2))
              ⟨s, n + 1, rfl, rfl, ?_, rfl, by omega, by omega⟩ (fun m t hm hJ => ?_) (fun t ht => ?_)
            · rw [Nat.zero_add, cptN_old hx (by omega) (by rw [Nat.add_sub_cancel, hy, heq]), cptN_take (n + 1) (by omega) hI2]
            · obtain ⟨s', kk, rfl, e1, e2, e3, e4, e5⟩ := hJ
              have hgt : ∀ j, n + 1 + m ≤ j → s'[j]? = s[j]? := fun j hj => by
                have := congrArg (fun l => l[j - (n + 1 + m)]?) e3
                simp only [List.getElem?_drop] at this
                rwa [show n + 1 + m + (j - (n + 1 + m)) = j by omega] at this
              unfold compact_Key_l5
              dsimp only
              rw [Int.toNat_natCast, Int.toNat_natCast]
              by_cases hk2 : n + 1 + (m + 1) < s.length
              · have hz : s[n + 1 + (m + 1)]? = some s[n + 1 + (m + 1)] := List.getElem?_eq_getElem hk2
                have hz0 : s[n + 1 + m]? = some s[n + 1 + m] := List.getElem?_eq_getElem (by omega)
                have w0 : IntKind.i64.wrap (((m + 1 : Nat) : Int) - 1) = (m : Int) := by rw [wrap_small (by omega) (by omega)]; omega
                rw [decide_eq_true (by omega), cond_true, w0]
                have g1 : decide ((0 : Int) ≤ ((m + 1 : Nat) : Int)) = true := decide_eq_true (by omega)
                have g2 : decide ((0 : Int) ≤ (m : Int)) = true := decide_eq_true (by omega)
                have g3 : decide ((m : Int) < ((s.length - (n + 1) : Nat) : Int)) = true := decide_eq_true (by omega)
                have a1 : ((n + 1 : Nat) : Int) + ((m + 1 : Nat) : Int) = ((n + 1 + (m + 1) : Nat) : Int) := by omega
                have a2 : ((n + 1 : Nat) : Int) + (m : Int) = ((n + 1 + m : Nat) : Int) := by omega
                rw [g1, g2, g3, a1, a2]
                simp only [gd, cond_true]
                rw [getI_nat, getI_nat, getI_nat, hgt _ (by omega), hgt _ (by omega), hz, hz0]
                simp only [Option.bind_some]
                show Ok (cond (!keqB s[n + 1 + (m + 1)] s[n + 1 + m]) _ _) _
                unfold compact_Key_j4
                rw [winc (by omega), winc (by omega), List.getElem?_eq_getElem (by omega : kk < s'.length), Option.bind_some, Int.toNat_natCast]
                cases hq2 : keqB s[n + 1 + (m + 1)] s[n + 1 + m]
                · simp only [Bool.not_false, cond_true]
                  refine Ok.ret ⟨by omega, _, kk + 1, rfl, by simp [e1], ?_, ?_, by omega, by omega⟩
                  · rw [take_snoc' (x := s[n + 1 + (m + 1)]) (List.getElem?_set_self (by omega)), List.take_set_of_le (Nat.le_refl _), e2, show n + 1 + (m + 1 + 1) = n + 1 + (m + 1) + 1 from rfl, cptN_new hz (.inr ?_)]
                    rw [show n + 1 + (m + 1) - 1 = n + 1 + m by omega, hz0]
                    exact fun h => (keqB_no.1 hq2) (Option.some.inj h).symm
                  · rw [List.drop_set_of_lt (by omega)]
                    have := congrArg (List.drop 1) e3
                    simpa [Nat.add_comm, Nat.add_left_comm, Nat.add_assoc] using this
                · simp only [Bool.not_true, cond_false]
                  refine Ok.ret ⟨by omega, _, kk, rfl, e1, ?_, ?_, by omega, by omega⟩
                  · rw [e2, show n + 1 + (m + 1 + 1) = n + 1 + (m + 1) + 1 from rfl, cptN_old hz (by omega) (by rw [show n + 1 + (m + 1) - 1 = n + 1 + m by omega, hz0, keqB_iff.1 hq2])]
                  · have := congrArg (List.drop 1) e3
                    simpa [Nat.add_comm, Nat.add_left_comm, Nat.add_assoc] using this
              · rw [decide_eq_false (by omega), cond_false]
                exact Ok.ret ⟨s', kk, rfl, e1, by omega, by rw [e2, show n + 1 + (m + 1) = s.length by omega]⟩
            · obtain ⟨s', kk, rfl, e1, e2, e3⟩ := ht
              unfold compact_Key_j3
              dsimp only
              rw [subI_to (by omega), Option.bind_some]
              simp only [Int.toNat_natCast, List.drop_length, List.append_nil]
              rw [subI_from (by simp; omega), Option.bind_some]
              refine Ok.ret (.inr ?_)
              rw [List.take_append_of_le_length (by simp; omega), List.take_take, Nat.min_self, e3]
        · have hn2 : n + 1 = s.length := by omega
          rw [dnlt hk, cond_false]
          refine Ok.ret (.inl ⟨rfl, ?_⟩)
          rw [cptN_take _ (Nat.le_refl _) fun i h0 hi => hI2 i h0 (by omega), List.take_length]
      · rcases hr with ⟨rfl, h⟩ | rfl
        · exact Ok.ret h.symm
        · exact Ok.ret rfl
  obtain ⟨y, e, rfl⟩ := key
  exact e
theorem cloneKey_is {s : List KeyD} (h : Rm s.length) : clone_Key s = some s := by
  unfold clone_Key Rm at *
  rw [show roomB (([] : List KeyD).length + s.length) = true from room (by simp; omega)]; rfl
theorem sorted_ok {l : List KeyD} (hl : Rm l.length) : ∃ m, key_Sorted l = some m ∧ IsNub l m := by
  unfold key_Sorted
  rw [cloneKey_is hl, Option.bind_some, room (by unfold Rm at hl; omega)]
  simp only [gd, cond_true]
  rw [compact_is (by rw [sortK_len]; exact hl)]
  refine ⟨_, rfl, cptN_asc (sortK_sorted l) _ (Nat.le_refl _), fun x => ?_, by have := cptN_le (sortK l) (sortK l).length; rw [sortK_len] at this; rw [sortK_len]; exact this⟩
  rw [cptN_mem (Nat.le_refl _), ← (sortK_perm l).mem_iff]
  constructor
  · rintro ⟨i, _, h⟩; exact List.mem_of_getElem? h
  · intro h
    obtain ⟨i, hi⟩ := List.mem_iff_getElem?.1 h
    exact ⟨i, lt_of_get hi, hi⟩
end Go.Proofs.YtdappapdddnciaaDoor
