/- Law 23, plain: KeyBack. -/
import Derived.Test.YtjoilbmkcknnfaaDoorY8
import Derived.Test.YtjoilbmkcknnfaaDoorUR
import Derived.Test.YtjoilbmkcknnfaaDoorF3
set_option linter.unusedVariables false
set_option linter.unusedSimpArgs false
namespace Go.Proofs.YtjoilbmkcknnfaaDoor
open Go.RowKit
open Go.Lib hiding intOf

theorem keys_ok2 {t : List Int} (ht : t.length ≤ 400) : Ok (law23_keys t) fun l => l.length ≤ 11 ∧ ∀ k ∈ l, k.Text.size ≤ 10 := by
  unfold law23_keys mill_Roll
  simp only [Option.bind_some]
  refine Ok.bind (next_ok (l := t) (i := 0) ⟨by omega, by omega, by omega⟩ (by omega) (by omega)) fun r hr => ?_
  refine Ok.loop (fun k s => s.1.length = k ∧ s.2.1 = r.1 - k ∧ DiceOk s.2.2.1 s.2.2.2 ∧ ∀ k ∈ s.1, k.Text.size ≤ 10) (fun q => q.length ≤ 11 ∧ ∀ k ∈ q, k.Text.size ≤ 10) r.1.toNat ⟨rfl, by simp, hr.2.2, by simp⟩ (fun k s hk hI => ?_) (fun q hq => ?_)
  · obtain ⟨e1, e2, e3, e4⟩ := hI
    have := hr.1; have := hr.2.1
    unfold law23_keys_l2
    refine Ok.cond (fun e => ?_) (fun e => Ok.ret ⟨by omega, e4⟩)
    have e : (0 : Int) < s.2.1 := of_decide_eq_true e
    refine Ok.bind (next_ok e3 (by omega) (by omega)) fun u hu => Ok.bind (word_ok hu.2.2 (by simp) (by simp)) fun v hv => Ok.gd (room (by simp; omega)) (Ok.ret ⟨by omega, by simp [e1], by dsimp only; rw [w64 (by omega) (by omega)]; omega, hv.2, fun k hk => ?_⟩)
    rcases List.mem_append.1 hk with h | h
    · exact e4 k h
    · simp only [List.mem_cons, List.not_mem_nil, or_false] at h
      subst h
      have hw := hv.1
      simp only [List.mem_cons, List.not_mem_nil, or_false] at hw
      show v.1.size ≤ 10
      rcases hw with e | e | e | e | e | e | e | e <;> rw [e] <;> decide
  · unfold law23_keys_j1
    exact Ok.ret hq
theorem count_one {s : List KeyD} (h : KAsc s) {k : KeyD} (hk : k ∈ s) : (s.filter fun x => decide (kcmp k x = 0)).length = 1 := by
  induction s with
  | nil => cases hk
  | cons y r ih =>
    have h' := List.pairwise_cons.1 h
    rcases List.mem_cons.1 hk with rfl | h2
    · rw [List.filter_cons_of_pos (by simp [kcmp_refl]), List.filter_eq_nil_iff.2 fun z hz => by
        have := h'.1 z hz
        simp only [decide_eq_true_eq]; omega]
      rfl
    · have hne : ¬ kcmp k y = 0 := fun e => by
        have := h'.1 k h2
        rw [kcmp_eq e] at this
        exact kcmp_irr this
      rw [List.filter_cons_of_neg (by simpa using hne)]
      exact ih h'.2 h2
theorem loop_from {α σ ρ : Type} {B : σ → Option (Fl σ ρ)} (st : Nat → σ) (n m : Nat) {s0 : σ} (h0 : s0 = st n) {r : ρ} (hgo : ∀ k, n ≤ k → k < m → B (st k) = some (.go (st (k + 1)))) (hle : n ≤ m) (hout : B (st m) = some (.out r)) : loop B s0 = some r := by
  refine loop_to (fun k => st (n + k)) (m - n) h0 (fun k hk => ?_) ?_
  · exact hgo (n + k) (by omega) (by omega)
  · rw [show n + (m - n) = m by omega]; exact hout
theorem back_is (raw : List KeyD) (t : List Int) (hq : ∀ k ∈ raw, k.Text.size ≤ 140737488355328) : law23_KeyBack raw t = some true := by
  have key : Ok (law23_KeyBack raw t) fun b => b = true := by
    unfold law23_KeyBack
    refine Ok.cond (fun _ => by rw [law23_awake_is]; exact Ok.ret rfl) (fun e => ?_)
    have hr : raw.length ≤ 30 := by have := of_decide_eq_false e; omega
    rw [light_is, Option.bind_some]
    refine Ok.cond (fun _ => by rw [law23_awake_is]; exact Ok.ret rfl) (fun e => ?_)
    have ht : t.length ≤ 400 := by simpa using e
    refine Ok.bind (keys_ok2 ht) fun u hu => ?_
    obtain ⟨hu, hut⟩ := hu
    refine Ok.gd (room (by omega)) ?_
    obtain ⟨L, hL⟩ : ∃ L, L = u ++ raw := ⟨_, rfl⟩
    have hLl : L.length ≤ 41 := by rw [hL, List.length_append]; omega
    have hLt : ∀ k ∈ L, k.Text.size ≤ 140737488355328 := fun k hk => by
      rw [hL] at hk
      rcases List.mem_append.1 hk with h | h
      · have := hut k h; omega
      · exact hq k h
    have h12 : loop (fun s : Int => law23_KeyBack_l12 raw u s) 0 = some (.go ()) := by
      refine loop_gather (xs := L) (fun i => (i : Int)) rfl (fun i k hk => ?_) ?_
      · have hi := lt_of_get hk
        have hm := List.mem_of_getElem? hk
        unfold law23_KeyBack_l12 law23_KeyBack_j11
        rw [← hL, dlt_of hk, cond_true, getI_nat, hk, Option.bind_some, winc (by omega)]
        by_cases hb : k.Text.size ≤ 500
        · rw [decide_eq_false (by omega), cond_false]
          obtain ⟨b, hv, _⟩ := valid_eq (hLt k hm)
          rw [hv, Option.bind_some]
          cases b
          · rfl
          · have hkd := valid_kind hv
            have hp := print_is hv hkd (by omega)
            have hsz : (strI (outK k)).size ≤ 100000 := by
              rw [strI_size']
              have h1 : (outK k).length = (bytesI (itoaS k.Kind ++ ByteArray.mk #[58])).length + (k.Text.toList.flatMap encB).length := by simp [outK]
              have h2 := encs_len k.Text.toList
              have h3 := size_list k.Text
              have h4 : (itoaS k.Kind).size ≤ 3 := by
                obtain ⟨n, hn⟩ : ∃ n : Nat, k.Kind = n := ⟨k.Kind.toNat, by omega⟩
                rw [hn]
                have h1 : (itoaS (n : Int)).size = (itoa n).length := by simp [itoaS, ByteArray.size]
                have := dec_len n 2 (by omega)
                rw [h1, itoa_nat]; omega
              have h5 : (bytesI (itoaS k.Kind ++ ByteArray.mk #[58])).length ≤ 4 := by
                rw [bytesI_len, ByteArray.size_append]; show (itoaS k.Kind).size + 1 ≤ 4; omega
              omega
            rw [Bool.not_true, cond_false, hp, Option.bind_some, key_parse_good hsz ⟨hv, rfl⟩, Option.bind_some]
            simp
        · rw [decide_eq_true (by omega), cond_true]
      · unfold law23_KeyBack_l12
        rw [← hL, dlt_end]; rfl
    rw [h12, Option.bind_some]
    simp only [Fl.el]
    unfold law23_KeyBack_j10
    rw [← hL]
    obtain ⟨s, es, ns⟩ := sorted_ok (l := L) (by unfold Rm; omega)
    have hsl := ns.len
    rw [es, Option.bind_some]
    have h9 : loop (fun q : Int => law23_KeyBack_l9 s q) 1 = some (.go ()) := by
      rcases Nat.lt_or_ge 0 s.length with h0 | h0
      · refine loop_from (α := KeyD) (fun i => (i : Int)) 1 s.length rfl (fun i h1 hi => ?_) (by omega) ?_
        · have hlt := List.pairwise_iff_getElem.1 ns.asc (i - 1) i (by omega) hi (by omega)
          unfold law23_KeyBack_l9
          rw [dlt hi, cond_true, wrap_small (by omega) (by omega), show ((i : Int) - 1) = ((i - 1 : Nat) : Int) by omega, getI_nat, getI_nat, List.getElem?_eq_getElem hi, List.getElem?_eq_getElem (by omega : i - 1 < s.length)]
          simp only [Option.bind_some]
          rw [cmp_is, cmp_is]
          simp only [Option.bind_some]
          have hgt := kcmp_pos.2 hlt
          rw [decide_eq_false (by omega), cond_false, decide_eq_false (by omega), cond_false, winc (by omega)]
        · unfold law23_KeyBack_l9
          rw [dlt_end]; rfl
      · rw [loop_out (r := .go ())]
        unfold law23_KeyBack_l9
        rw [decide_eq_false (by omega)]; rfl
    rw [h9, Option.bind_some]
    simp only [Fl.el]
    unfold law23_KeyBack_j8
    have h7 : loop (fun q : Int => law23_KeyBack_l7 raw u s q) 0 = some (.go ()) := by
      refine loop_gather (xs := L) (fun i => (i : Int)) rfl (fun i k hk => ?_) ?_
      · have hi := lt_of_get hk
        have hm := List.mem_of_getElem? hk
        unfold law23_KeyBack_l7
        rw [← hL, dlt_of hk, cond_true, getI_nat, hk, Option.bind_some]
        have h6 : loop (fun q : Int × Int => law23_KeyBack_l6 s k q.1 q.2) (0, 0) = some (((s.filter fun x => decide (kcmp k x = 0)).length : Nat) : Int) := by
          refine loop_gather (xs := s) (fun j => ((((s.take j).filter fun x => decide (kcmp k x = 0)).length : Int), (j : Int))) rfl (fun j x hx => ?_) ?_
          · have hj := lt_of_get hx
            have hfl := filter_take_len (fun x => decide (kcmp k x = 0)) s j
            unfold law23_KeyBack_l6 law23_KeyBack_j5
            dsimp only
            rw [dlt_of hx, cond_true, getI_nat, hx, Option.bind_some, cmp_is, Option.bind_some, winc (by omega), winc (by omega), take_snoc' hx, List.filter_append]
            by_cases h : kcmp k x = 0
            · rw [show (kcmp k x == 0) = true from by simpa using h]
              simp [h]
            · rw [show (kcmp k x == 0) = false from by simpa using h]
              simp [h]
          · unfold law23_KeyBack_l6
            dsimp only
            rw [dlt_end, List.take_length]; rfl
        rw [h6, Option.bind_some, count_one ns.asc ((ns.mem k).2 hm)]
        unfold law23_KeyBack_j4 law23_KeyBack_j3
        rw [winc (by omega)]
        rfl
      · unfold law23_KeyBack_l7
        rw [← hL, dlt_end]; rfl
    rw [h7, Option.bind_some]
    simp only [Fl.el]
    unfold law23_KeyBack_j2 law23_KeyBack_j1
    obtain ⟨s2, es2, ns2⟩ := sorted_ok (l := s) (by unfold Rm; omega)
    have e : s2 = s := kasc_ext ns2.asc ns.asc ns2.mem
    rw [es2, e, Option.bind_some, beq_self_eq_true, cond_true]
    have c1 : ref22_Cyclic 17 = some true := by unfold ref22_Cyclic ref22_Cyclic_j1; rfl
    have c2 : key_Cyclic ⟨17, ByteArray.mk #[]⟩ = some true := by
      unfold key_Cyclic key_Cyclic_j1 key_language key_language_j1 queries_Cyclic queries_Cyclic_j2 queries_Cyclic_j1; rfl
    rw [c1, c2, law23_awake_is]
    exact Ok.ret rfl
  obtain ⟨b, e, rfl⟩ := key
  exact e
end Go.Proofs.YtjoilbmkcknnfaaDoor
