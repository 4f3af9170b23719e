/- Law 26, plain: the records that are made; the sanity check. -/
import Derived.Test.YtjoilbmkcknnfaaDoorY3
set_option linter.unusedVariables false
set_option linter.unusedSimpArgs false
namespace Go.Proofs.YtjoilbmkcknnfaaDoor
open Go.RowKit
open Go.Lib hiding intOf

theorem putL_mem {l : List RecordD} {r x : RecordD} (h : x ∈ putL l r) : x ∈ l ∨ x = r := by
  unfold putL at h
  rcases List.mem_append.1 h with h | h
  · exact .inl (List.mem_filter.1 h).1
  · rcases List.mem_cons.1 h with h | h
    · exact .inr h
    · exact .inl (List.mem_filter.1 h).1
theorem putL_len (l : List RecordD) (r : RecordD) : (putL l r).length ≤ l.length + 1 := by
  have h1 : ∀ m : List RecordD, (m.filter fun x => decide (kcmp x.Key r.Key < 0)).length + (m.filter fun x => decide (0 < kcmp x.Key r.Key)).length ≤ m.length := by
    intro m
    induction m with
    | nil => simp
    | cons y m ih =>
      by_cases a : kcmp y.Key r.Key < 0
      · rw [List.filter_cons_of_pos (by simpa using a), List.filter_cons_of_neg (by simp; omega)]; simp only [List.length_cons]; omega
      · by_cases b : 0 < kcmp y.Key r.Key
        · rw [List.filter_cons_of_neg (by simpa using a), List.filter_cons_of_pos (by simpa using b)]; simp only [List.length_cons]; omega
        · rw [List.filter_cons_of_neg (by simpa using a), List.filter_cons_of_neg (by simpa using b)]; simp only [List.length_cons]; omega
  have := h1 l
  unfold putL
  simp only [List.length_append, List.length_cons]; omega
theorem putL_asc {l : List RecordD} (h : Asc l) (r : RecordD) : Asc (putL l r) := by
  unfold Asc putL
  rw [List.pairwise_append]
  refine ⟨List.Pairwise.filter _ h, List.pairwise_cons.2 ⟨fun x hx => ?_, List.Pairwise.filter _ h⟩, fun x hx y hy => ?_⟩
  · have := (List.mem_filter.1 hx).2
    simp only [decide_eq_true_eq] at this
    exact kcmp_pos.1 this
  · have h1 := (List.mem_filter.1 hx).2
    simp only [decide_eq_true_eq] at h1
    rcases List.mem_cons.1 hy with rfl | hy
    · exact h1
    · have h2 := (List.mem_filter.1 hy).2
      simp only [decide_eq_true_eq] at h2
      exact kcmp_trans h1 (kcmp_pos.1 h2)
theorem dropL_asc {l : List RecordD} (h : Asc l) (k : KeyD) : Asc (dropL l k) := List.Pairwise.filter _ h
theorem dropL_len (l : List RecordD) (k : KeyD) : (dropL l k).length ≤ l.length := List.length_filter_le _ _
theorem dropL_mem {l : List RecordD} {k : KeyD} {x : RecordD} (h : x ∈ dropL l k) : x ∈ l := (List.mem_filter.1 h).1
/-- a record that the law makes -/
structure GoodR (r : RecordD) : Prop where
  valid : record_Valid r = some true
  reads : r.Reads.length ≤ 10
  text : r.Key.Text.size ≤ 10
  value : r.Value.size ≤ 10
  texts : ∀ k ∈ r.Reads, k.Text.size ≤ 10
theorem word_num {w : ByteArray} (h : w ∈ [(ByteArray.mk #[48]), (ByteArray.mk #[49]), (ByteArray.mk #[50]), (ByteArray.mk #[51]), (ByteArray.mk #[49, 50])]) : ∃ n : Nat, n < 100 ∧ w = itoaS n := by
  have e : ∀ (n : Nat) (v : ByteArray), (⟨(decDigits n).toArray⟩ : ByteArray) = v → itoaS (n : Int) = v := fun n v h => by unfold itoaS; rw [itoa_nat, h]
  simp only [List.mem_cons, List.not_mem_nil, or_false] at h
  rcases h with rfl | rfl | rfl | rfl | rfl
  · exact ⟨0, by omega, (e 0 _ (by show _ = _; kernel_rfl)).symm⟩
  · exact ⟨1, by omega, (e 1 _ (by show _ = _; kernel_rfl)).symm⟩
  · exact ⟨2, by omega, (e 2 _ (by show _ = _; kernel_rfl)).symm⟩
  · exact ⟨3, by omega, (e 3 _ (by show _ = _; kernel_rfl)).symm⟩
  · exact ⟨12, by omega, (e 12 _ (by show _ = _; kernel_rfl)).symm⟩
theorem valid_key {k : Int} {n : Nat} (hk : k = 30 ∨ k = 31 ∨ k = 32) (h : n < 100) : key_Valid ⟨k, itoaS n⟩ = some true := by
  have h1 : key_toy k = some true := by rcases hk with rfl | rfl | rfl <;> (unfold key_toy; rfl)
  unfold key_Valid
  rw [h1, number_of hk h]
  simp
theorem input_rule {k : Int} (t : ByteArray) (hk : k = 31 ∨ k = 32) : key_Input ⟨k, t⟩ = some false := by
  rcases hk with rfl | rfl <;> (unfold key_Input key_Input_j1; rfl)
theorem indexf_key {s : List KeyD} {f : KeyD → Option Bool} (p : KeyD → Bool) (hl : Rm s.length) (hf : ∀ x ∈ s, f x = some (p x)) : containsf_Key f s = some (s.any p) := by
  unfold Rm at hl
  have key := loop_first (B := fun t : Int × Int => indexf_Key_l2 s f t.1 t.2) (xs := s) p (fun k => ((s.length : Int), (k : Int))) (s0 := ((s.length : Int), 0)) rfl (y := fun k _ => Fl.out (k : Int)) (n := Fl.go ()) (fun k x hx hp => by
      unfold indexf_Key_l2
      dsimp only
      rw [dlt_of hx, cond_true, getI_nat, hx, Option.bind_some, hf x (List.mem_of_getElem? hx), Option.bind_some, hp, cond_false, winc (by have := lt_of_get hx; omega)]) (fun k x hx hp => by
      unfold indexf_Key_l2
      dsimp only
      rw [dlt_of hx, cond_true, getI_nat, hx, Option.bind_some, hf x (List.mem_of_getElem? hx), Option.bind_some, hp, cond_true]) (by
      unfold indexf_Key_l2
      dsimp only
      rw [dlt_end]; rfl)
  unfold containsf_Key indexf_Key
  rcases key with ⟨k, x, h1, h2, h3, h4⟩ | ⟨h1, h2⟩
  · rw [h4, List.any_eq_true.2 ⟨x, List.mem_of_getElem? h1, h2⟩]
    simp [Fl.el]
  · rw [h2, List.any_eq_false.2 fun x hx => by rw [h1 x hx]; simp]
    rfl
theorem wrap_small {z : Int} (h1 : -1000000000000 ≤ z) (h2 : z ≤ 1000000000000) : IntKind.i64.wrap z = z := w64 (by omega) (by omega)
theorem cell_size {n : Nat} (h : n < 1000) : (cellK n).Text.size ≤ 10 := by
  have h1 : (itoaS n).size = (itoa n).length := by simp [itoaS, ByteArray.size]
  have := dec_len n 3 (by omega)
  show (itoaS n).size ≤ 10
  rw [h1, itoa_nat]; omega
theorem one_ok {l : List Int} {i : Int} (h : DiceOk l i) : Ok (law26_one ⟨l, i⟩) fun r => GoodR r.1 ∧ DiceOk r.2.L r.2.At := by
  unfold law26_one
  refine Ok.bind (next_ok h (n := 2) (by omega) (by omega)) fun u1 h1 => Ok.bind (word_ok h1.2.2 (by simp) (by simp)) fun u2 h2 => Ok.bind (word_ok h2.2 (by simp) (by simp)) fun u3 h3 =>
    Ok.bind (next_ok h3.2 (n := 3) (by omega) (by omega)) fun u4 h4 => Ok.bind (next_ok h4.2.2 (n := 4) (by omega) (by omega)) fun u5 h5 => Ok.bind (next_ok h5.2.2 (n := 3) (by omega) (by omega)) fun u6 h6 =>
    Ok.bind (next_ok h6.2.2 (n := 3) (by omega) (by omega)) fun u7 h7 => ?_
  obtain ⟨K, hK⟩ : ∃ K : Nat, u7.1 = K := ⟨u7.1.toNat, by omega⟩
  refine Ok.loop (fun n s => n ≤ K ∧ s.1 = ((K - n : Nat) : Int) ∧ DiceOk s.2.1 s.2.2.1 ∧ s.2.2.2.length = n ∧ ∀ k ∈ s.2.2.2, key_Valid k = some true ∧ k.Text.size ≤ 10) (fun r => DiceOk r.2.1 r.2.2 ∧ r.1.length ≤ 2 ∧ ∀ k ∈ r.1, key_Valid k = some true ∧ k.Text.size ≤ 10) K
    ⟨Nat.zero_le _, by simpa using hK, h7.2.2, rfl, by simp⟩ (fun n s hn hI => ?_) (fun r hr => ?_)
  · obtain ⟨k, dl, da, rs⟩ := s
    obtain ⟨a1, a2, a3, a4, a5⟩ := hI
    dsimp only at a2 a3 a4 a5
    subst a2
    unfold law26_one_l2
    dsimp only
    refine Ok.cond (fun e => ?_) (fun e => ?_)
    · have e : 0 < K - n := by have := of_decide_eq_true e; omega
      refine Ok.bind (next_ok a3 (n := 4) (by omega) (by omega)) fun u hu => ?_
      obtain ⟨m, hm⟩ : ∃ m : Nat, u.1 = m := ⟨u.1.toNat, by omega⟩
      rw [hm, ref23_cell (by omega), Option.bind_some]
      refine Ok.gd (room (by simp; omega)) (Ok.ret ⟨by omega, by omega, ?_, hu.2.2, by simp [a4], fun k hk => ?_⟩)
      · show IntKind.i64.wrap _ = _
        rw [wrap_small (by omega) (by omega)]; omega
      · rcases List.mem_append.1 hk with hk | hk
        · exact a5 k hk
        · simp only [List.mem_cons, List.not_mem_nil, or_false] at hk
          subst hk; exact ⟨key_cell (by omega), cell_size (by omega)⟩
    · exact Ok.ret ⟨a3, by dsimp only; omega, a5⟩
  · obtain ⟨rs, dl, da⟩ := r
    obtain ⟨b1, b2, b3⟩ := hr
    unfold law26_one_j1
    dsimp only at b1 b2 b3 ⊢
    obtain ⟨n, hn, e2⟩ := word_num h2.1
    have hkd : IntKind.i64.wrap (31 + u1.1) = 31 ∨ IntKind.i64.wrap (31 + u1.1) = 32 := by rw [wrap_small (by omega) (by omega)]; omega
    have hv3 : u3.1.size ≤ 3 := by
      have := h3.1
      simp only [List.mem_cons, List.not_mem_nil, or_false] at this
      rcases this with e | e | e <;> rw [e] <;> decide
    have hv2 : u2.1.size ≤ 3 := by
      have := h2.1
      simp only [List.mem_cons, List.not_mem_nil, or_false] at this
      rcases this with e | e | e | e | e <;> rw [e] <;> decide
    refine Ok.ret ⟨⟨?_, by dsimp only; omega, by dsimp only; omega, by dsimp only; omega, fun k hk => (b3 k hk).2⟩, b1⟩
    rw [wrap_small (z := u5.1 + u6.1) (by omega) (by omega), wrap_small (z := 1 + u4.1) (by omega) (by omega), e2]
    unfold record_Valid
    dsimp only
    rw [valid_key (by omega) hn, Option.bind_some, Bool.not_true, cond_false, input_rule _ hkd, Option.bind_some, cond_false, decide_eq_false (by omega), cond_false, decide_eq_false (by omega), cond_false, cond_false]
    unfold record_Valid_j2 record_Valid_j1
    dsimp only
    rw [cond_false, decide_eq_true (by omega), decide_eq_true (by omega), decide_eq_true (by omega), decide_eq_true (by omega), decide_eq_true (by omega)]
    simp only [cond_true]
    rw [indexf_key (fun _ => false) (by unfold Rm; omega) fun x hx => by unfold record_Valid_1; rw [(b3 x hx).1]; rfl, Option.bind_some, List.any_eq_false.2 fun x _ => by simp]
    rfl
theorem GoodR.rm {r : RecordD} (h : GoodR r) : Rm r.Reads.length := by have := h.reads; unfold Rm; omega
/-- records that the law makes -/
structure GoodL (l : List RecordD) (n : Nat) : Prop where
  asc : Asc l
  len : l.length ≤ n
  good : ∀ r ∈ l, GoodR r
theorem GoodL.rm {l : List RecordD} {n : Nat} (h : GoodL l n) (hn : n ≤ 1000) : RmL l := ⟨by have := h.len; unfold Rm; omega, fun r hr => (h.good r hr).rm⟩
theorem GoodL.put {l : List RecordD} {n : Nat} (h : GoodL l n) {r : RecordD} (hr : GoodR r) : GoodL (putL l r) (n + 1) :=
  ⟨putL_asc h.asc r, by have := putL_len l r; have := h.len; omega, fun x hx => by rcases putL_mem hx with hx | rfl; exact h.good x hx; exact hr⟩
theorem GoodL.drop {l : List RecordD} {n : Nat} (h : GoodL l n) (k : KeyD) : GoodL (dropL l k) n :=
  ⟨dropL_asc h.asc k, by have := dropL_len l k; have := h.len; omega, fun x hx => h.good x (dropL_mem hx)⟩
theorem some_ok {l : List Int} {i : Int} (h : DiceOk l i) : Ok (law26_some ⟨l, i⟩) fun r => GoodL r.1 6 ∧ DiceOk r.2.L r.2.At := by
  unfold law26_some
  refine Ok.bind (next_ok h (n := 7) (by omega) (by omega)) fun u hu => ?_
  obtain ⟨K, hK⟩ : ∃ K : Nat, u.1 = K := ⟨u.1.toNat, by omega⟩
  refine Ok.loop (fun n s => n ≤ K ∧ s.2.1 = ((K - n : Nat) : Int) ∧ DiceOk s.2.2.1 s.2.2.2 ∧ GoodL s.1 n) (fun r => DiceOk r.2.1 r.2.2 ∧ GoodL r.1 6) K
    ⟨Nat.zero_le _, by simpa using hK, hu.2.2, List.Pairwise.nil, Nat.le_refl _, by simp⟩ (fun n s hn hI => ?_) (fun r hr => ?_)
  · obtain ⟨rs, k, dl, da⟩ := s
    obtain ⟨a1, a2, a3, a4⟩ := hI
    dsimp only at a2 a3 a4
    subst a2
    unfold law26_some_l2
    dsimp only
    refine Ok.cond (fun e => ?_) (fun e => ?_)
    · have e : 0 < K - n := by have := of_decide_eq_true e; omega
      refine Ok.bind (one_ok a3) fun r hr => ?_
      rw [show (RecordD.mk (KeyD.mk r.1.Key.Kind r.1.Key.Text) r.1.Value r.1.Reads r.1.Changed r.1.Verified r.1.Cost r.1.Dirty) = r.1 from rfl, refput_is a4.asc (a4.rm (by omega)).1 hr.1.rm, Option.bind_some]
      refine Ok.ret ⟨by omega, by omega, ?_, hr.2, a4.put hr.1⟩
      show IntKind.i64.wrap _ = _
      rw [wrap_small (by omega) (by omega)]; omega
    · exact Ok.ret ⟨a3, a4.asc, by have := a4.len; dsimp only at *; omega, a4.good⟩
  · obtain ⟨rs, dl, da⟩ := r
    exact Ok.ret ⟨hr.2, hr.1⟩
theorem light_is (t : List Int) : mill_Light t = some (decide (t.length ≤ 400)) := by
  unfold mill_Light
  by_cases h : t.length ≤ 400
  · rw [decide_eq_true h, decide_eq_true (by omega)]
  · rw [decide_eq_false h, decide_eq_false (by omega)]
theorem roll_is (t : List Int) : mill_Roll t = some ⟨t, 0⟩ := rfl
theorem rec_eta (r : RecordD) : RecordD.mk (KeyD.mk r.Key.Kind r.Key.Text) r.Value r.Reads r.Changed r.Verified r.Cost r.Dirty = r := rfl
theorem key_eta (k : KeyD) : KeyD.mk k.Kind k.Text = k := rfl
theorem law26_awake_is : law26_awake = some true := by
  have e4 : (ByteArray.mk #[52]) = itoaS ((4 : Nat) : Int) := by
    unfold itoaS; rw [itoa_nat]; show _ = _; kernel_rfl
  obtain ⟨r, hr⟩ : ∃ r, r = RecordD.mk (KeyD.mk 31 (ByteArray.mk #[52])) (ByteArray.mk #[49, 50]) ([]) 0 0 1 false := ⟨_, rfl⟩
  have hrm : Rm r.Reads.length := by rw [hr]; unfold Rm; simp
  have h1 : record_Put [] r = some [r] := by
    rw [put_is List.Pairwise.nil ⟨by unfold Rm; simp, by simp⟩ hrm]; rfl
  have hk : KeyD.mk 31 (ByteArray.mk #[52]) = r.Key := by rw [hr]
  have h2 : record_Find [r] r.Key = some (r, true) := by
    rw [find_is ⟨by unfold Rm; simp, fun x hx => by simp only [List.mem_cons, List.not_mem_nil, or_false] at hx; rw [hx]; exact hrm⟩]
    unfold findL
    simp only [List.find?, keqB_refl]
  have h3 : record_Size r = some 19 := by rw [hr]; rfl
  have h4 : record_Valid r = some true := by
    rw [hr]
    unfold record_Valid
    dsimp only
    rw [e4, valid_key (.inr (.inl rfl)) (by omega), Option.bind_some, Bool.not_true, cond_false, input_rule _ (.inl rfl), Option.bind_some]
    unfold record_Valid_j2 record_Valid_j1
    dsimp only
    simp only [cond_false]
    rw [indexf_key (fun _ => false) (by unfold Rm; simp) fun x hx => by cases hx]
    rfl
  have h5 : record_Drop [r] r.Key = some [] := by
    rw [drop_is ⟨by unfold Rm; simp, fun x hx => by simp only [List.mem_cons, List.not_mem_nil, or_false] at hx; rw [hx]; exact hrm⟩]
    unfold dropL
    rw [List.filter_cons_of_neg (by simp [keqB_refl])]; rfl
  unfold law26_awake
  rw [← hr, h1, Option.bind_some, hk, h2, Option.bind_some, h3, Option.bind_some, h4]
  dsimp only
  rw [rec_eta, sameone_refl hrm, h5]
  unfold law26_awake_j1
  simp
end Go.Proofs.YtjoilbmkcknnfaaDoor
