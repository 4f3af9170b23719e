/- Law 26, plain: RecordValid. -/
import Derived.Test.YtjoilbmkcknnfaaDoorYQ
import Derived.Test.YtjoilbmkcknnfaaDoorE6
set_option linter.unusedVariables false
set_option linter.unusedSimpArgs false
namespace Go.Proofs.YtjoilbmkcknnfaaDoor
open Go.RowKit
open Go.Lib hiding intOf

theorem cand (c x : Bool) : cond c (some x) (some false) = some (c && x) := by cases c <;> rfl
theorem cnand (c x : Bool) : cond c (some false) (some x) = some (!c && x) := by cases c <;> rfl
theorem cor (c x : Bool) : cond c (some true) (some x) = some (c || x) := by cases c <;> rfl
/-- a record of which it can be said whether it is valid -/
structure RecB (r : RecordD) : Prop where
  reads : r.Reads.length ≤ 1000
  text : r.Key.Text.size ≤ 140737488355328
  value : r.Value.size ≤ 140737488355328
  texts : ∀ k ∈ r.Reads, k.Text.size ≤ 140737488355328
noncomputable def vk (k : KeyD) : Bool := (key_Valid k).getD false
theorem vk_is {k : KeyD} (h : k.Text.size ≤ 140737488355328) : key_Valid k = some (vk k) ∧ ref23_Valid k = some (vk k) := by
  obtain ⟨b, h1, h2⟩ := valid_eq h
  unfold vk
  rw [h1, h2]; exact ⟨rfl, rfl⟩
theorem valid_same {r : RecordD} (h : RecB r) : ∃ b, record_Valid r = some b ∧ ref26_Valid r = some b := by
  have hl := h.reads
  obtain ⟨k1, k2⟩ := vk_is h.text
  obtain ⟨bi, hi⟩ := input_some r.Key
  have hi' : key_Input r.Key = some bi := by rw [input_eq]; exact hi
  obtain ⟨bc, c1, c2⟩ := cyclic_eq r.Key
  have hc : containsf_Key record_Valid_1 r.Reads = some (r.Reads.any fun k => !vk k) := indexf_key (fun k => !vk k) (by unfold Rm; omega) fun k hk => by
    unfold record_Valid_1
    rw [(vk_is (h.texts k hk)).1]; rfl
  have hlp : loop (fun s : Int => ref26_Valid_l3 r s) 0 = some (if (r.Reads.any fun k => !vk k) then Fl.out false else Fl.go ()) := by
    refine loop_any (xs := r.Reads) (fun k => !vk k) (fun i => (i : Int)) rfl (fun i k hk hp => ?_) (fun i k hk hp => ?_) ?_
    · unfold ref26_Valid_l3
      rw [dlt_of hk, cond_true, getI_nat, hk, Option.bind_some, (vk_is (h.texts k (List.mem_of_getElem? hk))).2, Option.bind_some, hp, cond_false, winc (by have := lt_of_get hk; omega)]
    · unfold ref26_Valid_l3
      rw [dlt_of hk, cond_true, getI_nat, hk, Option.bind_some, (vk_is (h.texts k (List.mem_of_getElem? hk))).2, Option.bind_some, hp, cond_true]
    · unfold ref26_Valid_l3
      rw [dlt_end]; rfl
  obtain ⟨an, han⟩ : ∃ an, an = r.Reads.any fun k => !vk k := ⟨_, rfl⟩
  rw [← han] at hc hlp
  have e1 : record_Valid r = some (vk r.Key && !bi && decide ((r.Value.size : Int) ≤ 1073741824) && decide ((r.Reads.length : Int) ≤ 4000) && (!r.Dirty || bc) && decide (0 ≤ r.Changed) && decide (r.Changed ≤ r.Verified) && decide (r.Verified ≤ 1073741824) && decide (1 ≤ r.Cost) && decide (r.Cost ≤ 1073741824) && !an) := by
    unfold record_Valid record_Valid_j2 record_Valid_j1
    rw [k1, hi', c1, hc]
    have d1 : decide ((1073741824 : Int) < (r.Value.size : Int)) = !decide ((r.Value.size : Int) ≤ 1073741824) := by
      by_cases h : (r.Value.size : Int) ≤ 1073741824
      · rw [decide_eq_true h, decide_eq_false (by omega)]; rfl
      · rw [decide_eq_false h, decide_eq_true (by omega)]; rfl
    have d2 : decide ((4000 : Int) < (r.Reads.length : Int)) = !decide ((r.Reads.length : Int) ≤ 4000) := by
      by_cases h : (r.Reads.length : Int) ≤ 4000
      · rw [decide_eq_true h, decide_eq_false (by omega)]; rfl
      · rw [decide_eq_false h, decide_eq_true (by omega)]; rfl
    rw [d1, d2]
    simp only [Option.bind_some, cand]
    generalize decide ((r.Value.size : Int) ≤ 1073741824) = x1
    generalize decide ((r.Reads.length : Int) ≤ 4000) = x2
    generalize decide (0 ≤ r.Changed) = x3
    generalize decide (r.Changed ≤ r.Verified) = x4
    generalize decide (r.Verified ≤ 1073741824) = x5
    generalize decide (1 ≤ r.Cost) = x6
    generalize decide (r.Cost ≤ 1073741824) = x7
    cases vk r.Key <;> cases bi <;> cases x1 <;> cases x2 <;> cases r.Dirty <;> cases bc <;> simp [Bool.and_assoc]
  have e2 : ref26_Valid r = some (vk r.Key && !bi && decide ((r.Value.size : Int) ≤ 1073741824) && decide ((r.Reads.length : Int) ≤ 4000) && (!r.Dirty || bc) && decide (0 ≤ r.Changed) && decide (r.Changed ≤ r.Verified) && decide (r.Verified ≤ 1073741824) && decide (1 ≤ r.Cost) && decide (r.Cost ≤ 1073741824) && !an) := by
    unfold ref26_Valid
    rw [hlp, Option.bind_some]
    cases an
    · simp only [Bool.false_eq_true, if_false, Fl.el]
      unfold ref26_Valid_j2 ref26_Valid_j1
      rw [k2, hi, c2]
      simp only [Option.bind_some, cand, cor]
      simp only [Bool.not_false, Bool.and_true, Bool.and_assoc]
      generalize decide ((r.Value.size : Int) ≤ 1073741824) = x1
      generalize decide ((r.Reads.length : Int) ≤ 4000) = x2
      generalize decide (0 ≤ r.Changed) = x3
      generalize decide (r.Changed ≤ r.Verified) = x4
      generalize decide (r.Verified ≤ 1073741824) = x5
      generalize decide (1 ≤ r.Cost) = x6
      generalize decide (r.Cost ≤ 1073741824) = x7
      cases r.Dirty <;> cases bc <;> simp
    · simp [Fl.el]
  exact ⟨_, e1, e2⟩
theorem vlist_same {l : List RecordD} (hl : Rm l.length) (h : ∀ r ∈ l, RecB r) : ∃ b, record_ValidList l = some b ∧ ref26_ValidList l = some b := by
  unfold Rm at hl
  have eB : ∀ g, ref26_ValidList_l3 l g = record_ValidList_l3 l g := fun g => by
    unfold ref26_ValidList_l3 record_ValidList_l3
    cases hg : getI l g with
    | none => rfl
    | some x =>
      obtain ⟨_, _, hx⟩ := getI_some hg
      obtain ⟨b, h1, h2⟩ := valid_same (h x (List.mem_of_getElem? hx))
      simp only [Option.bind_some, h1, h2, cmp_is, refcmp_is]
      rfl
  have e : ref26_ValidList l = record_ValidList l := by
    unfold ref26_ValidList record_ValidList
    rw [show (fun s : Int => ref26_ValidList_l3 l s) = fun s : Int => record_ValidList_l3 l s from funext eB]
    rfl
  have key : Ok (record_ValidList l) fun _ => True := by
    unfold record_ValidList
    refine Ok.loop (fun n s => s = (n : Int)) (fun _ => True) l.length rfl (fun n s hn hI => ?_) (fun r _ => ?_)
    · subst hI
      unfold record_ValidList_l3
      refine Ok.cond (fun e => ?_) (fun _ => Ok.ret trivial)
      have hn2 : n < l.length := by have := of_decide_eq_true e; omega
      rw [getI_nat, List.getElem?_eq_getElem hn2, Option.bind_some]
      obtain ⟨b, h1, _⟩ := valid_same (h _ (List.getElem_mem hn2))
      rw [h1, Option.bind_some]
      have j2 : ∀ b, Ok (record_ValidList_j2 (n : Int) b) fun r => match r with
          | .go s' => n < l.length ∧ s' = ((n + 1 : Nat) : Int)
          | .out _ => True := fun b => by
        unfold record_ValidList_j2
        refine Ok.cond (fun _ => Ok.ret trivial) (fun _ => Ok.ret ⟨hn2, winc (by omega)⟩)
      refine Ok.cond (fun _ => (j2 true).mono fun y hy => by cases y <;> exact hy) (fun _ => Ok.cond (fun e0 => ?_) (fun _ => (j2 false).mono fun y hy => by cases y <;> exact hy))
      have h0 : 0 < n := by have := of_decide_eq_true e0; omega
      rw [wrap_small (by omega) (by omega), show ((n : Int) - 1) = ((n - 1 : Nat) : Int) by omega, getI_nat, List.getElem?_eq_getElem (by omega : n - 1 < l.length), Option.bind_some, cmp_is, Option.bind_some]
      exact (j2 _).mono fun y hy => by cases y <;> exact hy
    · cases r with
      | go s => exact Ok.ret trivial
      | out b => exact Ok.ret trivial
  obtain ⟨b, hb, _⟩ := key
  exact ⟨b, hb, by rw [e, hb]⟩
theorem reffind_is {l : List RecordD} (hl : RmL l) (k : KeyD) : ref26_Find l k = some (findL l k) := by
  have h1 := hl.1
  unfold Rm at h1
  unfold ref26_Find
  have key := loop_first (B := fun t : Int => ref26_Find_l2 l k t) (xs := l) (fun r => keqB r.Key k) (fun i => (i : Int)) (s0 := 0) rfl (y := fun i x => Fl.out (x, true)) (n := Fl.go ()) (fun i x hx hp => by
      unfold ref26_Find_l2
      rw [dlt_of hx, cond_true, getI_nat, hx, Option.bind_some, winc (by have := lt_of_get hx; omega)]
      show cond (keqB x.Key k) _ _ = _
      rw [hp]; rfl) (fun i x hx hp => by
      unfold ref26_Find_l2
      rw [dlt_of hx, cond_true, getI_nat, hx, Option.bind_some]
      show cond (keqB x.Key k) _ _ = _
      rw [hp, copyone_is (hl.2 x (List.mem_of_getElem? hx))]; rfl) (by
      unfold ref26_Find_l2
      rw [dlt_end]; rfl)
  unfold findL
  rcases key with ⟨i, x, h1, h2, h3, h4⟩ | ⟨h1, h2⟩
  · rw [h4, find_at (p := fun r => keqB r.Key k) h1 h2 h3]; rfl
  · rw [h2, show l.find? (fun r => keqB r.Key k) = none from List.find?_eq_none.2 fun x hx => by rw [h1 x hx]; simp]; rfl
theorem refhas_is {l : List KeyD} (hl : Rm l.length) (k : KeyD) : ref23_Has l k = some (l.any fun x => keqB k x) := by
  unfold Rm at hl
  unfold ref23_Has
  refine bind_to (loop_any (xs := l) (fun x => keqB k x) (fun i => ((l.length : Int), (i : Int), k.Kind)) rfl (y := Fl.out true) (n := Fl.go ()) (fun i x hx hp => ?_) (fun i x hx hp => ?_) ?_) ?_
  · unfold ref23_Has_l2
    dsimp only
    rw [dlt_of hx, cond_true, getI_nat, hx, Option.bind_some, winc (by have := lt_of_get hx; omega)]
    show cond (keqB x k) _ _ = _
    rw [keqB_comm, hp]; rfl
  · unfold ref23_Has_l2
    dsimp only
    rw [dlt_of hx, cond_true, getI_nat, hx, Option.bind_some]
    show cond (keqB x k) _ _ = _
    rw [keqB_comm, hp]; rfl
  · unfold ref23_Has_l2
    dsimp only
    rw [dlt_end]; rfl
  · cases l.any fun x => keqB k x <;> rfl
theorem refreaders_is {l : List RecordD} (h : RmL l) (k : KeyD) : ref26_Readers l k = some (readersL l k) := by
  have hl := h.1
  unfold Rm at hl
  unfold ref26_Readers
  refine bind_to (loop_gather (xs := l) (fun i => (readersL (l.take i) k, (i : Int))) rfl (r := readersL l k) (fun i x hx => ?_) ?_) rfl
  · have hi := lt_of_get hx
    unfold ref26_Readers_l3 ref26_Readers_j2
    dsimp only
    rw [dlt_of hx, cond_true, getI_nat, hx, Option.bind_some, refhas_is (h.2 x (List.mem_of_getElem? hx)), Option.bind_some, winc (by omega)]
    have hr : roomB ((readersL (l.take i) k).length + [x.Key].length) = true := room (by
      have := filter_take_len (hasK k) l i
      unfold readersL; simp only [List.length_cons, List.length_nil, List.length_map]; omega)
    rw [hr]
    unfold readersL
    rw [take_snoc' hx, List.filter_append]
    show cond (hasK k x) _ _ = _
    cases h : hasK k x <;> simp [gd, h]
  · unfold ref26_Readers_l3
    dsimp only
    rw [dlt_end, List.take_length]; rfl
theorem findL_rm {l : List RecordD} (h : RmL l) (k : KeyD) : Rm (findL l k).1.Reads.length := by
  unfold findL
  cases hf : l.find? (fun r => keqB r.Key k) with
  | none => unfold noR Rm; simp
  | some y => exact h.2 y (List.mem_of_find?_eq_some hf)
theorem RecB.rml {l : List RecordD} (hl : l.length ≤ 100000) (h : ∀ r ∈ l, RecB r) : RmL l := ⟨by unfold Rm; omega, fun r hr => by have := (h r hr).reads; unfold Rm; omega⟩
/-- the keys asked for in one list -/
theorem valid_l3 {l : List RecordD} (h : RmL l) (k u : KeyD) (r1 : Int) (r2 : ByteArray) : loop (fun s : List KeyD × Int => law26_RecordValid_l3 k r1 r2 l u s.1 s.2) ([k, u, (KeyD.mk r1 r2)], 0) = some (.go ()) := by
  refine loop_gather (xs := [k, u, (KeyD.mk r1 r2)]) (fun i => ([k, u, (KeyD.mk r1 r2)], (i : Int))) rfl (fun i x hx => ?_) ?_
  · have hi := lt_of_get hx
    simp only [List.length_cons, List.length_nil] at hi
    unfold law26_RecordValid_l3
    dsimp only
    rw [dlt_of hx, cond_true, getI_nat, hx, Option.bind_some, find_is h, reffind_is h]
    simp only [Option.bind_some]
    rw [rec_eta, sameone_refl (findL_rm h x), readers_is h, refreaders_is h]
    simp only [Option.bind_some, Bool.not_true, cond_false, bne_self_eq_false]
    have hrl : Rm (readersL l x).length := by
      have h1 := h.1
      unfold Rm at *
      unfold readersL
      rw [List.length_map]
      exact Nat.le_trans (List.length_filter_le _ _) h1
    rw [samelist_refl hrl, winc (by omega)]
    rfl
  · unfold law26_RecordValid_l3
    dsimp only
    rw [dlt_end]; rfl
theorem valid_j5 {raw l m : List RecordD} {d : DiceD} (by_ : Int) (k : KeyD) (r1 : Int) (r2 : ByteArray) (h1 : raw.length ≤ 1000) (h2 : l.length ≤ 1000) (h3 : m.length ≤ 1000) (b1 : ∀ r ∈ raw, RecB r) (b2 : ∀ r ∈ l, RecB r) (b3 : ∀ r ∈ m, RecB r) : law26_RecordValid_j5 raw by_ k (l, d) r1 r2 m = some true := by
  unfold law26_RecordValid_j5
  refine bind_to (loop_gather (xs := [l, m, raw]) (fun i => ([l, m, raw], (i : Int))) rfl (r := .go ()) (fun i x hx => ?_) ?_) ?_
  · have hx2 := List.mem_of_getElem? hx
    have hi := lt_of_get hx
    simp only [List.length_cons, List.length_nil] at hi
    have q : x.length ≤ 1000 ∧ ∀ r ∈ x, RecB r := by
      simp only [List.mem_cons, List.not_mem_nil, or_false] at hx2
      rcases hx2 with rfl | rfl | rfl
      · exact ⟨h2, b2⟩
      · exact ⟨h3, b3⟩
      · exact ⟨h1, b1⟩
    obtain ⟨b, v1, v2⟩ := vlist_same (l := x) (by have := q.1; unfold Rm; omega) q.2
    obtain ⟨n, hn, en⟩ := mod_is by_ (m := 4) (by omega) (by omega)
    unfold law26_RecordValid_l4
    dsimp only
    rw [dlt_of hx, cond_true, getI_nat, hx, Option.bind_some, v1, v2]
    simp only [Option.bind_some, bne_self_eq_false, cond_false]
    rw [show mill_Mod by_ 4 = some (n : Int) from en, Option.bind_some, ref23_cell (by omega), Option.bind_some, valid_l3 (RecB.rml (by have := q.1; omega) q.2), Option.bind_some]
    simp only [Fl.el]
    unfold law26_RecordValid_j2
    rw [winc (by omega)]
  · unfold law26_RecordValid_l4
    dsimp only
    rw [dlt_end]; rfl
  · simp only [Fl.el]
    unfold law26_RecordValid_j1
    rw [law26_awake_is]; rfl
theorem valid_j7 {raw l m : List RecordD} {d : DiceD} (by_ : Int) (k : KeyD) (r1 : Int) (r2 : ByteArray) (h1 : raw.length ≤ 1000) (h2 : l.length ≤ 1000) (h3 : m.length ≤ 1000) (b1 : ∀ r ∈ raw, RecB r) (b2 : ∀ r ∈ l, RecB r) (b3 : ∀ r ∈ m, RecB r) : law26_RecordValid_j7 raw by_ k (l, d) r1 r2 m = some true := by
  unfold law26_RecordValid_j7
  rw [show roomB (m.length + raw.length) = true from room (by omega)]
  simp only [gd, cond_true]
  refine bind_to (loop_gather (xs := m ++ raw) (fun i => (i : Int)) rfl (r := .go ()) (fun i x hx => ?_) ?_) ?_
  · have hi := lt_of_get hx
    rw [List.length_append] at hi
    have hb : RecB x := by rcases List.mem_append.1 (List.mem_of_getElem? hx) with h | h; exact b3 x h; exact b1 x h
    obtain ⟨b, v1, v2⟩ := valid_same hb
    have es : ref26_Size x = record_Size x := rfl
    have es2 : ∃ z, record_Size x = some z := ⟨_, rfl⟩
    obtain ⟨z, hz⟩ := es2
    unfold law26_RecordValid_l6
    rw [dlt_of hx, cond_true, getI_nat, hx, Option.bind_some, v1, v2, es, hz]
    simp only [Option.bind_some, bne_self_eq_false, cond_false]
    rw [winc (by omega)]
  · unfold law26_RecordValid_l6
    rw [dlt_end]; rfl
  · simp only [Fl.el]
    exact valid_j5 by_ k r1 r2 h1 h2 h3 b1 b2 b3
theorem GoodR.recB {r : RecordD} (h : GoodR r) : RecB r := ⟨by have := h.reads; omega, by have := h.text; omega, by have := h.value; omega, fun k hk => by have := h.texts k hk; omega⟩
theorem valid_j8 {raw l : List RecordD} {d : DiceD} (by_ : Int) (k : KeyD) (u : RecordD × DiceD) (r1 : Int) (r2 : ByteArray) (r3 : List KeyD) (c v co : Int) (di : Bool) (h1 : raw.length ≤ 100) (h2 : l.length ≤ 100) (b1 : ∀ r ∈ raw, RecB r) (b2 : ∀ r ∈ l, RecB r) (t2 : r2.size ≤ 1000) (t3 : r3.length ≤ 100) (t4 : ∀ k ∈ r3, k.Text.size ≤ 1000) (t5 : u.1.Value.size ≤ 1000) :
    law26_RecordValid_j8 raw by_ k (l, d) u r1 r2 r3 c v co di = some true := by
  unfold law26_RecordValid_j8
  dsimp only
  rw [show roomB (([] : List RecordD).length + l.length) = true from room (by simp; omega), List.nil_append]
  rw [show roomB (l.length + [RecordD.mk (KeyD.mk r1 r2) u.1.Value r3 c v co di].length) = true from room (by simp; omega)]
  simp only [gd, cond_true]
  refine valid_j7 by_ k r1 r2 (by omega) (by omega) (by simp; omega) b1 b2 fun r hr => ?_
  rcases List.mem_append.1 hr with h | h
  · exact b2 r h
  · simp only [List.mem_cons, List.not_mem_nil, or_false] at h
    subst h
    exact ⟨by dsimp only; omega, by dsimp only; omega, by dsimp only; omega, fun k hk => by have := t4 k hk; omega⟩
theorem valid_law (raw : List RecordD) (t : List Int) (what by_ : Int) (k : KeyD) (hq : ∀ r ∈ raw, ∀ k ∈ r.Reads, k.Text.size ≤ 140737488355328) : law26_RecordValid raw t what by_ k = some true := by
  have key : Ok (law26_RecordValid raw t what by_ k) fun b => b = true := by
    unfold law26_RecordValid
    refine Ok.cond (fun _ => by rw [law26_awake_is]; exact Ok.ret rfl) (fun e => ?_)
    have hr : raw.length ≤ 40 := by have := of_decide_eq_false e; omega
    rw [light_is, Option.bind_some]
    refine Ok.cond (fun _ => by rw [law26_awake_is]; exact Ok.ret rfl) (fun e => ?_)
    have ht : t.length ≤ 400 := by simpa using e
    refine Ok.loop (fun n s => s = (n : Int) ∧ ∀ (i : Nat) (x : RecordD), i < n → raw[i]? = some x → RecB x) (fun r => r = .out true ∨ (r = .go () ∧ ∀ x ∈ raw, RecB x)) raw.length ⟨rfl, fun i x hi => by omega⟩ (fun n s hn hI => ?_) (fun r hr2 => ?_)
    · obtain ⟨rfl, hI⟩ := hI
      unfold law26_RecordValid_l10
      rw [law26_awake_is]
      refine Ok.cond (fun e => ?_) (fun e => ?_)
      · have hn2 : n < raw.length := by have := of_decide_eq_true e; omega
        rw [getI_nat, List.getElem?_eq_getElem hn2, Option.bind_some]
        refine Ok.cond (fun _ => Ok.ret (.inl rfl)) fun e1 => Ok.cond (fun _ => Ok.ret (.inl rfl)) fun e2 => Ok.cond (fun _ => Ok.ret (.inl rfl)) fun e3 => Ok.ret ⟨hn2, winc (by omega), fun i x hi hx => ?_⟩
        by_cases hin : i = n
        · subst hin
          rw [List.getElem?_eq_getElem hn2] at hx
          injection hx with hx
          rw [← hx]
          have e1 := of_decide_eq_false e1
          have e2 := of_decide_eq_false e2
          have e3 := of_decide_eq_false e3
          exact ⟨by omega, by omega, by omega, hq _ (List.getElem_mem hn2)⟩
        · exact hI i x (by omega) hx
      · have hn2 : n = raw.length := by have := of_decide_eq_false e; omega
        refine Ok.ret (.inr ⟨rfl, fun x hx => ?_⟩)
        obtain ⟨i, hi⟩ := List.mem_iff_getElem?.1 hx
        exact hI i x (by have := lt_of_get hi; omega) hi
    · rcases hr2 with rfl | ⟨rfl, hb⟩
      · exact Ok.ret rfl
      · simp only [Fl.el]
        unfold law26_RecordValid_j9
        rw [roll_is, Option.bind_some]
        refine Ok.bind (some_ok ⟨by simp, by simp, ht⟩) fun u hu => Ok.bind (one_ok hu.2) fun v hv => ?_
        have b2 : ∀ r ∈ u.1, RecB r := fun r hr => (hu.1.good r hr).recB
        have hul := hu.1.len
        have g := hv.1
        have gt := g.text
        have gv := g.value
        have gr := g.reads
        have j8 : ∀ (r1 : Int) (r2 : ByteArray) (r3 : List KeyD) (c w co : Int) (di : Bool), r2.size ≤ 1000 → r3.length ≤ 100 → (∀ k ∈ r3, k.Text.size ≤ 1000) → Ok (law26_RecordValid_j8 raw by_ k u v r1 r2 r3 c w co di) fun b => b = true := fun r1 r2 r3 c w co di q1 q2 q3 =>
          ⟨true, valid_j8 (d := u.2) by_ k v r1 r2 r3 c w co di (by omega) (by omega) hb b2 q1 q2 q3 (by omega), rfl⟩
        have rd : ∀ k ∈ v.1.Reads, k.Text.size ≤ 1000 := fun k hk => by have := g.texts k hk; omega
        obtain ⟨w9, hw9, ew9⟩ := mod_is what (m := 9) (by omega) (by omega)
        obtain ⟨m36, _, e36⟩ := mod_is by_ (m := 36) (by omega) (by omega)
        obtain ⟨m3, _, e3⟩ := mod_is by_ (m := 3) (by omega) (by omega)
        obtain ⟨m2, _, e2⟩ := mod_is by_ (m := 2) (by omega) (by omega)
        obtain ⟨m4, h4, e4⟩ := mod_is by_ (m := 4) (by omega) (by omega)
        rw [show mill_Mod what 9 = some (w9 : Int) from ew9, Option.bind_some, show mill_Mod by_ 36 = some (m36 : Int) from e36, show mill_Mod by_ 3 = some (m3 : Int) from e3, show mill_Mod by_ 2 = some (m2 : Int) from e2, show mill_Mod by_ 4 = some (m4 : Int) from e4]
        simp only [Option.bind_some]
        refine Ok.cond (fun _ => j8 _ _ _ _ _ _ _ (by decide) (by omega) rd) fun _ => Ok.cond (fun _ => j8 _ _ _ _ _ _ _ (by omega) (by omega) rd) fun _ => Ok.cond (fun _ => j8 _ _ _ _ _ _ _ (by omega) (by omega) rd) fun _ =>
          Ok.cond (fun _ => Ok.get (by omega) (by simp; omega) fun z _ _ => j8 _ _ _ _ _ _ _ (by omega) (by omega) rd) fun _ => Ok.cond (fun _ => j8 _ _ _ _ _ _ _ (by omega) (by omega) rd) fun _ =>
          Ok.cond (fun _ => Ok.gd (room (by simp; omega)) (j8 _ _ _ _ _ _ _ (by omega) (by simp; omega) fun k hk => ?_)) fun _ => Ok.cond (fun _ => j8 _ _ _ _ _ _ _ (by omega) (by omega) rd) fun _ => j8 _ _ _ _ _ _ _ (by omega) (by omega) rd
        rcases List.mem_append.1 hk with h | h
        · exact rd k h
        · simp only [List.mem_cons, List.not_mem_nil, or_false] at h
          subst h
          show (ByteArray.mk #[120]).size ≤ 1000
          decide
  obtain ⟨b, e, rfl⟩ := key
  exact e
end Go.Proofs.YtjoilbmkcknnfaaDoor
