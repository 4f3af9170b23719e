/- Law 26, plain: RecordKeeps. -/
import Derived.Test.YtjoilbmkcknnfaaDoorY4
import Derived.Test.YtjoilbmkcknnfaaDoorY1
import Derived.Test.YtjoilbmkcknnfaaDoorE4
set_option linter.unusedVariables false
set_option linter.unusedSimpArgs false
namespace Go.Proofs.YtjoilbmkcknnfaaDoor
open Go.RowKit
open Go.Lib hiding intOf

theorem asc_ext : ∀ {a b : List RecordD}, Asc a → Asc b → (∀ x, x ∈ a ↔ x ∈ b) → a = b
  | [], [], _, _, _ => rfl
  | [], y :: b, _, _, h => by have := (h y).2 List.mem_cons_self; cases this
  | x :: a, [], _, _, h => by have := (h x).1 List.mem_cons_self; cases this
  | x :: a, y :: b, ha, hb, h => by
    have ha' := List.pairwise_cons.1 ha
    have hb' := List.pairwise_cons.1 hb
    have e : x = y := by
      rcases List.mem_cons.1 ((h x).1 List.mem_cons_self) with e | h1
      · exact e
      · rcases List.mem_cons.1 ((h y).2 List.mem_cons_self) with e | h2
        · exact e.symm
        · exact absurd (hb'.1 x h1) (kcmp_asym (ha'.1 y h2))
    subst e
    rw [asc_ext ha'.2 hb'.2 fun z => ?_]
    constructor
    · intro hz
      rcases List.mem_cons.1 ((h z).1 (List.mem_cons_of_mem _ hz)) with e | h1
      · subst e; exact absurd (ha'.1 z hz) kcmp_irr
      · exact h1
    · intro hz
      rcases List.mem_cons.1 ((h z).2 (List.mem_cons_of_mem _ hz)) with e | h1
      · subst e; exact absurd (hb'.1 z hz) kcmp_irr
      · exact h1
theorem mem_putL {l : List RecordD} {r x : RecordD} : x ∈ putL l r ↔ x = r ∨ (x ∈ l ∧ x.Key ≠ r.Key) := by
  unfold putL
  rw [List.mem_append, List.mem_cons, List.mem_filter, List.mem_filter]
  simp only [decide_eq_true_eq]
  constructor
  · rintro (⟨h, h1⟩ | h | ⟨h, h1⟩)
    · exact .inr ⟨h, kcmp_ne h1⟩
    · exact .inl h
    · exact .inr ⟨h, fun e => by rw [e, kcmp_refl] at h1; omega⟩
  · rintro (h | ⟨h, h1⟩)
    · exact .inr (.inl h)
    · rcases kcmp_tri x.Key r.Key with h2 | h2 | h2
      · exact .inl ⟨h, h2⟩
      · exact absurd h2 h1
      · exact .inr (.inr ⟨h, kcmp_pos.2 h2⟩)
theorem putL_perm (l : List RecordD) (r : RecordD) : (putL l r).Perm (r :: l.filter fun x => !keqB x.Key r.Key) := by
  unfold putL
  refine List.perm_middle.trans (List.Perm.cons _ ?_)
  induction l with
  | nil => exact List.Perm.refl _
  | cons y m ih =>
    rcases kcmp_tri y.Key r.Key with h | h | h
    · rw [List.filter_cons_of_pos (by simpa using h), List.filter_cons_of_neg (by have := kcmp_asym h; rw [← kcmp_pos] at this; simpa using this), List.filter_cons_of_pos (by rw [keqB_no.2 (kcmp_ne h)]; rfl)]
      exact ih.cons y
    · rw [List.filter_cons_of_neg (by rw [h, kcmp_refl]; simp), List.filter_cons_of_neg (by rw [h, kcmp_refl]; simp), List.filter_cons_of_neg (by rw [keqB_iff.2 h]; simp)]
      exact ih
    · rw [List.filter_cons_of_neg (by simpa using kcmp_asym h), List.filter_cons_of_pos (by simpa using kcmp_pos.2 h), List.filter_cons_of_pos (by rw [keqB_no.2 (fun e => kcmp_ne h e.symm)]; rfl)]
      exact List.perm_middle.trans (ih.cons y)
theorem put_comm {l : List RecordD} (h : Asc l) {r q : RecordD} (hne : r.Key ≠ q.Key) : putL (putL l r) q = putL (putL l q) r := by
  refine asc_ext (putL_asc (putL_asc h r) q) (putL_asc (putL_asc h q) r) fun x => ?_
  rw [mem_putL, mem_putL, mem_putL, mem_putL]
  constructor
  · rintro (rfl | ⟨rfl | ⟨h1, h2⟩, h3⟩)
    · exact .inr ⟨.inl rfl, fun e => hne e.symm⟩
    · exact .inl rfl
    · exact .inr ⟨.inr ⟨h1, h3⟩, h2⟩
  · rintro (rfl | ⟨rfl | ⟨h1, h2⟩, h3⟩)
    · exact .inr ⟨.inl rfl, hne⟩
    · exact .inl rfl
    · exact .inr ⟨.inr ⟨h1, h3⟩, h2⟩
theorem asc_key {l : List RecordD} (h : Asc l) {x y : RecordD} (hx : x ∈ l) (hy : y ∈ l) (e : x.Key = y.Key) : x = y := by
  induction l with
  | nil => cases hx
  | cons z m ih =>
    have h' := List.pairwise_cons.1 h
    rcases List.mem_cons.1 hx with e1 | h1
    · rcases List.mem_cons.1 hy with e2 | h2
      · rw [e1, e2]
      · subst e1; exact absurd e (kcmp_ne (h'.1 y h2))
    · rcases List.mem_cons.1 hy with e2 | h2
      · subst e2; exact absurd e.symm (kcmp_ne (h'.1 x h1))
      · exact ih h'.2 h1 h2
theorem find_mem {l : List RecordD} (h : Asc l) {x : RecordD} (hx : x ∈ l) : findL l x.Key = (x, true) := by
  unfold findL
  cases hf : l.find? (fun r => keqB r.Key x.Key) with
  | none =>
    have := List.find?_eq_none.1 hf x hx
    simp [keqB_refl] at this
  | some y =>
    have h1 := List.find?_some hf
    have h2 := List.mem_of_find?_eq_some hf
    rw [asc_key h h2 hx (keqB_iff.1 h1)]
/-- pairs of records with their keys -/
def pairsR (l : List RecordD) : List (KeyD × RecordD) := l.map fun r => (r.Key, r)
theorem nd_pairs {l : List RecordD} (h : Asc l) : Nd (pairsR l) := by
  unfold Nd pairsR
  rw [List.map_map]
  refine List.Pairwise.map _ (fun a b hab => ?_) h
  exact kcmp_ne hab
theorem keqD_iff : ∀ a b : KeyD, keq_KeyD a b = true ↔ a = b := fun a b => keqB_iff
theorem keqB_comm (a b : KeyD) : keqB a b = keqB b a := by
  by_cases h : a = b
  · rw [h]
  · rw [keqB_no.2 h, keqB_no.2 fun e => h e.symm]
theorem filter_pairs (l : List RecordD) (k : KeyD) : (pairsR l).filter (fun y => !keq_KeyD k y.1) = pairsR (l.filter fun x => !keqB x.Key k) := by
  unfold pairsR
  rw [List.filter_map]
  congr 1
  refine List.filter_congr fun x _ => ?_
  show (!keqB k x.Key) = _
  rw [keqB_comm]
theorem map_put {l : List RecordD} {m : List (KeyD × RecordD)} (ha : Asc l) (h : m.Perm (pairsR l)) (r : RecordD) : (mput keq_KeyD r.Key r m).Perm (pairsR (putL l r)) := by
  have hn : Nd m := (nd_pairs ha).perm h.symm
  refine (mput_perm keqD_iff r.Key r hn).trans ?_
  refine ((h.filter _).cons _).trans ?_
  rw [filter_pairs]
  exact ((putL_perm l r).map (fun r => (r.Key, r))).symm
theorem map_del {l : List RecordD} {m : List (KeyD × RecordD)} (ha : Asc l) (h : m.Perm (pairsR l)) (k : KeyD) : (mdel keq_KeyD k m).Perm (pairsR (dropL l k)) := by
  have hn : Nd m := (nd_pairs ha).perm h.symm
  rw [mdel_filter keqD_iff k hn]
  unfold dropL
  rw [← filter_pairs]
  exact h.filter _
theorem map_get {l : List RecordD} {m : List (KeyD × RecordD)} (ha : Asc l) (h : m.Perm (pairsR l)) {x : RecordD} (hx : x ∈ l) : mget keq_KeyD x.Key m = some x := by
  have hn : Nd m := (nd_pairs ha).perm h.symm
  rw [mget_mem keqD_iff hn]
  exact h.mem_iff.2 (List.mem_map_of_mem (f := fun r => (r.Key, r)) hx)
theorem vlist_good {l : List RecordD} {n : Nat} (h : GoodL l n) (hn : n ≤ 1000) : record_ValidList l = some true := by
  have hl := h.len
  unfold record_ValidList
  refine bind_to (loop_gather (xs := l) (fun i => (i : Int)) rfl (r := .go ()) (fun i x hx => ?_) ?_) ?_
  · have hi := lt_of_get hx
    unfold record_ValidList_l3 record_ValidList_j2
    rw [dlt_of hx, cond_true, getI_nat, hx, Option.bind_some, (h.good x (List.mem_of_getElem? hx)).valid, Option.bind_some, Bool.not_true, cond_false, winc (by omega)]
    by_cases h0 : 0 < i
    · rw [decide_eq_true (by omega), cond_true, wrap_small (by omega) (by omega), show ((i : Int) - 1) = ((i - 1 : Nat) : Int) by omega, getI_nat, List.getElem?_eq_getElem (by omega : i - 1 < l.length), Option.bind_some, cmp_is, Option.bind_some]
      have := List.pairwise_iff_getElem.1 h.asc (i - 1) i (by omega) hi (by omega)
      rw [(List.getElem?_eq_some_iff.1 hx).2] at this
      rw [decide_eq_false (by omega)]; rfl
    · rw [decide_eq_false (by omega)]; rfl
  · unfold record_ValidList_l3
    rw [dlt_end]; rfl
  · simp only [Fl.el]
    unfold record_ValidList_j1
    rw [decide_eq_true (by omega)]
theorem keeps_j4 {l : List RecordD} {m : List (KeyD × RecordD)} {k : Nat} {g : List Int} {a : Int} (h : GoodL l (k + 1)) (hk : k < 20) (hp : m.Perm (pairsR l)) : law26_RecordKeeps_j4 (k : Int) l m g a = some (.go (l, m, ((k + 1 : Nat) : Int), g, a)) := by
  have hl := h.len
  unfold law26_RecordKeeps_j4
  rw [show m.length = l.length from by rw [hp.length_eq]; simp [pairsR], show ((l.length : Int) != (l.length : Int)) = false by simp, cond_false, vlist_good h (by omega), Option.bind_some, Bool.not_true, cond_false]
  refine bind_to (loop_gather (xs := l) (fun i => (i : Int)) rfl (r := .go (l, m, g, a)) (fun i x hx => ?_) ?_) ?_
  · have hi := lt_of_get hx
    have hm := List.mem_of_getElem? hx
    unfold law26_RecordKeeps_l3
    rw [dlt_of hx, cond_true, getI_nat, hx, Option.bind_some, find_is (h.rm (by omega)), find_mem h.asc hm, Option.bind_some]
    dsimp only
    rw [Bool.not_true, cond_false, rec_eta, sameone_refl (h.good x hm).rm, Option.bind_some, Bool.not_true, cond_false, map_get h.asc hp hm, Option.bind_some]
    simp only [Option.getD_some]
    rw [sameone_refl (h.good x hm).rm, Option.bind_some, Bool.not_true, cond_false, winc (by omega)]
  · unfold law26_RecordKeeps_l3
    rw [dlt_end]; rfl
  · simp only [Fl.el]
    unfold law26_RecordKeeps_j2
    rw [winc (by omega)]
theorem keeps_is (t : List Int) : law26_RecordKeeps t = some true := by
  have key : Ok (law26_RecordKeeps t) fun b => b = true := by
    unfold law26_RecordKeeps
    rw [light_is, Option.bind_some]
    refine Ok.cond (fun _ => by rw [law26_awake_is]; exact Ok.ret rfl) (fun e => ?_)
    have ht : t.length ≤ 400 := by simpa using e
    rw [roll_is, Option.bind_some]
    refine Ok.loop (fun k s => GoodL s.1 k ∧ s.2.1.Perm (pairsR s.1) ∧ s.2.2.1 = (k : Int) ∧ DiceOk s.2.2.2.1 s.2.2.2.2) (fun r => r = .go ()) 20 ⟨⟨List.Pairwise.nil, Nat.le_refl _, by simp⟩, List.Perm.refl _, rfl, by simp, by simp, ht⟩ (fun k s hk hI => ?_) (fun r hr => ?_)
    · obtain ⟨l, m, k', g, a⟩ := s
      obtain ⟨a1, a2, a3, a4⟩ := hI
      dsimp only at a1 a2 a3 a4
      subst a3
      unfold law26_RecordKeeps_l6
      dsimp only
      refine Ok.cond (fun e => ?_) (fun e => Ok.ret rfl)
      have hk2 : k < 20 := by have := of_decide_eq_true e; omega
      refine Ok.bind (one_ok a4) fun u hu => Ok.bind (one_ok hu.2) fun v hv => Ok.bind (next_ok hv.2 (n := 3) (by omega) (by omega)) fun w hw => ?_
      have hl := a1.rm (by omega)
      have g1 := a1.put hu.1
      have g2 := a1.put hv.1
      have fin : ∀ b : Bool, Ok (law26_RecordKeeps_j5 l m (k : Int) u w false) fun r => match r with
          | .go s' => k < 20 ∧ GoodL s'.1 (k + 1) ∧ s'.2.1.Perm (pairsR s'.1) ∧ s'.2.2.1 = ((k + 1 : Nat) : Int) ∧ DiceOk s'.2.2.2.1 s'.2.2.2.2
          | .out r => r = .go () := fun b => by
        unfold law26_RecordKeeps_j5
        rw [cond_false, rec_eta, key_eta, put_is a1.asc hl hu.1.rm, Option.bind_some, keeps_j4 g1 hk2 (map_put a1.asc a2 u.1)]
        exact Ok.ret ⟨hk2, g1, map_put a1.asc a2 u.1, rfl, hw.2.2⟩
      refine Ok.cond (fun _ => ?_) (fun _ => ?_)
      · have hd : GoodL (dropL l u.1.Key) (k + 1) := ⟨(a1.drop _).asc, by have := (a1.drop u.1.Key).len; omega, (a1.drop _).good⟩
        rw [key_eta, drop_is hl, Option.bind_some, keeps_j4 hd hk2 (map_del a1.asc a2 _)]
        exact Ok.ret ⟨hk2, hd, map_del a1.asc a2 _, rfl, hw.2.2⟩
      · rw [rec_eta, rec_eta, put_is a1.asc hl hu.1.rm, Option.bind_some, put_is g1.asc (g1.rm (by omega)) hv.1.rm, Option.bind_some, put_is a1.asc hl hv.1.rm, Option.bind_some, put_is g2.asc (g2.rm (by omega)) hu.1.rm, Option.bind_some]
        refine Ok.cond (fun e => ?_) (fun _ => (fin true).mono fun y hy => by cases y <;> exact hy)
        have hne : u.1.Key ≠ v.1.Key := by
          intro h
          have e : (!keqB u.1.Key v.1.Key) = true := e
          rw [h, keqB_refl] at e; cases e
        rw [put_comm a1.asc hne, same_refl ((g2.put hu.1).rm (by omega)), Option.bind_some, Bool.not_true]
        exact (fin true).mono fun y hy => by cases y <;> exact hy
    · subst hr
      simp only [Fl.el]
      unfold law26_RecordKeeps_j1
      rw [law26_awake_is]
      exact Ok.ret rfl
  obtain ⟨b, e, rfl⟩ := key
  exact e
end Go.Proofs.YtjoilbmkcknnfaaDoor
