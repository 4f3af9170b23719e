/- group.Of and the document's Of, plain. -/
import Derived.Test.YtdappapdddnciaaDoorX2
import Derived.Test.YtdappapdddnciaaDoorQ2
set_option linter.unusedVariables false
set_option linter.unusedSimpArgs false
namespace Go.Proofs.YtdappapdddnciaaDoor
open Go.RowKit
open Go.Lib hiding intOf

def cycB (k : KeyD) : Bool := decide (k.Kind = 32) || (decide (k.Kind = 7) || decide (k.Kind = 14) || decide (k.Kind = 17) || decide (k.Kind = 18))
theorem refcyc_is (k : KeyD) : ref23_Cyclic k = some (cycB k) := by
  unfold ref23_Cyclic ref22_Cyclic cycB ref23_Cyclic_j1 ref22_Cyclic_j1
  have hb : ∀ n : Int, ((k.Kind : Int) == n) = decide (k.Kind = n) := fun n => by rw [Bool.eq_iff_iff]; simp
  rw [hb, hb, hb, hb, hb]
  by_cases h32 : k.Kind = 32
  · simp [h32]
  · by_cases h7 : k.Kind = 7
    · simp [h7]
    · by_cases h14 : k.Kind = 14
      · simp [h14]
      · by_cases h17 : k.Kind = 17
        · simp [h17]
        · by_cases h18 : k.Kind = 18
          · simp [h18]
          · simp only [h32, h7, h14, h17, h18, decide_false, Bool.or_false, cond_false]
            cases decide ((1 : Int) ≤ k.Kind) <;> cases decide ((k.Kind : Int) ≤ 22) <;> rfl
theorem keycyc_is (k : KeyD) : key_Cyclic k = some (cycB k) := by
  unfold key_Cyclic key_language queries_Cyclic cycB key_Cyclic_j1 key_language_j1 queries_Cyclic_j2 queries_Cyclic_j1
  have hb : ∀ n : Int, ((k.Kind : Int) == n) = decide (k.Kind = n) := fun n => by rw [Bool.eq_iff_iff]; simp
  rw [hb, hb, hb, hb, hb]
  by_cases h32 : k.Kind = 32
  · simp [h32]
  · by_cases h7 : k.Kind = 7
    · simp [h7]
    · by_cases h14 : k.Kind = 14
      · simp [h14]
      · by_cases h17 : k.Kind = 17
        · simp [h17]
        · by_cases h18 : k.Kind = 18
          · simp [h18]
          · simp only [h32, h7, h14, h17, h18, decide_false, Bool.or_false, cond_false]
            cases decide ((1 : Int) ≤ k.Kind) <;> cases decide ((k.Kind : Int) ≤ 22) <;> rfl
theorem openB_is (r : RecordD) (rev : Int) : openB r rev = (cycB r.Key && decide (r.Verified < rev) && !r.Dirty) := by
  unfold openB group_Open group_Open_j1
  rw [keycyc_is, Option.bind_some]
  cases cycB r.Key <;> cases decide ((r.Verified : Int) < rev) <;> rfl
/-- whether a key is open, and what it has read -/
noncomputable def opK (l : List RecordD) (rev : Int) (k : KeyD) : Bool := (findL l k).2 && openB (findL l k).1 rev
def rdK (l : List RecordD) (k : KeyD) : List KeyD := (findL l k).1.Reads
theorem find_some {l : List RecordD} {k : KeyD} (h : (findL l k).2 = true) : (findL l k).1 ∈ l ∧ (findL l k).1.Key = k := by
  unfold findL at *
  cases hf : l.find? (fun r => keqB r.Key k) with
  | none => rw [hf] at h; cases h
  | some r =>
    have h2 := List.find?_some hf
    exact ⟨List.mem_of_find?_eq_some hf, keqB_iff.1 h2⟩
theorem find_no {l : List RecordD} {k : KeyD} (h : (findL l k).2 = false) : findL l k = (noR, false) ∧ ∀ r ∈ l, r.Key ≠ k := by
  unfold findL at *
  cases hf : l.find? (fun r => keqB r.Key k) with
  | none =>
    refine ⟨rfl, fun r hr e => ?_⟩
    have := List.find?_eq_none.1 hf r hr
    exact this (keqB_iff.2 e)
  | some r => rw [hf] at h; cases h
theorem opK_mem {l : List RecordD} {rev : Int} {k : KeyD} (h : opK l rev k = true) : k ∈ l.map RecordD.Key := by
  unfold opK at h
  simp only [Bool.and_eq_true] at h
  obtain ⟨h1, h2⟩ := find_some h.1
  exact List.mem_map.2 ⟨_, h1, h2⟩
theorem find_asc {l : List RecordD} (hl : Asc l) {r : RecordD} (hr : r ∈ l) : findL l r.Key = (r, true) := by
  cases hf : (findL l r.Key).2 with
  | false => exact absurd rfl ((find_no hf).2 r hr)
  | true =>
    obtain ⟨h1, h2⟩ := find_some hf
    refine Prod.ext ?_ hf
    obtain ⟨i, hi⟩ := List.mem_iff_getElem?.1 h1
    obtain ⟨j, hj⟩ := List.mem_iff_getElem?.1 hr
    obtain ⟨i1, i2⟩ := List.getElem?_eq_some_iff.1 hi
    obtain ⟨j1, j2⟩ := List.getElem?_eq_some_iff.1 hj
    rcases Nat.lt_trichotomy i j with h | h | h
    · have := List.pairwise_iff_getElem.1 hl i j i1 j1 h
      rw [i2, j2, h2] at this; exact absurd this kcmp_irr
    · subst h; rw [hi] at hj; exact Option.some.inj hj
    · have := List.pairwise_iff_getElem.1 hl j i j1 i1 h
      rw [i2, j2, h2] at this; exact absurd this kcmp_irr
theorem refopen_is {l : List RecordD} (hl : RmL l) (rev : Int) (k : KeyD) : ref29_open l rev k = some (opK l rev k) := by
  unfold ref29_open ref29_open_j1
  rw [reffind_is hl, Option.bind_some]
  cases hf : (findL l k).2 with
  | false => simp [opK, hf]
  | true =>
    have hk := (find_some hf).2
    unfold opK
    rw [hf, openB_is, hk, cond_true, refcyc_is, Option.bind_some]
    cases cycB k <;> cases decide (((findL l k).1.Verified : Int) < rev) <;> rfl
theorem ofMap_nd (rev : Int) : ∀ l : List RecordD, Nd (ofMap rev l) ∧ ∀ k, mget keq_KeyD k (ofMap rev l) = if opK l rev k then some (rdK l k) else none
  | [] => ⟨List.nodup_nil, fun k => rfl⟩
  | r :: l => by
    obtain ⟨h1, h2⟩ := ofMap_nd rev l
    have e : ofMap rev (r :: l) = ofStep rev (ofMap rev l) r := by unfold ofMap; rw [List.reverse_cons, List.foldl_append]; rfl
    rw [e]
    unfold ofStep
    have hd : Nd (mdel keq_KeyD r.Key (ofMap rev l)) := h1.del keq_iff r.Key
    constructor
    · split
      · exact hd.put keq_iff _ _
      · exact hd
    · intro k
      by_cases hk : k = r.Key
      · subst hk
        have hf : findL (r :: l) r.Key = (r, true) := by unfold findL; simp only [List.find?, keqB_refl]
        have hop : opK (r :: l) rev r.Key = openB r rev := by unfold opK; rw [hf]; rfl
        have hrd : rdK (r :: l) r.Key = r.Reads := by unfold rdK; rw [hf]
        rw [hop, hrd]
        cases ho : openB r rev with
        | true => simp only [if_true]; rw [mget_put keq_iff, if_pos ((keq_iff _ _).2 rfl)]
        | false => simp only [Bool.false_eq_true, if_false]; rw [mget_del keq_iff _ _ h1, if_pos ((keq_iff _ _).2 rfl)]
      · have hne : keq_KeyD k r.Key = false := q_ne keq_iff hk
        have hf : findL (r :: l) k = findL l k := by
          unfold findL
          have : keqB r.Key k = false := by rw [keqB_comm]; exact hne
          simp only [List.find?, this]
        have hop : opK (r :: l) rev k = opK l rev k := by unfold opK; rw [hf]
        have hrd : rdK (r :: l) k = rdK l k := by unfold rdK; rw [hf]
        rw [hop, hrd, ← h2]
        split
        · rw [mget_put keq_iff, hne, mget_del keq_iff _ _ h1, hne]; rfl
        · rw [mget_del keq_iff _ _ h1, hne]; rfl
/-- lists of records that are not long -/
structure SmL (l : List RecordD) : Prop where
  asc : Asc l
  len : l.length ≤ 1000
  rds : ∀ r ∈ l, r.Reads.length ≤ 1000
theorem SmL.rm {l : List RecordD} (h : SmL l) : RmL l := ⟨by have := h.len; unfold Rm; omega, fun r hr => by have := h.rds r hr; unfold Rm; omega⟩
theorem SmL.rd {l : List RecordD} (h : SmL l) (k : KeyD) : (rdK l k).length ≤ 1000 := by
  unfold rdK
  cases hf : (findL l k).2 with
  | true => exact h.rds _ (find_some hf).1
  | false => rw [(find_no hf).1]; exact Nat.zero_le _
/-- the edges -/
noncomputable abbrev Ek (l : List RecordD) (rev : Int) := Eg (rdK l) (opK l rev)
/-- a group: keys in order, just those that are reached from a key and reach it -/
def Grp (l : List RecordD) (rev : Int) (k : KeyD) (m : List KeyD) : Prop := KAsc m ∧ ∀ x, x ∈ m ↔ Star (Ek l rev) k x ∧ Star (Ek l rev) x k
theorem of_is {l : List RecordD} (hl : SmL l) (rev : Int) (k : KeyD) :
    (opK l rev k = false → group_Of l rev k = some [k]) ∧ (opK l rev k = true → Ok (group_Of l rev k) (Grp l rev k)) := by
  obtain ⟨h1, h2⟩ := ofMap_nd rev l
  have ho : ∀ x, (fun x => group_Of_1 x (ofMap rev l)) x = some (((mget keq_KeyD x (ofMap rev l)).getD []), opK l rev x) := fun x => by
    dsimp only
    unfold group_Of_1
    rw [Option.bind_some, h2]
    cases opK l rev x <;> rfl
  have hrd : ∀ x, opK l rev x = true → (mget keq_KeyD x (ofMap rev l)).getD [] = rdK l x := fun x hx => by rw [h2, hx]; rfl
  have hE : Eg (fun x => (mget keq_KeyD x (ofMap rev l)).getD []) (opK l rev) = Ek l rev := by
    funext x y
    refine propext ⟨fun h => ⟨h.1, by rw [← hrd x h.1]; exact h.2.1, h.2.2⟩, fun h => ⟨h.1, by dsimp only; rw [hrd x h.1]; exact h.2.1, h.2.2⟩⟩
  have key := among_is (rd := fun x => (mget keq_KeyD x (ofMap rev l)).getD []) (op := opK l rev) ho (U := l.map RecordD.Key) (fun x hx => opK_mem hx) (by rw [List.length_map]; exact hl.len) (fun x hx => by rw [hrd x hx]; exact hl.rd x) k
  unfold Grp
  rw [← hE]
  exact key

section
variable {l : List RecordD} (hl : SmL l) {rev : Int} {k : KeyD} (hk : opK l rev k = true)
theorem star_opK (hk : opK l rev k = true) {x : KeyD} (h : Star (Ek l rev) k x) : opK l rev x = true := star_op hk h
/-- what has been found so far -/
abbrev B1 (l : List RecordD) (rev : Int) (k : KeyD) (seen : List (KeyD × Bool)) (M : List KeyD) (i g : Nat) : Prop := WL (rdK l) (opK l rev) (Plus (Ek l rev) k) [k] seen M i g
theorem B1.len {seen : List (KeyD × Bool)} {M : List KeyD} {i g : Nat} (h : B1 l rev k seen M i g) : M.length ≤ l.length := by
  have := nodup_len (m := l.map RecordD.Key) h.nd fun x hx => by
    obtain ⟨y, _, e⟩ := h.rch x hx
    exact opK_mem e.2.2
  rwa [List.length_map] at this
include hl hk in
theorem leads_in {seen : List (KeyD × Bool)} {M : List KeyD} {i : Nat} {c : KeyD} (hc : ([k] ++ M)[i]? = some c) (h : B1 l rev k seen M i 0) :
    Ok (loop (fun s : (List (KeyD × Bool)) × (List KeyD) × Int => ref29_leads_l5 l rev (findL l c) s.1 s.2.1 s.2.2) (seen, [k] ++ M, 0)) fun r => ∃ M', r.2 = [k] ++ M' ∧ B1 l rev k r.1 M' (i + 1) 0 ∧ i < ([k] ++ M').length := by
  have hcs : Star (Ek l rev) k c := by
    cases i with
    | zero => simp at hc; subst hc; exact .refl
    | succ i =>
      rw [List.getElem?_append_right (by simp)] at hc
      exact (h.rch c (List.mem_of_getElem? hc)).star
  have hcop := star_opK hk hcs
  have hrl := hl.rd c
  have hll := hl.len
  refine loop_spec (B := fun s : (List (KeyD × Bool)) × (List KeyD) × Int => ref29_leads_l5 l rev (findL l c) s.1 s.2.1 s.2.2)
    (fun g s => s.2.2 = (g : Int) ∧ ∃ M', s.2.1 = [k] ++ M' ∧ B1 l rev k s.1 M' i g ∧ ([k] ++ M')[i]? = some c) _ (rdK l c).length ?_ ?_ ⟨rfl, M, rfl, h, hc⟩
  · rintro g ⟨sn, L, gi⟩ hg ⟨rfl, M', rfl, hA, hLc⟩
    dsimp only at hA hLc ⊢
    have hge : (rdK l c)[g]? = some (rdK l c)[g] := List.getElem?_eq_getElem hg
    have hlen := B1.len hA
    have hLi : i < ([k] ++ M').length := (List.getElem?_eq_some_iff.1 hLc).1
    refine .inl ?_
    have hgu : (findL l c).1.Reads = rdK l c := rfl
    unfold ref29_leads_l5
    rw [hgu, dlt hg, cond_true, getI_nat, hge, Option.bind_some]
    generalize (rdK l c)[g] = e at hge
    rw [refopen_is hl.rm, Option.bind_some]
    unfold ref29_leads_j4 ref29_leads_j3
    rw [winc (by omega)]
    cases hf : opK l rev e with
    | false => exact ⟨_, rfl, rfl, M', rfl, hA.skip hLc hge hf, hLc⟩
    | true =>
      have hEg : Ek l rev c e := ⟨hcop, List.mem_of_getElem? hge, hf⟩
      rw [cond_true, hA.see e, Option.bind_some]
      by_cases hm : e ∈ M'
      · rw [decide_eq_true hm]
        exact ⟨_, rfl, rfl, M', rfl, hA.old hLc hge hm, hLc⟩
      · rw [decide_eq_false hm]
        simp only [Bool.not_false, cond_true]
        rw [gd, room (by simp only [List.length_singleton, List.length_append]; omega), cond_true]
        refine ⟨_, rfl, rfl, M' ++ [e], by simp, hA.new hLc hge hm ⟨c, hcs, hEg⟩, ?_⟩
        rw [← List.append_assoc, List.getElem?_append_left hLi]; exact hLc
  · rintro ⟨sn, L, gi⟩ ⟨rfl, M', rfl, hA, hLc⟩
    dsimp only at hA hLc ⊢
    have hend : ref29_leads_l5 l rev (findL l c) sn ([k] ++ M') ((rdK l c).length : Int) = some (.out (sn, [k] ++ M')) := by
      unfold ref29_leads_l5
      rw [show (findL l c).1.Reads = rdK l c from rfl, dlt_end]; rfl
    exact ⟨_, hend, M', rfl, hA.next hLc rfl, (List.getElem?_eq_some_iff.1 hLc).1⟩
include hl hk in
/-- the document's leads: what is reached by one edge or more -/
theorem leads_is : Ok (ref29_leads l rev k) fun m => ∀ x, (mget keq_KeyD x m).getD false = true ↔ Plus (Ek l rev) k x := by
  have hll := hl.len
  have h0 : B1 l rev k [] [] 0 0 := ⟨List.nodup_nil, fun x => by simp [mget], fun x hx => by simp at hx, fun x r h => by
    obtain ⟨j, h1, h2, h3 | ⟨_, h3⟩⟩ := h
    · omega
    · simp at h3⟩
  have fin : ∀ {sn M i}, B1 l rev k sn M i 0 → ([k] ++ M).length ≤ i → ∀ x, (mget keq_KeyD x sn).getD false = true ↔ Plus (Ek l rev) k x := by
    intro sn M i hA hL x
    rw [hA.see, decide_eq_true_iff]
    refine ⟨hA.rch x, ?_⟩
    rintro ⟨y, hy, e⟩
    have hall : ∀ z, Star (Ek l rev) k z → z ∈ [k] ++ M := fun z hz => by
      induction hz with
      | refl => simp
      | snoc _ e ih => exact List.mem_append_right _ (hA.fin hL ih e.2.1 e.2.2)
    exact hA.fin hL (hall y hy) e.2.1 e.2.2
  unfold ref29_leads ref29_leads_j1
  refine Ok.bind (Q := fun m => ∀ x, (mget keq_KeyD x m).getD false = true ↔ Plus (Ek l rev) k x) ?_ fun m hm => Ok.ret hm
  refine loop_spec (B := fun s : (List (KeyD × Bool)) × (List KeyD) × Int => ref29_leads_l6 l rev s.1 s.2.1 s.2.2)
    (fun i s => s.2.2 = (i : Int) ∧ ∃ M, s.2.1 = [k] ++ M ∧ B1 l rev k s.1 M i 0 ∧ i ≤ ([k] ++ M).length) _ (l.length + 1) ?_ ?_ ⟨rfl, [], rfl, h0, Nat.zero_le _⟩
  · rintro i ⟨sn, L, ii⟩ hi ⟨rfl, M, rfl, hA, hiL⟩
    dsimp only at hA hiL ⊢
    by_cases hlt : i < ([k] ++ M).length
    · refine .inl ?_
      have hc : ([k] ++ M)[i]? = some ([k] ++ M)[i] := List.getElem?_eq_getElem hlt
      obtain ⟨⟨s2, L2⟩, e2, M', rfl, h2, h3⟩ := leads_in hl hk hc hA
      refine ⟨(s2, [k] ++ M', ((i + 1 : Nat) : Int)), ?_, rfl, M', rfl, h2, h3⟩
      unfold ref29_leads_l6 ref29_leads_j2
      rw [dlt hlt, cond_true, getI_nat, hc, Option.bind_some, reffind_is hl.rm, Option.bind_some, e2, Option.bind_some, winc (by omega)]
    · refine .inr ⟨sn, ?_, fin hA (by omega)⟩
      unfold ref29_leads_l6
      rw [dnlt hlt]; rfl
  · rintro ⟨sn, L, ii⟩ ⟨rfl, M, rfl, hA, hiL⟩
    dsimp only at hA hiL ⊢
    have hlen := B1.len hA
    have hlen2 : ([k] ++ M).length ≤ l.length + 1 := by rw [List.length_append, List.length_singleton]; omega
    refine ⟨sn, ?_, fin hA hlen2⟩
    unfold ref29_leads_l6
    rw [dnlt (by omega)]; rfl
include hl hk in
theorem refof_is : Ok (ref29_Of l rev k) (Grp l rev k) := by
  have hll := hl.len
  unfold ref29_Of
  rw [refopen_is hl.rm, Option.bind_some, hk]
  simp only [Bool.not_true, cond_false]
  refine Ok.bind (leads_is hl hk) fun tm htm => ?_
  unfold ref29_Of_j1
  refine Ok.bind (Q := fun out => out.length ≤ 1001 ∧ ∀ x, x ∈ out ↔ Star (Ek l rev) k x ∧ Star (Ek l rev) x k) ?_ fun out ⟨h1, h2⟩ => ?_
  · refine loop_spec (B := fun s : (List KeyD) × Int => ref29_Of_l4 l rev k tm s.1 s.2)
      (fun i s => s.2 = (i : Int) ∧ s.1.length ≤ i + 1 ∧ ∀ x, x ∈ s.1 ↔ x = k ∨ (∃ r ∈ l.take i, r.Key = x) ∧ Star (Ek l rev) k x ∧ Star (Ek l rev) x k) _ l.length ?_ ?_ ⟨rfl, by simp, fun x => by simp⟩
    · rintro i ⟨out, ii⟩ hi ⟨rfl, hlen, hm⟩
      dsimp only at hlen hm ⊢
      refine .inl ?_
      have hr : l[i]? = some l[i] := List.getElem?_eq_getElem hi
      generalize l[i] = r at hr
      have hkeep : ¬ (r.Key ≠ k ∧ Star (Ek l rev) k r.Key ∧ Star (Ek l rev) r.Key k) → ∀ x, x ∈ out ↔ x = k ∨ (∃ r ∈ l.take (i + 1), r.Key = x) ∧ Star (Ek l rev) k x ∧ Star (Ek l rev) x k := fun hn x => by
        rw [hm, take_snoc' hr]
        constructor
        · rintro (h | ⟨⟨r', h1, h2⟩, h3⟩)
          · exact .inl h
          · exact .inr ⟨⟨r', List.mem_append_left _ h1, h2⟩, h3⟩
        · rintro (h | ⟨⟨r', h1, h2⟩, h3⟩)
          · exact .inl h
          · rcases List.mem_append.1 h1 with h1 | h1
            · exact .inr ⟨⟨r', h1, h2⟩, h3⟩
            · rw [List.mem_singleton] at h1
              subst h1 h2
              by_cases hx : r'.Key = k
              · exact .inl hx
              · exact absurd ⟨hx, h3⟩ hn
      have hadd : Star (Ek l rev) k r.Key → Star (Ek l rev) r.Key k → ∀ x, x ∈ out ++ [r.Key] ↔ x = k ∨ (∃ r ∈ l.take (i + 1), r.Key = x) ∧ Star (Ek l rev) k x ∧ Star (Ek l rev) x k := fun ha hb x => by
        rw [List.mem_append, hm, take_snoc' hr, List.mem_singleton]
        constructor
        · rintro ((h | ⟨⟨r', h1, h2⟩, h3⟩) | rfl)
          · exact .inl h
          · exact .inr ⟨⟨r', List.mem_append_left _ h1, h2⟩, h3⟩
          · exact .inr ⟨⟨r, by simp, rfl⟩, ha, hb⟩
        · rintro (h | ⟨⟨r', h1, h2⟩, h3⟩)
          · exact .inl (.inl h)
          · rcases List.mem_append.1 h1 with h1 | h1
            · exact .inl (.inr ⟨⟨r', h1, h2⟩, h3⟩)
            · rw [List.mem_singleton] at h1
              subst h1 h2; exact .inr rfl
      unfold ref29_Of_l4 ref29_Of_j3 ref29_Of_j2
      rw [dlt hi, cond_true, getI_nat, hr, Option.bind_some, winc (by omega)]
      show ∃ s', cond (!(keqB r.Key k)) _ _ = _ ∧ _
      by_cases hx : r.Key = k
      · rw [keqB_iff.2 hx]
        exact ⟨_, rfl, rfl, by dsimp only; omega, hkeep fun h => h.1 hx⟩
      · rw [keqB_no.2 hx]
        simp only [Bool.not_false, cond_true, Option.bind_some]
        cases ht : (mget keq_KeyD r.Key tm).getD false with
        | false =>
          refine ⟨_, rfl, rfl, by dsimp only; omega, hkeep fun h => ?_⟩
          have := (htm r.Key).2 (h.2.1.plus (fun e => hx e.symm))
          rw [ht] at this; cases this
        | true =>
          have hp := (htm r.Key).1 ht
          obtain ⟨m2, e2, h2⟩ := leads_is hl (star_opK hk hp.star)
          rw [cond_true, e2, Option.bind_some]
          cases ht2 : (mget keq_KeyD k m2).getD false with
          | false =>
            refine ⟨_, rfl, rfl, by dsimp only; omega, hkeep fun h => ?_⟩
            have := (h2 k).2 (h.2.2.plus hx)
            rw [ht2] at this; cases this
          | true =>
            have hp2 := (h2 k).1 ht2
            rw [cond_true, gd, room (by simp only [List.length_singleton]; omega), cond_true]
            exact ⟨_, rfl, rfl, by simp only [List.length_append, List.length_singleton]; omega, hadd hp.star hp2.star⟩
    · rintro ⟨out, ii⟩ ⟨rfl, hlen, hm⟩
      dsimp only at hlen hm ⊢
      refine ⟨out, by unfold ref29_Of_l4; rw [dlt_end]; rfl, by omega, fun x => (hm x).trans ?_⟩
      rw [List.take_length]
      constructor
      · rintro (rfl | ⟨_, h⟩)
        · exact ⟨.refl, .refl⟩
        · exact h
      · intro h
        by_cases hx : x = k
        · exact .inl hx
        · obtain ⟨r, hr, e⟩ := List.mem_map.1 (opK_mem (star_opK hk h.1))
          exact .inr ⟨⟨r, hr, e⟩, h⟩
  · obtain ⟨m, e, hm⟩ := ref_sorted_ok (l := out) (by unfold Rm; omega)
    rw [e]
    exact Ok.ret ⟨hm.asc, fun x => (hm.mem x).trans (h2 x)⟩
end
theorem Grp.uniq {l : List RecordD} {rev : Int} {k : KeyD} {m m' : List KeyD} (h : Grp l rev k m) (h' : Grp l rev k m') : m = m' := kasc_ext h.1 h'.1 fun x => (h.2 x).trans (h'.2 x).symm
theorem Grp.len {l : List RecordD} (hl : SmL l) {rev : Int} {k : KeyD} (hk : opK l rev k = true) {m : List KeyD} (h : Grp l rev k m) : m.length ≤ 1000 := by
  have hn : m.Nodup := List.Pairwise.imp (fun {a b} h => kcmp_ne h) h.1
  have := nodup_len (m := l.map RecordD.Key) hn fun x hx => opK_mem (star_opK hk ((h.2 x).1 hx).1)
  rw [List.length_map] at this
  exact Nat.le_trans this hl.len
/-- both answer the same -/
theorem of_both {l : List RecordD} (hl : SmL l) (rev : Int) (k : KeyD) : ∃ m, group_Of l rev k = some m ∧ ref29_Of l rev k = some m ∧ m.length ≤ 1000 ∧ ((opK l rev k = false ∧ m = [k]) ∨ (opK l rev k = true ∧ Grp l rev k m)) := by
  cases hk : opK l rev k with
  | false =>
    refine ⟨[k], (of_is hl rev k).1 hk, ?_, by simp, .inl ⟨rfl, rfl⟩⟩
    unfold ref29_Of
    rw [refopen_is hl.rm, Option.bind_some, hk]; rfl
  | true =>
    obtain ⟨m, e, h⟩ := (of_is hl rev k).2 hk
    obtain ⟨m', e', h'⟩ := refof_is hl hk
    obtain rfl := h.uniq h'
    exact ⟨m, e, e', h.len hl hk, .inr ⟨rfl, h⟩⟩
end Go.Proofs.YtdappapdddnciaaDoor
