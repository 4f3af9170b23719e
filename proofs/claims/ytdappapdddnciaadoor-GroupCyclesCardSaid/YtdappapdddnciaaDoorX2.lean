/- group.Among, plain: the keys that are reached from a key and reach it. -/
import Derived.Test.YtdappapdddnciaaDoorX1
import Derived.Test.YtdappapdddnciaaDoorE1
set_option linter.unusedVariables false
set_option linter.unusedSimpArgs false
namespace Go.Proofs.YtdappapdddnciaaDoor
open Go.RowKit
open Go.Lib hiding intOf

section
variable {open_1 : KeyD → Option (List KeyD × Bool)} {rd : KeyD → List KeyD} {op : KeyD → Bool} (ho : ∀ x, open_1 x = some (rd x, op x))
variable {U : List KeyD} (hU : ∀ x, op x = true → x ∈ U) (hUl : U.length ≤ 1000) (hrd : ∀ x, op x = true → (rd x).length ≤ 1000) {k : KeyD} (hk : op k = true)
/-- an edge: from an open key to an open key that it reads -/
def Eg (rd : KeyD → List KeyD) (op : KeyD → Bool) (x y : KeyD) : Prop := op x = true ∧ y ∈ rd x ∧ op y = true
theorem star_op (hk : op k = true) {x : KeyD} (h : Star (Eg rd op) k x) : op x = true := by
  cases h with
  | refl => exact hk
  | snoc _ e => exact e.2.2
/-- what the first phase has so far -/
structure A1 (rd : KeyD → List KeyD) (op : KeyD → Bool) (k : KeyD) (back : List (KeyD × List KeyD)) (seen : List (KeyD × Bool)) (M : List KeyD) (i g : Nat) : Prop where
  wl : WL rd op (Star (Eg rd op) k) [] seen M i g
  k0 : k ∈ M
  bk : ∀ x r, x ∈ (mget keq_KeyD r back).getD [] ↔ Con rd op M i g x r
  bl : ∀ r, ((mget keq_KeyD r back).getD []).length ≤ i * 1000 + g
include hU in
theorem A1.len {back : List (KeyD × List KeyD)} {seen : List (KeyD × Bool)} {M : List KeyD} {i g : Nat} (hk : op k = true) (h : A1 rd op k back seen M i g) : M.length ≤ U.length :=
  nodup_len h.wl.nd fun x hx => hU x (star_op hk (h.wl.rch x hx))
theorem getD_put (r e : KeyD) (v : List KeyD) (m : List (KeyD × List KeyD)) : (mget keq_KeyD r (mput keq_KeyD e v m)).getD [] = if r = e then v else (mget keq_KeyD r m).getD [] := by
  rw [mget_put keq_iff]
  by_cases h : r = e
  · subst h; rw [if_pos ((keq_iff _ _).2 rfl), if_pos rfl]; rfl
  · rw [if_neg (fun h2 => h ((keq_iff _ _).1 h2)), if_neg h]
include ho hU hUl hrd hk in
/-- the inner loop of the first phase -/
theorem among_in1 {back : List (KeyD × List KeyD)} {seen : List (KeyD × Bool)} {M : List KeyD} {i : Nat} {c : KeyD} (hc : M[i]? = some c) (hi : i ≤ 1000) (h : A1 rd op k back seen M i 0) :
    Ok (loop (fun s : (List (KeyD × (List KeyD))) × (List (KeyD × Bool)) × (List KeyD) × Int => group_Among_l9 open_1 (i : Int) (rd c, op c) s.1 s.2.1 s.2.2.1 s.2.2.2) (back, seen, M, 0)) fun r => A1 rd op k r.1 r.2.1 r.2.2 (i + 1) 0 ∧ i < r.2.2.length := by
  have hcop : op c = true := star_op hk (h.wl.rch c (List.mem_of_getElem? hc))
  have hrl := hrd c hcop
  refine loop_spec (B := fun s : (List (KeyD × (List KeyD))) × (List (KeyD × Bool)) × (List KeyD) × Int => group_Among_l9 open_1 (i : Int) (rd c, op c) s.1 s.2.1 s.2.2.1 s.2.2.2)
    (fun g s => s.2.2.2 = (g : Int) ∧ A1 rd op k s.1 s.2.1 s.2.2.1 i g ∧ s.2.2.1[i]? = some c) (fun r => A1 rd op k r.1 r.2.1 r.2.2 (i + 1) 0 ∧ i < r.2.2.length) (rd c).length ?_ ?_ (s := (back, seen, M, 0)) ⟨rfl, h, hc⟩
  · rintro g ⟨bk, sn, L, gi⟩ hg ⟨rfl, hA, hLc⟩
    dsimp only at hA hLc ⊢
    have hge : (rd c)[g]? = some (rd c)[g] := List.getElem?_eq_getElem hg
    have hlen := hA.len hU hk
    have hLi : i < L.length := (List.getElem?_eq_some_iff.1 hLc).1
    refine .inl ?_
    unfold group_Among_l9 group_Among_j8
    rw [show decide ((g : Int) < ((rd c).length : Int)) = true from dlt hg, cond_true, getI_nat, hge, Option.bind_some, ho, Option.bind_some]
    dsimp only
    rw [show IntKind.i64.wrap ((g : Int) + 1) = ((g + 1 : Nat) : Int) from winc (by omega)]
    generalize (rd c)[g] = e at hge
    cases hf : op e with
    | false =>
      refine ⟨_, rfl, rfl, ⟨hA.wl.skip hLc hge hf, hA.k0, fun x r => (hA.bk x r).trans ?_, fun r => by have := hA.bl r; dsimp only; omega⟩, hLc⟩
      rw [Con.step hLc hge]
      exact ⟨.inl, fun h => h.resolve_right fun h => by rw [hf] at h; cases h.2.2⟩
    | true =>
      have hble := hA.bl e
      have hEg : Eg rd op c e := ⟨hcop, List.mem_of_getElem? hge, hf⟩
      have hbk : ∀ x r, x ∈ (mget keq_KeyD r (mput keq_KeyD e ((mget keq_KeyD e bk).getD [] ++ [c]) bk)).getD [] ↔ Con rd op L i (g + 1) x r := fun x r => by
        rw [getD_put, Con.step hLc hge]
        by_cases hr : r = e
        · subst hr
          rw [if_pos rfl, List.mem_append, hA.bk, List.mem_singleton]
          exact ⟨fun h => h.imp id fun h => ⟨h, rfl, hf⟩, fun h => h.imp id fun h => h.1⟩
        · rw [if_neg hr, hA.bk]
          exact ⟨.inl, fun h => h.resolve_right fun h => hr h.2.1⟩
      have hbl : ∀ r, ((mget keq_KeyD r (mput keq_KeyD e ((mget keq_KeyD e bk).getD [] ++ [c]) bk)).getD []).length ≤ i * 1000 + (g + 1) := fun r => by
        rw [getD_put]
        split
        · rw [List.length_append, List.length_singleton]; omega
        · have := hA.bl r; omega
      rw [show (!true) = false from rfl, cond_false, getI_nat, hLc, Option.bind_some, gd, room (by simp only [List.length_singleton]; have : i * 1000 ≤ 1000 * 1000 := Nat.mul_le_mul_right _ hi; omega), cond_true, Option.bind_some, hA.wl.see e]
      by_cases hm : e ∈ L
      · rw [decide_eq_true hm]
        exact ⟨_, rfl, rfl, ⟨hA.wl.old hLc hge hm, hA.k0, hbk, hbl⟩, hLc⟩
      · rw [decide_eq_false hm]
        simp only [Bool.not_false, cond_true]
        rw [gd, room (by simp only [List.length_singleton]; omega), cond_true]
        refine ⟨_, rfl, rfl, ⟨hA.wl.new hLc hge hm (.snoc (hA.wl.rch c (List.mem_of_getElem? hLc)) hEg), List.mem_append_left _ hA.k0, fun x r => (hbk x r).trans (Con.grow hLi).symm, hbl⟩, ?_⟩
        rw [List.getElem?_append_left hLi]; exact hLc
  · rintro ⟨bk, sn, L, gi⟩ ⟨rfl, hA, hLc⟩
    dsimp only at hA hLc ⊢
    have hend : group_Among_l9 open_1 (i : Int) (rd c, op c) bk sn L ((rd c).length : Int) = some (.out (bk, sn, L)) := by
      unfold group_Among_l9
      rw [dlt_end]; rfl
    have h9 : i * 1000 + (rd c).length ≤ (i + 1) * 1000 + 0 := by omega
    have hfin : A1 rd op k bk sn L (i + 1) 0 := ⟨hA.wl.next hLc rfl, hA.k0, fun x r => (hA.bk x r).trans (Con.next hLc), fun r => Nat.le_trans (hA.bl r) h9⟩
    exact ⟨_, hend, hfin, (List.getElem?_eq_some_iff.1 hLc).1⟩
include ho hU hUl hrd hk in
/-- the first phase: what is reached, and who reads whom -/
theorem among_1 : Ok (loop (fun s : (List (KeyD × (List KeyD))) × (List (KeyD × Bool)) × (List KeyD) × Int => group_Among_l10 open_1 s.1 s.2.1 s.2.2.1 s.2.2.2) (([] : (List (KeyD × (List KeyD)))), (mput keq_KeyD k true ([] : (List (KeyD × Bool)))), [k], 0))
    fun back => (∀ r x, x ∈ (mget keq_KeyD r back).getD [] ↔ Star (Eg rd op) k x ∧ Eg rd op x r) ∧ ∀ r, ((mget keq_KeyD r back).getD []).length ≤ 2000000 := by
  have h0 : A1 rd op k [] (mput keq_KeyD k true []) [k] 0 0 := by
    have noc : ∀ x r, ¬ Con rd op [k] 0 0 x r := by
      rintro x r ⟨j, h1, h2, h3 | ⟨_, h3⟩⟩
      · omega
      · simp at h3
    refine ⟨⟨by simp, fun x => ?_, fun x hx => ?_, fun x r h => absurd h (noc x r)⟩, by simp, fun x r => ⟨fun h => by simp [mget] at h, fun h => absurd h (noc x r)⟩, fun r => by simp [mget]⟩
    · have := put_seen (m := []) (M := []) (fun x => by simp [mget]) k x
      simpa using this
    · rw [List.mem_singleton] at hx; subst hx; exact .refl
  have fin : ∀ {bk sn L i}, A1 rd op k bk sn L i 0 → L.length ≤ i → i ≤ 1000 → (∀ r x, x ∈ (mget keq_KeyD r bk).getD [] ↔ Star (Eg rd op) k x ∧ Eg rd op x r) ∧ ∀ r, ((mget keq_KeyD r bk).getD []).length ≤ 2000000 := by
    intro bk sn L i hA hL hi
    have hall : ∀ x, x ∈ L ↔ Star (Eg rd op) k x := fun x => ⟨hA.wl.rch x, fun h => by
      induction h with
      | refl => exact hA.k0
      | snoc _ e ih => exact hA.wl.fin hL ih e.2.1 e.2.2⟩
    refine ⟨fun r x => (hA.bk x r).trans ⟨?_, ?_⟩, fun r => by have := hA.bl r; omega⟩
    · rintro ⟨j, h1, h2, h3 | ⟨_, h3⟩⟩
      · have hx := (hall x).1 (List.mem_of_getElem? h1)
        exact ⟨hx, star_op hk hx, h3.2, h2⟩
      · simp at h3
    · rintro ⟨h1, h2⟩
      obtain ⟨j, hj⟩ := List.mem_iff_getElem?.1 ((hall x).2 h1)
      exact ⟨j, hj, h2.2.2, .inl ⟨by have := (List.getElem?_eq_some_iff.1 hj).1; omega, h2.2.1⟩⟩
  refine loop_spec (B := fun s : (List (KeyD × (List KeyD))) × (List (KeyD × Bool)) × (List KeyD) × Int => group_Among_l10 open_1 s.1 s.2.1 s.2.2.1 s.2.2.2)
    (fun i s => s.2.2.2 = (i : Int) ∧ A1 rd op k s.1 s.2.1 s.2.2.1 i 0 ∧ i ≤ s.2.2.1.length) _ U.length ?_ ?_ ⟨rfl, h0, Nat.zero_le _⟩
  · rintro i ⟨bk, sn, L, ii⟩ hi ⟨rfl, hA, hiL⟩
    dsimp only at hA hiL ⊢
    by_cases hlt : i < L.length
    · refine .inl ?_
      have hc : L[i]? = some L[i] := List.getElem?_eq_getElem hlt
      obtain ⟨⟨b2, s2, L2⟩, e2, h2, h3⟩ := among_in1 ho hU hUl hrd hk hc (by omega) hA
      dsimp only at h2 h3
      refine ⟨(b2, s2, L2, ((i + 1 : Nat) : Int)), ?_, rfl, h2, h3⟩
      unfold group_Among_l10 group_Among_j7
      rw [dlt hlt, cond_true, getI_nat, hc, Option.bind_some, ho, Option.bind_some, e2, Option.bind_some, winc (by omega)]
    · refine .inr ⟨bk, ?_, ?_⟩
      · unfold group_Among_l10
        rw [dnlt hlt]; rfl
      · exact fin hA (by omega) (by omega)
  · rintro ⟨bk, sn, L, ii⟩ ⟨rfl, hA, hiL⟩
    dsimp only at hA hiL ⊢
    have hlen := hA.len hU hk
    refine ⟨bk, ?_, fin hA hlen hUl⟩
    unfold group_Among_l10
    rw [dnlt (by omega)]; rfl

/-- what the second phase has so far -/
structure A2 (rd : KeyD → List KeyD) (op : KeyD → Bool) (k : KeyD) (bl : KeyD → List KeyD) (seen : List (KeyD × Bool)) (M : List KeyD) (i g : Nat) : Prop where
  wl : WL bl (fun _ => true) (fun x => Star (Eg rd op) k x ∧ Star (Eg rd op) x k) [] seen M i g
  k0 : k ∈ M
variable {back : List (KeyD × List KeyD)} (hb : ∀ r x, x ∈ (mget keq_KeyD r back).getD [] ↔ Star (Eg rd op) k x ∧ Eg rd op x r) (hbl : ∀ r, ((mget keq_KeyD r back).getD []).length ≤ 2000000)
include hU hk in
theorem A2.len {seen : List (KeyD × Bool)} {M : List KeyD} {i g : Nat} (h : A2 rd op k (fun r => (mget keq_KeyD r back).getD []) seen M i g) : M.length ≤ U.length :=
  nodup_len h.wl.nd fun x hx => hU x (star_op hk (h.wl.rch x hx).1)
include hU hUl hk hb hbl
theorem among_in2 {seen : List (KeyD × Bool)} {M : List KeyD} {i : Nat} {c : KeyD} (hc : M[i]? = some c) (h : A2 rd op k (fun r => (mget keq_KeyD r back).getD []) seen M i 0) :
    Ok (loop (fun s : (List (KeyD × Bool)) × (List KeyD) × Int => group_Among_l4 ((mget keq_KeyD c back).getD []) s.1 s.2.1 s.2.2) (seen, M, 0)) fun r => A2 rd op k (fun r => (mget keq_KeyD r back).getD []) r.1 r.2 (i + 1) 0 ∧ i < r.2.length := by
  refine loop_spec (B := fun s : (List (KeyD × Bool)) × (List KeyD) × Int => group_Among_l4 ((mget keq_KeyD c back).getD []) s.1 s.2.1 s.2.2)
    (fun g s => s.2.2 = (g : Int) ∧ A2 rd op k (fun r => (mget keq_KeyD r back).getD []) s.1 s.2.1 i g ∧ s.2.1[i]? = some c) _ ((mget keq_KeyD c back).getD []).length ?_ ?_ ⟨rfl, h, hc⟩
  · rintro g ⟨sn, L, gi⟩ hg ⟨rfl, hA, hLc⟩
    dsimp only at hA hLc ⊢
    have hge : ((mget keq_KeyD c back).getD [])[g]? = some ((mget keq_KeyD c back).getD [])[g] := List.getElem?_eq_getElem hg
    have hlen := hA.len hU hk
    have hLi : i < L.length := (List.getElem?_eq_some_iff.1 hLc).1
    have hb1 := hbl c
    refine .inl ?_
    unfold group_Among_l4 group_Among_j3
    rw [dlt hg, cond_true, getI_nat, hge, Option.bind_some]
    rw [show IntKind.i64.wrap ((g : Int) + 1) = ((g + 1 : Nat) : Int) from winc (by omega)]
    generalize ((mget keq_KeyD c back).getD [])[g] = e at hge
    rw [hA.wl.see e, Option.bind_some]
    by_cases hm : e ∈ L
    · rw [decide_eq_true hm]
      exact ⟨_, rfl, rfl, ⟨hA.wl.old hLc hge hm, hA.k0⟩, hLc⟩
    · rw [decide_eq_false hm]
      simp only [Bool.not_false, cond_true]
      rw [gd, room (by simp only [List.length_singleton]; omega), cond_true]
      have hr := (hb c e).1 (List.mem_of_getElem? hge)
      refine ⟨_, rfl, rfl, ⟨hA.wl.new hLc hge hm ⟨hr.1, Star.head hr.2 (hA.wl.rch c (List.mem_of_getElem? hLc)).2⟩, List.mem_append_left _ hA.k0⟩, ?_⟩
      dsimp only
      rw [List.getElem?_append_left hLi]; exact hLc
  · rintro ⟨sn, L, gi⟩ ⟨rfl, hA, hLc⟩
    dsimp only at hA hLc ⊢
    have hend : group_Among_l4 ((mget keq_KeyD c back).getD []) sn L (((mget keq_KeyD c back).getD []).length : Int) = some (.out (sn, L)) := by
      unfold group_Among_l4
      rw [dlt_end]; rfl
    have hfin : A2 rd op k (fun r => (mget keq_KeyD r back).getD []) sn L (i + 1) 0 := ⟨hA.wl.next hLc rfl, hA.k0⟩
    exact ⟨_, hend, hfin, (List.getElem?_eq_some_iff.1 hLc).1⟩
theorem among_2 : Ok (group_Among_j6 k back) fun m => KAsc m ∧ ∀ x, x ∈ m ↔ Star (Eg rd op) k x ∧ Star (Eg rd op) x k := by
  have h0 : A2 rd op k (fun r => (mget keq_KeyD r back).getD []) (mput keq_KeyD k true []) [k] 0 0 := by
    refine ⟨⟨by simp, fun x => ?_, fun x hx => ?_, fun x r h => ?_⟩, by simp⟩
    · have := put_seen (m := []) (M := []) (fun x => by simp [mget]) k x
      simpa using this
    · rw [List.mem_singleton] at hx; subst hx; exact ⟨.refl, .refl⟩
    · obtain ⟨j, h1, h2, h3 | ⟨_, h3⟩⟩ := h
      · omega
      · simp at h3
  have fin : ∀ {sn L i}, A2 rd op k (fun r => (mget keq_KeyD r back).getD []) sn L i 0 → L.length ≤ i → ∀ x, x ∈ L ↔ Star (Eg rd op) k x ∧ Star (Eg rd op) x k := by
    intro sn L i hA hL x
    refine ⟨hA.wl.rch x, ?_⟩
    rintro ⟨h1, h2⟩
    refine Star.head_ind (P := fun y => Star (Eg rd op) k y → y ∈ L) h2 (fun _ => hA.k0) (fun a b e hb2 ih ha => ?_) h1
    exact hA.wl.fin hL (x := b) (ih (.snoc ha e)) ((hb b a).2 ⟨ha, e⟩) rfl
  have key : Ok (loop (fun s : (List (KeyD × (List KeyD))) × (List (KeyD × Bool)) × (List KeyD) × Int => group_Among_l5 s.1 s.2.1 s.2.2.1 s.2.2.2) (back, (mput keq_KeyD k true ([] : (List (KeyD × Bool)))), [k], 0)) fun L => L.length ≤ U.length ∧ ∀ x, x ∈ L ↔ Star (Eg rd op) k x ∧ Star (Eg rd op) x k := by
    refine loop_spec (B := fun s : (List (KeyD × (List KeyD))) × (List (KeyD × Bool)) × (List KeyD) × Int => group_Among_l5 s.1 s.2.1 s.2.2.1 s.2.2.2)
      (fun i s => s.1 = back ∧ s.2.2.2 = (i : Int) ∧ A2 rd op k (fun r => (mget keq_KeyD r back).getD []) s.2.1 s.2.2.1 i 0 ∧ i ≤ s.2.2.1.length) _ U.length ?_ ?_ ⟨rfl, rfl, h0, Nat.zero_le _⟩
    · rintro i ⟨bk, sn, L, ii⟩ hi ⟨rfl, rfl, hA, hiL⟩
      dsimp only at hA hiL ⊢
      by_cases hlt : i < L.length
      · refine .inl ?_
        have hc : L[i]? = some L[i] := List.getElem?_eq_getElem hlt
        obtain ⟨⟨s2, L2⟩, e2, h2, h3⟩ := among_in2 hU hUl hk hb hbl hc hA
        dsimp only at h2 h3
        refine ⟨(bk, s2, L2, ((i + 1 : Nat) : Int)), ?_, rfl, rfl, h2, h3⟩
        unfold group_Among_l5 group_Among_j2
        rw [dlt hlt, cond_true, getI_nat, hc, Option.bind_some, Option.bind_some, e2, Option.bind_some, winc (by omega)]
      · refine .inr ⟨L, ?_, hA.len hU hk, fin hA (by omega)⟩
        unfold group_Among_l5
        rw [dnlt hlt]; rfl
    · rintro ⟨bk, sn, L, ii⟩ ⟨rfl, rfl, hA, hiL⟩
      dsimp only at hA hiL ⊢
      have hlen := hA.len hU hk
      refine ⟨L, ?_, hlen, fin hA hlen⟩
      unfold group_Among_l5
      rw [dnlt (by omega)]; rfl
  unfold group_Among_j6 group_Among_j1
  refine Ok.bind key fun L hL => ?_
  obtain ⟨m, h1, h2⟩ := sorted_ok (l := L) (by unfold Rm; omega)
  rw [h1]
  exact Ok.ret ⟨h2.asc, fun x => (h2.mem x).trans (hL.2 x)⟩
end
/-- group.Among -/
theorem among_is {open_1 : KeyD → Option (List KeyD × Bool)} {rd : KeyD → List KeyD} {op : KeyD → Bool} (ho : ∀ x, open_1 x = some (rd x, op x)) {U : List KeyD} (hU : ∀ x, op x = true → x ∈ U) (hUl : U.length ≤ 1000) (hrd : ∀ x, op x = true → (rd x).length ≤ 1000) (k : KeyD) :
    (op k = false → group_Among open_1 k = some [k]) ∧ (op k = true → Ok (group_Among open_1 k) fun m => KAsc m ∧ ∀ x, x ∈ m ↔ Star (Eg rd op) k x ∧ Star (Eg rd op) x k) := by
  constructor
  · intro hk
    unfold group_Among
    rw [ho, Option.bind_some]
    dsimp only
    rw [hk]; rfl
  · intro hk
    unfold group_Among
    rw [ho, Option.bind_some]
    dsimp only
    rw [hk]
    exact Ok.bind (among_1 ho hU hUl hrd hk) fun back hb => among_2 hU hUl hk hb.1 hb.2
end Go.Proofs.YtdappapdddnciaaDoor
