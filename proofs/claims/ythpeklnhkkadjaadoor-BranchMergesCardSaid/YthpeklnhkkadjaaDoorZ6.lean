/- Contents, plain: those that the law makes; law 39's check of itself. -/
import Derived.Test.YthpeklnhkkadjaaDoorZ5
import Derived.Test.YthpeklnhkkadjaaDoorUV
import Derived.Test.YthpeklnhkkadjaaDoorE2
set_option linter.unusedVariables false
set_option linter.unusedSimpArgs false
namespace Go.Proofs.YthpeklnhkkadjaaDoor
open Go.RowKit
open Go.Lib hiding intOf

theorem light_is (t : List Int) : mill_Light t = some (decide (t.length ≤ 400)) := by
  unfold mill_Light
  by_cases h : t.length ≤ 400
  · rw [decide_eq_true h, decide_eq_true (by omega)]
  · rw [decide_eq_false h, decide_eq_false (by omega)]
theorem roll_is (t : List Int) : mill_Roll t = some ⟨t, 0⟩ := rfl
theorem refcmp_is (a b : KeyD) : ref23_Cmp a b = some (kcmp a b) := by
  unfold ref23_Cmp kcmp compareSM
  by_cases h1 : a.Kind < b.Kind
  · simp [h1]
  · by_cases h2 : b.Kind < a.Kind <;> simp [h1, h2]
theorem digits_lt : ∀ m n : Fin 10, m < n → compareBytes (decDigits m.val) (decDigits n.val) < 0 := by decide +kernel
theorem cell_lt {m n : Nat} (h : m < n) (hn : n < 10) : kcmp (cellK m) (cellK n) < 0 := by
  have h1 := digits_lt ⟨m, by omega⟩ ⟨n, hn⟩ h
  unfold kcmp
  rw [if_neg (show ¬ (cellK m).Kind < (cellK n).Kind by simp [cellK]), if_neg (show ¬ (cellK n).Kind < (cellK m).Kind by simp [cellK])]
  have e : ∀ k : Nat, (cellK k).Text.toList = decDigits k := fun k => by
    show (itoaS (k : Int)).toList = _
    rw [itoaS_list, itoa_nat]
  rw [e, e]; exact h1
theorem cell_ne {m n : Nat} (h : m < n) (hn : n < 10) : cellK m ≠ cellK n := kcmp_ne (cell_lt h hn)
/-- contents that are made of the first cells -/
structure CellsC (n : Nat) (l : List ChangeD) : Prop where
  asc : KAsc (keysOf l)
  len : l.length ≤ n
  keys : ∀ c ∈ l, ∃ m, m < n ∧ c.Key = cellK m
  vals : ∀ c ∈ l, c.Value ≠ e0 ∧ c.Value.size ≤ 10
theorem CellsC.nil : CellsC 0 [] := ⟨List.Pairwise.nil, Nat.le_refl _, (fun c h => by cases h), (fun c h => by cases h)⟩
theorem CellsC.wait {n : Nat} {l : List ChangeD} (h : CellsC n l) : CellsC (n + 1) l :=
  ⟨h.asc, by have := h.len; omega, fun c hc => by obtain ⟨m, h1, h2⟩ := h.keys c hc; exact ⟨m, by omega, h2⟩, h.vals⟩
theorem CellsC.snoc {n : Nat} {l : List ChangeD} (h : CellsC n l) (hn : n < 10) {v : ByteArray} (hv : v ≠ e0 ∧ v.size ≤ 10) : CellsC (n + 1) (l ++ [ChangeD.mk (cellK n) v]) := by
  refine ⟨?_, by have := h.len; simp; omega, fun c hc => ?_, fun c hc => ?_⟩
  · unfold keysOf KAsc
    rw [List.map_append, List.pairwise_append]
    refine ⟨h.asc, by simp, fun a ha b hb => ?_⟩
    obtain ⟨c, hc, rfl⟩ := List.mem_map.1 ha
    obtain ⟨m, h1, h2⟩ := h.keys c hc
    simp only [List.map_cons, List.map_nil, List.mem_singleton] at hb
    rw [hb, h2]
    exact cell_lt h1 hn
  · rcases List.mem_append.1 hc with hc | hc
    · obtain ⟨m, h1, h2⟩ := h.keys c hc; exact ⟨m, by omega, h2⟩
    · rw [List.mem_singleton.1 hc]; exact ⟨n, by omega, rfl⟩
  · rcases List.mem_append.1 hc with hc | hc
    · exact h.vals c hc
    · rw [List.mem_singleton.1 hc]; exact hv
theorem KAsc.nodup {l : List KeyD} (h : KAsc l) : l.Nodup := List.Pairwise.imp (fun h => kcmp_ne h) h
theorem input_cell {n : Nat} : key_Input (cellK n) = some true := rfl
theorem contents_is {n : Nat} {l : List ChangeD} (h : CellsC n l) (hn : n ≤ 10) : branch_contents l = some true := by
  have hl := h.len
  unfold branch_contents
  rw [show loop (fun s : Int => branch_contents_l3 l s) 0 = some (Fl.go ()) from by
    refine (loop_gather (xs := l) (fun k => (k : Int)) rfl (fun k c hx => ?_) ?_)
    · have hk := lt_of_get hx
      have hc := List.mem_of_getElem? hx
      obtain ⟨m, m1, m2⟩ := h.keys c hc
      obtain ⟨v1, v2⟩ := h.vals c hc
      have hj : branch_contents_j2 (k : Int) false = some (.go (((k + 1 : Nat) : Int))) := by
        unfold branch_contents_j2
        rw [winc (by omega)]; rfl
      unfold branch_contents_l3
      rw [dlt_of hx, cond_true, getI_nat, hx, Option.bind_some, m2, key_cell (show m < 100 by omega), Option.bind_some, input_cell, Option.bind_some, beq_bytes, decide_eq_false (show ¬ c.Value = ByteArray.mk #[] from v1), decide_eq_false (show ¬ (1073741824 : Int) < (c.Value.size : Int) by omega)]
      simp only [Bool.not_true, cond_false]
      rcases (show k = 0 ∨ 0 < k by omega) with h0 | h0
      · subst h0
        exact hj
      · have hp := List.getElem?_eq_getElem (show k - 1 < l.length by omega)
        rw [decide_eq_true (show (0 : Int) < (k : Int) by omega), cond_true, w64 (by omega) (by omega), show (k : Int) - 1 = ((k - 1 : Nat) : Int) by omega, getI_nat, hp, Option.bind_some, cmp_is, Option.bind_some]
        have hlt : kcmp l[k - 1].Key (cellK m) < 0 := by
          have h2 := List.pairwise_iff_getElem.1 h.asc (k - 1) k (by unfold keysOf; simp; omega) (by unfold keysOf; simpa using hk) (by omega)
          obtain ⟨q1, q2⟩ := List.getElem?_eq_some_iff.1 hx
          simp only [keysOf, List.getElem_map] at h2
          rw [q2, m2] at h2; exact h2
        rw [decide_eq_false (by omega)]
        exact hj
    · unfold branch_contents_l3
      rw [dlt_end]; rfl]
  show branch_contents_j1 l = _
  unfold branch_contents_j1
  rw [decide_eq_true (by omega)]
theorem word_val {v : ByteArray} (h : v ∈ [(ByteArray.mk #[49]), (ByteArray.mk #[50]), (ByteArray.mk #[51]), (ByteArray.mk #[120])]) : v ≠ e0 ∧ v.size ≤ 10 := by
  simp only [List.mem_cons, List.not_mem_nil, or_false] at h
  unfold e0
  rcases h with rfl | rfl | rfl | rfl <;> exact ⟨by decide, by decide⟩
theorem made_ok {d : DiceD} (h : DiceOk d.L d.At) : Ok (mill_Contents d) fun r => CellsC 5 r.1 ∧ DiceOk r.2.L r.2.At := by
  unfold mill_Contents
  refine Ok.loop (fun n s => s.2.1 = (n : Int) ∧ n ≤ 5 ∧ CellsC n s.1 ∧ DiceOk s.2.2.1 s.2.2.2) (fun r => CellsC 5 r.1 ∧ DiceOk r.2.1 r.2.2) 5 ⟨rfl, by omega, CellsC.nil, h⟩ (fun n s hn hI => ?_) (fun r hr => ?_)
  · obtain ⟨l, k, dl, da⟩ := s
    obtain ⟨a1, a2, a3, a4⟩ := hI
    dsimp only at a1 a2 a3 a4
    subst a1
    unfold mill_Contents_l3
    dsimp only
    refine Ok.cond (fun e => ?_) (fun e => ?_)
    · have e : n < 5 := by have := of_decide_eq_true e; omega
      refine Ok.bind (next_ok a4 (n := 2) (by omega) (by omega)) fun u hu => ?_
      refine Ok.cond (fun e2 => ?_) (fun e2 => ?_)
      · rw [ref23_cell (by omega), Option.bind_some]
        refine Ok.bind (word_ok hu.2.2 (by simp) (by simp)) fun v hv => ?_
        refine Ok.gd (room (by have := a3.len; simp; omega)) ?_
        unfold mill_Contents_j2
        refine Ok.ret ⟨by omega, ?_, by omega, a3.snoc (by omega) (word_val hv.1), hv.2⟩
        exact winc (by omega)
      · unfold mill_Contents_j2
        refine Ok.ret ⟨by omega, winc (by omega), by omega, a3.wait, hu.2.2⟩
    · have e : n = 5 := by have := of_decide_eq_false e; omega
      subst e
      exact Ok.ret ⟨a3, a4⟩
  · unfold mill_Contents_j1
    exact Ok.ret hr
theorem same39 {l : List ChangeD} (h : l.length ≤ 1000000) : ref39_Same l l = some true := by
  unfold ref39_Same
  rw [show ((l.length : Int) != (l.length : Int)) = false by simp, cond_false, show loop (fun s : Int => ref39_Same_l2 l l s) 0 = some (Fl.go ()) from by
    refine (loop_gather (xs := l) (fun k => (k : Int)) rfl (fun k c hx => ?_) ?_)
    · have hk := lt_of_get hx
      unfold ref39_Same_l2
      rw [dlt_of hx, cond_true, getI_nat, hx, Option.bind_some, Option.bind_some, winc (by omega)]
      simp
    · unfold ref39_Same_l2
      rw [dlt_end]; rfl]
  rfl
theorem va_one (k0 k : KeyD) (v : ByteArray) : va [ChangeD.mk k0 v] k = if k = k0 then v else e0 := va_snoc [] _ _
theorem va_two (k0 k1 k : KeyD) (v u : ByteArray) : va [ChangeD.mk k0 v, ChangeD.mk k1 u] k = if k = k1 then u else if k = k0 then v else e0 := by
  have := va_snoc [ChangeD.mk k0 v] (ChangeD.mk k1 u) k
  rw [va_one] at this
  exact this
theorem law39_awake_is : law39_awake = some true := by
  unfold law39_awake
  have c0 := ref23_cell (n := 0) (by omega)
  have c1 := ref23_cell (n := 1) (by omega)
  rw [show ref23_Cell 0 = some (cellK 0) from c0, show ref23_Cell 1 = some (cellK 1) from c1]
  simp only [Option.bind_some]
  have hne : cellK 1 ≠ cellK 0 := fun e => cell_ne (m := 0) (n := 1) (by omega) (by omega) e.symm
  have hlt := cell_lt (m := 0) (n := 1) (by omega) (by omega)
  have n1 : (ByteArray.mk #[49]) ≠ e0 ∧ (ByteArray.mk #[49]).size ≤ 10 := ⟨by unfold e0; decide, by decide⟩
  have n2 : (ByteArray.mk #[50]) ≠ e0 ∧ (ByteArray.mk #[50]).size ≤ 10 := ⟨by unfold e0; decide, by decide⟩
  have n5 : (ByteArray.mk #[53]) ≠ e0 ∧ (ByteArray.mk #[53]).size ≤ 10 := ⟨by unfold e0; decide, by decide⟩
  have n12 : (ByteArray.mk #[49]) ≠ (ByteArray.mk #[50]) := by decide
  have o1 : CellsC 1 [ChangeD.mk (cellK 0) (ByteArray.mk #[49])] := CellsC.nil.snoc (by omega) n1
  have o2 : CellsC 1 [ChangeD.mk (cellK 0) (ByteArray.mk #[50])] := CellsC.nil.snoc (by omega) n2
  have o3 : CellsC 2 [ChangeD.mk (cellK 0) (ByteArray.mk #[49]), ChangeD.mk (cellK 1) (ByteArray.mk #[53])] := o1.snoc (by omega) n5
  obtain ⟨ks, k1, k2, k3⟩ := merge_is (o := [ChangeD.mk (cellK 0) (ByteArray.mk #[49])]) (a := [ChangeD.mk (cellK 0) (ByteArray.mk #[50])]) (b := [ChangeD.mk (cellK 0) (ByteArray.mk #[49]), ChangeD.mk (cellK 1) (ByteArray.mk #[53])]) (by simp) (by simp) (by simp) (contents_is o1 (by omega)) (contents_is o2 (by omega)) (contents_is o3 (by omega))
  have hks : ks = [cellK 0, cellK 1] := k1.uniq ⟨by unfold KAsc; simp [hlt], fun x => by simp [keysOf], by simp [keysOf]⟩
  obtain ⟨es, j1, j2, j3⟩ := diff_is (f := [ChangeD.mk (cellK 0) (ByteArray.mk #[49])]) (t := [ChangeD.mk (cellK 0) (ByteArray.mk #[50])]) (by simp) (by simp)
  have hes : es = [cellK 0] := j1.uniq ⟨by unfold KAsc; simp, fun x => by simp [keysOf], by simp [keysOf]⟩
  have m0 : mval [ChangeD.mk (cellK 0) (ByteArray.mk #[49])] [ChangeD.mk (cellK 0) (ByteArray.mk #[50])] [ChangeD.mk (cellK 0) (ByteArray.mk #[49]), ChangeD.mk (cellK 1) (ByteArray.mk #[53])] (cellK 0) = ByteArray.mk #[50] := by
    unfold mval
    rw [va_one, va_one, va_two, if_pos rfl, if_pos rfl, if_neg hne.symm, if_pos (.inl rfl)]
  have m1 : mval [ChangeD.mk (cellK 0) (ByteArray.mk #[49])] [ChangeD.mk (cellK 0) (ByteArray.mk #[50])] [ChangeD.mk (cellK 0) (ByteArray.mk #[49]), ChangeD.mk (cellK 1) (ByteArray.mk #[53])] (cellK 1) = ByteArray.mk #[53] := by
    unfold mval
    rw [va_one, va_one, va_two, if_pos rfl, if_neg hne, if_neg hne, if_neg (by rintro (h | h) <;> exact n5.1 h), if_pos rfl]
  have q0 : mclash [ChangeD.mk (cellK 0) (ByteArray.mk #[49])] [ChangeD.mk (cellK 0) (ByteArray.mk #[50])] [ChangeD.mk (cellK 0) (ByteArray.mk #[49]), ChangeD.mk (cellK 1) (ByteArray.mk #[53])] (cellK 0) = false := by
    unfold mclash
    rw [va_one, va_one, va_two, if_pos rfl, if_pos rfl, if_neg hne.symm]; simp
  have q1 : mclash [ChangeD.mk (cellK 0) (ByteArray.mk #[49])] [ChangeD.mk (cellK 0) (ByteArray.mk #[50])] [ChangeD.mk (cellK 0) (ByteArray.mk #[49]), ChangeD.mk (cellK 1) (ByteArray.mk #[53])] (cellK 1) = false := by
    unfold mclash
    rw [va_one, va_one, va_two, if_pos rfl, if_neg hne, if_neg hne]; simp
  rw [k3, hks]
  have hm : mout [ChangeD.mk (cellK 0) (ByteArray.mk #[49])] [ChangeD.mk (cellK 0) (ByteArray.mk #[50])] [ChangeD.mk (cellK 0) (ByteArray.mk #[49]), ChangeD.mk (cellK 1) (ByteArray.mk #[53])] [cellK 0, cellK 1] = [ChangeD.mk (cellK 0) (ByteArray.mk #[50]), ChangeD.mk (cellK 1) (ByteArray.mk #[53])] := by
    unfold mout
    simp [List.filter_cons, m0, m1, n2.1, n5.1]
  rw [hm]
  simp only [List.filter_cons, q0, q1, List.filter_nil]
  simp only [Bool.false_eq_true, if_false, List.length_nil, Nat.lt_irrefl, Option.bind_some]
  rw [same39 (by simp), j3, hes]
  have hd : diffOf [ChangeD.mk (cellK 0) (ByteArray.mk #[49])] [ChangeD.mk (cellK 0) (ByteArray.mk #[50])] [cellK 0] = [ChangeD.mk (cellK 0) (ByteArray.mk #[50])] := by
    unfold diffOf
    simp [List.filter_cons, va_one, n12]
  rw [hd]
  rfl
end Go.Proofs.YthpeklnhkkadjaaDoor
