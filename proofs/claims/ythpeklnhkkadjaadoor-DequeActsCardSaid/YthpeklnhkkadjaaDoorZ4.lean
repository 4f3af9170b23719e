/- Law 32, plain: DequeActs, joined. -/
import Derived.Test.YthpeklnhkkadjaaDoorZ3
set_option linter.unusedVariables false
set_option linter.unusedSimpArgs false
namespace Go.Proofs.YthpeklnhkkadjaaDoor
open Go.RowKit
open Go.Lib hiding intOf

theorem acts_l4 {out : List DequeD} {c : Int} (h : ∀ d ∈ out, d.Keys.length ≤ 1000) (h6 : out.length ≤ 6) : loop (fun s : Int => law32_DequeActs_l4 (out, c) (out, c) s) 0 = some (Fl.go ()) := by
  refine loop_gather (xs := out) (fun k => (k : Int)) rfl (fun k x hx => ?_) ?_
  · have := lt_of_get hx
    unfold law32_DequeActs_l4
    dsimp only
    have hd := h x (List.mem_of_getElem? hx)
    rw [dlt_of hx, cond_true, getI_nat, hx, Option.bind_some, Option.bind_some, show ref32_Same x x = some true from same32 (l := x.Keys) (by omega), Option.bind_some, winc (by omega)]
    rfl
  · unfold law32_DequeActs_l4
    dsimp only
    rw [dlt_end]; rfl
theorem acts_l5 {l : List KeyD} (h : l.length ≤ 1000) (ht : TxtOk l) (w u : Int) : loop (fun s : (List Int) × Int => law32_DequeActs_l5 w l u s.1 s.2) ([w, IntKind.i64.wrap (u - 1), 1], 0) = some (Fl.go ()) := by
  refine loop_gather (xs := [w, IntKind.i64.wrap (u - 1), 1]) (fun k => ([w, IntKind.i64.wrap (u - 1), 1], (k : Int))) rfl (fun k x hx => ?_) ?_
  · dsimp only
    have hk := lt_of_get hx
    simp only [List.length_cons, List.length_nil] at hk
    unfold law32_DequeActs_l5
    obtain ⟨out, c, a1, a2, a3, a4⟩ := deal_same h ht x
    rw [dlt_of hx, cond_true, getI_nat, hx, Option.bind_some, a3, a4]
    simp only [Option.bind_some]
    rw [show ((out.length : Int) != (out.length : Int)) = false by simp, show (c != c) = false by simp, acts_l4 a1 a2]
    simp only [cond_false, Option.bind_some]
    show law32_DequeActs_j3 _ _ = _
    unfold law32_DequeActs_j3
    rw [winc (by omega)]
  · dsimp only
    unfold law32_DequeActs_l5
    rw [dlt_end]; rfl
theorem acts_l6 {l near l2 : List KeyD} {k : KeyD} {workers : Int} (h1 : l.length ≤ 1000) (t1 : TxtOk l) (h2 : near.length ≤ 1000) (t2 : TxtOk near) (h3 : (l2 ++ [k]).length ≤ 1000) (t3 : TxtOk (l2 ++ [k])) :
    loop (fun s : (List (List KeyD)) × Int => law32_DequeActs_l6 l k workers near l2 s.1 s.2) ([l, near, (l2 ++ [k])], 0) = some (Fl.go ()) := by
  obtain ⟨r, hr, hm⟩ := mod_is workers (m := 9) (by omega) (by omega)
  refine loop_gather (xs := [l, near, (l2 ++ [k])]) (fun j => ([l, near, (l2 ++ [k])], (j : Int))) rfl (fun j x hx => ?_) ?_
  · dsimp only
    have hk := lt_of_get hx
    simp only [List.length_cons, List.length_nil] at hk
    have hx2 : x.length ≤ 1000 ∧ TxtOk x := by
      have := List.mem_of_getElem? hx
      simp only [List.mem_cons, List.not_mem_nil, or_false] at this
      rcases this with rfl | rfl | rfl
      · exact ⟨h1, t1⟩
      · exact ⟨h2, t2⟩
      · exact ⟨h3, t3⟩
    unfold law32_DequeActs_l6
    rw [dlt_of hx, cond_true, getI_nat, hx, Option.bind_some, show (9 : Int) = ((9 : Nat) : Int) from rfl, hm, Option.bind_some, acts_l5 hx2.1 hx2.2, Option.bind_some]
    show law32_DequeActs_j2 _ _ = _
    unfold law32_DequeActs_j2
    rw [winc (by omega)]
  · dsimp only
    unfold law32_DequeActs_l6
    rw [dlt_end]; rfl
theorem cell_text {n : Nat} (h : n < 100) : (cellK n).Text.size ≤ 140737488355328 := by
  unfold cellK
  exact size_itoa (by omega)
theorem acts_l8 {raw : DequeD} {k : KeyD} {near small : List KeyD} (hk : k.Text.size ≤ 140737488355328) (h1 : raw.Keys.length ≤ 100) (t1 : TxtOk raw.Keys) (h2 : near.length ≤ 100) (t2 : TxtOk near) (h3 : small.length ≤ 100) (t3 : TxtOk small) :
    loop (fun s : (List DequeD) × Int => law32_DequeActs_l8 raw k near small s.1 s.2) ([raw, (DequeD.mk near), (DequeD.mk small)], 0) = some (Fl.go ()) := by
  refine loop_gather (xs := [raw, (DequeD.mk near), (DequeD.mk small)]) (fun j => ([raw, (DequeD.mk near), (DequeD.mk small)], (j : Int))) rfl (fun j x hx => ?_) ?_
  · dsimp only
    have hj := lt_of_get hx
    simp only [List.length_cons, List.length_nil] at hj
    have hx2 : x.Keys.length ≤ 100 ∧ TxtOk x.Keys := by
      have := List.mem_of_getElem? hx
      simp only [List.mem_cons, List.not_mem_nil, or_false] at this
      rcases this with rfl | rfl | rfl
      · exact ⟨h1, t1⟩
      · exact ⟨h2, t2⟩
      · exact ⟨h3, t3⟩
    obtain ⟨l⟩ := x
    obtain ⟨hl, tl⟩ := hx2
    dsimp only at hl tl
    obtain ⟨a1, a2⟩ := push_same (l := l) (by omega) hk
    obtain ⟨b1, b2⟩ := push_same (l := l) (k := cellK 5) (by omega) (cell_text (by omega))
    obtain ⟨v, v1, v2⟩ := valid32 (l := l) (by omega) tl
    obtain ⟨pm, pk, pb, p0, p1, p2⟩ := pop32 (l := l) (by omega)
    obtain ⟨sm, sk, sb, s0, s1, s2⟩ := steal32 (l := l) (by omega)
    have plen : ∀ k, (pushR l k).1.Keys.length ≤ 1000 := fun k => by
      unfold pushR
      cases vk k <;> cases decide ((64 : Int) ≤ (l.length : Int)) <;> simp <;> omega
    unfold law32_DequeActs_l8
    rw [dlt_of hx, cond_true, getI_nat, hx, Option.bind_some, a1, a2, v1, v2, p1, p2, s1, s2, show ref23_Cell 5 = some (cellK 5) from ref23_cell (n := 5) (by omega)]
    simp only [Option.bind_some]
    rw [b1, b2]
    simp only [Option.bind_some]
    rw [same32 (show (pushR l k).1.Keys.length ≤ 100000 by have := plen k; omega), same32 (show (pushR l (cellK 5)).1.Keys.length ≤ 100000 by have := plen (cellK 5); omega), same32 (show pm.length ≤ 100000 by omega), same32 (show sm.length ≤ 100000 by omega)]
    simp only [Option.bind_some, bne_self_eq_false, Bool.not_true, cond_false, key_self]
    rw [winc (by omega)]
  · dsimp only
    unfold law32_DequeActs_l8
    rw [dlt_end]; rfl
theorem cells_ok {n : Nat} (h : n ≤ 99) : TxtOk (cellsD n) := fun x hx => by
  unfold cellsD at hx
  obtain ⟨k, hk, rfl⟩ := List.mem_map.1 hx
  exact cell_text (by have := List.mem_range.1 hk; omega)
theorem acts_l11 {u : Nat} (h : u ≤ 10) : loop (fun s : Int × (List KeyD) => law32_DequeActs_l11 (u : Int) s.1 s.2) (0, ([] : List KeyD)) = some (cellsD (u + 63)) := by
  have e : IntKind.i64.wrap ((IntKind.i64.wrap ((u : Int) + 64)) - 1) = ((u + 63 : Nat) : Int) := by rw [w64 (z := (u : Int) + 64) (by omega) (by omega), w64 (by omega) (by omega)]; omega
  refine loop_to (fun k => ((k : Int), cellsD k)) (u + 63) rfl (fun k hk => ?_) ?_
  · dsimp only
    unfold law32_DequeActs_l11
    rw [e, dlt hk, cond_true, show Int.tmod (k : Int) 100 = ((k % 100 : Nat) : Int) from rfl, Nat.mod_eq_of_lt (show k < 100 by omega), ref23_cell (by omega), Option.bind_some, show roomB ((cellsD k).length + [cellK k].length) = true from room (by rw [cells_len]; simp; omega), gd_tt, winc (by omega), cells_step]
  · dsimp only
    unfold law32_DequeActs_l11
    rw [e, dlt_end]; rfl
theorem dequeActs_pure (raw : DequeD) (l : List KeyD) (k : KeyD) (n workers : Int) (ht : TxtOk raw.Keys) (hl : TxtOk l) (hk : k.Text.size ≤ 140737488355328) : law32_DequeActs raw l k n workers = some true := by
  unfold law32_DequeActs
  rw [law32_awake_is]
  by_cases h1 : (100 : Int) < (raw.Keys.length : Int)
  · rw [decide_eq_true h1]; rfl
  by_cases h2 : (100 : Int) < (l.length : Int)
  · rw [decide_eq_false h1, decide_eq_true h2]; rfl
  rw [decide_eq_false h1, decide_eq_false h2]
  simp only [cond_false, Option.bind_some]
  obtain ⟨u, hu, m1⟩ := mod_is n (m := 3) (by omega) (by omega)
  obtain ⟨r, hr, m2⟩ := mod_is n (m := 4) (by omega) (by omega)
  rw [show (3 : Int) = ((3 : Nat) : Int) from rfl, m1, Option.bind_some, acts_l11 (by omega), Option.bind_some]
  unfold law32_DequeActs_j10
  have hlen : (cellsD (u + 63)).length = u + 63 := cells_len
  have hc : TxtOk (cellsD (u + 63)) := cells_ok (by omega)
  rw [show (4 : Int) = ((4 : Nat) : Int) from rfl, m2, Option.bind_some, show (0 : Int) = ((0 : Nat) : Int) from rfl, subI_at (by omega) (by omega), Option.bind_some]
  unfold law32_DequeActs_j9
  rw [acts_l8 hk (by omega) ht (by omega) hc (by simp; omega) (fun x hx => hc x (List.mem_of_mem_take (List.mem_of_mem_drop hx))), Option.bind_some]
  show law32_DequeActs_j7 _ _ _ _ = _
  unfold law32_DequeActs_j7
  rw [show (0 : Int) = ((0 : Nat) : Int) from rfl, subI_at (by omega) (by omega), Option.bind_some]
  have e : ((cellsD (u + 63)).take (cellsD (u + 63)).length).drop 0 = cellsD (u + 63) := by simp
  rw [e, show roomB ((cellsD (u + 63)).length + [k].length) = true from room (by rw [hlen]; simp; omega), gd_tt, show (((0 : Nat) : Int)) = (0 : Int) from rfl,
    acts_l6 (by omega) hl (by omega) hc (by simp [hlen]; omega) (fun x hx => ?_), Option.bind_some]
  · show law32_DequeActs_j1 = _
    unfold law32_DequeActs_j1
    rw [law32_awake_is]; rfl
  · rcases List.mem_append.1 hx with h | h
    · exact hc x h
    · rw [List.mem_singleton.1 h]; exact hk
end Go.Proofs.YthpeklnhkkadjaaDoor
