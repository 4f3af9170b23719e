/- A frame for walks: an append whose first row is still looked at. -/
import Derived.Test.YtjoilbmkcknnfaaDoorGC
set_option linter.unusedVariables false
set_option linter.unusedSimpArgs false
namespace Go.Proofs.YtjoilbmkcknnfaaDoor
open Go.RowKit

section
variable {P : Program} {W : World} {M T E : Nat → Prop} {n : Nat} {G G' : List (Nat × Value)} {D D' D0 Dr rs : List Res} {F F' : List Fact} {a : Act} {w w' : World} {K : Act → World → Prop}
/-- an append leaves the old row as it was -/
theorem run_append_keep (w : World) (t ty e : TypeId) (size bytes : Nat) (E : Elem P t e size bytes) (B : Nat) (v : Value) (xs : List Value) (hown : Own w B e size v xs)
    (A : Option Addr) (m c : Nat) (news : List Value) (hl : news.length = m * size) (hat : At w A news) (h1 : ∀ u ∈ news, u.oneCell' = true)
    (h63 : xs.length + news.length ≤ maxLen) (hbytes : (xs.length + news.length) * bytes ≤ 140737488355328) (hbase : B ≤ w.heap.size) {v' : Value} {w' : World}
    (hrun : (Builtin.append_ #[t, t] ty #[v, .slice A m c]).run P w = .ok v' w') : Own w' B e size v xs := by
  obtain ⟨ht, ⟨i, z, hi, hz, hsize, hby, hzs⟩, hpos⟩ := E
  subst hsize hby
  by_cases hm : m = 0
  · subst hm
    rcases hown with ⟨rfl, rfl⟩ | ⟨g, off, n, cap, cs, rfl, a1, hb, hg, hnc, hc, hsz, hcs⟩
    · rw [run_append_none w t ty e i ht hi none 0 0 c A (Nat.le_refl _)] at hrun
      injection hrun with _ h; subst h
      exact .inl ⟨rfl, rfl⟩
    · rw [run_append_none w t ty e i ht hi _ n cap c A hnc] at hrun
      injection hrun with _ h; subst h
      exact .inr ⟨g, off, n, cap, cs, rfl, a1, hb, hg, hnc, hc, hsz, hcs⟩
  · have hne : news ≠ [] := by rintro rfl; rw [List.length_nil] at hl; rcases Nat.mul_eq_zero.1 hl.symm with h | h <;> omega
    obtain ⟨sb, soff, rfl, hcell⟩ : ∃ b off, A = some ⟨b, off, none⟩ ∧ ∀ j u, news[j]? = some u → w.cell? ⟨b, off + j, none⟩ = some u := by
      rcases hat with h | h
      · exact absurd h hne
      · exact h
    have hcell' : ∀ j u, news[j]? = some u → w.cell? ((⟨sb, soff, none⟩ : Addr).add j) = some u := fun j u hu => by rw [Addr.add_lit]; exact hcell j u hu
    have hmn : m ≤ news.length := by rw [hl]; exact Nat.le_mul_of_pos_right _ hpos
    rcases hown with ⟨rfl, rfl⟩ | ⟨g, off, n, cap, cs, rfl, a1, hb, hg, hnc, hc, hsz, hcs⟩
    · exact .inl ⟨rfl, rfl⟩
    · have hnx : n ≤ xs.length := by rw [a1]; exact Nat.le_mul_of_pos_right _ hpos
      by_cases hroom : n + m ≤ cap
      · have hfit : off + n * i.size + news.length ≤ cs.size := by
          have : (n + m) * i.size ≤ cap * i.size := Nat.mul_le_mul_right _ hroom
          rw [hl]; rw [Nat.add_mul] at this; omega
        have hr := run_append_room_cells (P := P) w t ty e i ht hi g off n cap ⟨sb, soff, none⟩ m c news hl hcell' h1 hroom
          (fun j hj => by rw [hg.cell, Array.getElem?_eq_getElem (by omega)]; rfl)
          (fun j hj => hg.free (by omega))
        obtain ⟨fz, hg0, hfz⟩ := id hg
        obtain ⟨cs', c1, c2, c3, c4⟩ := setCells_block g e fz news (off + n * i.size) w cs hg0
        rw [hr] at hrun
        injection hrun with _ h; subst h
        refine .inr ⟨g, off, n, cap, cs', rfl, a1, hb, ⟨fz, c1, by rw [c2]; exact hfz⟩, hnc, hc, by rw [c2]; exact hsz, fun j u hu => ?_⟩
        have hj : j < xs.length := (List.getElem?_eq_some_iff.1 hu).1
        rw [c3 _ (by omega)]
        exact hcs j u hu
      · have hr := run_append_grow (P := P) w t ty e i z ht hi hz ⟨g, off, none⟩ n cap xs a1 (fun j u hu => by rw [Addr.add_lit, hg.cell]; exact hcs j u hu)
          ⟨sb, soff, none⟩ m c news hl hcell' (by omega) (by simp only [maxLen] at h63; omega)
          (growslice_fits (by omega) (by
            have h2 : (n + m) * i.bytes ≤ (xs.length + news.length) * i.bytes := Nat.mul_le_mul_right _ (by omega)
            omega))
        rw [hr] at hrun
        injection hrun with _ h; subst h
        exact .inr ⟨g, off, n, cap, cs, rfl, a1, hb, hg.eqb (Below.heap_alloc w.drew _ g hg.lt), hnc, hc, hsz, hcs⟩
/-- what a call holds alone, nothing else of its own holds -/
theorem St.notD {r : Res} (h : St W M T n G D F a w) (i : Nat) (hi : D[i]? = some r) {k : Nat} (hk : r.dom = some k) : ¬ dT T (D.eraseIdx i) k := by
  have hlt := (List.getElem?_eq_some_iff.1 hi).1
  have hD := (List.getElem?_eq_some_iff.1 hi).2
  rintro (hT | ⟨s, hs, hT⟩)
  · exact (h.free _ (List.mem_of_getElem? hi) k hk).1 hT
  · obtain ⟨z, hz⟩ := List.mem_iff_getElem?.1 hs
    rw [List.getElem?_eraseIdx] at hz
    split at hz
    · rename_i hzi
      have hzl := (List.getElem?_eq_some_iff.1 hz).1
      have := List.pairwise_iff_getElem.1 h.apart z i hzl hlt hzi k (by rw [(List.getElem?_eq_some_iff.1 hz).2]; exact hT)
      rw [hD] at this; exact this hk
    · rename_i hzi
      have hzl := (List.getElem?_eq_some_iff.1 hz).1
      have := List.pairwise_iff_getElem.1 h.apart i (z + 1) hlt hzl (by omega) k (by rw [hD]; exact hk)
      rw [(List.getElem?_eq_some_iff.1 hz).2] at this; exact this hT
/-- append of a slice; the first row is looked at behind it: neither turns any more -/
theorem k_appskeep {α : Type} {R : Rep α} {xs ys : List α} {d : Nat} {ty t e : TypeId} {s x : Operand} {pos : String} {af : Array Edge} {g : Option (Nat × Bool)} {bt : Nat} {v u : Value} {cl : List Value} (hS : St W M T n G D F a w) (he : elI P t = some (e, R.size, bt)) (hb : Nat.ble (R.size * bt) 32768 = true) (hbs : Nat.ble R.size 32768 = true) (hs : ev G s = some v) (hx : ev G x = some u) (i : Nat) (hi : D[i]? = some (.own v e R.size cl)) (p : Nat) (hp : F[p]? = some (RowsF R cl xs)) (q : Nat) (hq : F[q]? = some (SlF R u ys)) (hroom : roomB (xs.length + ys.length) = true) (hn : Nat.blt d n = true)
    (k : ∀ v' cl' a w', Kt (fun j => v.ownBlock = some j) w w' → St W M T n ((d, v') :: G) (D.eraseIdx i) (SlF R v xs :: SlF R v' (xs ++ ys) :: RowsF R cl' (xs ++ ys) :: F) a w' → K a w') : OpK P ⟨some d, .call { callee := .builtin .append, args := #[s, x], argTypes := #[t, t] }, ty, pos, af, g⟩ a w K := by
  obtain ⟨hown, hsz⟩ := hS.own _ (List.mem_of_getElem? hi)
  have hrow : RowsOk R (dT T D) w cl xs := hS.get p hp
  have hsl : SlR R (dT T D) w u ys := hS.get q hq
  obtain ⟨A, c, rfl, _⟩ := id hsl
  obtain ⟨_, cs, hat, hr⟩ := hsl.rows hsz
  have h1 := roomB_le hroom
  have q1 := Nat.le_of_ble_eq_true hb
  have q2 := Nat.le_of_ble_eq_true hbs
  have hz : (cl.length + cs.length) ≤ 4294967296 * R.size := by rw [hrow.1, hr.1, ← Nat.add_mul]; exact Nat.mul_le_mul_right _ h1
  have q3 : (cl.length + cs.length) * bt ≤ 4294967296 * (R.size * bt) := by rw [← Nat.mul_assoc]; exact Nat.mul_le_mul_right _ hz
  obtain ⟨v', w', hrun, g2, g3, g4⟩ := run_append_Own (P := P) w t ty e R.size bt (elI_el he) 0 v cl hown A ys.length c cs hr.1 hat (hr.cell hsz) (by unfold maxLen; omega) (by omega) (Nat.zero_le _)
  have g5 := run_append_keep (P := P) w t ty e R.size bt (elI_el he) 0 v cl hown A ys.length c cs hr.1 hat (hr.cell hsz) (by unfold maxLen; omega) (by omega) (Nat.zero_le _) hrun
  have hex : (execOp a.eval ⟨some d, .call { callee := .builtin .append, args := #[s, x], argTypes := #[t, t] }, ty, pos, af, g⟩).run P w = .ok (.value v') w' := by
    simp only [execOp, resolve, invoke, builtin, Sem.run_bind, Sem.run_pure, Result.andThen_ok, List.map_toArray, List.map_cons, List.map_nil, hS.ev hs, hS.ev hx, hrun]
  have h5 := hS.fact (RowsF R (cl ++ cs) (xs ++ ys)) (hrow.append hr)
  have h6 := h5.turn hi (Kt.grown g3) (r' := .own v' e R.size (cl ++ cs)) ⟨g2, hsz⟩ (fun j hj => by
    rcases g4 with g4 | g4
    · have hj : v'.ownBlock = some j := hj
      rw [g4] at hj; exact .inl hj
    · have hj : v'.ownBlock = some j := hj
      rw [g4] at hj; injection hj with hj; exact .inr (by omega))
  have hlt := (List.getElem?_eq_some_iff.1 hi).1
  have h7 := h6.freeze (R := R) i (by rw [List.getElem?_set_self hlt]) 0 rfl
  rw [List.eraseIdx_set_eq] at h7
  have h8 : SlR R (dT T (D.eraseIdx i)) w' v xs := by
    refine Own.rd hsz g5 (hrow.keep ((Kt.grown g3).mono fun j hj => .inr ⟨_, List.mem_of_getElem? hi, hj⟩) fun k hk => .inl (dT_erase k hk)) fun k hk => hS.notD i hi hk
  exact kval hex (k v' (cl ++ cs) _ w' (Kt.grown g3) ((h7.fact (SlF R v xs) h8).put hn v'))
end
end Go.Proofs.YtjoilbmkcknnfaaDoor
