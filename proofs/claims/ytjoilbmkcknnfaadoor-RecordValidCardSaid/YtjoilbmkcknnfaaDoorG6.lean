/- A frame for walks: slices that are made, appended to, cut; rows of the call's own, read and stored into. -/
import Derived.Test.YtjoilbmkcknnfaaDoorG5
set_option linter.unusedVariables false
set_option linter.unusedSimpArgs false
namespace Go.Proofs.YtjoilbmkcknnfaaDoor
open Go.RowKit

/-- what an element type's row of the table says -/
def elI (P : Program) (t : TypeId) : Option (TypeId × Nat × Nat) := match P.underlying t with
  | some (.slice e) => match P.info? e with
    | some i => match i.zero with
      | some z => cond (Nat.beq z.cells.size i.size && Nat.blt 0 i.size) (some (e, i.size, i.bytes)) none
      | none => none
    | none => none
  | _ => none
theorem elI_el {P : Program} {t e : TypeId} {sz bt : Nat} (h : elI P t = some (e, sz, bt)) : Elem P t e sz bt := by
  unfold elI at h
  split at h
  · rename_i e' hu
    split at h
    · rename_i i hi
      split at h
      · rename_i z hz
        cases hc : (Nat.beq z.cells.size i.size && Nat.blt 0 i.size) with
        | false => rw [hc] at h; cases h
        | true =>
          rw [hc] at h
          simp only [cond_true, Option.some.injEq, Prod.mk.injEq] at h
          obtain ⟨rfl, rfl, rfl⟩ := h
          simp only [Bool.and_eq_true] at hc
          exact ⟨hu, ⟨i, z, hi, hz, rfl, rfl, Nat.eq_of_beq_eq_true hc.1⟩, Nat.le_of_ble_eq_true hc.2⟩
      · cases h
    · cases h
  · cases h
theorem elI_sl {P : Program} {t e : TypeId} {sz bt : Nat} (h : elI P t = some (e, sz, bt)) : isSl P t = some e := by
  have := (elI_el h).ht
  unfold isSl; rw [this]
def plS (len size : Nat) : List (Nat × Nat) := (List.range len).map fun i => (i * size, size)
def bsZ (zc : List Value) (k : Nat) : List Value := ((Array.range k).map (zc.toArray[· % zc.toArray.size]!)).toList

section
variable {P : Program} {W : World} {M T E : Nat → Prop} {n : Nat} {G G' : List (Nat × Value)} {D D' : List Res} {F F' : List Fact} {a : Act} {w w' : World} {K : Act → World → Prop} {Q : Exit → Act → World → Prop}
/-- a literal of a slice -/
theorem k_bslice {d : Nat} {t e ty : TypeId} {len : Nat} {ps : List (Nat × Operand)} {pos : String} {af : Array Edge} {g : Option (Nat × Bool)} {sz bt : Nat} {zs zl ws : List Value} {us : List (List Value)} {vs : List (Nat × Value)} (hS : St W M T n G D F a w) (he : elI P t = some (e, sz, bt)) (hz : zeroI P e = some zs) (hzl : bsZ zs (len * sz) = zl) (hv : evp G ps = some vs) (hcs : Cs vs us) (hf : fillL (plS len sz) zl vs us = some ws) (hl : Nat.ble (len * sz) 1000 = true) (hl0 : Nat.blt 0 len = true) (hn : Nat.blt d n = true)
    (k : ∀ b a w', Kt No w w' → St W M T n ((d, .slice (some ⟨b, 0, none⟩) len len) :: G) (.box b ws e :: D) F a w' → K a w') : OpK P ⟨some d, .buildSlice t len ps.toArray, ty, pos, af, g⟩ a w K := by
  obtain ⟨ht, ⟨i, z, hi, hz0, hsz, hby, hzc⟩, hpos⟩ := elI_el he
  have hzz : z.cells.toList = zs := by
    unfold zeroI at hz
    rw [hi] at hz
    simp only [hz0, Option.some.injEq] at hz
    exact hz
  have h1 := Nat.le_of_ble_eq_true hl
  have h2 : 0 < len := Nat.le_of_ble_eq_true hl0
  have hfill := fill_ok (place := fun i => some (i * sz, sz)) (pl := plS len sz) (fun i q hq => by
    unfold plS at hq
    rw [List.getElem?_map] at hq
    cases hr : (List.range len)[i]? with
    | none => rw [hr] at hq; cases hq
    | some j =>
      rw [hr] at hq
      simp only [Option.map_some, Option.some.injEq] at hq
      have := List.getElem?_eq_some_iff.1 hr
      obtain ⟨_, hj⟩ := this
      simp only [List.getElem_range] at hj
      subst hj; rw [← hq]) vs us zl ws hcs hf
  subst hsz
  have hcells : ((Array.range (len * i.size)).map (z.cells[· % z.cells.size]!)) = zl.toArray := by
    rw [← hzl]; unfold bsZ; rw [← hzz]
  have hev : (ps.toArray.map (fun p => (p.1, a.eval p.2))).toList = vs := by rw [← hS.evp hv]; simp
  have hr : (Instr.buildSlice t len (ps.toArray.map (fun p => (p.1, a.eval p.2)))).run P w = .ok (.slice (some ⟨w.heap.size, 0, none⟩) len len) (w.alloc (.cells ws.toArray e)) :=
    run_buildSlice w t e len _ ws.toArray i z ht hi hz0 (by omega) (by have := Nat.mul_pos h2 hpos; omega) (by rw [hcells, hev]; exact hfill)
  have hr2 : (execOp a.eval ⟨some d, .buildSlice t len ps.toArray, ty, pos, af, g⟩).run P w = .ok (.value (.slice (some ⟨w.heap.size, 0, none⟩) len len)) (w.alloc (.cells ws.toArray e)) := by
    show (do pure (Next.value (← Instr.buildSlice t len (ps.toArray.map fun p => (p.1, a.eval p.2)))) : Sem Next).run P w = _
    rw [Sem.run_bind, hr]; rfl
  exact kval hr2 (k w.heap.size _ _ (Kt.alloc _ _) ((hS.alloc ws e).put hn _))
/-- a literal slice, from a variable of the call's own to a row of its own -/
theorem St.lit {α : Type} {R : Rep α} {b m : Nat} {us : List Value} {e : TypeId} {xs : List α} (hS : St W M T n G D F a w) (i : Nat) (hi : D[i]? = some (.box b us e)) (hR : 0 < R.size) (hr : RowsOk R (dT T D) w us xs) (hm : m = xs.length) (hlim : Nat.ble m 1000 = true) : St W M T n G (D.set i (.own (.slice (some ⟨b, 0, none⟩) m m) e R.size us)) (RowsF R us xs :: F) a w := by
  have hok := hS.own _ (List.mem_of_getElem? hi)
  have h1 := Nat.le_of_ble_eq_true hlim
  subst hm
  have h2 := hS.fact (RowsF R us xs) hr
  refine h2.turn hi (Kt.refl _ _) ⟨.inr ⟨b, 0, xs.length, xs.length, us.toArray, rfl, hr.1, Nat.zero_le _, .of hok, Nat.le_refl _, by unfold maxLen; omega, by rw [Nat.zero_add, ← hr.1]; simp, fun j u hu => by rw [Nat.zero_add]; simpa using hu⟩, hR⟩ (fun j hj => .inl hj)
theorem St.nilRow {α : Type} (R : Rep α) (e : TypeId) (hR : 0 < R.size) (hS : St W M T n G D F a w) : St W M T n G (.own (.slice none 0 0) e R.size [] :: D) (RowsF R [] [] :: F) a w :=
  (hS.add (Kt.refl _ _) (.own (.slice none 0 0) e R.size []) ⟨Own.nil_ _ _ _ _, hR⟩ (fun k hk => by simp [Res.dom, Value.ownBlock] at hk)).fact _ (RowsOk.nil_ _ _ _)
theorem app_run {o : Oper} {s x : Operand} {t e : TypeId} {sz bt : Nat} {v : Value} {cl news : List Value} {A : Option Addr} {m c : Nat} (ho : o.op = .call { callee := .builtin .append, args := #[s, x], argTypes := #[t, t] }) (hS : St W M T n G D F a w) (he : elI P t = some (e, sz, bt)) (hs : ev G s = some v) (hx : ev G x = some (.slice A m c)) (hown : Own w 0 e sz v cl) (hl : news.length = m * sz) (hat : At w A news) (h1 : ∀ u ∈ news, u.oneCell' = true) (hz : (cl.length + news.length) ≤ 4294967296 * sz) (hb : Nat.ble (sz * bt) 32768 = true) (hbs : Nat.ble sz 32768 = true)
    (k : ∀ v' w', Kt (fun j => v.ownBlock = some j) w w' → Own w' 0 e sz v' (cl ++ news) → (∀ j, v'.ownBlock = some j → v.ownBlock = some j ∨ w.heap.size ≤ j) → K (a.put o.dst v') w') : OpK P o a w K := fun K' Q hK => by
  have q1 := Nat.le_of_ble_eq_true hb
  have q2 := Nat.le_of_ble_eq_true hbs
  have q3 : (cl.length + news.length) * bt ≤ 4294967296 * (sz * bt) := by rw [← Nat.mul_assoc]; exact Nat.mul_le_mul_right _ hz
  exact wp_append_Own w s x t ho e sz bt (elI_el he) 0 v cl (hS.ev hs) hown A m c news (hS.ev hx) hl hat h1 (by unfold maxLen; omega) (by omega) (Nat.zero_le _) fun v' w' h2 h3 h4 => hK _ _ (k v' w' (Kt.grown h3) h2 (fun j hj => by
    rcases h4 with h4 | h4
    · exact .inl (h4 ▸ hj)
    · rw [h4] at hj; injection hj with hj; exact .inr (by omega)))
/-- append of values -/
theorem k_app {α : Type} {R : Rep α} {xs ys : List α} {d : Nat} {ty t e e' : TypeId} {s x : Operand} {pos : String} {af : Array Edge} {g : Option (Nat × Bool)} {bt b m c : Nat} {v : Value} {cl cs : List Value} (hS : St W M T n G D F a w) (he : elI P t = some (e, R.size, bt)) (hb : Nat.ble (R.size * bt) 32768 = true) (hbs : Nat.ble R.size 32768 = true) (hs : ev G s = some v) (hx : ev G x = some (.slice (some ⟨b, 0, none⟩) m c)) (i : Nat) (hi : D[i]? = some (.own v e R.size cl)) (p : Nat) (hp : F[p]? = some (RowsF R cl xs)) (j : Nat) (hj : D[j]? = some (.box b cs e')) (hr : RowsOk R (dT T D) w cs ys) (hm : m = ys.length) (hroom : roomB (xs.length + m) = true) (hn : Nat.blt d n = true)
    (k : ∀ v' cl' a w', Kt (fun j => v.ownBlock = some j) w w' → St W M T n ((d, v') :: G) (D.set i (.own v' e R.size cl')) (RowsF R cl' (xs ++ ys) :: F) a w' → K a w') : OpK P ⟨some d, .call { callee := .builtin .append, args := #[s, x], argTypes := #[t, t] }, ty, pos, af, g⟩ a w K := by
  obtain ⟨hown, hsz⟩ := hS.own _ (List.mem_of_getElem? hi)
  have hbox : w.heap[b]? = some (.cells cs.toArray e' (0, 0)) := hS.own _ (List.mem_of_getElem? hj)
  have hrow : RowsOk R (dT T D) w cl xs := hS.get p hp
  have h1 := roomB_le hroom
  refine app_run rfl hS he hs hx hown (by rw [hr.1, hm]) (.inr ⟨b, 0, rfl, fun q u hu => by rw [cell_of_row _ _ _ _ _ _ hbox, Nat.zero_add]; simpa using hu⟩) (hr.cell hsz) (by rw [hrow.1, hr.1, ← hm, ← Nat.add_mul]; exact Nat.mul_le_mul_right _ h1) hb hbs fun v' w' h2 h3 h4 => ?_
  have h5 := hS.fact (RowsF R (cl ++ cs) (xs ++ ys)) (hrow.append hr)
  exact k v' (cl ++ cs) _ w' h2 ((h5.turn hi (r' := .own v' e R.size (cl ++ cs)) h2 ⟨h3, hsz⟩ h4).put hn v')
/-- append of a slice -/
theorem k_apps {α : Type} {R : Rep α} {xs ys : List α} {d : Nat} {ty t e : TypeId} {s x : Operand} {pos : String} {af : Array Edge} {g : Option (Nat × Bool)} {bt : Nat} {v u : Value} {cl : List Value} (hS : St W M T n G D F a w) (he : elI P t = some (e, R.size, bt)) (hb : Nat.ble (R.size * bt) 32768 = true) (hbs : Nat.ble R.size 32768 = true) (hs : ev G s = some v) (hx : ev G x = some u) (i : Nat) (hi : D[i]? = some (.own v e R.size cl)) (p : Nat) (hp : F[p]? = some (RowsF R cl xs)) (q : Nat) (hq : F[q]? = some (SlF R u ys)) (hroom : roomB (xs.length + ys.length) = true) (hn : Nat.blt d n = true)
    (k : ∀ v' cl' a w', Kt (fun j => v.ownBlock = some j) w w' → St W M T n ((d, v') :: G) (D.set i (.own v' e R.size cl')) (RowsF R cl' (xs ++ ys) :: F) a w' → K a w') : OpK P ⟨some d, .call { callee := .builtin .append, args := #[s, x], argTypes := #[t, t] }, ty, pos, af, g⟩ a w K := by
  obtain ⟨hown, hsz⟩ := hS.own _ (List.mem_of_getElem? hi)
  have hrow : RowsOk R (dT T D) w cl xs := hS.get p hp
  have hsl : SlR R (dT T D) w u ys := hS.get q hq
  obtain ⟨A, c, rfl, _⟩ := id hsl
  obtain ⟨_, cs, hat, hr⟩ := hsl.rows hsz
  have h1 := roomB_le hroom
  refine app_run rfl hS he hs hx hown hr.1 hat (hr.cell hsz) (by rw [hrow.1, hr.1, ← Nat.add_mul]; exact Nat.mul_le_mul_right _ h1) hb hbs fun v' w' h2 h3 h4 => ?_
  have h5 := hS.fact (RowsF R (cl ++ cs) (xs ++ ys)) (hrow.append hr)
  exact k v' (cl ++ cs) _ w' h2 ((h5.turn hi (r' := .own v' e R.size (cl ++ cs)) h2 ⟨h3, hsz⟩ h4).put hn v')
theorem made_flat (z : Array Value) : ∀ m : Nat, (madeCells z (m * z.size)).toList = (List.replicate m z.toList).flatten
  | 0 => by simp [madeCells]
  | m + 1 => by
    have ih := made_flat z m
    have h1 : ∀ N, (madeCells z N).toList = (List.range N).map (fun k => z[k % z.size]!) := fun N => by simp [madeCells]
    rw [h1] at ih ⊢
    rw [show (m + 1) * z.size = z.size + m * z.size by rw [Nat.add_mul]; omega, List.range_add, List.map_append, List.map_map, List.replicate_succ, List.flatten_cons, ← ih]
    congr 1
    · apply List.ext_getElem?
      intro k
      rw [List.getElem?_map]
      by_cases hk : k < z.size
      · rw [List.getElem?_range hk, Option.map_some, Nat.mod_eq_of_lt hk, getElem!_pos z k hk]
        simp [hk]
      · rw [List.getElem?_eq_none (by simpa using hk), List.getElem?_eq_none (by simpa using hk)]; rfl
    · apply List.map_congr_left
      intro k _
      simp only [Function.comp, Nat.add_mod_left]
theorem RowsOk.rep {α : Type} {R : Rep α} {T : Nat → Prop} {w : World} {cs : List Value} {x : α} (h : R.rel T w cs x) : ∀ m : Nat, RowsOk R T w (List.replicate m cs).flatten (List.replicate m x)
  | 0 => RowsOk.nil_ _ _ _
  | m + 1 => by rw [List.replicate_succ, List.replicate_succ, List.flatten_cons]; exact (RowsOk.one_ h).append (RowsOk.rep h m)
/-- make -/
theorem k_make {α : Type} {R : Rep α} {z0 : α} {d : Nat} {ty t e : TypeId} {x y : Operand} {pos : String} {af : Array Edge} {g : Option (Nat × Bool)} {bt : Nat} {zs : List Value} {kx ky : IntKind} {len : Int} (hS : St W M T n G D F a w) (he : elI P t = some (e, R.size, bt)) (hz : zeroI P e = some zs) (hb : Nat.ble (R.size * bt) 32768 = true) (hx : ev G x = some (.int kx len)) (hy : ev G y = some (.int ky len)) (h0 : decide (0 ≤ len) = true) (hroom : roomB len.toNat = true) (hr : R.rel (dT T D) w zs z0) (hn : Nat.blt d n = true)
    (k : ∀ v' cl' a w', Kt No w w' → St W M T n ((d, v') :: G) (.own v' e R.size cl' :: D) (RowsF R cl' (List.replicate len.toNat z0) :: F) a w' → K a w') : OpK P ⟨some d, .makeSlice t x y, ty, pos, af, g⟩ a w K := by
  obtain ⟨ht, ⟨i, z, hi, hz0, hsz, hby, hzc⟩, hpos⟩ := elI_el he
  have h0 := of_decide_eq_true h0
  have hzz : z.cells.toList = zs := by
    unfold zeroI at hz
    rw [hi] at hz
    simp only [hz0, Option.some.injEq] at hz
    exact hz
  have h1 := roomB_le hroom
  have q1 := Nat.le_of_ble_eq_true hb
  subst hby
  have hbt : i.bytes ≤ 32768 := Nat.le_trans (Nat.le_mul_of_pos_left _ hpos) q1
  obtain ⟨m, rfl⟩ : ∃ m : Nat, len = m := ⟨len.toNat, by omega⟩
  rw [Int.toNat_natCast] at *
  have hmul : i.bytes * m ≤ 32768 * 4294967296 := Nat.mul_le_mul hbt h1
  have hbi : (i.bytes : Int) * (m : Int) ≤ 281474976710656 := by
    have : ((i.bytes * m : Nat) : Int) ≤ 281474976710656 := by omega
    rwa [Int.natCast_mul] at this
  have hrun := run_make (P := P) w t e i z ht hi hz0 kx ky (m : Int) (m : Int) (by omega) (by omega) hbi (by omega)
  rw [Int.toNat_natCast, hsz] at hrun
  have hfl : (madeCells z.cells (m * R.size)).toList = (List.replicate m zs).flatten := by rw [← hzc, made_flat, hzz]
  have hrow := RowsOk.rep hr m
  have hown : Own (w.alloc (.cells (madeCells z.cells (m * R.size)) e)) 0 e R.size (.slice (some ⟨w.heap.size, 0, none⟩) m m) (List.replicate m zs).flatten := by
    rw [← hfl]
    exact Own.lit w 0 e R.size _ m (Nat.zero_le _) (size_madeCells _ _) (by unfold maxLen; omega)
  have hr2 : (execOp a.eval ⟨some d, .makeSlice t x y, ty, pos, af, g⟩).run P w = .ok (.value (.slice (some ⟨w.heap.size, 0, none⟩) m m)) (w.alloc (.cells (madeCells z.cells (m * R.size)) e)) := by
    simp [execOp, hS.ev hx, hS.ev hy, hrun]
  have hS2 := hS.fact (RowsF R (List.replicate m zs).flatten (List.replicate m z0)) hrow
  exact kval hr2 (k _ _ _ _ (Kt.alloc _ _) ((hS2.add (Kt.alloc _ _) (.own (.slice (some ⟨w.heap.size, 0, none⟩) m m) e R.size (List.replicate m zs).flatten) ⟨hown, hpos⟩ (fun j hj => by simp only [Res.dom, Value.ownBlock, Option.some.injEq] at hj; omega)).put hn _))
/-- a part of a slice -/
theorem run_bounds {isS : Bool} {len cap : Nat} {k1 k2 : IntKind} {lo hi : Int} (h0 : 0 ≤ lo) (h1 : lo ≤ hi) (h2 : hi ≤ len) (h3 : len ≤ cap) (w : World) (olo ohi : Option Value) (hlo : olo = some (.int k1 lo) ∨ (olo = none ∧ lo = 0)) (hhi : ohi = some (.int k2 hi) ∨ (ohi = none ∧ hi = len)) : (Instr.sliceBounds isS len cap olo ohi none).run P w = .ok (lo.toNat, hi.toNat, cap) w := by
  have a1 : hi ≤ cap := by omega
  have a2 : 0 ≤ hi := by omega
  have a3 : lo ≤ (hi.toNat : Int) := by omega
  rcases hlo with rfl | ⟨rfl, rfl⟩ <;> rcases hhi with rfl | ⟨rfl, rfl⟩
  · simp [Instr.sliceBounds, Instr.sliceBound, asIntOf, h0, a1, a2, a3]
    intro h
    omega
  · simp [Instr.sliceBounds, Instr.sliceBound, asIntOf, h0, h1]
  · simp [Instr.sliceBounds, Instr.sliceBound, asIntOf, a1, a2]
  · simp [Instr.sliceBounds]
theorem subI_some {α : Type} {xs ys : List α} {lo hi : Int} (h : subI xs lo hi = some ys) : 0 ≤ lo ∧ lo ≤ hi ∧ hi ≤ xs.length ∧ ys = (xs.take hi.toNat).drop lo.toNat := by
  unfold subI at h
  split at h
  · rename_i hc; injection h with h; exact ⟨hc.1, hc.2.1, hc.2.2, h.symm⟩
  · cases h
theorem SlR.cut {α : Type} {R : Rep α} {T : Nat → Prop} {A : Option Addr} {c l h : Nat} {xs : List α} (hs : SlR R T w (.slice A xs.length c) xs) (h1 : l ≤ h) (h2 : h ≤ xs.length) (B : Option Addr) (hB : l < h → ∀ b o, A = some ⟨b, o, none⟩ → B = some ⟨b, o + l * R.size, none⟩) : SlR R T w (.slice B (h - l) (c - l)) ((xs.take h).drop l) := by
  obtain ⟨A', c', e, q1, q2, q3⟩ := hs
  injection e with e1 e2 e3
  subst e1 e3
  have hlen : ((xs.take h).drop l).length = h - l := by simp; omega
  refine ⟨B, c - l, by rw [hlen], by omega, by omega, ?_⟩
  by_cases hlt : l < h
  · rcases q3 with q3 | ⟨b, off, rfl, hc⟩
    · subst q3; simp at h2; omega
    · refine .inr ⟨b, off + l * R.size, hB hlt b off rfl, fun k x hx => ?_⟩
      rw [List.getElem?_drop, List.getElem?_take] at hx
      split at hx
      · obtain ⟨cs, g1, g2⟩ := hc _ x hx
        exact ⟨cs, g1, by rwa [show off + l * R.size + k * R.size = off + (l + k) * R.size by rw [Nat.add_mul]; omega]⟩
      · cases hx
  · left
    apply List.eq_nil_of_length_eq_zero; omega
theorem k_sub {α : Type} {R : Rep α} {xs ys : List α} {d : Nat} {t e ty : TypeId} {X : Operand} {olo ohi : Option Operand} {pos : String} {af : Array Edge} {g : Option (Nat × Bool)} {v : Value} {k1 k2 : IntKind} {lo hi : Int} {ag : Bool} (hS : St W M T n G D F a w) (ht : isSl P t = some e) (he : tyI P e = some (ag, R.size)) (hX : ev G X = some v) (hlo : (∃ x, olo = some x ∧ ev G x = some (.int k1 lo)) ∨ (olo = none ∧ lo = 0)) (hhi : (∃ x, ohi = some x ∧ ev G x = some (.int k2 hi)) ∨ (ohi = none ∧ hi = xs.length)) (j : Nat) (hj : F[j]? = some (SlF R v xs)) (hg : subI xs lo hi = some ys) (hn : Nat.blt d n = true)
    (K' : ∀ v' a, St W M T n ((d, v') :: G) D (SlF R v' ys :: F) a w → K a w) : OpK P ⟨some d, .slice t X olo ohi none, ty, pos, af, g⟩ a w K := by
  obtain ⟨q1, q2, q3, rfl⟩ := subI_some hg
  have hsl : SlR R (dT T D) w v xs := hS.get j hj
  obtain ⟨A, c, rfl, p1, p2⟩ := hsl.len
  have hb := run_bounds (P := P) (isS := true) (k1 := k1) (k2 := k2) q1 q2 q3 p1 w (olo.map a.eval) (ohi.map a.eval)
    (by rcases hlo with ⟨x, rfl, hx⟩ | ⟨rfl, rfl⟩
        · exact .inl (by rw [Option.map_some, hS.ev hx])
        · exact .inr ⟨rfl, rfl⟩)
    (by rcases hhi with ⟨x, rfl, hx⟩ | ⟨rfl, rfl⟩
        · exact .inl (by rw [Option.map_some, hS.ev hx])
        · exact .inr ⟨rfl, rfl⟩)
  have hr : (execOp a.eval ⟨some d, .slice t X olo ohi none, ty, pos, af, g⟩).run P w = .ok (.value (.slice (if c = lo.toNat then A else A.map (·.add (lo.toNat * R.size))) (hi.toNat - lo.toNat) (c - lo.toNat))) w := by
    have hx := hS.ev hX
    simp [execOp, Instr.sliceAt, Instr.slice, run_underlying (isSl_und ht), hx, hb, run_size he]
  refine kval hr (K' _ _ ((hS.put hn _).fact (SlF R _ _) ?_))
  refine hsl.cut (by omega) (by omega) _ (fun hlt b o hA => ?_)
  rw [if_neg (by omega), hA]
  simp [addr_add]
theorem subS_some {s p : ByteArray} {lo hi : Int} (h : subS s lo hi = some p) : 0 ≤ lo ∧ lo ≤ hi ∧ hi ≤ s.size ∧ p = s.extract lo.toNat hi.toNat := by
  unfold subS at h
  split at h
  · rename_i hc; injection h with h; exact ⟨hc.1, hc.2.1, hc.2.2, h.symm⟩
  · cases h
theorem y_subs {d : Option Nat} {t ty : TypeId} {X : Operand} {olo ohi : Option Operand} {pos : String} {af : Array Edge} {g : Option (Nat × Bool)} {s p : ByteArray} {k1 k2 : IntKind} {lo hi : Int} (hS : St W M T n G D F a w) (ht : P.underlying t = some .string) (hX : ev G X = some (.string s)) (hlo : (∃ x, olo = some x ∧ ev G x = some (.int k1 lo)) ∨ (olo = none ∧ lo = 0)) (hhi : (∃ x, ohi = some x ∧ ev G x = some (.int k2 hi)) ∨ (ohi = none ∧ hi = s.size)) (hg : subS s lo hi = some p) : Ye P ⟨d, .slice t X olo ohi none, ty, pos, af, g⟩ a E w (.string p) :=
  Ye.of fun w => by
    obtain ⟨q1, q2, q3, rfl⟩ := subS_some hg
    have hb := run_bounds (P := P) (isS := false) (k1 := k1) (k2 := k2) q1 q2 q3 (Nat.le_refl _) w (olo.map a.eval) (ohi.map a.eval)
      (by rcases hlo with ⟨x, rfl, hx⟩ | ⟨rfl, rfl⟩
          · exact .inl (by rw [Option.map_some, hS.ev hx])
          · exact .inr ⟨rfl, rfl⟩)
      (by rcases hhi with ⟨x, rfl, hx⟩ | ⟨rfl, rfl⟩
          · exact .inl (by rw [Option.map_some, hS.ev hx])
          · exact .inr ⟨rfl, rfl⟩)
    simp [execOp, Instr.sliceAt, Instr.slice, run_underlying ht, hS.ev hX, hb]
end
end Go.Proofs.YtjoilbmkcknnfaaDoor
