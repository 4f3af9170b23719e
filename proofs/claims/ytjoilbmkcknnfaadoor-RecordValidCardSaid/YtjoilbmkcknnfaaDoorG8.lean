/- A frame for walks: elements of rows of the call's own; variables behind pointers; errors. -/
import Derived.Test.YtjoilbmkcknnfaaDoorG7
import Derived.Laws.Cover3
import Derived.WideLaws
set_option linter.unusedVariables false
set_option linter.unusedSimpArgs false
namespace Go.Proofs.YtjoilbmkcknnfaaDoor
open Go.RowKit

theorem nw0 {T : Nat → Prop} (w : World) : Nw T (dT T []) w := fun k hk => .inl (by rcases hk with hk | ⟨r, hr, _⟩; exact hk; cases hr)
def ErrIs (er : Value) (b : Bool) : Prop := (b = false ∧ er = .nilIface) ∨ (b = true ∧ ∃ t v, er = .iface t v)
section
variable {P : Program} {W : World} {M T E : Nat → Prop} {n : Nat} {G G' : List (Nat × Value)} {D D' rs : List Res} {F F' : List Fact} {a : Act} {w w' : World} {K : Act → World → Prop} {Q : Exit → Act → World → Prop}
theorem y_errne {d : Option Nat} {t t' : TypeId} {x : Operand} {ty : TypeId} {pos : String} {af : Array Edge} {g : Option (Nat × Bool)} {er : Value} {b : Bool} (hS : St W M T n G D F a w)
    (hx : ev G x = some er) (he : ErrIs er b) (ht : P.underlying t = some (.interface (P.methodsAt t))) : Ye P ⟨d, .binOp .neq t x (.const .nilIface) t', ty, pos, af, g⟩ a E w (.bool b) :=
  Ye.of fun w => by
    have h1 := hS.ev hx
    have hc : a.eval (.const .nilIface) = .nilIface := rfl
    rcases he with ⟨rfl, rfl⟩ | ⟨rfl, tt, vv, rfl⟩
    · have h3 := run_equal_nil_nil (P := P) w t ht
      simp only [execOp, h1, hc, eqGuard, binOp]
      simp [h3]
    · have h3 := run_equal_held_nil (P := P) w t tt vv ht
      simp only [execOp, h1, hc, eqGuard, binOp]
      simp [h3]
theorem y_erreq {d : Option Nat} {t t' : TypeId} {x : Operand} {ty : TypeId} {pos : String} {af : Array Edge} {g : Option (Nat × Bool)} {er : Value} {b : Bool} (hS : St W M T n G D F a w)
    (hx : ev G x = some er) (he : ErrIs er b) (ht : P.underlying t = some (.interface (P.methodsAt t))) : Ye P ⟨d, .binOp .eql t x (.const .nilIface) t', ty, pos, af, g⟩ a E w (.bool !b) :=
  Ye.of fun w => by
    have h1 := hS.ev hx
    have hc : a.eval (.const .nilIface) = .nilIface := rfl
    rcases he with ⟨rfl, rfl⟩ | ⟨rfl, tt, vv, rfl⟩
    · have h3 := run_equal_nil_nil (P := P) w t ht
      simp only [execOp, h1, hc, eqGuard, binOp]
      simp [h3]
    · have h3 := run_equal_held_nil (P := P) w t tt vv ht
      simp only [execOp, h1, hc, eqGuard, binOp]
      simp [h3]
/-- is a slice nil? only an empty one can be -/
theorem y_slnil {α : Type} {R : Rep α} {xs : List α} {v : Value} {t e : TypeId} (hS : St W M T n G D F a w) (ht : isSl P t = some e) (i : Nat) (hi : F[i]? = some (SlF R v xs)) :
    ∃ b : Bool, (b = true → xs = []) ∧ (∀ {E : Nat → Prop} {d : Option Nat} {ty : TypeId} {x : Operand} {t' : TypeId} {pos : String} {af : Array Edge} {g : Option (Nat × Bool)}, ev G x = some v → Ye P ⟨d, .binOp .eql t x (.const (.slice none 0 0)) t', ty, pos, af, g⟩ a E w (.bool b)) ∧ (∀ {E : Nat → Prop} {d : Option Nat} {ty : TypeId} {x : Operand} {t' : TypeId} {pos : String} {af : Array Edge} {g : Option (Nat × Bool)}, ev G x = some v → Ye P ⟨d, .binOp .neq t x (.const (.slice none 0 0)) t', ty, pos, af, g⟩ a E w (.bool !b)) := by
  obtain ⟨A, c, rfl, h1, h2, h3⟩ : SlR R (dT T D) w v xs := hS.get i hi
  refine ⟨A.isNone, fun hb => ?_, fun {E d ty x t' pos af g} hx => Ye.of fun w => ?_, fun {E d ty x t' pos af g} hx => Ye.of fun w => ?_⟩
  · rcases h3 with h3 | ⟨b, off, rfl, _⟩
    · exact h3
    · cases hb
  · have h4 := hS.ev hx
    have hc : a.eval (.const (.slice none 0 0)) = .slice none 0 0 := rfl
    have h5 := run_equal_slice_nil (P := P) w t e A xs.length c (isSl_und ht)
    simp only [execOp, h4, hc, eqGuard, binOp]
    simp [h5]
  · have h4 := hS.ev hx
    have hc : a.eval (.const (.slice none 0 0)) = .slice none 0 0 := rfl
    have h5 := run_equal_slice_nil (P := P) w t e A xs.length c (isSl_und ht)
    simp only [execOp, h4, hc, eqGuard, binOp]
    simp [h5]
/-- an empty literal -/
theorem k_bslice0 {α : Type} (R : Rep α) {d : Nat} {t e ty : TypeId} {pos : String} {af : Array Edge} {g : Option (Nat × Bool)} {bt : Nat} (hS : St W M T n G D F a w) (he : elI P t = some (e, R.size, bt)) (hn : Nat.blt d n = true)
    (k : ∀ v' a w', Kt No w w' → St W M T n ((d, v') :: G) (.own v' e R.size [] :: D) (RowsF R [] [] :: F) a w' → K a w') : OpK P ⟨some d, .buildSlice t 0 #[], ty, pos, af, g⟩ a w K := by
  obtain ⟨ht, ⟨i, z, hi, hz0, hsz, hby, hzc⟩, hpos⟩ := elI_el he
  have hr : (execOp a.eval ⟨some d, .buildSlice t 0 #[], ty, pos, af, g⟩).run P w = .ok (.value (.slice (some ⟨w.heap.size, 0, none⟩) 0 0)) (w.alloc (.cells #[] e)) := by
    simp [execOp, Instr.buildSlice, run_underlying ht, sizeOf, typeInfo, hi, Instr.fill, newRow, Array.range_zero']
  have hown : Own (w.alloc (.cells #[] e)) 0 e R.size (.slice (some ⟨w.heap.size, 0, none⟩) 0 0) [] := Own.made w 0 e R.size #[] 0 (Nat.zero_le _) (by simp) (Nat.zero_le _)
  have h2 := hS.fact (RowsF R [] []) (RowsOk.nil_ _ _ _)
  exact kval hr (k _ _ _ (Kt.alloc _ _) ((h2.add (Kt.alloc _ _) (.own (.slice (some ⟨w.heap.size, 0, none⟩) 0 0) e R.size []) ⟨hown, hpos⟩ (fun j hj => by simp only [Res.dom, Value.ownBlock, Option.some.injEq] at hj; omega)).put hn _))
/-- an element of an own row: where it lies -/
def Oel (v : Value) (b o sz : Nat) (i : Int) (p : Nat) : Prop := ∃ off m c, v = .slice (some ⟨b, off, none⟩) m c ∧ o = off + i.toNat * sz ∧ p = i.toNat * sz
theorem oel_dom {v : Value} {b o sz p e : Nat} {i : Int} {sz2 : Nat} {cl : List Value} (h : Oel v b o sz i p) : (Res.own v e sz2 cl).dom = some b := by obtain ⟨off, m, c, rfl, _, _⟩ := h; rfl
theorem own_get {α : Type} {R : Rep α} {v : Value} {e : TypeId} {cl : List Value} {xs : List α} {i : Int} {x : α} (hS : St W M T n G D F a w) (q : Nat) (hq : D[q]? = some (.own v e R.size cl)) (j : Nat) (hj : F[j]? = some (RowsF R cl xs)) (hg : getI xs i = some x) :
    ∃ b off c, v = .slice (some ⟨b, off, none⟩) xs.length c ∧ ∃ cs, R.rel (dT T D) w cs x ∧ (∀ k u, cs[k]? = some u → cl[i.toNat * R.size + k]? = some u) := by
  obtain ⟨q1, q2, q3⟩ := getI_some hg
  obtain ⟨hown, hsz⟩ := hS.own _ (List.mem_of_getElem? hq)
  have hrow : RowsOk R (dT T D) w cl xs := hS.get j hj
  obtain ⟨cs, h1, h2⟩ := hrow.2 _ _ q3
  rcases hown with ⟨rfl, rfl⟩ | ⟨gb, off, m, cap, row, rfl, p1, p2, p3, p4, p5, p6, p7⟩
  · have h0 : xs.length * R.size = 0 := hrow.1.symm
    rcases Nat.mul_eq_zero.1 h0 with h | h <;> omega
  · have hm : m = xs.length := Nat.mul_right_cancel hsz (p1.symm.trans hrow.1)
    subst hm
    exact ⟨gb, off, cap, rfl, cs, h1, h2⟩
theorem k_indexo {α : Type} {R : Rep α} {xs : List α} {x : α} {d : Nat} {t e e' ty : TypeId} {X Y : Operand} {pos : String} {af : Array Edge} {g : Option (Nat × Bool)} {v : Value} {cl : List Value} {k : IntKind} {i : Int} {ag : Bool} (hS : St W M T n G D F a w) (ht : isSl P t = some e) (he : tyI P e = some (ag, R.size)) (hX : ev G X = some v) (hY : ev G Y = some (.int k i)) (q : Nat) (hq : D[q]? = some (.own v e' R.size cl)) (j : Nat) (hj : F[j]? = some (RowsF R cl xs)) (hg : getI xs i = some x) (hn : Nat.blt d n = true)
    (K' : ∀ b o p cs, R.rel (dT T D) w cs x → Oel v b o R.size i p → (∀ k u, cs[k]? = some u → cl[p + k]? = some u) → ∀ a, St W M T n ((d, .pointer (some ⟨b, o, none⟩)) :: G) D F a w → K a w) : OpK P ⟨some d, .indexAddr t X Y, ty, pos, af, g⟩ a w K := by
  obtain ⟨b, off, c, rfl, cs, h1, h2⟩ := own_get hS q hq j hj hg
  obtain ⟨q1, q2, _⟩ := getI_some hg
  have hr : (execOp a.eval ⟨some d, .indexAddr t X Y, ty, pos, af, g⟩).run P w = .ok (.value (.pointer (some ⟨b, off + i.toNat * R.size, none⟩))) w := by simp [execOp, hS.ev hX, hS.ev hY, run_indexAt ht he q1 q2]
  exact kval hr (K' b _ _ cs h1 ⟨off, _, _, rfl, rfl, rfl⟩ h2 _ (hS.put hn _))
theorem d_indexo {α : Type} {R : Rep α} {xs : List α} {x : α} {t e e' : TypeId} {v : Value} {cl : List Value} {i : Int} {ag : Bool} (hS : St W M T n G D F a w) (ht : isSl P t = some e) (he : tyI P e = some (ag, R.size)) (q : Nat) (hq : D[q]? = some (.own v e' R.size cl)) (j : Nat) (hj : F[j]? = some (RowsF R cl xs)) (hg : getI xs i = some x) :
    ∃ b o p cs, R.rel (dT T D) w cs x ∧ Oel v b o R.size i p ∧ (∀ k u, cs[k]? = some u → cl[p + k]? = some u) ∧ (∀ {E : Nat → Prop} {d : Option Nat} {ty : TypeId} {X Y : Operand} {pos : String} {af : Array Edge} {g : Option (Nat × Bool)} {k : IntKind}, ev G X = some v → ev G Y = some (.int k i) → Ye P ⟨d, .indexAddr t X Y, ty, pos, af, g⟩ a E w (.pointer (some ⟨b, o, none⟩))) := by
  obtain ⟨b, off, c, rfl, cs, h1, h2⟩ := own_get hS q hq j hj hg
  obtain ⟨q1, q2, _⟩ := getI_some hg
  exact ⟨b, _, _, cs, h1, ⟨off, _, _, rfl, rfl, rfl⟩, h2, fun hX hY => Ye.of fun w => by simp [execOp, hS.ev hX, hS.ev hY, run_indexAt ht he q1 q2]⟩
/-- a load from an element of an own row -/
theorem y_loado {d : Option Nat} {t ty e : TypeId} {x : Operand} {pos : String} {af : Array Edge} {g : Option (Nat × Bool)} {ag : Bool} {z b o k p sz : Nat} {v : Value} {cl cs us : List Value} {i : Int} (hS : St W M T n G D F a w) (ht : tyI P t = some (ag, z)) (q : Nat) (hq : D[q]? = some (.own v e sz cl)) (ho : Oel v b o sz i p) (hc : ∀ k u, cs[k]? = some u → cl[p + k]? = some u) (hx : ev G x = some (.pointer (some ⟨b, o + k, none⟩))) (hE : ¬ E b)
    (hu : (cs.drop k).take z = us) (hl : us.length = z) (hz : ag = false → z = 1) : Ye P ⟨d, .load t x, ty, pos, af, g⟩ a E w (valOf ag us) := fun w' hk => by
  obtain ⟨hown, hsz⟩ := hS.own _ (List.mem_of_getElem? hq)
  obtain ⟨off, m, c, rfl, rfl, rfl⟩ := ho
  rcases hown with ⟨h, _⟩ | ⟨gb, off', m', cap, row, h, p1, p2, p3, p4, p5, p6, p7⟩
  · cases h
  · injection h with h1 h2 h3
    injection h1 with h1
    injection h1 with h1 h4
    subst h1 h4
    have hr' := p3.eqb (hk.block b p3.lt hE)
    have := run_loadAt (P := P) (b := b) (o := off + i.toNat * sz + k) ht hl hz w' (fun j u hj => by
      rw [hr'.cell]
      rw [← hu, List.getElem?_take] at hj
      split at hj
      · rw [List.getElem?_drop] at hj
        have := p7 _ u (hc _ u hj)
        rwa [show off + (i.toNat * sz + (k + j)) = off + i.toNat * sz + k + j by omega] at this
      · cases hj)
    simp [execOp, hS.ev hx, this]
theorem run_store_cells {t : TypeId} {ag : Bool} {z : Nat} (ht : tyI P t = some (ag, z)) {b o : Nat} {row : Array Value} {e : TypeId} {v : Value} (hr : Row w b row e) (hz : v.cells.toList.length = z) (hl : o + z ≤ row.size) (h1 : ∀ u ∈ v.cells.toList, u.oneCell' = true) :
    ∃ row' : Array Value, (Instr.storeAt t (.pointer (some ⟨b, o, none⟩)) v).run P w = .ok () (w.setCells b o v.cells.toList) ∧ Row (w.setCells b o v.cells.toList) b row' e ∧ row'.size = row.size ∧ ∀ y, row'[y]? = if o ≤ y ∧ y < o + z then v.cells.toList[y - o]? else row[y]? := by
  have h2 := run_storeCells_cells (P := P) b o v.cells.toList 0 w (fun j hj => by rw [Nat.add_zero, hr.cell, Array.getElem?_eq_getElem (by omega)]; rfl) (fun j hj => by rw [Nat.add_zero]; exact hr.free (by omega)) h1
  simp only [Nat.add_zero] at h2
  have h3 : v.cells.size = z := by rw [← hz]; simp
  obtain ⟨fz, hg0, hfz⟩ := id hr
  obtain ⟨row', c1, c2, c3, c4⟩ := setCells_block b e fz v.cells.toList o w row hg0
  refine ⟨row', by simp [Instr.storeAt, Instr.sureAddr, storeVar, run_size ht, h3, h2], ⟨fz, c1, by rw [c2]; exact hfz⟩, c2, fun y => ?_⟩
  by_cases hy : o ≤ y ∧ y < o + z
  · rw [if_pos hy]
    have hj : y - o < v.cells.toList.length := by omega
    have := c4 (by omega) (y - o) _ (List.getElem?_eq_getElem hj)
    rw [show o + (y - o) = y by omega] at this
    rw [this, List.getElem?_eq_getElem hj]
  · rw [if_neg hy]
    exact c3 y (by omega)
theorem setL_get (cs us : List Value) (o j : Nat) (hl : o + us.length ≤ cs.length) : (setL cs o us)[j]? = if o ≤ j ∧ j < o + us.length then us[j - o]? else cs[j]? := by
  unfold setL
  rw [List.append_assoc, List.getElem?_append, List.length_take, Nat.min_eq_left (by omega)]
  by_cases h1 : j < o
  · rw [if_pos h1, List.getElem?_take, if_pos h1, if_neg (by omega)]
  · rw [if_neg h1, List.getElem?_append]
    by_cases h2 : j < o + us.length
    · rw [if_pos (by omega), if_pos ⟨by omega, h2⟩]
    · rw [if_neg (by omega), if_neg (by omega), List.getElem?_drop]
      congr 1; omega
/-- a store into an element of an own row -/
theorem k_storeo {α : Type} {R : Rep α} {xs : List α} {x x' : α} {t ty e : TypeId} {X Y : Operand} {pos : String} {af : Array Edge} {g : Option (Nat × Bool)} {ag : Bool} {z b o k p : Nat} {v u : Value} {cl cs us : List Value} {i : Int} (hS : St W M T n G D F a w) (hX : ev G X = some (.pointer (some ⟨b, o + k, none⟩))) (hY : ev G Y = some u) (hu : u.cells.toList = us) (ht : tyI P t = some (ag, z)) (q : Nat) (hq : D[q]? = some (.own v e R.size cl)) (j : Nat) (hj : F[j]? = some (RowsF R cl xs)) (ho : Oel v b o R.size i p) (hc : ∀ k u, cs[k]? = some u → cl[p + k]? = some u) (hg : getI xs i = some x) (hrel : R.rel (dT T D) w cs x)
    (hz : us.length = z) (hl : Nat.ble (k + z) cs.length = true) (hnew : R.rel (dT T D) w (setL cs k us) x')
    (K' : ∀ cl' w', Kt (fun j => v.ownBlock = some j) w w' → St W M T n G (D.set q (.own v e R.size cl')) (RowsF R cl' (xs.set i.toNat x') :: F) a w' → K a w') : OpK P ⟨none, .store t X Y, ty, pos, af, g⟩ a w K := by
  have hmem := List.mem_of_getElem? hq
  obtain ⟨hown, hsz⟩ := hS.own _ hmem
  have hrow : RowsOk R (dT T D) w cl xs := hS.get j hj
  obtain ⟨q1, q2, q3⟩ := getI_some hg
  have hle := Nat.le_of_ble_eq_true hl
  have hcl := R.len hrel
  obtain ⟨off, m, c, rfl, rfl, rfl⟩ := ho
  rcases hown with ⟨h, _⟩ | ⟨gb, off', m', cap, row, h, p1, p2, p3, p4, p5, p6, p7⟩
  · cases h
  · injection h with h1 h2 h3
    injection h1 with h1
    injection h1 with h1 h4
    subst h1 h4 h2 h3
    have hm : m = xs.length := Nat.mul_right_cancel hsz (p1.symm.trans hrow.1)
    subst hm
    have hlt : i.toNat < xs.length := (List.getElem?_eq_some_iff.1 q3).1
    have hin : i.toNat * R.size + R.size ≤ xs.length * R.size := by
      have : (i.toNat + 1) * R.size ≤ xs.length * R.size := Nat.mul_le_mul_right _ hlt
      rw [Nat.add_mul] at this; omega
    have hcap : xs.length * R.size ≤ c * R.size := Nat.mul_le_mul_right _ p4
    have hone : ∀ y ∈ us, y.oneCell' = true := by
      intro y hy
      refine R.one hnew y ?_
      unfold setL
      exact List.mem_append_left _ (List.mem_append_right _ hy)
    subst hu
    have hz2 : u.cells.size = z := by rw [← hz]; simp
    obtain ⟨row', hst, hrow', hsz', hget⟩ := run_store_cells (P := P) (o := off + i.toNat * R.size + k) ht p3 hz (by omega) hone
    have hk : Kt (fun j => (Value.slice (some ⟨b, off, none⟩) xs.length c).ownBlock = some j) w (w.setCells b (off + i.toNat * R.size + k) u.cells.toList) := (Kt.setCells _ _ _ _).mono fun j h => by rw [h]; rfl
    have hclen := hrow.1
    have hown' : Own (w.setCells b (off + i.toNat * R.size + k) u.cells.toList) 0 e R.size (.slice (some ⟨b, off, none⟩) xs.length c) (setL cl (i.toNat * R.size + k) u.cells.toList) := by
      refine .inr ⟨b, off, xs.length, c, row', rfl, ?_, Nat.zero_le _, hrow', p4, p5, by rw [hsz']; exact p6, fun y v hv => ?_⟩
      · unfold setL; simp only [List.length_append, List.length_take, List.length_drop]; omega
      · rw [setL_get _ _ _ _ (by omega)] at hv
        rw [hget]
        by_cases hy : i.toNat * R.size + k ≤ y ∧ y < i.toNat * R.size + k + u.cells.toList.length
        · rw [if_pos hy] at hv
          rw [if_pos (by omega)]
          rw [show off + y - (off + i.toNat * R.size + k) = y - (i.toNat * R.size + k) by omega]; exact hv
        · rw [if_neg hy] at hv
          rw [if_neg (by omega)]
          exact p7 y v hv
    have hrows : RowsOk R (dT T D) w (setL cl (i.toNat * R.size + k) u.cells.toList) (xs.set i.toNat x') := by
      refine ⟨by unfold setL; simp only [List.length_append, List.length_take, List.length_drop, List.length_set]; omega, fun y z' hz' => ?_⟩
      rw [List.getElem?_set] at hz'
      by_cases hy : i.toNat = y
      · rw [if_pos hy, if_pos hlt] at hz'
        simp only [Option.some.injEq] at hz'
        subst hz' hy
        refine ⟨_, hnew, fun s v hv => ?_⟩
        rw [setL_get _ _ _ _ (by omega)] at hv ⊢
        by_cases hs : k ≤ s ∧ s < k + u.cells.toList.length
        · rw [if_pos hs] at hv
          rw [if_pos (by omega), show i.toNat * R.size + s - (i.toNat * R.size + k) = s - k by omega]; exact hv
        · rw [if_neg hs] at hv
          rw [if_neg (by omega)]
          exact hc s v hv
      · rw [if_neg hy] at hz'
        obtain ⟨ds, d1, d2⟩ := hrow.2 y z' hz'
        refine ⟨ds, d1, fun s v hv => ?_⟩
        have hsl : s < R.size := by rw [← R.len d1]; exact (List.getElem?_eq_some_iff.1 hv).1
        rw [setL_get _ _ _ _ (by omega), if_neg]
        · exact d2 s v hv
        · rintro ⟨r1, r2⟩
          rcases Nat.lt_or_gt_of_ne hy with hlt2 | hlt2
          · have : (i.toNat + 1) * R.size ≤ y * R.size := Nat.mul_le_mul_right _ hlt2
            rw [Nat.add_mul] at this; omega
          · have : (y + 1) * R.size ≤ i.toNat * R.size := Nat.mul_le_mul_right _ hlt2
            rw [Nat.add_mul] at this; omega
    have hS2 := hS.fact (RowsF R (setL cl (i.toNat * R.size + k) u.cells.toList) (xs.set i.toNat x')) hrows
    refine kskip (by simp [execOp, hS.ev hX, hS.ev hY, hst]) (K' (setL cl (i.toNat * R.size + k) u.cells.toList) _ hk ?_)
    exact hS2.turn hq hk (r' := .own (.slice (some ⟨b, off, none⟩) xs.length c) e R.size (setL cl (i.toNat * R.size + k) u.cells.toList)) ⟨hown', hsz⟩ (fun j hj => .inl hj)
theorem dT_in {T : Nat → Prop} {D : List Res} {i : Nat} {r : Res} (hi : D[i]? = some r) : ∀ k, dT (dT T (D.eraseIdx i)) [r] k ↔ dT T D k := by
  intro k
  constructor
  · rintro ((hk | ⟨s, hs, hk⟩) | ⟨s, hs, hk⟩)
    · exact .inl hk
    · exact .inr ⟨s, List.mem_of_mem_eraseIdx hs, hk⟩
    · rw [List.mem_singleton] at hs; subst hs; exact .inr ⟨s, List.mem_of_getElem? hi, hk⟩
  · rintro (hk | ⟨s, hs, hk⟩)
    · exact .inl (.inl hk)
    · obtain ⟨j, hj, e⟩ := List.getElem_of_mem hs
      by_cases hji : j = i
      · subst hji
        have : s = r := by rw [← e]; exact (List.getElem?_eq_some_iff.1 hi).2
        subst this; exact .inr ⟨_, List.mem_singleton.2 rfl, hk⟩
      · refine .inl (.inr ⟨s, ?_, hk⟩)
        rw [List.mem_iff_getElem?]
        rcases Nat.lt_or_gt_of_ne hji with h | h
        · exact ⟨j, by rw [List.getElem?_eraseIdx, if_pos h, ← e]; exact List.getElem?_eq_getElem hj⟩
        · exact ⟨j - 1, by rw [List.getElem?_eraseIdx, if_neg (by omega), show j - 1 + 1 = j by omega, ← e]; exact List.getElem?_eq_getElem hj⟩
/-- a variable that is handed to a callee: nobody else turns it -/
theorem St.notin {b : Nat} {cs : List Value} {t : TypeId} (h : St W M T n G D F a w) (i : Nat) (hi : D[i]? = some (.box b cs t)) : ¬ dT T (D.eraseIdx i) b := by
  rintro (hk | ⟨s, hs, hk⟩)
  · exact (h.free _ (List.mem_of_getElem? hi) b rfl).1 hk
  · obtain ⟨l1, e1⟩ := List.getElem?_eq_some_iff.1 hi
    obtain ⟨z, hz⟩ := List.mem_iff_getElem?.1 hs
    rw [List.getElem?_eraseIdx] at hz
    split at hz
    · rename_i hzi
      have hzl := (List.getElem?_eq_some_iff.1 hz).1
      have := List.pairwise_iff_getElem.1 h.apart z i hzl l1 hzi b (by rw [(List.getElem?_eq_some_iff.1 hz).2]; exact hk)
      rw [e1] at this; exact this rfl
    · have hzl := (List.getElem?_eq_some_iff.1 hz).1
      have := List.pairwise_iff_getElem.1 h.apart i (z + 1) l1 hzl (by omega) b (by rw [e1]; rfl)
      rw [(List.getElem?_eq_some_iff.1 hz).2] at this; exact this hk
theorem SlR.lent {α : Type} {R : Rep α} {v : Value} {xs : List α} {i : Nat} {r : Res} (hi : D[i]? = some r) (h : SlR R (dT T D) w v xs) : SlR R (dT (dT T (D.eraseIdx i)) [r]) w v xs :=
  h.sub fun k hk => .inl ((dT_in hi k).1 hk)
theorem SlR.back {α : Type} {R : Rep α} {v : Value} {xs : List α} {i : Nat} {r r' : Res} (hi : D[i]? = some r) (h : SlR R (dT (dT T (D.eraseIdx i)) [r']) w v xs) : SlR R (dT T (D.set i r')) w v xs := by
  refine h.sub fun k hk => .inl ?_
  have hl := (List.getElem?_eq_some_iff.1 hi).1
  have := (dT_in (T := T) (D := D.set i r') (i := i) (r := r') (by rw [List.getElem?_set_self hl]) k).2 hk
  rwa [List.eraseIdx_set_eq] at this
theorem LvSub {f : Fact} (h : St W M T n G D F a w) (i j : Nat) (hj : F[j]? = some f) : f.p (dT T (D.eraseIdx i)) w := h.lendF i j hj
theorem St.boxRow {b : Nat} {cs : List Value} {t : TypeId} (h : St W M T n G D F a w) (i : Nat) (hi : D[i]? = some (.box b cs t)) : w.heap[b]? = some (.cells cs.toArray t (0, 0)) := h.own _ (List.mem_of_getElem? hi)
theorem St.boxNew {b : Nat} {cs : List Value} {t : TypeId} (h : St W No T n G D F a w) (i : Nat) (hi : D[i]? = some (.box b cs t)) : W.heap.size ≤ b := (h.free _ (List.mem_of_getElem? hi) b rfl).2.resolve_left fun h => h
end
/-- a call begins, with variables that it may turn -/
theorem enterm {P : Program} {f : FuncId} {fn : Func} {c : Code} {args : List Value} {w : World} {R : Value → World → Prop} (hf : P.funcs[f]? = some fn) (hb : fn.body = some c)
    (T : Nat → Prop) (n : Nat) (hn : fn.ntmps = n) (hT : ∀ k, T k → k < w.heap.size) (hl : Nat.ble args.length n = true) {b : Nat} {cs : List Value} {t : TypeId} (hrow : w.heap[b]? = some (.cells cs.toArray t (0, 0))) (hTb : ¬ T b)
    (h : ∀ a, St w (fun k => k = b) T n (argSlots 0 args) [.box b cs t] [] a w → c.wp P (bodyPost P fn (Ret (fun k => k = b) w R)) a w) : Rets P (fun k => k = b) f args w R := by
  refine calls_of_wp hf hb (h _ ?_)
  subst hn
  have hS := St.start w (fun k => k = b) T fn.ntmps args hT (Nat.le_of_ble_eq_true hl) (argSlots 0 args) fun t v hv => by
    obtain ⟨h1, h2⟩ := lk_args args 0 t v hv
    simpa using h2
  exact ⟨hS.size, hS.defers, hS.slots, hS.base, fun r hr => by rw [List.mem_singleton] at hr; subst hr; exact hrow, fun r hr k hk => by
    rw [List.mem_singleton] at hr; subst hr
    simp only [Res.dom, Option.some.injEq] at hk
    subst hk; exact ⟨hTb, .inl rfl⟩, List.pairwise_singleton _ _, fun f hf => (by cases hf), hT⟩
section
variable {P : Program} {W : World} {M T : Nat → Prop} {n : Nat} {G : List (Nat × Value)} {D : List Res} {F : List Fact} {a : Act} {w : World} {K : Act → World → Prop}
theorem St.retOwnm {α : Type} {R : Rep α} {v : Value} {e b : Nat} {bt : TypeId} {cs : List Value} {cl : List Value} {xs : List α} {rs : List Res} (h : St W (fun k => k = b) T n G D F a w) (hi : InD D rs) (i : Nat) (hd : D[i]? = some (.own v e R.size cl)) (j : Nat) (hj : F[j]? = some (RowsF R cl xs)) (q : Nat) (hq : D[q]? = some (.box b cs bt)) (hne : i ≠ q) : OwnR R T W w rs e v cl xs := by
  have hm := List.mem_of_getElem? hd
  refine ⟨(h.own _ hm).1, fun k hk => (h.free _ hm k hk).2.resolve_left fun h2 => ?_, (h.get j hj : RowsOk R (dT T D) w cl xs).keep (Kt.refl _ _) fun k hk => .inl (hi.sub k hk)⟩
  exact eo_ne (l := []) h i hd hk q hq rfl hne eo_nil ⟨.blk (some b), List.mem_singleton.2 rfl, congrArg some h2.symm⟩
/-- one of the call's blocks is turned, and there are new rows -/
theorem St.turnAdds {w' : World} (h : St W M T n G D F a w) {i : Nat} {r r' : Res} (hi : D[i]? = some r) (k : Kt (fun j => r.dom = some j) w w') (hr : r'.ok w') (hd : ∀ j, r'.dom = some j → r.dom = some j)
    (rs : List Res) (h1 : ∀ r ∈ rs, r.ok w' ∧ ∀ k, r.dom = some k → w.heap.size ≤ k) (h2 : rs.Pairwise fun r s => ∀ k, r.dom = some k → s.dom ≠ some k) : St W M T n G (rs ++ D.set i r') F a w' := by
  have hb := h.turn hi k hr (fun j hj => .inl (hd j hj))
  have hlt : ∀ s ∈ D.set i r', ∀ j, s.dom = some j → j < w.heap.size ∧ (dT T D) j := fun s hs j hj => by
    rcases List.mem_or_eq_of_mem_set hs with hs | rfl
    · exact ⟨Res.lt (h.own s hs) j hj, .inr ⟨s, hs, hj⟩⟩
    · exact ⟨Res.lt (h.own r (List.mem_of_getElem? hi)) j (hd j hj), .inr ⟨r, List.mem_of_getElem? hi, hd j hj⟩⟩
  refine ⟨hb.size, hb.defers, hb.slots, hb.base, ?_, ?_, ?_, fun f hf => f.keep (h.facts f hf) (k.mono fun j hj => .inr ⟨r, List.mem_of_getElem? hi, hj⟩) (fun j hj => ?_), hb.tlt⟩
  · intro s hs
    rcases List.mem_append.1 hs with hs | hs
    · exact (h1 s hs).1
    · exact hb.own s hs
  · intro s hs j hj
    rcases List.mem_append.1 hs with hs | hs
    · have := (h1 s hs).2 j hj
      refine ⟨fun ht => ?_, .inr ?_⟩
      · have := h.tlt j ht; omega
      · have := h.base.size; omega
    · exact hb.free s hs j hj
  · refine List.pairwise_append.2 ⟨h2, hb.apart, fun s hs u hu j hj hj2 => ?_⟩
    have := (h1 s hs).2 j hj
    have := (hlt u hu j hj2).1
    omega
  · rcases hj with hj | ⟨s, hs, hj⟩
    · exact .inl (.inl hj)
    · rcases List.mem_append.1 hs with hs | hs
      · exact .inr ((h1 s hs).2 j hj)
      · exact .inl (hlt s hs j hj).2
theorem Nw.back2 {i : Nat} {r r' : Res} (hi : D[i]? = some r) (rs : List Res) (w : World) : Nw (dT (dT T (D.eraseIdx i)) (rs ++ [r'])) (dT T (rs ++ D.set i r')) w := fun k hk => .inl (by
  rcases hk with hk | ⟨s, hs, hk⟩
  · exact .inl (.inl hk)
  · rcases List.mem_append.1 hs with hs | hs
    · exact .inr ⟨s, List.mem_append.2 (.inl hs), hk⟩
    · have hl := (List.getElem?_eq_some_iff.1 hi).1
      have := (dT_in (T := T) (D := D.set i r') (i := i) (r := r') (by rw [List.getElem?_set_self hl]) k).2 (.inr ⟨s, hs, hk⟩)
      rw [List.eraseIdx_set_eq] at this
      rcases this with this | ⟨u, hu, hk⟩
      · exact .inl this
      · exact .inr ⟨u, List.mem_append.2 (.inr hu), hk⟩)
/-- a function that turns a variable and returns new rows -/
theorem k_callmr {d : Nat} {ty : TypeId} {pos : String} {af : Array Edge} {g : Option (Nat × Bool)} {args : Array Operand} {tys : Array TypeId} {f : Nat} {vs : List Value} {R : Value → World → Prop} {b : Nat} {cs : List Value} {bt : TypeId} (hS : St W M T n G D F a w) (hf : callI P f = true) (hargs : evs G args.toList = some vs) (hn : Nat.blt d n = true) (i : Nat) (hi : D[i]? = some (.box b cs bt)) (hc : Rets P (fun k => k = b) f vs w R)
    (k : ∀ v w', R v w' → Kt (fun k => k = b) w w' → ∃ cs' rs, w'.heap[b]? = some (.cells cs'.toArray bt (0, 0)) ∧ (∀ r ∈ rs, r.ok w' ∧ ∀ k, r.dom = some k → w.heap.size ≤ k) ∧ (rs.Pairwise fun r s => ∀ k, r.dom = some k → s.dom ≠ some k) ∧ ∀ a, St W M T n ((d, v) :: G) (rs ++ D.set i (.box b cs' bt)) F a w' → K a w') : OpK P ⟨some d, .call { callee := .value (.func f), args := args, argTypes := tys }, ty, pos, af, g⟩ a w K :=
  k_callF (cap := []) rfl hS rfl hf hargs (by rw [List.append_nil]; exact hc) fun v w' hk hr => by
    obtain ⟨cs', rs, h1, h2, h3, h4⟩ := k v w' hr hk
    exact h4 _ ((hS.turnAdds hi (hk.mono fun j hj => by simp [Res.dom, hj]) (r' := .box b cs' bt) h1 (fun j hj => hj) rs h2 h3).put hn v)
/-- a part of an own row, which takes its place -/
theorem RowsOk.cut {α : Type} {R : Rep α} {T : Nat → Prop} {w : World} {cl : List Value} {xs : List α} (h : RowsOk R T w cl xs) {l q : Nat} (h1 : l ≤ q) (h2 : q ≤ xs.length) : RowsOk R T w ((cl.take (q * R.size)).drop (l * R.size)) ((xs.take q).drop l) := by
  obtain ⟨a1, a2⟩ := h
  have hq : q * R.size ≤ xs.length * R.size := Nat.mul_le_mul_right _ h2
  refine ⟨by simp only [List.length_drop, List.length_take, a1]; rw [Nat.min_eq_left hq, Nat.min_eq_left h2, Nat.sub_mul], fun k x hx => ?_⟩
  rw [List.getElem?_drop, List.getElem?_take] at hx
  split at hx
  · rename_i hlt
    obtain ⟨cs, g1, g2⟩ := a2 _ x hx
    refine ⟨cs, g1, fun j u hu => ?_⟩
    have hj : j < R.size := by rw [← R.len g1]; exact (List.getElem?_eq_some_iff.1 hu).1
    have := g2 j u hu
    rw [List.getElem?_drop, List.getElem?_take, if_pos]
    · rwa [show l * R.size + (k * R.size + j) = (l + k) * R.size + j by rw [Nat.add_mul]; omega]
    · have : (l + k + 1) * R.size ≤ q * R.size := Nat.mul_le_mul_right _ (by omega)
      rw [Nat.add_mul, Nat.add_mul] at this
      omega
  · cases hx
theorem subo {α : Type} {R : Rep α} {xs : List α} {e : TypeId} {v : Value} {cl : List Value} {lo hi : Nat} (hS : St W M T n G D F a w) (q : Nat) (hq : D[q]? = some (.own v e R.size cl)) (j : Nat) (hj : F[j]? = some (RowsF R cl xs)) (h1 : lo ≤ hi) (h2 : hi ≤ xs.length) :
    ∃ A c, v = .slice A xs.length c ∧ xs.length ≤ c ∧ c ≤ maxLen ∧ St W M T n G (D.set q (.own (.slice (if c = lo then A else A.map (·.add (lo * R.size))) (hi - lo) (c - lo)) e R.size ((cl.take (hi * R.size)).drop (lo * R.size)))) (RowsF R ((cl.take (hi * R.size)).drop (lo * R.size)) ((xs.take hi).drop lo) :: F) a w := by
  obtain ⟨hown, hsz⟩ := hS.own _ (List.mem_of_getElem? hq)
  have hrow : RowsOk R (dT T D) w cl xs := hS.get j hj
  have hcut := hrow.cut h1 h2
  rcases hown with ⟨rfl, rfl⟩ | ⟨gb, off, m, cap, row, rfl, p1, p2, p3, p4, p5, p6, p7⟩
  · have h0 : xs.length = 0 := by
      have := hrow.1.symm
      rcases Nat.mul_eq_zero.1 this with h | h
      · exact h
      · omega
    have e1 : lo = 0 := by omega
    have e2 : hi = 0 := by omega
    subst e1 e2
    refine ⟨none, 0, by rw [h0], by omega, Nat.zero_le _, ?_⟩
    have hs := (hS.fact (RowsF R _ _) hcut).turn hq (w' := w) (Kt.refl _ _) (r' := .own (.slice none 0 0) e R.size []) ⟨.inl ⟨rfl, rfl⟩, hsz⟩ (fun k hk => .inl hk)
    simpa using hs
  · have hm : m = xs.length := Nat.mul_right_cancel hsz (p1.symm.trans hrow.1)
    subst hm
    refine ⟨some ⟨gb, off, none⟩, cap, rfl, p4, p5, ?_⟩
    refine (hS.fact (RowsF R _ _) hcut).turn hq (w' := w) (Kt.refl _ _) ⟨?_, hsz⟩ (fun k hk => .inl ?_)
    · have hA : (if cap = lo then (some ⟨gb, off, none⟩ : Option Addr) else (some (⟨gb, off, none⟩ : Addr)).map (·.add (lo * R.size))) = some ⟨gb, if cap = lo then off else off + lo * R.size, none⟩ := by
        split <;> simp [addr_add]
      rw [hA]
      refine .inr ⟨gb, _, _, _, row, rfl, ?_, p2, p3, by omega, by omega, ?_, ?_⟩
      · have hq2 : hi * R.size ≤ xs.length * R.size := Nat.mul_le_mul_right _ h2
        simp only [List.length_drop, List.length_take, p1]; rw [Nat.min_eq_left hq2, Nat.sub_mul]
      · split
        · rename_i hc; rw [hc, Nat.sub_self]; omega
        · have hle : lo * R.size ≤ cap * R.size := Nat.mul_le_mul_right _ (by omega)
          rw [Nat.sub_mul]; omega
      · intro k u hu
        rw [List.getElem?_drop, List.getElem?_take] at hu
        split at hu
        · rename_i hlt
          have hne : ¬ cap = lo := fun hc => by
            have : hi = lo := by omega
            subst this; omega
          rw [if_neg hne]
          have := p7 _ u hu
          rwa [show off + (lo * R.size + k) = off + lo * R.size + k by omega] at this
        · cases hu
    · revert hk
      simp only [Res.dom]
      split <;> simp [Value.ownBlock, addr_add]
theorem y_sl {v : Value} {t e : TypeId} {A : Option Addr} {m c sz : Nat} {lo hi : Int} {ag : Bool} (hS : St W M T n G D F a w) (ht : isSl P t = some e) (he : tyI P e = some (ag, sz)) (q1 : 0 ≤ lo) (q2 : lo ≤ hi) (q3 : hi ≤ m) (p1 : m ≤ c) (hv : v = .slice A m c) {E : Nat → Prop} {d : Option Nat} {ty : TypeId} {X : Operand} {olo ohi : Option Operand} {pos : String} {af : Array Edge} {g : Option (Nat × Bool)} {k1 k2 : IntKind} (hX : ev G X = some v) (hlo : (∃ x, olo = some x ∧ ev G x = some (.int k1 lo)) ∨ (olo = none ∧ lo = 0)) (hhi : (∃ x, ohi = some x ∧ ev G x = some (.int k2 hi)) ∨ (ohi = none ∧ hi = m)) :
    Ye P ⟨d, .slice t X olo ohi none, ty, pos, af, g⟩ a E w (.slice (if c = lo.toNat then A else A.map (·.add (lo.toNat * sz))) (hi.toNat - lo.toNat) (c - lo.toNat)) := by
  subst hv
  refine Ye.of fun w => ?_
  have hb := run_bounds (P := P) (isS := true) (k1 := k1) (k2 := k2) q1 q2 q3 p1 w (olo.map a.eval) (ohi.map a.eval)
    (by rcases hlo with ⟨x, rfl, hx⟩ | ⟨rfl, rfl⟩
        · exact .inl (by rw [Option.map_some, hS.ev hx])
        · exact .inr ⟨rfl, rfl⟩)
    (by rcases hhi with ⟨x, rfl, hx⟩ | ⟨rfl, rfl⟩
        · exact .inl (by rw [Option.map_some, hS.ev hx])
        · exact .inr ⟨rfl, rfl⟩)
  simp [execOp, Instr.sliceAt, Instr.slice, run_underlying (isSl_und ht), hS.ev hX, hb, run_size he]
theorem d_subo {α : Type} {R : Rep α} {xs ys : List α} {e e' t : TypeId} {v : Value} {cl : List Value} {lo hi : Int} {ag : Bool} (hS : St W M T n G D F a w) (ht : isSl P t = some e) (he : tyI P e = some (ag, R.size)) (q : Nat) (hq : D[q]? = some (.own v e' R.size cl)) (j : Nat) (hj : F[j]? = some (RowsF R cl xs)) (hg : subI xs lo hi = some ys) :
    ∃ v' cl', (∀ {E : Nat → Prop} {d : Option Nat} {ty : TypeId} {X : Operand} {olo ohi : Option Operand} {pos : String} {af : Array Edge} {g : Option (Nat × Bool)} {k1 k2 : IntKind}, ev G X = some v → ((∃ x, olo = some x ∧ ev G x = some (.int k1 lo)) ∨ (olo = none ∧ lo = 0)) → ((∃ x, ohi = some x ∧ ev G x = some (.int k2 hi)) ∨ (ohi = none ∧ hi = xs.length)) → Ye P ⟨d, .slice t X olo ohi none, ty, pos, af, g⟩ a E w v') ∧ St W M T n G (D.set q (.own v' e' R.size cl')) (RowsF R cl' ys :: F) a w := by
  obtain ⟨q1, q2, q3, rfl⟩ := subI_some hg
  obtain ⟨A, c, hv, h1, h2, hS'⟩ := subo (lo := lo.toNat) (hi := hi.toNat) hS q hq j hj (by omega) (by omega)
  exact ⟨_, _, fun hX hlo hhi => y_sl hS ht he q1 q2 q3 h1 hv hX hlo hhi, hS'⟩
/-- a part of an own row, which stays own -/
theorem d_view {α : Type} {R : Rep α} {xs ys : List α} {e e' t : TypeId} {v : Value} {cl : List Value} {lo hi : Int} {ag : Bool} (hS : St W M T n G D F a w) (ht : isSl P t = some e) (he : tyI P e = some (ag, R.size)) (q : Nat) (hq : D[q]? = some (.own v e' R.size cl)) (j : Nat) (hj : F[j]? = some (RowsF R cl xs)) (hg : subI xs lo hi = some ys) :
    ∃ v', (∀ (T : Nat → Prop) (w : World), SlR R T w v xs → SlR R T w v' ys) ∧ (∀ {E : Nat → Prop} {d : Option Nat} {ty : TypeId} {X : Operand} {olo ohi : Option Operand} {pos : String} {af : Array Edge} {g : Option (Nat × Bool)} {k1 k2 : IntKind}, ev G X = some v → ((∃ x, olo = some x ∧ ev G x = some (.int k1 lo)) ∨ (olo = none ∧ lo = 0)) → ((∃ x, ohi = some x ∧ ev G x = some (.int k2 hi)) ∨ (ohi = none ∧ hi = xs.length)) → Ye P ⟨d, .slice t X olo ohi none, ty, pos, af, g⟩ a E w v') := by
  obtain ⟨q1, q2, q3, rfl⟩ := subI_some hg
  obtain ⟨A, c, hv, h1, h2, hS'⟩ := subo (lo := lo.toNat) (hi := hi.toNat) hS q hq j hj (by omega) (by omega)
  refine ⟨_, fun T w h => ?_, fun hX hlo hhi => y_sl hS ht he q1 q2 q3 h1 hv hX hlo hhi⟩
  subst hv
  refine h.cut (by omega) (by omega) _ (fun hlt b o hA => ?_)
  rw [if_neg (by omega), hA]
  simp [addr_add]
theorem k_subo {α : Type} {R : Rep α} {xs ys : List α} {d : Nat} {t e e' ty : TypeId} {X : Operand} {olo ohi : Option Operand} {pos : String} {af : Array Edge} {g : Option (Nat × Bool)} {v : Value} {cl : List Value} {k1 k2 : IntKind} {lo hi : Int} {ag : Bool} (hS : St W M T n G D F a w) (ht : isSl P t = some e) (he : tyI P e = some (ag, R.size)) (hX : ev G X = some v) (hlo : (∃ x, olo = some x ∧ ev G x = some (.int k1 lo)) ∨ (olo = none ∧ lo = 0)) (hhi : (∃ x, ohi = some x ∧ ev G x = some (.int k2 hi)) ∨ (ohi = none ∧ hi = xs.length)) (q : Nat) (hq : D[q]? = some (.own v e' R.size cl)) (j : Nat) (hj : F[j]? = some (RowsF R cl xs)) (hg : subI xs lo hi = some ys) (hn : Nat.blt d n = true)
    (K' : ∀ v' cl' a, St W M T n ((d, v') :: G) (D.set q (.own v' e' R.size cl')) (RowsF R cl' ys :: F) a w → K a w) : OpK P ⟨some d, .slice t X olo ohi none, ty, pos, af, g⟩ a w K := by
  obtain ⟨v', cl', hy, hS'⟩ := d_subo hS ht he q hq j hj hg
  exact ky hS' (hy hX hlo hhi) rfl hn fun a h => K' _ _ a h
end
end Go.Proofs.YtjoilbmkcknnfaaDoor
