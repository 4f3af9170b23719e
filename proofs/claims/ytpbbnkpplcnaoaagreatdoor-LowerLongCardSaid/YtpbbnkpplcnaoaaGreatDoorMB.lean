/- Several texts in one. -/
import Derived.Test.YtpbbnkpplcnaoaaGreatDoorMA
import Derived.Laws.Small
import Derived.Laws.StructEq
import Derived.Laws.Cover3
import Derived.WideLaws
import Derived.Lib.AppendStr
import Derived.Lib.ConvBytes
import Derived.Laws.BytesString
import Derived.ArgAppend
import Derived.Lib.SmallJoins
/- A frame for walks: more operations. -/
set_option linter.unusedVariables false
set_option linter.unusedSimpArgs false
namespace Go.Proofs.YtpbbnkpplcnaoaaGreatDoor
open Go.RowKit

/-- rows that stand in a result -/
def InD (D : List Res) : List Res → Prop
  | [] => True
  | r :: s => (r.bare = true ∨ r ∈ D) ∧ InD D s
theorem InD.sub {T : Nat → Prop} {D : List Res} : ∀ {rs : List Res}, InD D rs → ∀ k, dT T rs k → dT T D k
  | [], _, k, hk => by
    rcases hk with hk | ⟨r, hr, _⟩
    · exact .inl hk
    · cases hr
  | r :: s, h, k, hk => by
    rcases dT_cons.1 hk with hk | hk
    · exact InD.sub h.2 k hk
    · rcases h.1 with h1 | h1
      · exact absurd hk (Res.bare_no h1 k)
      · exact .inr ⟨r, h1, hk⟩
/-- a row that the call made, in a result -/
def OwnR {α : Type} (R : Rep α) (T : Nat → Prop) (W w : World) (rs : List Res) (e : TypeId) (v : Value) (cl : List Value) (xs : List α) : Prop :=
  Own w 0 e R.size v cl ∧ (∀ k, v.ownBlock = some k → W.heap.size ≤ k) ∧ RowsOk R (dT T rs) w cl xs
theorem SlR.dn {α : Type} {R : Rep α} {T : Nat → Prop} {w : World} {v : Value} {xs : List α} (h : SlR R T w v xs) : SlR R (dT T []) w v xs :=
  h.sub fun k hk => .inl (by rcases hk with hk | ⟨r, hr, _⟩; exact hk; cases hr)
theorem SlR.up {α : Type} {R : Rep α} {T : Nat → Prop} {D rs : List Res} {w : World} {v : Value} {xs : List α} (hi : InD D rs) (h : SlR R (dT T D) w v xs) : SlR R (dT T rs) w v xs :=
  h.sub fun k hk => .inl (hi.sub k hk)
/-- an own row, read as a slice by whoever called -/
theorem OwnR.sl {α : Type} {R : Rep α} {T : Nat → Prop} {W w : World} {rs : List Res} {e : TypeId} {v : Value} {cl : List Value} {xs : List α} (hs : 0 < R.size) (h : OwnR R T W w rs e v cl xs) (hT : ∀ k, T k → k < W.heap.size) : SlR R T w v xs :=
  Own.rd hs h.1 (h.2.2.keep (Kt.refl _ _) fun k hk => .inl (.inl hk)) fun k hk ht => by have := h.2.1 k hk; have := hT k ht; omega
theorem own_one {w : World} {B : Nat} {e : TypeId} {sz : Nat} {v : Value} {cl : List Value} (h : Own w B e sz v cl) : v.oneCell' = true := by
  rcases h with ⟨rfl, _⟩ | ⟨g, off, n, cap, cs, rfl, _⟩ <;> rfl
theorem ret_nil {α : Type} (R : Rep α) (T : Nat → Prop) (W w : World) (rs : List Res) (e : TypeId) : OwnR R T W w rs e (.slice none 0 0) [] [] :=
  ⟨Own.nil_ _ _ _ _, fun k hk => by simp [Value.ownBlock] at hk, RowsOk.nil_ _ _ _⟩
def ibit (op : BinOp) (k : IntKind) (x y : Int) : Int :=
  let a := BitVec.ofInt k.bits x
  let b := BitVec.ofInt k.bits y
  match op with
  | .and => k.wrap (a &&& b).toNat
  | .or => k.wrap (a ||| b).toNat
  | .xor => k.wrap (a ^^^ b).toNat
  | _ => k.wrap (a &&& ~~~b).toNat
def bitOp : BinOp → Bool
  | .and | .or | .xor | .andNot => true
  | _ => false
section
variable {P : Program} {W : World} {M T E : Nat → Prop} {n : Nat} {G G' : List (Nat × Value)} {D D' rs : List Res} {F F' : List Fact} {a : Act} {w w' : World} {K : Act → World → Prop} {Q : Exit → Act → World → Prop}
theorem St.retOwn {α : Type} {R : Rep α} {v : Value} {e : TypeId} {cl : List Value} {xs : List α} (h : St W No T n G D F a w) (hi : InD D rs) (i : Nat) (hd : D[i]? = some (.own v e R.size cl)) (j : Nat) (hj : F[j]? = some (RowsF R cl xs)) : OwnR R T W w rs e v cl xs := by
  have hm := List.mem_of_getElem? hd
  exact ⟨(h.own _ hm).1, fun k hk => (h.free _ hm k hk).2.resolve_left fun h => h, (h.get j hj : RowsOk R (dT T D) w cl xs).keep (Kt.refl _ _) fun k hk => .inl (hi.sub k hk)⟩
theorem St.apart2 {v v2 : Value} {e e2 : TypeId} {sz sz2 : Nat} {cl cl2 : List Value} (h : St W M T n G D F a w) (i : Nat) (hi : D[i]? = some (.own v e sz cl)) (j : Nat) (hj : D[j]? = some (.own v2 e2 sz2 cl2)) (hij : i ≠ j) : ∀ k, v.ownBlock = some k → v2.ownBlock ≠ some k := by
  intro k hk hk2
  obtain ⟨l1, e1⟩ := List.getElem?_eq_some_iff.1 hi
  obtain ⟨l2, e2⟩ := List.getElem?_eq_some_iff.1 hj
  rcases Nat.lt_or_gt_of_ne hij with hlt | hlt
  · exact List.pairwise_iff_getElem.1 h.apart i j l1 l2 hlt k (by rw [e1]; exact hk) (by rw [e2]; exact hk2)
  · exact List.pairwise_iff_getElem.1 h.apart j i l2 l1 hlt k (by rw [e2]; exact hk2) (by rw [e1]; exact hk)
theorem SubD.mem {D rs : List Res} {is : List Nat} (h : SubD D is rs) : ∀ r ∈ rs, r ∈ D := fun r hr => by
  obtain ⟨i, _, hi⟩ := h.get r hr; exact List.mem_of_getElem? hi
theorem y_conv {d : Option Nat} {s t : TypeId} {x : Operand} {ty : TypeId} {pos : String} {af : Array Edge} {g : Option (Nat × Bool)} {k k' ks : IntKind} {p : Int} (hS : St W M T n G D F a w) (hx : ev G x = some (.int k p)) (hs : P.underlying s = some (.int ks)) (ht : P.underlying t = some (.int k')) : Ye P ⟨d, .convert s t x, ty, pos, af, g⟩ a E w (.int k' (k'.wrap p)) :=
  Ye.of fun w => by
    simp [execOp, hS.ev hx, convert, run_underlying hs, run_underlying ht, Conv.intToInt]
/-- a part of a slice, in a region that draws -/
theorem d_sub {α : Type} {R : Rep α} {xs ys : List α} {e t : TypeId} {v : Value} {lo hi : Int} {ag : Bool} (hS : St W M T n G D F a w) (ht : isSl P t = some e) (he : tyI P e = some (ag, R.size)) (j : Nat) (hj : F[j]? = some (SlF R v xs)) (hg : subI xs lo hi = some ys) :
    ∃ v', (∀ {E : Nat → Prop} {d : Option Nat} {ty : TypeId} {X : Operand} {olo ohi : Option Operand} {pos : String} {af : Array Edge} {g : Option (Nat × Bool)} {k1 k2 : IntKind}, ev G X = some v → ((∃ x, olo = some x ∧ ev G x = some (.int k1 lo)) ∨ (olo = none ∧ lo = 0)) → ((∃ x, ohi = some x ∧ ev G x = some (.int k2 hi)) ∨ (ohi = none ∧ hi = xs.length)) → Ye P ⟨d, .slice t X olo ohi none, ty, pos, af, g⟩ a E w v') ∧ St W M T n G D (SlF R v' ys :: F) a w := by
  obtain ⟨q1, q2, q3, rfl⟩ := subI_some hg
  have hsl : SlR R (dT T D) w v xs := hS.get j hj
  obtain ⟨A, c, rfl, p1, p2⟩ := hsl.len
  refine ⟨.slice (if c = lo.toNat then A else A.map (·.add (lo.toNat * R.size))) (hi.toNat - lo.toNat) (c - lo.toNat), ?_, hS.fact _ (hsl.cut (by omega) (by omega) _ (fun hlt b o hA => ?_))⟩
  · intro E d ty X olo ohi pos af g k1 k2 hX hlo hhi
    refine Ye.of fun w => ?_
    have hb := run_bounds (P := P) (isS := true) (k1 := k1) (k2 := k2) q1 q2 q3 p1 w (olo.map a.eval) (ohi.map a.eval)
      (by rcases hlo with ⟨x, rfl, hx⟩ | ⟨rfl, rfl⟩
          · exact .inl (by rw [Option.map_some, hS.ev hx])
          · exact .inr ⟨rfl, rfl⟩)
      (by rcases hhi with ⟨x, rfl, hx⟩ | ⟨rfl, rfl⟩
          · exact .inl (by rw [Option.map_some, hS.ev hx])
          · exact .inr ⟨rfl, rfl⟩)
    simp [execOp, Instr.sliceAt, Instr.slice, run_underlying (isSl_und ht), hS.ev hX, hb, run_size he]
  · rw [if_neg (by omega), hA]
    simp [addr_add]
theorem y_max {d : Option Nat} {x y : Operand} {tys : Array TypeId} {ty : TypeId} {pos : String} {af : Array Edge} {g : Option (Nat × Bool)} {k : IntKind} {p q : Int} (hS : St W M T n G D F a w) (hx : ev G x = some (.int k p)) (hy : ev G y = some (.int k q)) : Ye P ⟨d, .call { callee := .builtin .max, args := #[x, y], argTypes := tys }, ty, pos, af, g⟩ a E w (.int k (max p q)) :=
  Ye.of fun w => by
    have h : (if q > p then q else p) = max p q := by rw [Int.max_def]; split <;> split <;> omega
    simp only [execOp, resolve, invoke, builtin, Sem.run_bind, Sem.run_pure, Result.andThen_ok, List.map_toArray, List.map_cons, List.map_nil, hS.ev hx, hS.ev hy, Builtin.max_, List.foldlM_cons, List.foldlM_nil, Builtin.max2, h]
theorem y_min {d : Option Nat} {x y : Operand} {tys : Array TypeId} {ty : TypeId} {pos : String} {af : Array Edge} {g : Option (Nat × Bool)} {k : IntKind} {p q : Int} (hS : St W M T n G D F a w) (hx : ev G x = some (.int k p)) (hy : ev G y = some (.int k q)) : Ye P ⟨d, .call { callee := .builtin .min, args := #[x, y], argTypes := tys }, ty, pos, af, g⟩ a E w (.int k (min p q)) :=
  Ye.of fun w => by
    have h : (if q < p then q else p) = min p q := by rw [Int.min_def]; split <;> split <;> omega
    simp only [execOp, resolve, invoke, builtin, Sem.run_bind, Sem.run_pure, Result.andThen_ok, List.map_toArray, List.map_cons, List.map_nil, hS.ev hx, hS.ev hy, Builtin.min_, List.foldlM_cons, List.foldlM_nil, Builtin.min2, h]
theorem y_bits {d : Option Nat} {op : BinOp} {t t' : TypeId} {x y : Operand} {ty : TypeId} {pos : String} {af : Array Edge} {g : Option (Nat × Bool)} {k : IntKind} {p q : Int} (hS : St W M T n G D F a w)
    (hx : ev G x = some (.int k p)) (hy : ev G y = some (.int k q)) (hv : bitOp op = true) : Ye P ⟨d, .binOp op t x y t', ty, pos, af, g⟩ a E w (.int k (ibit op k p q)) :=
  Ye.of fun w => by
    have h1 := hS.ev hx
    have h2 := hS.ev hy
    cases op <;> simp only [bitOp, reduceCtorEq] at hv <;> simp [execOp, h1, h2, eqGuard, binOp, Op.intBits, ibit]
theorem y_bool {d : Option Nat} {op : BinOp} {t t' : TypeId} {x y : Operand} {ty : TypeId} {pos : String} {af : Array Edge} {g : Option (Nat × Bool)} {p q : Bool} (hS : St W M T n G D F a w)
    (hx : ev G x = some (.bool p)) (hy : ev G y = some (.bool q)) (ht : P.underlying t = some .bool) {v : Bool} (hv : (op = .eql ∧ v = (p == q)) ∨ (op = .neq ∧ v = (p != q))) : Ye P ⟨d, .binOp op t x y t', ty, pos, af, g⟩ a E w (.bool v) :=
  Ye.of fun w => by
    have h1 := hS.ev hx
    have h2 := hS.ev hy
    have h3 := run_equal_bool (P := P) w t p q ht
    rcases hv with ⟨rfl, rfl⟩ | ⟨rfl, rfl⟩ <;> simp [execOp, h1, h2, eqGuard, binOp, h3]
    cases p <;> cases q <;> rfl
end
end Go.Proofs.YtpbbnkpplcnaoaaGreatDoor

/- A frame for walks: elements of rows of the call's own; variables behind pointers; errors. -/
set_option linter.unusedVariables false
set_option linter.unusedSimpArgs false
namespace Go.Proofs.YtpbbnkpplcnaoaaGreatDoor
open Go.RowKit

theorem nw0 {T : Nat → Prop} (w : World) : Nw T (dT T []) w := fun k hk => .inl (by rcases hk with hk | ⟨r, hr, _⟩; exact hk; cases hr)
def ErrIs (er : Value) (b : Bool) : Prop := (b = false ∧ er = .nilIface) ∨ (b = true ∧ ∃ t v, er = .iface t v)
section
variable {P : Program} {W : World} {M T E : Nat → Prop} {n : Nat} {G G' : List (Nat × Value)} {D D' rs : List Res} {F F' : List Fact} {a : Act} {w w' : World} {K : Act → World → Prop} {Q : Exit → Act → World → Prop}
theorem y_errne {d : Option Nat} {t t' : TypeId} {x : Operand} {ty : TypeId} {pos : String} {af : Array Edge} {g : Option (Nat × Bool)} {er : Value} {b : Bool} (hS : St W M T n G D F a w)
    (hx : ev G x = some er) (he : ErrIs er b) (ht : P.underlying t = some (.interface (P.methodsAt t))) : Ye P ⟨d, .binOp .neq t x (.const .nilIface) t', ty, pos, af, g⟩ a E w (.bool b) :=
  Ye.of fun w => by
    have h1 := hS.ev hx
    have hc : a.eval (.const .nilIface) = .nilIface := rfl
    rcases he with ⟨rfl, rfl⟩ | ⟨rfl, tt, vv, rfl⟩
    · have h3 := run_equal_nil_nil (P := P) w t ht
      simp only [execOp, h1, hc, eqGuard, binOp]
      simp [h3]
    · have h3 := run_equal_held_nil (P := P) w t tt vv ht
      simp only [execOp, h1, hc, eqGuard, binOp]
      simp [h3]
theorem y_erreq {d : Option Nat} {t t' : TypeId} {x : Operand} {ty : TypeId} {pos : String} {af : Array Edge} {g : Option (Nat × Bool)} {er : Value} {b : Bool} (hS : St W M T n G D F a w)
    (hx : ev G x = some er) (he : ErrIs er b) (ht : P.underlying t = some (.interface (P.methodsAt t))) : Ye P ⟨d, .binOp .eql t x (.const .nilIface) t', ty, pos, af, g⟩ a E w (.bool !b) :=
  Ye.of fun w => by
    have h1 := hS.ev hx
    have hc : a.eval (.const .nilIface) = .nilIface := rfl
    rcases he with ⟨rfl, rfl⟩ | ⟨rfl, tt, vv, rfl⟩
    · have h3 := run_equal_nil_nil (P := P) w t ht
      simp only [execOp, h1, hc, eqGuard, binOp]
      simp [h3]
    · have h3 := run_equal_held_nil (P := P) w t tt vv ht
      simp only [execOp, h1, hc, eqGuard, binOp]
      simp [h3]
/-- is a slice nil? only an empty one can be -/
theorem y_slnil {α : Type} {R : Rep α} {xs : List α} {v : Value} {t e : TypeId} (hS : St W M T n G D F a w) (ht : isSl P t = some e) (i : Nat) (hi : F[i]? = some (SlF R v xs)) :
    ∃ b : Bool, (b = true → xs = []) ∧ (∀ {E : Nat → Prop} {d : Option Nat} {ty : TypeId} {x : Operand} {t' : TypeId} {pos : String} {af : Array Edge} {g : Option (Nat × Bool)}, ev G x = some v → Ye P ⟨d, .binOp .eql t x (.const (.slice none 0 0)) t', ty, pos, af, g⟩ a E w (.bool b)) ∧ (∀ {E : Nat → Prop} {d : Option Nat} {ty : TypeId} {x : Operand} {t' : TypeId} {pos : String} {af : Array Edge} {g : Option (Nat × Bool)}, ev G x = some v → Ye P ⟨d, .binOp .neq t x (.const (.slice none 0 0)) t', ty, pos, af, g⟩ a E w (.bool !b)) := by
  obtain ⟨A, c, rfl, h1, h2, h3⟩ : SlR R (dT T D) w v xs := hS.get i hi
  refine ⟨A.isNone, fun hb => ?_, fun {E d ty x t' pos af g} hx => Ye.of fun w => ?_, fun {E d ty x t' pos af g} hx => Ye.of fun w => ?_⟩
  · rcases h3 with h3 | ⟨b, off, rfl, _⟩
    · exact h3
    · cases hb
  · have h4 := hS.ev hx
    have hc : a.eval (.const (.slice none 0 0)) = .slice none 0 0 := rfl
    have h5 := run_equal_slice_nil (P := P) w t e A xs.length c (isSl_und ht)
    simp only [execOp, h4, hc, eqGuard, binOp]
    simp [h5]
  · have h4 := hS.ev hx
    have hc : a.eval (.const (.slice none 0 0)) = .slice none 0 0 := rfl
    have h5 := run_equal_slice_nil (P := P) w t e A xs.length c (isSl_und ht)
    simp only [execOp, h4, hc, eqGuard, binOp]
    simp [h5]
/-- an empty literal -/
theorem k_bslice0 {α : Type} (R : Rep α) {d : Nat} {t e ty : TypeId} {pos : String} {af : Array Edge} {g : Option (Nat × Bool)} {bt : Nat} (hS : St W M T n G D F a w) (he : elI P t = some (e, R.size, bt)) (hn : Nat.blt d n = true)
    (k : ∀ v' a w', Kt No w w' → St W M T n ((d, v') :: G) (.own v' e R.size [] :: D) (RowsF R [] [] :: F) a w' → K a w') : OpK P ⟨some d, .buildSlice t 0 #[], ty, pos, af, g⟩ a w K := by
  obtain ⟨ht, ⟨i, z, hi, hz0, hsz, hby, hzc⟩, hpos⟩ := elI_el he
  have hr : (execOp a.eval ⟨some d, .buildSlice t 0 #[], ty, pos, af, g⟩).run P w = .ok (.value (.slice (some ⟨w.heap.size, 0, none⟩) 0 0)) (w.alloc (.cells #[] e)) := by
    simp [execOp, Instr.buildSlice, run_underlying ht, sizeOf, typeInfo, hi, Instr.fill, newRow, Array.range_zero']
  have hown : Own (w.alloc (.cells #[] e)) 0 e R.size (.slice (some ⟨w.heap.size, 0, none⟩) 0 0) [] := Own.made w 0 e R.size #[] 0 (Nat.zero_le _) (by simp) (Nat.zero_le _)
  have h2 := hS.fact (RowsF R [] []) (RowsOk.nil_ _ _ _)
  exact kval hr (k _ _ _ (Kt.alloc _ _) ((h2.add (Kt.alloc _ _) (.own (.slice (some ⟨w.heap.size, 0, none⟩) 0 0) e R.size []) ⟨hown, hpos⟩ (fun j hj => by simp only [Res.dom, Value.ownBlock, Option.some.injEq] at hj; omega)).put hn _))
/-- an element of an own row: where it lies -/
def Oel (v : Value) (b o sz : Nat) (i : Int) (p : Nat) : Prop := ∃ off m c, v = .slice (some ⟨b, off, none⟩) m c ∧ o = off + i.toNat * sz ∧ p = i.toNat * sz
theorem oel_dom {v : Value} {b o sz p e : Nat} {i : Int} {sz2 : Nat} {cl : List Value} (h : Oel v b o sz i p) : (Res.own v e sz2 cl).dom b := by obtain ⟨off, m, c, rfl, _, _⟩ := h; rfl
theorem own_get {α : Type} {R : Rep α} {v : Value} {e : TypeId} {cl : List Value} {xs : List α} {i : Int} {x : α} (hS : St W M T n G D F a w) (q : Nat) (hq : D[q]? = some (.own v e R.size cl)) (j : Nat) (hj : F[j]? = some (RowsF R cl xs)) (hg : getI xs i = some x) :
    ∃ b off c, v = .slice (some ⟨b, off, none⟩) xs.length c ∧ ∃ cs, R.rel (dT T D) w cs x ∧ (∀ k u, cs[k]? = some u → cl[i.toNat * R.size + k]? = some u) := by
  obtain ⟨q1, q2, q3⟩ := getI_some hg
  obtain ⟨hown, hsz⟩ := hS.own _ (List.mem_of_getElem? hq)
  have hrow : RowsOk R (dT T D) w cl xs := hS.get j hj
  obtain ⟨cs, h1, h2⟩ := hrow.2 _ _ q3
  rcases hown with ⟨rfl, rfl⟩ | ⟨gb, off, m, cap, row, rfl, p1, p2, p3, p4, p5, p6, p7⟩
  · have h0 : xs.length * R.size = 0 := hrow.1.symm
    rcases Nat.mul_eq_zero.1 h0 with h | h <;> omega
  · have hm : m = xs.length := Nat.mul_right_cancel hsz (p1.symm.trans hrow.1)
    subst hm
    exact ⟨gb, off, cap, rfl, cs, h1, h2⟩
theorem k_indexo {α : Type} {R : Rep α} {xs : List α} {x : α} {d : Nat} {t e e' ty : TypeId} {X Y : Operand} {pos : String} {af : Array Edge} {g : Option (Nat × Bool)} {v : Value} {cl : List Value} {k : IntKind} {i : Int} {ag : Bool} (hS : St W M T n G D F a w) (ht : isSl P t = some e) (he : tyI P e = some (ag, R.size)) (hX : ev G X = some v) (hY : ev G Y = some (.int k i)) (q : Nat) (hq : D[q]? = some (.own v e' R.size cl)) (j : Nat) (hj : F[j]? = some (RowsF R cl xs)) (hg : getI xs i = some x) (hn : Nat.blt d n = true)
    (K' : ∀ b o p cs, R.rel (dT T D) w cs x → Oel v b o R.size i p → (∀ k u, cs[k]? = some u → cl[p + k]? = some u) → ∀ a, St W M T n ((d, .pointer (some ⟨b, o, none⟩)) :: G) D F a w → K a w) : OpK P ⟨some d, .indexAddr t X Y, ty, pos, af, g⟩ a w K := by
  obtain ⟨b, off, c, rfl, cs, h1, h2⟩ := own_get hS q hq j hj hg
  obtain ⟨q1, q2, _⟩ := getI_some hg
  have hr : (execOp a.eval ⟨some d, .indexAddr t X Y, ty, pos, af, g⟩).run P w = .ok (.value (.pointer (some ⟨b, off + i.toNat * R.size, none⟩))) w := by simp [execOp, hS.ev hX, hS.ev hY, run_indexAt ht he q1 q2]
  exact kval hr (K' b _ _ cs h1 ⟨off, _, _, rfl, rfl, rfl⟩ h2 _ (hS.put hn _))
theorem d_indexo {α : Type} {R : Rep α} {xs : List α} {x : α} {t e e' : TypeId} {v : Value} {cl : List Value} {i : Int} {ag : Bool} (hS : St W M T n G D F a w) (ht : isSl P t = some e) (he : tyI P e = some (ag, R.size)) (q : Nat) (hq : D[q]? = some (.own v e' R.size cl)) (j : Nat) (hj : F[j]? = some (RowsF R cl xs)) (hg : getI xs i = some x) :
    ∃ b o p cs, R.rel (dT T D) w cs x ∧ Oel v b o R.size i p ∧ (∀ k u, cs[k]? = some u → cl[p + k]? = some u) ∧ (∀ {E : Nat → Prop} {d : Option Nat} {ty : TypeId} {X Y : Operand} {pos : String} {af : Array Edge} {g : Option (Nat × Bool)} {k : IntKind}, ev G X = some v → ev G Y = some (.int k i) → Ye P ⟨d, .indexAddr t X Y, ty, pos, af, g⟩ a E w (.pointer (some ⟨b, o, none⟩))) := by
  obtain ⟨b, off, c, rfl, cs, h1, h2⟩ := own_get hS q hq j hj hg
  obtain ⟨q1, q2, _⟩ := getI_some hg
  exact ⟨b, _, _, cs, h1, ⟨off, _, _, rfl, rfl, rfl⟩, h2, fun hX hY => Ye.of fun w => by simp [execOp, hS.ev hX, hS.ev hY, run_indexAt ht he q1 q2]⟩
/-- a load from an element of an own row -/
theorem y_loado {d : Option Nat} {t ty e : TypeId} {x : Operand} {pos : String} {af : Array Edge} {g : Option (Nat × Bool)} {ag : Bool} {z b o k p sz : Nat} {v : Value} {cl cs us : List Value} {i : Int} (hS : St W M T n G D F a w) (ht : tyI P t = some (ag, z)) (q : Nat) (hq : D[q]? = some (.own v e sz cl)) (ho : Oel v b o sz i p) (hc : ∀ k u, cs[k]? = some u → cl[p + k]? = some u) (hx : ev G x = some (.pointer (some ⟨b, o + k, none⟩))) (hE : ¬ E b)
    (hu : (cs.drop k).take z = us) (hl : us.length = z) (hz : ag = false → z = 1) : Ye P ⟨d, .load t x, ty, pos, af, g⟩ a E w (valOf ag us) := fun w' hk => by
  obtain ⟨hown, hsz⟩ := hS.own _ (List.mem_of_getElem? hq)
  obtain ⟨off, m, c, rfl, rfl, rfl⟩ := ho
  rcases hown with ⟨h, _⟩ | ⟨gb, off', m', cap, row, h, p1, p2, p3, p4, p5, p6, p7⟩
  · cases h
  · injection h with h1 h2 h3
    injection h1 with h1
    injection h1 with h1 h4
    subst h1 h4
    have hr' := p3.eqb (hk.block b p3.lt hE)
    have := run_loadAt (P := P) (b := b) (o := off + i.toNat * sz + k) ht hl hz w' (fun j u hj => by
      rw [hr'.cell]
      rw [← hu, List.getElem?_take] at hj
      split at hj
      · rw [List.getElem?_drop] at hj
        have := p7 _ u (hc _ u hj)
        rwa [show off + (i.toNat * sz + (k + j)) = off + i.toNat * sz + k + j by omega] at this
      · cases hj)
    simp [execOp, hS.ev hx, this]
theorem run_store_cells {t : TypeId} {ag : Bool} {z : Nat} (ht : tyI P t = some (ag, z)) {b o : Nat} {row : Array Value} {e : TypeId} {v : Value} (hr : Row w b row e) (hz : v.cells.toList.length = z) (hl : o + z ≤ row.size) (h1 : ∀ u ∈ v.cells.toList, u.oneCell' = true) :
    ∃ row' : Array Value, (Instr.storeAt t (.pointer (some ⟨b, o, none⟩)) v).run P w = .ok () (w.setCells b o v.cells.toList) ∧ Row (w.setCells b o v.cells.toList) b row' e ∧ row'.size = row.size ∧ ∀ y, row'[y]? = if o ≤ y ∧ y < o + z then v.cells.toList[y - o]? else row[y]? := by
  have h2 := run_storeCells_cells (P := P) b o v.cells.toList 0 w (fun j hj => by rw [Nat.add_zero, hr.cell, Array.getElem?_eq_getElem (by omega)]; rfl) (fun j hj => by rw [Nat.add_zero]; exact hr.free (by omega)) h1
  simp only [Nat.add_zero] at h2
  have h3 : v.cells.size = z := by rw [← hz]; simp
  obtain ⟨fz, hg0, hfz⟩ := id hr
  obtain ⟨row', c1, c2, c3, c4⟩ := setCells_block b e fz v.cells.toList o w row hg0
  refine ⟨row', by simp [Instr.storeAt, Instr.sureAddr, storeVar, run_size ht, h3, h2], ⟨fz, c1, by rw [c2]; exact hfz⟩, c2, fun y => ?_⟩
  by_cases hy : o ≤ y ∧ y < o + z
  · rw [if_pos hy]
    have hj : y - o < v.cells.toList.length := by omega
    have := c4 (by omega) (y - o) _ (List.getElem?_eq_getElem hj)
    rw [show o + (y - o) = y by omega] at this
    rw [this, List.getElem?_eq_getElem hj]
  · rw [if_neg hy]
    exact c3 y (by omega)
theorem setL_get (cs us : List Value) (o j : Nat) (hl : o + us.length ≤ cs.length) : (setL cs o us)[j]? = if o ≤ j ∧ j < o + us.length then us[j - o]? else cs[j]? := by
  unfold setL
  rw [List.append_assoc, List.getElem?_append, List.length_take, Nat.min_eq_left (by omega)]
  by_cases h1 : j < o
  · rw [if_pos h1, List.getElem?_take, if_pos h1, if_neg (by omega)]
  · rw [if_neg h1, List.getElem?_append]
    by_cases h2 : j < o + us.length
    · rw [if_pos (by omega), if_pos ⟨by omega, h2⟩]
    · rw [if_neg (by omega), if_neg (by omega), List.getElem?_drop]
      congr 1; omega
/-- a store into an element of an own row -/
theorem k_storeo {α : Type} {R : Rep α} {xs : List α} {x x' : α} {t ty e : TypeId} {X Y : Operand} {pos : String} {af : Array Edge} {g : Option (Nat × Bool)} {ag : Bool} {z b o k p : Nat} {v u : Value} {cl cs us : List Value} {i : Int} (hS : St W M T n G D F a w) (hX : ev G X = some (.pointer (some ⟨b, o + k, none⟩))) (hY : ev G Y = some u) (hu : u.cells.toList = us) (ht : tyI P t = some (ag, z)) (q : Nat) (hq : D[q]? = some (.own v e R.size cl)) (j : Nat) (hj : F[j]? = some (RowsF R cl xs)) (ho : Oel v b o R.size i p) (hc : ∀ k u, cs[k]? = some u → cl[p + k]? = some u) (hg : getI xs i = some x) (hrel : R.rel (dT T D) w cs x)
    (hz : us.length = z) (hl : Nat.ble (k + z) cs.length = true) (hnew : R.rel (dT T D) w (setL cs k us) x')
    (K' : ∀ cl' w', Kt (fun j => v.ownBlock = some j) w w' → St W M T n G (D.set q (.own v e R.size cl')) (RowsF R cl' (xs.set i.toNat x') :: F) a w' → K a w') : OpK P ⟨none, .store t X Y, ty, pos, af, g⟩ a w K := by
  have hmem := List.mem_of_getElem? hq
  obtain ⟨hown, hsz⟩ := hS.own _ hmem
  have hrow : RowsOk R (dT T D) w cl xs := hS.get j hj
  obtain ⟨q1, q2, q3⟩ := getI_some hg
  have hle := Nat.le_of_ble_eq_true hl
  have hcl := R.len hrel
  obtain ⟨off, m, c, rfl, rfl, rfl⟩ := ho
  rcases hown with ⟨h, _⟩ | ⟨gb, off', m', cap, row, h, p1, p2, p3, p4, p5, p6, p7⟩
  · cases h
  · injection h with h1 h2 h3
    injection h1 with h1
    injection h1 with h1 h4
    subst h1 h4 h2 h3
    have hm : m = xs.length := Nat.mul_right_cancel hsz (p1.symm.trans hrow.1)
    subst hm
    have hlt : i.toNat < xs.length := (List.getElem?_eq_some_iff.1 q3).1
    have hin : i.toNat * R.size + R.size ≤ xs.length * R.size := by
      have : (i.toNat + 1) * R.size ≤ xs.length * R.size := Nat.mul_le_mul_right _ hlt
      rw [Nat.add_mul] at this; omega
    have hcap : xs.length * R.size ≤ c * R.size := Nat.mul_le_mul_right _ p4
    have hone : ∀ y ∈ us, y.oneCell' = true := by
      intro y hy
      refine R.one hnew y ?_
      unfold setL
      exact List.mem_append_left _ (List.mem_append_right _ hy)
    subst hu
    have hz2 : u.cells.size = z := by rw [← hz]; simp
    obtain ⟨row', hst, hrow', hsz', hget⟩ := run_store_cells (P := P) (o := off + i.toNat * R.size + k) ht p3 hz (by omega) hone
    have hk : Kt (fun j => (Value.slice (some ⟨b, off, none⟩) xs.length c).ownBlock = some j) w (w.setCells b (off + i.toNat * R.size + k) u.cells.toList) := (Kt.setCells _ _ _ _).mono fun j h => by rw [h]; rfl
    have hclen := hrow.1
    have hown' : Own (w.setCells b (off + i.toNat * R.size + k) u.cells.toList) 0 e R.size (.slice (some ⟨b, off, none⟩) xs.length c) (setL cl (i.toNat * R.size + k) u.cells.toList) := by
      refine .inr ⟨b, off, xs.length, c, row', rfl, ?_, Nat.zero_le _, hrow', p4, p5, by rw [hsz']; exact p6, fun y v hv => ?_⟩
      · unfold setL; simp only [List.length_append, List.length_take, List.length_drop]; omega
      · rw [setL_get _ _ _ _ (by omega)] at hv
        rw [hget]
        by_cases hy : i.toNat * R.size + k ≤ y ∧ y < i.toNat * R.size + k + u.cells.toList.length
        · rw [if_pos hy] at hv
          rw [if_pos (by omega)]
          rw [show off + y - (off + i.toNat * R.size + k) = y - (i.toNat * R.size + k) by omega]; exact hv
        · rw [if_neg hy] at hv
          rw [if_neg (by omega)]
          exact p7 y v hv
    have hrows : RowsOk R (dT T D) w (setL cl (i.toNat * R.size + k) u.cells.toList) (xs.set i.toNat x') := by
      refine ⟨by unfold setL; simp only [List.length_append, List.length_take, List.length_drop, List.length_set]; omega, fun y z' hz' => ?_⟩
      rw [List.getElem?_set] at hz'
      by_cases hy : i.toNat = y
      · rw [if_pos hy, if_pos hlt] at hz'
        simp only [Option.some.injEq] at hz'
        subst hz' hy
        refine ⟨_, hnew, fun s v hv => ?_⟩
        rw [setL_get _ _ _ _ (by omega)] at hv ⊢
        by_cases hs : k ≤ s ∧ s < k + u.cells.toList.length
        · rw [if_pos hs] at hv
          rw [if_pos (by omega), show i.toNat * R.size + s - (i.toNat * R.size + k) = s - k by omega]; exact hv
        · rw [if_neg hs] at hv
          rw [if_neg (by omega)]
          exact hc s v hv
      · rw [if_neg hy] at hz'
        obtain ⟨ds, d1, d2⟩ := hrow.2 y z' hz'
        refine ⟨ds, d1, fun s v hv => ?_⟩
        have hsl : s < R.size := by rw [← R.len d1]; exact (List.getElem?_eq_some_iff.1 hv).1
        rw [setL_get _ _ _ _ (by omega), if_neg]
        · exact d2 s v hv
        · rintro ⟨r1, r2⟩
          rcases Nat.lt_or_gt_of_ne hy with hlt2 | hlt2
          · have : (i.toNat + 1) * R.size ≤ y * R.size := Nat.mul_le_mul_right _ hlt2
            rw [Nat.add_mul] at this; omega
          · have : (y + 1) * R.size ≤ i.toNat * R.size := Nat.mul_le_mul_right _ hlt2
            rw [Nat.add_mul] at this; omega
    have hS2 := hS.fact (RowsF R (setL cl (i.toNat * R.size + k) u.cells.toList) (xs.set i.toNat x')) hrows
    refine kskip (by simp [execOp, hS.ev hX, hS.ev hY, hst]) (K' (setL cl (i.toNat * R.size + k) u.cells.toList) _ hk ?_)
    exact hS2.turn hq hk (r' := .own (.slice (some ⟨b, off, none⟩) xs.length c) e R.size (setL cl (i.toNat * R.size + k) u.cells.toList)) ⟨hown', hsz⟩ (fun j hj => .inl hj)
theorem dT_in {T : Nat → Prop} {D : List Res} {i : Nat} {r : Res} (hi : D[i]? = some r) : ∀ k, dT (dT T (D.eraseIdx i)) [r] k ↔ dT T D k := by
  intro k
  constructor
  · rintro ((hk | ⟨s, hs, hk⟩) | ⟨s, hs, hk⟩)
    · exact .inl hk
    · exact .inr ⟨s, List.mem_of_mem_eraseIdx hs, hk⟩
    · rw [List.mem_singleton] at hs; subst hs; exact .inr ⟨s, List.mem_of_getElem? hi, hk⟩
  · rintro (hk | ⟨s, hs, hk⟩)
    · exact .inl (.inl hk)
    · obtain ⟨j, hj, e⟩ := List.getElem_of_mem hs
      by_cases hji : j = i
      · subst hji
        have : s = r := by rw [← e]; exact (List.getElem?_eq_some_iff.1 hi).2
        subst this; exact .inr ⟨_, List.mem_singleton.2 rfl, hk⟩
      · refine .inl (.inr ⟨s, ?_, hk⟩)
        rw [List.mem_iff_getElem?]
        rcases Nat.lt_or_gt_of_ne hji with h | h
        · exact ⟨j, by rw [List.getElem?_eraseIdx, if_pos h, ← e]; exact List.getElem?_eq_getElem hj⟩
        · exact ⟨j - 1, by rw [List.getElem?_eraseIdx, if_neg (by omega), show j - 1 + 1 = j by omega, ← e]; exact List.getElem?_eq_getElem hj⟩
/-- a variable that is handed to a callee: nobody else turns it -/
theorem St.notin {b : Nat} {cs : List Value} {t : TypeId} (h : St W M T n G D F a w) (i : Nat) (hi : D[i]? = some (.box b cs t)) : ¬ dT T (D.eraseIdx i) b := by
  rintro (hk | ⟨s, hs, hk⟩)
  · exact (h.free _ (List.mem_of_getElem? hi) b rfl).1 hk
  · obtain ⟨l1, e1⟩ := List.getElem?_eq_some_iff.1 hi
    obtain ⟨z, hz⟩ := List.mem_iff_getElem?.1 hs
    rw [List.getElem?_eraseIdx] at hz
    split at hz
    · rename_i hzi
      have hzl := (List.getElem?_eq_some_iff.1 hz).1
      have := List.pairwise_iff_getElem.1 h.apart z i hzl l1 hzi b (by rw [(List.getElem?_eq_some_iff.1 hz).2]; exact hk)
      rw [e1] at this; exact this rfl
    · have hzl := (List.getElem?_eq_some_iff.1 hz).1
      have := List.pairwise_iff_getElem.1 h.apart i (z + 1) l1 hzl (by omega) b (by rw [e1]; rfl)
      rw [(List.getElem?_eq_some_iff.1 hz).2] at this; exact this hk
theorem SlR.lent {α : Type} {R : Rep α} {v : Value} {xs : List α} {i : Nat} {r : Res} (hi : D[i]? = some r) (h : SlR R (dT T D) w v xs) : SlR R (dT (dT T (D.eraseIdx i)) [r]) w v xs :=
  h.sub fun k hk => .inl ((dT_in hi k).1 hk)
theorem SlR.back {α : Type} {R : Rep α} {v : Value} {xs : List α} {i : Nat} {r r' : Res} (hi : D[i]? = some r) (h : SlR R (dT (dT T (D.eraseIdx i)) [r']) w v xs) : SlR R (dT T (D.set i r')) w v xs := by
  refine h.sub fun k hk => .inl ?_
  have hl := (List.getElem?_eq_some_iff.1 hi).1
  have := (dT_in (T := T) (D := D.set i r') (i := i) (r := r') (by rw [List.getElem?_set_self hl]) k).2 hk
  rwa [List.eraseIdx_set_eq] at this
theorem LvSub {f : Fact} (h : St W M T n G D F a w) (i j : Nat) (hj : F[j]? = some f) : f.p (dT T (D.eraseIdx i)) w := h.lendF i j hj
theorem St.boxRow {b : Nat} {cs : List Value} {t : TypeId} (h : St W M T n G D F a w) (i : Nat) (hi : D[i]? = some (.box b cs t)) : w.heap[b]? = some (.cells cs.toArray t (0, 0)) := h.own _ (List.mem_of_getElem? hi)
theorem St.boxNew {b : Nat} {cs : List Value} {t : TypeId} (h : St W No T n G D F a w) (i : Nat) (hi : D[i]? = some (.box b cs t)) : W.heap.size ≤ b := (h.free _ (List.mem_of_getElem? hi) b rfl).2.resolve_left fun h => h
end
/-- a call begins, with variables that it may turn -/
theorem enterm {P : Program} {f : FuncId} {fn : Func} {c : Code} {args : List Value} {w : World} {R : Value → World → Prop} (hf : P.funcs[f]? = some fn) (hb : fn.body = some c)
    (T : Nat → Prop) (n : Nat) (hn : fn.ntmps = n) (hT : ∀ k, T k → k < w.heap.size) (hl : Nat.ble args.length n = true) {b : Nat} {cs : List Value} {t : TypeId} (hrow : w.heap[b]? = some (.cells cs.toArray t (0, 0))) (hTb : ¬ T b)
    (h : ∀ a, St w (fun k => k = b) T n (argSlots 0 args) [.box b cs t] [] a w → c.wp P (bodyPost P fn (Ret (fun k => k = b) w R)) a w) : Rets P (fun k => k = b) f args w R := by
  refine calls_of_wp hf hb (h _ ?_)
  subst hn
  have hS := St.start w (fun k => k = b) T fn.ntmps args hT (Nat.le_of_ble_eq_true hl) (argSlots 0 args) fun t v hv => by
    obtain ⟨h1, h2⟩ := lk_args args 0 t v hv
    simpa using h2
  exact ⟨hS.size, hS.defers, hS.slots, hS.base, fun r hr => by rw [List.mem_singleton] at hr; subst hr; exact hrow, fun r hr k hk => by
    rw [List.mem_singleton] at hr; subst hr
    simp only [Res.dom, Option.some.injEq] at hk
    subst hk; exact ⟨hTb, .inl rfl⟩, List.pairwise_singleton _ _, fun f hf => (by cases hf), hT⟩
section
variable {P : Program} {W : World} {M T : Nat → Prop} {n : Nat} {G : List (Nat × Value)} {D : List Res} {F : List Fact} {a : Act} {w : World} {K : Act → World → Prop}
theorem St.retOwnm {α : Type} {R : Rep α} {v : Value} {e b : Nat} {bt : TypeId} {cs : List Value} {cl : List Value} {xs : List α} {rs : List Res} (h : St W (fun k => k = b) T n G D F a w) (hi : InD D rs) (i : Nat) (hd : D[i]? = some (.own v e R.size cl)) (j : Nat) (hj : F[j]? = some (RowsF R cl xs)) (q : Nat) (hq : D[q]? = some (.box b cs bt)) (hne : i ≠ q) : OwnR R T W w rs e v cl xs := by
  have hm := List.mem_of_getElem? hd
  refine ⟨(h.own _ hm).1, fun k hk => (h.free _ hm k hk).2.resolve_left fun h2 => ?_, (h.get j hj : RowsOk R (dT T D) w cl xs).keep (Kt.refl _ _) fun k hk => .inl (hi.sub k hk)⟩
  exact eo_ne (l := []) h i hd hk q hq rfl hne eo_nil ⟨.blk (some b), List.mem_singleton.2 rfl, congrArg some h2.symm⟩
/-- one of the call's blocks is turned, and there are new rows -/
theorem St.turnAdds {w' : World} (h : St W M T n G D F a w) {i : Nat} {r r' : Res} (hi : D[i]? = some r) (k : Kt (fun j => r.dom j) w w') (hr : r'.ok w') (hd : ∀ j, r'.dom j → r.dom j)
    (rs : List Res) (h1 : ∀ r ∈ rs, r.ok w' ∧ ∀ k, r.dom k → w.heap.size ≤ k) (h2 : rs.Pairwise fun r s => ∀ k, r.dom k → ¬ s.dom k) : St W M T n G (rs ++ D.set i r') F a w' := by
  have hb := h.turn hi k hr (fun j hj => .inl (hd j hj))
  have hlt : ∀ s ∈ D.set i r', ∀ j, s.dom j → j < w.heap.size ∧ (dT T D) j := fun s hs j hj => by
    rcases List.mem_or_eq_of_mem_set hs with hs | rfl
    · exact ⟨Res.lt (h.own s hs) j hj, .inr ⟨s, hs, hj⟩⟩
    · exact ⟨Res.lt (h.own r (List.mem_of_getElem? hi)) j (hd j hj), .inr ⟨r, List.mem_of_getElem? hi, hd j hj⟩⟩
  refine ⟨hb.size, hb.defers, hb.slots, hb.base, ?_, ?_, ?_, fun f hf => f.keep (h.facts f hf) (k.mono fun j hj => .inr ⟨r, List.mem_of_getElem? hi, hj⟩) (fun j hj => ?_), hb.tlt⟩
  · intro s hs
    rcases List.mem_append.1 hs with hs | hs
    · exact (h1 s hs).1
    · exact hb.own s hs
  · intro s hs j hj
    rcases List.mem_append.1 hs with hs | hs
    · have := (h1 s hs).2 j hj
      refine ⟨fun ht => ?_, .inr ?_⟩
      · have := h.tlt j ht; omega
      · have := h.base.size; omega
    · exact hb.free s hs j hj
  · refine List.pairwise_append.2 ⟨h2, hb.apart, fun s hs u hu j hj hj2 => ?_⟩
    have := (h1 s hs).2 j hj
    have := (hlt u hu j hj2).1
    omega
  · rcases hj with hj | ⟨s, hs, hj⟩
    · exact .inl (.inl hj)
    · rcases List.mem_append.1 hs with hs | hs
      · exact .inr ((h1 s hs).2 j hj)
      · exact .inl (hlt s hs j hj).2
theorem Nw.back2 {i : Nat} {r r' : Res} (hi : D[i]? = some r) (rs : List Res) (w : World) : Nw (dT (dT T (D.eraseIdx i)) (rs ++ [r'])) (dT T (rs ++ D.set i r')) w := fun k hk => .inl (by
  rcases hk with hk | ⟨s, hs, hk⟩
  · exact .inl (.inl hk)
  · rcases List.mem_append.1 hs with hs | hs
    · exact .inr ⟨s, List.mem_append.2 (.inl hs), hk⟩
    · have hl := (List.getElem?_eq_some_iff.1 hi).1
      have := (dT_in (T := T) (D := D.set i r') (i := i) (r := r') (by rw [List.getElem?_set_self hl]) k).2 (.inr ⟨s, hs, hk⟩)
      rw [List.eraseIdx_set_eq] at this
      rcases this with this | ⟨u, hu, hk⟩
      · exact .inl this
      · exact .inr ⟨u, List.mem_append.2 (.inr hu), hk⟩)
/-- a function that turns a variable and returns new rows -/
theorem k_callmr {d : Nat} {ty : TypeId} {pos : String} {af : Array Edge} {g : Option (Nat × Bool)} {args : Array Operand} {tys : Array TypeId} {f : Nat} {vs : List Value} {R : Value → World → Prop} {b : Nat} {cs : List Value} {bt : TypeId} (hS : St W M T n G D F a w) (hf : callI P f = true) (hargs : evs G args.toList = some vs) (hn : Nat.blt d n = true) (i : Nat) (hi : D[i]? = some (.box b cs bt)) (hc : Rets P (fun k => k = b) f vs w R)
    (k : ∀ v w', R v w' → Kt (fun k => k = b) w w' → ∃ cs' rs, w'.heap[b]? = some (.cells cs'.toArray bt (0, 0)) ∧ (∀ r ∈ rs, r.ok w' ∧ ∀ k, r.dom k → w.heap.size ≤ k) ∧ (rs.Pairwise fun r s => ∀ k, r.dom k → ¬ s.dom k) ∧ ∀ a, St W M T n ((d, v) :: G) (rs ++ D.set i (.box b cs' bt)) F a w' → K a w') : OpK P ⟨some d, .call { callee := .value (.func f), args := args, argTypes := tys }, ty, pos, af, g⟩ a w K :=
  k_callF (cap := []) rfl hS rfl hf hargs (by rw [List.append_nil]; exact hc) fun v w' hk hr => by
    obtain ⟨cs', rs, h1, h2, h3, h4⟩ := k v w' hr hk
    exact h4 _ ((hS.turnAdds hi (hk.mono fun j hj => by simp [Res.dom, hj]) (r' := .box b cs' bt) h1 (fun j hj => hj) rs h2 h3).put hn v)
/-- a part of an own row, which takes its place -/
theorem RowsOk.cut {α : Type} {R : Rep α} {T : Nat → Prop} {w : World} {cl : List Value} {xs : List α} (h : RowsOk R T w cl xs) {l q : Nat} (h1 : l ≤ q) (h2 : q ≤ xs.length) : RowsOk R T w ((cl.take (q * R.size)).drop (l * R.size)) ((xs.take q).drop l) := by
  obtain ⟨a1, a2⟩ := h
  have hq : q * R.size ≤ xs.length * R.size := Nat.mul_le_mul_right _ h2
  refine ⟨by simp only [List.length_drop, List.length_take, a1]; rw [Nat.min_eq_left hq, Nat.min_eq_left h2, Nat.sub_mul], fun k x hx => ?_⟩
  rw [List.getElem?_drop, List.getElem?_take] at hx
  split at hx
  · rename_i hlt
    obtain ⟨cs, g1, g2⟩ := a2 _ x hx
    refine ⟨cs, g1, fun j u hu => ?_⟩
    have hj : j < R.size := by rw [← R.len g1]; exact (List.getElem?_eq_some_iff.1 hu).1
    have := g2 j u hu
    rw [List.getElem?_drop, List.getElem?_take, if_pos]
    · rwa [show l * R.size + (k * R.size + j) = (l + k) * R.size + j by rw [Nat.add_mul]; omega]
    · have : (l + k + 1) * R.size ≤ q * R.size := Nat.mul_le_mul_right _ (by omega)
      rw [Nat.add_mul, Nat.add_mul] at this
      omega
  · cases hx
theorem subo {α : Type} {R : Rep α} {xs : List α} {e : TypeId} {v : Value} {cl : List Value} {lo hi : Nat} (hS : St W M T n G D F a w) (q : Nat) (hq : D[q]? = some (.own v e R.size cl)) (j : Nat) (hj : F[j]? = some (RowsF R cl xs)) (h1 : lo ≤ hi) (h2 : hi ≤ xs.length) :
    ∃ A c, v = .slice A xs.length c ∧ xs.length ≤ c ∧ c ≤ maxLen ∧ St W M T n G (D.set q (.own (.slice (if c = lo then A else A.map (·.add (lo * R.size))) (hi - lo) (c - lo)) e R.size ((cl.take (hi * R.size)).drop (lo * R.size)))) (RowsF R ((cl.take (hi * R.size)).drop (lo * R.size)) ((xs.take hi).drop lo) :: F) a w := by
  obtain ⟨hown, hsz⟩ := hS.own _ (List.mem_of_getElem? hq)
  have hrow : RowsOk R (dT T D) w cl xs := hS.get j hj
  have hcut := hrow.cut h1 h2
  rcases hown with ⟨rfl, rfl⟩ | ⟨gb, off, m, cap, row, rfl, p1, p2, p3, p4, p5, p6, p7⟩
  · have h0 : xs.length = 0 := by
      have := hrow.1.symm
      rcases Nat.mul_eq_zero.1 this with h | h
      · exact h
      · omega
    have e1 : lo = 0 := by omega
    have e2 : hi = 0 := by omega
    subst e1 e2
    refine ⟨none, 0, by rw [h0], by omega, Nat.zero_le _, ?_⟩
    have hs := (hS.fact (RowsF R _ _) hcut).turn hq (w' := w) (Kt.refl _ _) (r' := .own (.slice none 0 0) e R.size []) ⟨.inl ⟨rfl, rfl⟩, hsz⟩ (fun k hk => .inl hk)
    simpa using hs
  · have hm : m = xs.length := Nat.mul_right_cancel hsz (p1.symm.trans hrow.1)
    subst hm
    refine ⟨some ⟨gb, off, none⟩, cap, rfl, p4, p5, ?_⟩
    refine (hS.fact (RowsF R _ _) hcut).turn hq (w' := w) (Kt.refl _ _) ⟨?_, hsz⟩ (fun k hk => .inl ?_)
    · have hA : (if cap = lo then (some ⟨gb, off, none⟩ : Option Addr) else (some (⟨gb, off, none⟩ : Addr)).map (·.add (lo * R.size))) = some ⟨gb, if cap = lo then off else off + lo * R.size, none⟩ := by
        split <;> simp [addr_add]
      rw [hA]
      refine .inr ⟨gb, _, _, _, row, rfl, ?_, p2, p3, by omega, by omega, ?_, ?_⟩
      · have hq2 : hi * R.size ≤ xs.length * R.size := Nat.mul_le_mul_right _ h2
        simp only [List.length_drop, List.length_take, p1]; rw [Nat.min_eq_left hq2, Nat.sub_mul]
      · split
        · rename_i hc; rw [hc, Nat.sub_self]; omega
        · have hle : lo * R.size ≤ cap * R.size := Nat.mul_le_mul_right _ (by omega)
          rw [Nat.sub_mul]; omega
      · intro k u hu
        rw [List.getElem?_drop, List.getElem?_take] at hu
        split at hu
        · rename_i hlt
          have hne : ¬ cap = lo := fun hc => by
            have : hi = lo := by omega
            subst this; omega
          rw [if_neg hne]
          have := p7 _ u hu
          rwa [show off + (lo * R.size + k) = off + lo * R.size + k by omega] at this
        · cases hu
    · revert hk
      simp only [Res.dom]
      split <;> simp [Value.ownBlock, addr_add]
theorem y_sl {v : Value} {t e : TypeId} {A : Option Addr} {m c sz : Nat} {lo hi : Int} {ag : Bool} (hS : St W M T n G D F a w) (ht : isSl P t = some e) (he : tyI P e = some (ag, sz)) (q1 : 0 ≤ lo) (q2 : lo ≤ hi) (q3 : hi ≤ m) (p1 : m ≤ c) (hv : v = .slice A m c) {E : Nat → Prop} {d : Option Nat} {ty : TypeId} {X : Operand} {olo ohi : Option Operand} {pos : String} {af : Array Edge} {g : Option (Nat × Bool)} {k1 k2 : IntKind} (hX : ev G X = some v) (hlo : (∃ x, olo = some x ∧ ev G x = some (.int k1 lo)) ∨ (olo = none ∧ lo = 0)) (hhi : (∃ x, ohi = some x ∧ ev G x = some (.int k2 hi)) ∨ (ohi = none ∧ hi = m)) :
    Ye P ⟨d, .slice t X olo ohi none, ty, pos, af, g⟩ a E w (.slice (if c = lo.toNat then A else A.map (·.add (lo.toNat * sz))) (hi.toNat - lo.toNat) (c - lo.toNat)) := by
  subst hv
  refine Ye.of fun w => ?_
  have hb := run_bounds (P := P) (isS := true) (k1 := k1) (k2 := k2) q1 q2 q3 p1 w (olo.map a.eval) (ohi.map a.eval)
    (by rcases hlo with ⟨x, rfl, hx⟩ | ⟨rfl, rfl⟩
        · exact .inl (by rw [Option.map_some, hS.ev hx])
        · exact .inr ⟨rfl, rfl⟩)
    (by rcases hhi with ⟨x, rfl, hx⟩ | ⟨rfl, rfl⟩
        · exact .inl (by rw [Option.map_some, hS.ev hx])
        · exact .inr ⟨rfl, rfl⟩)
  simp [execOp, Instr.sliceAt, Instr.slice, run_underlying (isSl_und ht), hS.ev hX, hb, run_size he]
theorem d_subo {α : Type} {R : Rep α} {xs ys : List α} {e e' t : TypeId} {v : Value} {cl : List Value} {lo hi : Int} {ag : Bool} (hS : St W M T n G D F a w) (ht : isSl P t = some e) (he : tyI P e = some (ag, R.size)) (q : Nat) (hq : D[q]? = some (.own v e' R.size cl)) (j : Nat) (hj : F[j]? = some (RowsF R cl xs)) (hg : subI xs lo hi = some ys) :
    ∃ v' cl', (∀ {E : Nat → Prop} {d : Option Nat} {ty : TypeId} {X : Operand} {olo ohi : Option Operand} {pos : String} {af : Array Edge} {g : Option (Nat × Bool)} {k1 k2 : IntKind}, ev G X = some v → ((∃ x, olo = some x ∧ ev G x = some (.int k1 lo)) ∨ (olo = none ∧ lo = 0)) → ((∃ x, ohi = some x ∧ ev G x = some (.int k2 hi)) ∨ (ohi = none ∧ hi = xs.length)) → Ye P ⟨d, .slice t X olo ohi none, ty, pos, af, g⟩ a E w v') ∧ St W M T n G (D.set q (.own v' e' R.size cl')) (RowsF R cl' ys :: F) a w := by
  obtain ⟨q1, q2, q3, rfl⟩ := subI_some hg
  obtain ⟨A, c, hv, h1, h2, hS'⟩ := subo (lo := lo.toNat) (hi := hi.toNat) hS q hq j hj (by omega) (by omega)
  exact ⟨_, _, fun hX hlo hhi => y_sl hS ht he q1 q2 q3 h1 hv hX hlo hhi, hS'⟩
/-- a part of an own row, which stays own -/
theorem d_view {α : Type} {R : Rep α} {xs ys : List α} {e e' t : TypeId} {v : Value} {cl : List Value} {lo hi : Int} {ag : Bool} (hS : St W M T n G D F a w) (ht : isSl P t = some e) (he : tyI P e = some (ag, R.size)) (q : Nat) (hq : D[q]? = some (.own v e' R.size cl)) (j : Nat) (hj : F[j]? = some (RowsF R cl xs)) (hg : subI xs lo hi = some ys) :
    ∃ v', (∀ (T : Nat → Prop) (w : World), SlR R T w v xs → SlR R T w v' ys) ∧ (∀ {E : Nat → Prop} {d : Option Nat} {ty : TypeId} {X : Operand} {olo ohi : Option Operand} {pos : String} {af : Array Edge} {g : Option (Nat × Bool)} {k1 k2 : IntKind}, ev G X = some v → ((∃ x, olo = some x ∧ ev G x = some (.int k1 lo)) ∨ (olo = none ∧ lo = 0)) → ((∃ x, ohi = some x ∧ ev G x = some (.int k2 hi)) ∨ (ohi = none ∧ hi = xs.length)) → Ye P ⟨d, .slice t X olo ohi none, ty, pos, af, g⟩ a E w v') := by
  obtain ⟨q1, q2, q3, rfl⟩ := subI_some hg
  obtain ⟨A, c, hv, h1, h2, hS'⟩ := subo (lo := lo.toNat) (hi := hi.toNat) hS q hq j hj (by omega) (by omega)
  refine ⟨_, fun T w h => ?_, fun hX hlo hhi => y_sl hS ht he q1 q2 q3 h1 hv hX hlo hhi⟩
  subst hv
  refine h.cut (by omega) (by omega) _ (fun hlt b o hA => ?_)
  rw [if_neg (by omega), hA]
  simp [addr_add]
theorem k_subo {α : Type} {R : Rep α} {xs ys : List α} {d : Nat} {t e e' ty : TypeId} {X : Operand} {olo ohi : Option Operand} {pos : String} {af : Array Edge} {g : Option (Nat × Bool)} {v : Value} {cl : List Value} {k1 k2 : IntKind} {lo hi : Int} {ag : Bool} (hS : St W M T n G D F a w) (ht : isSl P t = some e) (he : tyI P e = some (ag, R.size)) (hX : ev G X = some v) (hlo : (∃ x, olo = some x ∧ ev G x = some (.int k1 lo)) ∨ (olo = none ∧ lo = 0)) (hhi : (∃ x, ohi = some x ∧ ev G x = some (.int k2 hi)) ∨ (ohi = none ∧ hi = xs.length)) (q : Nat) (hq : D[q]? = some (.own v e' R.size cl)) (j : Nat) (hj : F[j]? = some (RowsF R cl xs)) (hg : subI xs lo hi = some ys) (hn : Nat.blt d n = true)
    (K' : ∀ v' cl' a, St W M T n ((d, v') :: G) (D.set q (.own v' e' R.size cl')) (RowsF R cl' ys :: F) a w → K a w) : OpK P ⟨some d, .slice t X olo ohi none, ty, pos, af, g⟩ a w K := by
  obtain ⟨v', cl', hy, hS'⟩ := d_subo hS ht he q hq j hj hg
  exact ky hS' (hy hX hlo hhi) rfl hn fun a h => K' _ _ a h
end
end Go.Proofs.YtpbbnkpplcnaoaaGreatDoor

/- A frame for walks: maps of a call's own. -/
set_option linter.unusedVariables false
set_option linter.unusedSimpArgs false
namespace Go.Proofs.YtpbbnkpplcnaoaaGreatDoor
open Go.RowKit

/-- a map's entries, read as pairs -/
def MapOk {κ ν : Type} (RK : Rep κ) (ak : Bool) (RV : Rep ν) (av : Bool) (T : Nat → Prop) (w : World) (es : Array MapEntry) (xs : List (κ × ν)) : Prop :=
  es.size = xs.length ∧ ∀ (i : Nat) (e : MapEntry) (x : κ × ν), es[i]? = some e → xs[i]? = some x → (∃ c, RK.rel T w c x.1 ∧ e.key = valOf ak c) ∧ ∃ c, RV.rel T w c x.2 ∧ e.val = valOf av c
theorem MapOk.keep {κ ν : Type} {RK : Rep κ} {ak : Bool} {RV : Rep ν} {av : Bool} {T T' : Nat → Prop} {w w' : World} {es : Array MapEntry} {xs : List (κ × ν)} (h : MapOk RK ak RV av T w es xs) (k : Kt T w w') (hn : Nw T T' w) : MapOk RK ak RV av T' w' es xs :=
  ⟨h.1, fun i e x he hx => by
    obtain ⟨⟨c, h1, h2⟩, d, h3, h4⟩ := h.2 i e x he hx
    exact ⟨⟨c, RK.keep h1 k hn, h2⟩, d, RV.keep h3 k hn, h4⟩⟩
def MapF {κ ν : Type} (RK : Rep κ) (ak : Bool) (RV : Rep ν) (av : Bool) (es : Array MapEntry) (xs : List (κ × ν)) : Fact := ⟨fun T w => MapOk RK ak RV av T w es xs, fun h k n => h.keep k n⟩
/-- where a key is -/
def mpos {κ ν : Type} (q : κ → κ → Bool) (k : κ) : List (κ × ν) → Option Nat
  | [] => none
  | x :: r => cond (q k x.1) (some 0) ((mpos q k r).map (· + 1))
/-- what lies at a key -/
def mget {κ ν : Type} (q : κ → κ → Bool) (k : κ) : List (κ × ν) → Option ν
  | [] => none
  | x :: r => cond (q k x.1) (some x.2) (mget q k r)
/-- a pair put in -/
def mput {κ ν : Type} (q : κ → κ → Bool) (k : κ) (v : ν) : List (κ × ν) → List (κ × ν)
  | [] => [(k, v)]
  | x :: r => cond (q k x.1) ((k, v) :: r) (x :: mput q k v r)
/-- a key taken out -/
def mdel {κ ν : Type} (q : κ → κ → Bool) (k : κ) : List (κ × ν) → List (κ × ν)
  | [] => []
  | x :: r => cond (q k x.1) r (x :: mdel q k r)
theorem mpos_none {κ ν : Type} {q : κ → κ → Bool} {k : κ} : ∀ {xs : List (κ × ν)}, mpos q k xs = none → mget q k xs = none ∧ (∀ v, mput q k v xs = xs ++ [(k, v)]) ∧ mdel q k xs = xs
  | [], _ => ⟨rfl, fun _ => rfl, rfl⟩
  | x :: r, h => by
    cases hq : q k x.1 with
    | true => simp [mpos, hq] at h
    | false =>
      simp only [mpos, hq, cond_false, Option.map_eq_none_iff] at h
      obtain ⟨h1, h2, h3⟩ := mpos_none h
      exact ⟨by simp [mget, hq, h1], fun v => by simp [mput, hq, h2], by simp [mdel, hq, h3]⟩
theorem mpos_some {κ ν : Type} {q : κ → κ → Bool} {k : κ} : ∀ {xs : List (κ × ν)} {i : Nat}, mpos q k xs = some i → ∃ x, xs[i]? = some x ∧ q k x.1 = true ∧ mget q k xs = some x.2 ∧ (∀ v, mput q k v xs = xs.set i (k, v)) ∧ mdel q k xs = xs.eraseIdx i
  | [], i, h => by simp [mpos] at h
  | x :: r, i, h => by
    cases hq : q k x.1 with
    | true =>
      simp only [mpos, hq, cond_true, Option.some.injEq] at h
      subst h
      exact ⟨x, rfl, hq, by simp [mget, hq], fun v => by simp [mput, hq], by simp [mdel, hq]⟩
    | false =>
      simp only [mpos, hq, cond_false, Option.map_eq_some_iff] at h
      obtain ⟨j, h1, rfl⟩ := h
      obtain ⟨y, g1, g2, g3, g4, g5⟩ := mpos_some h1
      exact ⟨y, by simpa using g1, g2, by simp [mget, hq, g3], fun v => by simp [mput, hq, g4], by simp [mdel, hq, g5]⟩
/-- a type whose values can be keys: how they are compared -/
structure KeyT {κ : Type} (P : Program) (t : TypeId) (RK : Rep κ) (ak : Bool) (q : κ → κ → Bool) : Prop where
  check : ∀ (b : Bool) (T : Nat → Prop) (w0 w : World) (c : List Value) (x : κ), RK.rel T w0 c x → (Instr.checkKey b 10000 t (valOf ak c)).run P w = .ok () w
  eq : ∀ (T T2 : Nat → Prop) (w0 w1 w : World) (c d : List Value) (x y : κ), RK.rel T w0 c x → RK.rel T2 w1 d y → (Op.equal t (valOf ak c) (valOf ak d)).run P w = .ok (q x y) w
  now : ∃ kind, P.underlying t = some kind ∧ ∀ (T T2 : Nat → Prop) (w0 w1 : World) (c d : List Value) (x y : κ), RK.rel T w0 c x → RK.rel T2 w1 d y → Instr.sameNow kind (valOf ak c) (valOf ak d) = none ∨ Instr.sameNow kind (valOf ak c) (valOf ak d) = some (q x y)
  bits : ∀ (T T2 : Nat → Prop) (w0 w1 : World) (c d : List Value) (x y : κ), RK.rel T w0 c x → RK.rel T2 w1 d y → q x y = true → Instr.sameBits 10000 (valOf ak d) (valOf ak c) = true
def atP (es : List MapEntry) (i0 : Nat) : Option Nat → Option (Nat × Value)
  | none => none
  | some j => (es[j]?).map fun e => (i0 + j, e.val)
theorem atP_succ (e : MapEntry) (es : List MapEntry) (i0 : Nat) (o : Option Nat) : atP (e :: es) i0 (o.map (· + 1)) = atP es (i0 + 1) o := by
  cases o with
  | none => rfl
  | some j => simp only [atP, Option.map_some, List.getElem?_cons_succ]; rw [show i0 + (j + 1) = i0 + 1 + j by omega]
section
variable {κ ν : Type} {P : Program} {t : TypeId} {RK : Rep κ} {ak : Bool} {q : κ → κ → Bool} {T T2 : Nat → Prop} {w0 w1 : World} {c : List Value} {k : κ}
theorem asking_run (hK : KeyT P t RK ak q) (hc : RK.rel T2 w1 c k) (w : World) : ∀ (es : List MapEntry) (xs : List (κ × ν)) (i0 : Nat), es.length = xs.length → (∀ (i : Nat) (e : MapEntry) (x : κ × ν), es[i]? = some e → xs[i]? = some x → ∃ c, RK.rel T w0 c x.1 ∧ e.key = valOf ak c) → (Instr.findAsking t (valOf ak c) es i0).run P w = .ok (atP es i0 (mpos q k xs)) w
  | [], [], i0, _, _ => rfl
  | [], _ :: _, i0, h, _ => by simp at h
  | _ :: _, [], i0, h, _ => by simp at h
  | e :: es, x :: xs, i0, h, hr => by
    obtain ⟨d, h1, h2⟩ := hr 0 e x rfl rfl
    have he := hK.eq _ _ _ _ w _ _ _ _ hc h1
    have ih := asking_run hK hc w es xs (i0 + 1) (by simpa using h) fun i e' x' a b => hr (i + 1) e' x' (by simpa using a) (by simpa using b)
    unfold Instr.findAsking
    rw [h2, Sem.run_bind, he, Result.andThen_ok]
    unfold mpos
    cases hq : q k x.1 with
    | true => simp [atP]
    | false =>
      rw [cond_false, atP_succ]
      simpa using ih
theorem now_run (hK : KeyT P t RK ak q) (hc : RK.rel T2 w1 c k) {kind : TypeDesc} (hn : ∀ (T T2 : Nat → Prop) (w0 w1 : World) (c d : List Value) (x y : κ), RK.rel T w0 c x → RK.rel T2 w1 d y → Instr.sameNow kind (valOf ak c) (valOf ak d) = none ∨ Instr.sameNow kind (valOf ak c) (valOf ak d) = some (q x y)) :
    ∀ (es : List MapEntry) (xs : List (κ × ν)) (i0 : Nat), es.length = xs.length → (∀ (i : Nat) (e : MapEntry) (x : κ × ν), es[i]? = some e → xs[i]? = some x → ∃ c, RK.rel T w0 c x.1 ∧ e.key = valOf ak c) → Instr.findNow kind (valOf ak c) es i0 = none ∨ Instr.findNow kind (valOf ak c) es i0 = some (atP es i0 (mpos q k xs))
  | [], [], i0, _, _ => .inr rfl
  | [], _ :: _, i0, h, _ => by simp at h
  | _ :: _, [], i0, h, _ => by simp at h
  | e :: es, x :: xs, i0, h, hr => by
    obtain ⟨d, h1, h2⟩ := hr 0 e x rfl rfl
    have ih := now_run hK hc hn es xs (i0 + 1) (by simpa using h) fun i e' x' a b => hr (i + 1) e' x' (by simpa using a) (by simpa using b)
    unfold Instr.findNow
    rw [h2]
    rcases hn _ _ _ _ _ _ _ _ hc h1 with h3 | h3
    · rw [h3]; exact .inl rfl
    · rw [h3]
      unfold mpos
      cases hq : q k x.1 with
      | true => right; simp [atP]
      | false => rw [cond_false, atP_succ]; exact ih
theorem find_run (hK : KeyT P t RK ak q) (hc : RK.rel T2 w1 c k) (w : World) {es : List MapEntry} {xs : List (κ × ν)} (h : es.length = xs.length) (hr : ∀ (i : Nat) (e : MapEntry) (x : κ × ν), es[i]? = some e → xs[i]? = some x → ∃ c, RK.rel T w0 c x.1 ∧ e.key = valOf ak c) : (Instr.findKey t (valOf ak c) es).run P w = .ok (atP es 0 (mpos q k xs)) w := by
  obtain ⟨kind, hu, hn⟩ := hK.now
  unfold Instr.findKey
  rw [Sem.run_bind, run_underlying hu, Result.andThen_ok]
  rcases now_run (T := T) (w0 := w0) (ν := ν) hK hc hn es xs 0 h hr with h3 | h3
  · rw [h3]; exact asking_run hK hc w es xs 0 h hr
  · rw [h3]; rfl
end
theorem gobj {P : Program} {w : World} {r : Nat} {es : Array MapEntry} {clock : Nat} (hb : w.heap[r]? = some (.map es clock)) : (getObj r).run P w = .ok (.map es clock) w := by
  simp [getObj, Sem.run, hb]
theorem sobj {P : Program} {w : World} {r : Nat} {es : Array MapEntry} {clock : Nat} (o : Obj) (hb : w.heap[r]? = some (.map es clock)) : (setObj r o).run P w = .ok () { w with heap := w.heap.setIfInBounds r o } := by
  simp [setObj, Sem.run, hb]
theorem hset {w : World} {r : Nat} {o o' : Obj} (hb : w.heap[r]? = some o) : (w.heap.setIfInBounds r o')[r]? = some o' ∧ ∀ r', r' ≠ r → (w.heap.setIfInBounds r o')[r']? = w.heap[r']? := by
  have hlt : r < w.heap.size := (Array.getElem?_eq_some_iff.1 hb).1
  exact ⟨by simp [hlt], fun r' hne => by simp [Ne.symm hne]⟩
/-- what kind of map it is -/
def mpI (P : Program) (t : TypeId) : Option (TypeId × TypeId) := match P.underlying t with
  | some (.map k e) => some (k, e)
  | _ => none
theorem mpI_und {P : Program} {t k e : TypeId} (h : mpI P t = some (k, e)) : P.underlying t = some (.map k e) := by
  unfold mpI at h
  split at h
  · rename_i a b hu
    simp only [Option.some.injEq, Prod.mk.injEq] at h
    obtain ⟨rfl, rfl⟩ := h
    exact hu
  · cases h
/-- a type's zero value -/
def zvI (P : Program) (t : TypeId) : Option Value := match P.info? t with
  | some i => i.zero
  | none => none
theorem zvI_run {P : Program} {t : TypeId} {z : Value} (h : zvI P t = some z) (w : World) : (zeroValue t).run P w = .ok z w := by
  unfold zvI at h
  split at h
  · rename_i i hi
    simp [zeroValue, typeInfo, hi, h]
  · cases h
section
variable {κ ν : Type} {P : Program} {W : World} {M T E : Nat → Prop} {n : Nat} {G G' : List (Nat × Value)} {D D' : List Res} {F F' : List Fact} {a : Act} {w w' : World} {K : Act → World → Prop}
variable {kt et : TypeId} {RK : Rep κ} {ak : Bool} {RV : Rep ν} {av : Bool} {q : κ → κ → Bool} {b clock : Nat} {es : Array MapEntry} {xs : List (κ × ν)}
theorem St.mapOk (hS : St W M T n G D F a w) (j : Nat) (hj : F[j]? = some (MapF RK ak RV av es xs)) : MapOk RK ak RV av (dT T D) w es xs := hS.get j hj
theorem mapKeys {T : Nat → Prop} {w : World} (h : MapOk RK ak RV av T w es xs) : es.toList.length = xs.length ∧ ∀ (i : Nat) (e : MapEntry) (x : κ × ν), es.toList[i]? = some e → xs[i]? = some x → ∃ c, RK.rel T w c x.1 ∧ e.key = valOf ak c :=
  ⟨by simpa using h.1, fun i e x he hx => (h.2 i e x (by simpa using he) hx).1⟩
/-- a new map -/
theorem k_mkmap {d : Nat} {t ty : TypeId} {pos : String} {af : Array Edge} {g : Option (Nat × Bool)} (RK : Rep κ) (ak : Bool) (RV : Rep ν) (av : Bool) (hS : St W M T n G D F a w) (hn : Nat.blt d n = true)
    (k : ∀ b, w.heap.size ≤ b → ∀ a w', Kt No w w' → St W M T n ((d, .map (some b)) :: G) (.obj b (.map #[] 0) :: D) (MapF RK ak RV av #[] [] :: F) a w' → K a w') : OpK P ⟨some d, .makeMap t none, ty, pos, af, g⟩ a w K := by
  have hr : (execOp a.eval ⟨some d, .makeMap t none, ty, pos, af, g⟩).run P w = .ok (.value (.map (some w.heap.size))) (w.alloc (.map #[] 0)) := by
    simp [execOp, Instr.makeMap]
  refine kval hr (k w.heap.size (Nat.le_refl _) _ _ (Kt.alloc _ _) ?_)
  exact ((hS.add (Kt.alloc _ _) (.obj w.heap.size (.map #[] 0)) (heap_alloc_new w _) (fun k hk => by simp only [Res.dom, Option.some.injEq] at hk; omega)).fact (MapF RK ak RV av #[] []) ⟨rfl, fun i e x he hx => by simp at he⟩).put hn _
/-- how many pairs -/
theorem y_mlen {d : Option Nat} {x : Operand} {t : TypeId} {ty : TypeId} {pos : String} {af : Array Edge} {g : Option (Nat × Bool)} (hS : St W M T n G D F a w) (ht : mpI P t = some (kt, et)) (hx : ev G x = some (.map (some b))) (i : Nat) (hi : D[i]? = some (.obj b (.map es clock))) (j : Nat) (hj : F[j]? = some (MapF RK ak RV av es xs)) (hE : ¬ E b) :
    Ye P ⟨d, .call { callee := .builtin .len, args := #[x], argTypes := #[t] }, ty, pos, af, g⟩ a E w (.int .i64 xs.length) := fun w' hk => by
  have hr : w.heap[b]? = some (.map es clock) := hS.own _ (List.mem_of_getElem? hi)
  have hr' := (hk.block b (Array.getElem?_eq_some_iff.1 hr).1 hE).trans hr
  have hm := (hS.mapOk j hj).1
  have h1 := hS.ev hx
  simp [execOp, resolve, invoke, builtin, h1, Builtin.len_, run_underlying (mpI_und ht), gobj hr', goInt, hm]
/-- what a look-up yields -/
theorem look_run {t : TypeId} (ht : mpI P t = some (kt, et)) (hK : KeyT P kt RK ak q) {T T2 : Nat → Prop} {w w0 w1 : World} (hr : w.heap[b]? = some (.map es clock)) (hm : MapOk RK ak RV av T w0 es xs) {c : List Value} {key : κ} (hc : RK.rel T2 w1 c key) {z : Value} {zc : List Value} {z0 : ν} (hz : zvI P et = some z) (hzc : z = valOf av zc) (hz0 : RV.rel T w0 zc z0) :
    ∃ cv, RV.rel T w0 cv ((mget q key xs).getD z0) ∧ (∀ ok, (Instr.lookup t (.map (some b)) (valOf ak c) ok).run P w = .ok (if ok then .tuple #[valOf av cv, .bool (mget q key xs).isSome] else valOf av cv) w) ∧ True := by
  obtain ⟨hl, hkeys⟩ := mapKeys hm
  have hf := find_run hK hc w hl hkeys
  have hch : ∀ e, (Instr.checkKey e 10000 kt (valOf ak c)).run P w = .ok () w := fun e => hK.check e _ _ w _ _ hc
  have hzr := zvI_run (P := P) hz w
  cases hp : mpos q key xs with
  | none =>
    obtain ⟨g1, _, _⟩ := mpos_none hp
    rw [hp] at hf
    refine ⟨zc, by rw [g1]; exact hz0, fun ok => ?_, trivial⟩
    cases ok <;> simp [Instr.lookup, run_underlying (mpI_und ht), gobj hr, hch, hf, atP, hzr, hzc, g1]
  | some i =>
    obtain ⟨x, hx, _, g1, _, _⟩ := mpos_some hp
    rw [hp] at hf
    have hi : i < es.toList.length := by rw [hl]; exact (List.getElem?_eq_some_iff.1 hx).1
    have he : es.toList[i]? = some es.toList[i] := List.getElem?_eq_getElem hi
    obtain ⟨_, cv, h3, h4⟩ := hm.2 i _ x (by rw [← Array.getElem?_toList]; exact he) hx
    refine ⟨cv, by rw [g1]; exact h3, fun ok => ?_, trivial⟩
    have hat : atP es.toList 0 (some i) = some (i, es.toList[i].val) := by simp only [atP, he, Option.map_some, Nat.zero_add]
    rw [hat] at hf
    cases ok <;> simp only [Instr.lookup, Sem.run_bind, run_underlying (mpI_und ht), Result.andThen_ok, gobj hr, hch, hf, h4, g1, Sem.run_pure, Option.isSome_some, Bool.false_eq_true, if_false, if_true]
theorem d_look {t : TypeId} (hS : St W M T n G D F a w) (ht : mpI P t = some (kt, et)) (hK : KeyT P kt RK ak q) (i : Nat) (hi : D[i]? = some (.obj b (.map es clock))) (j : Nat) (hj : F[j]? = some (MapF RK ak RV av es xs)) {c : List Value} {key : κ} (hc : RK.rel (dT T D) w c key) {z : Value} {zc : List Value} {z0 : ν} (hz : zvI P et = some z) (hzc : z = valOf av zc) (hz0 : RV.rel (dT T D) w zc z0) :
    ∃ cv, RV.rel (dT T D) w cv ((mget q key xs).getD z0) ∧ (∀ {E : Nat → Prop} {d : Option Nat} {X Y : Operand} {ok : Bool} {ty : TypeId} {pos : String} {af : Array Edge} {g : Option (Nat × Bool)}, ev G X = some (.map (some b)) → ev G Y = some (valOf ak c) → ¬ E b →
      Ye P ⟨d, .lookup t X Y ok, ty, pos, af, g⟩ a E w (if ok then .tuple #[valOf av cv, .bool (mget q key xs).isSome] else valOf av cv)) := by
  have hr : w.heap[b]? = some (.map es clock) := hS.own _ (List.mem_of_getElem? hi)
  have hm := hS.mapOk j hj
  obtain ⟨cv, h1, h2, _⟩ := look_run (P := P) ht hK hr hm hc hz hzc hz0
  refine ⟨cv, h1, fun hX hY hE w' hk => ?_⟩
  have hr' := (hk.block b (Array.getElem?_eq_some_iff.1 hr).1 hE).trans hr
  obtain ⟨cv2, h3, h4, _⟩ := look_run (P := P) ht hK hr' hm hc hz hzc hz0
  have e1 := hS.ev hX
  have e2 := hS.ev hY
  have hrun : ∀ ok, (Instr.lookup t (.map (some b)) (valOf ak c) ok).run P w' = .ok (if ok then .tuple #[valOf av cv, .bool (mget q key xs).isSome] else valOf av cv) w' := fun ok => by
    obtain ⟨hl, hkeys⟩ := mapKeys hm
    have a1 := h2 ok
    have hf := find_run hK hc w hl hkeys
    have hf' := find_run hK hc w' hl hkeys
    have hch : ∀ e (w : World), (Instr.checkKey e 10000 kt (valOf ak c)).run P w = .ok () w := fun e w => hK.check e _ _ w _ _ hc
    have hzr := zvI_run (P := P) hz
    revert a1
    cases hp : atP es.toList 0 (mpos q key xs) with
    | none =>
      rw [hp] at hf hf'
      cases ok <;> simp [Instr.lookup, run_underlying (mpI_und ht), gobj hr, gobj hr', hch, hf, hf', hzr]
    | some y =>
      rw [hp] at hf hf'
      cases ok <;> simp [Instr.lookup, run_underlying (mpI_und ht), gobj hr, gobj hr', hch, hf, hf']
  simp [execOp, e1, e2, hrun]
theorem d_looku {t : TypeId} (hS : St W M T n G D F a w) (ht : mpI P t = some (kt, et)) (hK : KeyT P kt RK ak q) (i : Nat) (hi : D[i]? = some (.obj b (.map es clock))) (j : Nat) (hj : F[j]? = some (MapF RK ak RV av es xs)) {c : List Value} {key : κ} (hc : RK.rel (dT T D) w c key) {z : Value} {zc : List Value} {z0 u : ν} (hz : zvI P et = some z) (hzc : z = valOf av zc) (hz0 : RV.rel (dT T D) w zc z0) (hu : some ((mget q key xs).getD z0) = some u) :
    ∃ cv, RV.rel (dT T D) w cv u ∧ (∀ {E : Nat → Prop} {d : Option Nat} {X Y : Operand} {ok : Bool} {ty : TypeId} {pos : String} {af : Array Edge} {g : Option (Nat × Bool)}, ev G X = some (.map (some b)) → ev G Y = some (valOf ak c) → ¬ E b →
      Ye P ⟨d, .lookup t X Y ok, ty, pos, af, g⟩ a E w (if ok then .tuple #[valOf av cv, .bool (mget q key xs).isSome] else valOf av cv)) := by
  obtain rfl := Option.some.inj hu
  exact d_look hS ht hK i hi j hj hc hz hzc hz0
theorem set_kt {w : World} {b : Nat} {o o' : Obj} (hr : w.heap[b]? = some o) : Kt (fun k => some b = some k) w { w with heap := w.heap.setIfInBounds b o' } :=
  ⟨rfl, rfl, rfl, by simp, fun k _ hn => (hset (o' := o') hr).2 k fun e => hn (by rw [e])⟩
/-- a pair put into a map of the call's own -/
theorem k_mput {t ty : TypeId} {X Y Z : Operand} {pos : String} {af : Array Edge} {g : Option (Nat × Bool)} (hS : St W M T n G D F a w) (ht : mpI P t = some (kt, et)) (hK : KeyT P kt RK ak q) (i : Nat) (hi : D[i]? = some (.obj b (.map es clock))) (j : Nat) (hj : F[j]? = some (MapF RK ak RV av es xs))
    {c cv : List Value} {key : κ} {val : ν} (hc : RK.rel (dT T D) w c key) (hv : RV.rel (dT T D) w cv val) (hX : ev G X = some (.map (some b))) (hY : ev G Y = some (valOf ak c)) (hZ : ev G Z = some (valOf av cv))
    (k : ∀ es' ck' w', Kt (fun j => j = b) w w' → St W M T n G (D.set i (.obj b (.map es' ck'))) (MapF RK ak RV av es' (mput q key val xs) :: F) a w' → K a w') : OpK P ⟨none, .mapUpdate t X Y Z, ty, pos, af, g⟩ a w K := by
  have hr : w.heap[b]? = some (.map es clock) := hS.own _ (List.mem_of_getElem? hi)
  have hm := hS.mapOk j hj
  obtain ⟨hl, hkeys⟩ := mapKeys hm
  have hf := find_run hK hc w hl hkeys
  have hch := hK.check false _ _ w _ _ hc
  have fin : ∀ es' ck', (Instr.mapUpdate t (.map (some b)) (valOf ak c) (valOf av cv)).run P w = .ok () { w with heap := w.heap.setIfInBounds b (.map es' ck') } → MapOk RK ak RV av (dT T D) w es' (mput q key val xs) → OpK P ⟨none, .mapUpdate t X Y Z, ty, pos, af, g⟩ a w K := fun es' ck' hrun hok => by
    refine kskip (w' := { w with heap := w.heap.setIfInBounds b (.map es' ck') }) (by simp [execOp, hS.ev hX, hS.ev hY, hS.ev hZ, hrun]) (k es' ck' _ ((set_kt hr).mono fun j hj => (Option.some.inj hj).symm) ?_)
    exact (hS.fact (MapF RK ak RV av es' _) hok).turn hi (set_kt hr) (r' := .obj b (.map es' ck')) (hset hr).1 fun j hj => .inl hj
  cases hp : mpos q key xs with
  | none =>
    obtain ⟨_, g2, _⟩ := mpos_none hp
    rw [hp] at hf
    refine fin (es.push { key := valOf ak c, val := valOf av cv, born := clock }) (clock + 1) ?_ ⟨by rw [g2]; simp [hm.1], fun z e x he hx => ?_⟩
    · simp [Instr.mapUpdate, run_underlying (mpI_und ht), gobj hr, hch, hf, atP, sobj _ hr]
    · rw [g2] at hx
      by_cases hz : z < xs.length
      · rw [List.getElem?_append_left hz] at hx
        rw [Array.getElem?_push_lt (by rw [hm.1]; exact hz)] at he
        exact hm.2 z e x (by rw [← he]; exact (Array.getElem?_eq_getElem _)) hx
      · rw [List.getElem?_append_right (by omega)] at hx
        obtain rfl : z = xs.length := by
          rcases Nat.lt_or_ge xs.length z with h | h
          · rw [List.getElem?_eq_none (by simp; omega)] at hx; cases hx
          · omega
        simp at hx
        subst hx
        rw [← hm.1, Array.getElem?_push_size] at he
        simp only [Option.some.injEq] at he
        subst he
        exact ⟨⟨c, hc, rfl⟩, cv, hv, rfl⟩
  | some p =>
    obtain ⟨x0, hx0, hq0, _, g2, _⟩ := mpos_some hp
    have hpi : p < es.size := by rw [hm.1]; exact (List.getElem?_eq_some_iff.1 hx0).1
    have he0 : es[p]? = some es[p] := Array.getElem?_eq_getElem hpi
    obtain ⟨⟨d0, hd0, hk0⟩, _⟩ := hm.2 p _ x0 he0 hx0
    have hbits := hK.bits _ _ _ _ _ _ _ _ hc hd0 hq0
    rw [hp] at hf
    refine fin (es.modify p fun e => { e with key := valOf ak c, val := valOf av cv }) clock ?_ ⟨by rw [g2]; simp [hm.1], fun z e x he hx => ?_⟩
    · have hat : atP es.toList 0 (some p) = some (p, es[p].val) := by simp [atP, he0]
      rw [hat] at hf
      have hkt : (Instr.keyThatStays (((es[p]?).map (·.key)).getD (valOf ak c)) (valOf ak c)).run P w = .ok (valOf ak c) w := by
        rw [he0]
        simp only [Option.map_some, Option.getD_some, hk0, Instr.keyThatStays, hbits, if_true, Sem.run_pure]
      simp only [Instr.mapUpdate, Sem.run_bind, run_underlying (mpI_und ht), Result.andThen_ok, gobj hr, hch, hf, hkt, sobj _ hr]
    · rw [g2] at hx
      by_cases hz : p = z
      · subst hz
        rw [List.getElem?_set_self (by rw [← hm.1]; exact hpi)] at hx
        simp only [Option.some.injEq] at hx
        subst hx
        rw [Array.getElem?_modify, if_pos rfl, he0] at he
        simp only [Option.map_some, Option.some.injEq] at he
        subst he
        exact ⟨⟨c, hc, rfl⟩, cv, hv, rfl⟩
      · rw [List.getElem?_set_ne hz] at hx
        rw [Array.getElem?_modify, if_neg hz] at he
        exact hm.2 z e x he hx
end
end Go.Proofs.YtpbbnkpplcnaoaaGreatDoor

/- A frame for walks: calls that are handed blocks to turn. -/
set_option linter.unusedVariables false
set_option linter.unusedSimpArgs false
namespace Go.Proofs.YtpbbnkpplcnaoaaGreatDoor
open Go.RowKit

/-- the blocks of some resources -/
def MD (D0 : List Res) : Nat → Prop := fun k => ∃ r ∈ D0, r.dom k
/-- resources that are there, apart from each other and from T -/
structure DOk (T : Nat → Prop) (w : World) (D0 : List Res) : Prop where
  own : ∀ r ∈ D0, r.ok w
  free : ∀ r ∈ D0, ∀ k, r.dom k → ¬ T k
  apart : D0.Pairwise fun r s => ∀ k, r.dom k → ¬ s.dom k
/-- what a call leaves of what it was handed, and what it made -/
structure DNew (W w : World) (D0 rs : List Res) : Prop where
  own : ∀ r ∈ rs, r.ok w
  from_ : ∀ r ∈ rs, ∀ k, r.dom k → MD D0 k ∨ W.heap.size ≤ k
  apart : rs.Pairwise fun r s => ∀ k, r.dom k → ¬ s.dom k
theorem enterD {P : Program} {f : FuncId} {fn : Func} {c : Code} {args : List Value} {w : World} {R : Value → World → Prop} {D0 : List Res} (hf : P.funcs[f]? = some fn) (hb : fn.body = some c)
    (T : Nat → Prop) (n : Nat) (hn : fn.ntmps = n) (hT : ∀ k, T k → k < w.heap.size) (hl : Nat.ble args.length n = true) (hD : DOk T w D0)
    (h : ∀ a, St w (MD D0) T n (argSlots 0 args) D0 [] a w → c.wp P (bodyPost P fn (Ret (MD D0) w R)) a w) : Rets P (MD D0) f args w R := by
  refine calls_of_wp hf hb (h _ ?_)
  subst hn
  have hS := St.start w (MD D0) T fn.ntmps args hT (Nat.le_of_ble_eq_true hl) (argSlots 0 args) fun t v hv => by
    obtain ⟨h1, h2⟩ := lk_args args 0 t v hv
    simpa using h2
  exact ⟨hS.size, hS.defers, hS.slots, hS.base, hD.own, fun r hr k hk => ⟨hD.free r hr k hk, .inl ⟨r, hr, hk⟩⟩, hD.apart, fun f hf => (by cases hf), hT⟩
section
variable {P : Program} {W : World} {M T E : Nat → Prop} {n : Nat} {G G' : List (Nat × Value)} {D D' D0 Dr rs : List Res} {F F' : List Fact} {a : Act} {w w' : World} {K : Act → World → Prop}
theorem St.dnew (hS : St W (MD D0) T n G rs F a w) : DNew W w D0 rs := ⟨hS.own, fun r hr k hk => (hS.free r hr k hk).2, hS.apart⟩
/-- in another order -/
theorem St.reD (hS : St W M T n G D F a w) (is : List Nat) (hn : is.Nodup) (hd : SubD D is D') : St W M T n G D' F a w :=
  hS.res (fun r hr => hd.mem r hr) (hd.pw hS.apart hn)
theorem St.dok (hS : St W M T n G (D0 ++ Dr) F a w) : DOk (dT T Dr) w D0 := by
  obtain ⟨h1, h2, h3⟩ := List.pairwise_append.1 hS.apart
  refine ⟨fun r hr => hS.own r (List.mem_append_left _ hr), fun r hr k hk ht => ?_, h1⟩
  rcases ht with ht | ⟨s, hs, hk2⟩
  · exact (hS.free r (List.mem_append_left _ hr) k hk).1 ht
  · exact h3 r hr s hs k hk hk2
theorem dT_split : ∀ k, dT (dT T Dr) D0 k ↔ dT T (D0 ++ Dr) k := fun k => by
  unfold dT
  constructor
  · rintro ((h | ⟨r, hr, hk⟩) | ⟨r, hr, hk⟩)
    · exact .inl h
    · exact .inr ⟨r, List.mem_append_right _ hr, hk⟩
    · exact .inr ⟨r, List.mem_append_left _ hr, hk⟩
  · rintro (h | ⟨r, hr, hk⟩)
    · exact .inl (.inl h)
    · rcases List.mem_append.1 hr with hr | hr
      · exact .inr ⟨r, hr, hk⟩
      · exact .inl (.inr ⟨r, hr, hk⟩)
theorem St.getD (hS : St W M T n G (D0 ++ Dr) F a w) (i : Nat) {f : Fact} (hi : F[i]? = some f) : f.p (dT (dT T Dr) D0) w :=
  f.keep (hS.get i hi) (Kt.refl _ _) fun k hk => .inl ((dT_split k).1 hk)
theorem St.dltD (hS : St W M T n G (D0 ++ Dr) F a w) : ∀ k, dT T Dr k → k < w.heap.size := fun k hk => hS.dlt k (by
  rcases hk with h | ⟨r, hr, h⟩
  · exact .inl h
  · exact .inr ⟨r, List.mem_append_right _ hr, h⟩)
theorem dT_join (w : World) : Nw (dT (dT T Dr) rs) (dT T (rs ++ Dr)) w := fun k hk => .inl ((dT_split k).2 hk)
/-- what a call was handed is what it left, now -/
theorem St.swapD (hS : St W M T n G (D0 ++ Dr) F a w) (hk : Kt (MD D0) w w') (hN : DNew w w' D0 rs) : St W M T n G (rs ++ Dr) F a w' := by
  obtain ⟨h1, h2, h3⟩ := List.pairwise_append.1 hS.apart
  have m0 : ∀ k, MD D0 k → ¬ T k ∧ (M k ∨ W.heap.size ≤ k) ∧ dT T (D0 ++ Dr) k ∧ k < w.heap.size := fun k ⟨r, hr, hk⟩ => by
    have := hS.free r (List.mem_append_left _ hr) k hk
    exact ⟨this.1, this.2, .inr ⟨r, List.mem_append_left _ hr, hk⟩, Res.lt (hS.own r (List.mem_append_left _ hr)) k hk⟩
  have hr0 : ∀ s ∈ Dr, ∀ k, s.dom k → ¬ MD D0 k ∧ k < w.heap.size := fun s hs k hk => ⟨fun ⟨r, hr, hk2⟩ => h3 r hr s hs k hk2 hk, Res.lt (hS.own s (List.mem_append_right _ hs)) k hk⟩
  have hsz := hS.base.size
  refine ⟨hS.size, hS.defers, hS.slots, hS.base.step hk fun k h => (m0 k h).2.1, fun r hr => ?_, fun r hr k hkd => ?_, List.pairwise_append.2 ⟨hN.apart, h2, fun r hr s hs k hkr hks => ?_⟩, fun f hf => f.keep (hS.facts f hf) (hk.mono fun k h => (m0 k h).2.2.1) fun k hkd => ?_, fun k h => Nat.lt_of_lt_of_le (hS.tlt k h) hk.size⟩
  · rcases List.mem_append.1 hr with hr | hr
    · exact hN.own r hr
    · exact Res.keep (hS.own r (List.mem_append_right _ hr)) fun k hkd => hk.block k (hr0 r hr k hkd).2 (hr0 r hr k hkd).1
  · rcases List.mem_append.1 hr with hr | hr
    · rcases hN.from_ r hr k hkd with h | h
      · exact ⟨(m0 k h).1, (m0 k h).2.1⟩
      · exact ⟨fun ht => by have := hS.tlt k ht; omega, .inr (by omega)⟩
    · exact hS.free r (List.mem_append_right _ hr) k hkd
  · have h4 := hr0 s hs k hks
    rcases hN.from_ r hr k hkr with h | h
    · exact h4.1 h
    · omega
  · rcases hkd with h | ⟨r, hr, hkd⟩
    · exact .inl (.inl h)
    · rcases List.mem_append.1 hr with hr | hr
      · rcases hN.from_ r hr k hkd with h | h
        · exact .inl (m0 k h).2.2.1
        · exact .inr h
      · exact .inl (.inr ⟨r, List.mem_append_right _ hr, hkd⟩)
/-- a call that is handed blocks -/
theorem k_callD {d : Nat} {ty : TypeId} {pos : String} {af : Array Edge} {g : Option (Nat × Bool)} {args : Array Operand} {tys : Array TypeId} {f : Nat} {vs : List Value} {R : Value → World → Prop} (hS : St W M T n G (D0 ++ Dr) F a w) (hf : callI P f = true) (hargs : evs G args.toList = some vs) (hn : Nat.blt d n = true) (hc : Rets P (MD D0) f vs w R)
    (k : ∀ v w', R v w' → ∀ a, Kt (MD D0) w w' → (∀ rs, DNew w w' D0 rs → St W M T n ((d, v) :: G) (rs ++ Dr) F a w') → K a w') : OpK P ⟨some d, .call { callee := .value (.func f), args := args, argTypes := tys }, ty, pos, af, g⟩ a w K :=
  k_callF (cap := []) rfl hS rfl hf hargs (by rw [List.append_nil]; exact hc) fun v w' hk hr => k v w' hr _ hk (fun rs h => (hS.swapD hk h).put hn v)
end
end Go.Proofs.YtpbbnkpplcnaoaaGreatDoor

/- A frame for walks: bytes and strings. -/
set_option linter.unusedVariables false
set_option linter.unusedSimpArgs false
namespace Go.Proofs.YtpbbnkpplcnaoaaGreatDoor
open Go.RowKit

/-- a string's bytes, as numbers -/
def bytesI (s : ByteArray) : List Int := s.toList.map fun c => (c.toNat : Int)
/-- numbers, as a string -/
def strI (l : List Int) : ByteArray := ⟨(l.map fun n => UInt8.ofNat n.toNat).toArray⟩
def shlI (k : IntKind) (x n : Int) : Int := k.wrap (x * 2 ^ (min n.toNat k.bits))
def shrI (k : IntKind) (x n : Int) : Int := x.fdiv (2 ^ (min n.toNat k.bits))
theorem gd_of {α : Type} {b : Bool} {x : Option α} {y : α} (hb : b = true) (h : x = some y) : gd b x = some y := by subst hb; exact h
theorem bd_of {α β : Type} {m : Option α} {v : α} {f : α → Option β} {y : β} (hm : m = some v) (h : f v = some y) : m.bind f = some y := by rw [hm]; exact h
theorem bytesI_len (s : ByteArray) : (bytesI s).length = s.size := by
  unfold bytesI
  rw [List.length_map, ByteArray.toList_eq]; rfl
theorem strCells_I (s : ByteArray) : Lib.strCells s = (bytesI s).map (Value.int .u8) := by
  unfold Lib.strCells bytesI
  rw [ByteArray.toList_eq, List.map_map]; rfl
theorem rows_bytes (T : Nat → Prop) (w : World) : ∀ (l : List Int), RowsOk (Rep.int .u8) T w (l.map (Value.int .u8)) l
  | l => ⟨by simp [Rep.int], fun k x hx => ⟨[.int .u8 x], rfl, fun j u hu => by
    cases j with
    | zero => simp only [List.getElem?_cons_zero, Option.some.injEq] at hu; subst hu; simp [Rep.int, hx]
    | succ j => simp at hu⟩⟩
theorem rows_bytes_eq {T : Nat → Prop} {w : World} {cl : List Value} {l : List Int} (h : RowsOk (Rep.int .u8) T w cl l) : cl = l.map (Value.int .u8) := by
  obtain ⟨h1, h2⟩ := h
  have h1 : cl.length = l.length := by simpa [Rep.int] using h1
  apply List.ext_getElem (by simpa using h1)
  intro i hi hj
  have hi' : i < l.length := by omega
  obtain ⟨cs, h3, h4⟩ := h2 i _ (List.getElem?_eq_getElem hi')
  have h3 : cs = [.int .u8 l[i]] := h3
  subst h3
  have := h4 0 _ rfl
  have hs : (Rep.int .u8).size = 1 := rfl
  rw [hs, Nat.mul_one, Nat.add_zero, List.getElem?_eq_getElem hi] at this
  simp only [Option.some.injEq] at this
  rw [this]; simp
section
variable {P : Program}
theorem run_append_room_str (w : World) (t u ty e : TypeId) (i : TypeInfo) (ht : P.underlying t = some (.slice e)) (hu : P.underlying u = some .string) (hi : P.info? e = some i) (hs1 : i.size = 1)
    (b off sLen sCap : Nat) (s : ByteArray) (hroom : sLen + s.size ≤ sCap) (hc : ∀ j, j < s.size → (w.cell? ⟨b, off + sLen + j, none⟩).isSome = true) (hf : ∀ j, j < s.size → w.frozen? ⟨b, off + sLen + j, none⟩ = false) :
    (Builtin.append_ #[t, u] ty #[.slice (some ⟨b, off, none⟩) sLen sCap, .string s]).run P w = .ok (.slice (some ⟨b, off, none⟩) (sLen + s.size) sCap) (w.setCells b (off + sLen) (Lib.strCells s)) := by
  have hfc := Lib.run_firstCells_string (P := P) w 1 s
  have hst := run_storeCells_cells (P := P) b (off + sLen) (Lib.strCells s) 0 w (by simpa [Lib.strCells_length] using hc) (by simpa [Lib.strCells_length] using hf) (Lib.strCells_oneCell s)
  simp only [Nat.add_zero] at hst
  simp [Builtin.append_, run_underlying ht, run_underlying hu, sizeOf, typeInfo, hi, hs1, Builtin.lenOf, hroom, hfc, Addr.add_lit, hst]
theorem run_append_Str (w : World) (t u ty e : TypeId) (E : Elem P t e 1 1) (hu : P.underlying u = some .string) (v : Value) (xs : List Value) (hown : Own w 0 e 1 v xs) (s : ByteArray) (h63 : xs.length + s.size ≤ 140737488355328) :
    ∃ v' w', (Builtin.append_ #[t, u] ty #[v, .string s]).run P w = .ok v' w' ∧ Own w' 0 e 1 v' (xs ++ Lib.strCells s) ∧ w.grownBy w' v.ownBlock ∧ (v'.ownBlock = v.ownBlock ∨ v'.ownBlock = some w.heap.size) := by
  obtain ⟨ht, ⟨i, z, hi, hz, hsize, hby, hzs⟩, hpos⟩ := E
  have hsl := Lib.strCells_length s
  have grown : ∀ (old n : Nat), xs.length = n → old < n + s.size →
      Own (w.drew.alloc (.cells (xs.toArray ++ (Lib.strCells s).toArray ++ Builtin.zeroCells z.cells (grownCap w (n + s.size) old e - (n + s.size))) e)) 0 e 1
        (.slice (some ⟨w.heap.size, 0, none⟩) (n + s.size) (grownCap w (n + s.size) old e)) (xs ++ Lib.strCells s) := by
    intro old n hx ho
    have hge := grownCap_ge w (n + s.size) old e
    have hcm : grownCap w (n + s.size) old e ≤ maxLen := grownCap_le_maxLen w (n + s.size) old e (by unfold maxLen; omega)
    refine .inr ⟨w.heap.size, 0, n + s.size, _, _, rfl, by rw [List.length_append, hx, hsl]; omega, Nat.zero_le _, .of (heap_alloc_new w.drew _), hge, hcm, ?_, ?_⟩
    · simp only [Array.size_append, List.size_toArray, size_zeroCells, hzs, hx, hsl]
      omega
    · intro j u hu
      rw [Nat.zero_add, Array.getElem?_append_left (by
        have := (List.getElem?_eq_some_iff.1 hu).1
        simpa using this)]
      simpa using hu
  rcases hown with ⟨rfl, rfl⟩ | ⟨g, off, n, cap, cs, rfl, a1, hb, hg, hnc, hc, hsz, hcs⟩
  · by_cases h0 : s.size = 0
    · have hn : Lib.strCells s = [] := List.eq_nil_of_length_eq_zero (by rw [hsl]; exact h0)
      refine ⟨.slice none 0 0, w, ?_, .inl ⟨rfl, by rw [hn]; rfl⟩, World.grownBy.refl w _, .inl rfl⟩
      have hfc := Lib.run_firstCells_string (P := P) w 1 s
      rw [h0] at hfc
      simp [Builtin.append_, run_underlying ht, run_underlying hu, sizeOf, typeInfo, hi, hsize, Builtin.lenOf, h0, hfc, storeCells]
    · have hr := run_append_nil_string (P := P) w t u ty e i z ht hu hi hz s (by omega) (by simp at h63; omega) (by simp at h63; rw [hby]; omega)
      have hgr := grown 0 0 rfl (by omega)
      have he : s.data.map (fun b => Value.int .u8 b.toNat) = (Lib.strCells s).toArray := by unfold Lib.strCells; apply Array.ext'; simp
      simp only [Nat.zero_add, Array.empty_append] at hgr
      rw [he] at hr
      refine ⟨_, _, hr, ?_, ⟨rfl, rfl, rfl, by simp, fun k hk _ => Below.heap_alloc w.drew _ k hk⟩, .inr rfl⟩
      simpa using hgr
  · have hn : n = xs.length := by omega
    by_cases hroom : n + s.size ≤ cap
    · have hr := run_append_room_str (P := P) w t u ty e i ht hu hi hsize g off n cap s hroom
        (fun j hj => by rw [hg.cell, Array.getElem?_eq_getElem (by omega)]; rfl)
        (fun j hj => hg.free (by omega))
      obtain ⟨fz, hg0, hfz⟩ := id hg
      obtain ⟨cs', c1, c2, c3, c4⟩ := setCells_block g e fz (Lib.strCells s) (off + n) w cs hg0
      refine ⟨_, _, hr, .inr ⟨g, off, n + s.size, cap, cs', rfl, by rw [List.length_append, hsl]; omega, hb, ⟨fz, c1, by rw [c2]; exact hfz⟩, hroom, hc, by rw [c2]; exact hsz, fun j u hu => ?_⟩, setCells_grown w g _ _, .inl rfl⟩
      by_cases hj : j < xs.length
      · rw [List.getElem?_append_left hj] at hu
        rw [c3 _ (by omega)]
        exact hcs j u hu
      · rw [List.getElem?_append_right (by omega)] at hu
        have := c4 (by rw [hsl]; omega) (j - xs.length) u hu
        rwa [show off + n + (j - xs.length) = off + j by omega] at this
    · have hr := Lib.run_append_grow_string (P := P) w t u ty e i z ht hu hi hz ⟨g, off, none⟩ n cap xs (by rw [hsize]; omega) (fun j u hu => by rw [Addr.add_lit, hg.cell]; exact hcs j u hu) s (by omega) (by omega)
        (growslice_fits (by omega) (by rw [hby]; omega))
      exact ⟨_, _, hr, grown cap n hn.symm (by omega), ⟨rfl, rfl, rfl, by simp, fun k hk _ => Below.heap_alloc w.drew _ k hk⟩, .inr rfl⟩
end
section
variable {P : Program} {W : World} {M T E : Nat → Prop} {n : Nat} {G G' : List (Nat × Value)} {D D' : List Res} {F F' : List Fact} {a : Act} {w w' : World} {K : Act → World → Prop}
theorem y_shl {d : Option Nat} {t t' : TypeId} {x y : Operand} {ty : TypeId} {pos : String} {af : Array Edge} {g : Option (Nat × Bool)} {k k' : IntKind} {p q : Int} (hS : St W M T n G D F a w) (hx : ev G x = some (.int k p)) (hy : ev G y = some (.int k' q)) (hq : decide (0 ≤ q) = true) : Ye P ⟨d, .binOp .shl t x y t', ty, pos, af, g⟩ a E w (.int k (shlI k p q)) :=
  Ye.of fun w => by
    have h1 := hS.ev hx
    have h2 := hS.ev hy
    have h3 : ¬ q < 0 := by have := of_decide_eq_true hq; omega
    simp [execOp, h1, h2, eqGuard, binOp, Op.shift, h3, shlI]
theorem y_shr {d : Option Nat} {t t' : TypeId} {x y : Operand} {ty : TypeId} {pos : String} {af : Array Edge} {g : Option (Nat × Bool)} {k k' : IntKind} {p q : Int} (hS : St W M T n G D F a w) (hx : ev G x = some (.int k p)) (hy : ev G y = some (.int k' q)) (hq : decide (0 ≤ q) = true) : Ye P ⟨d, .binOp .shr t x y t', ty, pos, af, g⟩ a E w (.int k (shrI k p q)) :=
  Ye.of fun w => by
    have h1 := hS.ev hx
    have h2 := hS.ev hy
    have h3 : ¬ q < 0 := by have := of_decide_eq_true hq; omega
    simp [execOp, h1, h2, eqGuard, binOp, Op.shift, h3, shrI]
/-- append of a string's bytes -/
theorem k_appstr {xs : List Int} {s : ByteArray} {d : Nat} {ty t u e : TypeId} {X Y : Operand} {pos : String} {af : Array Edge} {g : Option (Nat × Bool)} {v : Value} {cl : List Value} (hS : St W M T n G D F a w) (he : elI P t = some (e, 1, 1)) (hu : P.underlying u = some .string) (hs : ev G X = some v) (hx : ev G Y = some (.string s)) (i : Nat) (hi : D[i]? = some (.own v e (Rep.int .u8).size cl)) (p : Nat) (hp : F[p]? = some (RowsF (Rep.int .u8) cl xs)) (hroom : roomB (xs.length + s.size) = true) (hn : Nat.blt d n = true)
    (k : ∀ v' cl' a w', Kt (fun j => v.ownBlock = some j) w w' → St W M T n ((d, v') :: G) (D.set i (.own v' e (Rep.int .u8).size cl')) (RowsF (Rep.int .u8) cl' (xs ++ bytesI s) :: F) a w' → K a w') : OpK P ⟨some d, .call { callee := .builtin .append, args := #[X, Y], argTypes := #[t, u] }, ty, pos, af, g⟩ a w K := fun K' Q hK => by
  obtain ⟨hown, hsz⟩ := hS.own _ (List.mem_of_getElem? hi)
  have hown : Own w 0 e 1 v cl := hown
  have hrow : RowsOk (Rep.int .u8) (dT T D) w cl xs := hS.get p hp
  have h1 : xs.length + s.size ≤ 4294967296 := roomB_le hroom
  have hl : cl.length = xs.length := by have := hrow.1; simpa [Rep.int] using this
  obtain ⟨v', w', hrun, h2, h3, h4⟩ := run_append_Str (P := P) w t u ty e (elI_el he) hu v cl hown s (by omega)
  have e1 := hS.ev hs
  have e2 := hS.ev hx
  unfold Oper.wp execOp
  simp only [resolve, invoke, builtin, Sem.run_bind, Sem.run_pure, Result.andThen_ok, List.map_toArray, List.map_cons, List.map_nil, e1, e2, hrun]
  have hk := Kt.grown h3
  have hd : ∀ j, v'.ownBlock = some j → v.ownBlock = some j ∨ w.heap.size ≤ j := fun j hj => by
    rcases h4 with h4 | h4
    · exact .inl (h4 ▸ hj)
    · rw [h4] at hj; injection hj with hj; exact .inr (by omega)
  have h5 := hS.fact (RowsF (Rep.int .u8) (cl ++ Lib.strCells s) (xs ++ bytesI s)) (hrow.append (by rw [strCells_I]; exact rows_bytes _ _ _))
  exact hK _ _ (k v' (cl ++ Lib.strCells s) _ w' hk ((h5.turn hi (r' := .own v' e (Rep.int .u8).size (cl ++ Lib.strCells s)) hk ⟨h2, hsz⟩ hd).put hn v'))
/-- a string's bytes, in a row of the call's own -/
theorem k_s2b {s : ByteArray} {d : Nat} {src t e ty : TypeId} {x : Operand} {pos : String} {af : Array Edge} {g : Option (Nat × Bool)} (hS : St W M T n G D F a w) (hx : ev G x = some (.string s)) (hs : P.underlying src = some .string) (ht : P.underlying t = some (.slice e)) (he : P.underlying e = some (.int .u8)) (hroom : roomB s.size = true) (hn : Nat.blt d n = true)
    (k : ∀ v cl a w', Kt No w w' → St W M T n ((d, v) :: G) (.own v e (Rep.int .u8).size cl :: D) (RowsF (Rep.int .u8) cl (bytesI s) :: F) a w' → K a w') : OpK P ⟨some d, .convert src t x, ty, pos, af, g⟩ a w K := by
  have h1 : s.size ≤ 4294967296 := roomB_le hroom
  have hrun : (execOp a.eval ⟨some d, .convert src t x, ty, pos, af, g⟩).run P w = .ok (.value (.slice (some ⟨w.heap.size, 0, none⟩) s.size (grownCap w s.size 0 e))) (Lib.bytesWorld w e s) := by
    have := Lib.run_convert_string_bytes (P := P) w src t e s hs ht he
    simp [execOp, hS.ev hx, this]
  have hge := grownCap_ge w s.size 0 e
  have hcm : grownCap w s.size 0 e ≤ maxLen := grownCap_le_maxLen w s.size 0 e (by unfold maxLen; omega)
  have hk : Kt No w (Lib.bytesWorld w e s) := Kt.ofBelow (Go.Joins.below_bytesWorld _ _ _ _ (Nat.le_refl _))
  have hsz : (Lib.bytesCells w e s).size = grownCap w s.size 0 e := by
    unfold Lib.bytesCells
    simp only [Array.size_append, Array.size_map, Array.size_replicate]
    have : s.data.size = s.size := rfl
    omega
  have hown : Own (Lib.bytesWorld w e s) 0 e (Rep.int .u8).size (.slice (some ⟨w.heap.size, 0, none⟩) s.size (grownCap w s.size 0 e)) (Lib.strCells s) := by
    refine .inr ⟨w.heap.size, 0, s.size, _, Lib.bytesCells w e s, rfl, by rw [Lib.strCells_length]; exact (Nat.mul_one _).symm, Nat.zero_le _, ⟨_, Lib.bytesWorld_at_new w e s, .inr (Nat.le_refl _)⟩, hge, hcm, by rw [hsz]; show 0 + _ * 1 ≤ _; omega, fun j u hu => ?_⟩
    have hj := (List.getElem?_eq_some_iff.1 hu).1
    rw [Lib.strCells_length] at hj
    unfold Lib.bytesCells
    rw [Nat.zero_add, Array.getElem?_append_left (by simpa using hj)]
    unfold Lib.strCells at hu
    rw [List.getElem?_map] at hu
    simpa using hu
  have h2 := hS.fact (RowsF (Rep.int .u8) (Lib.strCells s) (bytesI s)) (by rw [strCells_I]; exact rows_bytes _ _ _)
  exact kval hrun (k _ _ _ _ hk ((h2.add hk (.own _ e (Rep.int .u8).size (Lib.strCells s)) ⟨hown, by decide⟩ (fun j hj => by simp only [Res.dom, Value.ownBlock, Option.some.injEq] at hj; omega)).put hn _))
theorem foldl_push : ∀ (ns : List Int) (r : ByteArray), ns.foldl (fun r n => r.push (UInt8.ofNat n.toNat)) r = ⟨r.data ++ (ns.map fun n => UInt8.ofNat n.toNat).toArray⟩
  | [], r => by simp
  | n :: ns, r => by
    rw [List.foldl_cons, foldl_push ns]
    apply ByteArray.ext
    simp [ByteArray.push]
theorem b2s_run (w : World) (A : Option Addr) (m c : Nat) (xs : List Int) (hm : m = xs.length) (hat : At w A (xs.map (Value.int .u8))) : (Conv.bytesToString (.slice A m c)).run P w = .ok (.string (strI xs)) w := by
  rcases hat with h | ⟨b, off, rfl, h⟩
  · have : xs = [] := by simpa using h
    subst this
    have hm : m = 0 := hm
    subst hm
    cases A <;> simp [Conv.bytesToString, loadCells, loadCellsFrom, strI, Sem.run_pure] <;> rfl
  · have hl := run_loadCells_list (P := P) w ⟨b, off, none⟩ (xs.map (Value.int .u8)) (fun j u hu => by rw [Addr.add_lit]; exact h j u hu)
    rw [List.length_map, ← hm] at hl
    rw [run_bytesToString w ⟨b, off, none⟩ m c xs hl, foldl_push]
    simp [strI]
/-- bytes of the call's own, as a string -/
theorem y_b2so {d : Option Nat} {s t e e' : TypeId} {x : Operand} {ty : TypeId} {pos : String} {af : Array Edge} {g : Option (Nat × Bool)} {v : Value} {cl : List Value} {xs : List Int} (hS : St W M T n G D F a w) (hx : ev G x = some v) (hs : P.underlying s = some (.slice e)) (he : P.underlying e = some (.int .u8)) (ht : P.underlying t = some .string) (i : Nat) (hi : D[i]? = some (.own v e' (Rep.int .u8).size cl)) (j : Nat) (hj : F[j]? = some (RowsF (Rep.int .u8) cl xs)) (hE : ∀ k, v.ownBlock = some k → ¬ E k) : Ye P ⟨d, .convert s t x, ty, pos, af, g⟩ a E w (.string (strI xs)) := fun w' hk => by
  obtain ⟨hown, hsz⟩ := hS.own _ (List.mem_of_getElem? hi)
  have hrow : RowsOk (Rep.int .u8) (dT T D) w cl xs := hS.get j hj
  have hcl := rows_bytes_eq hrow
  have h1 : ∃ A m c, v = .slice A m c ∧ m = xs.length ∧ At w' A (xs.map (Value.int .u8)) := by
    rcases hown with ⟨rfl, h0⟩ | ⟨g, off, m, cap, cs, rfl, a1, hb, hg, hnc, hc, hsz2, hcs⟩
    · have hz : xs = [] := by rw [h0] at hcl; simpa using hcl.symm
      exact ⟨none, 0, 0, rfl, by rw [hz]; rfl, .inl (by rw [hz]; rfl)⟩
    · have hg' := hg.eqb (hk.block g hg.lt (hE g rfl))
      refine ⟨_, _, _, rfl, ?_, .inr ⟨g, off, rfl, fun j u hu => ?_⟩⟩
      · have : (Rep.int .u8).size = 1 := rfl
        have := congrArg List.length hcl
        simp at this; simp only [Rep.int] at a1; omega
      · rw [hg'.cell]
        exact hcs j u (by rw [hcl]; exact hu)
  obtain ⟨A, m, c, rfl, hm, hat⟩ := h1
  have := b2s_run (P := P) w' A m c xs hm hat
  simp [execOp, hS.ev hx, convert, run_underlying hs, run_underlying he, run_underlying ht, this]
/-- bytes that nobody turns, as a string -/
theorem y_b2s {d : Option Nat} {s t e : TypeId} {x : Operand} {ty : TypeId} {pos : String} {af : Array Edge} {g : Option (Nat × Bool)} {v : Value} {xs : List Int} (hS : St W M T n G D F a w) (hx : ev G x = some v) (hs : P.underlying s = some (.slice e)) (he : P.underlying e = some (.int .u8)) (ht : P.underlying t = some .string) (i : Nat) (hi : F[i]? = some (SlF (Rep.int .u8) v xs)) (hE : ∀ j, E j → dT T D j ∨ w.heap.size ≤ j) : Ye P ⟨d, .convert s t x, ty, pos, af, g⟩ a E w (.string (strI xs)) := fun w' hk => by
  have hsl : SlR (Rep.int .u8) (dT T D) w v xs := hS.get i hi
  have hk2 : Kt (dT T D) w w' := ⟨hk.os, hk.tape, hk.output, hk.size, fun k hlt hn => hk.block k hlt fun he => (hE k he).elim hn fun h => by omega⟩
  have hsl' : SlR (Rep.int .u8) (dT T D) w' v xs := hsl.keep hk2 (Nw.refl _ _)
  obtain ⟨A, c, rfl, _⟩ := id hsl'
  obtain ⟨_, cl, hat, hr⟩ := hsl'.rows (by decide)
  rw [rows_bytes_eq hr] at hat
  have := b2s_run (P := P) w' A _ c xs rfl hat
  simp [execOp, hS.ev hx, convert, run_underlying hs, run_underlying he, run_underlying ht, this]
end
end Go.Proofs.YtpbbnkpplcnaoaaGreatDoor

/- A frame for walks: closures over variables that do not turn any more; rows that are handed over; windows of an own row; clear. -/
set_option linter.unusedVariables false
set_option linter.unusedSimpArgs false
namespace Go.Proofs.YtpbbnkpplcnaoaaGreatDoor
open Go.RowKit

def AndF (f g : Fact) : Fact := ⟨fun T w => f.p T w ∧ g.p T w, fun h k n => ⟨f.keep h.1 k n, g.keep h.2 k n⟩⟩
def TrueF : Fact := ⟨fun _ _ => True, fun _ _ _ => trivial⟩
/-- v' is the part of the own slice v from lo to hi -/
def Win (sz : Nat) (v v' : Value) (lo hi n : Nat) : Prop := ∃ A c, v = .slice A n c ∧ n ≤ c ∧ lo ≤ hi ∧ hi ≤ n ∧ v' = .slice (if c = lo then A else A.map (·.add (lo * sz))) (hi - lo) (c - lo)
def WinF (sz : Nat) (v v' : Value) (lo hi n : Nat) : Fact := ⟨fun _ _ => Win sz v v' lo hi n, fun h _ _ => h⟩
section
variable {P : Program} {W : World} {M T E : Nat → Prop} {n : Nat} {G G' : List (Nat × Value)} {D D' D0 Dr rs : List Res} {F F' : List Fact} {a : Act} {w w' : World} {K : Act → World → Prop}
theorem y_mkfunc {d : Option Nat} {f : Nat} {caps : Array Operand} {ty : TypeId} {pos : String} {af : Array Edge} {g : Option (Nat × Bool)} {vs : List Value} (hS : St W M T n G D F a w) (hv : evs G caps.toList = some vs) :
    Ye P ⟨d, .makeFunc (.func f) #[] caps, ty, pos, af, g⟩ a E w (.func (.func f) #[] vs.toArray) :=
  Ye.of fun w => by
    have h1 : (caps.map a.eval) = vs.toArray := by
      apply Array.toList_inj.1
      rw [Array.toList_map, hS.evs hv]
    simp [execOp, Instr.makeFunc, h1]
/-- a variable that does not turn any more -/
theorem St.freezeBox {b : Nat} {cs : List Value} {t : TypeId} (h : St W M T n G D F a w) (i : Nat) (hi : D[i]? = some (.box b cs t)) : St W M T n G (D.eraseIdx i) (CellsF b 0 cs :: F) a w := by
  have hlt := (List.getElem?_eq_some_iff.1 hi).1
  have hD := (List.getElem?_eq_some_iff.1 hi).2
  have ho : w.heap[b]? = some (.cells cs.toArray t (0, 0)) := h.own _ (List.mem_of_getElem? hi)
  refine (h.drop i).fact _ ⟨fun hT => ?_, (Array.getElem?_eq_some_iff.1 ho).1, fun j u hu => ?_⟩
  · rcases hT with hT | ⟨s, hs, hT⟩
    · exact (h.free _ (List.mem_of_getElem? hi) b rfl).1 hT
    · obtain ⟨z, hz⟩ := List.mem_iff_getElem?.1 hs
      rw [List.getElem?_eraseIdx] at hz
      split at hz
      · rename_i hzi
        have hzl := (List.getElem?_eq_some_iff.1 hz).1
        have := List.pairwise_iff_getElem.1 h.apart z i hzl hlt hzi b (by rw [(List.getElem?_eq_some_iff.1 hz).2]; exact hT)
        rw [hD] at this; exact this rfl
      · rename_i hzi
        have hzl := (List.getElem?_eq_some_iff.1 hz).1
        have := List.pairwise_iff_getElem.1 h.apart i (z + 1) hlt hzl (by omega) b (by rw [hD]; rfl)
        rw [(List.getElem?_eq_some_iff.1 hz).2] at this; exact this hT
  · rw [Nat.zero_add, (Row.of ho).cell]
    simpa using hu
/-- a part of an own row, which stays own: where it lies -/
theorem d_win {α : Type} {R : Rep α} {xs ys : List α} {e e' t : TypeId} {v : Value} {cl : List Value} {lo hi : Int} {ag : Bool} (hS : St W M T n G D F a w) (ht : isSl P t = some e) (he : tyI P e = some (ag, R.size)) (q : Nat) (hq : D[q]? = some (.own v e' R.size cl)) (j : Nat) (hj : F[j]? = some (RowsF R cl xs)) (hg : subI xs lo hi = some ys) :
    ∃ v', (∀ (T : Nat → Prop) (w : World), SlR R T w v xs → SlR R T w v' ys) ∧ Win R.size v v' lo.toNat hi.toNat xs.length ∧ (∀ {E : Nat → Prop} {d : Option Nat} {ty : TypeId} {X : Operand} {olo ohi : Option Operand} {pos : String} {af : Array Edge} {g : Option (Nat × Bool)} {k1 k2 : IntKind}, ev G X = some v → ((∃ x, olo = some x ∧ ev G x = some (.int k1 lo)) ∨ (olo = none ∧ lo = 0)) → ((∃ x, ohi = some x ∧ ev G x = some (.int k2 hi)) ∨ (ohi = none ∧ hi = xs.length)) → Ye P ⟨d, .slice t X olo ohi none, ty, pos, af, g⟩ a E w v') := by
  obtain ⟨q1, q2, q3, rfl⟩ := subI_some hg
  obtain ⟨A, c, hv, h1, h2, hS'⟩ := subo (lo := lo.toNat) (hi := hi.toNat) hS q hq j hj (by omega) (by omega)
  refine ⟨_, fun T w h => ?_, ⟨A, c, hv, h1, by omega, by omega, rfl⟩, fun hX hlo hhi => y_sl hS ht he q1 q2 q3 h1 hv hX hlo hhi⟩
  subst hv
  refine h.cut (by omega) (by omega) _ (fun hlt b o hA => ?_)
  rw [if_neg (by omega), hA]
  simp [addr_add]
/-- some cells of an own row are set -/
theorem Own.mid {e : TypeId} {sz : Nat} {v : Value} {cl us : List Value} {B : Nat} (h : Own w B e sz v cl) (o : Nat) (hl : o + us.length ≤ cl.length) (hpos : 0 < us.length) :
    ∃ g off m c cs, v = .slice (some ⟨g, off, none⟩) m c ∧ cl.length = m * sz ∧ m ≤ c ∧ Row w g cs e ∧ off + c * sz ≤ cs.size ∧ Own (w.setCells g (off + o) us) B e sz v (setL cl o us) ∧ (∀ j, j < us.length → (w.cell? ⟨g, off + o + j, none⟩).isSome = true) ∧ (∀ j, j < us.length → w.frozen? ⟨g, off + o + j, none⟩ = false) := by
  rcases h with ⟨_, rfl⟩ | ⟨g, off, m, c, cs, rfl, h1, hb, hg, hmc, hc, hsz, hcs⟩
  · simp only [List.length_nil] at hl; omega
  have hmz : m * sz ≤ c * sz := Nat.mul_le_mul_right _ hmc
  refine ⟨g, off, m, c, cs, rfl, h1, hmc, hg, hsz, ?_, fun j hj => ?_, fun j hj => hg.free (by omega)⟩
  · obtain ⟨fz, hg1, hfz⟩ := hg
    obtain ⟨cs', a1, a2, a3, a4⟩ := setCells_block g e fz us (off + o) w cs hg1
    refine .inr ⟨g, off, m, c, cs', rfl, ?_, hb, ⟨fz, a1, by rw [a2]; exact hfz⟩, hmc, hc, by rw [a2]; exact hsz, fun j u hu => ?_⟩
    · unfold setL; simp only [List.length_append, List.length_take, List.length_drop]; omega
    · rw [setL_get _ _ _ _ hl] at hu
      split at hu
      · rename_i hj
        have := a4 (by omega) _ u hu
        rwa [show off + o + (j - o) = off + j by omega] at this
      · rename_i hj
        rw [a3 _ (by omega)]; exact hcs j u hu
  · rw [hg.cell, Array.getElem?_eq_getElem (by omega)]; rfl
theorem own_len_of {α : Type} {R : Rep α} {T : Nat → Prop} {w : World} {B : Nat} {e : TypeId} {v : Value} {cl : List Value} {xs : List α} {A : Option Addr} {m c : Nat} (h : Own w B e R.size v cl) (hs : 0 < R.size) (hr : RowsOk R T w cl xs) (hv : v = .slice A m c) : m = xs.length := by
  rcases h with ⟨rfl, rfl⟩ | ⟨g, off, m', c', cs, rfl, h1, _⟩
  · injection hv with _ e2 _
    have := hr.1
    rw [← e2]
    cases xs with
    | nil => rfl
    | cons x r => simp [Nat.add_mul] at this; omega
  · injection hv with _ e2 _
    subst e2
    exact Nat.mul_right_cancel hs (h1.symm.trans hr.1)
theorem RowsOk.mid {α : Type} {R : Rep α} {T : Nat → Prop} {w : World} {cl us : List Value} {xs ys : List α} (h : RowsOk R T w cl xs) (k : RowsOk R T w us ys) {lo : Nat} (hl : lo + ys.length ≤ xs.length) : RowsOk R T w (setL cl (lo * R.size) us) (xs.take lo ++ ys ++ xs.drop (lo + ys.length)) := by
  have h1 := h.cut (Nat.zero_le lo) (by omega)
  have h2 := h.cut hl (Nat.le_refl _)
  rw [Nat.zero_mul, List.drop_zero, List.drop_zero] at h1
  rw [List.take_length, List.take_of_length_le (by rw [h.1]; exact Nat.le_refl _)] at h2
  have h3 := (h1.append k).append h2
  unfold setL
  rw [k.1, ← Nat.add_mul]
  exact h3
theorem zeroCells_flat (z : Value) : ∀ m : Nat, (Builtin.zeroCells z.cells m).toList = (List.replicate m z.cells.toList).flatten := by
  intro m
  rw [← made_flat]
  simp [Builtin.zeroCells, madeCells]
/-- the cells of a window are set to their zero -/
theorem k_clear {α : Type} {R : Rep α} {z0 : α} {xs : List α} {ty t e : TypeId} {x : Operand} {pos : String} {af : Array Edge} {g : Option (Nat × Bool)} {bt lo hi : Nat} {v v' : Value} {cl zs : List Value} (hS : St W M T n G D F a w) (he : elI P t = some (e, R.size, bt)) (hz : zeroI P e = some zs) (hx : ev G x = some v') (i : Nat) (hi_ : D[i]? = some (.own v e R.size cl)) (p : Nat) (hp : F[p]? = some (RowsF R cl xs)) {m0 : Nat} (hw : Win R.size v v' lo hi m0) (hr : R.rel (dT T D) w zs z0)
    (k : ∀ cl' w', Kt (fun j => v.ownBlock = some j) w w' → St W M T n G (D.set i (.own v e R.size cl')) (RowsF R cl' (xs.take lo ++ List.replicate (hi - lo) z0 ++ xs.drop hi) :: F) a w' → K a w') : OpK P ⟨none, .call { callee := .builtin .clear, args := #[x], argTypes := #[t] }, ty, pos, af, g⟩ a w K := by
  obtain ⟨hown, hsz⟩ := hS.own _ (List.mem_of_getElem? hi_)
  have hrow : RowsOk R (dT T D) w cl xs := hS.get p hp
  obtain ⟨A, c, hv, hnc, hlh, hhn, hv'⟩ := hw
  obtain rfl : m0 = xs.length := own_len_of hown hsz hrow hv
  obtain ⟨ht, _⟩ := elI_el he
  obtain ⟨z, hzl, hzr⟩ := zeroI_run hz w
  have hx' := hS.ev hx
  by_cases h0 : hi - lo = 0
  · have h1 : (execOp a.eval ⟨none, .call { callee := .builtin .clear, args := #[x], argTypes := #[t] }, ty, pos, af, g⟩).run P w = .ok (.value (.tuple #[])) w := by
      rw [h0] at hv'
      subst hv'
      simp only [execOp, resolve, invoke, builtin]
      generalize (if c = lo then A else A.map (·.add (lo * R.size))) = A' at hx' 
      cases A' <;> simp [Builtin.clear_, hx', run_underlying ht]
    refine kval h1 (k cl w (Kt.refl _ _) ?_)
    rw [h0]
    have e1 : xs.take lo ++ List.replicate 0 z0 ++ xs.drop hi = xs := by
      rw [List.replicate_zero, List.append_nil, show hi = lo by omega, List.take_append_drop]
    rw [e1]
    have h2 := (hS.fact (RowsF R cl xs) hrow).turn hi_ (w' := w) (Kt.refl _ _) (r' := .own v e R.size cl) ⟨hown, hsz⟩ (fun j hj => .inl hj)
    exact h2
  · have hrows := RowsOk.rep hr (hi - lo)
    have hlen := hrows.1
    rw [List.length_replicate] at hlen
    have hclen := hrow.1
    have q1 : lo * R.size + (hi - lo) * R.size ≤ cl.length := by
      rw [hclen, ← Nat.add_mul]; exact Nat.mul_le_mul_right _ (by omega)
    have q2 : 0 < (hi - lo) * R.size := Nat.mul_pos (by omega) hsz
    obtain ⟨gb, off, m, c', cs, hv2, h1, hmc, hg, hcs, hown', hcell, hfree⟩ := hown.mid (us := (List.replicate (hi - lo) zs).flatten) (lo * R.size) (by rw [hlen]; exact q1) (by rw [hlen]; exact q2)
    have hrow' := hrow.mid hrows (lo := lo) (by rw [List.length_replicate]; omega)
    rw [List.length_replicate, show lo + (hi - lo) = hi by omega] at hrow'
    rw [hv] at hv2
    injection hv2 with e1 e2 e3
    subst e1 e2 e3
    have hA : (if c = lo then (some ⟨gb, off, none⟩ : Option Addr) else (some (⟨gb, off, none⟩ : Addr)).map (·.add (lo * R.size))) = some ⟨gb, off + lo * R.size, none⟩ := by
      rw [if_neg (by omega)]; simp [addr_add]
    rw [hA] at hv'
    subst hv'
    have hst := run_storeCells_cells (P := P) gb (off + lo * R.size) (List.replicate (hi - lo) zs).flatten 0 w (by simpa using hcell) (by simpa using hfree) (hrows.cell hsz)
    simp only [Nat.add_zero] at hst
    have hzc : (Builtin.zeroCells z.cells (hi - lo)).toList = (List.replicate (hi - lo) zs).flatten := by rw [zeroCells_flat, hzl]
    have h1 : (execOp a.eval ⟨none, .call { callee := .builtin .clear, args := #[x], argTypes := #[t] }, ty, pos, af, g⟩).run P w = .ok (.value (.tuple #[])) (w.setCells gb (off + lo * R.size) (List.replicate (hi - lo) zs).flatten) := by
      obtain ⟨m', hm'⟩ : ∃ m', hi - lo = m' + 1 := ⟨hi - lo - 1, by omega⟩
      rw [hm'] at hx' hzc hst ⊢
      simp [execOp, resolve, invoke, builtin, Builtin.clear_, hx', run_underlying ht, hzr, hzc, hst]
    subst hv
    have hkt : Kt (fun j => (Value.slice (some ⟨gb, off, none⟩) xs.length c).ownBlock = some j) w (w.setCells gb (off + lo * R.size) (List.replicate (hi - lo) zs).flatten) := (Kt.setCells _ _ _ _).mono fun j h => by rw [h]; rfl
    refine kval h1 (k (setL cl (lo * R.size) (List.replicate (hi - lo) zs).flatten) _ hkt ?_)
    exact (hS.fact (RowsF R _ _) hrow').turn hi_ hkt (r' := .own (.slice (some ⟨gb, off, none⟩) xs.length c) e R.size (setL cl (lo * R.size) (List.replicate (hi - lo) zs).flatten)) ⟨hown', hsz⟩ (fun j hj => .inl hj)
/-- an element of a window -/
theorem d_indexw {α : Type} {R : Rep α} {xs : List α} {x : α} {t e e' : TypeId} {v v' : Value} {cl : List Value} {i : Int} {lo hi : Nat} {ag : Bool} (hS : St W M T n G D F a w) (ht : isSl P t = some e) (he : tyI P e = some (ag, R.size)) (q : Nat) (hq : D[q]? = some (.own v e' R.size cl)) (j : Nat) (hj : F[j]? = some (RowsF R cl xs)) {m0 : Nat} (hw : Win R.size v v' lo hi m0) (h0 : decide (0 ≤ i) = true) (h1 : decide (i < ((hi - lo : Nat) : Int)) = true) (hg : getI xs ((lo : Int) + i) = some x) :
    ∃ b o p cs, R.rel (dT T D) w cs x ∧ Oel v b o R.size ((lo : Int) + i) p ∧ (∀ k u, cs[k]? = some u → cl[p + k]? = some u) ∧ (∀ {E : Nat → Prop} {d : Option Nat} {ty : TypeId} {X Y : Operand} {pos : String} {af : Array Edge} {g : Option (Nat × Bool)} {k : IntKind}, ev G X = some v' → ev G Y = some (.int k i) → Ye P ⟨d, .indexAddr t X Y, ty, pos, af, g⟩ a E w (.pointer (some ⟨b, o, none⟩))) := by
  obtain ⟨b, off, c, rfl, cs, g1, g2⟩ := own_get hS q hq j hj hg
  have h0 := of_decide_eq_true h0
  have h1 := of_decide_eq_true h1
  obtain ⟨A, c2, hv, hnc, hlh, hhn, rfl⟩ := hw
  injection hv with e1 e2 e3
  subst e1 e2 e3
  have hA : (if c = lo then (some ⟨b, off, none⟩ : Option Addr) else (some (⟨b, off, none⟩ : Addr)).map (·.add (lo * R.size))) = some ⟨b, off + lo * R.size, none⟩ := by
    rw [if_neg (by omega)]; simp [addr_add]
  rw [hA]
  have he2 : off + ((lo : Int) + i).toNat * R.size = off + lo * R.size + i.toNat * R.size := by
    rw [show ((lo : Int) + i).toNat = lo + i.toNat by omega, Nat.add_mul]; omega
  refine ⟨b, off + ((lo : Int) + i).toNat * R.size, _, cs, g1, ⟨off, _, _, rfl, rfl, rfl⟩, g2, fun hX hY => Ye.of fun w => ?_⟩
  rw [he2]
  simp [execOp, hS.ev hX, hS.ev hY, run_indexAt ht he h0 h1]
/-- how long a window is -/
theorem y_lenw {d : Option Nat} {x : Operand} {t e : TypeId} {ty : TypeId} {pos : String} {af : Array Edge} {g : Option (Nat × Bool)} {sz : Nat} {v v' : Value} {lo hi m : Nat} (hS : St W M T n G D F a w) (ht : isSl P t = some e) (hx : ev G x = some v') (hw : Win sz v v' lo hi m) :
    Ye P ⟨d, .call { callee := .builtin .len, args := #[x], argTypes := #[t] }, ty, pos, af, g⟩ a E w (.int .i64 ((hi - lo : Nat) : Int)) := by
  obtain ⟨A, c2, hv, hnc, hlh, hhn, rfl⟩ := hw
  exact y_lenv hS ht hx ⟨_, _, rfl⟩
theorem Fact.dn (f : Fact) {T : Nat → Prop} {w : World} (h : f.p T w) : f.p (dT T []) w := f.keep h (Kt.refl _ _) fun k hk => by
  rcases hk with hk | ⟨r, hr, _⟩
  · exact .inl hk
  · cases hr
end
section
variable {κ ν : Type} {P : Program} {W : World} {M T E : Nat → Prop} {n : Nat} {G G' : List (Nat × Value)} {D D' : List Res} {F F' : List Fact} {a : Act} {w w' : World} {K : Act → World → Prop}
variable {kt et : TypeId} {RK : Rep κ} {ak : Bool} {RV : Rep ν} {av : Bool} {q : κ → κ → Bool} {b clock : Nat} {es : Array MapEntry} {xs : List (κ × ν)}
/-- a key taken out of a map of the call's own -/
theorem k_mdel {t t2 ty : TypeId} {X Y : Operand} {pos : String} {af : Array Edge} {g : Option (Nat × Bool)} (hS : St W M T n G D F a w) (ht : mpI P t = some (kt, et)) (hK : KeyT P kt RK ak q) (i : Nat) (hi : D[i]? = some (.obj b (.map es clock))) (j : Nat) (hj : F[j]? = some (MapF RK ak RV av es xs))
    {c : List Value} {key : κ} (hc : RK.rel (dT T D) w c key) (hX : ev G X = some (.map (some b))) (hY : ev G Y = some (valOf ak c))
    (k : ∀ es' ck' w', Kt (fun j => j = b) w w' → St W M T n G (D.set i (.obj b (.map es' ck'))) (MapF RK ak RV av es' (mdel q key xs) :: F) a w' → K a w') : OpK P ⟨none, .call { callee := .builtin .delete, args := #[X, Y], argTypes := #[t, t2] }, ty, pos, af, g⟩ a w K := by
  have hr : w.heap[b]? = some (.map es clock) := hS.own _ (List.mem_of_getElem? hi)
  have hm := hS.mapOk j hj
  obtain ⟨hl, hkeys⟩ := mapKeys hm
  have hf := find_run hK hc w hl hkeys
  have hch := hK.check es.isEmpty _ _ w _ _ hc
  have fin : ∀ es' ck', (Builtin.delete_ #[t, t2] ty #[.map (some b), valOf ak c]).run P w = .ok (.tuple #[]) { w with heap := w.heap.setIfInBounds b (.map es' ck') } → MapOk RK ak RV av (dT T D) w es' (mdel q key xs) → OpK P ⟨none, .call { callee := .builtin .delete, args := #[X, Y], argTypes := #[t, t2] }, ty, pos, af, g⟩ a w K := fun es' ck' hrun hok => by
    refine kval (w' := { w with heap := w.heap.setIfInBounds b (.map es' ck') }) (v := .tuple #[]) (by simp [execOp, resolve, invoke, builtin, hS.ev hX, hS.ev hY, hrun]) (k es' ck' _ ((set_kt hr).mono fun j hj => (Option.some.inj hj).symm) ?_)
    exact (hS.fact (MapF RK ak RV av es' _) hok).turn hi (set_kt hr) (r' := .obj b (.map es' ck')) (hset hr).1 fun j hj => .inl hj
  cases hp : mpos q key xs with
  | none =>
    obtain ⟨_, _, g3⟩ := mpos_none hp
    rw [hp] at hf
    refine fin es clock ?_ (by rw [g3]; exact hm)
    simp [Builtin.delete_, run_underlying (mpI_und ht), gobj hr, hch, hf, atP, sobj _ hr]
  | some p =>
    obtain ⟨x0, hx0, hq0, _, _, g3⟩ := mpos_some hp
    have hpi : p < es.size := by rw [hm.1]; exact (List.getElem?_eq_some_iff.1 hx0).1
    have he0 : es[p]? = some es[p] := Array.getElem?_eq_getElem hpi
    rw [hp] at hf
    have hat : atP es.toList 0 (some p) = some (p, es[p].val) := by simp [atP, he0]
    rw [hat] at hf
    refine fin (es.eraseIdxIfInBounds p) clock ?_ ⟨?_, fun z e x he hx => ?_⟩
    · simp [Builtin.delete_, run_underlying (mpI_und ht), gobj hr, hch, hf, sobj _ hr]
    · rw [g3]
      have h1 : (es.eraseIdxIfInBounds p).size = es.size - 1 := by simp [Array.eraseIdxIfInBounds, hpi]
      rw [h1, List.length_eraseIdx, if_pos (by rw [← hm.1]; exact hpi), hm.1]
    · rw [g3, List.getElem?_eraseIdx] at hx
      have he2 : (es.eraseIdxIfInBounds p)[z]? = if z < p then es[z]? else es[z + 1]? := by
        simp only [Array.eraseIdxIfInBounds, hpi, dif_pos]
        rw [Array.getElem?_eraseIdx]
      rw [he2] at he
      split at hx
      · rename_i hz
        rw [if_pos hz] at he
        exact hm.2 z e x he hx
      · rename_i hz
        rw [if_neg hz] at he
        exact hm.2 (z + 1) e x he hx
end
end Go.Proofs.YtpbbnkpplcnaoaaGreatDoor

/- A frame for walks: an append whose first row is still looked at. -/
set_option linter.unusedVariables false
set_option linter.unusedSimpArgs false
namespace Go.Proofs.YtpbbnkpplcnaoaaGreatDoor
open Go.RowKit

section
variable {P : Program} {W : World} {M T E : Nat → Prop} {n : Nat} {G G' : List (Nat × Value)} {D D' D0 Dr rs : List Res} {F F' : List Fact} {a : Act} {w w' : World} {K : Act → World → Prop}
/-- an append leaves the old row as it was -/
theorem run_append_keep (w : World) (t ty e : TypeId) (size bytes : Nat) (E : Elem P t e size bytes) (B : Nat) (v : Value) (xs : List Value) (hown : Own w B e size v xs)
    (A : Option Addr) (m c : Nat) (news : List Value) (hl : news.length = m * size) (hat : At w A news) (h1 : ∀ u ∈ news, u.oneCell' = true)
    (h63 : xs.length + news.length ≤ maxLen) (hbytes : (xs.length + news.length) * bytes ≤ 140737488355328) (hbase : B ≤ w.heap.size) {v' : Value} {w' : World}
    (hrun : (Builtin.append_ #[t, t] ty #[v, .slice A m c]).run P w = .ok v' w') : Own w' B e size v xs := by
  obtain ⟨ht, ⟨i, z, hi, hz, hsize, hby, hzs⟩, hpos⟩ := E
  subst hsize hby
  by_cases hm : m = 0
  · subst hm
    rcases hown with ⟨rfl, rfl⟩ | ⟨g, off, n, cap, cs, rfl, a1, hb, hg, hnc, hc, hsz, hcs⟩
    · rw [run_append_none w t ty e i ht hi none 0 0 c A (Nat.le_refl _)] at hrun
      injection hrun with _ h; subst h
      exact .inl ⟨rfl, rfl⟩
    · rw [run_append_none w t ty e i ht hi _ n cap c A hnc] at hrun
      injection hrun with _ h; subst h
      exact .inr ⟨g, off, n, cap, cs, rfl, a1, hb, hg, hnc, hc, hsz, hcs⟩
  · have hne : news ≠ [] := by rintro rfl; rw [List.length_nil] at hl; rcases Nat.mul_eq_zero.1 hl.symm with h | h <;> omega
    obtain ⟨sb, soff, rfl, hcell⟩ : ∃ b off, A = some ⟨b, off, none⟩ ∧ ∀ j u, news[j]? = some u → w.cell? ⟨b, off + j, none⟩ = some u := by
      rcases hat with h | h
      · exact absurd h hne
      · exact h
    have hcell' : ∀ j u, news[j]? = some u → w.cell? ((⟨sb, soff, none⟩ : Addr).add j) = some u := fun j u hu => by rw [Addr.add_lit]; exact hcell j u hu
    have hmn : m ≤ news.length := by rw [hl]; exact Nat.le_mul_of_pos_right _ hpos
    rcases hown with ⟨rfl, rfl⟩ | ⟨g, off, n, cap, cs, rfl, a1, hb, hg, hnc, hc, hsz, hcs⟩
    · exact .inl ⟨rfl, rfl⟩
    · have hnx : n ≤ xs.length := by rw [a1]; exact Nat.le_mul_of_pos_right _ hpos
      by_cases hroom : n + m ≤ cap
      · have hfit : off + n * i.size + news.length ≤ cs.size := by
          have : (n + m) * i.size ≤ cap * i.size := Nat.mul_le_mul_right _ hroom
          rw [hl]; rw [Nat.add_mul] at this; omega
        have hr := run_append_room_cells (P := P) w t ty e i ht hi g off n cap ⟨sb, soff, none⟩ m c news hl hcell' h1 hroom
          (fun j hj => by rw [hg.cell, Array.getElem?_eq_getElem (by omega)]; rfl)
          (fun j hj => hg.free (by omega))
        obtain ⟨fz, hg0, hfz⟩ := id hg
        obtain ⟨cs', c1, c2, c3, c4⟩ := setCells_block g e fz news (off + n * i.size) w cs hg0
        rw [hr] at hrun
        injection hrun with _ h; subst h
        refine .inr ⟨g, off, n, cap, cs', rfl, a1, hb, ⟨fz, c1, by rw [c2]; exact hfz⟩, hnc, hc, by rw [c2]; exact hsz, fun j u hu => ?_⟩
        have hj : j < xs.length := (List.getElem?_eq_some_iff.1 hu).1
        rw [c3 _ (by omega)]
        exact hcs j u hu
      · have hr := run_append_grow (P := P) w t ty e i z ht hi hz ⟨g, off, none⟩ n cap xs a1 (fun j u hu => by rw [Addr.add_lit, hg.cell]; exact hcs j u hu)
          ⟨sb, soff, none⟩ m c news hl hcell' (by omega) (by simp only [maxLen] at h63; omega)
          (growslice_fits (by omega) (by
            have h2 : (n + m) * i.bytes ≤ (xs.length + news.length) * i.bytes := Nat.mul_le_mul_right _ (by omega)
            omega))
        rw [hr] at hrun
        injection hrun with _ h; subst h
        exact .inr ⟨g, off, n, cap, cs, rfl, a1, hb, hg.eqb (Below.heap_alloc w.drew _ g hg.lt), hnc, hc, hsz, hcs⟩
/-- what a call holds alone, nothing else of its own holds -/
theorem St.notD {r : Res} (h : St W M T n G D F a w) (i : Nat) (hi : D[i]? = some r) {k : Nat} (hk : r.dom k) : ¬ dT T (D.eraseIdx i) k := by
  have hlt := (List.getElem?_eq_some_iff.1 hi).1
  have hD := (List.getElem?_eq_some_iff.1 hi).2
  rintro (hT | ⟨s, hs, hT⟩)
  · exact (h.free _ (List.mem_of_getElem? hi) k hk).1 hT
  · obtain ⟨z, hz⟩ := List.mem_iff_getElem?.1 hs
    rw [List.getElem?_eraseIdx] at hz
    split at hz
    · rename_i hzi
      have hzl := (List.getElem?_eq_some_iff.1 hz).1
      have := List.pairwise_iff_getElem.1 h.apart z i hzl hlt hzi k (by rw [(List.getElem?_eq_some_iff.1 hz).2]; exact hT)
      rw [hD] at this; exact this hk
    · rename_i hzi
      have hzl := (List.getElem?_eq_some_iff.1 hz).1
      have := List.pairwise_iff_getElem.1 h.apart i (z + 1) hlt hzl (by omega) k (by rw [hD]; exact hk)
      rw [(List.getElem?_eq_some_iff.1 hz).2] at this; exact this hT
/-- append of a slice; the first row is looked at behind it: neither turns any more -/
theorem k_appskeep {α : Type} {R : Rep α} {xs ys : List α} {d : Nat} {ty t e : TypeId} {s x : Operand} {pos : String} {af : Array Edge} {g : Option (Nat × Bool)} {bt : Nat} {v u : Value} {cl : List Value} (hS : St W M T n G D F a w) (he : elI P t = some (e, R.size, bt)) (hb : Nat.ble (R.size * bt) 32768 = true) (hbs : Nat.ble R.size 32768 = true) (hs : ev G s = some v) (hx : ev G x = some u) (i : Nat) (hi : D[i]? = some (.own v e R.size cl)) (p : Nat) (hp : F[p]? = some (RowsF R cl xs)) (q : Nat) (hq : F[q]? = some (SlF R u ys)) (hroom : roomB (xs.length + ys.length) = true) (hn : Nat.blt d n = true)
    (k : ∀ v' cl' a w', Kt (fun j => v.ownBlock = some j) w w' → St W M T n ((d, v') :: G) (D.eraseIdx i) (SlF R v xs :: SlF R v' (xs ++ ys) :: RowsF R cl' (xs ++ ys) :: F) a w' → K a w') : OpK P ⟨some d, .call { callee := .builtin .append, args := #[s, x], argTypes := #[t, t] }, ty, pos, af, g⟩ a w K := by
  obtain ⟨hown, hsz⟩ := hS.own _ (List.mem_of_getElem? hi)
  have hrow : RowsOk R (dT T D) w cl xs := hS.get p hp
  have hsl : SlR R (dT T D) w u ys := hS.get q hq
  obtain ⟨A, c, rfl, _⟩ := id hsl
  obtain ⟨_, cs, hat, hr⟩ := hsl.rows hsz
  have h1 := roomB_le hroom
  have q1 := Nat.le_of_ble_eq_true hb
  have q2 := Nat.le_of_ble_eq_true hbs
  have hz : (cl.length + cs.length) ≤ 4294967296 * R.size := by rw [hrow.1, hr.1, ← Nat.add_mul]; exact Nat.mul_le_mul_right _ h1
  have q3 : (cl.length + cs.length) * bt ≤ 4294967296 * (R.size * bt) := by rw [← Nat.mul_assoc]; exact Nat.mul_le_mul_right _ hz
  obtain ⟨v', w', hrun, g2, g3, g4⟩ := run_append_Own (P := P) w t ty e R.size bt (elI_el he) 0 v cl hown A ys.length c cs hr.1 hat (hr.cell hsz) (by unfold maxLen; omega) (by omega) (Nat.zero_le _)
  have g5 := run_append_keep (P := P) w t ty e R.size bt (elI_el he) 0 v cl hown A ys.length c cs hr.1 hat (hr.cell hsz) (by unfold maxLen; omega) (by omega) (Nat.zero_le _) hrun
  have hex : (execOp a.eval ⟨some d, .call { callee := .builtin .append, args := #[s, x], argTypes := #[t, t] }, ty, pos, af, g⟩).run P w = .ok (.value v') w' := by
    simp only [execOp, resolve, invoke, builtin, Sem.run_bind, Sem.run_pure, Result.andThen_ok, List.map_toArray, List.map_cons, List.map_nil, hS.ev hs, hS.ev hx, hrun]
  have h5 := hS.fact (RowsF R (cl ++ cs) (xs ++ ys)) (hrow.append hr)
  have h6 := h5.turn hi (Kt.grown g3) (r' := .own v' e R.size (cl ++ cs)) ⟨g2, hsz⟩ (fun j hj => by
    rcases g4 with g4 | g4
    · have hj : v'.ownBlock = some j := hj
      rw [g4] at hj; exact .inl hj
    · have hj : v'.ownBlock = some j := hj
      rw [g4] at hj; injection hj with hj; exact .inr (by omega))
  have hlt := (List.getElem?_eq_some_iff.1 hi).1
  have h7 := h6.freeze (R := R) i (by rw [List.getElem?_set_self hlt]) 0 rfl
  rw [List.eraseIdx_set_eq] at h7
  have h8 : SlR R (dT T (D.eraseIdx i)) w' v xs := by
    refine Own.rd hsz g5 (hrow.keep ((Kt.grown g3).mono fun j hj => .inr ⟨_, List.mem_of_getElem? hi, hj⟩) fun k hk => .inl (dT_erase k hk)) fun k hk => hS.notD i hi hk
  exact kval hex (k v' (cl ++ cs) _ w' (Kt.grown g3) ((h7.fact (SlF R v xs) h8).put hn v'))
end
end Go.Proofs.YtpbbnkpplcnaoaaGreatDoor

/- A frame for walks: rows whose elements hold rows of the call's own. -/
set_option linter.unusedVariables false
set_option linter.unusedSimpArgs false
namespace Go.Proofs.YtpbbnkpplcnaoaaGreatDoor
open Go.RowKit

/-- how rows lie in the elements of another one: α the data, ν the cells as they are, β the data of an inner row's elements -/
structure Nst (α ν β : Type) where
  R : Rep α
  RN : Rep ν
  RI : Rep β
  et : TypeId
  get : α → List β
  put : List β → α → α
  nf : Value → α → ν
  size : RN.size = R.size
  pos : 0 < RI.size
  close : ∀ {T : Nat → Prop} {w : World} {cs : List Value} {v : Value} {x : α}, RN.rel T w cs (nf v x) → SlR RI T w v (get x) → R.rel T w cs x
  gp : ∀ l x, get (put l x) = l
  np : ∀ v l x, nf v (put l x) = nf v x
def nilO (e : TypeId) (sz : Nat) : OwnT := ⟨.slice none 0 0, e, sz, []⟩
section
variable {α ν β : Type} (N : Nst α ν β)
def Nst.no : OwnT := nilO N.et N.RI.size
def nzip (inn : List OwnT) (xs : List α) : List ν := List.zipWith (fun o x => N.nf o.v x) inn xs
/-- the inner rows' contents -/
def InnF (inn : List OwnT) (xs : List α) : Fact := ⟨fun T w => inn.length = xs.length ∧ ∀ (i : Nat) (o : OwnT) (x : α), inn[i]? = some o → xs[i]? = some x → o.e = N.et ∧ o.sz = N.RI.size ∧ RowsOk N.RI T w o.cl (N.get x),
  fun h k n => ⟨h.1, fun i o x ho hx => by obtain ⟨h1, h2, h3⟩ := h.2 i o x ho hx; exact ⟨h1, h2, h3.keep k n⟩⟩⟩
variable {N}
theorem nz_len {inn : List OwnT} {xs : List α} (h : inn.length = xs.length) : (nzip N inn xs).length = xs.length := by unfold nzip; simp [h]
theorem nz_get {T : Nat → Prop} {w : World} {inn : List OwnT} {xs : List α} (h : (InnF N inn xs).p T w) {i : Int} {x : α} (hx : getI xs i = some x) : ∃ o, inn[i.toNat]? = some o ∧ getI (nzip N inn xs) i = some (N.nf o.v x) := by
  obtain ⟨q1, q2, q3⟩ := getI_some hx
  have hl : i.toNat < inn.length := by rw [h.1]; omega
  refine ⟨inn[i.toNat], List.getElem?_eq_getElem hl, ?_⟩
  unfold getI nzip
  rw [if_pos q1, List.getElem?_zipWith, List.getElem?_eq_getElem hl, q3]
theorem nz_set {inn : List OwnT} {xs : List α} {i : Nat} {o : OwnT} {x : α} (h : inn.length = xs.length) : (nzip N inn xs).set i (N.nf o.v x) = nzip N (inn.set i o) (xs.set i x) := by
  unfold nzip
  refine List.ext_getElem? fun j => ?_
  rw [List.getElem?_set, List.getElem?_zipWith, List.getElem?_zipWith, List.getElem?_set, List.getElem?_set]
  by_cases hij : i = j
  · subst hij
    by_cases hl : i < xs.length
    · simp [h, hl]
    · simp [h, hl]
  · simp [hij]
theorem nz_rep (n : Nat) (z : α) : nzip N (List.replicate n N.no) (List.replicate n z) = List.replicate n (N.nf (.slice none 0 0) z) := by
  unfold nzip; simp [Nst.no, nilO]
variable {P : Program} {W : World} {M T E : Nat → Prop} {n : Nat} {G G' : List (Nat × Value)} {D D' D0 Dr rs : List Res} {F F' : List Fact} {a : Act} {w w' : World} {K : Act → World → Prop}
theorem nil_own (e : TypeId) (sz : Nat) (hs : 0 < sz) (w : World) : (nilO e sz).ok w := ⟨Own.nil_ _ _ _ _, hs⟩
theorem nil_dom {e : TypeId} {sz k : Nat} : (nilO e sz).v.ownBlock ≠ some k := by simp [nilO, Value.ownBlock]
/-- a group of rows that are all nil -/
theorem St.grpNil (hS : St W M T n G D F a w) (m : Nat) (z : α) (hz : N.get z = []) : St W M T n G (.grp (List.replicate m N.no) :: D) (InnF N (List.replicate m N.no) (List.replicate m z) :: F) a w := by
  have hall : ∀ o ∈ List.replicate m N.no, o = N.no := fun o ho => (List.mem_replicate.1 ho).2
  have h1 := hS.add (Kt.refl _ _) (.grp (List.replicate m N.no)) ⟨fun o ho => by rw [hall o ho]; exact nil_own _ _ N.pos _, by
      rw [List.pairwise_iff_getElem]
      intro i j hi hj hij k hk
      rw [hall _ (List.getElem_mem hi)] at hk
      exact absurd hk nil_dom⟩ (fun k ⟨o, ho, hk⟩ => by rw [hall o ho] at hk; exact absurd hk nil_dom)
  refine h1.fact _ ⟨by simp, fun i o x ho hx => ?_⟩
  have e1 := hall o (List.mem_of_getElem? ho)
  have e2 := (List.mem_replicate.1 (List.mem_of_getElem? hx)).2
  subst e1 e2
  rw [hz]
  exact ⟨rfl, rfl, RowsOk.nil_ _ _ _⟩
/-- one block is given from one to another -/
theorem St.resplit (hS : St W M T n G D F a w) {D' : List Res} (ho : ∀ r ∈ D', r.ok w) (hd : ∀ r ∈ D', ∀ k, r.dom k → ∃ s ∈ D, s.dom k) (hp : D'.Pairwise fun r s => ∀ k, r.dom k → ¬ s.dom k) : St W M T n G D' F a w :=
  ⟨hS.size, hS.defers, hS.slots, hS.base, ho, fun r hr k hk => by obtain ⟨s, hs, hk2⟩ := hd r hr k hk; exact hS.free s hs k hk2, hp, fun f hf => f.keep (hS.facts f hf) (Kt.refl _ _) (fun k hk => .inl (by
    rcases hk with hk | ⟨r, hr, hk⟩
    · exact .inl hk
    · obtain ⟨s, hs, hk2⟩ := hd r hr k hk; exact .inr ⟨s, hs, hk2⟩)), hS.tlt⟩
theorem mem_set_of {γ : Type} {l : List γ} {i : Nat} {x y : γ} (h : y ∈ l.set i x) : y = x ∨ ∃ j, j ≠ i ∧ l[j]? = some y := by
  obtain ⟨j, hj⟩ := List.mem_iff_getElem?.1 h
  rw [List.getElem?_set] at hj
  split at hj
  · split at hj
    · injection hj with hj; exact .inl hj.symm
    · cases hj
  · rename_i hne
    exact .inr ⟨j, fun e => hne e.symm, hj⟩
/-- one of the group's rows is taken out, for a while -/
theorem St.focus {inn : List OwnT} {xs : List α} {x : α} {o : OwnT} (hS : St W M T n G D F a w) (q : Nat) (hq : D[q]? = some (.grp inn)) (j : Nat) (hj : F[j]? = some (InnF N inn xs)) {i : Int} (hx : getI xs i = some x) (ho : inn[i.toNat]? = some o) :
    St W M T n G (.own o.v N.et N.RI.size o.cl :: D.set q (.grp (inn.set i.toNat N.no))) (RowsF N.RI o.cl (N.get x) :: InnF N (inn.set i.toNat N.no) (xs.set i.toNat (N.put [] x)) :: F) a w := by
  obtain ⟨q1, q2, q3⟩ := getI_some hx
  have hI : (InnF N inn xs).p (dT T D) w := hS.get j hj
  obtain ⟨e1, e2, e3⟩ := hI.2 _ o x ho q3
  have hql := (List.getElem?_eq_some_iff.1 hq).1
  have hqe := (List.getElem?_eq_some_iff.1 hq).2
  have hg := hS.own _ (List.mem_of_getElem? hq)
  obtain ⟨hg1, hg2⟩ : (∀ o ∈ inn, o.ok w) ∧ inn.Pairwise (fun (r s : OwnT) => ∀ k, r.v.ownBlock = some k → s.v.ownBlock ≠ some k) := hg
  have hoi := (List.getElem?_eq_some_iff.1 ho).1
  have hoe := (List.getElem?_eq_some_iff.1 ho).2
  have hown := hg1 o (List.mem_of_getElem? ho)
  have hne : ∀ j' o', j' ≠ i.toNat → inn[j']? = some o' → ∀ k, o.v.ownBlock = some k → o'.v.ownBlock ≠ some k := by
    intro j' o' hj' ho' k hk hk'
    obtain ⟨l1, l2⟩ := List.getElem?_eq_some_iff.1 ho'
    rcases Nat.lt_or_gt_of_ne hj' with h | h
    · exact List.pairwise_iff_getElem.1 hg2 j' i.toNat l1 hoi h k (by rw [l2]; exact hk') (by rw [hoe]; exact hk)
    · exact List.pairwise_iff_getElem.1 hg2 i.toNat j' hoi l1 h k (by rw [hoe]; exact hk) (by rw [l2]; exact hk')
  have hsub : ∀ k, (Res.grp (inn.set i.toNat N.no)).dom k → (Res.grp inn).dom k ∧ o.v.ownBlock ≠ some k := by
    rintro k ⟨o', ho', hk⟩
    rcases mem_set_of ho' with rfl | ⟨j', hj', ho'⟩
    · exact absurd hk nil_dom
    · exact ⟨⟨o', List.mem_of_getElem? ho', hk⟩, fun h => hne j' o' hj' ho' k h hk⟩
  have h1 : St W M T n G (.own o.v N.et N.RI.size o.cl :: D.set q (.grp (inn.set i.toNat N.no))) F a w := by
    refine hS.resplit ?_ ?_ ?_
    · intro r hr
      rcases List.mem_cons.1 hr with rfl | hr
      · have := hown; rw [OwnT.ok, e1, e2] at this; exact this
      · rcases mem_set_of hr with rfl | ⟨j', hj', hr⟩
        · refine ⟨fun o' ho' => ?_, ?_⟩
          · rcases mem_set_of ho' with rfl | ⟨j', hj', ho'⟩
            · exact nil_own _ _ N.pos _
            · exact hg1 o' (List.mem_of_getElem? ho')
          · rw [List.pairwise_iff_getElem]
            intro x' y' hx' hy' hxy k hk hk'
            rw [List.getElem_set] at hk hk'
            split at hk
            · exact absurd hk nil_dom
            · split at hk'
              · exact absurd hk' nil_dom
              · exact List.pairwise_iff_getElem.1 hg2 x' y' (by simpa using hx') (by simpa using hy') hxy k hk hk'
        · exact hS.own r (List.mem_of_getElem? hr)
    · intro r hr k hk
      rcases List.mem_cons.1 hr with rfl | hr
      · exact ⟨_, List.mem_of_getElem? hq, o, List.mem_of_getElem? ho, hk⟩
      · rcases mem_set_of hr with rfl | ⟨j', hj', hr⟩
        · exact ⟨_, List.mem_of_getElem? hq, (hsub k hk).1⟩
        · exact ⟨r, List.mem_of_getElem? hr, hk⟩
    · refine List.pairwise_cons.2 ⟨fun s hs k hk hk' => ?_, ?_⟩
      · rcases mem_set_of hs with rfl | ⟨j', hj', hs⟩
        · exact (hsub k hk').2 hk
        · obtain ⟨l1, l2⟩ := List.getElem?_eq_some_iff.1 hs
          have hkg : (D[q]).dom k := by rw [hqe]; exact ⟨o, List.mem_of_getElem? ho, hk⟩
          rcases Nat.lt_or_gt_of_ne hj' with h | h
          · exact List.pairwise_iff_getElem.1 hS.apart j' q l1 hql h k (by rw [l2]; exact hk') hkg
          · exact List.pairwise_iff_getElem.1 hS.apart q j' hql l1 h k hkg (by rw [l2]; exact hk')
      · rw [List.pairwise_iff_getElem]
        intro x' y' hx' hy' hxy k hk hk'
        have old : ∀ z (hz : z < (D.set q (.grp (inn.set i.toNat N.no))).length), (D.set q (.grp (inn.set i.toNat N.no)))[z].dom k → (D[z]'(by simpa using hz)).dom k := by
          intro z hz hk
          rw [List.getElem_set] at hk
          split at hk
          · rename_i e; subst e; rw [hqe]; exact (hsub k hk).1
          · exact hk
        exact List.pairwise_iff_getElem.1 hS.apart x' y' (by simpa using hx') (by simpa using hy') hxy k (old _ hx' hk) (old _ hy' hk')
  have hnw : ∀ k, dT T (.own o.v N.et N.RI.size o.cl :: D.set q (.grp (inn.set i.toNat N.no))) k → dT T D k := by
    rintro k (hk | ⟨r, hr, hk⟩)
    · exact .inl hk
    · rcases List.mem_cons.1 hr with rfl | hr
      · exact .inr ⟨_, List.mem_of_getElem? hq, o, List.mem_of_getElem? ho, hk⟩
      · rcases mem_set_of hr with rfl | ⟨j', hj', hr⟩
        · exact .inr ⟨_, List.mem_of_getElem? hq, (hsub k hk).1⟩
        · exact .inr ⟨r, List.mem_of_getElem? hr, hk⟩
  refine (h1.fact (InnF N (inn.set i.toNat N.no) (xs.set i.toNat (N.put [] x))) ⟨by simp [hI.1], fun j' o' x' ho' hx' => ?_⟩).fact (RowsF N.RI o.cl (N.get x)) (e3.keep (Kt.refl _ _) fun k hk => .inl (hnw k hk))
  rw [List.getElem?_set] at ho' hx'
  by_cases hij : i.toNat = j'
  · subst hij
    rw [if_pos rfl, if_pos hoi] at ho'
    rw [if_pos rfl, if_pos (by omega)] at hx'
    injection ho' with ho'
    injection hx' with hx'
    subst ho' hx'
    rw [N.gp]
    exact ⟨rfl, rfl, RowsOk.nil_ _ _ _⟩
  · rw [if_neg hij] at ho' hx'
    obtain ⟨f1, f2, f3⟩ := hI.2 j' o' x' ho' hx'
    exact ⟨f1, f2, f3.keep (Kt.refl _ _) fun k hk => .inl (hnw k hk)⟩
/-- .. and laid back -/
theorem St.unfocus {inn : List OwnT} {xs : List α} {x : α} {v : Value} {cl : List Value} {ys : List β} (hS : St W M T n G D F a w) (p : Nat) (hp : D[p]? = some (.own v N.et N.RI.size cl)) (q : Nat) (hq : D[q]? = some (.grp inn)) (hpq : p ≠ q) (j : Nat) (hj : F[j]? = some (InnF N inn xs)) (z : Nat) (hz : F[z]? = some (RowsF N.RI cl ys)) (i : Nat) (hi : inn[i]? = some N.no) :
    St W M T n G ((D.set q (.grp (inn.set i ⟨v, N.et, N.RI.size, cl⟩))).eraseIdx p) (InnF N (inn.set i ⟨v, N.et, N.RI.size, cl⟩) (xs.set i (N.put ys x)) :: F) a w := by
  have hI : (InnF N inn xs).p (dT T D) w := hS.get j hj
  have hR : RowsOk N.RI (dT T D) w cl ys := hS.get z hz
  have hql := (List.getElem?_eq_some_iff.1 hq).1
  have hqe := (List.getElem?_eq_some_iff.1 hq).2
  have hpl := (List.getElem?_eq_some_iff.1 hp).1
  have hpe := (List.getElem?_eq_some_iff.1 hp).2
  obtain ⟨hg1, hg2⟩ : (∀ o ∈ inn, o.ok w) ∧ inn.Pairwise (fun (r s : OwnT) => ∀ k, r.v.ownBlock = some k → s.v.ownBlock ≠ some k) := hS.own _ (List.mem_of_getElem? hq)
  have hown := hS.own _ (List.mem_of_getElem? hp)
  have hil := (List.getElem?_eq_some_iff.1 hi).1
  -- what the row holds, the group does not
  have hne : ∀ o ∈ inn, ∀ k, v.ownBlock = some k → o.v.ownBlock ≠ some k := by
    intro o ho k hk hk'
    have h1 : (D[p]).dom k := by rw [hpe]; exact hk
    have h2 : (D[q]).dom k := by rw [hqe]; exact ⟨o, ho, hk'⟩
    rcases Nat.lt_or_gt_of_ne hpq with h | h
    · exact List.pairwise_iff_getElem.1 hS.apart p q hpl hql h k h1 h2
    · exact List.pairwise_iff_getElem.1 hS.apart q p hql hpl h k h2 h1
  have hsub : ∀ k, (Res.grp (inn.set i ⟨v, N.et, N.RI.size, cl⟩)).dom k → (Res.grp inn).dom k ∨ v.ownBlock = some k := by
    rintro k ⟨o', ho', hk⟩
    rcases mem_set_of ho' with rfl | ⟨j', hj', ho'⟩
    · exact .inr hk
    · exact .inl ⟨o', List.mem_of_getElem? ho', hk⟩
  have mem : ∀ r, r ∈ (D.set q (.grp (inn.set i ⟨v, N.et, N.RI.size, cl⟩))).eraseIdx p → r = .grp (inn.set i ⟨v, N.et, N.RI.size, cl⟩) ∨ ∃ j', j' ≠ q ∧ j' ≠ p ∧ D[j']? = some r := by
    intro r hr
    obtain ⟨j', hj'⟩ := List.mem_iff_getElem?.1 hr
    rw [List.getElem?_eraseIdx] at hj'
    split at hj'
    · rename_i hlt
      rw [List.getElem?_set] at hj'
      split at hj'
      · injection hj' with hj'; exact .inl hj'.symm
      · rename_i hne; exact .inr ⟨j', fun e => hne e.symm, by omega, hj'⟩
    · rename_i hge
      rw [List.getElem?_set] at hj'
      split at hj'
      · injection hj' with hj'; exact .inl hj'.symm
      · rename_i hne; exact .inr ⟨j' + 1, fun e => hne e.symm, by omega, hj'⟩
  have hdd : ∀ r, r ∈ (D.set q (.grp (inn.set i ⟨v, N.et, N.RI.size, cl⟩))).eraseIdx p → ∀ k, r.dom k → ∃ s ∈ D, s.dom k := by
    intro r hr k hk
    rcases mem r hr with rfl | ⟨j', _, _, hr⟩
    · rcases hsub k hk with h | h
      · exact ⟨_, List.mem_of_getElem? hq, h⟩
      · exact ⟨_, List.mem_of_getElem? hp, h⟩
    · exact ⟨r, List.mem_of_getElem? hr, hk⟩
  have h1 : St W M T n G ((D.set q (.grp (inn.set i ⟨v, N.et, N.RI.size, cl⟩))).eraseIdx p) F a w := by
    refine hS.resplit ?_ hdd ?_
    · intro r hr
      rcases mem r hr with rfl | ⟨j', _, _, hr⟩
      · refine ⟨fun o' ho' => ?_, ?_⟩
        · rcases mem_set_of ho' with rfl | ⟨j', hj', ho'⟩
          · exact hown
          · exact hg1 o' (List.mem_of_getElem? ho')
        · rw [List.pairwise_iff_getElem]
          intro x' y' hx' hy' hxy k hk hk'
          rw [List.getElem_set] at hk hk'
          split at hk
          · split at hk'
            · omega
            · exact hne _ (List.getElem_mem _) k hk hk'
          · split at hk'
            · exact hne _ (List.getElem_mem _) k hk' hk
            · exact List.pairwise_iff_getElem.1 hg2 x' y' (by simpa using hx') (by simpa using hy') hxy k hk hk'
      · exact hS.own r (List.mem_of_getElem? hr)
    · -- each of the new list's is one of the old list's, but for the group
      have hpw : (D.eraseIdx p).Pairwise fun r s => ∀ k, r.dom k → ¬ s.dom k := hS.apart.sublist (List.eraseIdx_sublist _ _)
      rw [List.pairwise_iff_getElem]
      intro x' y' hx' hy' hxy k hk hk'
      have hlen : ((D.set q (.grp (inn.set i ⟨v, N.et, N.RI.size, cl⟩))).eraseIdx p).length = (D.eraseIdx p).length := by
        rw [List.length_eraseIdx, List.length_eraseIdx, List.length_set]
      have old : ∀ z (hz : z < ((D.set q (.grp (inn.set i ⟨v, N.et, N.RI.size, cl⟩))).eraseIdx p).length), ((D.set q (.grp (inn.set i ⟨v, N.et, N.RI.size, cl⟩))).eraseIdx p)[z].dom k → ((D.eraseIdx p)[z]'(by rw [← hlen]; exact hz)).dom k ∨ (v.ownBlock = some k) := by
        intro z hz hk
        rw [List.getElem_eraseIdx] at hk ⊢
        split at hk
        · rename_i hlt
          rw [List.getElem_set] at hk
          rw [dif_pos hlt]
          split at hk
          · rename_i e
            rcases hsub k hk with h | h
            · left; subst e; rw [hqe]; exact h
            · exact .inr h
          · exact .inl hk
        · rename_i hlt
          rw [List.getElem_set] at hk
          rw [dif_neg hlt]
          split at hk
          · rename_i e
            rcases hsub k hk with h | h
            · left; subst e; rw [hqe]; exact h
            · exact .inr h
          · exact .inl hk
      have hv : ∀ z (hz : z < (D.eraseIdx p).length), v.ownBlock = some k → ¬ ((D.eraseIdx p)[z]).dom k := fun z hz hvk hd => hS.notD p hp (k := k) hvk (.inr ⟨_, List.getElem_mem hz, hd⟩)
      rcases old x' hx' hk with h2 | h2
      · rcases old y' hy' hk' with h3 | h3
        · exact List.pairwise_iff_getElem.1 hpw x' y' (by rw [← hlen]; exact hx') (by rw [← hlen]; exact hy') hxy k h2 h3
        · exact hv x' (by rw [← hlen]; exact hx') h3 h2
      · rcases old y' hy' hk' with h3 | h3
        · exact hv y' (by rw [← hlen]; exact hy') h2 h3
        · -- both would be the group
          have gx : ∀ z (hz : z < ((D.set q (.grp (inn.set i ⟨v, N.et, N.RI.size, cl⟩))).eraseIdx p).length), ((D.set q (.grp (inn.set i ⟨v, N.et, N.RI.size, cl⟩))).eraseIdx p)[z].dom k → (z < p ∧ z = q) ∨ (p ≤ z ∧ z + 1 = q) := by
            intro z hz hk
            rw [List.getElem_eraseIdx] at hk
            split at hk
            · rename_i hlt
              rw [List.getElem_set] at hk
              split at hk
              · rename_i e; exact .inl ⟨hlt, e.symm⟩
              · exfalso
                exact hv z (by rw [← hlen]; exact hz) h2 (by rw [List.getElem_eraseIdx, dif_pos hlt]; exact hk)
            · rename_i hlt
              rw [List.getElem_set] at hk
              split at hk
              · rename_i e; exact .inr ⟨by omega, e.symm⟩
              · exfalso
                exact hv z (by rw [← hlen]; exact hz) h2 (by rw [List.getElem_eraseIdx, dif_neg hlt]; exact hk)
          rcases gx x' hx' hk with a1 | a1 <;> rcases gx y' hy' hk' with a2 | a2 <;> omega
  have hnw : ∀ k, dT T ((D.set q (.grp (inn.set i ⟨v, N.et, N.RI.size, cl⟩))).eraseIdx p) k → dT T D k := by
    rintro k (hk | ⟨r, hr, hk⟩)
    · exact .inl hk
    · exact .inr (hdd r hr k hk)
  refine h1.fact _ ⟨by simp [hI.1], fun j' o' x' ho' hx' => ?_⟩
  rw [List.getElem?_set] at ho' hx'
  by_cases hij : i = j'
  · subst hij
    rw [if_pos rfl, if_pos hil] at ho'
    rw [if_pos rfl, if_pos (by rw [← hI.1]; exact hil)] at hx'
    injection ho' with ho'
    injection hx' with hx'
    subst ho' hx'
    rw [N.gp]
    exact ⟨rfl, rfl, hR.keep (Kt.refl _ _) fun k hk => .inl (hnw k hk)⟩
  · rw [if_neg hij] at ho' hx'
    obtain ⟨f1, f2, f3⟩ := hI.2 j' o' x' ho' hx'
    exact ⟨f1, f2, f3.keep (Kt.refl _ _) fun k hk => .inl (hnw k hk)⟩
/-- the inner rows do not turn any more -/
theorem St.closeN {inn : List OwnT} {xs : List α} {v : Value} {cl : List Value} {e : TypeId} (hS : St W M T n G D F a w) (q : Nat) (hq : D[q]? = some (.grp inn)) (j : Nat) (hj : F[j]? = some (InnF N inn xs)) (z : Nat) (hz : F[z]? = some (RowsF N.RN cl (nzip N inn xs))) : St W M T n G (D.eraseIdx q) (RowsF N.R cl xs :: F) a w := by
  have hI : (InnF N inn xs).p (dT T D) w := hS.get j hj
  have hR : RowsOk N.RN (dT T D) w cl (nzip N inn xs) := hS.get z hz
  obtain ⟨hg1, hg2⟩ : (∀ o ∈ inn, o.ok w) ∧ inn.Pairwise (fun (r s : OwnT) => ∀ k, r.v.ownBlock = some k → s.v.ownBlock ≠ some k) := hS.own _ (List.mem_of_getElem? hq)
  refine (hS.drop q).fact _ ⟨by rw [hR.1, nz_len hI.1, N.size], fun i x hx => ?_⟩
  obtain ⟨o, ho, hn⟩ := nz_get (N := N) hI (i := (i : Int)) (x := x) (by simpa [getI] using hx)
  have hn2 : (nzip N inn xs)[i]? = some (N.nf o.v x) := by simpa [getI] using hn
  obtain ⟨cs, c1, c2⟩ := hR.2 i _ hn2
  obtain ⟨e1, e2, e3⟩ := hI.2 i o x (by simpa using ho) hx
  refine ⟨cs, N.close (v := o.v) (N.RN.keep c1 (Kt.refl _ _) fun k hk => .inl (dT_erase k hk)) ?_, fun j' u hu => by rw [← N.size]; exact c2 j' u hu⟩
  have hok := hg1 o (List.mem_of_getElem? ho)
  rw [OwnT.ok, e2] at hok
  exact Own.rd N.pos hok.1 (e3.keep (Kt.refl _ _) fun k hk => .inl (dT_erase k hk)) fun k hk => hS.notD q hq (k := k) ⟨o, List.mem_of_getElem? ho, hk⟩
/-- a row taken out of its group is laid back where it was loaded from: the outer cell holds it already -/
theorem St.relay {inn : List OwnT} {xs : List α} {x : α} {o : OwnT} {v : Value} {cl cl2 : List Value} {ys : List β} {i : Nat} (hS : St W M T n G D F a w) (p : Nat) (hp : D[p]? = some (.own v N.et N.RI.size cl)) (q : Nat) (hq : D[q]? = some (.grp (inn.set i N.no))) (hpq : p ≠ q) (j : Nat) (hj : F[j]? = some (InnF N (inn.set i N.no) (xs.set i (N.put [] x)))) (z : Nat) (hz : F[z]? = some (RowsF N.RI cl ys)) (z2 : Nat) (hz2 : F[z2]? = some (RowsF N.RN cl2 ((nzip N inn xs).set i (N.nf v x)))) (ho : inn[i]? = some o) :
    ∃ inn2, St W M T n G ((D.set q (.grp inn2)).eraseIdx p) (RowsF N.RN cl2 (nzip N inn2 (xs.set i (N.put ys x))) :: InnF N inn2 (xs.set i (N.put ys x)) :: F) a w := by
  have hil := (List.getElem?_eq_some_iff.1 ho).1
  have hI : (InnF N (inn.set i N.no) (xs.set i (N.put [] x))).p (dT T D) w := hS.get j hj
  have hlen : inn.length = xs.length := by have := hI.1; simpa using this
  have h1 := hS.unfocus (x := x) p hp q hq hpq j hj z hz i (List.getElem?_set_self hil)
  rw [List.set_set, List.set_set] at h1
  refine ⟨inn.set i ⟨v, N.et, N.RI.size, cl⟩, h1.fact _ ?_⟩
  have h2 : RowsOk N.RN (dT T D) w cl2 ((nzip N inn xs).set i (N.nf v x)) := hS.get z2 hz2
  have e : (nzip N inn xs).set i (N.nf v x) = nzip N (inn.set i ⟨v, N.et, N.RI.size, cl⟩) (xs.set i (N.put ys x)) := by
    rw [← N.np v ys x]
    exact nz_set (o := ⟨v, N.et, N.RI.size, cl⟩) hlen
  rw [e] at h2
  refine h2.keep (Kt.refl _ _) fun k hk => .inl ?_
  rcases hk with hk | ⟨r, hr, hk⟩
  · exact .inl hk
  · have hr2 := List.mem_of_mem_eraseIdx hr
    rcases mem_set_of hr2 with rfl | ⟨j', hj', hr2⟩
    · obtain ⟨o', ho', hk⟩ := hk
      rcases mem_set_of ho' with rfl | ⟨j', hj', ho'⟩
      · exact .inr ⟨_, List.mem_of_getElem? hp, hk⟩
      · exact .inr ⟨_, List.mem_of_getElem? hq, o', List.mem_iff_getElem?.2 ⟨j', by rw [List.getElem?_set_ne (fun e => hj' e.symm)]; exact ho'⟩, hk⟩
    · exact .inr ⟨r, List.mem_of_getElem? hr2, hk⟩
/-- make of elements whose rows are nil -/
theorem St.madeN {v : Value} {e : TypeId} {cl : List Value} {z : α} {m : Nat} (hS : St W M T n G (.own v e N.RN.size cl :: D) (RowsF N.RN cl (List.replicate m (N.nf (.slice none 0 0) z)) :: F) a w) (hz : N.get z = []) :
    ∃ inn, St W M T n G (.own v e N.RN.size cl :: .grp inn :: D) (RowsF N.RN cl (nzip N inn (List.replicate m z)) :: InnF N inn (List.replicate m z) :: F) a w := by
  have h1 := hS.grpNil (N := N) m z hz
  refine ⟨List.replicate m N.no, ?_⟩
  have h2 := h1.resplit (D' := .own v e N.RN.size cl :: .grp (List.replicate m N.no) :: D) (fun r hr => h1.own r (by simp only [List.mem_cons] at *; rcases hr with h | h | h; exact .inr (.inl h); exact .inl h; exact .inr (.inr h)))
    (fun r hr k hk => ⟨r, by simp only [List.mem_cons] at *; rcases hr with h | h | h; exact .inr (.inl h); exact .inl h; exact .inr (.inr h), hk⟩) (by
      have hp := h1.apart
      rw [List.pairwise_cons, List.pairwise_cons] at hp
      refine List.pairwise_cons.2 ⟨fun s hs k hk hk' => ?_, List.pairwise_cons.2 ⟨fun s hs => hp.1 s (List.mem_cons_of_mem _ hs), hp.2.2⟩⟩
      rcases List.mem_cons.1 hs with rfl | hs
      · exact hp.1 _ List.mem_cons_self k hk' hk
      · exact hp.2.1 s hs k hk hk')
  rw [nz_rep]
  refine h2.sel fun f hf => ?_
  simp only [List.mem_cons] at *
  rcases hf with h | h | h
  · exact .inr (.inl h)
  · exact .inl h
  · exact .inr (.inr h)
end
end Go.Proofs.YtpbbnkpplcnaoaaGreatDoor

/- A frame for walks: elements of arrays; full slices, and appends to them. -/
set_option linter.unusedVariables false
set_option linter.unusedSimpArgs false
namespace Go.Proofs.YtpbbnkpplcnaoaaGreatDoor
open Go.RowKit

def arI (P : Program) (t : TypeId) : Option (Nat × TypeId) := match P.underlying t with
  | some (.array n e) => some (n, e)
  | _ => none
theorem arI_und {P : Program} {t e : TypeId} {n : Nat} (h : arI P t = some (n, e)) : P.underlying t = some (.array n e) := by
  unfold arI at h
  split at h
  · rename_i h2; injection h with h; injection h with h3 h4; subst h3 h4; exact h2
  · cases h
/-- a slice without room -/
def ClipF (v : Value) : Fact := ⟨fun _ _ => ∃ A n, v = .slice A n n, fun h _ _ => h⟩
section
variable {P : Program} {W : World} {M T E : Nat → Prop} {n : Nat} {G G' : List (Nat × Value)} {D D' D0 Dr rs : List Res} {F F' : List Fact} {a : Act} {w w' : World} {K : Act → World → Prop}
/-- an element of an array variable, at a place that is known -/
theorem y_aidx {d : Option Nat} {t e : TypeId} {ty : TypeId} {X Y : Operand} {pos : String} {af : Array Edge} {g : Option (Nat × Bool)} {b o m z c : Nat} {ag : Bool} {k : IntKind} {i : Int} (hS : St W M T n G D F a w) (ht : arI P t = some (m, e)) (he : tyI P e = some (ag, z)) (hX : ev G X = some (.pointer (some ⟨b, o, none⟩))) (hY : ev G Y = some (.int k i)) (hi : ((i : Int) == (c : Nat)) = true) (hc : Nat.blt c m = true) :
    Ye P ⟨d, .indexAddr t X Y, ty, pos, af, g⟩ a E w (.pointer (some ⟨b, o + c * z, none⟩)) := by
  have hi : i = (c : Int) := by simpa using hi
  have hc : c < m := Nat.le_of_ble_eq_true hc
  subst hi
  refine Ye.of fun w => ?_
  simp [execOp, hS.ev hX, hS.ev hY, Instr.indexAt, asIntOf, run_underlying (arI_und ht), Instr.sureAddr, hc, run_size he, addr_add]
theorem run_bounds3 {len cap : Nat} {k1 k2 k3 : IntKind} {lo hi : Int} (h0 : 0 ≤ lo) (h1 : lo ≤ hi) (h2 : hi ≤ len) (h3 : len ≤ cap) (w : World) (olo : Option Value) (hlo : olo = some (.int k1 lo) ∨ (olo = none ∧ lo = 0)) : (Instr.sliceBounds true len cap olo (some (.int k2 hi)) (some (.int k3 hi))).run P w = .ok (lo.toNat, hi.toNat, hi.toNat) w := by
  have a1 : hi ≤ cap := by omega
  have a2 : 0 ≤ hi := by omega
  have a3 : lo ≤ (hi.toNat : Int) := by omega
  have a4 : hi ≤ (hi.toNat : Int) := by omega
  rcases hlo with rfl | ⟨rfl, rfl⟩
  · simp [Instr.sliceBounds, Instr.sliceBound, asIntOf, h0, h1, a1, a2, Int.max_eq_left a2]
  · simp [Instr.sliceBounds, Instr.sliceBound, asIntOf, a1, a2, Int.max_eq_left a2]
/-- a full slice of a row that does not turn -/
theorem d_full {α : Type} {R : Rep α} {xs ys : List α} {e t : TypeId} {v : Value} {lo hi : Int} {ag : Bool} (hS : St W M T n G D F a w) (ht : isSl P t = some e) (he : tyI P e = some (ag, R.size)) (j : Nat) (hj : F[j]? = some (SlF R v xs)) (hg : subI xs lo hi = some ys) :
    ∃ v', (∀ {E : Nat → Prop} {d : Option Nat} {ty : TypeId} {X x y : Operand} {olo : Option Operand} {pos : String} {af : Array Edge} {g : Option (Nat × Bool)} {k1 k2 k3 : IntKind}, ev G X = some v → ((∃ x, olo = some x ∧ ev G x = some (.int k1 lo)) ∨ (olo = none ∧ lo = 0)) → ev G x = some (.int k2 hi) → ev G y = some (.int k3 hi) → Ye P ⟨d, .slice t X olo (some x) (some y), ty, pos, af, g⟩ a E w v') ∧ St W M T n G D (ClipF v' :: SlF R v' ys :: F) a w := by
  obtain ⟨q1, q2, q3, rfl⟩ := subI_some hg
  have hsl : SlR R (dT T D) w v xs := hS.get j hj
  obtain ⟨A, c, rfl, p1, p2⟩ := hsl.len
  have hfull : SlR R (dT T D) w (.slice (if hi.toNat = lo.toNat then A else A.map (·.add (lo.toNat * R.size))) (hi.toNat - lo.toNat) (hi.toNat - lo.toNat)) ((xs.take hi.toNat).drop lo.toNat) := by
    have hlen : ((xs.take hi.toNat).drop lo.toNat).length = hi.toNat - lo.toNat := by rw [List.length_drop, List.length_take]; omega
    obtain ⟨A', c', e', r1, r2, r3⟩ := hsl
    injection e' with e1 e2 e3
    subst e1 e3
    refine ⟨_, hi.toNat - lo.toNat, by rw [hlen], by rw [hlen]; exact Nat.le_refl _, by omega, ?_⟩
    by_cases hz : hi.toNat = lo.toNat
    · left
      exact List.eq_nil_of_length_eq_zero (by rw [hlen]; omega)
    · right
      rcases r3 with r3 | ⟨b, off, rfl, hcell⟩
      · subst r3; simp at q3; omega
      · refine ⟨b, off + lo.toNat * R.size, by rw [if_neg hz]; simp [addr_add], fun k x hx => ?_⟩
        rw [List.getElem?_drop, List.getElem?_take] at hx
        split at hx
        · obtain ⟨cs, g1, g2⟩ := hcell _ x hx
          exact ⟨cs, g1, by rwa [show off + lo.toNat * R.size + k * R.size = off + (lo.toNat + k) * R.size by rw [Nat.add_mul]; omega]⟩
        · cases hx
  refine ⟨_, ?_, (hS.fact (SlF R _ _) hfull).fact (ClipF _) ⟨_, _, rfl⟩⟩
  intro E d ty X x y olo pos af g k1 k2 k3 hX hlo hx hy
  refine Ye.of fun w => ?_
  have hb := run_bounds3 (P := P) (k1 := k1) (k2 := k2) (k3 := k3) q1 q2 q3 p1 w (olo.map a.eval)
    (by rcases hlo with ⟨x, rfl, hx⟩ | ⟨rfl, rfl⟩
        · exact .inl (by rw [Option.map_some, hS.ev hx])
        · exact .inr ⟨rfl, rfl⟩)
  simp [execOp, Instr.sliceAt, Instr.slice, run_underlying (isSl_und ht), hS.ev hX, hS.ev hx, hS.ev hy, hb, run_size he]
/-- an append to a slice without room lays a new row -/
theorem k_appclip {α : Type} {R : Rep α} {xs ys : List α} {d : Nat} {ty t e : TypeId} {s x : Operand} {pos : String} {af : Array Edge} {g : Option (Nat × Bool)} {bt : Nat} {v u : Value} (hS : St W M T n G D F a w) (he : elI P t = some (e, R.size, bt)) (hb : Nat.ble (R.size * bt) 32768 = true) (hbs : Nat.ble R.size 32768 = true) (hs : ev G s = some v) (hx : ev G x = some u) (c : Nat) (hc : F[c]? = some (ClipF v)) (p : Nat) (hp : F[p]? = some (SlF R v xs)) (q : Nat) (hq : F[q]? = some (SlF R u ys)) (h0 : Nat.blt 0 ys.length = true) (hroom : roomB (xs.length + ys.length) = true) (hn : Nat.blt d n = true)
    (k : ∀ v' cl' a w', Kt No w w' → St W M T n ((d, v') :: G) (.own v' e R.size cl' :: D) (RowsF R cl' (xs ++ ys) :: F) a w' → K a w') : OpK P ⟨some d, .call { callee := .builtin .append, args := #[s, x], argTypes := #[t, t] }, ty, pos, af, g⟩ a w K := by
  obtain ⟨ht, ⟨i, z, hi, hz, hsize, hby, hzs⟩, hpos⟩ := elI_el he
  have hsx : SlR R (dT T D) w v xs := hS.get p hp
  have hsy : SlR R (dT T D) w u ys := hS.get q hq
  have h0 : 0 < ys.length := Nat.le_of_ble_eq_true h0
  have h1 := roomB_le hroom
  obtain ⟨A0, m0, hv0⟩ : ∃ A n, v = .slice A n n := hS.get c hc
  obtain ⟨A, c1, rfl, a1, a2⟩ := hsx.len
  injection hv0 with e1 e2 e3
  subst e3
  obtain rfl : c1 = xs.length := e2.symm ▸ rfl
  obtain ⟨B, c2, rfl, b1, b2⟩ := hsy.len
  obtain ⟨_, cx, hatx, hrx⟩ := hsx.rows hpos
  obtain ⟨_, cy, haty, hry⟩ := hsy.rows hpos
  have q1 := Nat.le_of_ble_eq_true hb
  have q2 := Nat.le_of_ble_eq_true hbs
  have hzl : (cx.length + cy.length) ≤ 4294967296 * R.size := by rw [hrx.1, hry.1, ← Nat.add_mul]; exact Nat.mul_le_mul_right _ h1
  have q3 : (cx.length + cy.length) * bt ≤ 4294967296 * (R.size * bt) := by rw [← Nat.mul_assoc]; exact Nat.mul_le_mul_right _ hzl
  have hbt : bt ≤ 32768 := Nat.le_trans (Nat.le_mul_of_pos_left _ hpos) q1
  have hB : (xs.length + ys.length) * i.bytes ≤ 140737488355328 := by
    rw [hby]
    exact Nat.le_trans (Nat.mul_le_mul h1 hbt) (by decide)
  have hye : cy ≠ [] := by
    rintro rfl
    have := hry.1
    simp only [List.length_nil] at this
    rcases Nat.mul_eq_zero.1 this.symm with h | h <;> omega
  obtain ⟨sb, soff, rfl, hcell⟩ : ∃ b off, B = some ⟨b, off, none⟩ ∧ ∀ j u, cy[j]? = some u → w.cell? ⟨b, off + j, none⟩ = some u := by
    rcases haty with h | h
    · exact absurd h hye
    · exact h
  have hcell' : ∀ j u, cy[j]? = some u → w.cell? ((⟨sb, soff, none⟩ : Addr).add j) = some u := fun j u hu => by rw [Addr.add_lit]; exact hcell j u hu
  have hge := grownCap_ge w (xs.length + ys.length) xs.length e
  have hcm : grownCap w (xs.length + ys.length) xs.length e ≤ maxLen := grownCap_le_maxLen w _ _ _ (by unfold maxLen; omega)
  have grown : ∀ (G : Nat), xs.length + ys.length ≤ G → G ≤ maxLen → Own (w.drew.alloc (.cells (cx.toArray ++ cy.toArray ++ Builtin.zeroCells z.cells (G - (xs.length + ys.length))) e)) 0 e R.size (.slice (some ⟨w.heap.size, 0, none⟩) (xs.length + ys.length) G) (cx ++ cy) := by
    intro G hG hG2
    refine .inr ⟨w.heap.size, 0, xs.length + ys.length, G, _, rfl, by rw [List.length_append, hrx.1, hry.1, Nat.add_mul], Nat.zero_le _, .of (heap_alloc_new w.drew _), hG, hG2, ?_, ?_⟩
    · simp only [Array.size_append, List.size_toArray, size_zeroCells, hzs, hrx.1, hry.1]
      rw [Nat.zero_add]
      have : G * R.size = (xs.length + ys.length) * R.size + (G - (xs.length + ys.length)) * R.size := by rw [← Nat.add_mul]; congr 1; omega
      rw [this, Nat.add_mul]; omega
    · intro j u hu
      rw [Nat.zero_add, Array.getElem?_append_left (by
        have := (List.getElem?_eq_some_iff.1 hu).1
        simpa using this)]
      simpa using hu
  have fin : ∀ (w' : World) (v' : Value), (Builtin.append_ #[t, t] ty #[.slice A xs.length xs.length, .slice (some ⟨sb, soff, none⟩) ys.length c2]).run P w = .ok v' w' → Kt No w w' → Own w' 0 e R.size v' (cx ++ cy) → (∀ k, v'.ownBlock = some k → w.heap.size ≤ k) → OpK P ⟨some d, .call { callee := .builtin .append, args := #[s, x], argTypes := #[t, t] }, ty, pos, af, g⟩ a w K := by
    intro w' v' hr hk ho hn2
    have hex : (execOp a.eval ⟨some d, .call { callee := .builtin .append, args := #[s, x], argTypes := #[t, t] }, ty, pos, af, g⟩).run P w = .ok (.value v') w' := by
      simp only [execOp, resolve, invoke, builtin, Sem.run_bind, Sem.run_pure, Result.andThen_ok, List.map_toArray, List.map_cons, List.map_nil, hS.ev hs, hS.ev hx, hr]
    have h5 := hS.fact (RowsF R (cx ++ cy) (xs ++ ys)) (hrx.append hry)
    exact kval hex (k v' _ _ w' hk ((h5.add hk (.own v' e R.size (cx ++ cy)) ⟨ho, hpos⟩ hn2).put hn v'))
  have hk : ∀ o, Kt No w (w.drew.alloc o) := fun o => (Kt.drew w).trans (Kt.alloc _ o)
  rcases hatx with hx0 | ⟨ab, aoff, rfl, hca⟩
  · have hxs : xs = [] := by
      have := hrx.1
      rw [hx0] at this
      simp only [List.length_nil] at this
      rcases Nat.mul_eq_zero.1 this.symm with h | h
      · exact List.eq_nil_of_length_eq_zero h
      · omega
    subst hxs
    subst hx0
    cases A with
    | none =>
      have hr := run_append_nil (P := P) w t ty e i z ht hi hz ⟨sb, soff, none⟩ ys.length c2 cy (by rw [hry.1, hsize]) hcell' h0 (by simp at h1; unfold maxLen at *; omega) (by have := hB; simp at this; omega)
      refine fin _ _ hr (hk _) ?_ (fun k hk => Nat.le_of_eq (Option.some.inj hk))
      have := grown (grownCap w ys.length 0 e) (by have := grownCap_ge w ys.length 0 e; simp; omega) (grownCap_le_maxLen w _ _ _ (by simp at h1; unfold maxLen; omega))
      simpa using this
    | some a0 =>
      have hr := run_append_grow (P := P) w t ty e i z ht hi hz a0 0 0 [] (by simp) (fun j u hu => by simp at hu) ⟨sb, soff, none⟩ ys.length c2 cy (by rw [hry.1, hsize]) hcell' (by omega) (by simp at h1; unfold maxLen at *; omega)
        (growslice_fits (by omega) (by simpa using hB))
      refine fin _ _ hr (hk _) ?_ (fun k hk => Nat.le_of_eq (Option.some.inj hk))
      have := grown (grownCap w ys.length 0 e) (by have := grownCap_ge w ys.length 0 e; simp; omega) (grownCap_le_maxLen w _ _ _ (by simp at h1; unfold maxLen; omega))
      simpa using this
  · have hr := run_append_grow (P := P) w t ty e i z ht hi hz ⟨ab, aoff, none⟩ xs.length xs.length cx (by rw [hrx.1, hsize]) (fun j u hu => by rw [Addr.add_lit]; exact hca j u hu) ⟨sb, soff, none⟩ ys.length c2 cy (by rw [hry.1, hsize]) hcell' (by omega) (by unfold maxLen at *; omega)
      (growslice_fits (by omega) hB)
    refine fin _ _ hr (hk _) ?_ (fun k hk => Nat.le_of_eq (Option.some.inj hk))
    exact grown _ hge hcm
end
end Go.Proofs.YtpbbnkpplcnaoaaGreatDoor

/- A frame for walks: a map that a call hands back. -/
set_option linter.unusedVariables false
set_option linter.unusedSimpArgs false
namespace Go.Proofs.YtpbbnkpplcnaoaaGreatDoor
open Go.RowKit

/-- a new map, handed back -/
def MapR {κ ν : Type} (RK : Rep κ) (ak : Bool) (RV : Rep ν) (av : Bool) (T : Nat → Prop) (W w : World) (rs : List Res) (b : Nat) (es : Array MapEntry) (ck : Nat) (xs : List (κ × ν)) : Prop :=
  w.heap[b]? = some (.map es ck) ∧ W.heap.size ≤ b ∧ MapOk RK ak RV av (dT T rs) w es xs
theorem obj_new {W : World} {b : Nat} {o : Obj} (h : W.heap.size ≤ b) : ∀ k, Res.dom (.obj b o) k → W.heap.size ≤ k := fun k hk => by
  simp only [Res.dom, Option.some.injEq] at hk; omega
section
variable {κ ν : Type} {P : Program} {W : World} {M T E : Nat → Prop} {n : Nat} {G : List (Nat × Value)} {D rs : List Res} {F : List Fact} {a : Act} {w : World}
theorem St.retMap {RK : Rep κ} {ak : Bool} {RV : Rep ν} {av : Bool} {b ck : Nat} {es : Array MapEntry} {xs : List (κ × ν)} (h : St W No T n G D F a w) (hi : InD D rs) (i : Nat) (hd : D[i]? = some (.obj b (.map es ck))) (j : Nat) (hj : F[j]? = some (MapF RK ak RV av es xs)) : MapR RK ak RV av T W w rs b es ck xs := by
  have hm := List.mem_of_getElem? hd
  exact ⟨h.own _ hm, (h.free _ hm b rfl).2.resolve_left fun h => h, (h.get j hj : MapOk RK ak RV av (dT T D) w es xs).keep (Kt.refl _ _) fun k hk => .inl (hi.sub k hk)⟩
/-- an array, built -/
theorem y_builda {d : Option Nat} {t e ty : TypeId} {m z : Nat} {ag : Bool} {ps : List (Nat × Operand)} {pos : String} {af : Array Edge} {g : Option (Nat × Bool)} {zs ws : List Value} {us : List (List Value)} {vs : List (Nat × Value)} (hS : St W M T n G D F a w) (ht : arI P t = some (m, e)) (he : tyI P e = some (ag, z)) (hz : zeroI P t = some zs) (hv : evp G ps = some vs) (hcs : Cs vs us) (hf : fillL ((List.range m).map fun i => (i * z, z)) zs vs us = some ws) :
    Ye P ⟨d, .build t ps.toArray, ty, pos, af, g⟩ a E w (.agg ws.toArray) :=
  Ye.of fun w => by
    obtain ⟨zv, hz1, hz2⟩ := zeroI_run hz w
    have h3 := fill_ok (place := fun i => some (i * z, z)) (pl := (List.range m).map fun i => (i * z, z)) (fun i q hq => by
      rw [List.getElem?_map] at hq
      cases hr : (List.range m)[i]? with
      | none => rw [hr] at hq; cases hq
      | some j =>
        rw [hr] at hq
        obtain ⟨hl, hj⟩ := List.getElem?_eq_some_iff.1 hr
        rw [List.getElem_range] at hj
        subst hj
        exact hq) vs us zs ws hcs hf
    have hzc : zv.cells = zs.toArray := by rw [← hz1]
    have h4 : (ps.toArray.map (fun p => (p.1, a.eval p.2))).toList = vs := by rw [← hS.evp hv]; simp
    have h5 : (Instr.build t (ps.toArray.map (fun p => (p.1, a.eval p.2)))).run P w = .ok (.agg ws.toArray) w := by
      unfold Instr.build
      simp only [Sem.run_bind, hz2, Result.andThen_ok, run_underlying (arI_und ht), run_size he, hzc, h4, h3, Sem.run_pure]
    simp [execOp] at h5 ⊢
    rw [h5]; rfl
end
end Go.Proofs.YtpbbnkpplcnaoaaGreatDoor

/- A frame for walks: an own row of which one element is laid open for a while. -/
set_option linter.unusedVariables false
set_option linter.unusedSimpArgs false
namespace Go.Proofs.YtpbbnkpplcnaoaaGreatDoor
open Go.RowKit

/-- an element is read by R, or its cells are told -/
def HR {α : Type} (R : Rep α) : Rep (List Value ⊕ α) where
  size := R.size
  rel := fun T w cs y => match y with
    | .inl c => cs = c ∧ c.length = R.size ∧ ∀ u ∈ c, u.oneCell' = true
    | .inr x => R.rel T w cs x
  len := fun {T w cs y} h => by
    cases y with
    | inl c => obtain ⟨rfl, h, _⟩ := h; exact h
    | inr x => exact R.len h
  one := fun {T w cs y} h => by
    cases y with
    | inl c => obtain ⟨rfl, _, h⟩ := h; exact h
    | inr x => exact R.one h
  keep := fun {T T' w w' cs y} h k n => by
    cases y with
    | inl c => exact h
    | inr x => exact R.keep h k n
/-- a list of which one element is told by its cells -/
def holeL {α : Type} (xs : List α) (i : Int) (cs : List Value) : List (List Value ⊕ α) := (xs.map Sum.inr).set i.toNat (Sum.inl cs)
theorem hole_len {α : Type} {xs : List α} {i : Int} {cs : List Value} : (holeL xs i cs).length = xs.length := by unfold holeL; simp
section
variable {α : Type} {R : Rep α} {P : Program} {W : World} {M T E : Nat → Prop} {n : Nat} {G : List (Nat × Value)} {D rs : List Res} {F : List Fact} {a : Act} {w : World} {K : Act → World → Prop} {xs : List α} {i : Int} {x : α} {cs cl : List Value}
theorem getI_inr (h : getI xs i = some x) : getI (xs.map (Sum.inr : α → List Value ⊕ α)) i = some (Sum.inr x) := by
  obtain ⟨q1, q2, q3⟩ := getI_some h
  unfold getI
  rw [if_pos q1, List.getElem?_map, q3]; rfl
theorem getI_hole (h : getI xs i = some x) (cs : List Value) : getI (holeL xs i cs) i = some (Sum.inl cs) := by
  obtain ⟨q1, q2, q3⟩ := getI_some h
  unfold getI holeL
  have := (List.getElem?_eq_some_iff.1 q3).1
  rw [if_pos q1, List.getElem?_set, if_pos rfl, if_pos (by simpa using this)]
theorem hole_set (cs cs' : List Value) : (holeL xs i cs).set i.toNat (Sum.inl cs') = holeL xs i cs' := by
  unfold holeL; rw [List.set_set]
theorem St.unfact2 {f g : Fact} (h : St W M T n G D (f :: g :: F) a w) : St W M T n G D (f :: F) a w :=
  { h with facts := fun q hq => h.facts q (by
      rcases List.mem_cons.1 hq with rfl | hq
      · exact List.mem_cons_self
      · exact List.mem_cons_of_mem _ (List.mem_cons_of_mem _ hq)) }
/-- an element is laid open -/
theorem rows_inr {T : Nat → Prop} (h : RowsOk R T w cl xs) : RowsOk (HR R) T w cl (xs.map Sum.inr) := by
  refine ⟨by rw [List.length_map]; exact h.1, fun k y hy => ?_⟩
  rw [List.getElem?_map] at hy
  cases hx : xs[k]? with
  | none => rw [hx] at hy; cases hy
  | some x =>
    rw [hx] at hy
    obtain rfl := Option.some.inj hy
    exact h.2 k x hx
theorem St.openH (hS : St W M T n G D F a w) (j : Nat) (hj : F[j]? = some (RowsF R cl xs)) : St W M T n G D (RowsF (HR R) cl (xs.map Sum.inr) :: F) a w := hS.fact _ (rows_inr (hS.get j hj))
/-- what lies in the element that is laid open -/
theorem hole_cells {v : Value} {b o p : Nat} (hS : St W M T n G D F a w) (j : Nat) (hj : F[j]? = some (RowsF (HR R) cl (holeL xs i cs))) (ho : Oel v b o R.size i p) (hg : getI xs i = some x) : ∀ k u, cs[k]? = some u → cl[p + k]? = some u := by
  obtain ⟨off, m, c, rfl, rfl, rfl⟩ := ho
  obtain ⟨q1, q2, q3⟩ := getI_some (getI_hole hg cs)
  obtain ⟨c2, ⟨rfl, _, _⟩, h2⟩ := (hS.get j hj : RowsOk (HR R) (dT T D) w cl (holeL xs i cs)).2 _ _ q3
  exact h2
theorem hole_rel {T : Nat → Prop} (hS : RowsOk (HR R) T w cl (holeL xs i cs)) (hg : getI xs i = some x) : (HR R).rel T w cs (Sum.inl cs) := by
  obtain ⟨q1, q2, q3⟩ := getI_some (getI_hole hg cs)
  obtain ⟨c2, ⟨rfl, h1, h2⟩, _⟩ := hS.2 _ _ q3
  exact ⟨rfl, h1, h2⟩
/-- the element is closed again -/
theorem St.closeH {x' : α} (hS : St W M T n G D F a w) (j : Nat) (hj : F[j]? = some (RowsF (HR R) cl (holeL xs i cs))) (hr : R.rel (dT T D) w cs x') : St W M T n G D (RowsF R cl (xs.set i.toNat x') :: F) a w := by
  have h : RowsOk (HR R) (dT T D) w cl (holeL xs i cs) := hS.get j hj
  refine hS.fact _ ⟨by rw [List.length_set, ← hole_len (xs := xs) (i := i) (cs := cs)]; exact h.1, fun k y hy => ?_⟩
  rw [List.getElem?_set] at hy
  by_cases hk : i.toNat = k
  · subst hk
    rw [if_pos rfl] at hy
    split at hy
    · rename_i hl
      obtain rfl := Option.some.inj hy
      obtain ⟨c2, ⟨rfl, _, _⟩, h2⟩ := h.2 i.toNat (Sum.inl cs) (by unfold holeL; rw [List.getElem?_set, if_pos rfl, if_pos (by simpa using hl)])
      exact ⟨_, hr, h2⟩
    · cases hy
  · rw [if_neg hk] at hy
    exact h.2 k (Sum.inr y) (by unfold holeL; rw [List.getElem?_set, if_neg hk, List.getElem?_map, hy]; rfl)
/-- a store to the element that is laid open -/
theorem k_storeh {t ty e : TypeId} {X Y : Operand} {pos : String} {af : Array Edge} {g : Option (Nat × Bool)} {ag : Bool} {z b o k p : Nat} {v u : Value} {us : List Value} (hS : St W M T n G D F a w) (hX : ev G X = some (.pointer (some ⟨b, o + k, none⟩))) (hY : ev G Y = some u) (hu : u.cells.toList = us) (ht : tyI P t = some (ag, z)) (q : Nat) (hq : D[q]? = some (.own v e R.size cl)) (j : Nat) (hj : F[j]? = some (RowsF (HR R) cl (holeL xs i cs))) (ho : Oel v b o R.size i p) (hg : getI xs i = some x)
    (hz : us.length = z) (hl : Nat.ble (k + z) cs.length = true) (hone : ∀ y ∈ setL cs k us, y.oneCell' = true)
    (K' : ∀ cl' w', Kt (fun j => v.ownBlock = some j) w w' → St W M T n G (D.set q (.own v e R.size cl')) (RowsF (HR R) cl' (holeL xs i (setL cs k us)) :: F) a w' → K a w') : OpK P ⟨none, .store t X Y, ty, pos, af, g⟩ a w K := by
  have hr : (HR R).rel (dT T D) w cs (Sum.inl cs) := hole_rel (hS.get j hj) hg
  have hlen : (setL cs k us).length = R.size := by
    have h1 := hr.2.1
    have := Nat.le_of_ble_eq_true hl
    unfold setL
    simp only [List.length_append, List.length_take, List.length_drop]
    omega
  exact k_storeo (R := HR R) (xs := holeL xs i cs) (x := Sum.inl cs) (x' := Sum.inl (setL cs k us)) (k := k) (cs := cs) (us := us) hS hX hY hu ht q hq j hj ho (hole_cells hS j hj ho hg) (getI_hole hg cs) hr hz hl ⟨rfl, hlen, hone⟩ fun cl' w' hk hS' => K' cl' w' hk (by rw [hole_set] at hS'; exact hS')
/-- the first store to an element: from now on it is laid open -/
theorem k_storeh0 {t ty e : TypeId} {X Y : Operand} {pos : String} {af : Array Edge} {g : Option (Nat × Bool)} {ag : Bool} {z b o k p : Nat} {v u : Value} {us : List Value} (hS : St W M T n G D F a w) (hX : ev G X = some (.pointer (some ⟨b, o + k, none⟩))) (hY : ev G Y = some u) (hu : u.cells.toList = us) (ht : tyI P t = some (ag, z)) (q : Nat) (hq : D[q]? = some (.own v e R.size cl)) (j : Nat) (hj : F[j]? = some (RowsF R cl xs)) (ho : Oel v b o R.size i p) (hc : ∀ k u, cs[k]? = some u → cl[p + k]? = some u) (hg : getI xs i = some x) (hrel : R.rel (dT T D) w cs x)
    (hz : us.length = z) (hl : Nat.ble (k + z) cs.length = true) (hone : ∀ y ∈ setL cs k us, y.oneCell' = true)
    (K' : ∀ cl' w', Kt (fun j => v.ownBlock = some j) w w' → St W M T n G (D.set q (.own v e R.size cl')) (RowsF (HR R) cl' (holeL xs i (setL cs k us)) :: F) a w' → K a w') : OpK P ⟨none, .store t X Y, ty, pos, af, g⟩ a w K := by
  have hlen : (setL cs k us).length = R.size := by
    have h1 := R.len hrel
    have := Nat.le_of_ble_eq_true hl
    unfold setL
    simp only [List.length_append, List.length_take, List.length_drop]
    omega
  have hS1 := hS.openH j hj
  have hr : (HR R).rel (dT T D) w cs (Sum.inr x) := hrel
  exact k_storeo (R := HR R) (xs := xs.map Sum.inr) (x := Sum.inr x) (x' := Sum.inl (setL cs k us)) (k := k) (cs := cs) (us := us) hS1 hX hY hu ht q hq 0 rfl ho hc (getI_inr hg) hr hz hl ⟨rfl, hlen, hone⟩ fun cl' w' hk hS' => K' cl' w' hk hS'.unfact2
end
end Go.Proofs.YtpbbnkpplcnaoaaGreatDoor

/- A frame for walks: maps whose values are rows of the call's own; maps that nobody turns. -/
set_option linter.unusedVariables false
set_option linter.unusedSimpArgs false
namespace Go.Proofs.YtpbbnkpplcnaoaaGreatDoor
open Go.RowKit

def falseR (α : Type) : Rep α where
  size := 0
  rel := fun _ _ _ _ => False
  len := fun h => h.elim
  one := fun h => h.elim
  keep := fun h _ _ => h.elim
/-- pairs whose second parts lie in rows of the call's own -/
def pairN {κ β : Type} (RI : Rep β) (e : TypeId) (h : 0 < RI.size) : Nst (κ × List β) Unit β where
  R := falseR _
  RN := falseR _
  RI := RI
  et := e
  get := Prod.snd
  put := fun l x => (x.1, l)
  nf := fun _ _ => ()
  size := rfl
  pos := h
  close := fun h _ => h.elim
  gp := fun _ _ => rfl
  np := fun _ _ _ => rfl
/-- a map whose values are rows of the call's own -/
structure MgOk {κ β : Type} (RK : Rep κ) (ak : Bool) (RI : Rep β) (e : TypeId) (T : Nat → Prop) (w : World) (es : Array MapEntry) (ck : Nat) (inn : List OwnT) (xs : List (κ × List β)) : Prop where
  n1 : es.size = xs.length
  n2 : inn.length = xs.length
  ky : ∀ (i : Nat) (m : MapEntry) (x : κ × List β), es[i]? = some m → xs[i]? = some x → ∃ c, RK.rel T w c x.1 ∧ m.key = valOf ak c
  val : ∀ (i : Nat) (m : MapEntry) (o : OwnT), es[i]? = some m → inn[i]? = some o → m.val = o.v
  row : ∀ (i : Nat) (o : OwnT) (x : κ × List β), inn[i]? = some o → xs[i]? = some x → o.e = e ∧ o.sz = RI.size ∧ RowsOk RI T w o.cl x.2
  lt : ∀ (i : Nat) (m : MapEntry), es[i]? = some m → m.born < ck
  inj : ∀ (i j : Nat) (m m' : MapEntry), es[i]? = some m → es[j]? = some m' → m.born = m'.born → i = j
def MgF {κ β : Type} (RK : Rep κ) (ak : Bool) (RI : Rep β) (e : TypeId) (es : Array MapEntry) (ck : Nat) (inn : List OwnT) (xs : List (κ × List β)) : Fact := ⟨fun T w => MgOk RK ak RI e T w es ck inn xs, fun h k n =>
  ⟨h.n1, h.n2, fun i m x h1 h2 => by obtain ⟨c, h3, h4⟩ := h.ky i m x h1 h2; exact ⟨c, RK.keep h3 k n, h4⟩, h.val, fun i o x h1 h2 => by obtain ⟨h3, h4, h5⟩ := h.row i o x h1 h2; exact ⟨h3, h4, h5.keep k n⟩, h.lt, h.inj⟩⟩
/-- .. the row at a key being taken out -/
structure MgHo {κ β : Type} (RK : Rep κ) (ak : Bool) (RI : Rep β) (e : TypeId) (q : κ → κ → Bool) (T : Nat → Prop) (w : World) (es : Array MapEntry) (ck : Nat) (inn : List OwnT) (xs0 : List (κ × List β)) (key : κ) (s : Int) (p : Nat) : Prop where
  n1 : es.size = (mput q key [] xs0).length
  n2 : inn.length = (mput q key [] xs0).length
  ky : ∀ (i : Nat) (m : MapEntry) (x : κ × List β), es[i]? = some m → (mput q key [] xs0)[i]? = some x → ∃ c, RK.rel T w c x.1 ∧ m.key = valOf ak c
  val : ∀ (i : Nat) (m : MapEntry) (o : OwnT), i ≠ p → es[i]? = some m → inn[i]? = some o → m.val = o.v
  row : ∀ (i : Nat) (o : OwnT) (x : κ × List β), inn[i]? = some o → (mput q key [] xs0)[i]? = some x → o.e = e ∧ o.sz = RI.size ∧ RowsOk RI T w o.cl x.2
  lt : ∀ (i : Nat) (m : MapEntry), es[i]? = some m → m.born < ck
  inj : ∀ (i j : Nat) (m m' : MapEntry), es[i]? = some m → es[j]? = some m' → m.born = m'.born → i = j
  at_ : ∃ m, es[p]? = some m ∧ s = (m.born : Int)
  no : inn[p]? = some (nilO e RI.size)
  it : (mput q key [] xs0)[p]? = some (key, [])
  set : ∀ ys, (mput q key [] xs0).set p (key, ys) = mput q key ys xs0
def MgH {κ β : Type} (RK : Rep κ) (ak : Bool) (RI : Rep β) (e : TypeId) (q : κ → κ → Bool) (es : Array MapEntry) (ck : Nat) (inn : List OwnT) (xs0 : List (κ × List β)) (key : κ) (s : Int) : Fact := ⟨fun T w => ∃ p, MgHo RK ak RI e q T w es ck inn xs0 key s p, fun h k n => by
  obtain ⟨p, h⟩ := h
  exact ⟨p, h.n1, h.n2, fun i m x h1 h2 => by obtain ⟨c, h3, h4⟩ := h.ky i m x h1 h2; exact ⟨c, RK.keep h3 k n, h4⟩, h.val, fun i o x h1 h2 => by obtain ⟨h3, h4, h5⟩ := h.row i o x h1 h2; exact ⟨h3, h4, h5.keep k n⟩, h.lt, h.inj, h.at_, h.no, h.it, h.set⟩⟩
section
variable {κ β : Type} {P : Program} {W : World} {M T E : Nat → Prop} {n : Nat} {G G' : List (Nat × Value)} {D D' : List Res} {F F' : List Fact} {a : Act} {w w' : World} {K : Act → World → Prop}
variable {kt et : TypeId} {RK : Rep κ} {ak : Bool} {RI : Rep β} {e : TypeId} {q : κ → κ → Bool} {b ck : Nat} {es : Array MapEntry} {inn : List OwnT} {xs : List (κ × List β)}
/-- a new map of rows -/
theorem k_mkmapg {d : Nat} {t ty : TypeId} {pos : String} {af : Array Edge} {g : Option (Nat × Bool)} (RK : Rep κ) (ak : Bool) (RI : Rep β) (e : TypeId) (hS : St W M T n G D F a w) (hn : Nat.blt d n = true)
    (k : ∀ b, w.heap.size ≤ b → ∀ a w', Kt No w w' → St W M T n ((d, .map (some b)) :: G) (.obj b (.map #[] 0) :: .grp [] :: D) (MgF RK ak RI e #[] 0 [] [] :: F) a w' → K a w') : OpK P ⟨some d, .makeMap t none, ty, pos, af, g⟩ a w K := by
  have hr : (execOp a.eval ⟨some d, .makeMap t none, ty, pos, af, g⟩).run P w = .ok (.value (.map (some w.heap.size))) (w.alloc (.map #[] 0)) := by
    simp [execOp, Instr.makeMap]
  refine kval hr (k w.heap.size (Nat.le_refl _) _ _ (Kt.alloc _ _) ?_)
  have h0 := hS.add (Kt.refl _ _) (.grp []) ⟨(fun o ho => by cases ho), List.Pairwise.nil⟩ (fun k ⟨o, ho, _⟩ => by cases ho)
  exact ((h0.add (Kt.alloc _ _) (.obj w.heap.size (.map #[] 0)) (heap_alloc_new w _) (fun k hk => by simp only [Res.dom, Option.some.injEq] at hk; omega)).fact (MgF RK ak RI e #[] 0 [] []) ⟨rfl, rfl, fun i m x h => by simp at h, fun i m o h => by simp at h, fun i o x h => by simp at h, fun i m h => by simp at h, fun i j m m' h => by simp at h⟩).put hn _
/-- one more row, nil -/
theorem St.grpPush (hS : St W M T n G D F a w) (hs : 0 < RI.size) (gq : Nat) (hq : D[gq]? = some (.grp inn)) : St W M T n G (D.set gq (.grp (inn ++ [nilO e RI.size]))) F a w := by
  have hql := (List.getElem?_eq_some_iff.1 hq).1
  have hqe := (List.getElem?_eq_some_iff.1 hq).2
  obtain ⟨hg1, hg2⟩ : (∀ o ∈ inn, o.ok w) ∧ inn.Pairwise (fun (r s : OwnT) => ∀ k, r.v.ownBlock = some k → s.v.ownBlock ≠ some k) := hS.own _ (List.mem_of_getElem? hq)
  have hsub : ∀ k, (Res.grp (inn ++ [nilO e RI.size])).dom k → (Res.grp inn).dom k := by
    rintro k ⟨o, ho, hk⟩
    rcases List.mem_append.1 ho with ho | ho
    · exact ⟨o, ho, hk⟩
    · rw [List.mem_singleton] at ho; subst ho; exact absurd hk nil_dom
  refine hS.resplit ?_ ?_ ?_
  · intro r hr
    rcases mem_set_of hr with rfl | ⟨j, _, hj⟩
    · refine ⟨fun o ho => ?_, ?_⟩
      · rcases List.mem_append.1 ho with ho | ho
        · exact hg1 o ho
        · rw [List.mem_singleton] at ho; subst ho; exact nil_own _ _ hs _
      · refine List.pairwise_append.2 ⟨hg2, List.pairwise_singleton _ _, fun x _ y hy k _ hk => ?_⟩
        rw [List.mem_singleton] at hy; subst hy; exact absurd hk nil_dom
    · exact hS.own r (List.mem_of_getElem? hj)
  · intro r hr k hk
    rcases mem_set_of hr with rfl | ⟨j, _, hj⟩
    · exact ⟨_, List.mem_of_getElem? hq, hsub k hk⟩
    · exact ⟨r, List.mem_of_getElem? hj, hk⟩
  · rw [List.pairwise_iff_getElem]
    intro x y hx hy hxy k hk hk'
    have old : ∀ z (hz : z < (D.set gq (.grp (inn ++ [nilO e RI.size]))).length), (D.set gq (.grp (inn ++ [nilO e RI.size])))[z].dom k → (D[z]'(by simpa using hz)).dom k := by
      intro z hz hk
      rw [List.getElem_set] at hk
      split at hk
      · rename_i e; subst e; rw [hqe]; exact hsub k hk
      · exact hk
    exact List.pairwise_iff_getElem.1 hS.apart x y (by simpa using hx) (by simpa using hy) hxy k (old _ hx hk) (old _ hy hk')
theorem mg_keys {T : Nat → Prop} {w : World} (h : MgOk RK ak RI e T w es ck inn xs) : es.toList.length = xs.length ∧ ∀ (i : Nat) (m : MapEntry) (x : κ × List β), es.toList[i]? = some m → xs[i]? = some x → ∃ c, RK.rel T w c x.1 ∧ m.key = valOf ak c :=
  ⟨by simpa using h.n1, fun i m x hm hx => h.ky i m x (by simpa using hm) hx⟩
/-- the entry of a key, its row taken out -/
theorem k_mentry {d : Nat} {t ty : TypeId} {X Y : Operand} {pos : String} {af : Array Edge} {g : Option (Nat × Bool)} (hS : St W M T n G D F a w) (hd : Nat.blt d n = true) (ht : mpI P t = some (kt, et)) (hK : KeyT P kt RK ak q) (hz : zvI P et = some (.slice none 0 0)) (hs : Nat.blt 0 RI.size = true)
    (i : Nat) (hi : D[i]? = some (.obj b (.map es ck))) (gq : Nat) (hq : D[gq]? = some (.grp inn)) (hiq : Nat.beq i gq = false) (j : Nat) (hj : F[j]? = some (MgF RK ak RI e es ck inn xs)) {c : List Value} {key : κ} (hc : RK.rel (dT T D) w c key) (hX : ev G X = some (.map (some b))) (hY : ev G Y = some (valOf ak c))
    (k : ∀ v cl es' ck' inn' (s : Int) a w', Kt (fun j => j = b) w w' →
      St W M T n ((d, .tuple #[v, .int .i64 s]) :: G) (.own v e RI.size cl :: (D.set i (.obj b (.map es' ck'))).set gq (.grp inn')) (RowsF RI cl ((mget q key xs).getD []) :: MgH RK ak RI e q es' ck' inn' xs key s :: F) a w' → K a w') : OpK P ⟨some d, .mapEntry t X Y, ty, pos, af, g⟩ a w K := by
  have hs : 0 < RI.size := Nat.le_of_ble_eq_true hs
  have hiq : i ≠ gq := fun h => by subst h; rw [show Nat.beq i i = true from by simp] at hiq; cases hiq
  have hr : w.heap[b]? = some (.map es ck) := hS.own _ (List.mem_of_getElem? hi)
  have hm : MgOk RK ak RI e (dT T D) w es ck inn xs := hS.get j hj
  obtain ⟨hl, hkeys⟩ := mg_keys hm
  have hf := find_run hK hc w hl hkeys
  have hch := hK.check false _ _ w _ _ hc
  have hzr := zvI_run (P := P) hz w
  let N : Nst (κ × List β) Unit β := pairN RI e hs
  cases hp : mpos q key xs with
  | none =>
    obtain ⟨g1, g2, _⟩ := mpos_none hp
    rw [hp] at hf
    have hrun : (execOp a.eval ⟨some d, .mapEntry t X Y, ty, pos, af, g⟩).run P w = .ok (.value (.tuple #[.slice none 0 0, .int .i64 ck])) { w with heap := w.heap.setIfInBounds b (.map (es.push { key := valOf ak c, val := .slice none 0 0, born := ck }) (ck + 1)) } := by
      simp [execOp, hS.ev hX, hS.ev hY, Instr.mapEntry, run_underlying (mpI_und ht), gobj hr, hch, hf, atP, sobj _ hr, hzr, goInt]
    refine kval hrun (k (.slice none 0 0) [] (es.push { key := valOf ak c, val := .slice none 0 0, born := ck }) (ck + 1) (inn ++ [nilO e RI.size]) ck _ _ ((set_kt hr).mono fun j hj => (Option.some.inj hj).symm) ?_)
    have h1 := hS.turn hi (set_kt hr) (r' := .obj b (.map (es.push { key := valOf ak c, val := .slice none 0 0, born := ck }) (ck + 1))) (hset hr).1 fun j hj => .inl hj
    have h2 := h1.grpPush (RI := RI) (e := e) hs gq (by rw [List.getElem?_set_ne hiq]; exact hq)
    have hsz : xs.length = inn.length := hm.n2.symm
    have h3 : St W M T n G ((D.set i (.obj b (.map (es.push { key := valOf ak c, val := .slice none 0 0, born := ck }) (ck + 1)))).set gq (.grp (inn ++ [nilO e RI.size]))) (MgH RK ak RI e q (es.push { key := valOf ak c, val := .slice none 0 0, born := ck }) (ck + 1) (inn ++ [nilO e RI.size]) xs key ck :: F) a { w with heap := w.heap.setIfInBounds b (.map (es.push { key := valOf ak c, val := .slice none 0 0, born := ck }) (ck + 1)) } := by
      refine h2.fact _ ⟨xs.length, ?_⟩
      have hm2 : MgOk RK ak RI e (dT T ((D.set i (.obj b (.map (es.push { key := valOf ak c, val := .slice none 0 0, born := ck }) (ck + 1)))).set gq (.grp (inn ++ [nilO e RI.size])))) _ es ck inn xs := h2.get j hj
      have hc2 := RK.keep (T' := dT T ((D.set i (.obj b (.map (es.push { key := valOf ak c, val := .slice none 0 0, born := ck }) (ck + 1)))).set gq (.grp (inn ++ [nilO e RI.size])))) hc ((set_kt (o' := .map (es.push { key := valOf ak c, val := .slice none 0 0, born := ck }) (ck + 1)) hr).mono fun k hk => .inr ⟨_, List.mem_of_getElem? hi, hk⟩) (by
        rintro k (hk | ⟨r, hr2, hk⟩)
        · exact .inl (.inl hk)
        · rcases mem_set_of hr2 with rfl | ⟨j', _, hj'⟩
          · obtain ⟨o, ho, hk⟩ := hk
            rcases List.mem_append.1 ho with ho | ho
            · exact .inl (.inr ⟨_, List.mem_of_getElem? hq, o, ho, hk⟩)
            · rw [List.mem_singleton] at ho; subst ho; exact absurd hk nil_dom
          · rw [List.getElem?_set] at hj'
            split at hj'
            · split at hj'
              · injection hj' with hj'; subst hj'; exact .inl (.inr ⟨_, List.mem_of_getElem? hi, hk⟩)
              · cases hj'
            · exact .inl (.inr ⟨r, List.mem_of_getElem? hj', hk⟩))
      have push_old : ∀ (z : Nat) (m : MapEntry), (es.push { key := valOf ak c, val := .slice none 0 0, born := ck })[z]? = some m → (z < xs.length ∧ es[z]? = some m) ∨ (z = xs.length ∧ m = { key := valOf ak c, val := .slice none 0 0, born := ck }) := by
        intro z m hz
        rw [Array.getElem?_push] at hz
        split at hz
        · rename_i h; injection hz with hz; exact .inr ⟨by rw [h, hm.n1], hz.symm⟩
        · exact .inl ⟨by rw [← hm.n1]; exact (Array.getElem?_eq_some_iff.1 hz).1, hz⟩
      refine ⟨?_, ?_, ?_, ?_, ?_, ?_, ?_, ?_, ?_, ?_, ?_⟩
      · rw [g2]; simp [hm.n1]
      · rw [g2]; simp [hm.n2]
      · intro z m x hz hx
        rw [g2] at hx
        rcases push_old z m hz with ⟨h1, h2⟩ | ⟨rfl, rfl⟩
        · rw [List.getElem?_append_left h1] at hx; exact hm2.ky z m x h2 hx
        · rw [List.getElem?_append_right (Nat.le_refl _)] at hx; simp at hx; subst hx; exact ⟨c, hc2, rfl⟩
      · intro z m o hne hz ho
        rcases push_old z m hz with ⟨h1, h2⟩ | ⟨rfl, rfl⟩
        · rw [List.getElem?_append_left (by omega)] at ho; exact hm2.val z m o h2 ho
        · exact absurd rfl hne
      · intro z o x ho hx
        rw [g2] at hx
        by_cases hz : z < xs.length
        · rw [List.getElem?_append_left hz] at hx
          rw [List.getElem?_append_left (by omega)] at ho
          exact hm2.row z o x ho hx
        · rw [List.getElem?_append_right (by omega)] at hx ho
          have hz0 : z - xs.length = 0 := by
            rcases Nat.eq_zero_or_pos (z - xs.length) with h | h
            · exact h
            · rw [List.getElem?_eq_none (by simp; omega)] at hx; cases hx
          have hz1 : z - inn.length = 0 := by omega
          rw [hz0] at hx; rw [hz1] at ho
          simp at hx ho; subst hx ho
          exact ⟨rfl, rfl, RowsOk.nil_ _ _ _⟩
      · intro z m hz
        rcases push_old z m hz with ⟨h1, h2⟩ | ⟨rfl, rfl⟩
        · have := hm2.lt z m h2; omega
        · exact Nat.lt_succ_self _
      · intro z z' m m' hz hz' hb
        rcases push_old z m hz with ⟨h1, h2⟩ | ⟨rfl, rfl⟩ <;> rcases push_old z' m' hz' with ⟨h1', h2'⟩ | ⟨rfl, rfl⟩
        · exact hm2.inj z z' m m' h2 h2' hb
        · have := hm2.lt z m h2; simp only at hb; omega
        · have := hm2.lt z' m' h2'; simp only at hb; omega
        · rfl
      · exact ⟨_, by rw [← hm.n1, Array.getElem?_push_size], rfl⟩
      · rw [hsz, List.getElem?_append_right (Nat.le_refl _)]; simp
      · rw [g2, List.getElem?_append_right (Nat.le_refl _)]; simp
      · intro ys
        rw [g2, g2]
        rw [List.set_append_right _ _ (Nat.le_refl _)]; simp
    rw [g1]
    have h4 := h3.add (Kt.refl _ _) (.own (.slice none 0 0) e RI.size []) (nil_own e _ hs _) (fun k hk => by cases hk)
    exact (h4.fact (RowsF RI [] []) (RowsOk.nil_ _ _ _)).put hd _
  | some p =>
    obtain ⟨x0, hx0, hq0, g1, g2, _⟩ := mpos_some hp
    have hpi : p < es.size := by rw [hm.n1]; exact (List.getElem?_eq_some_iff.1 hx0).1
    have he0 : es[p]? = some es[p] := Array.getElem?_eq_getElem hpi
    have hpo : p < inn.length := by rw [hm.n2]; exact (List.getElem?_eq_some_iff.1 hx0).1
    have ho0 : inn[p]? = some inn[p] := List.getElem?_eq_getElem hpo
    obtain ⟨d0, hd0, hk0⟩ := hm.ky p _ x0 he0 hx0
    have hbits := hK.bits _ _ _ _ _ _ _ _ hc hd0 hq0
    obtain ⟨e1, e2, e3⟩ := hm.row p _ x0 ho0 hx0
    have hv0 := hm.val p _ _ he0 ho0
    rw [hp] at hf
    have hat : atP es.toList 0 (some p) = some (p, es[p].val) := by simp [atP, he0]
    rw [hat] at hf
    have hkt : (Instr.keyThatStays es[p].key (valOf ak c)).run P w = .ok (valOf ak c) w := by
      simp only [hk0, Instr.keyThatStays, hbits, if_true, Sem.run_pure]
    have hrun : (execOp a.eval ⟨some d, .mapEntry t X Y, ty, pos, af, g⟩).run P w = .ok (.value (.tuple #[es[p].val, .int .i64 es[p].born])) { w with heap := w.heap.setIfInBounds b (.map (es.modify p fun m => { m with key := valOf ak c }) ck) } := by
      have h5 : (Instr.mapEntry t (.map (some b)) (valOf ak c)).run P w = .ok (.tuple #[es[p].val, .int .i64 es[p].born]) { w with heap := w.heap.setIfInBounds b (.map (es.modify p fun m => { m with key := valOf ak c }) ck) } := by
        simp only [Instr.mapEntry, Sem.run_bind, run_underlying (mpI_und ht), Result.andThen_ok, gobj hr, hch, hf, hkt, sobj _ hr, Sem.run_pure, goInt, he0, Option.map_some, Option.getD_some]
      simp only [execOp, hS.ev hX, hS.ev hY, Sem.run_bind, h5, Result.andThen_ok, Sem.run_pure]
    refine kval hrun (k es[p].val inn[p].cl (es.modify p fun m => { m with key := valOf ak c }) ck (inn.set p (nilO e RI.size)) es[p].born _ _ ((set_kt hr).mono fun j hj => (Option.some.inj hj).symm) ?_)
    have h1 := hS.turn hi (set_kt hr) (r' := .obj b (.map (es.modify p fun m => { m with key := valOf ak c }) ck)) (hset hr).1 fun j hj => .inl hj
    have h2 := h1.fact (InnF N inn xs) (by
      have hm2 : MgOk RK ak RI e _ _ es ck inn xs := h1.get j hj
      exact ⟨hm2.n2, hm2.row⟩)
    have h3 := h2.focus (N := N) gq (by rw [List.getElem?_set_ne hiq]; exact hq) 0 rfl (i := (p : Int)) (x := x0) (by simp [getI, hx0]) (o := inn[p]) (by simp)
    have hj3 : (RowsF N.RI inn[p].cl (N.get x0) :: InnF N (inn.set (p : Int).toNat N.no) (xs.set (p : Int).toNat (N.put [] x0)) :: InnF N inn xs :: F)[j + 3]? = some (MgF RK ak RI e es ck inn xs) := hj
    have hm3 : MgOk RK ak RI e (dT T (.own inn[p].v N.et N.RI.size inn[p].cl :: (D.set i (.obj b (.map (es.modify p fun m => { m with key := valOf ak c }) ck))).set gq (.grp (inn.set (p : Int).toNat N.no)))) _ es ck inn xs := h3.get (j + 3) hj3
    have hc3 := RK.keep (T' := dT T (.own inn[p].v N.et N.RI.size inn[p].cl :: (D.set i (.obj b (.map (es.modify p fun m => { m with key := valOf ak c }) ck))).set gq (.grp (inn.set (p : Int).toNat N.no)))) hc ((set_kt (o' := .map (es.modify p fun m => { m with key := valOf ak c }) ck) hr).mono fun k hk => .inr ⟨_, List.mem_of_getElem? hi, hk⟩) (by
      rintro k (hk | ⟨r, hr2, hk⟩)
      · exact .inl (.inl hk)
      · rcases List.mem_cons.1 hr2 with rfl | hr2
        · exact .inl (.inr ⟨_, List.mem_of_getElem? hq, _, List.getElem_mem hpo, hk⟩)
        · rcases mem_set_of hr2 with rfl | ⟨j', _, hj'⟩
          · obtain ⟨o, ho, hk⟩ := hk
            rcases mem_set_of ho with rfl | ⟨_, _, ho⟩
            · exact absurd hk nil_dom
            · exact .inl (.inr ⟨_, List.mem_of_getElem? hq, o, List.mem_of_getElem? ho, hk⟩)
          · rw [List.getElem?_set] at hj'
            split at hj'
            · split at hj'
              · injection hj' with hj'; subst hj'; exact .inl (.inr ⟨_, List.mem_of_getElem? hi, hk⟩)
              · cases hj'
            · exact .inl (.inr ⟨r, List.mem_of_getElem? hj', hk⟩))
    have hmod : ∀ (z : Nat) (m : MapEntry), (es.modify p fun m => { m with key := valOf ak c })[z]? = some m → ∃ m0, es[z]? = some m0 ∧ m.val = m0.val ∧ m.born = m0.born ∧ (if p = z then m.key = valOf ak c else m.key = m0.key) := by
      intro z m hz
      rw [Array.getElem?_modify] at hz
      split at hz
      · rename_i h
        subst h
        rw [he0] at hz
        simp only [Option.map_some, Option.some.injEq] at hz
        subst hz
        exact ⟨_, he0, rfl, rfl, by simp⟩
      · rename_i h; exact ⟨m, hz, rfl, rfl, by rw [if_neg h]⟩
    have hlp : p < xs.length := (List.getElem?_eq_some_iff.1 hx0).1
    have h4 := h3.fact (MgH RK ak RI e q (es.modify p fun m => { m with key := valOf ak c }) ck (inn.set p (nilO e RI.size)) xs key es[p].born) (by
      refine ⟨p, ?_, ?_, ?_, ?_, ?_, ?_, ?_, ?_, ?_, ?_, ?_⟩
      · rw [g2]; simp [hm.n1]
      · rw [g2]; simp [hm.n2]
      · intro z m x hz hx
        obtain ⟨m0, q1, q2, q3, q4⟩ := hmod z m hz
        rw [g2, List.getElem?_set] at hx
        by_cases hzp : p = z
        · subst hzp
          rw [if_pos rfl, if_pos hlp] at hx
          simp only [Option.some.injEq] at hx
          subst hx
          rw [if_pos rfl] at q4
          exact ⟨c, hc3, q4⟩
        · rw [if_neg hzp] at hx q4
          rw [q4]; exact hm3.ky z m0 x q1 hx
      · intro z m o hne hz ho
        obtain ⟨m0, q1, q2, q3, q4⟩ := hmod z m hz
        rw [List.getElem?_set_ne (fun h => hne h.symm)] at ho
        rw [q2]; exact hm3.val z m0 o q1 ho
      · intro z o x ho hx
        rw [g2, List.getElem?_set] at hx
        rw [List.getElem?_set] at ho
        by_cases hzp : p = z
        · subst hzp
          rw [if_pos rfl, if_pos hpo] at ho
          rw [if_pos rfl, if_pos hlp] at hx
          simp only [Option.some.injEq] at hx ho
          subst hx ho
          exact ⟨rfl, rfl, RowsOk.nil_ _ _ _⟩
        · rw [if_neg hzp] at hx ho
          exact hm3.row z o x ho hx
      · intro z m hz
        obtain ⟨m0, q1, q2, q3, q4⟩ := hmod z m hz
        rw [q3]; exact hm3.lt z m0 q1
      · intro z z' m m' hz hz' hb
        obtain ⟨m0, q1, q2, q3, q4⟩ := hmod z m hz
        obtain ⟨m1, r1, r2, r3, r4⟩ := hmod z' m' hz'
        exact hm3.inj z z' m0 m1 q1 r1 (by rw [← q3, ← r3]; exact hb)
      · exact ⟨{ es[p] with key := valOf ak c }, by rw [Array.getElem?_modify, if_pos rfl, he0]; rfl, rfl⟩
      · rw [List.getElem?_set, if_pos rfl, if_pos hpo]
      · rw [g2, List.getElem?_set, if_pos rfl, if_pos hlp]
      · intro ys; rw [g2, g2, List.set_set])
    have h5 := h4.fact (RowsF RI inn[p].cl ((mget q key xs).getD [])) (by
      rw [g1]
      exact (h4.get 1 rfl : RowsOk RI _ _ inn[p].cl x0.2))
    have h6 := h5.sel (F' := RowsF RI inn[p].cl ((mget q key xs).getD []) :: MgH RK ak RI e q (es.modify p fun m => { m with key := valOf ak c }) ck (inn.set p (nilO e RI.size)) xs key es[p].born :: F) (fun f hf => by
      simp only [List.mem_cons] at hf ⊢
      rcases hf with h | h | h
      · exact .inl h
      · exact .inr (.inl h)
      · exact .inr (.inr (.inr (.inr (.inr h)))))
    rw [hv0]
    exact h6.put hd _
/-- .. and the row laid back -/
theorem k_mstore {t ty : TypeId} {X Y Z : Operand} {pos : String} {af : Array Edge} {g : Option (Nat × Bool)} {key : κ} {s : Int} {v : Value} {cl : List Value} {ys : List β} (hS : St W M T n G D F a w) (hs : Nat.blt 0 RI.size = true) (i : Nat) (hi : D[i]? = some (.obj b (.map es ck))) (gq : Nat) (hq : D[gq]? = some (.grp inn)) (p0 : Nat) (hp : D[p0]? = some (.own v e RI.size cl)) (hne : (Nat.beq i gq || Nat.beq p0 gq || Nat.beq p0 i) = false)
    (j : Nat) (hj : F[j]? = some (MgH RK ak RI e q es ck inn xs key s)) (z : Nat) (hz : F[z]? = some (RowsF RI cl ys)) (hX : ev G X = some (.map (some b))) (hY : ev G Y = some (.int .i64 s)) (hZ : ev G Z = some v)
    (k : ∀ es' inn' a w', Kt (fun j => j = b) w w' → St W M T n G (((D.set i (.obj b (.map es' ck))).set gq (.grp inn')).eraseIdx p0) (MgF RK ak RI e es' ck inn' (mput q key ys xs) :: F) a w' → K a w') : OpK P ⟨none, .entryStore t X Y Z, ty, pos, af, g⟩ a w K := by
  have hs : 0 < RI.size := Nat.le_of_ble_eq_true hs
  simp only [Bool.or_eq_false_iff] at hne
  have nb : ∀ {x y : Nat}, Nat.beq x y = false → x ≠ y := fun h e => by subst e; simp at h
  have hiq := nb hne.1.1
  have hpq := nb hne.1.2
  have hpi := nb hne.2
  have hr : w.heap[b]? = some (.map es ck) := hS.own _ (List.mem_of_getElem? hi)
  obtain ⟨p, hm⟩ : ∃ p, MgHo RK ak RI e q (dT T D) w es ck inn xs key s p := hS.get j hj
  obtain ⟨m0, hm0, rfl⟩ := hm.at_
  let N : Nst (κ × List β) Unit β := pairN RI e hs
  have hfi : es.findIdx? (fun m => (m.born : Int) == (m0.born : Int)) = some p := by
    rw [Array.findIdx?_eq_some_iff_getElem]
    obtain ⟨h1, h2⟩ := Array.getElem?_eq_some_iff.1 hm0
    refine ⟨h1, by simp [h2], fun z hz => ?_⟩
    have hzl : z < es.size := by omega
    intro h
    have h3 : (es[z].born : Int) = (m0.born : Int) := by simpa using h
    have := hm.inj z p _ _ (Array.getElem?_eq_getElem hzl) hm0 (by omega)
    omega
  have hrun : (execOp a.eval ⟨none, .entryStore t X Y Z, ty, pos, af, g⟩).run P w = .ok .skip { w with heap := w.heap.setIfInBounds b (.map (es.modify p fun m => { m with val := v }) ck) } := by
    have h5 : (Instr.entryStore t (.map (some b)) (.int .i64 (m0.born : Int)) v).run P w = .ok () { w with heap := w.heap.setIfInBounds b (.map (es.modify p fun m => { m with val := v }) ck) } := by
      simp only [Instr.entryStore, Sem.run_bind, gobj hr, Result.andThen_ok, asInt, asIntOf, Sem.run_pure, hfi, sobj _ hr]
    simp only [execOp, hS.ev hX, hS.ev hY, hS.ev hZ, Sem.run_bind, h5, Result.andThen_ok, Sem.run_pure]
  refine kskip hrun (k (es.modify p fun m => { m with val := v }) (inn.set p ⟨v, e, RI.size, cl⟩) _ _ ((set_kt hr).mono fun j hj => (Option.some.inj hj).symm) ?_)
  have h1 := hS.turn hi (set_kt hr) (r' := .obj b (.map (es.modify p fun m => { m with val := v }) ck)) (hset hr).1 fun j hj => .inl hj
  have h2 := h1.fact (InnF N inn (mput q key [] xs)) (by
    obtain ⟨p', hm2⟩ := (show ∃ p', MgHo RK ak RI e q (dT T (D.set i (.obj b (.map (es.modify p fun m => { m with val := v }) ck)))) { w with heap := w.heap.setIfInBounds b (.map (es.modify p fun m => { m with val := v }) ck) } es ck inn xs key (m0.born : Int) p' from h1.get j hj)
    exact ⟨hm2.n2, hm2.row⟩)
  have h3 := h2.unfocus (N := N) (x := (key, [])) p0 (by rw [List.getElem?_set_ne (fun h => hpi h.symm)]; exact hp) gq (by rw [List.getElem?_set_ne hiq]; exact hq) hpq 0 rfl (z + 1) hz p hm.no
  have hj3 : (InnF N (inn.set p ⟨v, N.et, N.RI.size, cl⟩) ((mput q key [] xs).set p (N.put ys (key, []))) :: InnF N inn (mput q key [] xs) :: F)[j + 2]? = some (MgH RK ak RI e q es ck inn xs key (m0.born : Int)) := hj
  obtain ⟨p', hm3⟩ : ∃ p', MgHo RK ak RI e q (dT T _) _ es ck inn xs key (m0.born : Int) p' := h3.get (j + 2) hj3
  have hI : (InnF N (inn.set p ⟨v, N.et, N.RI.size, cl⟩) ((mput q key [] xs).set p (N.put ys (key, [])))).p (dT T _) _ := h3.get 0 rfl
  have hpp : p' = p := by
    obtain ⟨m1, q1, q2⟩ := hm3.at_
    exact hm3.inj p' p m1 m0 q1 hm0 (by omega)
  subst hpp
  have hset2 := hm.set ys
  have h4 := h3.fact (MgF RK ak RI e (es.modify p' fun m => { m with val := v }) ck (inn.set p' ⟨v, e, RI.size, cl⟩) (mput q key ys xs)) (by
    rw [← hset2]
    have hmod : ∀ (z : Nat) (m : MapEntry), (es.modify p' fun m => { m with val := v })[z]? = some m → ∃ m0, es[z]? = some m0 ∧ m.key = m0.key ∧ m.born = m0.born ∧ (if p' = z then m.val = v else m.val = m0.val) := by
      intro z m hz
      rw [Array.getElem?_modify] at hz
      split at hz
      · rename_i h
        subst h
        rw [hm0] at hz
        simp only [Option.map_some, Option.some.injEq] at hz
        subst hz
        exact ⟨_, hm0, rfl, rfl, by simp⟩
      · rename_i h; exact ⟨m, hz, rfl, rfl, by rw [if_neg h]⟩
    have hpl := (List.getElem?_eq_some_iff.1 hm.it).1
    have hil := (List.getElem?_eq_some_iff.1 hm.no).1
    refine ⟨by simpa using hm.n1, by simpa using hm.n2, ?_, ?_, hI.2, ?_, ?_⟩
    · intro z m x hz hx
      obtain ⟨m1, q1, q2, q3, q4⟩ := hmod z m hz
      rw [List.getElem?_set] at hx
      by_cases hzp : p' = z
      · subst hzp
        rw [if_pos rfl, if_pos hpl] at hx
        simp only [Option.some.injEq] at hx
        subst hx
        rw [q2]; exact hm3.ky p' m1 (key, []) q1 hm.it
      · rw [if_neg hzp] at hx
        rw [q2]; exact hm3.ky z m1 x q1 hx
    · intro z m o hz ho
      obtain ⟨m1, q1, q2, q3, q4⟩ := hmod z m hz
      rw [List.getElem?_set] at ho
      by_cases hzp : p' = z
      · subst hzp
        rw [if_pos rfl, if_pos hil] at ho
        simp only [Option.some.injEq] at ho
        subst ho
        rw [if_pos rfl] at q4; exact q4
      · rw [if_neg hzp] at ho q4
        rw [q4]; exact hm3.val z m1 o (fun h => hzp h.symm) q1 ho
    · intro z m hz
      obtain ⟨m1, q1, q2, q3, q4⟩ := hmod z m hz
      rw [q3]; exact hm3.lt z m1 q1
    · intro z z' m m' hz hz' hb
      obtain ⟨m1, q1, q2, q3, q4⟩ := hmod z m hz
      obtain ⟨m2, r1, r2, r3, r4⟩ := hmod z' m' hz'
      exact hm3.inj z z' m1 m2 q1 r1 (by rw [← q3, ← r3]; exact hb))
  exact h4.sel fun f hf => by
    simp only [List.mem_cons] at hf ⊢
    rcases hf with h | h
    · exact .inl h
    · exact .inr (.inr (.inr h))
/-- the rows are not turned any more -/
theorem St.mgfreeze (hS : St W M T n G D F a w) (hs : Nat.blt 0 RI.size = true) (gq : Nat) (hq : D[gq]? = some (.grp inn)) (j : Nat) (hj : F[j]? = some (MgF RK ak RI e es ck inn xs)) : St W M T n G (D.eraseIdx gq) (MapF RK ak RI.slice false es xs :: F) a w := by
  have hs : 0 < RI.size := Nat.le_of_ble_eq_true hs
  have hql := (List.getElem?_eq_some_iff.1 hq).1
  have hqe := (List.getElem?_eq_some_iff.1 hq).2
  have hI : MgOk RK ak RI e (dT T D) w es ck inn xs := hS.get j hj
  obtain ⟨hg1, hg2⟩ : (∀ o ∈ inn, o.ok w) ∧ inn.Pairwise (fun (r s : OwnT) => ∀ k, r.v.ownBlock = some k → s.v.ownBlock ≠ some k) := hS.own _ (List.mem_of_getElem? hq)
  refine (hS.drop gq).fact _ ⟨hI.n1, fun i m x hm hx => ?_⟩
  have hil : i < inn.length := by rw [hI.n2]; exact (List.getElem?_eq_some_iff.1 hx).1
  have ho : inn[i]? = some inn[i] := List.getElem?_eq_getElem hil
  obtain ⟨c, h1, h2⟩ := hI.ky i m x hm hx
  obtain ⟨e1, e2, e3⟩ := hI.row i _ x ho hx
  refine ⟨⟨c, RK.keep h1 (Kt.refl _ _) fun k hk => .inl (dT_erase k hk), h2⟩, [inn[i].v], ⟨_, rfl, ?_⟩, hI.val i m _ hm ho⟩
  have hown := hg1 _ (List.getElem_mem hil)
  rw [OwnT.ok, e1, e2] at hown
  refine Own.rd hs hown.1 (e3.keep (Kt.refl _ _) fun k hk => .inl (dT_erase k hk)) fun k hk hT => ?_
  have hkg : (D[gq]).dom k := by rw [hqe]; exact ⟨_, List.getElem_mem hil, hk⟩
  rcases hT with hT | ⟨r, hr, hT⟩
  · exact (hS.free _ (List.mem_of_getElem? hq) k (by rw [hqe] at hkg; exact hkg)).1 hT
  · obtain ⟨z, hz⟩ := List.mem_iff_getElem?.1 hr
    rw [List.getElem?_eraseIdx] at hz
    split at hz
    · rename_i hzi
      obtain ⟨l1, l2⟩ := List.getElem?_eq_some_iff.1 hz
      exact List.pairwise_iff_getElem.1 hS.apart z gq l1 hql hzi k (by rw [l2]; exact hT) hkg
    · rename_i hzi
      obtain ⟨l1, l2⟩ := List.getElem?_eq_some_iff.1 hz
      exact List.pairwise_iff_getElem.1 hS.apart gq (z + 1) hql l1 (by omega) k hkg (by rw [l2]; exact hT)
end
end Go.Proofs.YtpbbnkpplcnaoaaGreatDoor

/- A frame for walks: maps that nobody turns; the running of map operations, without a state. -/
set_option linter.unusedVariables false
set_option linter.unusedSimpArgs false
namespace Go.Proofs.YtpbbnkpplcnaoaaGreatDoor
open Go.RowKit

/-- a map that reads as a list of pairs -/
def MpR {κ ν : Type} (RK : Rep κ) (ak : Bool) (RV : Rep ν) (av : Bool) (T : Nat → Prop) (w : World) (v : Value) (xs : List (κ × ν)) : Prop :=
  ∃ b es ck, v = .map (some b) ∧ ¬ T b ∧ w.heap[b]? = some (.map es ck) ∧ MapOk RK ak RV av T w es xs
section
variable {κ ν : Type} {RK : Rep κ} {ak : Bool} {RV : Rep ν} {av : Bool}
theorem MpR.keep {T T' : Nat → Prop} {w w' : World} {v : Value} {xs : List (κ × ν)} (h : MpR RK ak RV av T w v xs) (k : Kt T w w') (hn : Nw T T' w) : MpR RK ak RV av T' w' v xs := by
  obtain ⟨b, es, ck, h1, h2, h3, h4⟩ := h
  have hl := (Array.getElem?_eq_some_iff.1 h3).1
  exact ⟨b, es, ck, h1, fun ht => by rcases hn b ht with h | h; exact h2 h; omega, (k.block b hl h2).trans h3, h4.keep k hn⟩
theorem MpR.one {T : Nat → Prop} {w : World} {v : Value} {xs : List (κ × ν)} (h : MpR RK ak RV av T w v xs) : v.oneCell' = true := by obtain ⟨b, es, ck, rfl, _⟩ := h; rfl
end
def Rep.mp {κ ν : Type} (RK : Rep κ) (ak : Bool) (RV : Rep ν) (av : Bool) : Rep (List (κ × ν)) where
  size := 1
  rel := fun T w cs xs => ∃ v, cs = [v] ∧ MpR RK ak RV av T w v xs
  len := by rintro _ _ _ _ ⟨v, rfl, _⟩; rfl
  one := by rintro _ _ _ _ ⟨v, rfl, h⟩ u hu; simp only [List.mem_cons, List.not_mem_nil, or_false] at hu; subst hu; exact h.one
  keep := by rintro _ _ _ _ _ _ ⟨v, rfl, h⟩ k n; exact ⟨v, rfl, h.keep k n⟩
def MpF {κ ν : Type} (RK : Rep κ) (ak : Bool) (RV : Rep ν) (av : Bool) (v : Value) (xs : List (κ × ν)) : Fact := ⟨fun T w => MpR RK ak RV av T w v xs, fun h k n => h.keep k n⟩
section
variable {κ ν : Type} {P : Program} {W : World} {M T E : Nat → Prop} {n : Nat} {G G' : List (Nat × Value)} {D D' : List Res} {F F' : List Fact} {a : Act} {w w' : World} {K : Act → World → Prop}
variable {kt et : TypeId} {RK : Rep κ} {ak : Bool} {RV : Rep ν} {av : Bool} {q : κ → κ → Bool} {b clock : Nat} {es : Array MapEntry} {xs : List (κ × ν)}
/-- a look-up in a map that nobody turns -/
theorem d_looks {t : TypeId} {mv : Value} (hS : St W M T n G D F a w) (ht : mpI P t = some (kt, et)) (hK : KeyT P kt RK ak q) (j : Nat) (hj : F[j]? = some (MpF RK ak RV av mv xs)) {c : List Value} {key : κ} (hc : RK.rel (dT T D) w c key) {z : Value} {zc : List Value} {z0 u : ν} (hz : zvI P et = some z) (hzc : z = valOf av zc) (hz0 : RV.rel (dT T D) w zc z0) (hu : some ((mget q key xs).getD z0) = some u) :
    ∃ cv, RV.rel (dT T D) w cv u ∧ (∀ {E : Nat → Prop} {d : Option Nat} {X Y : Operand} {ok : Bool} {ty : TypeId} {pos : String} {af : Array Edge} {g : Option (Nat × Bool)}, ev G X = some mv → ev G Y = some (valOf ak c) → (∀ j, E j → dT T D j ∨ w.heap.size ≤ j) →
      Ye P ⟨d, .lookup t X Y ok, ty, pos, af, g⟩ a E w (if ok then .tuple #[valOf av cv, .bool (mget q key xs).isSome] else valOf av cv)) := by
  obtain rfl := Option.some.inj hu
  obtain ⟨b, es, clock, rfl, hb, hr, hm⟩ : MpR RK ak RV av (dT T D) w mv xs := hS.get j hj
  have hbl := (Array.getElem?_eq_some_iff.1 hr).1
  obtain ⟨cv, h1, h2, _⟩ := look_run (P := P) ht hK hr hm hc hz hzc hz0
  refine ⟨cv, h1, fun hX hY hE w' hk => ?_⟩
  rename_i ok _ _ _ _
  have hr' := (hk.block b hbl (fun he => by rcases hE b he with h | h; exact hb h; omega)).trans hr
  have e1 := hS.ev hX
  have e2 := hS.ev hY
  have hrun : ∀ ok, (Instr.lookup t (.map (some b)) (valOf ak c) ok).run P w' = .ok (if ok then .tuple #[valOf av cv, .bool (mget q key xs).isSome] else valOf av cv) w' := fun ok => by
    obtain ⟨hl, hkeys⟩ := mapKeys hm
    have a1 := h2 ok
    have hf := find_run hK hc w hl hkeys
    have hf' := find_run hK hc w' hl hkeys
    have hch : ∀ e (w : World), (Instr.checkKey e 10000 kt (valOf ak c)).run P w = .ok () w := fun e w => hK.check e _ _ w _ _ hc
    have hzr := zvI_run (P := P) hz
    revert a1
    cases hp : atP es.toList 0 (mpos q key xs) with
    | none =>
      rw [hp] at hf hf'
      cases ok <;> simp [Instr.lookup, run_underlying (mpI_und ht), gobj hr, gobj hr', hch, hf, hf', hzr]
    | some y =>
      rw [hp] at hf hf'
      cases ok <;> simp [Instr.lookup, run_underlying (mpI_und ht), gobj hr, gobj hr', hch, hf, hf']
  simp [execOp, e1, e2, hrun]
/-- a map of the call's own is not turned any more -/
theorem St.mfreeze (hS : St W M T n G D F a w) (i : Nat) (hi : D[i]? = some (.obj b (.map es clock))) (j : Nat) (hj : F[j]? = some (MapF RK ak RV av es xs)) : St W M T n G (D.eraseIdx i) (MpF RK ak RV av (.map (some b)) xs :: F) a w := by
  have hil := (List.getElem?_eq_some_iff.1 hi).1
  have hie := (List.getElem?_eq_some_iff.1 hi).2
  have hm : MapOk RK ak RV av (dT T D) w es xs := hS.get j hj
  refine (hS.drop i).fact _ ⟨b, es, clock, rfl, fun hT => ?_, hS.own _ (List.mem_of_getElem? hi), hm.keep (Kt.refl _ _) fun k hk => .inl (dT_erase k hk)⟩
  rcases hT with hT | ⟨r, hr, hT⟩
  · exact (hS.free _ (List.mem_of_getElem? hi) b rfl).1 hT
  · obtain ⟨z, hz⟩ := List.mem_iff_getElem?.1 hr
    rw [List.getElem?_eraseIdx] at hz
    split at hz
    · rename_i hzi
      obtain ⟨l1, l2⟩ := List.getElem?_eq_some_iff.1 hz
      exact List.pairwise_iff_getElem.1 hS.apart z i l1 hil hzi b (by rw [l2]; exact hT) (by rw [hie]; rfl)
    · rename_i hzi
      obtain ⟨l1, l2⟩ := List.getElem?_eq_some_iff.1 hz
      exact List.pairwise_iff_getElem.1 hS.apart i (z + 1) hil l1 (by omega) b (by rw [hie]; rfl) (by rw [l2]; exact hT)
/-- a pair put in, whatever the data hang on -/
theorem mput_run {t : TypeId} (ht : mpI P t = some (kt, et)) (hK : KeyT P kt RK ak q) {T : Nat → Prop} {w w0 : World} (hr : w.heap[b]? = some (.map es clock)) (hm : MapOk RK ak RV av T w0 es xs) {c cv : List Value} {key : κ} {val : ν} (hc : RK.rel T w0 c key) (hv : RV.rel T w0 cv val) :
    ∃ es' ck', (Instr.mapUpdate t (.map (some b)) (valOf ak c) (valOf av cv)).run P w = .ok () { w with heap := w.heap.setIfInBounds b (.map es' ck') } ∧ MapOk RK ak RV av T w0 es' (mput q key val xs) := by
  obtain ⟨hl, hkeys⟩ := mapKeys hm
  have hf := find_run hK hc w hl hkeys
  have hch := hK.check false _ _ w _ _ hc
  cases hp : mpos q key xs with
  | none =>
    obtain ⟨_, g2, _⟩ := mpos_none hp
    rw [hp] at hf
    refine ⟨es.push { key := valOf ak c, val := valOf av cv, born := clock }, clock + 1, ?_, ⟨by rw [g2]; simp [hm.1], fun z e x he hx => ?_⟩⟩
    · simp [Instr.mapUpdate, run_underlying (mpI_und ht), gobj hr, hch, hf, atP, sobj _ hr]
    · rw [g2] at hx
      by_cases hz : z < xs.length
      · rw [List.getElem?_append_left hz] at hx
        rw [Array.getElem?_push_lt (by rw [hm.1]; exact hz)] at he
        exact hm.2 z e x (by rw [← he]; exact (Array.getElem?_eq_getElem _)) hx
      · rw [List.getElem?_append_right (by omega)] at hx
        obtain rfl : z = xs.length := by
          rcases Nat.lt_or_ge xs.length z with h | h
          · rw [List.getElem?_eq_none (by simp; omega)] at hx; cases hx
          · omega
        simp at hx
        subst hx
        rw [← hm.1, Array.getElem?_push_size] at he
        simp only [Option.some.injEq] at he
        subst he
        exact ⟨⟨c, hc, rfl⟩, cv, hv, rfl⟩
  | some p =>
    obtain ⟨x0, hx0, hq0, _, g2, _⟩ := mpos_some hp
    have hpi : p < es.size := by rw [hm.1]; exact (List.getElem?_eq_some_iff.1 hx0).1
    have he0 : es[p]? = some es[p] := Array.getElem?_eq_getElem hpi
    obtain ⟨⟨d0, hd0, hk0⟩, _⟩ := hm.2 p _ x0 he0 hx0
    have hbits := hK.bits _ _ _ _ _ _ _ _ hc hd0 hq0
    rw [hp] at hf
    refine ⟨es.modify p fun e => { e with key := valOf ak c, val := valOf av cv }, clock, ?_, ⟨by rw [g2]; simp [hm.1], fun z e x he hx => ?_⟩⟩
    · have hat : atP es.toList 0 (some p) = some (p, es[p].val) := by simp [atP, he0]
      rw [hat] at hf
      have hkt : (Instr.keyThatStays (((es[p]?).map (·.key)).getD (valOf ak c)) (valOf ak c)).run P w = .ok (valOf ak c) w := by
        rw [he0]
        simp only [Option.map_some, Option.getD_some, hk0, Instr.keyThatStays, hbits, if_true, Sem.run_pure]
      simp only [Instr.mapUpdate, Sem.run_bind, run_underlying (mpI_und ht), Result.andThen_ok, gobj hr, hch, hf, hkt, sobj _ hr]
    · rw [g2] at hx
      by_cases hz : p = z
      · subst hz
        rw [List.getElem?_set_self (by rw [← hm.1]; exact hpi)] at hx
        simp only [Option.some.injEq] at hx
        subst hx
        rw [Array.getElem?_modify, if_pos rfl, he0] at he
        simp only [Option.map_some, Option.some.injEq] at he
        subst he
        exact ⟨⟨c, hc, rfl⟩, cv, hv, rfl⟩
      · rw [List.getElem?_set_ne hz] at hx
        rw [Array.getElem?_modify, if_neg hz] at he
        exact hm.2 z e x he hx
/-- a key taken out -/
theorem mdel_run {t kt2 ty : TypeId} (ht : mpI P t = some (kt, et)) (hK : KeyT P kt RK ak q) {T : Nat → Prop} {w w0 : World} (hr : w.heap[b]? = some (.map es clock)) (hm : MapOk RK ak RV av T w0 es xs) {c : List Value} {key : κ} (hc : RK.rel T w0 c key) :
    ∃ es' ck', (Builtin.delete_ #[t, kt2] ty #[.map (some b), valOf ak c]).run P w = .ok (.tuple #[]) { w with heap := w.heap.setIfInBounds b (.map es' ck') } ∧ MapOk RK ak RV av T w0 es' (mdel q key xs) := by
  obtain ⟨hl, hkeys⟩ := mapKeys hm
  have hf := find_run hK hc w hl hkeys
  have hch : ∀ e, (Instr.checkKey e 10000 kt (valOf ak c)).run P w = .ok () w := fun e => hK.check e _ _ w _ _ hc
  cases hp : mpos q key xs with
  | none =>
    obtain ⟨_, _, g3⟩ := mpos_none hp
    rw [hp] at hf
    refine ⟨es, clock, ?_, by rw [g3]; exact hm⟩
    simp [Builtin.delete_, run_underlying (mpI_und ht), gobj hr, hch, hf, atP, sobj _ hr]
  | some p =>
    obtain ⟨x0, hx0, hq0, _, _, g3⟩ := mpos_some hp
    have hpi : p < es.size := by rw [hm.1]; exact (List.getElem?_eq_some_iff.1 hx0).1
    have he0 : es[p]? = some es[p] := Array.getElem?_eq_getElem hpi
    rw [hp] at hf
    have hat : atP es.toList 0 (some p) = some (p, es[p].val) := by simp [atP, he0]
    rw [hat] at hf
    refine ⟨es.eraseIdxIfInBounds p, clock, ?_, ?_, fun z e x he hx => ?_⟩
    · simp [Builtin.delete_, run_underlying (mpI_und ht), gobj hr, hch, hf, sobj _ hr]
    · rw [g3, List.length_eraseIdx, if_pos (by rw [← hm.1]; exact hpi)]
      rw [Array.eraseIdxIfInBounds, dif_pos hpi, Array.size_eraseIdx, hm.1]
    · rw [g3, List.getElem?_eraseIdx] at hx
      have he' : es.toList.eraseIdx p = (es.eraseIdxIfInBounds p).toList := by simp [Array.eraseIdxIfInBounds, hpi]
      rw [← Array.getElem?_toList, ← he', List.getElem?_eraseIdx] at he
      split at hx <;> rename_i h
      · rw [if_pos h] at he; exact hm.2 z e x (by rw [← Array.getElem?_toList]; exact he) hx
      · rw [if_neg h] at he; exact hm.2 (z + 1) e x (by rw [← Array.getElem?_toList]; exact he) hx
/-- a pair of a map that is written out -/
theorem k_minsert {t ty : TypeId} {X Y Z : Operand} {pos : String} {af : Array Edge} {g : Option (Nat × Bool)} (hS : St W M T n G D F a w) (ht : mpI P t = some (kt, et)) (hK : KeyT P kt RK ak q) (i : Nat) (hi : D[i]? = some (.obj b (.map es clock))) (j : Nat) (hj : F[j]? = some (MapF RK ak RV av es xs))
    {c cv : List Value} {key : κ} {val : ν} (hc : RK.rel (dT T D) w c key) (hv : RV.rel (dT T D) w cv val) (hX : ev G X = some (.map (some b))) (hY : ev G Y = some (valOf ak c)) (hZ : ev G Z = some (valOf av cv))
    (k : ∀ es' ck' w', Kt (fun j => j = b) w w' → St W M T n G (D.set i (.obj b (.map es' ck'))) (MapF RK ak RV av es' (mput q key val xs) :: F) a w' → K a w') : OpK P ⟨none, .insert t X Y Z, ty, pos, af, g⟩ a w K :=
  k_mput (ty := ty) (pos := pos) (af := af) (g := g) hS ht hK i hi j hj hc hv hX hY hZ k
end
end Go.Proofs.YtpbbnkpplcnaoaaGreatDoor
