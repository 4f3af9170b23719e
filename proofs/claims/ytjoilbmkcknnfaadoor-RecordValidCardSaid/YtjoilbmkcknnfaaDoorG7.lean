/- A frame for walks: more operations. -/
import Derived.Test.YtjoilbmkcknnfaaDoorG6
import Derived.Laws.Small
import Derived.Laws.StructEq
set_option linter.unusedVariables false
set_option linter.unusedSimpArgs false
namespace Go.Proofs.YtjoilbmkcknnfaaDoor
open Go.RowKit

/-- rows that stand in a result -/
def InD (D : List Res) : List Res → Prop
  | [] => True
  | r :: s => (r.dom = none ∨ r ∈ D) ∧ InD D s
theorem InD.sub {T : Nat → Prop} {D : List Res} : ∀ {rs : List Res}, InD D rs → ∀ k, dT T rs k → dT T D k
  | [], _, k, hk => by
    rcases hk with hk | ⟨r, hr, _⟩
    · exact .inl hk
    · cases hr
  | r :: s, h, k, hk => by
    rcases dT_cons.1 hk with hk | hk
    · exact InD.sub h.2 k hk
    · rcases h.1 with h1 | h1
      · rw [h1] at hk; cases hk
      · exact .inr ⟨r, h1, hk⟩
/-- a row that the call made, in a result -/
def OwnR {α : Type} (R : Rep α) (T : Nat → Prop) (W w : World) (rs : List Res) (e : TypeId) (v : Value) (cl : List Value) (xs : List α) : Prop :=
  Own w 0 e R.size v cl ∧ (∀ k, v.ownBlock = some k → W.heap.size ≤ k) ∧ RowsOk R (dT T rs) w cl xs
theorem SlR.dn {α : Type} {R : Rep α} {T : Nat → Prop} {w : World} {v : Value} {xs : List α} (h : SlR R T w v xs) : SlR R (dT T []) w v xs :=
  h.sub fun k hk => .inl (by rcases hk with hk | ⟨r, hr, _⟩; exact hk; cases hr)
theorem SlR.up {α : Type} {R : Rep α} {T : Nat → Prop} {D rs : List Res} {w : World} {v : Value} {xs : List α} (hi : InD D rs) (h : SlR R (dT T D) w v xs) : SlR R (dT T rs) w v xs :=
  h.sub fun k hk => .inl (hi.sub k hk)
/-- an own row, read as a slice by whoever called -/
theorem OwnR.sl {α : Type} {R : Rep α} {T : Nat → Prop} {W w : World} {rs : List Res} {e : TypeId} {v : Value} {cl : List Value} {xs : List α} (hs : 0 < R.size) (h : OwnR R T W w rs e v cl xs) (hT : ∀ k, T k → k < W.heap.size) : SlR R T w v xs :=
  Own.rd hs h.1 (h.2.2.keep (Kt.refl _ _) fun k hk => .inl (.inl hk)) fun k hk ht => by have := h.2.1 k hk; have := hT k ht; omega
theorem own_one {w : World} {B : Nat} {e : TypeId} {sz : Nat} {v : Value} {cl : List Value} (h : Own w B e sz v cl) : v.oneCell' = true := by
  rcases h with ⟨rfl, _⟩ | ⟨g, off, n, cap, cs, rfl, _⟩ <;> rfl
theorem ret_nil {α : Type} (R : Rep α) (T : Nat → Prop) (W w : World) (rs : List Res) (e : TypeId) : OwnR R T W w rs e (.slice none 0 0) [] [] :=
  ⟨Own.nil_ _ _ _ _, fun k hk => by simp [Value.ownBlock] at hk, RowsOk.nil_ _ _ _⟩
def ibit (op : BinOp) (k : IntKind) (x y : Int) : Int :=
  let a := BitVec.ofInt k.bits x
  let b := BitVec.ofInt k.bits y
  match op with
  | .and => k.wrap (a &&& b).toNat
  | .or => k.wrap (a ||| b).toNat
  | .xor => k.wrap (a ^^^ b).toNat
  | _ => k.wrap (a &&& ~~~b).toNat
def bitOp : BinOp → Bool
  | .and | .or | .xor | .andNot => true
  | _ => false
section
variable {P : Program} {W : World} {M T E : Nat → Prop} {n : Nat} {G G' : List (Nat × Value)} {D D' rs : List Res} {F F' : List Fact} {a : Act} {w w' : World} {K : Act → World → Prop} {Q : Exit → Act → World → Prop}
theorem St.retOwn {α : Type} {R : Rep α} {v : Value} {e : TypeId} {cl : List Value} {xs : List α} (h : St W No T n G D F a w) (hi : InD D rs) (i : Nat) (hd : D[i]? = some (.own v e R.size cl)) (j : Nat) (hj : F[j]? = some (RowsF R cl xs)) : OwnR R T W w rs e v cl xs := by
  have hm := List.mem_of_getElem? hd
  exact ⟨(h.own _ hm).1, fun k hk => (h.free _ hm k hk).2.resolve_left fun h => h, (h.get j hj : RowsOk R (dT T D) w cl xs).keep (Kt.refl _ _) fun k hk => .inl (hi.sub k hk)⟩
theorem St.apart2 {v v2 : Value} {e e2 : TypeId} {sz sz2 : Nat} {cl cl2 : List Value} (h : St W M T n G D F a w) (i : Nat) (hi : D[i]? = some (.own v e sz cl)) (j : Nat) (hj : D[j]? = some (.own v2 e2 sz2 cl2)) (hij : i ≠ j) : ∀ k, v.ownBlock = some k → v2.ownBlock ≠ some k := by
  intro k hk hk2
  obtain ⟨l1, e1⟩ := List.getElem?_eq_some_iff.1 hi
  obtain ⟨l2, e2⟩ := List.getElem?_eq_some_iff.1 hj
  rcases Nat.lt_or_gt_of_ne hij with hlt | hlt
  · exact List.pairwise_iff_getElem.1 h.apart i j l1 l2 hlt k (by rw [e1]; exact hk) (by rw [e2]; exact hk2)
  · exact List.pairwise_iff_getElem.1 h.apart j i l2 l1 hlt k (by rw [e2]; exact hk2) (by rw [e1]; exact hk)
theorem SubD.mem {D rs : List Res} {is : List Nat} (h : SubD D is rs) : ∀ r ∈ rs, r ∈ D := fun r hr => by
  obtain ⟨i, _, hi⟩ := h.get r hr; exact List.mem_of_getElem? hi
theorem y_conv {d : Option Nat} {s t : TypeId} {x : Operand} {ty : TypeId} {pos : String} {af : Array Edge} {g : Option (Nat × Bool)} {k k' ks : IntKind} {p : Int} (hS : St W M T n G D F a w) (hx : ev G x = some (.int k p)) (hs : P.underlying s = some (.int ks)) (ht : P.underlying t = some (.int k')) : Ye P ⟨d, .convert s t x, ty, pos, af, g⟩ a E w (.int k' (k'.wrap p)) :=
  Ye.of fun w => by
    simp [execOp, hS.ev hx, convert, run_underlying hs, run_underlying ht, Conv.intToInt]
/-- a part of a slice, in a region that draws -/
theorem d_sub {α : Type} {R : Rep α} {xs ys : List α} {e t : TypeId} {v : Value} {lo hi : Int} {ag : Bool} (hS : St W M T n G D F a w) (ht : isSl P t = some e) (he : tyI P e = some (ag, R.size)) (j : Nat) (hj : F[j]? = some (SlF R v xs)) (hg : subI xs lo hi = some ys) :
    ∃ v', (∀ {E : Nat → Prop} {d : Option Nat} {ty : TypeId} {X : Operand} {olo ohi : Option Operand} {pos : String} {af : Array Edge} {g : Option (Nat × Bool)} {k1 k2 : IntKind}, ev G X = some v → ((∃ x, olo = some x ∧ ev G x = some (.int k1 lo)) ∨ (olo = none ∧ lo = 0)) → ((∃ x, ohi = some x ∧ ev G x = some (.int k2 hi)) ∨ (ohi = none ∧ hi = xs.length)) → Ye P ⟨d, .slice t X olo ohi none, ty, pos, af, g⟩ a E w v') ∧ St W M T n G D (SlF R v' ys :: F) a w := by
  obtain ⟨q1, q2, q3, rfl⟩ := subI_some hg
  have hsl : SlR R (dT T D) w v xs := hS.get j hj
  obtain ⟨A, c, rfl, p1, p2⟩ := hsl.len
  refine ⟨.slice (if c = lo.toNat then A else A.map (·.add (lo.toNat * R.size))) (hi.toNat - lo.toNat) (c - lo.toNat), ?_, hS.fact _ (hsl.cut (by omega) (by omega) _ (fun hlt b o hA => ?_))⟩
  · intro E d ty X olo ohi pos af g k1 k2 hX hlo hhi
    refine Ye.of fun w => ?_
    have hb := run_bounds (P := P) (isS := true) (k1 := k1) (k2 := k2) q1 q2 q3 p1 w (olo.map a.eval) (ohi.map a.eval)
      (by rcases hlo with ⟨x, rfl, hx⟩ | ⟨rfl, rfl⟩
          · exact .inl (by rw [Option.map_some, hS.ev hx])
          · exact .inr ⟨rfl, rfl⟩)
      (by rcases hhi with ⟨x, rfl, hx⟩ | ⟨rfl, rfl⟩
          · exact .inl (by rw [Option.map_some, hS.ev hx])
          · exact .inr ⟨rfl, rfl⟩)
    simp [execOp, Instr.sliceAt, Instr.slice, run_underlying (isSl_und ht), hS.ev hX, hb, run_size he]
  · rw [if_neg (by omega), hA]
    simp [addr_add]
theorem y_max {d : Option Nat} {x y : Operand} {tys : Array TypeId} {ty : TypeId} {pos : String} {af : Array Edge} {g : Option (Nat × Bool)} {k : IntKind} {p q : Int} (hS : St W M T n G D F a w) (hx : ev G x = some (.int k p)) (hy : ev G y = some (.int k q)) : Ye P ⟨d, .call { callee := .builtin .max, args := #[x, y], argTypes := tys }, ty, pos, af, g⟩ a E w (.int k (max p q)) :=
  Ye.of fun w => by
    have h : (if q > p then q else p) = max p q := by rw [Int.max_def]; split <;> split <;> omega
    simp only [execOp, resolve, invoke, builtin, Sem.run_bind, Sem.run_pure, Result.andThen_ok, List.map_toArray, List.map_cons, List.map_nil, hS.ev hx, hS.ev hy, Builtin.max_, List.foldlM_cons, List.foldlM_nil, Builtin.max2, h]
theorem y_min {d : Option Nat} {x y : Operand} {tys : Array TypeId} {ty : TypeId} {pos : String} {af : Array Edge} {g : Option (Nat × Bool)} {k : IntKind} {p q : Int} (hS : St W M T n G D F a w) (hx : ev G x = some (.int k p)) (hy : ev G y = some (.int k q)) : Ye P ⟨d, .call { callee := .builtin .min, args := #[x, y], argTypes := tys }, ty, pos, af, g⟩ a E w (.int k (min p q)) :=
  Ye.of fun w => by
    have h : (if q < p then q else p) = min p q := by rw [Int.min_def]; split <;> split <;> omega
    simp only [execOp, resolve, invoke, builtin, Sem.run_bind, Sem.run_pure, Result.andThen_ok, List.map_toArray, List.map_cons, List.map_nil, hS.ev hx, hS.ev hy, Builtin.min_, List.foldlM_cons, List.foldlM_nil, Builtin.min2, h]
theorem y_bits {d : Option Nat} {op : BinOp} {t t' : TypeId} {x y : Operand} {ty : TypeId} {pos : String} {af : Array Edge} {g : Option (Nat × Bool)} {k : IntKind} {p q : Int} (hS : St W M T n G D F a w)
    (hx : ev G x = some (.int k p)) (hy : ev G y = some (.int k q)) (hv : bitOp op = true) : Ye P ⟨d, .binOp op t x y t', ty, pos, af, g⟩ a E w (.int k (ibit op k p q)) :=
  Ye.of fun w => by
    have h1 := hS.ev hx
    have h2 := hS.ev hy
    cases op <;> simp only [bitOp, reduceCtorEq] at hv <;> simp [execOp, h1, h2, eqGuard, binOp, Op.intBits, ibit]
theorem y_bool {d : Option Nat} {op : BinOp} {t t' : TypeId} {x y : Operand} {ty : TypeId} {pos : String} {af : Array Edge} {g : Option (Nat × Bool)} {p q : Bool} (hS : St W M T n G D F a w)
    (hx : ev G x = some (.bool p)) (hy : ev G y = some (.bool q)) (ht : P.underlying t = some .bool) {v : Bool} (hv : (op = .eql ∧ v = (p == q)) ∨ (op = .neq ∧ v = (p != q))) : Ye P ⟨d, .binOp op t x y t', ty, pos, af, g⟩ a E w (.bool v) :=
  Ye.of fun w => by
    have h1 := hS.ev hx
    have h2 := hS.ev hy
    have h3 := run_equal_bool (P := P) w t p q ht
    rcases hv with ⟨rfl, rfl⟩ | ⟨rfl, rfl⟩ <;> simp [execOp, h1, h2, eqGuard, binOp, h3]
    cases p <;> cases q <;> rfl
end
end Go.Proofs.YtjoilbmkcknnfaaDoor
