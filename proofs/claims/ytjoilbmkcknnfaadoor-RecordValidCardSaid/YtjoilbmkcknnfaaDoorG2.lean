/- A frame for walks: operations that yield a value and turn nothing. -/
import Derived.Test.YtjoilbmkcknnfaaDoorG1
import Derived.Laws.Rows
import Derived.Laws.Tables
set_option linter.unusedVariables false
set_option linter.unusedSimpArgs false
namespace Go.Proofs.YtjoilbmkcknnfaaDoor
open Go.RowKit

def ev (G : List (Nat × Value)) : Operand → Option Value
  | .tmp t => lk G t
  | .const v => some v
  | .func f => some (.func (.func f) #[] #[])
  | .global g => some (.pointer (some ⟨g, 0, none⟩))
def evs (G : List (Nat × Value)) : List Operand → Option (List Value)
  | [] => some []
  | x :: r => match ev G x with
    | some v => match evs G r with
      | some vs => some (v :: vs)
      | none => none
    | none => none
/-- an operation that runs to its end -/
def OpK (P : Program) (o : Oper) (a : Act) (w : World) (K : Act → World → Prop) : Prop := ∀ (K' : Act → World → Prop) (Q : Exit → Act → World → Prop), (∀ a w, K a w → K' a w) → o.wp P a w K' Q
/-- an operation that yields v, in every world in which only blocks of E have turned -/
def Ye (P : Program) (o : Oper) (a : Act) (E : Nat → Prop) (w : World) (v : Value) : Prop := ∀ w', Kt E w w' → (execOp a.eval o).run P w' = .ok (.value v) w'
/-- what kind of type it is, and how many cells it takes -/
def tyI (P : Program) (t : TypeId) : Option (Bool × Nat) :=
  match P.underlying t, P.info? t with
  | some (.struct _), some i => some (true, i.size)
  | some (.array _ _), some i => some (true, i.size)
  | some _, some i => some (false, i.size)
  | _, _ => none
def fldI (P : Program) (s : TypeId) (f : Nat) : Option Nat :=
  match P.underlying s with
  | some (.struct fs) => match fs[f]? with
    | some d => match P.info? d.type with
      | some i => if i.size = 0 then none else some d.offset
      | none => none
    | none => none
  | _ => none

section
variable {P : Program} {W : World} {M T E : Nat → Prop} {n : Nat} {G G' : List (Nat × Value)} {D D' : List Res} {F F' : List Fact} {a : Act} {w w' : World} {K : Act → World → Prop}
theorem St.ev (h : St W M T n G D F a w) {x : Operand} {v : Value} (hx : ev G x = some v) : a.eval x = v := by
  cases x with
  | tmp t =>
    have := h.slots t v hx
    simp [Act.eval, Array.getD_eq_getD_getElem?, this]
  | const u => simp only [Proofs.YtjoilbmkcknnfaaDoor.ev, Option.some.injEq] at hx; exact hx
  | func f => simp only [Proofs.YtjoilbmkcknnfaaDoor.ev, Option.some.injEq] at hx; exact hx
  | global g => simp only [Proofs.YtjoilbmkcknnfaaDoor.ev, Option.some.injEq] at hx; exact hx
theorem St.evs (h : St W M T n G D F a w) : ∀ {xs : List Operand} {vs : List Value}, evs G xs = some vs → xs.map a.eval = vs
  | [], vs, hx => by simp only [Proofs.YtjoilbmkcknnfaaDoor.evs, Option.some.injEq] at hx; subst hx; rfl
  | x :: r, vs, hx => by
    simp only [Proofs.YtjoilbmkcknnfaaDoor.evs] at hx
    cases h1 : Proofs.YtjoilbmkcknnfaaDoor.ev G x with
    | none => rw [h1] at hx; cases hx
    | some v =>
      cases h2 : Proofs.YtjoilbmkcknnfaaDoor.evs G r with
      | none => rw [h1, h2] at hx; cases hx
      | some us =>
        rw [h1, h2] at hx
        simp only [Option.some.injEq] at hx
        subst hx
        rw [List.map_cons, h.ev h1, h.evs h2]
theorem wl {ops : Array Oper} {Q : Exit → Act → World → Prop} {rest : List Oper} {o : Oper} (hg : o.guard = none) (h : OpK P o a w (wpList P ops Q rest)) : wpList P ops Q (o :: rest) a w :=
  wpList_plain hg fun K hK => h K Q hK
theorem wanted_of {ops : Array Oper} {o : Oper} {j t : Nat} {want c : Bool} (h : St W M T n G D F a w) (hg : o.guard = some (j, want)) (hj : (ops[j]?).bind (·.dst) = some t) (ht : lk G t = some (.bool c)) : Region.wanted o (yielded ops a.tmps) = (c == want) := by
  have h1 := h.slots t _ ht
  unfold Region.wanted yielded
  rw [hg]
  simp only [hj, Option.bind_some, h1]
  cases c <;> cases want <;> rfl
/-- a guarded operation that is wanted -/
theorem wg {ops : Array Oper} {Q : Exit → Act → World → Prop} {rest : List Oper} {o : Oper} {j t : Nat} {want c : Bool} (hS : St W M T n G D F a w) (hg : o.guard = some (j, want)) (hj : (ops[j]?).bind (·.dst) = some t) (ht : lk G t = some (.bool c)) (hc : c = want) (h : OpK P o a w (wpList P ops Q rest)) : wpList P ops Q (o :: rest) a w :=
  wpList_step fun K hK => by rw [if_pos (by rw [wanted_of hS hg hj ht, hc]; simp)]; exact h K Q hK
/-- a guarded operation that is not -/
theorem wn {ops : Array Oper} {Q : Exit → Act → World → Prop} {rest : List Oper} {o : Oper} {j t d : Nat} {want c : Bool} (hS : St W M T n G D F a w) (hg : o.guard = some (j, want)) (hj : (ops[j]?).bind (·.dst) = some t) (ht : lk G t = some (.bool c)) (hc : c = !want) (hd : o.dst = some d) (hn : Nat.blt d n = true)
    (h : ∀ a, St W M T n ((d, undef) :: G) D F a w → wpList P ops Q rest a w) : wpList P ops Q (o :: rest) a w :=
  wpList_step fun K hK => by rw [if_neg (by rw [wanted_of hS hg hj ht, hc]; cases want <;> simp)]; rw [hd]; exact hK _ _ (h _ (hS.put hn _))
/-- a guarded operation whose guard has not been asked -/
theorem wnu {ops : Array Oper} {Q : Exit → Act → World → Prop} {rest : List Oper} {o : Oper} {j t d : Nat} {want : Bool} (hS : St W M T n G D F a w) (hg : o.guard = some (j, want)) (hj : (ops[j]?).bind (·.dst) = some t) (ht : lk G t = some undef) (hd : o.dst = some d) (hn : Nat.blt d n = true)
    (h : ∀ a, St W M T n ((d, undef) :: G) D F a w → wpList P ops Q rest a w) : wpList P ops Q (o :: rest) a w :=
  wpList_step fun K hK => by
    have h1 := hS.slots t _ ht
    have h2 : Region.wanted o (yielded ops a.tmps) = false := by
      unfold Region.wanted yielded
      rw [hg]
      simp only [hj, Option.bind_some, h1]
      rfl
    rw [if_neg (by rw [h2]; simp), hd]; exact hK _ _ (h _ (hS.put hn _))
theorem Ye.k {o : Oper} {v : Value} (h : Ye P o a E w v) : OpK P o a w (fun a' w' => a' = a.put o.dst v ∧ w' = w) := fun K' Q hK => by
  unfold Oper.wp
  rw [h w (Kt.refl _ _), Oper.upon_value]
  exact hK _ _ ⟨rfl, rfl⟩
theorem OpK.mono {o : Oper} {K' : Act → World → Prop} (h : OpK P o a w K) (hk : ∀ a w, K a w → K' a w) : OpK P o a w K' := fun K2 Q h2 => h K2 Q fun a w ha => h2 a w (hk a w ha)
theorem ky {o : Oper} {v : Value} {d : Nat} (hS : St W M T n G D F a w) (h : Ye P o a No w v) (hd : o.dst = some d) (hn : Nat.blt d n = true) (k : ∀ a, St W M T n ((d, v) :: G) D F a w → K a w) : OpK P o a w K :=
  h.k.mono fun a' w' ⟨h1, h2⟩ => by subst h1 h2; rw [hd]; exact k _ (hS.put hn v)
/-- an operation in a list that yields a value -/
theorem wy {ops : Array Oper} {Q : Exit → Act → World → Prop} {rest : List Oper} {o : Oper} {v : Value} {d : Nat} (hS : St W M T n G D F a w) (h : Ye P o a No w v) (hg : o.guard = none) (hd : o.dst = some d) (hn : Nat.blt d n = true) (k : ∀ a, St W M T n ((d, v) :: G) D F a w → wpList P ops Q rest a w) : wpList P ops Q (o :: rest) a w :=
  wl hg (ky hS h hd hn k)

/-- an operation that yields what it would in any world -/
theorem Ye.of {o : Oper} {v : Value} (h : ∀ w, (execOp a.eval o).run P w = .ok (.value v) w) : Ye P o a E w v := fun w' _ => h w'
theorem y_move {d : Option Nat} {x : Operand} {ty : TypeId} {pos : String} {af : Array Edge} {g : Option (Nat × Bool)} {v : Value} (hS : St W M T n G D F a w) (hx : ev G x = some v) : Ye P ⟨d, .move x, ty, pos, af, g⟩ a E w v :=
  Ye.of fun w => by simp only [execOp, Sem.run_pure, hS.ev hx]
theorem y_assign {d : Option Nat} {x : Operand} {ty : TypeId} {pos : String} {af : Array Edge} {g : Option (Nat × Bool)} {v : Value} (hS : St W M T n G D F a w) (hx : ev G x = some v) : Ye P ⟨d, .assign x, ty, pos, af, g⟩ a E w v :=
  Ye.of fun w => by simp only [execOp, Sem.run_pure, hS.ev hx]
theorem y_pickt {d : Option Nat} {c x y : Operand} {ty : TypeId} {pos : String} {af : Array Edge} {g : Option (Nat × Bool)} {v : Value} {b : Bool} (hS : St W M T n G D F a w) (hc : ev G c = some (.bool b)) (hb : b = true) (hv : ev G x = some v) : Ye P ⟨d, .pick c x y, ty, pos, af, g⟩ a E w v :=
  Ye.of fun w => by simp [execOp, hS.ev hc, hS.ev hv, asBool, hb]
theorem y_pickf {d : Option Nat} {c x y : Operand} {ty : TypeId} {pos : String} {af : Array Edge} {g : Option (Nat × Bool)} {v : Value} {b : Bool} (hS : St W M T n G D F a w) (hc : ev G c = some (.bool b)) (hb : b = false) (hv : ev G y = some v) : Ye P ⟨d, .pick c x y, ty, pos, af, g⟩ a E w v :=
  Ye.of fun w => by simp [execOp, hS.ev hc, hS.ev hv, asBool, hb]
def ibin : BinOp → IntKind → Int → Int → Option Value
  | .add, k, x, y => some (.int k (k.wrap (x + y)))
  | .sub, k, x, y => some (.int k (k.wrap (x - y)))
  | .mul, k, x, y => some (.int k (k.wrap (x * y)))
  | .eql, _, x, y => some (.bool (x == y))
  | .neq, _, x, y => some (.bool (x != y))
  | .lss, _, x, y => some (.bool (decide (x < y)))
  | .leq, _, x, y => some (.bool (decide (x ≤ y)))
  | .gtr, _, x, y => some (.bool (decide (y < x)))
  | .geq, _, x, y => some (.bool (decide (y ≤ x)))
  | _, _, _, _ => none
theorem y_int {d : Option Nat} {op : BinOp} {t t' : TypeId} {x y : Operand} {ty : TypeId} {pos : String} {af : Array Edge} {g : Option (Nat × Bool)} {v : Value} {k : IntKind} {p q : Int} (hS : St W M T n G D F a w)
    (hx : ev G x = some (.int k p)) (hy : ev G y = some (.int k q)) (hv : ibin op k p q = some v) : Ye P ⟨d, .binOp op t x y t', ty, pos, af, g⟩ a E w v :=
  Ye.of fun w => by
    have h1 := hS.ev hx
    have h2 := hS.ev hy
    cases op <;> simp only [ibin, Option.some.injEq, reduceCtorEq] at hv <;> subst hv <;> simp [execOp, h1, h2, eqGuard, binOp, Op.intArith, Op.intCmp]
theorem y_rem {d : Option Nat} {t t' : TypeId} {x y : Operand} {ty : TypeId} {pos : String} {af : Array Edge} {g : Option (Nat × Bool)} {k : IntKind} {p q : Int} (hS : St W M T n G D F a w)
    (hx : ev G x = some (.int k p)) (hy : ev G y = some (.int k q)) (hq : q ≠ 0) : Ye P ⟨d, .binOp .rem t x y t', ty, pos, af, g⟩ a E w (.int k (p.tmod q)) :=
  Ye.of fun w => by
    have h1 := hS.ev hx
    have h2 := hS.ev hy
    simp [execOp, h1, h2, eqGuard, binOp, Op.intDiv, hq]
theorem y_quo {d : Option Nat} {t t' : TypeId} {x y : Operand} {ty : TypeId} {pos : String} {af : Array Edge} {g : Option (Nat × Bool)} {k : IntKind} {p q : Int} (hS : St W M T n G D F a w)
    (hx : ev G x = some (.int k p)) (hy : ev G y = some (.int k q)) (hq : q ≠ 0) : Ye P ⟨d, .binOp .quo t x y t', ty, pos, af, g⟩ a E w (.int k (k.wrap (p.tdiv q))) :=
  Ye.of fun w => by
    have h1 := hS.ev hx
    have h2 := hS.ev hy
    simp [execOp, h1, h2, eqGuard, binOp, Op.intDiv, hq]
def sbin : BinOp → ByteArray → ByteArray → Option Value
  | .eql, x, y => some (.bool (x.toList == y.toList))
  | .neq, x, y => some (.bool !(x.toList == y.toList))
  | .lss, x, y => some (.bool (Op.bytesLess x.toList y.toList))
  | .gtr, x, y => some (.bool !(Op.bytesLess x.toList y.toList || x.toList == y.toList))
  | _, _, _ => none
theorem y_str {d : Option Nat} {op : BinOp} {t t' : TypeId} {x y : Operand} {ty : TypeId} {pos : String} {af : Array Edge} {g : Option (Nat × Bool)} {v : Value} {p q : ByteArray} (hS : St W M T n G D F a w)
    (hx : ev G x = some (.string p)) (hy : ev G y = some (.string q)) (hv : sbin op p q = some v) : Ye P ⟨d, .binOp op t x y t', ty, pos, af, g⟩ a E w v :=
  Ye.of fun w => by
    have h1 := hS.ev hx
    have h2 := hS.ev hy
    cases op <;> simp only [sbin, Option.some.injEq, reduceCtorEq] at hv <;> subst hv <;> simp [execOp, h1, h2, eqGuard, binOp, Op.stringOp]
theorem y_cat {d : Option Nat} {t t' : TypeId} {x y : Operand} {ty : TypeId} {pos : String} {af : Array Edge} {g : Option (Nat × Bool)} {p q : ByteArray} (hS : St W M T n G D F a w)
    (hx : ev G x = some (.string p)) (hy : ev G y = some (.string q)) (hz : p.size + q.size ≤ 140737488355328) : Ye P ⟨d, .binOp .add t x y t', ty, pos, af, g⟩ a E w (.string (p ++ q)) :=
  Ye.of fun w => by
    have h1 := hS.ev hx
    have h2 := hS.ev hy
    have h3 : ¬ (((p.size + q.size : Nat) : Int) > IntKind.i64.max) := by
      have : IntKind.i64.max = 9223372036854775807 := rfl
      omega
    simp only [execOp, h1, h2, eqGuard, binOp, Op.stringOp, if_neg h3]
    simp
theorem y_not {d : Option Nat} {t : TypeId} {x : Operand} {ty : TypeId} {pos : String} {af : Array Edge} {g : Option (Nat × Bool)} {b : Bool} (hS : St W M T n G D F a w) (hx : ev G x = some (.bool b)) : Ye P ⟨d, .unOp .not t x, ty, pos, af, g⟩ a E w (.bool !b) :=
  Ye.of fun w => by simp [execOp, hS.ev hx, Op.unary]
theorem y_neg {d : Option Nat} {t : TypeId} {x : Operand} {ty : TypeId} {pos : String} {af : Array Edge} {g : Option (Nat × Bool)} {k : IntKind} {p : Int} (hS : St W M T n G D F a w) (hx : ev G x = some (.int k p)) : Ye P ⟨d, .unOp .neg t x, ty, pos, af, g⟩ a E w (.int k (k.wrap (0 - p))) :=
  Ye.of fun w => by simp [execOp, hS.ev hx, Op.unary, Op.intArith]
theorem y_ex {d : Option Nat} {x : Operand} {i : Nat} {ty : TypeId} {pos : String} {af : Array Edge} {g : Option (Nat × Bool)} {vs : Array Value} {v : Value} (hS : St W M T n G D F a w) (hx : ev G x = some (.tuple vs)) (hv : vs[i]? = some v) : Ye P ⟨d, .extract x i, ty, pos, af, g⟩ a E w v :=
  Ye.of fun w => by simp [execOp, hS.ev hx, Instr.extract, hv]
theorem y_nil {d : Option Nat} {x : Operand} {ty : TypeId} {pos : String} {af : Array Edge} {g : Option (Nat × Bool)} {p : Addr} (hS : St W M T n G D F a w) (hx : ev G x = some (.pointer (some p))) : Ye P ⟨d, .nilCheck x, ty, pos, af, g⟩ a E w (.pointer (some p)) :=
  Ye.of fun w => by simp [execOp, hS.ev hx]
theorem y_nilf {d : Option Nat} {x : Operand} {ty : TypeId} {pos : String} {af : Array Edge} {g : Option (Nat × Bool)} {f : Nat} {c1 c2 : Array Value} (hS : St W M T n G D F a w) (hx : ev G x = some (.func (.func f) c1 c2)) : Ye P ⟨d, .nilCheck x, ty, pos, af, g⟩ a E w (.func (.func f) c1 c2) :=
  Ye.of fun w => by simp [execOp, hS.ev hx]
/-- len -/
def isSl (P : Program) (t : TypeId) : Option TypeId := match P.underlying t with
  | some (.slice e) => some e
  | _ => none
theorem isSl_und {t e : TypeId} (h : isSl P t = some e) : P.underlying t = some (.slice e) := by
  unfold isSl at h
  split at h
  · rename_i e' h1; injection h with h; subst h; exact h1
  · cases h
theorem y_lenv {d : Option Nat} {x : Operand} {t e : TypeId} {ty : TypeId} {pos : String} {af : Array Edge} {g : Option (Nat × Bool)} {v : Value} {m : Nat} (hS : St W M T n G D F a w) (ht : isSl P t = some e) (hx : ev G x = some v) (hv : ∃ A c, v = .slice A m c) : Ye P ⟨d, .call { callee := .builtin .len, args := #[x], argTypes := #[t] }, ty, pos, af, g⟩ a E w (.int .i64 m) :=
  Ye.of fun w => by
    obtain ⟨A, c, rfl⟩ := hv
    have h1 := hS.ev hx
    simp [execOp, resolve, invoke, builtin, h1, Builtin.len_, run_underlying (isSl_und ht), goInt]
theorem y_len {α : Type} {R : Rep α} {xs : List α} {d : Option Nat} {x : Operand} {t e : TypeId} {ty : TypeId} {pos : String} {af : Array Edge} {g : Option (Nat × Bool)} {v : Value} (hS : St W M T n G D F a w) (ht : isSl P t = some e) (hx : ev G x = some v) (i : Nat) (hi : F[i]? = some (SlF R v xs)) : Ye P ⟨d, .call { callee := .builtin .len, args := #[x], argTypes := #[t] }, ty, pos, af, g⟩ a E w (.int .i64 xs.length) :=
  y_lenv hS ht hx (by obtain ⟨A, c, e, _⟩ := SlR.len (hS.get i hi); exact ⟨A, c, e⟩)
theorem own_len {B sz : Nat} {e : TypeId} {v : Value} {cl : List Value} (h : Own w B e sz v cl) (hs : 0 < sz) {m : Nat} (hm : cl.length = m * sz) : ∃ A c, v = .slice A m c := by
  obtain ⟨A, k, c, rfl, h1, _⟩ := h.form hs
  have : k = m := Nat.mul_right_cancel hs (h1.symm.trans hm)
  subst this
  exact ⟨A, c, rfl⟩
theorem y_leno {α : Type} {R : Rep α} {xs : List α} {cl : List Value} {d : Option Nat} {x : Operand} {t e e' : TypeId} {ty : TypeId} {pos : String} {af : Array Edge} {g : Option (Nat × Bool)} {v : Value} (hS : St W M T n G D F a w) (ht : isSl P t = some e) (hx : ev G x = some v) (j : Nat) (hj : D[j]? = some (.own v e' R.size cl)) (i : Nat) (hi : F[i]? = some (RowsF R cl xs)) : Ye P ⟨d, .call { callee := .builtin .len, args := #[x], argTypes := #[t] }, ty, pos, af, g⟩ a E w (.int .i64 xs.length) :=
  y_lenv hS ht hx (by obtain ⟨h1, h2⟩ := hS.own _ (List.mem_of_getElem? hj); exact own_len h1 h2 (hS.get i hi : RowsOk R _ w cl xs).1)
theorem y_lens {d : Option Nat} {x : Operand} {t : TypeId} {ty : TypeId} {pos : String} {af : Array Edge} {g : Option (Nat × Bool)} {s : ByteArray} (hS : St W M T n G D F a w) (ht : P.underlying t = some .string) (hx : ev G x = some (.string s)) : Ye P ⟨d, .call { callee := .builtin .len, args := #[x], argTypes := #[t] }, ty, pos, af, g⟩ a E w (.int .i64 s.size) :=
  Ye.of fun w => by
    have h1 := hS.ev hx
    simp [execOp, resolve, invoke, builtin, h1, Builtin.len_, run_underlying ht, goInt]
/-- the address of a field -/
theorem run_field {s : TypeId} {f k : Nat} {b o : Nat} (hf : fldI P s f = some k) (w : World) : (Instr.fieldAt s (.pointer (some ⟨b, o, none⟩)) f).run P w = .ok (.pointer (some ⟨b, o + k, none⟩)) w := by
  unfold fldI at hf
  split at hf
  · rename_i fs hu
    split at hf
    · rename_i fd hfd
      split at hf
      · rename_i i hi
        split at hf
        · cases hf
        · rename_i hz
          injection hf with hf
          subst hf
          have hsz : (sizeOf fd.type).run P w = .ok i.size w := by simp [sizeOf, typeInfo, hi]
          have hadd : Addr.add ⟨b, o, none⟩ fd.offset = ⟨b, o + fd.offset, none⟩ := by
            unfold Addr.add
            split
            · rename_i h0; rw [h0]; rfl
            · rfl
          simp [Instr.fieldAt, run_underlying hu, hfd, Instr.sureAddr, fieldPlace, hsz, hz, hadd]
      · cases hf
    · cases hf
  · cases hf
theorem y_fld {d : Option Nat} {s : TypeId} {x : Operand} {f k : Nat} {ty : TypeId} {pos : String} {af : Array Edge} {g : Option (Nat × Bool)} {b o : Nat} (hS : St W M T n G D F a w) (hx : ev G x = some (.pointer (some ⟨b, o, none⟩))) (hf : fldI P s f = some k) : Ye P ⟨d, .fieldAddr s x f, ty, pos, af, g⟩ a E w (.pointer (some ⟨b, o + k, none⟩)) :=
  Ye.of fun w => by simp [execOp, hS.ev hx, run_field hf]
/-- loads -/
theorem run_isAgg {t : TypeId} {b : Bool} {z : Nat} (h : tyI P t = some (b, z)) (w : World) : (isAgg t).run P w = .ok b w := by
  unfold tyI at h
  split at h
  all_goals first | (cases h; done) | skip
  all_goals
    rename_i hu hi
    simp only [Option.some.injEq, Prod.mk.injEq] at h
    obtain ⟨rfl, _⟩ := h
    simp [isAgg, run_underlying hu]
theorem run_size {t : TypeId} {b : Bool} {z : Nat} (h : tyI P t = some (b, z)) (w : World) : (sizeOf t).run P w = .ok z w := by
  unfold tyI at h
  split at h
  all_goals first | (cases h; done) | skip
  all_goals
    rename_i hu hi
    simp only [Option.some.injEq, Prod.mk.injEq] at h
    obtain ⟨_, rfl⟩ := h
    simp [sizeOf, typeInfo, hi]
theorem addr_add (b o k : Nat) : Addr.add ⟨b, o, none⟩ k = ⟨b, o + k, none⟩ := by
  unfold Addr.add
  split
  · rename_i h0; rw [h0]; rfl
  · rfl
theorem run_loadFrom {b o : Nat} : ∀ (m : Nat) (us : List Value) (i : Nat) (acc : Array Value) (w : World), us.length = m → (∀ j u, us[j]? = some u → w.cell? ⟨b, o + i + j, none⟩ = some u) → (loadCellsFrom ⟨b, o, none⟩ i m acc).run P w = .ok (acc ++ us.toArray) w
  | 0, us, i, acc, w, hl, _ => by
    obtain rfl := List.eq_nil_of_length_eq_zero hl
    simp [loadCellsFrom]
  | m + 1, us, i, acc, w, hl, hc => by
    cases us with
    | nil => simp at hl
    | cons u r =>
      have h0 := hc 0 u rfl
      have ih := run_loadFrom m r (i + 1) (acc.push u) w (by simpa using hl) (fun j v hv => by have := hc (j + 1) v (by simpa using hv); rwa [show o + i + (j + 1) = o + (i + 1) + j by omega] at this)
      rw [Nat.add_zero] at h0
      simp [loadCellsFrom, addr_add, h0, load, ih, Sem.run]
theorem run_loadV {t : TypeId} {ag : Bool} {z b o : Nat} {us : List Value} {v : Value} (ht : tyI P t = some (ag, z)) (hl : us.length = z) (hv : v = cond ag (.agg us.toArray) (us.getD 0 undef)) (hz : ag = false → z = 1) (w : World) (hc : ∀ j u, us[j]? = some u → w.cell? ⟨b, o + j, none⟩ = some u) : (loadVar t ⟨b, o, none⟩).run P w = .ok v w := by
  cases ag with
  | true =>
    have := run_loadFrom (P := P) (b := b) (o := o) z us 0 #[] w hl (fun j u hu => by rw [Nat.add_zero]; exact hc j u hu)
    rw [hv]
    simp [loadVar, run_isAgg ht, run_size ht, loadCells, this]
  | false =>
    have h1 := hz rfl
    subst h1
    cases us with
    | nil => simp at hl
    | cons u r =>
      have h0 := hc 0 u rfl
      rw [hv]
      rw [Nat.add_zero] at h0
      simp [loadVar, run_isAgg ht, load, h0, Sem.run]
/-- how the cells of a variable come up as a value -/
def valOf (ag : Bool) (us : List Value) : Value := cond ag (.agg us.toArray) (us.getD 0 undef)
theorem run_loadAt {t : TypeId} {ag : Bool} {z b o : Nat} {us : List Value} (ht : tyI P t = some (ag, z)) (hl : us.length = z) (hz : ag = false → z = 1) (w : World) (hc : ∀ j u, us[j]? = some u → w.cell? ⟨b, o + j, none⟩ = some u) : (Instr.loadAt t (.pointer (some ⟨b, o, none⟩))).run P w = .ok (valOf ag us) w := by
  simp [Instr.loadAt, Instr.sureAddr, run_loadV ht hl rfl hz w hc, valOf]
/-- from a variable of the call's own -/
theorem y_load {d : Option Nat} {t ty : TypeId} {x : Operand} {pos : String} {af : Array Edge} {g : Option (Nat × Bool)} {ag : Bool} {z b o : Nat} {cs us : List Value} {bt : TypeId} (hS : St W M T n G D F a w) (hx : ev G x = some (.pointer (some ⟨b, o, none⟩))) (ht : tyI P t = some (ag, z)) (i : Nat) (hi : D[i]? = some (.box b cs bt)) (hE : ¬ E b)
    (hu : (cs.drop o).take z = us) (hl : us.length = z) (hz : ag = false → z = 1) : Ye P ⟨d, .load t x, ty, pos, af, g⟩ a E w (valOf ag us) := fun w' hk => by
  have hr : w.heap[b]? = some (.cells cs.toArray bt (0, 0)) := hS.own _ (List.mem_of_getElem? hi)
  have hr' := (hk.block b (Array.getElem?_eq_some_iff.1 hr).1 hE).trans hr
  have := run_loadAt (P := P) (b := b) (o := o) ht hl hz w' (fun j u hj => by
    rw [cell_of_row _ _ _ _ _ _ hr', List.getElem?_toArray]
    rw [← hu, List.getElem?_take] at hj
    split at hj
    · rw [List.getElem?_drop] at hj; exact hj
    · cases hj)
  simp [execOp, hS.ev hx, this]
/-- from a block that does not turn -/
theorem y_loadc {d : Option Nat} {t ty : TypeId} {x : Operand} {pos : String} {af : Array Edge} {g : Option (Nat × Bool)} {ag : Bool} {z b o k : Nat} {cs us : List Value} (hS : St W M T n G D F a w) (ht : tyI P t = some (ag, z)) (i : Nat) (hi : F[i]? = some (CellsF b o cs)) (hx : ev G x = some (.pointer (some ⟨b, o + k, none⟩))) (hE : ∀ j, E j → dT T D j ∨ w.heap.size ≤ j)
    (hu : (cs.drop k).take z = us) (hl : us.length = z) (hz : ag = false → z = 1) : Ye P ⟨d, .load t x, ty, pos, af, g⟩ a E w (valOf ag us) := fun w' hk => by
  have hc : CellsAt (dT T D) w b o cs := hS.get i hi
  have hk2 : Kt (dT T D) w w' := ⟨hk.os, hk.tape, hk.output, hk.size, fun j hj hn => hk.block j hj fun he => (hE j he).elim hn fun h => by omega⟩
  have hc' := (hc.keep hk2 (Nw.refl _ _)).sub (ds := us) k (fun j u hj => by
    rw [← hu, List.getElem?_take] at hj
    split at hj
    · rw [List.getElem?_drop] at hj; exact hj
    · cases hj)
  have := run_loadAt (P := P) (b := b) (o := o + k) ht hl hz w' hc'.2.2
  simp [execOp, hS.ev hx, this]
/-- a field of a value -/
theorem y_fieldv {d : Option Nat} {s : TypeId} {x : Operand} {f : Nat} {ty : TypeId} {pos : String} {af : Array Edge} {g : Option (Nat × Bool)} {cs : Array Value} {ag : Bool} {z k : Nat} {us : List Value} {fs : Array Field} {fd : Field} (hS : St W M T n G D F a w) (hx : ev G x = some (.agg cs)) (hs : P.underlying s = some (.struct fs)) (hf : fs[f]? = some fd) (hk : fd.offset = k) (ht : tyI P fd.type = some (ag, z))
    (hu : (cs.toList.drop k).take z = us) (hl : us.length = z) (hz : ag = false → z = 1) : Ye P ⟨d, .field s x f, ty, pos, af, g⟩ a E w (valOf ag us) :=
  Ye.of fun w => by
    have h1 := hS.ev hx
    subst hk
    have hp : (part fd.type cs fd.offset).run P w = .ok (valOf ag us) w := by
      cases ag with
      | true =>
        have : cs.extract fd.offset (fd.offset + z) = us.toArray := by
          rw [← hu]
          apply Array.toList_inj.1
          rw [Array.toList_extract, List.extract_eq_take_drop]
          simp
        simp [part, run_isAgg ht, run_size ht, this, valOf]
      | false =>
        have h1 := hz rfl
        subst h1
        have : cs[fd.offset]? = some (us.getD 0 undef) := by
          rw [← hu] at hl ⊢
          rw [List.length_take, List.length_drop] at hl
          have hlt : fd.offset < cs.toList.length := by omega
          rw [← Array.getElem?_toList, List.getElem?_eq_getElem hlt]
          simp [List.getD_eq_getElem?_getD, List.getElem?_take, List.getElem?_drop, List.getElem?_eq_getElem hlt]
        simp [part, run_isAgg ht, this, valOf]
    simp [execOp, h1, Instr.field, run_underlying hs, hf, asAgg, hp]
/-- a byte of a string -/
theorem y_byte {d : Option Nat} {s : TypeId} {x y : Operand} {ty : TypeId} {pos : String} {af : Array Edge} {g : Option (Nat × Bool)} {k : IntKind} {i : Int} {p : ByteArray} {c : UInt8} (hS : St W M T n G D F a w) (hs : P.underlying s = some .string) (hx : ev G x = some (.string p)) (hy : ev G y = some (.int k i)) (hc : getI p.toList i = some c) : Ye P ⟨d, .index s x y, ty, pos, af, g⟩ a E w (.int .u8 c.toNat) :=
  Ye.of fun w => by
    have h1 := hS.ev hx
    have h2 := hS.ev hy
    obtain ⟨q1, q2, q3⟩ := getI_some hc
    have h3 : p[i.toNat]? = some c := by
      rw [ByteArray.toList_eq, Array.getElem?_toList] at q3
      rw [← q3]; rfl
    simp [execOp, h1, h2, Instr.index, asIntOf, run_underlying hs, q1, h3]
end
end Go.Proofs.YtjoilbmkcknnfaaDoor
