/- A frame for walks: maps of a call's own. -/
import Derived.Test.YtjoilbmkcknnfaaDoorG8
set_option linter.unusedVariables false
set_option linter.unusedSimpArgs false
namespace Go.Proofs.YtjoilbmkcknnfaaDoor
open Go.RowKit

/-- a map's entries, read as pairs -/
def MapOk {κ ν : Type} (RK : Rep κ) (ak : Bool) (RV : Rep ν) (av : Bool) (T : Nat → Prop) (w : World) (es : Array MapEntry) (xs : List (κ × ν)) : Prop :=
  es.size = xs.length ∧ ∀ (i : Nat) (e : MapEntry) (x : κ × ν), es[i]? = some e → xs[i]? = some x → (∃ c, RK.rel T w c x.1 ∧ e.key = valOf ak c) ∧ ∃ c, RV.rel T w c x.2 ∧ e.val = valOf av c
theorem MapOk.keep {κ ν : Type} {RK : Rep κ} {ak : Bool} {RV : Rep ν} {av : Bool} {T T' : Nat → Prop} {w w' : World} {es : Array MapEntry} {xs : List (κ × ν)} (h : MapOk RK ak RV av T w es xs) (k : Kt T w w') (hn : Nw T T' w) : MapOk RK ak RV av T' w' es xs :=
  ⟨h.1, fun i e x he hx => by
    obtain ⟨⟨c, h1, h2⟩, d, h3, h4⟩ := h.2 i e x he hx
    exact ⟨⟨c, RK.keep h1 k hn, h2⟩, d, RV.keep h3 k hn, h4⟩⟩
def MapF {κ ν : Type} (RK : Rep κ) (ak : Bool) (RV : Rep ν) (av : Bool) (es : Array MapEntry) (xs : List (κ × ν)) : Fact := ⟨fun T w => MapOk RK ak RV av T w es xs, fun h k n => h.keep k n⟩
/-- where a key is -/
def mpos {κ ν : Type} (q : κ → κ → Bool) (k : κ) : List (κ × ν) → Option Nat
  | [] => none
  | x :: r => cond (q k x.1) (some 0) ((mpos q k r).map (· + 1))
/-- what lies at a key -/
def mget {κ ν : Type} (q : κ → κ → Bool) (k : κ) : List (κ × ν) → Option ν
  | [] => none
  | x :: r => cond (q k x.1) (some x.2) (mget q k r)
/-- a pair put in -/
def mput {κ ν : Type} (q : κ → κ → Bool) (k : κ) (v : ν) : List (κ × ν) → List (κ × ν)
  | [] => [(k, v)]
  | x :: r => cond (q k x.1) ((k, v) :: r) (x :: mput q k v r)
/-- a key taken out -/
def mdel {κ ν : Type} (q : κ → κ → Bool) (k : κ) : List (κ × ν) → List (κ × ν)
  | [] => []
  | x :: r => cond (q k x.1) r (x :: mdel q k r)
theorem mpos_none {κ ν : Type} {q : κ → κ → Bool} {k : κ} : ∀ {xs : List (κ × ν)}, mpos q k xs = none → mget q k xs = none ∧ (∀ v, mput q k v xs = xs ++ [(k, v)]) ∧ mdel q k xs = xs
  | [], _ => ⟨rfl, fun _ => rfl, rfl⟩
  | x :: r, h => by
    cases hq : q k x.1 with
    | true => simp [mpos, hq] at h
    | false =>
      simp only [mpos, hq, cond_false, Option.map_eq_none_iff] at h
      obtain ⟨h1, h2, h3⟩ := mpos_none h
      exact ⟨by simp [mget, hq, h1], fun v => by simp [mput, hq, h2], by simp [mdel, hq, h3]⟩
theorem mpos_some {κ ν : Type} {q : κ → κ → Bool} {k : κ} : ∀ {xs : List (κ × ν)} {i : Nat}, mpos q k xs = some i → ∃ x, xs[i]? = some x ∧ q k x.1 = true ∧ mget q k xs = some x.2 ∧ (∀ v, mput q k v xs = xs.set i (k, v)) ∧ mdel q k xs = xs.eraseIdx i
  | [], i, h => by simp [mpos] at h
  | x :: r, i, h => by
    cases hq : q k x.1 with
    | true =>
      simp only [mpos, hq, cond_true, Option.some.injEq] at h
      subst h
      exact ⟨x, rfl, hq, by simp [mget, hq], fun v => by simp [mput, hq], by simp [mdel, hq]⟩
    | false =>
      simp only [mpos, hq, cond_false, Option.map_eq_some_iff] at h
      obtain ⟨j, h1, rfl⟩ := h
      obtain ⟨y, g1, g2, g3, g4, g5⟩ := mpos_some h1
      exact ⟨y, by simpa using g1, g2, by simp [mget, hq, g3], fun v => by simp [mput, hq, g4], by simp [mdel, hq, g5]⟩
/-- a type whose values can be keys: how they are compared -/
structure KeyT {κ : Type} (P : Program) (t : TypeId) (RK : Rep κ) (ak : Bool) (q : κ → κ → Bool) : Prop where
  check : ∀ (b : Bool) (T : Nat → Prop) (w0 w : World) (c : List Value) (x : κ), RK.rel T w0 c x → (Instr.checkKey b 10000 t (valOf ak c)).run P w = .ok () w
  eq : ∀ (T T2 : Nat → Prop) (w0 w1 w : World) (c d : List Value) (x y : κ), RK.rel T w0 c x → RK.rel T2 w1 d y → (Op.equal t (valOf ak c) (valOf ak d)).run P w = .ok (q x y) w
  now : ∃ kind, P.underlying t = some kind ∧ ∀ (T T2 : Nat → Prop) (w0 w1 : World) (c d : List Value) (x y : κ), RK.rel T w0 c x → RK.rel T2 w1 d y → Instr.sameNow kind (valOf ak c) (valOf ak d) = none ∨ Instr.sameNow kind (valOf ak c) (valOf ak d) = some (q x y)
  bits : ∀ (T T2 : Nat → Prop) (w0 w1 : World) (c d : List Value) (x y : κ), RK.rel T w0 c x → RK.rel T2 w1 d y → q x y = true → Instr.sameBits 10000 (valOf ak d) (valOf ak c) = true
def atP (es : List MapEntry) (i0 : Nat) : Option Nat → Option (Nat × Value)
  | none => none
  | some j => (es[j]?).map fun e => (i0 + j, e.val)
theorem atP_succ (e : MapEntry) (es : List MapEntry) (i0 : Nat) (o : Option Nat) : atP (e :: es) i0 (o.map (· + 1)) = atP es (i0 + 1) o := by
  cases o with
  | none => rfl
  | some j => simp only [atP, Option.map_some, List.getElem?_cons_succ]; rw [show i0 + (j + 1) = i0 + 1 + j by omega]
section
variable {κ ν : Type} {P : Program} {t : TypeId} {RK : Rep κ} {ak : Bool} {q : κ → κ → Bool} {T T2 : Nat → Prop} {w0 w1 : World} {c : List Value} {k : κ}
theorem asking_run (hK : KeyT P t RK ak q) (hc : RK.rel T2 w1 c k) (w : World) : ∀ (es : List MapEntry) (xs : List (κ × ν)) (i0 : Nat), es.length = xs.length → (∀ (i : Nat) (e : MapEntry) (x : κ × ν), es[i]? = some e → xs[i]? = some x → ∃ c, RK.rel T w0 c x.1 ∧ e.key = valOf ak c) → (Instr.findAsking t (valOf ak c) es i0).run P w = .ok (atP es i0 (mpos q k xs)) w
  | [], [], i0, _, _ => rfl
  | [], _ :: _, i0, h, _ => by simp at h
  | _ :: _, [], i0, h, _ => by simp at h
  | e :: es, x :: xs, i0, h, hr => by
    obtain ⟨d, h1, h2⟩ := hr 0 e x rfl rfl
    have he := hK.eq _ _ _ _ w _ _ _ _ hc h1
    have ih := asking_run hK hc w es xs (i0 + 1) (by simpa using h) fun i e' x' a b => hr (i + 1) e' x' (by simpa using a) (by simpa using b)
    unfold Instr.findAsking
    rw [h2, Sem.run_bind, he, Result.andThen_ok]
    unfold mpos
    cases hq : q k x.1 with
    | true => simp [atP]
    | false =>
      rw [cond_false, atP_succ]
      simpa using ih
theorem now_run (hK : KeyT P t RK ak q) (hc : RK.rel T2 w1 c k) {kind : TypeDesc} (hn : ∀ (T T2 : Nat → Prop) (w0 w1 : World) (c d : List Value) (x y : κ), RK.rel T w0 c x → RK.rel T2 w1 d y → Instr.sameNow kind (valOf ak c) (valOf ak d) = none ∨ Instr.sameNow kind (valOf ak c) (valOf ak d) = some (q x y)) :
    ∀ (es : List MapEntry) (xs : List (κ × ν)) (i0 : Nat), es.length = xs.length → (∀ (i : Nat) (e : MapEntry) (x : κ × ν), es[i]? = some e → xs[i]? = some x → ∃ c, RK.rel T w0 c x.1 ∧ e.key = valOf ak c) → Instr.findNow kind (valOf ak c) es i0 = none ∨ Instr.findNow kind (valOf ak c) es i0 = some (atP es i0 (mpos q k xs))
  | [], [], i0, _, _ => .inr rfl
  | [], _ :: _, i0, h, _ => by simp at h
  | _ :: _, [], i0, h, _ => by simp at h
  | e :: es, x :: xs, i0, h, hr => by
    obtain ⟨d, h1, h2⟩ := hr 0 e x rfl rfl
    have ih := now_run hK hc hn es xs (i0 + 1) (by simpa using h) fun i e' x' a b => hr (i + 1) e' x' (by simpa using a) (by simpa using b)
    unfold Instr.findNow
    rw [h2]
    rcases hn _ _ _ _ _ _ _ _ hc h1 with h3 | h3
    · rw [h3]; exact .inl rfl
    · rw [h3]
      unfold mpos
      cases hq : q k x.1 with
      | true => right; simp [atP]
      | false => rw [cond_false, atP_succ]; exact ih
theorem find_run (hK : KeyT P t RK ak q) (hc : RK.rel T2 w1 c k) (w : World) {es : List MapEntry} {xs : List (κ × ν)} (h : es.length = xs.length) (hr : ∀ (i : Nat) (e : MapEntry) (x : κ × ν), es[i]? = some e → xs[i]? = some x → ∃ c, RK.rel T w0 c x.1 ∧ e.key = valOf ak c) : (Instr.findKey t (valOf ak c) es).run P w = .ok (atP es 0 (mpos q k xs)) w := by
  obtain ⟨kind, hu, hn⟩ := hK.now
  unfold Instr.findKey
  rw [Sem.run_bind, run_underlying hu, Result.andThen_ok]
  rcases now_run (T := T) (w0 := w0) (ν := ν) hK hc hn es xs 0 h hr with h3 | h3
  · rw [h3]; exact asking_run hK hc w es xs 0 h hr
  · rw [h3]; rfl
end
theorem gobj {P : Program} {w : World} {r : Nat} {es : Array MapEntry} {clock : Nat} (hb : w.heap[r]? = some (.map es clock)) : (getObj r).run P w = .ok (.map es clock) w := by
  simp [getObj, Sem.run, hb]
theorem sobj {P : Program} {w : World} {r : Nat} {es : Array MapEntry} {clock : Nat} (o : Obj) (hb : w.heap[r]? = some (.map es clock)) : (setObj r o).run P w = .ok () { w with heap := w.heap.setIfInBounds r o } := by
  simp [setObj, Sem.run, hb]
theorem hset {w : World} {r : Nat} {o o' : Obj} (hb : w.heap[r]? = some o) : (w.heap.setIfInBounds r o')[r]? = some o' ∧ ∀ r', r' ≠ r → (w.heap.setIfInBounds r o')[r']? = w.heap[r']? := by
  have hlt : r < w.heap.size := (Array.getElem?_eq_some_iff.1 hb).1
  exact ⟨by simp [hlt], fun r' hne => by simp [Ne.symm hne]⟩
/-- what kind of map it is -/
def mpI (P : Program) (t : TypeId) : Option (TypeId × TypeId) := match P.underlying t with
  | some (.map k e) => some (k, e)
  | _ => none
theorem mpI_und {P : Program} {t k e : TypeId} (h : mpI P t = some (k, e)) : P.underlying t = some (.map k e) := by
  unfold mpI at h
  split at h
  · rename_i a b hu
    simp only [Option.some.injEq, Prod.mk.injEq] at h
    obtain ⟨rfl, rfl⟩ := h
    exact hu
  · cases h
/-- a type's zero value -/
def zvI (P : Program) (t : TypeId) : Option Value := match P.info? t with
  | some i => i.zero
  | none => none
theorem zvI_run {P : Program} {t : TypeId} {z : Value} (h : zvI P t = some z) (w : World) : (zeroValue t).run P w = .ok z w := by
  unfold zvI at h
  split at h
  · rename_i i hi
    simp [zeroValue, typeInfo, hi, h]
  · cases h
section
variable {κ ν : Type} {P : Program} {W : World} {M T E : Nat → Prop} {n : Nat} {G G' : List (Nat × Value)} {D D' : List Res} {F F' : List Fact} {a : Act} {w w' : World} {K : Act → World → Prop}
variable {kt et : TypeId} {RK : Rep κ} {ak : Bool} {RV : Rep ν} {av : Bool} {q : κ → κ → Bool} {b clock : Nat} {es : Array MapEntry} {xs : List (κ × ν)}
theorem St.mapOk (hS : St W M T n G D F a w) (j : Nat) (hj : F[j]? = some (MapF RK ak RV av es xs)) : MapOk RK ak RV av (dT T D) w es xs := hS.get j hj
theorem mapKeys {T : Nat → Prop} {w : World} (h : MapOk RK ak RV av T w es xs) : es.toList.length = xs.length ∧ ∀ (i : Nat) (e : MapEntry) (x : κ × ν), es.toList[i]? = some e → xs[i]? = some x → ∃ c, RK.rel T w c x.1 ∧ e.key = valOf ak c :=
  ⟨by simpa using h.1, fun i e x he hx => (h.2 i e x (by simpa using he) hx).1⟩
/-- a new map -/
theorem k_mkmap {d : Nat} {t ty : TypeId} {pos : String} {af : Array Edge} {g : Option (Nat × Bool)} (RK : Rep κ) (ak : Bool) (RV : Rep ν) (av : Bool) (hS : St W M T n G D F a w) (hn : Nat.blt d n = true)
    (k : ∀ b, w.heap.size ≤ b → ∀ a w', Kt No w w' → St W M T n ((d, .map (some b)) :: G) (.obj b (.map #[] 0) :: D) (MapF RK ak RV av #[] [] :: F) a w' → K a w') : OpK P ⟨some d, .makeMap t none, ty, pos, af, g⟩ a w K := by
  have hr : (execOp a.eval ⟨some d, .makeMap t none, ty, pos, af, g⟩).run P w = .ok (.value (.map (some w.heap.size))) (w.alloc (.map #[] 0)) := by
    simp [execOp, Instr.makeMap]
  refine kval hr (k w.heap.size (Nat.le_refl _) _ _ (Kt.alloc _ _) ?_)
  exact ((hS.add (Kt.alloc _ _) (.obj w.heap.size (.map #[] 0)) (heap_alloc_new w _) (fun k hk => by simp only [Res.dom, Option.some.injEq] at hk; omega)).fact (MapF RK ak RV av #[] []) ⟨rfl, fun i e x he hx => by simp at he⟩).put hn _
/-- how many pairs -/
theorem y_mlen {d : Option Nat} {x : Operand} {t : TypeId} {ty : TypeId} {pos : String} {af : Array Edge} {g : Option (Nat × Bool)} (hS : St W M T n G D F a w) (ht : mpI P t = some (kt, et)) (hx : ev G x = some (.map (some b))) (i : Nat) (hi : D[i]? = some (.obj b (.map es clock))) (j : Nat) (hj : F[j]? = some (MapF RK ak RV av es xs)) (hE : ¬ E b) :
    Ye P ⟨d, .call { callee := .builtin .len, args := #[x], argTypes := #[t] }, ty, pos, af, g⟩ a E w (.int .i64 xs.length) := fun w' hk => by
  have hr : w.heap[b]? = some (.map es clock) := hS.own _ (List.mem_of_getElem? hi)
  have hr' := (hk.block b (Array.getElem?_eq_some_iff.1 hr).1 hE).trans hr
  have hm := (hS.mapOk j hj).1
  have h1 := hS.ev hx
  simp [execOp, resolve, invoke, builtin, h1, Builtin.len_, run_underlying (mpI_und ht), gobj hr', goInt, hm]
/-- what a look-up yields -/
theorem look_run {t : TypeId} (ht : mpI P t = some (kt, et)) (hK : KeyT P kt RK ak q) {T T2 : Nat → Prop} {w w0 w1 : World} (hr : w.heap[b]? = some (.map es clock)) (hm : MapOk RK ak RV av T w0 es xs) {c : List Value} {key : κ} (hc : RK.rel T2 w1 c key) {z : Value} {zc : List Value} {z0 : ν} (hz : zvI P et = some z) (hzc : z = valOf av zc) (hz0 : RV.rel T w0 zc z0) :
    ∃ cv, RV.rel T w0 cv ((mget q key xs).getD z0) ∧ (∀ ok, (Instr.lookup t (.map (some b)) (valOf ak c) ok).run P w = .ok (if ok then .tuple #[valOf av cv, .bool (mget q key xs).isSome] else valOf av cv) w) ∧ True := by
  obtain ⟨hl, hkeys⟩ := mapKeys hm
  have hf := find_run hK hc w hl hkeys
  have hch : ∀ e, (Instr.checkKey e 10000 kt (valOf ak c)).run P w = .ok () w := fun e => hK.check e _ _ w _ _ hc
  have hzr := zvI_run (P := P) hz w
  cases hp : mpos q key xs with
  | none =>
    obtain ⟨g1, _, _⟩ := mpos_none hp
    rw [hp] at hf
    refine ⟨zc, by rw [g1]; exact hz0, fun ok => ?_, trivial⟩
    cases ok <;> simp [Instr.lookup, run_underlying (mpI_und ht), gobj hr, hch, hf, atP, hzr, hzc, g1]
  | some i =>
    obtain ⟨x, hx, _, g1, _, _⟩ := mpos_some hp
    rw [hp] at hf
    have hi : i < es.toList.length := by rw [hl]; exact (List.getElem?_eq_some_iff.1 hx).1
    have he : es.toList[i]? = some es.toList[i] := List.getElem?_eq_getElem hi
    obtain ⟨_, cv, h3, h4⟩ := hm.2 i _ x (by rw [← Array.getElem?_toList]; exact he) hx
    refine ⟨cv, by rw [g1]; exact h3, fun ok => ?_, trivial⟩
    have hat : atP es.toList 0 (some i) = some (i, es.toList[i].val) := by simp only [atP, he, Option.map_some, Nat.zero_add]
    rw [hat] at hf
    cases ok <;> simp only [Instr.lookup, Sem.run_bind, run_underlying (mpI_und ht), Result.andThen_ok, gobj hr, hch, hf, h4, g1, Sem.run_pure, Option.isSome_some, Bool.false_eq_true, if_false, if_true]
theorem d_look {t : TypeId} (hS : St W M T n G D F a w) (ht : mpI P t = some (kt, et)) (hK : KeyT P kt RK ak q) (i : Nat) (hi : D[i]? = some (.obj b (.map es clock))) (j : Nat) (hj : F[j]? = some (MapF RK ak RV av es xs)) {c : List Value} {key : κ} (hc : RK.rel (dT T D) w c key) {z : Value} {zc : List Value} {z0 : ν} (hz : zvI P et = some z) (hzc : z = valOf av zc) (hz0 : RV.rel (dT T D) w zc z0) :
    ∃ cv, RV.rel (dT T D) w cv ((mget q key xs).getD z0) ∧ (∀ {E : Nat → Prop} {d : Option Nat} {X Y : Operand} {ok : Bool} {ty : TypeId} {pos : String} {af : Array Edge} {g : Option (Nat × Bool)}, ev G X = some (.map (some b)) → ev G Y = some (valOf ak c) → ¬ E b →
      Ye P ⟨d, .lookup t X Y ok, ty, pos, af, g⟩ a E w (if ok then .tuple #[valOf av cv, .bool (mget q key xs).isSome] else valOf av cv)) := by
  have hr : w.heap[b]? = some (.map es clock) := hS.own _ (List.mem_of_getElem? hi)
  have hm := hS.mapOk j hj
  obtain ⟨cv, h1, h2, _⟩ := look_run (P := P) ht hK hr hm hc hz hzc hz0
  refine ⟨cv, h1, fun hX hY hE w' hk => ?_⟩
  have hr' := (hk.block b (Array.getElem?_eq_some_iff.1 hr).1 hE).trans hr
  obtain ⟨cv2, h3, h4, _⟩ := look_run (P := P) ht hK hr' hm hc hz hzc hz0
  have e1 := hS.ev hX
  have e2 := hS.ev hY
  have hrun : ∀ ok, (Instr.lookup t (.map (some b)) (valOf ak c) ok).run P w' = .ok (if ok then .tuple #[valOf av cv, .bool (mget q key xs).isSome] else valOf av cv) w' := fun ok => by
    obtain ⟨hl, hkeys⟩ := mapKeys hm
    have a1 := h2 ok
    have hf := find_run hK hc w hl hkeys
    have hf' := find_run hK hc w' hl hkeys
    have hch : ∀ e (w : World), (Instr.checkKey e 10000 kt (valOf ak c)).run P w = .ok () w := fun e w => hK.check e _ _ w _ _ hc
    have hzr := zvI_run (P := P) hz
    revert a1
    cases hp : atP es.toList 0 (mpos q key xs) with
    | none =>
      rw [hp] at hf hf'
      cases ok <;> simp [Instr.lookup, run_underlying (mpI_und ht), gobj hr, gobj hr', hch, hf, hf', hzr]
    | some y =>
      rw [hp] at hf hf'
      cases ok <;> simp [Instr.lookup, run_underlying (mpI_und ht), gobj hr, gobj hr', hch, hf, hf']
  simp [execOp, e1, e2, hrun]
theorem d_looku {t : TypeId} (hS : St W M T n G D F a w) (ht : mpI P t = some (kt, et)) (hK : KeyT P kt RK ak q) (i : Nat) (hi : D[i]? = some (.obj b (.map es clock))) (j : Nat) (hj : F[j]? = some (MapF RK ak RV av es xs)) {c : List Value} {key : κ} (hc : RK.rel (dT T D) w c key) {z : Value} {zc : List Value} {z0 u : ν} (hz : zvI P et = some z) (hzc : z = valOf av zc) (hz0 : RV.rel (dT T D) w zc z0) (hu : some ((mget q key xs).getD z0) = some u) :
    ∃ cv, RV.rel (dT T D) w cv u ∧ (∀ {E : Nat → Prop} {d : Option Nat} {X Y : Operand} {ok : Bool} {ty : TypeId} {pos : String} {af : Array Edge} {g : Option (Nat × Bool)}, ev G X = some (.map (some b)) → ev G Y = some (valOf ak c) → ¬ E b →
      Ye P ⟨d, .lookup t X Y ok, ty, pos, af, g⟩ a E w (if ok then .tuple #[valOf av cv, .bool (mget q key xs).isSome] else valOf av cv)) := by
  obtain rfl := Option.some.inj hu
  exact d_look hS ht hK i hi j hj hc hz hzc hz0
theorem set_kt {w : World} {b : Nat} {o o' : Obj} (hr : w.heap[b]? = some o) : Kt (fun k => some b = some k) w { w with heap := w.heap.setIfInBounds b o' } :=
  ⟨rfl, rfl, rfl, by simp, fun k _ hn => (hset (o' := o') hr).2 k fun e => hn (by rw [e])⟩
/-- a pair put into a map of the call's own -/
theorem k_mput {t ty : TypeId} {X Y Z : Operand} {pos : String} {af : Array Edge} {g : Option (Nat × Bool)} (hS : St W M T n G D F a w) (ht : mpI P t = some (kt, et)) (hK : KeyT P kt RK ak q) (i : Nat) (hi : D[i]? = some (.obj b (.map es clock))) (j : Nat) (hj : F[j]? = some (MapF RK ak RV av es xs))
    {c cv : List Value} {key : κ} {val : ν} (hc : RK.rel (dT T D) w c key) (hv : RV.rel (dT T D) w cv val) (hX : ev G X = some (.map (some b))) (hY : ev G Y = some (valOf ak c)) (hZ : ev G Z = some (valOf av cv))
    (k : ∀ es' ck' w', Kt (fun j => j = b) w w' → St W M T n G (D.set i (.obj b (.map es' ck'))) (MapF RK ak RV av es' (mput q key val xs) :: F) a w' → K a w') : OpK P ⟨none, .mapUpdate t X Y Z, ty, pos, af, g⟩ a w K := by
  have hr : w.heap[b]? = some (.map es clock) := hS.own _ (List.mem_of_getElem? hi)
  have hm := hS.mapOk j hj
  obtain ⟨hl, hkeys⟩ := mapKeys hm
  have hf := find_run hK hc w hl hkeys
  have hch := hK.check false _ _ w _ _ hc
  have fin : ∀ es' ck', (Instr.mapUpdate t (.map (some b)) (valOf ak c) (valOf av cv)).run P w = .ok () { w with heap := w.heap.setIfInBounds b (.map es' ck') } → MapOk RK ak RV av (dT T D) w es' (mput q key val xs) → OpK P ⟨none, .mapUpdate t X Y Z, ty, pos, af, g⟩ a w K := fun es' ck' hrun hok => by
    refine kskip (w' := { w with heap := w.heap.setIfInBounds b (.map es' ck') }) (by simp [execOp, hS.ev hX, hS.ev hY, hS.ev hZ, hrun]) (k es' ck' _ ((set_kt hr).mono fun j hj => (Option.some.inj hj).symm) ?_)
    exact (hS.fact (MapF RK ak RV av es' _) hok).turn hi (set_kt hr) (r' := .obj b (.map es' ck')) (hset hr).1 fun j hj => .inl hj
  cases hp : mpos q key xs with
  | none =>
    obtain ⟨_, g2, _⟩ := mpos_none hp
    rw [hp] at hf
    refine fin (es.push { key := valOf ak c, val := valOf av cv, born := clock }) (clock + 1) ?_ ⟨by rw [g2]; simp [hm.1], fun z e x he hx => ?_⟩
    · simp [Instr.mapUpdate, run_underlying (mpI_und ht), gobj hr, hch, hf, atP, sobj _ hr]
    · rw [g2] at hx
      by_cases hz : z < xs.length
      · rw [List.getElem?_append_left hz] at hx
        rw [Array.getElem?_push_lt (by rw [hm.1]; exact hz)] at he
        exact hm.2 z e x (by rw [← he]; exact (Array.getElem?_eq_getElem _)) hx
      · rw [List.getElem?_append_right (by omega)] at hx
        obtain rfl : z = xs.length := by
          rcases Nat.lt_or_ge xs.length z with h | h
          · rw [List.getElem?_eq_none (by simp; omega)] at hx; cases hx
          · omega
        simp at hx
        subst hx
        rw [← hm.1, Array.getElem?_push_size] at he
        simp only [Option.some.injEq] at he
        subst he
        exact ⟨⟨c, hc, rfl⟩, cv, hv, rfl⟩
  | some p =>
    obtain ⟨x0, hx0, hq0, _, g2, _⟩ := mpos_some hp
    have hpi : p < es.size := by rw [hm.1]; exact (List.getElem?_eq_some_iff.1 hx0).1
    have he0 : es[p]? = some es[p] := Array.getElem?_eq_getElem hpi
    obtain ⟨⟨d0, hd0, hk0⟩, _⟩ := hm.2 p _ x0 he0 hx0
    have hbits := hK.bits _ _ _ _ _ _ _ _ hc hd0 hq0
    rw [hp] at hf
    refine fin (es.modify p fun e => { e with key := valOf ak c, val := valOf av cv }) clock ?_ ⟨by rw [g2]; simp [hm.1], fun z e x he hx => ?_⟩
    · have hat : atP es.toList 0 (some p) = some (p, es[p].val) := by simp [atP, he0]
      rw [hat] at hf
      have hkt : (Instr.keyThatStays (((es[p]?).map (·.key)).getD (valOf ak c)) (valOf ak c)).run P w = .ok (valOf ak c) w := by
        rw [he0]
        simp only [Option.map_some, Option.getD_some, hk0, Instr.keyThatStays, hbits, if_true, Sem.run_pure]
      simp only [Instr.mapUpdate, Sem.run_bind, run_underlying (mpI_und ht), Result.andThen_ok, gobj hr, hch, hf, hkt, sobj _ hr]
    · rw [g2] at hx
      by_cases hz : p = z
      · subst hz
        rw [List.getElem?_set_self (by rw [← hm.1]; exact hpi)] at hx
        simp only [Option.some.injEq] at hx
        subst hx
        rw [Array.getElem?_modify, if_pos rfl, he0] at he
        simp only [Option.map_some, Option.some.injEq] at he
        subst he
        exact ⟨⟨c, hc, rfl⟩, cv, hv, rfl⟩
      · rw [List.getElem?_set_ne hz] at hx
        rw [Array.getElem?_modify, if_neg hz] at he
        exact hm.2 z e x he hx
end
end Go.Proofs.YtjoilbmkcknnfaaDoor
