/- A frame for walks: what a call holds at each point (slots, blocks of its own, facts), and single operations. -/
import Derived.Test.YtjoilbmkcknnfaaDoorG0
set_option linter.unusedVariables false
set_option linter.unusedSimpArgs false
namespace Go.Proofs.YtjoilbmkcknnfaaDoor
open Go.RowKit

theorem nbeq {a b : Nat} (h : ¬ a = b) : Nat.beq a b = false := by
  cases hb : Nat.beq a b
  · rfl
  · exact absurd (Nat.eq_of_beq_eq_true hb) h
def lk : List (Nat × Value) → Nat → Option Value
  | [], _ => none
  | p :: r, t => cond (Nat.beq p.1 t) (some p.2) (lk r t)
/-- what lies in a block that the call may turn: a variable, or a row that is appended to -/
inductive Res where
  | box (b : Nat) (cs : List Value) (t : TypeId)
  | own (v : Value) (e : TypeId) (sz : Nat) (cl : List Value)
  | obj (b : Nat) (o : Obj)
def Res.dom : Res → Option Nat
  | .box b _ _ => some b
  | .own v _ _ _ => v.ownBlock
  | .obj b _ => some b
def Res.ok (w : World) : Res → Prop
  | .box b cs t => w.heap[b]? = some (.cells cs.toArray t (0, 0))
  | .own v e sz cl => Own w 0 e sz v cl ∧ 0 < sz
  | .obj b o => w.heap[b]? = some o
def dT (T : Nat → Prop) (D : List Res) : Nat → Prop := fun k => T k ∨ ∃ r ∈ D, r.dom = some k
theorem Res.lt {w : World} {r : Res} (h : r.ok w) : ∀ k, r.dom = some k → k < w.heap.size := by
  intro k hk
  cases r with
  | box b cs t => simp only [Res.dom, Option.some.injEq] at hk; subst hk; exact (Array.getElem?_eq_some_iff.1 h).1
  | own v e sz cl => exact (h.1.blk k hk).2.1
  | obj b o => simp only [Res.dom, Option.some.injEq] at hk; subst hk; exact (Array.getElem?_eq_some_iff.1 h).1
theorem Res.keep {w w' : World} {r : Res} (h : r.ok w) (hk : ∀ k, r.dom = some k → w'.heap[k]? = w.heap[k]?) : r.ok w' := by
  cases r with
  | box b cs t => exact (hk b rfl).trans h
  | obj b o => exact (hk b rfl).trans h
  | own v e sz cl =>
    obtain ⟨h1, h2⟩ := h
    refine ⟨?_, h2⟩
    rcases h1 with h1 | ⟨g, off, n, cap, cs, rfl, q1, q2, q3, rest⟩
    · exact .inl h1
    · exact .inr ⟨g, off, n, cap, cs, rfl, q1, q2, q3.eqb (hk g rfl), rest⟩

/-- the state of a call: W, where it began; M, the blocks of W that it may turn; T, blocks that others may turn; slots; blocks of its own; facts -/
structure St (W : World) (M T : Nat → Prop) (n : Nat) (G : List (Nat × Value)) (D : List Res) (F : List Fact) (a : Act) (w : World) : Prop where
  size : a.tmps.size = n
  defers : a.defers = []
  slots : ∀ t v, lk G t = some v → a.tmps[t]? = some v
  base : Kt M W w
  own : ∀ r ∈ D, r.ok w
  free : ∀ r ∈ D, ∀ k, r.dom = some k → ¬ T k ∧ (M k ∨ W.heap.size ≤ k)
  apart : D.Pairwise fun r s => ∀ k, r.dom = some k → s.dom ≠ some k
  facts : ∀ f ∈ F, f.p (dT T D) w
  tlt : ∀ k, T k → k < w.heap.size

section
variable {W : World} {M T : Nat → Prop} {n : Nat} {G G' : List (Nat × Value)} {D D' : List Res} {F F' : List Fact} {a : Act} {w w' : World}
theorem St.dlt (h : St W M T n G D F a w) : ∀ k, dT T D k → k < w.heap.size := by
  rintro k (hk | ⟨r, hr, hk⟩)
  · exact h.tlt k hk
  · exact Res.lt (h.own r hr) k hk
theorem St.put (h : St W M T n G D F a w) {d : Nat} (hd : Nat.blt d n = true) (v : Value) : St W M T n ((d, v) :: G) D F (a.put (some d) v) w := by
  have hd : d < n := Nat.le_of_ble_eq_true hd
  refine ⟨by simpa [Act.put] using h.size, h.defers, fun t u hu => ?_, h.base, h.own, h.free, h.apart, h.facts, h.tlt⟩
  simp only [lk] at hu
  by_cases e : d = t
  · subst e
    rw [show Nat.beq d d = true from by simp] at hu
    simp only [cond_true, Option.some.injEq] at hu
    subst hu
    simp [Act.put, h.size, hd]
  · rw [nbeq e] at hu
    have := h.slots t u hu
    simp only [Act.put]
    rw [Array.getElem?_setIfInBounds_ne e]; exact this
theorem St.put0 (h : St W M T n G D F a w) (v : Value) : St W M T n G D F (a.put none v) w := h
theorem St.fact (h : St W M T n G D F a w) (f : Fact) (hf : f.p (dT T D) w) : St W M T n G D (f :: F) a w :=
  ⟨h.size, h.defers, h.slots, h.base, h.own, h.free, h.apart, fun g hg => by rcases List.mem_cons.1 hg with rfl | hg; exact hf; exact h.facts g hg, h.tlt⟩
theorem St.get (h : St W M T n G D F a w) (i : Nat) {f : Fact} (hi : F[i]? = some f) : f.p (dT T D) w := h.facts f (List.mem_of_getElem? hi)
/-- all that there was is kept -/
theorem St.later (h : St W M T n G D F a w) (k : Kt No w w') : St W M T n G D F a w' :=
  ⟨h.size, h.defers, h.slots, h.base.step k (fun _ h => h.elim), fun r hr => Res.keep (h.own r hr) fun j hj => k.block j (Res.lt (h.own r hr) j hj) (fun h => h), h.free, h.apart,
    fun f hf => f.keep (h.facts f hf) k.no (Nw.refl _ _), fun j hj => Nat.lt_of_lt_of_le (h.tlt j hj) k.size⟩
theorem dT_cons {T : Nat → Prop} {D : List Res} {r : Res} {k : Nat} : dT T (r :: D) k ↔ dT T D k ∨ r.dom = some k := by
  unfold dT
  simp only [List.mem_cons, exists_eq_or_imp]
  constructor
  · rintro (h | h | h)
    · exact .inl (.inl h)
    · exact .inr h
    · exact .inl (.inr h)
  · rintro ((h | h) | h)
    · exact .inl h
    · exact .inr (.inr h)
    · exact .inr (.inl h)
/-- a new block of the call's own, behind a step that keeps all -/
theorem St.add (h : St W M T n G D F a w) (k : Kt No w w') (r : Res) (hr : r.ok w') (hn : ∀ k, r.dom = some k → w.heap.size ≤ k) : St W M T n G (r :: D) F a w' := by
  have h' := h.later k
  refine ⟨h'.size, h'.defers, h'.slots, h'.base, ?_, ?_, ?_, fun f hf => f.keep (h.facts f hf) k.no (fun j hj => ?_), h'.tlt⟩
  · intro s hs
    rcases List.mem_cons.1 hs with rfl | hs
    · exact hr
    · exact h'.own s hs
  · intro s hs j hj
    rcases List.mem_cons.1 hs with rfl | hs
    · have := hn j hj
      refine ⟨fun ht => ?_, .inr ?_⟩
      · have := h.tlt j ht; omega
      · have := h.base.size; omega
    · exact h'.free s hs j hj
  · refine List.pairwise_cons.2 ⟨fun s hs j hj hj2 => ?_, h.apart⟩
    have := hn j hj
    have := Res.lt (h.own s hs) j hj2
    omega
  · rcases dT_cons.1 hj with h1 | h1
    · exact .inl h1
    · exact .inr (hn j h1)
theorem St.alloc (h : St W M T n G D F a w) (cs : List Value) (t : TypeId) : St W M T n G (.box w.heap.size cs t :: D) F a (w.alloc (.cells cs.toArray t)) :=
  h.add (Kt.alloc _ _) _ (heap_alloc_new w _) (fun k hk => by simp only [Res.dom, Option.some.injEq] at hk; omega)
/-- one of the call's blocks is turned -/
theorem St.turn (h : St W M T n G D F a w) {i : Nat} {r r' : Res} (hi : D[i]? = some r) (k : Kt (fun j => r.dom = some j) w w') (hr : r'.ok w') (hd : ∀ j, r'.dom = some j → r.dom = some j ∨ w.heap.size ≤ j) :
    St W M T n G (D.set i r') F a w' := by
  have hmem := List.mem_of_getElem? hi
  have hlt := (List.getElem?_eq_some_iff.1 hi).1
  have hne : ∀ j s, j ≠ i → D[j]? = some s → ∀ q, s.dom = some q → r.dom ≠ some q := by
    intro j s hj hs q hq hq2
    have hjl := (List.getElem?_eq_some_iff.1 hs).1
    have e1 := (List.getElem?_eq_some_iff.1 hs).2
    have e2 := (List.getElem?_eq_some_iff.1 hi).2
    rcases Nat.lt_or_gt_of_ne hj with hji | hji
    · have := List.pairwise_iff_getElem.1 h.apart j i hjl hlt hji q (by rw [e1]; exact hq)
      rw [e2] at this; exact this hq2
    · have := List.pairwise_iff_getElem.1 h.apart i j hlt hjl hji q (by rw [e2]; exact hq2)
      rw [e1] at this; exact this hq
  have hset : ∀ s, s ∈ D.set i r' → s = r' ∨ ∃ j, j ≠ i ∧ D[j]? = some s := by
    intro s hs
    obtain ⟨j, hj, e⟩ := List.getElem_of_mem hs
    by_cases hji : i = j
    · subst hji; rw [List.getElem_set_self] at e; exact .inl e.symm
    · rw [List.getElem_set_ne hji] at e
      exact .inr ⟨j, fun e => hji e.symm, by rw [← e]; exact List.getElem?_eq_getElem _⟩
  refine ⟨h.size, h.defers, h.slots, h.base.step k (fun j hj => (h.free r hmem j hj).2), ?_, ?_, ?_, fun f hf => f.keep (h.facts f hf) (k.mono fun j hj => .inr ⟨r, hmem, hj⟩) (fun j hj => ?_), fun j hj => Nat.lt_of_lt_of_le (h.tlt j hj) k.size⟩
  · intro s hs
    rcases hset s hs with rfl | ⟨j, hj, hs⟩
    · exact hr
    · have ho := h.own s (List.mem_of_getElem? hs)
      exact Res.keep ho fun q hq => k.block q (Res.lt ho q hq) (hne j s hj hs q hq)
  · intro s hs q hq
    rcases hset s hs with rfl | ⟨j, hj, hs⟩
    · rcases hd q hq with h1 | h1
      · exact h.free r hmem q h1
      · refine ⟨fun ht => ?_, .inr ?_⟩
        · have := h.tlt q ht; omega
        · have := h.base.size; omega
    · exact h.free s (List.mem_of_getElem? hs) q hq
  · rw [List.pairwise_iff_getElem]
    intro x y hx hy hxy q hq hq2
    have hx' : x < D.length := by simpa using hx
    have hy' : y < D.length := by simpa using hy
    have old : ∀ z (hz : z < D.length), D[z].dom = some q → q < w.heap.size := fun z hz e => Res.lt (h.own _ (List.getElem_mem hz)) q e
    by_cases h1 : i = x
    · subst h1
      rw [List.getElem_set_self] at hq
      rw [List.getElem_set_ne (by omega)] at hq2
      rcases hd q hq with h2 | h2
      · exact hne y _ (by omega) (List.getElem?_eq_getElem hy') q hq2 h2
      · have := old y hy' hq2; omega
    · by_cases h2 : i = y
      · subst h2
        rw [List.getElem_set_self] at hq2
        rw [List.getElem_set_ne h1] at hq
        rcases hd q hq2 with h3 | h3
        · exact hne x _ (by omega) (List.getElem?_eq_getElem hx') q hq h3
        · have := old x hx' hq; omega
      · rw [List.getElem_set_ne h1] at hq
        rw [List.getElem_set_ne h2] at hq2
        exact List.pairwise_iff_getElem.1 h.apart x y hx' hy' hxy q hq hq2
  · rcases hj with hj | ⟨s, hs, hj⟩
    · exact .inl (.inl hj)
    · rcases hset s hs with rfl | ⟨z, hz, hs⟩
      · rcases hd j hj with h1 | h1
        · exact .inl (.inr ⟨r, hmem, h1⟩)
        · exact .inr h1
      · exact .inl (.inr ⟨s, List.mem_of_getElem? hs, hj⟩)
/-- blocks that the call does not turn any more, put in another order -/
theorem St.res (h : St W M T n G D F a w) {D' : List Res} (hs : ∀ r ∈ D', r ∈ D) (hp : D'.Pairwise fun r s => ∀ k, r.dom = some k → s.dom ≠ some k) : St W M T n G D' F a w :=
  ⟨h.size, h.defers, h.slots, h.base, fun r hr => h.own r (hs r hr), fun r hr => h.free r (hs r hr), hp, fun f hf => f.keep (h.facts f hf) (Kt.refl _ _) (fun k hk => .inl (by
    rcases hk with hk | ⟨r, hr, hk⟩
    · exact .inl hk
    · exact .inr ⟨r, hs r hr, hk⟩)), h.tlt⟩
theorem St.drop (h : St W M T n G D F a w) (i : Nat) : St W M T n G (D.eraseIdx i) F a w :=
  h.res (fun r hr => List.mem_of_mem_eraseIdx hr) (h.apart.sublist (List.eraseIdx_sublist _ _))
def Sub (G : List (Nat × Value)) : List (Nat × Value) → Prop
  | [] => True
  | p :: r => lk G p.1 = some p.2 ∧ Sub G r
theorem Sub.lk_ {G : List (Nat × Value)} : ∀ {G' : List (Nat × Value)}, Sub G G' → ∀ t v, lk G' t = some v → lk G t = some v
  | [], _, t, v, hv => by simp [lk] at hv
  | p :: r, h, t, v, hv => by
    simp only [lk] at hv
    by_cases e : p.1 = t
    · subst e
      rw [show Nat.beq p.1 p.1 = true from by simp] at hv
      simp only [cond_true, Option.some.injEq] at hv
      subst hv; exact h.1
    · rw [nbeq e] at hv
      exact Sub.lk_ h.2 t v hv
theorem St.slot (h : St W M T n G D F a w) (hs : Sub G G') : St W M T n G' D F a w :=
  ⟨h.size, h.defers, fun t v hv => h.slots t v (hs.lk_ t v hv), h.base, h.own, h.free, h.apart, h.facts, h.tlt⟩
theorem St.sel (h : St W M T n G D F a w) (hs : ∀ f ∈ F', f ∈ F) : St W M T n G D F' a w :=
  ⟨h.size, h.defers, h.slots, h.base, h.own, h.free, h.apart, fun f hf => h.facts f (hs f hf), h.tlt⟩
theorem St.old (h : St W M T n G D F a w) {k : Nat} (hk : dT T D k) : T k ∨ M k ∨ W.heap.size ≤ k := by
  rcases hk with h1 | ⟨r, hr, h1⟩
  · exact .inl h1
  · exact .inr (h.free r hr k h1).2
/-- an own row becomes a slice that nobody turns any more -/
theorem St.freeze {α : Type} {R : Rep α} {v : Value} {e : TypeId} {cl : List Value} {xs : List α} (h : St W M T n G D F a w) (i : Nat) (hi : D[i]? = some (.own v e R.size cl)) (j : Nat) (hj : F[j]? = some (RowsF R cl xs)) : St W M T n G (D.eraseIdx i) (SlF R v xs :: F) a w := by
  have hlt := (List.getElem?_eq_some_iff.1 hi).1
  have hD := (List.getElem?_eq_some_iff.1 hi).2
  obtain ⟨ho, hs⟩ := h.own _ (List.mem_of_getElem? hi)
  have hr : RowsOk R (dT T D) w cl xs := h.get j hj
  have h2 := h.drop i
  refine h2.fact _ ?_
  refine Own.rd hs ho (hr.keep (Kt.refl _ _) (fun k hk => .inl ?_)) (fun k hk hT => ?_)
  · rcases hk with hk | ⟨r, hr, hk⟩
    · exact .inl hk
    · exact .inr ⟨r, List.mem_of_mem_eraseIdx hr, hk⟩
  · rcases hT with hT | ⟨s, hs, hT⟩
    · exact (h.free _ (List.mem_of_getElem? hi) k hk).1 hT
    · obtain ⟨z, hz⟩ := List.mem_iff_getElem?.1 hs
      rw [List.getElem?_eraseIdx] at hz
      split at hz
      · rename_i hzi
        have hzl := (List.getElem?_eq_some_iff.1 hz).1
        have := List.pairwise_iff_getElem.1 h.apart z i hzl hlt hzi k (by rw [(List.getElem?_eq_some_iff.1 hz).2]; exact hT)
        rw [hD] at this; exact this hk
      · rename_i hzi
        have hzl := (List.getElem?_eq_some_iff.1 hz).1
        have := List.pairwise_iff_getElem.1 h.apart i (z + 1) hlt hzl (by omega) k (by rw [hD]; exact hk)
        rw [(List.getElem?_eq_some_iff.1 hz).2] at this; exact this hT
/-- an own row, read for a while -/
theorem St.lend {α : Type} {R : Rep α} {v : Value} {e : TypeId} {cl : List Value} {xs : List α} (h : St W M T n G D F a w) (i : Nat) (hi : D[i]? = some (.own v e R.size cl)) (j : Nat) (hj : F[j]? = some (RowsF R cl xs)) : SlR R (dT T (D.eraseIdx i)) w v xs :=
  (h.freeze i hi j hj).get 0 rfl
theorem St.lendF (h : St W M T n G D F a w) (i : Nat) (j : Nat) {f : Fact} (hj : F[j]? = some f) : f.p (dT T (D.eraseIdx i)) w := (h.drop i).get j hj
theorem dT_erase {T : Nat → Prop} {D : List Res} {i : Nat} : ∀ k, dT T (D.eraseIdx i) k → dT T D k := by
  rintro k (hk | ⟨r, hr, hk⟩)
  · exact .inl hk
  · exact .inr ⟨r, List.mem_of_mem_eraseIdx hr, hk⟩
end

/-- a call begins -/
theorem St.start (W : World) (M T : Nat → Prop) (n : Nat) (vs : List Value) (hT : ∀ k, T k → k < W.heap.size) (hn : vs.length ≤ n) (G : List (Nat × Value)) (hG : ∀ t v, lk G t = some v → vs[t]? = some v) :
    St W M T n G [] [] { tmps := vs.toArray ++ Array.replicate (n - vs.toArray.size) undef, defers := [] } W := by
  refine ⟨by simp; omega, rfl, fun t v hv => ?_, Kt.refl _ _, fun r hr => (by cases hr), fun r hr => (by cases hr), List.Pairwise.nil, fun f hf => (by cases hf), hT⟩
  have h1 := hG t v hv
  have h2 := (List.getElem?_eq_some_iff.1 h1).1
  simp only [Array.getElem?_append, List.size_toArray, h2, if_true, List.getElem?_toArray]
  exact h1
def argSlots : Nat → List Value → List (Nat × Value)
  | _, [] => []
  | k, v :: r => (k, v) :: argSlots (k + 1) r
theorem lk_args : ∀ (vs : List Value) (k t : Nat) (v : Value), lk (argSlots k vs) t = some v → k ≤ t ∧ vs[t - k]? = some v
  | [], k, t, v, h => by simp [argSlots, lk] at h
  | u :: r, k, t, v, h => by
    simp only [argSlots, lk] at h
    by_cases e : k = t
    · subst e
      rw [show Nat.beq k k = true from by simp] at h
      simp only [cond_true, Option.some.injEq] at h
      subst h; simp
    · rw [nbeq e] at h
      obtain ⟨h1, h2⟩ := lk_args r (k + 1) t v h
      refine ⟨by omega, ?_⟩
      rw [show t - k = (t - (k + 1)) + 1 by omega, List.getElem?_cons_succ]; exact h2
/-- a function that returns -/
def Rets (P : Program) (M : Nat → Prop) (f : FuncId) (args : List Value) (w : World) (R : Value → World → Prop) : Prop :=
  Calls P f args.toArray w fun e w' => ∃ v, e = .returned v ∧ Kt M w w' ∧ R v w'
theorem Rets.mono {P : Program} {M : Nat → Prop} {f : FuncId} {args : List Value} {w : World} {R R' : Value → World → Prop} (h : Rets P M f args w R) (hR : ∀ v w', R v w' → R' v w') : Rets P M f args w R' :=
  Calls.mono h fun e w' ⟨v, h1, h2, h3⟩ => ⟨v, h1, h2, hR v w' h3⟩
def Ret (M : Nat → Prop) (W : World) (R : Value → World → Prop) : Ending → World → Prop := fun e w' => ∃ v, e = .returned v ∧ Kt M W w' ∧ R v w'
theorem enter {P : Program} {M : Nat → Prop} {f : FuncId} {fn : Func} {c : Code} {args : List Value} {w : World} {R : Value → World → Prop} (hf : P.funcs[f]? = some fn) (hb : fn.body = some c)
    (T : Nat → Prop) (n : Nat) (hn : fn.ntmps = n) (hT : ∀ k, T k → k < w.heap.size) (hl : Nat.ble args.length n = true)
    (h : ∀ a, St w M T n (argSlots 0 args) [] [] a w → c.wp P (bodyPost P fn (Ret M w R)) a w) : Rets P M f args w R := by
  refine calls_of_wp hf hb (h _ ?_)
  subst hn
  exact St.start w M T _ args hT (Nat.le_of_ble_eq_true hl) _ fun t v hv => by
    obtain ⟨h1, h2⟩ := lk_args args 0 t v hv
    simpa using h2
end Go.Proofs.YtjoilbmkcknnfaaDoor
