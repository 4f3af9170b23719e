/- A frame for walks: calls that are handed blocks to turn. -/
import Derived.Test.YtjoilbmkcknnfaaDoorG9
set_option linter.unusedVariables false
set_option linter.unusedSimpArgs false
namespace Go.Proofs.YtjoilbmkcknnfaaDoor
open Go.RowKit

/-- the blocks of some resources -/
def MD (D0 : List Res) : Nat → Prop := fun k => ∃ r ∈ D0, r.dom = some k
/-- resources that are there, apart from each other and from T -/
structure DOk (T : Nat → Prop) (w : World) (D0 : List Res) : Prop where
  own : ∀ r ∈ D0, r.ok w
  free : ∀ r ∈ D0, ∀ k, r.dom = some k → ¬ T k
  apart : D0.Pairwise fun r s => ∀ k, r.dom = some k → s.dom ≠ some k
/-- what a call leaves of what it was handed, and what it made -/
structure DNew (W w : World) (D0 rs : List Res) : Prop where
  own : ∀ r ∈ rs, r.ok w
  from_ : ∀ r ∈ rs, ∀ k, r.dom = some k → MD D0 k ∨ W.heap.size ≤ k
  apart : rs.Pairwise fun r s => ∀ k, r.dom = some k → s.dom ≠ some k
theorem enterD {P : Program} {f : FuncId} {fn : Func} {c : Code} {args : List Value} {w : World} {R : Value → World → Prop} {D0 : List Res} (hf : P.funcs[f]? = some fn) (hb : fn.body = some c)
    (T : Nat → Prop) (n : Nat) (hn : fn.ntmps = n) (hT : ∀ k, T k → k < w.heap.size) (hl : Nat.ble args.length n = true) (hD : DOk T w D0)
    (h : ∀ a, St w (MD D0) T n (argSlots 0 args) D0 [] a w → c.wp P (bodyPost P fn (Ret (MD D0) w R)) a w) : Rets P (MD D0) f args w R := by
  refine calls_of_wp hf hb (h _ ?_)
  subst hn
  have hS := St.start w (MD D0) T fn.ntmps args hT (Nat.le_of_ble_eq_true hl) (argSlots 0 args) fun t v hv => by
    obtain ⟨h1, h2⟩ := lk_args args 0 t v hv
    simpa using h2
  exact ⟨hS.size, hS.defers, hS.slots, hS.base, hD.own, fun r hr k hk => ⟨hD.free r hr k hk, .inl ⟨r, hr, hk⟩⟩, hD.apart, fun f hf => (by cases hf), hT⟩
section
variable {P : Program} {W : World} {M T E : Nat → Prop} {n : Nat} {G G' : List (Nat × Value)} {D D' D0 Dr rs : List Res} {F F' : List Fact} {a : Act} {w w' : World} {K : Act → World → Prop}
theorem St.dnew (hS : St W (MD D0) T n G rs F a w) : DNew W w D0 rs := ⟨hS.own, fun r hr k hk => (hS.free r hr k hk).2, hS.apart⟩
/-- in another order -/
theorem St.reD (hS : St W M T n G D F a w) (is : List Nat) (hn : is.Nodup) (hd : SubD D is D') : St W M T n G D' F a w :=
  hS.res (fun r hr => hd.mem r hr) (hd.pw hS.apart hn)
theorem St.dok (hS : St W M T n G (D0 ++ Dr) F a w) : DOk (dT T Dr) w D0 := by
  obtain ⟨h1, h2, h3⟩ := List.pairwise_append.1 hS.apart
  refine ⟨fun r hr => hS.own r (List.mem_append_left _ hr), fun r hr k hk ht => ?_, h1⟩
  rcases ht with ht | ⟨s, hs, hk2⟩
  · exact (hS.free r (List.mem_append_left _ hr) k hk).1 ht
  · exact h3 r hr s hs k hk hk2
theorem dT_split : ∀ k, dT (dT T Dr) D0 k ↔ dT T (D0 ++ Dr) k := fun k => by
  unfold dT
  constructor
  · rintro ((h | ⟨r, hr, hk⟩) | ⟨r, hr, hk⟩)
    · exact .inl h
    · exact .inr ⟨r, List.mem_append_right _ hr, hk⟩
    · exact .inr ⟨r, List.mem_append_left _ hr, hk⟩
  · rintro (h | ⟨r, hr, hk⟩)
    · exact .inl (.inl h)
    · rcases List.mem_append.1 hr with hr | hr
      · exact .inr ⟨r, hr, hk⟩
      · exact .inl (.inr ⟨r, hr, hk⟩)
theorem St.getD (hS : St W M T n G (D0 ++ Dr) F a w) (i : Nat) {f : Fact} (hi : F[i]? = some f) : f.p (dT (dT T Dr) D0) w :=
  f.keep (hS.get i hi) (Kt.refl _ _) fun k hk => .inl ((dT_split k).1 hk)
theorem St.dltD (hS : St W M T n G (D0 ++ Dr) F a w) : ∀ k, dT T Dr k → k < w.heap.size := fun k hk => hS.dlt k (by
  rcases hk with h | ⟨r, hr, h⟩
  · exact .inl h
  · exact .inr ⟨r, List.mem_append_right _ hr, h⟩)
theorem dT_join (w : World) : Nw (dT (dT T Dr) rs) (dT T (rs ++ Dr)) w := fun k hk => .inl ((dT_split k).2 hk)
/-- what a call was handed is what it left, now -/
theorem St.swapD (hS : St W M T n G (D0 ++ Dr) F a w) (hk : Kt (MD D0) w w') (hN : DNew w w' D0 rs) : St W M T n G (rs ++ Dr) F a w' := by
  obtain ⟨h1, h2, h3⟩ := List.pairwise_append.1 hS.apart
  have m0 : ∀ k, MD D0 k → ¬ T k ∧ (M k ∨ W.heap.size ≤ k) ∧ dT T (D0 ++ Dr) k ∧ k < w.heap.size := fun k ⟨r, hr, hk⟩ => by
    have := hS.free r (List.mem_append_left _ hr) k hk
    exact ⟨this.1, this.2, .inr ⟨r, List.mem_append_left _ hr, hk⟩, Res.lt (hS.own r (List.mem_append_left _ hr)) k hk⟩
  have hr0 : ∀ s ∈ Dr, ∀ k, s.dom = some k → ¬ MD D0 k ∧ k < w.heap.size := fun s hs k hk => ⟨fun ⟨r, hr, hk2⟩ => h3 r hr s hs k hk2 hk, Res.lt (hS.own s (List.mem_append_right _ hs)) k hk⟩
  have hsz := hS.base.size
  refine ⟨hS.size, hS.defers, hS.slots, hS.base.step hk fun k h => (m0 k h).2.1, fun r hr => ?_, fun r hr k hkd => ?_, List.pairwise_append.2 ⟨hN.apart, h2, fun r hr s hs k hkr hks => ?_⟩, fun f hf => f.keep (hS.facts f hf) (hk.mono fun k h => (m0 k h).2.2.1) fun k hkd => ?_, fun k h => Nat.lt_of_lt_of_le (hS.tlt k h) hk.size⟩
  · rcases List.mem_append.1 hr with hr | hr
    · exact hN.own r hr
    · exact Res.keep (hS.own r (List.mem_append_right _ hr)) fun k hkd => hk.block k (hr0 r hr k hkd).2 (hr0 r hr k hkd).1
  · rcases List.mem_append.1 hr with hr | hr
    · rcases hN.from_ r hr k hkd with h | h
      · exact ⟨(m0 k h).1, (m0 k h).2.1⟩
      · exact ⟨fun ht => by have := hS.tlt k ht; omega, .inr (by omega)⟩
    · exact hS.free r (List.mem_append_right _ hr) k hkd
  · have h4 := hr0 s hs k hks
    rcases hN.from_ r hr k hkr with h | h
    · exact h4.1 h
    · omega
  · rcases hkd with h | ⟨r, hr, hkd⟩
    · exact .inl (.inl h)
    · rcases List.mem_append.1 hr with hr | hr
      · rcases hN.from_ r hr k hkd with h | h
        · exact .inl (m0 k h).2.2.1
        · exact .inr h
      · exact .inl (.inr ⟨r, List.mem_append_right _ hr, hkd⟩)
/-- a call that is handed blocks -/
theorem k_callD {d : Nat} {ty : TypeId} {pos : String} {af : Array Edge} {g : Option (Nat × Bool)} {args : Array Operand} {tys : Array TypeId} {f : Nat} {vs : List Value} {R : Value → World → Prop} (hS : St W M T n G (D0 ++ Dr) F a w) (hf : callI P f = true) (hargs : evs G args.toList = some vs) (hn : Nat.blt d n = true) (hc : Rets P (MD D0) f vs w R)
    (k : ∀ v w', R v w' → ∀ a, Kt (MD D0) w w' → (∀ rs, DNew w w' D0 rs → St W M T n ((d, v) :: G) (rs ++ Dr) F a w') → K a w') : OpK P ⟨some d, .call { callee := .value (.func f), args := args, argTypes := tys }, ty, pos, af, g⟩ a w K :=
  k_callF (cap := []) rfl hS rfl hf hargs (by rw [List.append_nil]; exact hc) fun v w' hk hr => k v w' hr _ hk (fun rs h => (hS.swapD hk h).put hn v)
end
end Go.Proofs.YtjoilbmkcknnfaaDoor
