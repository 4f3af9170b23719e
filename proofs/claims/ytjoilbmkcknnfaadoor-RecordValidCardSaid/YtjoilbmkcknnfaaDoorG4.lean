/- A frame for walks: regions that draw their order. -/
import Derived.Test.YtjoilbmkcknnfaaDoorG3
import Derived.Orders
set_option linter.unusedVariables false
set_option linter.unusedSimpArgs false
namespace Go.Proofs.YtjoilbmkcknnfaaDoor
open Go.RowKit

section
variable {P : Program} {ops : Array Oper} {Q : Exit → Act → World → Prop} {md : Region.Mode} {E : Nat → Prop}
/-- all blocks -/
def Al : Nat → Prop := fun _ => True
/-- what a step may turn: anything, one block, or blocks from N on -/
inductive Tn where
  | any
  | blk (o : Option Nat)
  | new (N : Nat)
def Et : Tn → Nat → Prop
  | .any, _ => True
  | .blk o, k => o = some k
  | .new N, k => N ≤ k
def Eo (l : List (Tn)) (k : Nat) : Prop := ∃ e ∈ l, Et e k
def modsOf (mods : List (Nat × Tn)) (i : Nat) : List (Tn) := (mods.filter fun p => Nat.beq p.1 i).map (·.2)
/-- a step of a region: what operation i turns is said in 'mods' -/
def Stp (mods : List (Nat × Tn)) (i : Nat) (w w' : World) : Prop := Kt (Eo (modsOf mods i)) w w'
/-- operation j waits for operation i -/
def waitB (ops : Array Oper) (listed : Array Bool) (i : Nat) : Nat → Nat → Bool
  | 0, _ => false
  | n + 1, j => match ops[j]? with
    | some oj => oj.after.any fun e => Region.binds .any e && (Nat.beq e.on i || (!listed.getD e.on true && waitB ops listed i n e.on))
    | none => true
/-- operation j is done, or waits for operation i -/
def doneB (ops : Array Oper) (listed : Array Bool) (i j : Nat) : Bool := listed.getD j true || waitB ops listed i 5 j
/-- what may turn before operation i -/
def rem (ops : Array Oper) (mods : List (Nat × Tn)) (listed : Array Bool) (i : Nat) : List (Tn) := (mods.filter fun p => !doneB ops listed i p.1).map (·.2)
/-- every order -/
def wpE (P : Program) (ops : Array Oper) (Q : Exit → Act → World → Prop) (mods : List (Nat × Tn)) : Nat → Array Bool → Act → World → Prop
  | 0, listed, a, w => Region.ready .any ops listed = [] ∧ Q .normal a w
  | fuel + 1, listed, a, w =>
    (Region.ready .any ops listed = [] → Q .normal a w) ∧
    ∀ i ∈ Region.ready .any ops listed, wpOp P ops Q i (fun a' w' => Stp mods i w w' ∧ wpE P ops Q mods fuel (listed.setIfInBounds i true) a' w') a w
theorem wpE_any {mods : List (Nat × Tn)} : ∀ (fuel : Nat) (listed : Array Bool) (a : Act) (w : World), wpE P ops Q mods fuel listed a w → wpAny P .any ops Q fuel listed a w
  | 0, _, _, _, h => h
  | fuel + 1, listed, a, w, h => ⟨h.1, fun i hi => wpOp_mono (fun a w h => wpE_any fuel _ a w h.2) (h.2 i hi)⟩
theorem getD_tf {l : Array Bool} {i : Nat} (h : l.getD i false = true) : l.getD i true = true := by
  rcases Nat.lt_or_ge i l.size with h' | h'
  · simp [h'] at h ⊢; exact h
  · simp [Array.getElem?_eq_none h'] at h
theorem waitB_no {listed : Array Bool} {i j : Nat} {oj : Oper} (hj : ops[j]? = some oj) (hall : ∀ e ∈ oj.after, Region.binds .any e = true → listed.getD e.on false = true) (hno : ∀ e ∈ oj.after, Region.binds .any e = true → e.on ≠ i) : ∀ n, waitB ops listed i n j = false
  | 0 => rfl
  | n + 1 => by
    cases h : waitB ops listed i (n + 1) j with
    | false => rfl
    | true =>
      unfold waitB at h
      rw [hj] at h
      dsimp only at h
      obtain ⟨e, he, hb⟩ := Array.any_eq_true'.1 h
      simp only [Bool.and_eq_true, Bool.or_eq_true, Bool.not_eq_true'] at hb
      rcases hb.2 with h1 | h1
      · exact absurd (Nat.eq_of_beq_eq_true h1) (hno e he hb.1)
      · rw [getD_tf (hall e he hb.1)] at h1; cases h1.1
theorem doneB_no {listed : Array Bool} {i j : Nat} {oj : Oper} (hj : ops[j]? = some oj) (hun : listed.getD j true = false) (hall : ∀ e ∈ oj.after, Region.binds .any e = true → listed.getD e.on false = true) (hno : ∀ e ∈ oj.after, Region.binds .any e = true → e.on ≠ i) : doneB ops listed i j = false := by
  unfold doneB
  rw [hun, waitB_no hj hall hno]; rfl
theorem waitB_set {listed : Array Bool} {i j : Nat} (hw : ∀ n, waitB ops listed i n j = false) : ∀ n k, waitB ops listed i n k = true → waitB ops (listed.setIfInBounds j true) i n k = true
  | 0, _, h => h
  | n + 1, k, h => by
    unfold waitB at h ⊢
    cases hk : ops[k]? with
    | none => rfl
    | some ok =>
      rw [hk] at h
      dsimp only at h ⊢
      obtain ⟨e, he, hb⟩ := Array.any_eq_true'.1 h
      refine Array.any_eq_true'.2 ⟨e, he, ?_⟩
      simp only [Bool.and_eq_true, Bool.or_eq_true, Bool.not_eq_true'] at hb ⊢
      refine ⟨hb.1, ?_⟩
      rcases hb.2 with h1 | ⟨h1, h2⟩
      · exact .inl h1
      · by_cases hej : j = e.on
        · rw [← hej, hw n] at h2; cases h2
        · exact .inr ⟨by rw [getD_set_ne true hej]; exact h1, waitB_set hw n _ h2⟩
theorem doneB_set {listed : Array Bool} {i j k : Nat} (hw : ∀ n, waitB ops listed i n j = false) (h : doneB ops (listed.setIfInBounds j true) i k = false) : doneB ops listed i k = false := by
  unfold doneB at *
  rw [Bool.or_eq_false_iff] at h ⊢
  refine ⟨?_, ?_⟩
  · have h1 := h.1
    by_cases hjk : j = k
    · subst hjk
      by_cases hl : j < listed.size
      · simp [hl] at h1
      · simp [Array.getElem?_eq_none (by omega : listed.size ≤ j)] at h1
    · rw [getD_set_ne true hjk] at h1; exact h1
  · cases h2 : waitB ops listed i 5 k with
    | false => rfl
    | true => rw [waitB_set hw 5 k h2] at h; cases h.2
def YE (P : Program) (ops : Array Oper) (E : Nat → Prop) (w0 : World) (o : Oper) (v : Value) (a : Act) : Prop :=
  (Region.wanted o (yielded ops a.tmps) = true ∧ ∀ w, Kt E w0 w → (execOp a.eval o).run P w = .ok (.value v) w) ∨
  (Region.wanted o (yielded ops a.tmps) = false ∧ v = undef)
theorem YE.wpOp {w0 : World} {i : Nat} {o : Oper} {v : Value} {a : Act} (hi : ops[i]? = some o) (hy : YE P ops E w0 o v a)
    {K : Act → World → Prop} {w : World} (hw0 : Kt E w0 w) (h : K (a.put o.dst v) w) : wpOp P ops Q i K a w := by
  unfold Go.wpOp
  simp only [hi]
  rcases hy with ⟨hw, hv⟩ | ⟨hw, rfl⟩
  · simp only [hw, if_true, Oper.wp, hv w hw0, Oper.upon]; exact .inl h
  · simp only [hw, Bool.false_eq_true, if_false]; exact h
theorem YE.of_same {w0 : World} {o : Oper} {v : Value} {a a' : Act} (hy : YE P ops E w0 o v a) (he : execOp a'.eval o = execOp a.eval o)
    (hw : Region.wanted o (yielded ops a'.tmps) = Region.wanted o (yielded ops a.tmps)) : YE P ops E w0 o v a' := by
  unfold YE at *
  rw [he, hw]
  exact hy
theorem wpOp_putE {w0 : World} {j : Nat} {oi oj : Oper} {v : Value} (hj : ops[j]? = some oj) (hap : oi.apart ops oj = true)
    (hsi : ∀ cs b, oi.op ≠ .select cs b) (hsj : ∀ cs b, oj.op ≠ .select cs b)
    (hQ : ∀ c a w, Q (.panic c) (a.put oi.dst v) w → Q (.panic c) a w) {K : Act → World → Prop} {a : Act} {w : World}
    (hy : YE P ops E w0 oi v a) (h : wpOp P ops Q j K (a.put oi.dst v) w) :
    wpOp P ops Q j (fun a' w' => YE P ops E w0 oi v a' ∧ K (a'.put oi.dst v) w') a w := by
  obtain ⟨h1, h2, h3⟩ := Oper.apart_spec hap
  have keep : ∀ (a : Act), YE P ops E w0 oi v a → ∀ u, YE P ops E w0 oi v (a.put oj.dst u) := fun a hy u =>
    hy.of_same (execOp_put oi hsi a oj.dst u h3) (wanted_put oi a oj.dst u h3)
  have keepD : ∀ d, YE P ops E w0 oi v { a with defers := d :: a.defers } := fun d => hy.of_same rfl rfl
  unfold wpOp at *
  simp only [hj] at *
  rw [wanted_put oj a oi.dst v h1] at h
  split
  · rename_i hw
    simp only [hw, if_true] at h
    rcases h with h | ⟨hasks, hlets⟩
    case inr => exact .inr ⟨by unfold Oper.asks at *; rw [execOp_put oj hsj a oi.dst v h1] at hasks; exact hasks, hlets⟩
    refine .inl ?_
    unfold Oper.wp at *
    rw [execOp_put oj hsj a oi.dst v h1] at h
    generalize (execOp a.eval oj).run P w = r at *
    cases r with
    | ok n w' =>
      cases n <;> simp only [Oper.upon] at h ⊢
      case value u => exact ⟨keep a hy u, by rw [← Act.put_comm a v u h2]; exact h⟩
      case skip => exact ⟨keep a hy _, by rw [← Act.put_comm a v undef h2]; exact h⟩
      case defer d =>
        refine ⟨keep _ (keepD d) _, ?_⟩
        rw [← Act.put_comm _ v undef h2, ← Act.put_defers]
        exact h
      case enter f args =>
        refine Calls.mono h fun e w'' he => ?_
        cases e with
        | returned u => exact ⟨keep a hy u, by rw [← Act.put_comm a v u h2]; exact he⟩
        | panicked c => exact hQ _ _ _ he
        | outgrown => exact he
      case row row args => exact Rows.mono h fun u w'' he => ⟨keep a hy u, by rw [← Act.put_comm a v u h2]; exact he⟩
    | halt x w' =>
      cases x <;> simp only [Oper.upon] at h ⊢
      case panic u => exact hQ _ _ _ h
  · rename_i hw
    simp only [hw] at h
    exact ⟨keep a hy _, by rw [← Act.put_comm a v undef h2]; exact h⟩
theorem wpE_first {mods : List (Nat × Tn)} {w0 : World} {i : Nat} {oi : Oper} {v : Value} (hi : ops[i]? = some oi) (hsel : ∀ (j : Nat) (o : Oper) cs b, ops[j]? = some o → o.op ≠ .select cs b)
    (hQ : ∀ c a w, Q (.panic c) (a.put oi.dst v) w → Q (.panic c) a w) :
    ∀ (fuel : Nat) (listed : Array Bool) (a : Act) (w : World),
      (∀ j oj, ops[j]? = some oj → j ≠ i → listed.getD j true = false → (∀ e ∈ oj.after, Region.binds .any e = true → e.on ≠ i) → oi.apart ops oj = true) →
      i ∈ Region.ready .any ops listed → (∀ p ∈ mods, doneB ops listed i p.1 = false → ∀ k, Et p.2 k → E k) → YE P ops E w0 oi v a → Kt E w0 w →
      wpE P ops Q mods fuel (listed.setIfInBounds i true) (a.put oi.dst v) w → wpE P ops Q mods (fuel + 1) listed a w := by
  intro fuel
  induction fuel with
  | zero =>
    intro listed a w _ hr _ hy hw0 H
    refine ⟨fun h => (by rw [h] at hr; cases hr), fun j hj => ?_⟩
    by_cases hji : j = i
    · subst hji; exact hy.wpOp hi hw0 ⟨Kt.refl _ _, H⟩
    · have := ready_mono hj hji
      rw [H.1] at this
      cases this
  | succ fuel ih =>
    intro listed a w hfree hr hbef hy hw0 H
    refine ⟨fun h => (by rw [h] at hr; cases hr), fun j hj => ?_⟩
    by_cases hji : j = i
    · subst hji; exact hy.wpOp hi hw0 ⟨Kt.refl _ _, H⟩
    · have h1 := H.2 j (ready_mono hj hji)
      obtain ⟨hjun, oj, hoj, hall⟩ := mem_ready.1 hj
      have hnot : ∀ e ∈ oj.after, Region.binds .any e = true → e.on ≠ i := fun e he hb heq => by
        have h1 := hall e he hb
        have h0 := (mem_ready.1 hr).1
        rw [heq] at h1
        rcases Nat.lt_or_ge i listed.size with h' | h'
        · simp [h'] at h0 h1; rw [h0] at h1; cases h1
        · simp [Array.getElem?_eq_none h'] at h1
      have h2 := wpOp_putE hoj (hfree j oj hoj hji hjun hnot) (fun cs b => hsel i oi cs b hi) (fun cs b => hsel j oj cs b hoj) hQ hy h1
      have hfree' : ∀ k ok, ops[k]? = some ok → k ≠ i → (listed.setIfInBounds j true).getD k true = false →
          (∀ e ∈ ok.after, Region.binds .any e = true → e.on ≠ i) → oi.apart ops ok = true := fun k ok hk hki hun hno => by
        refine hfree k ok hk hki ?_ hno
        by_cases hjk : j = k
        · subst hjk; exact hjun
        · rw [getD_set_ne true hjk] at hun; exact hun
      refine wpOp_mono (fun a' w' h3 => ⟨h3.2.1, ih (listed.setIfInBounds j true) a' w' hfree' (ready_mono hr (Ne.symm hji)) (fun p hp hd => hbef p hp (doneB_set (waitB_no hoj hall hnot) hd)) h3.1 (hw0.trans ?_) ?_⟩) h2
      · refine Kt.mono h3.2.1 fun k hk => ?_
        obtain ⟨e, he, hek⟩ := hk
        obtain ⟨p, hp, rfl⟩ := List.mem_map.1 he
        rw [List.mem_filter] at hp
        have hpj := Nat.eq_of_beq_eq_true hp.2
        exact hbef p hp.1 (by rw [hpj]; exact doneB_no hoj hjun hall hnot) k hek
      · rw [Array.setIfInBounds_comm _ _ hji]
        exact h3.2.2
/-- an operation may be done first -/
theorem wpE_take {mods : List (Nat × Tn)} {l : List (Tn)} {i : Nat} {oi : Oper} {v : Value} {fuel : Nat} {listed : Array Bool} {a : Act} {w : World} (hi : ops[i]? = some oi)
    (hs : Region.noSelect ops = true) (hf : Region.free .any ops listed i = true) (hr : (Region.ready .any ops listed).contains i = true) (hb : rem ops mods listed i = l)
    (hQ : ∀ c a w, Q (.panic c) (a.put oi.dst v) w → Q (.panic c) a w) (hy : YE P ops (Eo l) w oi v a)
    (h : wpE P ops Q mods fuel (listed.setIfInBounds i true) (a.put oi.dst v) w) : wpE P ops Q mods (fuel + 1) listed a w :=
  wpE_first hi (Region.noSelect_spec hs) hQ fuel listed a w (Region.free_spec hi hf) (by simpa using hr)
    (fun p hp hd k hk => ⟨p.2, by rw [← hb]; exact List.mem_map.2 ⟨p, List.mem_filter.2 ⟨hp, by rw [hd]; rfl⟩, rfl⟩, hk⟩) hy (Kt.refl _ _) h
/-- just one can be done -/
theorem wpE_one {mods : List (Nat × Tn)} {i : Nat} {oi : Oper} {fuel : Nat} {listed : Array Bool} {a : Act} {w : World} (hi : ops[i]? = some oi) (hr : Region.ready .any ops listed = [i]) (hg : oi.guard = none)
    (h : OpK P oi a w (fun a' w' => Stp mods i w w' ∧ wpE P ops Q mods fuel (listed.setIfInBounds i true) a' w')) : wpE P ops Q mods (fuel + 1) listed a w := by
  refine ⟨fun h => (by rw [h] at hr; cases hr), fun j hj => ?_⟩
  rw [hr, List.mem_singleton] at hj
  subst hj
  unfold wpOp
  rw [hi]
  simp only
  rw [if_pos (by simp [Region.wanted, hg])]
  exact .inl (h _ _ fun a w h => h)
/-- just one can be done, and its guard lets it -/
theorem wpE_oneg {mods : List (Nat × Tn)} {W : World} {M T : Nat → Prop} {n : Nat} {G : List (Nat × Value)} {D : List Res} {F : List Fact} {i : Nat} {oi : Oper} {fuel : Nat} {listed : Array Bool} {a : Act} {w : World} {j t : Nat} {want c : Bool} (hi : ops[i]? = some oi) (hr : Region.ready .any ops listed = [i]) (hS : St W M T n G D F a w) (hg : oi.guard = some (j, want)) (hj : (ops[j]?).bind (·.dst) = some t) (ht : lk G t = some (.bool c)) (hc : c = want)
    (h : OpK P oi a w (fun a' w' => Stp mods i w w' ∧ wpE P ops Q mods fuel (listed.setIfInBounds i true) a' w')) : wpE P ops Q mods (fuel + 1) listed a w := by
  refine ⟨fun h => (by rw [h] at hr; cases hr), fun k hk => ?_⟩
  rw [hr, List.mem_singleton] at hk
  subst hk
  unfold wpOp
  rw [hi]
  simp only
  rw [if_pos (by rw [wanted_of hS hg hj ht, hc]; simp)]
  exact .inl (h _ _ fun a w h => h)
/-- two can be done -/
theorem wpE_two {mods : List (Nat × Tn)} {i j : Nat} {oi oj : Oper} {fuel : Nat} {listed : Array Bool} {a : Act} {w : World} (hi : ops[i]? = some oi) (hj : ops[j]? = some oj) (hr : Region.ready .any ops listed = [i, j]) (hg : oi.guard = none) (hg2 : oj.guard = none)
    (h : OpK P oi a w (fun a' w' => Stp mods i w w' ∧ wpE P ops Q mods fuel (listed.setIfInBounds i true) a' w'))
    (h2 : OpK P oj a w (fun a' w' => Stp mods j w w' ∧ wpE P ops Q mods fuel (listed.setIfInBounds j true) a' w')) : wpE P ops Q mods (fuel + 1) listed a w := by
  refine ⟨fun h => (by rw [h] at hr; cases hr), fun k hk => ?_⟩
  rw [hr] at hk
  simp only [List.mem_cons, List.not_mem_nil, or_false] at hk
  rcases hk with rfl | rfl
  · unfold wpOp
    rw [hi]
    simp only
    rw [if_pos (by simp [Region.wanted, hg])]
    exact .inl (h _ _ fun a w h => h)
  · unfold wpOp
    rw [hj]
    simp only
    rw [if_pos (by simp [Region.wanted, hg2])]
    exact .inl (h2 _ _ fun a w h => h)
/-- some can be done -/
theorem wpE_some {mods : List (Nat × Tn)} {l : List Nat} {fuel : Nat} {listed : Array Bool} {a : Act} {w : World} (hr : Region.ready .any ops listed = l) (hne : l ≠ [])
    (h : ∀ i ∈ l, ∃ oi, ops[i]? = some oi ∧ oi.guard = none ∧ OpK P oi a w (fun a' w' => Stp mods i w w' ∧ wpE P ops Q mods fuel (listed.setIfInBounds i true) a' w')) : wpE P ops Q mods (fuel + 1) listed a w := by
  refine ⟨fun h0 => absurd (hr.symm.trans h0) hne, fun k hk => ?_⟩
  rw [hr] at hk
  obtain ⟨oi, h1, h2, h3⟩ := h k hk
  unfold wpOp
  rw [h1]
  simp only
  rw [if_pos (by simp [Region.wanted, h2])]
  exact .inl (h3 _ _ fun a w h => h)
theorem wpE_three {mods : List (Nat × Tn)} {i j k : Nat} {oi oj ok : Oper} {fuel : Nat} {listed : Array Bool} {a : Act} {w : World} (hi : ops[i]? = some oi) (hj : ops[j]? = some oj) (hk : ops[k]? = some ok) (hr : Region.ready .any ops listed = [i, j, k]) (hg : oi.guard = none) (hg2 : oj.guard = none) (hg3 : ok.guard = none)
    (h : OpK P oi a w (fun a' w' => Stp mods i w w' ∧ wpE P ops Q mods fuel (listed.setIfInBounds i true) a' w'))
    (h2 : OpK P oj a w (fun a' w' => Stp mods j w w' ∧ wpE P ops Q mods fuel (listed.setIfInBounds j true) a' w'))
    (h3 : OpK P ok a w (fun a' w' => Stp mods k w w' ∧ wpE P ops Q mods fuel (listed.setIfInBounds k true) a' w')) : wpE P ops Q mods (fuel + 1) listed a w := by
  refine wpE_some hr (by simp) fun q hq => ?_
  simp only [List.mem_cons, List.not_mem_nil, or_false] at hq
  rcases hq with rfl | rfl | rfl
  · exact ⟨_, hi, hg, h⟩
  · exact ⟨_, hj, hg2, h2⟩
  · exact ⟨_, hk, hg3, h3⟩
theorem wpE_done {mods : List (Nat × Tn)} {listed : Array Bool} {a : Act} {w : World} (hr : Region.ready .any ops listed = []) (h : Q .normal a w) : ∀ fuel, wpE P ops Q mods fuel listed a w
  | 0 => ⟨hr, h⟩
  | _ + 1 => ⟨fun _ => h, fun i hi => by rw [hr] at hi; cases hi⟩
theorem stN {mods : List (Nat × Tn)} {i : Nat} {w w' : World} (h : Kt No w w') : Stp mods i w w' := h.no
theorem stM {mods : List (Nat × Tn)} {i : Nat} {w w' : World} {e : Tn} {E : Nat → Prop} (hm : modsOf mods i = [e]) (h : Kt E w w') (he : ∀ k, E k → Et e k) : Stp mods i w w' :=
  h.mono fun k hk => ⟨e, by rw [hm]; exact List.mem_singleton.2 rfl, he k hk⟩
theorem etAny {E : Nat → Prop} : ∀ k, E k → Et .any k := fun _ _ => trivial
theorem etBox {b : Nat} : ∀ k, k = b → Et (.blk (some b)) k := fun _ h => congrArg some h.symm
theorem etOwn {v : Value} : ∀ k, v.ownBlock = some k → Et (.blk v.ownBlock) k := fun _ h => h
theorem etNB {b N : Nat} (h : N ≤ b) : ∀ k, Et (.blk (some b)) k → Et (.new N) k := fun k hk => by
  have hk : some b = some k := hk
  injection hk with hk
  subst hk; exact h
theorem etNN {N N' : Nat} (h : N ≤ N') : ∀ k, Et (.new N') k → Et (.new N) k := fun _ hk => Nat.le_trans h hk
/-- what operation i turns is known better -/
def upd (mods : List (Nat × Tn)) (i : Nat) (e : Tn) : List (Nat × Tn) := mods.map fun p => if Nat.beq p.1 i then (i, e) else p
theorem wpE_sub {mods mods' : List (Nat × Tn)} (h : ∀ i k, Eo (modsOf mods' i) k → Eo (modsOf mods i) k) : ∀ (fuel : Nat) (listed : Array Bool) (a : Act) (w : World), wpE P ops Q mods' fuel listed a w → wpE P ops Q mods fuel listed a w
  | 0, _, _, _, H => H
  | fuel + 1, _, _, _, H => ⟨H.1, fun i hi => wpOp_mono (fun a w h1 => ⟨h1.1.mono (h i), wpE_sub h fuel _ a w h1.2⟩) (H.2 i hi)⟩
theorem wpE_upd {mods : List (Nat × Tn)} {fuel : Nat} {listed : Array Bool} {a : Act} {w : World} (i : Nat) (e e0 : Tn) (hm : modsOf mods i = [e0]) (hs : ∀ k, Et e k → Et e0 k) (H : wpE P ops Q (upd mods i e) fuel listed a w) : wpE P ops Q mods fuel listed a w := by
  refine wpE_sub (fun j k hk => ?_) _ _ _ _ H
  obtain ⟨x, hx, hxk⟩ := hk
  unfold modsOf at hx
  obtain ⟨p, hp, rfl⟩ := List.mem_map.1 hx
  rw [List.mem_filter] at hp
  obtain ⟨hp1, hp2⟩ := hp
  unfold upd at hp1
  obtain ⟨q, hq, rfl⟩ := List.mem_map.1 hp1
  by_cases hqi : Nat.beq q.1 i = true
  · rw [if_pos hqi] at hp2 hxk
    have hij : i = j := Nat.eq_of_beq_eq_true hp2
    subst hij
    exact ⟨e0, by rw [hm]; exact List.mem_singleton.2 rfl, hs k hxk⟩
  · rw [if_neg hqi] at hp2 hxk
    exact ⟨q.2, List.mem_map.2 ⟨q, List.mem_filter.2 ⟨hq, hp2⟩, rfl⟩, hxk⟩
theorem wp_region_E {id : Nat} {a : Act} {w : World} (mods : List (Nat × Tn)) (hm : P.follows .mixedOrders = true) (h : wpE P ops Q mods ops.size (Array.replicate ops.size false) a w.drew) : (Code.region id ops true).wp P Q a w :=
  wp_region_any hm (wpE_any _ _ _ _ h)
end
section
variable {P : Program} {W : World} {M T E : Nat → Prop} {n : Nat} {G G' : List (Nat × Value)} {D D' : List Res} {F F' : List Fact} {a : Act} {w w' : World} {ops : Array Oper} {Q : Exit → Act → World → Prop} {fuel : Nat} {listed : Array Bool} {mods : List (Nat × Tn)}
def Qp (Q : Exit → Act → World → Prop) : Prop := ∀ c a d v w, Q (.panic c) (a.put d v) w → Q (.panic c) a w
/-- a region that draws begins -/
theorem draws {id : Nat} {l : List Oper} {N : Nat} (mods : List (Nat × Tn)) (hS : St W M T n G D F a w) (hm : P.follows .mixedOrders = true) (hN : l.length = N) (hQ : Qp Q) (h : ∀ w, Qp Q → St W M T n G D F a w → wpE P l.toArray Q mods N (Array.replicate N false) a w) : (Code.region id l.toArray true).wp P Q a w := by
  refine wp_region_E mods hm ?_
  rw [List.size_toArray, hN]
  exact h _ hQ (hS.later (Kt.drew w))
/-- an operation that yields a value is done first -/
theorem dy {l : List (Tn)} (i : Nat) {o : Oper} {v : Value} {d : Nat} (hi : ops[i]? = some o) (hs : Region.noSelect ops = true) (hf : Region.free .any ops listed i = true) (hr : (Region.ready .any ops listed).contains i = true) (hb : rem ops mods listed i = l) (hQ : Qp Q) (hS : St W M T n G D F a w) (h : Ye P o a (Eo l) w v) (hg : o.guard = none) (hd : o.dst = some d) (hn : Nat.blt d n = true)
    (k : ∀ a, St W M T n ((d, v) :: G) D F a w → wpE P ops Q mods fuel (listed.setIfInBounds i true) a w) : wpE P ops Q mods (fuel + 1) listed a w :=
  wpE_take hi hs hf hr hb (fun c a w => hQ c a _ _ w) (.inl ⟨by simp [Region.wanted, hg], h⟩) (by rw [hd]; exact k _ (hS.put hn v))
theorem dyg {l : List (Tn)} (i : Nat) {o : Oper} {v : Value} {d j t : Nat} {want c : Bool} (hi : ops[i]? = some o) (hs : Region.noSelect ops = true) (hf : Region.free .any ops listed i = true) (hr : (Region.ready .any ops listed).contains i = true) (hb : rem ops mods listed i = l) (hQ : Qp Q) (hS : St W M T n G D F a w) (h : Ye P o a (Eo l) w v) (hg : o.guard = some (j, want)) (hj : (ops[j]?).bind (·.dst) = some t) (ht : lk G t = some (.bool c)) (hc : c = want) (hd : o.dst = some d) (hn : Nat.blt d n = true)
    (k : ∀ a, St W M T n ((d, v) :: G) D F a w → wpE P ops Q mods fuel (listed.setIfInBounds i true) a w) : wpE P ops Q mods (fuel + 1) listed a w :=
  wpE_take hi hs hf hr hb (fun c a w => hQ c a _ _ w) (.inl ⟨by rw [wanted_of hS hg hj ht, hc]; simp, h⟩) (by rw [hd]; exact k _ (hS.put hn v))
theorem dyn (i : Nat) {o : Oper} {d j t : Nat} {want c : Bool} (hi : ops[i]? = some o) (hs : Region.noSelect ops = true) (hf : Region.free .any ops listed i = true) (hr : (Region.ready .any ops listed).contains i = true) (hQ : Qp Q) (hS : St W M T n G D F a w) (hg : o.guard = some (j, want)) (hj : (ops[j]?).bind (·.dst) = some t) (ht : lk G t = some (.bool c)) (hc : c = !want) (hd : o.dst = some d) (hn : Nat.blt d n = true)
    (k : ∀ a, St W M T n ((d, undef) :: G) D F a w → wpE P ops Q mods fuel (listed.setIfInBounds i true) a w) : wpE P ops Q mods (fuel + 1) listed a w :=
  wpE_take (v := undef) hi hs hf hr rfl (fun c a w => hQ c a _ _ w) (.inr ⟨by rw [wanted_of hS hg hj ht, hc]; cases want <;> simp, rfl⟩) (by rw [hd]; exact k _ (hS.put hn undef))
theorem dynu (i : Nat) {o : Oper} {d j t : Nat} {want : Bool} (hi : ops[i]? = some o) (hs : Region.noSelect ops = true) (hf : Region.free .any ops listed i = true) (hr : (Region.ready .any ops listed).contains i = true) (hQ : Qp Q) (hS : St W M T n G D F a w) (hg : o.guard = some (j, want)) (hj : (ops[j]?).bind (·.dst) = some t) (ht : lk G t = some undef) (hd : o.dst = some d) (hn : Nat.blt d n = true)
    (k : ∀ a, St W M T n ((d, undef) :: G) D F a w → wpE P ops Q mods fuel (listed.setIfInBounds i true) a w) : wpE P ops Q mods (fuel + 1) listed a w :=
  wpE_take (v := undef) hi hs hf hr rfl (fun c a w => hQ c a _ _ w) (.inr ⟨by
    have h1 := hS.slots t _ ht
    unfold Region.wanted yielded
    rw [hg]
    simp only [hj, Option.bind_some, h1]
    rfl, rfl⟩) (by rw [hd]; exact k _ (hS.put hn undef))
theorem eo_nil {k : Nat} : ¬ Eo [] k := fun ⟨_, h, _⟩ => by cases h
theorem eo_cons {k : Nat} {e : Tn} {l : List Tn} (h1 : ¬ Et e k) (h : ¬ Eo l k) : ¬ Eo (e :: l) k := fun ⟨e, he, hk⟩ => by
  rcases List.mem_cons.1 he with rfl | he
  · exact h1 hk
  · exact h ⟨e, he, hk⟩
theorem eo_none {k : Nat} {l : List Tn} (h : ¬ Eo l k) : ¬ Eo (.blk none :: l) k := eo_cons (fun h => by cases h) h
theorem eo_new {k N : Nat} {l : List Tn} {r : Res} (hS : St W M T n G D F a w) (hN : N = w.heap.size) (i : Nat) (hi : D[i]? = some r) (hr : r.dom = some k) (h : ¬ Eo l k) : ¬ Eo (.new N :: l) k := eo_cons (fun h => by
  have := Res.lt (hS.own r (List.mem_of_getElem? hi)) k hr
  have h : N ≤ k := h
  omega) h
theorem eo_ne {k : Nat} {l : List Tn} {o : Option Nat} {r r' : Res} (hS : St W M T n G D F a w) (i : Nat) (hi : D[i]? = some r) (hr : r.dom = some k) (j : Nat) (hj : D[j]? = some r') (hd : r'.dom = o) (hij : i ≠ j) (h : ¬ Eo l k) : ¬ Eo (.blk o :: l) k := eo_cons (fun hk => by
  have hk : o = some k := hk
  obtain ⟨l1, e1⟩ := List.getElem?_eq_some_iff.1 hi
  obtain ⟨l2, e2⟩ := List.getElem?_eq_some_iff.1 hj
  rcases Nat.lt_or_gt_of_ne hij with hlt | hlt
  · exact List.pairwise_iff_getElem.1 hS.apart i j l1 l2 hlt k (by rw [e1]; exact hr) (by rw [e2, hd, hk])
  · exact List.pairwise_iff_getElem.1 hS.apart j i l2 l1 hlt k (by rw [e2, hd, hk]) (by rw [e1]; exact hr)) h
theorem es_nil : ∀ k, Eo [] k → dT T D k ∨ w.heap.size ≤ k := fun _ ⟨_, h, _⟩ => by cases h
theorem es_cons {e : Tn} {l : List Tn} (h1 : ∀ k, Et e k → dT T D k ∨ w.heap.size ≤ k) (h : ∀ k, Eo l k → dT T D k ∨ w.heap.size ≤ k) : ∀ k, Eo (e :: l) k → dT T D k ∨ w.heap.size ≤ k := fun k ⟨e, he, hk⟩ => by
  rcases List.mem_cons.1 he with rfl | he
  · exact h1 k hk
  · exact h k ⟨e, he, hk⟩
theorem es_none {l : List Tn} (h : ∀ k, Eo l k → dT T D k ∨ w.heap.size ≤ k) : ∀ k, Eo (.blk none :: l) k → dT T D k ∨ w.heap.size ≤ k := es_cons (fun k h => by cases h) h
theorem es_new {N : Nat} {l : List Tn} (hN : N = w.heap.size) (h : ∀ k, Eo l k → dT T D k ∨ w.heap.size ≤ k) : ∀ k, Eo (.new N :: l) k → dT T D k ∨ w.heap.size ≤ k := es_cons (fun k h => .inr (by subst hN; exact h)) h
theorem es_in {l : List Tn} {o : Option Nat} {r' : Res} (j : Nat) (hj : D[j]? = some r') (hd : r'.dom = o) (h : ∀ k, Eo l k → dT T D k ∨ w.heap.size ≤ k) : ∀ k, Eo (.blk o :: l) k → dT T D k ∨ w.heap.size ≤ k := es_cons (fun k hk => .inl (.inr ⟨r', List.mem_of_getElem? hj, hd.trans hk⟩)) h
theorem szLe {N N' : Nat} {w : World} (hN : N' = w.heap.size) (h : N ≤ w.heap.size) : N ≤ N' := by omega
/-- the world has grown so far -/
def SzF (N : Nat) : Fact := ⟨fun _ w => N ≤ w.heap.size, fun h k _ => Nat.le_trans h k.size⟩
end
end Go.Proofs.YtjoilbmkcknnfaaDoor
