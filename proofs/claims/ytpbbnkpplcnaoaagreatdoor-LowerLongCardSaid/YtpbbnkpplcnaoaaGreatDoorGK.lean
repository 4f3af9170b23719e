/- A frame for walks: two operations that can be done, behind guards that let them. -/
import Derived.Test.YtpbbnkpplcnaoaaGreatDoorMB
set_option linter.unusedVariables false
set_option linter.unusedSimpArgs false
namespace Go.Proofs.YtpbbnkpplcnaoaaGreatDoor
open Go.RowKit

/-- no guard, or one that lets it -/
def Wt (ops : Array Oper) (G : List (Nat × Value)) (o : Oper) : Prop := o.guard = none ∨ ∃ (j t : Nat) (want c : Bool), o.guard = some (j, want) ∧ (ops[j]?).bind (·.dst) = some t ∧ lk G t = some (.bool c) ∧ c = want
section
variable {P : Program} {ops : Array Oper} {Q : Exit → Act → World → Prop}
theorem Wt.ok {mods : List (Nat × Tn)} {W : World} {M T : Nat → Prop} {n : Nat} {G : List (Nat × Value)} {D : List Res} {F : List Fact} {a : Act} {w : World} {o : Oper} (hS : St W M T n G D F a w) (h : Wt ops G o) : Region.wanted o (yielded ops a.tmps) = true := by
  rcases h with h | ⟨j, t, want, c, h1, h2, h3, h4⟩
  · simp [Region.wanted, h]
  · rw [wanted_of hS h1 h2 h3, h4]; simp
theorem wpE_twog {mods : List (Nat × Tn)} {W : World} {M T : Nat → Prop} {n : Nat} {G : List (Nat × Value)} {D : List Res} {F : List Fact} {i j : Nat} {oi oj : Oper} {fuel : Nat} {listed : Array Bool} {a : Act} {w : World} (hi : ops[i]? = some oi) (hj : ops[j]? = some oj) (hr : Region.ready .any ops listed = [i, j]) (hS : St W M T n G D F a w) (hg : Wt ops G oi) (hg2 : Wt ops G oj)
    (h : OpK P oi a w (fun a' w' => Stp mods i w w' ∧ wpE P ops Q mods fuel (listed.setIfInBounds i true) a' w'))
    (h2 : OpK P oj a w (fun a' w' => Stp mods j w w' ∧ wpE P ops Q mods fuel (listed.setIfInBounds j true) a' w')) : wpE P ops Q mods (fuel + 1) listed a w := by
  refine ⟨fun h => (by rw [h] at hr; cases hr), fun k hk => ?_⟩
  rw [hr] at hk
  simp only [List.mem_cons, List.not_mem_nil, or_false] at hk
  rcases hk with rfl | rfl
  · unfold wpOp
    rw [hi]
    simp only
    rw [if_pos (hg.ok (mods := mods) hS)]
    exact .inl (h _ _ fun a w h => h)
  · unfold wpOp
    rw [hj]
    simp only
    rw [if_pos (hg2.ok (mods := mods) hS)]
    exact .inl (h2 _ _ fun a w h => h)
end
end Go.Proofs.YtpbbnkpplcnaoaaGreatDoor
