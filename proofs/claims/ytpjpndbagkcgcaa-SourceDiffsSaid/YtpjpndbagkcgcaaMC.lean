/- recompilelaw01.SourceMade: true, whatever it is given. -/
import Derived.Test.YtpjpndbagkcgcaaMB
import Derived.Test.YtpjpndbagkcgcaaB7
import Derived.Test.YtpjpndbagkcgcaaA9
set_option linter.unusedVariables false
set_option linter.unusedSimpArgs false
namespace Go.Proofs.Ytpjpndbagkcgcaa
open Go.RowKit

/-- a slice of ints that came in -/
def IntSl (w : World) (v : Value) (ns : List Int) : Prop := ∃ A c, v = .slice A ns.length c ∧ ns.length ≤ c ∧ c ≤ maxLen ∧ (∀ n ∈ ns, -9223372036854775808 ≤ n ∧ n ≤ 9223372036854775807) ∧
  (ns = [] ∨ ∃ b off, A = some ⟨b, off, none⟩ ∧ b < w.heap.size ∧ ∀ j n, ns[j]? = some n → w.cell? ⟨b, off + j, none⟩ = some (.int .i64 n))
theorem IntSl.later {w w' : World} {v : Value} {ns : List Int} (h : IntSl w v ns) (hb : Below w.heap.size w w') : IntSl w' v ns := by
  obtain ⟨A, c, e, h1, h2, h3, h4⟩ := h
  refine ⟨A, c, e, h1, h2, h3, ?_⟩
  rcases h4 with h4 | ⟨b, off, e2, hl, hc⟩
  · exact .inl h4
  · exact .inr ⟨b, off, e2, Nat.lt_of_lt_of_le hl hb.size, fun j n hj => (hb.cell (p := ⟨b, off + j, none⟩) hl).trans (hc j n hj)⟩
theorem light_any (w : World) (v : Value) (ns : List Int) (h : IntSl w v ns) : Calls Try.prog 13 #[v] w fun e w' => e = .returned (.bool (decide ((ns.length : Int) ≤ 400))) ∧ w = w' := by
  obtain ⟨A, c, rfl, h1, h2, h3, h4⟩ := h
  unfold maxLen at h2
  clear h4
  go_enter Try.func13, Try.ntmps13
  go_wp2
  go_ret
  exact ⟨rfl, rfl⟩
def PostR (w : World) (e : Ending) (w' : World) : Prop := e = .returned (.pointer (some ⟨w.heap.size, 0, none⟩)) ∧ DiceOk w' w.heap.size ∧ Below w.heap.size w w'
theorem roll_any (w : World) (v : Value) (ns : List Int) (h : IntSl w v ns) : Calls Try.prog 14 #[v] w (PostR w) := by
  have h0 := h
  obtain ⟨A, c, rfl, h1, h2, h3, h4⟩ := h
  clear h4
  go_enter Try.func14, Try.ntmps14
  go_wp2
  go_ret
  have hal : Below w.heap.size w (w.alloc (.cells #[.slice A ns.length c, .int .i64 0] 61)) := (Below.refl _ _).alloc (Nat.le_refl _) _
  obtain ⟨A', c', e, k1, k2, k3, k4⟩ := h0.later hal
  injection e with e1 e2 e3
  subst e1 e3
  refine ⟨rfl, ⟨ns, 0, A, c, heap_alloc_new w _, k1, k2, Nat.zero_le _, k3, ?_⟩, hal⟩
  obtain ⟨A', c', e, _, _, _, q4⟩ := h0
  injection e with e1 e2 e3
  subst e1 e3
  rcases q4 with q4 | ⟨b, off, e2, hl, hc⟩
  · exact .inl q4
  · exact .inr ⟨b, off, e2, hl, fun j n hj => (hal.cell (p := ⟨b, off + j, none⟩) hl).trans (hc j n hj)⟩
end Go.Proofs.Ytpjpndbagkcgcaa
