/- Slices of ints and pairs of ints as arguments. -/
import Derived.Test.YtpjpndbagkcgcaaMC
import Derived.Test.YtpjpndbagkcgcaaO
import Derived.ProofKit
import Derived.OpenShut
import Derived.ChangeSlices
set_option linter.unusedVariables false
set_option linter.unusedSimpArgs false
namespace Go.Proofs.Ytpjpndbagkcgcaa
open Go.ChangeShapes Go.WideShapes Go.ChangeAt Go.RowKit Go.Deep Go.Joins

section
variable {H : Type} {enc : TypeId × Value → H} {w : World} {base : Nat} {spare : Nat → Bool} {held : Bool}
theorem open_intsl {P : Program} {t e : TypeId} (ht : P.underlying t = some (.slice e)) (he : P.underlying e = some (.int .i64)) (hc : P.cellsOf e = 1) {v : Value} {d : DataW H} {p : List MemPlace} {r : Reach} {b0 : Nat}
    (hv : Value.okWide P w r b0 t v) (h : DataW.Trod enc P w base spare held t v d p) : ∃ ns : List Int, IntSl w v ns := by
  obtain ⟨A, len, cap, rfl⟩ := okWide_slice ht hv
  obtain ⟨fuel, hf⟩ := h
  rcases open_ints ht he hc hf with ⟨h0, _⟩ | ⟨a, len', cap', zs, h0, _, hl, hm, hzl, _, hcell, hwf⟩
  · simp only [Value.cells, List.cons.injEq, and_true] at h0
    injection h0 with h1 h2 h3
    subst h1 h2 h3
    exact ⟨[], none, 0, rfl, Nat.le_refl _, Nat.zero_le _, by simp, .inl rfl⟩
  · simp only [Value.cells, List.cons.injEq, and_true] at h0
    injection h0 with h1 h2 h3
    subst h1 h2 h3
    have hle : len ≤ zs.length := by rw [hzl]; split <;> omega
    have hlen : (zs.take len).length = len := by rw [List.length_take]; omega
    refine ⟨zs.take len, some a, cap, by rw [hlen], by rw [hlen]; exact hl, hm, fun n hn => bounds_i64 (hwf n (List.mem_of_mem_take hn)), ?_⟩
    by_cases h0 : len = 0
    · left; subst h0; simp
    · right
      have hc0 := hcell 0 (by omega)
      obtain ⟨b, off, sp⟩ := a
      have hsp : sp = none := by
        unfold World.cell? at hc0
        split at hc0
        · cases sp with
          | none => rfl
          | some q => simp [Addr.add] at hc0
        · simp at hc0
      subst hsp
      refine ⟨b, off, rfl, World.block_lt_of_cell? _ _ hc0, fun j n hj => ?_⟩
      rw [List.getElem?_take] at hj
      split at hj
      · have := hcell j (by omega)
        rw [Addr.add_lit, List.getD_eq_getElem?_getD, hj] at this
        exact this
      · simp at hj
theorem open_pairI {P : Program} {t e : TypeId} (ht : P.underlying t = some (.array 2 e)) (he : P.underlying e = some (.int .i64)) (hc : P.cellsOf e = 1) (hc2 : P.cellsOf t = 2) {v : Value} {d : DataW H} {p : List MemPlace} {r : Reach} {b0 : Nat}
    (hv : Value.okWide P w r b0 t v) (h : DataW.Trod enc P w base spare held t v d p) : ∃ n0 n1 : Int, v = .agg #[.int .i64 n0, .int .i64 n1] ∧ (-9223372036854775808 ≤ n0 ∧ n0 ≤ 9223372036854775807) ∧ (-9223372036854775808 ≤ n1 ∧ n1 ≤ 9223372036854775807) := by
  simp only [Value.okWide, ht] at hv
  obtain ⟨cs, rfl, h2, _⟩ := hv
  rw [hc2] at h2
  obtain ⟨c0, c1, rfl⟩ := array2 h2
  obtain ⟨fuel, hf⟩ := h
  obtain ⟨xs, m, _, _, _, hx, hi⟩ := DataW.trod_array ht hf
  have q0 := hi 0 (by omega)
  have q1 := hi 1 (by omega)
  rw [hc] at q0 q1
  have e0 : xs[0]? = some (xs[0]'(by omega)) := List.getElem?_eq_getElem (by omega)
  have e1 : xs[1]? = some (xs[1]'(by omega)) := List.getElem?_eq_getElem (by omega)
  rw [e0] at q0
  rw [e1] at q1
  simp [Value.cells] at q0 q1
  obtain ⟨n0, a0, _, w0⟩ := DataW.trod_int he q0
  obtain ⟨n1, a1, _, w1⟩ := DataW.trod_int he q1
  simp only [List.cons.injEq, and_true] at a0 a1
  subst a0 a1
  exact ⟨n0, n1, rfl, bounds_i64 w0, bounds_i64 w1⟩
end
end Go.Proofs.Ytpjpndbagkcgcaa
