/- Sources and edits as arguments. -/
import Derived.Test.YtpjpndbagkcgcaaO
import Derived.Test.YtpjpndbagkcgcaaB5
import Derived.ProofKit
import Derived.OpenShut
set_option linter.unusedVariables false
set_option linter.unusedSimpArgs false
namespace Go.Proofs.Ytpjpndbagkcgcaa
open Go.ChangeShapes Go.WideShapes Go.ChangeAt Go.RowKit Go.Deep Go.Joins

section
variable {H : Type} {enc : TypeId × Value → H} {w : World} {base : Nat} {spare : Nat → Bool} {held : Bool}
theorem open_srcs {ts : List TypeId} {ds : List (DataW H)} (hsz : (DataW.weightsEach Try.prog ts ds).all (· ≤ reachBytes) = true) {j0 : Nat} (htj : ts[j0]? = some 31) {v : Value} {d : DataW H} (hdj : ds[j0]? = some d) {p : List MemPlace} {r : Reach} {b0 : Nat}
    (hv : Value.okWide Try.prog w r b0 31 v) (h : DataW.Trod enc Try.prog w base spare held 31 v d p) : ∃ l : List Src, Sl srcE 2 w w.heap.size v l ∧ SzOk l := by
  rcases open_fields Try.underlying31 Try.underlying39 (by kernel_rfl) (by kernel_rfl) hv h with rfl | ⟨a, len, cap, D, sp, rfl, hl, hc, rfl, hi⟩
  · exact ⟨[], Sl.nil_ 0 none (Nat.zero_le _), fun x hx => by simp at hx⟩
  · obtain ⟨l, hll, hsl, hq⟩ := sl_of (enc := srcE) (size := 2) (w := w) (a := a) (len := len) (cap := cap) (by omega) srcE_len (fun _ x => x.1.size ≤ 140737488355328 ∧ x.2.size ≤ 140737488355328) hl hc (fun i hil => by
      obtain ⟨parts, hD, hf⟩ := hi i hil
      obtain ⟨u0, y0, n0, c0, e0, t0⟩ := hf 0 _ rfl
      obtain ⟨u1, y1, n1, c1, e1, t1⟩ := hf 1 _ rfl
      obtain ⟨s0, q0, rfl, z0⟩ := DataW.trod_string Try.underlying9 t0
      obtain ⟨s1, q1, rfl, z1⟩ := DataW.trod_string Try.underlying9 t1
      simp only [List.cons.injEq, and_true] at q0 q1
      subst q0 q1
      have hel : ((List.range len).map D)[i]? = some (.agg parts) := by rw [List.getElem?_map, List.getElem?_range hil]; simp [hD]
      refine ⟨(s0, s1), ⟨str_reach (sized_elem_field hsz htj hdj Try.underlying31 hel Try.underlying39 (k := 0) rfl e0), str_reach (sized_elem_field hsz htj hdj Try.underlying31 hel Try.underlying39 (k := 1) rfl e1)⟩, fun j u hu => ?_⟩
      match j, hu with
      | 0, hu => simp only [srcE, List.getElem?_cons_zero, Option.some.injEq] at hu; rw [← hu]; exact c0
      | 1, hu => simp only [srcE, List.getElem?_cons_succ, List.getElem?_cons_zero, Option.some.injEq] at hu; rw [← hu]; exact c1)
    subst hll
    refine ⟨l, hsl, fun x hx => ?_⟩
    obtain ⟨i, hi', e⟩ := List.getElem_of_mem hx
    exact hq i x (by rw [← e]; exact List.getElem?_eq_getElem hi')
theorem open_src {ts : List TypeId} {ds : List (DataW H)} (hsz : (DataW.weightsEach Try.prog ts ds).all (· ≤ reachBytes) = true) {j0 : Nat} (htj : ts[j0]? = some 39) {v : Value} {d : DataW H} (hdj : ds[j0]? = some d) {p : List MemPlace} {r : Reach} {b0 : Nat}
    (hv : Value.okWide Try.prog w r b0 39 v) (h : DataW.Trod enc Try.prog w base spare held 39 v d p) : ∃ s : Src, v = .agg #[.string s.1, .string s.2] ∧ s.1.size ≤ 140737488355328 ∧ s.2.size ≤ 140737488355328 := by
  obtain ⟨v0, v1, y0, y1, n, rfl, rfl, rfl, t0, t1⟩ := open_agg2 Try.underlying39 (by kernel_rfl) (by kernel_rfl) hv h
  obtain ⟨s0, q0, rfl, z0⟩ := DataW.trod_string Try.underlying9 t0
  obtain ⟨s1, q1, rfl, z1⟩ := DataW.trod_string Try.underlying9 t1
  simp only [List.cons.injEq, and_true] at q0 q1
  subst q0 q1
  exact ⟨(s0, s1), rfl, str_reach (sized_field hsz htj hdj Try.underlying39 (k := 0) rfl rfl), str_reach (sized_field hsz htj hdj Try.underlying39 (k := 1) rfl rfl)⟩
theorem open_ed {ts : List TypeId} {ds : List (DataW H)} (hsz : (DataW.weightsEach Try.prog ts ds).all (· ≤ reachBytes) = true) {j0 : Nat} (htj : ts[j0]? = some 34) {v : Value} {d : DataW H} (hdj : ds[j0]? = some d) {p : List MemPlace} {r : Reach} {b0 : Nat}
    (hv : Value.okWide Try.prog w r b0 34 v) (h : DataW.Trod enc Try.prog w base spare held 34 v d p) : ∃ x : Ed, v = edV x ∧ EdOk x := by
  obtain ⟨v0, v1, v2, v3, y0, y1, y2, y3, n, rfl, rfl, rfl, t0, t1, t2, t3⟩ := open_agg4 Try.underlying34 (by kernel_rfl) (by kernel_rfl) hv h
  obtain ⟨s0, q0, rfl, z0⟩ := DataW.trod_string Try.underlying9 t0
  obtain ⟨n1, q1, rfl, z1⟩ := DataW.trod_int Try.underlying3 t1
  obtain ⟨n2, q2, rfl, z2⟩ := DataW.trod_int Try.underlying3 t2
  obtain ⟨s3, q3, rfl, z3⟩ := DataW.trod_string Try.underlying9 t3
  simp only [List.cons.injEq, and_true] at q0 q1 q2 q3
  subst q0 q1 q2 q3
  have b1 := bounds_i64 z1
  have b2 := bounds_i64 z2
  exact ⟨⟨s0, n1, n2, s3⟩, rfl, str_reach (sized_field hsz htj hdj Try.underlying34 (k := 0) rfl rfl), str_reach (sized_field hsz htj hdj Try.underlying34 (k := 3) rfl rfl), b1.1, b1.2, b2.1, b2.2⟩
end
end Go.Proofs.Ytpjpndbagkcgcaa
