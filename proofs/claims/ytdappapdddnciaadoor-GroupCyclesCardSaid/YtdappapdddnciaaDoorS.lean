/- Arguments, opened, whatever their types: what cells read as, in the frame's words. -/
import Derived.Test.YtdappapdddnciaaDoorMA
import Derived.SizedLaws
import Derived.Deep.Slices
import Derived.Deep.Fields
import Derived.Lib.SmallJoins
import Derived.ProofKit
import Derived.OpenShut
set_option linter.unusedVariables false
set_option linter.unusedSimpArgs false
namespace Go.Proofs.YtdappapdddnciaaDoor
open Go.ChangeShapes Go.WideShapes Go.ChangeAt Go.RowKit Go.Deep Go.Joins

theorem list_of {α : Type} {Q : Nat → α → Prop} : ∀ (n : Nat), (∀ i, i < n → ∃ x, Q i x) → ∃ xs : List α, xs.length = n ∧ ∀ i x, xs[i]? = some x → Q i x
  | 0, _ => ⟨[], rfl, fun i x h => by simp at h⟩
  | n + 1, h => by
    obtain ⟨xs, h1, h2⟩ := list_of n fun i hi => h i (by omega)
    obtain ⟨y, hy⟩ := h n (by omega)
    refine ⟨xs ++ [y], by simp [h1], fun i x hx => ?_⟩
    by_cases hi : i < xs.length
    · rw [List.getElem?_append_left hi] at hx; exact h2 i x hx
    · have hl := (List.getElem?_eq_some_iff.1 hx).1
      simp only [List.length_append, List.length_cons, List.length_nil] at hl
      have : i = xs.length := by omega
      subst this
      rw [List.getElem?_append_right (Nat.le_refl _), Nat.sub_self] at hx
      simp only [List.getElem?_cons_zero, Option.some.injEq] at hx
      subst hx
      rw [h1]; exact hy
/-- what lies in cells of type t reads as data, of which Q holds -/
def Opn {α : Type} (P : Program) (t : TypeId) (R : Rep α) (Q : α → Prop) : Prop :=
  ∀ {H : Type} {enc : TypeId × Value → H} {w : World} {base n : Nat} {sp : Nat → Bool} {held : Bool} {cs : List Value} {d : DataW H} {p : List MemPlace}, DataW.trod enc P w base sp held n t cs = some (d, p) → (∀ m ∈ d.weights P t, m ≤ reachBytes) → ∃ x, R.rel No w cs x ∧ Q x
section
variable {P : Program} {t e : TypeId}
theorem Opn.int {k : IntKind} (ht : P.underlying t = some (.int k)) : Opn P t (Rep.int k) (fun n => (Lit.int k n).wf = true) := fun h _ => by
  obtain ⟨n, rfl, _, hw⟩ := DataW.trod_int ht h
  exact ⟨n, rfl, hw⟩
theorem Opn.bool (ht : P.underlying t = some .bool) : Opn P t Rep.bool (fun _ => True) := fun h _ => by
  obtain ⟨b, rfl, _⟩ := DataW.trod_bool ht h
  exact ⟨b, rfl, trivial⟩
theorem Opn.str (ht : P.underlying t = some .string) : Opn P t Rep.str (fun s => s.size ≤ 140737488355328) := fun h hw => by
  obtain ⟨s, rfl, hx, _⟩ := DataW.trod_string ht h
  simp only [Prod.mk.injEq] at hx
  obtain ⟨rfl, rfl⟩ := hx
  refine ⟨s, rfl, ?_⟩
  have := hw s.data.toList.length (by simp [DataW.weights])
  have hr : reachBytes ≤ 140737488355328 := by decide
  have hz : s.size = s.data.toList.length := by rw [Array.length_toList]; rfl
  omega
theorem weights_in {H : Type} : ∀ {ds : List (DataW H)} {i : Nat} {d : DataW H}, ds[i]? = some d → ∀ n ∈ d.weights P e, n ∈ DataW.weightsAll P e ds
  | [], _, _, h, _, _ => by simp at h
  | d0 :: r, 0, d, h, n, hn => by
    simp only [List.getElem?_cons_zero, Option.some.injEq] at h
    subst h
    simp only [DataW.weightsAll, List.mem_append]
    exact .inl hn
  | d0 :: r, i + 1, d, h, n, hn => by
    simp only [List.getElem?_cons_succ] at h
    simp only [DataW.weightsAll, List.mem_append]
    exact .inr (weights_in h n hn)
theorem Opn.slice {α : Type} {R : Rep α} {Q : α → Prop} (ht : P.underlying t = some (.slice e)) (hc : P.cellsOf e = R.size) (hs : 0 < R.size) (ho : Opn P e R Q) : Opn P t (Rep.slice R) (fun xs => (∀ x ∈ xs, Q x) ∧ xs.length * P.bytesOf e ≤ reachBytes ∧ xs.length ≤ maxLen) := fun {H enc w base n sp held cs d p} h hw => by
  rcases open_slice ht h with ⟨rfl, hx⟩ | ⟨a, len, cap, m, n, D, Pl, rfl, hb, hl, hm, hmm, hx, hi⟩
  · exact ⟨[], ⟨_, rfl, SlR.nil_ _ _ _⟩, fun x hx => by simp at hx, by simp, by simp⟩
  · simp only [Prod.mk.injEq] at hx
    obtain ⟨rfl, rfl⟩ := hx
    have hlm : len ≤ m := by rw [hmm]; split <;> omega
    obtain ⟨xs, h1, h2⟩ := list_of (α := α) (Q := fun i x => Q x ∧ ∃ cs, R.rel No w cs x ∧ ∀ j u, cs[j]? = some u → w.cell? (a.add (i * R.size + j)) = some u) len (fun i hil => by
      obtain ⟨cs', hcc, ht'⟩ := hi i (by omega)
      rw [hc] at hcc
      obtain ⟨x, hx, hq⟩ := ho ht' (fun k hk => hw k (by
        simp only [DataW.weights, ht, List.mem_cons, List.mem_append]
        exact .inr (.inl (weights_in (i := i) (d := D i) (by rw [List.getElem?_map, List.getElem?_range hil]; rfl) k hk))))
      obtain ⟨_, hcl, hat⟩ := World.cells?_some hcc
      refine ⟨x, hq, cs', hx, fun j u hu => ?_⟩
      have hj : j < R.size := by rw [← hcl]; exact (List.getElem?_eq_some_iff.1 hu).1
      rw [← Go.Deep.add_add, hat j hj, hu])
    subst h1
    refine ⟨xs, ⟨_, rfl, some a, cap, rfl, hl, hm, ?_⟩, fun x hx => ?_, ?_, Nat.le_trans hl hm⟩
    · cases xs with
      | nil => exact .inl rfl
      | cons x0 xs =>
        right
        obtain ⟨_, cs0, hr0, hc0⟩ := h2 0 x0 rfl
        have hl0 := R.len hr0
        have hu := hc0 0 _ (List.getElem?_eq_getElem (show 0 < cs0.length by omega))
        obtain ⟨b, off, spot⟩ := a
        have hsp : spot = none := by
          unfold World.cell? at hu
          split at hu
          · cases spot with
            | none => rfl
            | some q => simp [Addr.add] at hu
          · simp at hu
        subst hsp
        refine ⟨b, off, rfl, fun k x hx => ?_⟩
        obtain ⟨_, cs, hr, hcs⟩ := h2 k x hx
        refine ⟨cs, hr, fun h => h, ?_, fun j u hu => ?_⟩
        · rw [Addr.add_lit] at hu; exact World.block_lt_of_cell? _ _ hu
        · have := hcs j u hu
          rwa [Addr.add_lit, ← Nat.add_assoc] at this
    · obtain ⟨i, hi', e⟩ := List.getElem_of_mem hx
      exact (h2 i x (by rw [← e]; exact List.getElem?_eq_getElem hi')).1
    · have := hw ((xs.length + (m - xs.length)) * P.bytesOf e) (by
        simp only [DataW.weights, ht, List.mem_cons, List.length_map, List.length_range]
        first | exact .inl trivial | exact .inl rfl | trivial)
      exact Nat.le_trans (Nat.mul_le_mul_right _ (by omega)) this
/-- a slice as an argument -/
theorem Opn.arg {α : Type} {R : Rep α} {Q : List α → Prop} {H : Type} {enc : TypeId × Value → H} {w : World} {base : Nat} {sp : Nat → Bool} {held : Bool} {v : Value} {d : DataW H} {p : List MemPlace} {ts : List TypeId} {ds : List (DataW H)} {j0 : Nat}
    (ho : Opn P t (Rep.slice R) Q) (ht : P.underlying t = some (.slice e)) (hsz : (DataW.weightsEach P ts ds).all (· ≤ reachBytes) = true) (htj : ts[j0]? = some t) (hdj : ds[j0]? = some d)
    {r : Reach} {b0 : Nat} (hv : Value.okWide P w r b0 t v) (h : DataW.Trod enc P w base sp held t v d p) : ∃ xs, SlR R No w v xs ∧ Q xs := by
  obtain ⟨A, len, cap, rfl⟩ := okWide_slice ht hv
  obtain ⟨fuel, hf⟩ := h
  obtain ⟨xs, ⟨v', he, hs⟩, hq⟩ := ho hf (fun m hm => by
    have := List.all_eq_true.1 hsz m (DataW.weights_mem_each htj hdj m hm)
    simpa using this)
  simp only [Value.cells, List.cons.injEq, and_true] at he
  subst he
  exact ⟨xs, hs, hq⟩
end
end Go.Proofs.YtdappapdddnciaaDoor
