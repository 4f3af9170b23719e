/- Arguments, opened: slices of structs, structs by value, and how large what lies in them may be. -/
import Derived.Test.YtpjpndbagkcgcaaW
import Derived.SizedLaws
import Derived.Deep.Slices
import Derived.Deep.Fields
import Derived.Lib.SmallJoins
set_option linter.unusedVariables false
set_option linter.unusedSimpArgs false
namespace Go.Proofs.Ytpjpndbagkcgcaa
open Go.ChangeShapes Go.WideShapes Go.ChangeAt Go.RowKit Go.Deep Go.Joins

/-- cells read one by one, as a list -/
theorem sl_of {α : Type} [Inhabited α] {enc : α → List Value} {size : Nat} {w : World} {a : Addr} {len cap : Nat} (hs : 0 < size) (hne : ∀ x, (enc x).length = size) (Q : Nat → α → Prop) (hl : len ≤ cap) (hc : cap ≤ maxLen)
    (hf : ∀ i, i < len → ∃ x, Q i x ∧ ∀ j u, (enc x)[j]? = some u → w.cell? (a.add (i * size + j)) = some u) :
    ∃ l : List α, l.length = len ∧ Sl enc size w w.heap.size (.slice (some a) len cap) l ∧ ∀ i x, l[i]? = some x → Q i x := by
  have h1 : ∀ i, ∃ x, i < len → Q i x ∧ ∀ j u, (enc x)[j]? = some u → w.cell? (a.add (i * size + j)) = some u := fun i => by
    by_cases h : i < len
    · obtain ⟨x, hx⟩ := hf i h
      exact ⟨x, fun _ => hx⟩
    · exact ⟨default, fun h' => absurd h' h⟩
  obtain ⟨f, hf'⟩ := Classical.axiomOfChoice h1
  have hg : ∀ i x, ((List.range len).map f)[i]? = some x → i < len ∧ x = f i := fun i x hx => by
    have hi : i < len := by
      have := (List.getElem?_eq_some_iff.1 hx).1
      simpa using this
    refine ⟨hi, ?_⟩
    rw [List.getElem?_map, List.getElem?_range hi] at hx
    simpa using hx.symm
  refine ⟨(List.range len).map f, by simp, ?_, fun i x hx => ?_⟩
  · refine ⟨some a, cap, by simp, by simpa using hl, hc, ?_⟩
    by_cases h0 : len = 0
    · left; subst h0; simp
    · right
      have h2 : ∃ u, w.cell? a = some u := by
        have hl0 := hne (f 0)
        refine ⟨(enc (f 0))[0]'(by omega), ?_⟩
        have := (hf' 0 (by omega)).2 0 _ (List.getElem?_eq_getElem (show 0 < (enc (f 0)).length by omega))
        simpa [Addr.add] using this
      obtain ⟨u, hu⟩ := h2
      obtain ⟨b, off, sp⟩ := a
      have hsp : sp = none := by
        unfold World.cell? at hu
        split at hu
        · cases sp with
          | none => rfl
          | some q => simp at hu
        · simp at hu
      subst hsp
      refine ⟨b, off, rfl, World.block_lt_of_cell? w _ hu, fun k x hx j u hj => ?_⟩
      obtain ⟨hk, rfl⟩ := hg k x hx
      have := (hf' k hk).2 j u hj
      rwa [Addr.add_lit, ← Nat.add_assoc] at this
  · obtain ⟨hi, rfl⟩ := hg i x hx
    exact (hf' i hi).1

section
variable {H : Type} {P : Program}
theorem weights_all {e : TypeId} : ∀ {ds : List (DataW H)} {i : Nat} {d : DataW H}, ds[i]? = some d → ∀ n ∈ d.weights P e, n ∈ DataW.weightsAll P e ds
  | [], _, _, h, _, _ => by simp at h
  | d0 :: r, 0, d, h, n, hn => by
    simp only [List.getElem?_cons_zero, Option.some.injEq] at h
    subst h
    simp only [DataW.weightsAll, List.mem_append]
    exact .inl hn
  | d0 :: r, i + 1, d, h, n, hn => by
    simp only [List.getElem?_cons_succ] at h
    simp only [DataW.weightsAll, List.mem_append]
    exact .inr (weights_all h n hn)
/-- a string in a field of a struct -/
theorem weights_field {t : TypeId} {fs : Array Field} {parts : List (DataW H)} {k : Nat} {f : Field} {bytes : List UInt8} (he : P.underlying t = some (.struct fs)) (hk : fs[k]? = some f) (hp : parts[k]? = some (.lit (.string bytes))) :
    bytes.length ∈ (DataW.agg parts).weights P t := by
  have h1 : (fs.toList.map (·.type))[k]? = some f.type := by
    rw [List.getElem?_map, Array.getElem?_toList, hk]; rfl
  have := DataW.weights_mem_each (P := P) h1 hp bytes.length (by simp [DataW.weights])
  simpa [DataW.weights, he] using this
theorem sized_field {ts : List TypeId} {ds : List (DataW H)} (h : (DataW.weightsEach P ts ds).all (· ≤ reachBytes) = true) {j : Nat} {t : TypeId} {fs : Array Field} {parts : List (DataW H)} {k : Nat} {f : Field} {bytes : List UInt8}
    (ht : ts[j]? = some t) (hd : ds[j]? = some (.agg parts)) (he : P.underlying t = some (.struct fs)) (hk : fs[k]? = some f) (hp : parts[k]? = some (.lit (.string bytes))) : bytes.length ≤ reachBytes := by
  have := List.all_eq_true.1 h _ (DataW.weights_mem_each ht hd _ (weights_field he hk hp))
  simpa using this
/-- an element of a slice weighs no more than the slice -/
theorem weights_elem {t e : TypeId} {elems spare : List (DataW H)} {i : Nat} {d : DataW H} (hu : P.underlying t = some (.slice e)) (hi : elems[i]? = some d) : ∀ n ∈ d.weights P e, n ∈ (DataW.slice elems spare).weights P t := by
  intro n hn
  have := weights_all (P := P) hi n hn
  simp [DataW.weights, hu, this]
theorem sized_elem_field {ts : List TypeId} {ds : List (DataW H)} (h : (DataW.weightsEach P ts ds).all (· ≤ reachBytes) = true) {j : Nat} {t e : TypeId} {elems spare : List (DataW H)} {fs : Array Field} {i : Nat} {parts : List (DataW H)} {k : Nat} {f : Field} {bytes : List UInt8}
    (ht : ts[j]? = some t) (hd : ds[j]? = some (.slice elems spare)) (hu : P.underlying t = some (.slice e)) (hi : elems[i]? = some (.agg parts)) (he : P.underlying e = some (.struct fs)) (hk : fs[k]? = some f) (hp : parts[k]? = some (.lit (.string bytes))) : bytes.length ≤ reachBytes := by
  have := List.all_eq_true.1 h _ (DataW.weights_mem_each ht hd _ (weights_elem hu hi _ (weights_field he hk hp)))
  simpa using this
theorem str_reach {s : ByteArray} (h : s.data.toList.length ≤ reachBytes) : s.size ≤ 140737488355328 := by
  have : s.size = s.data.toList.length := by rw [Array.length_toList]; rfl
  have := reachBytes_lt
  omega
end

section
variable {H : Type} {enc : TypeId × Value → H} {P : Program} {w : World} {base : Nat} {spare : Nat → Bool} {held : Bool}
/-- a slice of structs of one-cell fields: every field of every element -/
theorem open_fields {t e : TypeId} {fs : Array Field} {v : Value} {d : DataW H} {p : List MemPlace} {r : Reach} {b0 : Nat} (ht : P.underlying t = some (.slice e)) (he : P.underlying e = some (.struct fs))
    (hone : oneCellFields P fs = true) (hC : P.cellsOf e = fs.size) (hv : Value.okWide P w r b0 t v) (h : DataW.Trod enc P w base spare held t v d p) :
    (v = .slice none 0 0) ∨
    ∃ (a : Addr) (len cap : Nat) (D : Nat → DataW H) (sp : List (DataW H)), v = .slice (some a) len cap ∧ len ≤ cap ∧ cap ≤ maxLen ∧ d = .slice ((List.range len).map D) sp ∧
      ∀ i, i < len → ∃ parts, D i = .agg parts ∧ ∀ (j : Nat) (f : Field), fs[j]? = some f → ∃ (u : Value) (y : DataW H × List MemPlace) (n : Nat), w.cell? (a.add (i * fs.size + j)) = some u ∧ parts[j]? = some y.1 ∧ DataW.trod enc P w base spare held n f.type [u] = some y := by
  obtain ⟨A, len, cap, rfl⟩ := okWide_slice ht hv
  obtain ⟨fuel, hf⟩ := h
  rcases open_slice ht hf with ⟨h0, _⟩ | ⟨a, l2, c2, m, n, D, Pl, hcs, hb, hl, hm, hmm, hx, hi⟩
  · left
    simpa [Value.cells] using h0
  · right
    have hcs' : A = some a ∧ len = l2 ∧ cap = c2 := by simpa [Value.cells] using hcs
    obtain ⟨rfl, rfl, rfl⟩ := hcs'
    simp only [Prod.mk.injEq] at hx
    refine ⟨a, len, cap, D, _, rfl, hl, hm, hx.1, fun i him => ?_⟩
    have him' : i < m := by rw [hmm]; split <;> omega
    obtain ⟨cs', hc, ht'⟩ := hi i him'
    rw [hC] at hc
    obtain ⟨ys, n', hn', hy, hlen, hyl, hg⟩ := DataW.trod_struct he ht'
    obtain ⟨_, hcl, hat⟩ := World.cells?_some hc
    simp only [Prod.mk.injEq] at hy
    refine ⟨_, hy.1, fun j f hj => ?_⟩
    obtain ⟨ho, hk⟩ := hone_of hone j f hj
    have hjl : j < fs.size := (Array.getElem?_eq_some_iff.1 hj).1
    have hcell := hat j hjl
    have hv' : cs'[j]? = some (cs'[j]'(by omega)) := List.getElem?_eq_getElem (by omega)
    have h1 := hg j f hj
    rw [ho, hk] at h1
    have hone' : (cs'.drop j).take 1 = [cs'[j]'(by omega)] := by
      rw [List.drop_eq_getElem_cons (by omega)]
      rfl
    rw [hone'] at h1
    have hys : ys[j]? = some (ys[j]'(by omega)) := List.getElem?_eq_getElem (by omega)
    refine ⟨_, _, _, ?_, by rw [List.getElem?_map, hys]; rfl, h1.trans hys⟩
    rw [← Go.Deep.add_add, hcell, hv']
end
end Go.Proofs.Ytpjpndbagkcgcaa
