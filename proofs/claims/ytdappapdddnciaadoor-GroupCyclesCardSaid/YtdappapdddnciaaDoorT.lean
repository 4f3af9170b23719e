/- Arguments that are structs, opened, whatever their fields. -/
import Derived.Test.YtdappapdddnciaaDoorS
set_option linter.unusedVariables false
set_option linter.unusedSimpArgs false
namespace Go.Proofs.YtdappapdddnciaaDoor
open Go.ChangeShapes Go.WideShapes Go.ChangeAt Go.RowKit Go.Deep Go.Joins

def Rep.unit : Rep Unit where
  size := 0
  rel := fun _ _ cs _ => cs = []
  len := by rintro _ _ _ _ rfl; rfl
  one := by rintro _ _ _ _ rfl u hu; cases hu
  keep := fun h _ _ => h
/-- fields that lie from an offset on, read -/
def OpnF {α : Type} (P : Program) (fs : List Field) (off : Nat) (R : Rep α) (Q : α → Prop) : Prop :=
  (∀ f ∈ fs, off ≤ f.offset) ∧
  ∀ {H : Type} {enc : TypeId × Value → H} {w : World} {base n : Nat} {sp : Nat → Bool} {held : Bool} {cs : List Value} {xs : List (DataW H × List MemPlace)}, cs.length = R.size → xs.length = fs.length →
    (∀ (i : Nat) (f : Field), fs[i]? = some f → DataW.trod enc P w base sp held n f.type ((cs.drop (f.offset - off)).take (P.cellsOf f.type)) = xs[i]?) →
    (∀ m ∈ DataW.weightsEach P (fs.map (·.type)) (xs.map (·.1)), m ≤ reachBytes) → ∃ x, R.rel No w cs x ∧ Q x
section
variable {P : Program} {t : TypeId}
theorem OpnF.nil (off : Nat) : OpnF P [] off Rep.unit (fun _ => True) :=
  ⟨fun f hf => (by cases hf), fun {H enc w base n sp held cs xs} hl _ _ _ => ⟨(), List.eq_nil_of_length_eq_zero hl, trivial⟩⟩
theorem OpnF.cons {α β : Type} {R : Rep α} {S : Rep β} {Q : α → Prop} {Q2 : β → Prop} {f : Field} {fs : List Field} {off : Nat} (ho : Opn P f.type R Q) (hf : f.offset = off) (hc : P.cellsOf f.type = R.size) (h : OpnF P fs (off + R.size) S Q2) : OpnF P (f :: fs) off (R.prod S) (fun x => Q x.1 ∧ Q2 x.2) := by
  refine ⟨fun g hg => ?_, fun {H enc w base n sp held cs xs} hl hx ht hw => ?_⟩
  · rcases List.mem_cons.1 hg with rfl | hg
    · omega
    · have := h.1 g hg; omega
  · cases xs with
    | nil => simp at hx
    | cons y xs =>
      have hl : cs.length = R.size + S.size := hl
      have h0 := ht 0 f rfl
      rw [hf, Nat.sub_self, List.drop_zero, hc] at h0
      obtain ⟨x1, k1, k2⟩ := ho h0 (fun m hm => hw m (by simp only [List.map_cons, DataW.weightsEach, List.mem_append]; exact .inl hm))
      obtain ⟨x2, k3, k4⟩ := h.2 (H := H) (enc := enc) (w := w) (base := base) (n := n) (sp := sp) (held := held) (cs := cs.drop R.size) (xs := xs) (by rw [List.length_drop]; omega) (by simpa using hx) (fun i g hg => by
        have h1 := ht (i + 1) g (by simpa using hg)
        have h2 := h.1 g (List.mem_of_getElem? hg)
        rw [List.drop_drop, show R.size + (g.offset - (off + R.size)) = g.offset - off by omega]
        simpa using h1) (fun m hm => hw m (by simp only [List.map_cons, DataW.weightsEach, List.mem_append]; exact .inr hm))
      exact ⟨(x1, x2), ⟨cs.take R.size, cs.drop R.size, (List.take_append_drop _ _).symm, k1, k3⟩, k2, k4⟩
theorem Opn.struct {α : Type} {R : Rep α} {Q : α → Prop} {fs : Array Field} (ht : P.underlying t = some (.struct fs)) (hc : P.cellsOf t = R.size) (h : OpnF P fs.toList 0 R Q) : Opn P t R Q := fun {H enc w base n sp held cs d p} h0 hw => by
  obtain ⟨xs, m, _, hx, hl, hlen, hf⟩ := DataW.trod_struct ht h0
  simp only [Prod.mk.injEq] at hx
  obtain ⟨rfl, rfl⟩ := hx
  refine h.2 (H := H) (enc := enc) (w := w) (base := base) (n := m) (sp := sp) (held := held) (xs := xs) (hl.trans hc) (by simpa using hlen) (fun i f hi => ?_) (fun k hk => hw k ?_)
  · have := hf i f (by simpa using hi)
    simpa using this
  · simp only [DataW.weights, ht]
    exact hk
theorem Opn.via {α β : Type} {R : Rep α} {S : Rep β} {Q : α → Prop} {Q2 : β → Prop} (ho : Opn P t R Q) (g : α → β) (hr : ∀ (T : Nat → Prop) (w : World) (cs : List Value) (x : α), R.rel T w cs x → S.rel T w cs (g x)) (hq : ∀ x, Q x → Q2 (g x)) : Opn P t S Q2 := fun h hw => by
  obtain ⟨x, h1, h2⟩ := ho h hw
  exact ⟨g x, hr _ _ _ _ h1, hq _ h2⟩
/-- a struct as an argument -/
theorem Opn.argS {α : Type} {R : Rep α} {Q : α → Prop} {H : Type} {enc : TypeId × Value → H} {w : World} {base : Nat} {sp : Nat → Bool} {held : Bool} {v : Value} {d : DataW H} {p : List MemPlace} {ts : List TypeId} {ds : List (DataW H)} {j0 : Nat} {fs : Array Field}
    (ho : Opn P t R Q) (ht : P.underlying t = some (.struct fs)) (hsz : (DataW.weightsEach P ts ds).all (· ≤ reachBytes) = true) (htj : ts[j0]? = some t) (hdj : ds[j0]? = some d)
    {r : Reach} {b0 : Nat} (hv : Value.okWide P w r b0 t v) (h : DataW.Trod enc P w base sp held t v d p) : ∃ (cs : List Value) (x : α), v = .agg cs.toArray ∧ R.rel No w cs x ∧ Q x := by
  obtain ⟨cs, rfl, hcs⟩ := okWide_struct ht hv
  obtain ⟨fuel, hf⟩ := h
  obtain ⟨x, hs, hq⟩ := ho hf (fun m hm => by
    have := List.all_eq_true.1 hsz m (DataW.weights_mem_each htj hdj m hm)
    simpa using this)
  exact ⟨cs.toList, x, by simp, hs, hq⟩
end
end Go.Proofs.YtdappapdddnciaaDoor
