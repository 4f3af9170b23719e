/- A frame for walks: slices of slices that are the call's own. -/
import Derived.Test.YtdappapdddnciaaDoorGK
set_option linter.unusedVariables false
set_option linter.unusedSimpArgs false
namespace Go.Proofs.YtdappapdddnciaaDoor
open Go.RowKit

/-- a cell as it is -/
def rawR : Rep Value where
  size := 1
  rel := fun _ _ cs x => cs = [x] ∧ x.oneCell' = true
  len := by rintro _ _ _ _ ⟨rfl, h⟩; rfl
  one := by rintro _ _ _ _ ⟨rfl, h⟩; exact (oc h on)
  keep := fun h _ _ => h
def matN {β : Type} (RI : Rep β) (e : TypeId) (h : 0 < RI.size) : Nst (List β) Value β where
  R := RI.slice
  RN := rawR
  RI := RI
  et := e
  get := fun x => x
  put := fun l _ => l
  nf := fun v _ => v
  size := rfl
  pos := h
  close := by rintro T w cs v x ⟨rfl, _⟩ h; exact ⟨_, rfl, h⟩
  gp := fun _ _ => rfl
  np := fun _ _ _ => rfl
theorem set_getI {α : Type} {xs : List α} {i : Int} {x : α} (h : getI xs i = some x) : xs.set i.toNat x = xs := by
  obtain ⟨_, _, h3⟩ := getI_some h
  obtain ⟨h4, h5⟩ := List.getElem?_eq_some_iff.1 h3
  rw [← h5]; exact List.set_getElem_self h4
end Go.Proofs.YtdappapdddnciaaDoor
