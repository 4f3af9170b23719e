/- LowerLong: both agree on the long function. -/
import Derived.Test.YtpbbnkpplcnaoaaGreatDoorOM
import Derived.Deep.RegionWith
set_option linter.unusedVariables false
set_option linter.unusedSimpArgs false
namespace Go.Proofs.YtpbbnkpplcnaoaaGreatDoor
open Go.RowKit

/-- the code that both make -/
def Rf (M : List Op4) (nx2 : Int) : Int := if M.length + 1 ≤ 4000 then max nx2 1 else 2
def Lf (M : List Op4) (r : Int) : List Op4 := if M.length + 1 ≤ 4000 then M ++ [(⟨18, 0, r, 0⟩ : Op4)] else [⟨19, 0, 0, 0⟩, ⟨18, 0, 0, 0⟩]
def BodyC (w : World) (f : FuncId) (bt : Nat) (R : Int) (L : List Op4) : Prop :=
  ∀ W, Kt No w W → Calls Tryz.prog f #[trV 4 ⟨#[]⟩ (some ⟨bt, 0, none⟩) 4 4, .slice none 0 0, .slice none 0 0, .slice none 0 0] W (fun e w' => ∃ v', e = .returned (.agg #[.int .i64 2, .int .i64 R, v']) ∧ Kt No W w' ∧ Own w' W.heap.size 35 6 v' (L.flatMap opE))
def CallC (w : World) (f : FuncId) (bt : Nat) : Prop :=
  ∀ W, Kt No w W → Calls Tryz.prog f #[trV 4 ⟨#[]⟩ (some ⟨bt, 0, none⟩) 4 4, .slice none 0 0, .slice none 0 0] W (fun e w' => e = .returned (.slice none 0 0) ∧ Kt No W w')
theorem Own.no {w w' : World} {B : Nat} {v : Value} {xs : List Value} (h : Own w B 35 6 v xs) (k : Kt No w w') : Own w' B 35 6 v xs := h.later k.below

/-- where the comparison is -/
structure AgS (w W : World) (bt : Nat) : Prop where
  k : Kt No w W
  c : W.heap[w.heap.size]? = some (.cells (trC 4 ⟨#[]⟩ (some ⟨bt, 0, none⟩) 4 4) 25 (0, 0))
theorem AgS.step {w W W' : World} {bt : Nat} (h : AgS w W bt) (k : Kt No W W') : AgS w W' bt := ⟨h.k.trans k, (k.block _ (Array.getElem?_eq_some_iff.1 h.c).1 (fun h => h)).trans h.c⟩
theorem AgS.cells {w W : World} {bt : Nat} (h : AgS w W bt) : TrAt W w.heap.size 0 4 ⟨#[]⟩ (some ⟨bt, 0, none⟩) 4 4 := trBox (w' := W) h.c rfl

set_option maxRecDepth 100000 in
set_option maxHeartbeats 16000000 in
theorem agree_t (w : World) (bt : Nat) (R : Int) (L : List Op4) (hL : L.length ≤ 100000) (C1 : CallC w 9 bt) (C2 : CallC w 10 bt) (B1 : BodyC w 7 bt R L) (B2 : BodyC w 12 bt R L) :
    Calls Tryz.prog 6 #[trV 4 ⟨#[]⟩ (some ⟨bt, 0, none⟩) 4 4, .slice none 0 0, .slice none 0 0, .slice none 0 0] w (fun e w' => e = .returned (.bool true) ∧ Kt No w w') := by
  have HS : AgS w ((w.alloc (.cells (trC 4 ⟨#[]⟩ (some ⟨bt, 0, none⟩) 4 4) 25)).drew) bt := AgS.step ⟨Kt.alloc w _, heap_alloc_new w _⟩ (Kt.drew _)
  have C1 := hid C1
  have C2 := hid C2
  have B1 := hid B1
  have B2 := hid B2
  go_enter Tryz.func6, Tryz.ntmps6
  go_wp2_with fail
  obtain ⟨c0, c1, c2, c3⟩ := HS.cells
  have HS := hid HS
  go_region_with (first
    | (go_at_call 9; refine (C1.out _ HS.out.k).mono ?_; rintro e W1 ⟨rfl, hk1⟩; have HS := hid (HS.out.step hk1); clear c0 c1 c2 c3; obtain ⟨c0, c1, c2, c3⟩ := HS.out.cells; clear hk1)
    | (go_at_call 10; refine (C2.out _ HS.out.k).mono ?_; rintro e W1 ⟨rfl, hk1⟩; have HS := hid (HS.out.step hk1); clear c0 c1 c2 c3; obtain ⟨c0, c1, c2, c3⟩ := HS.out.cells; clear hk1)
    | (go_at_call 8; refine (sameL_none _).mono ?_; rintro e W1 ⟨rfl, hk1⟩; have HS := hid (HS.out.step hk1); clear c0 c1 c2 c3; obtain ⟨c0, c1, c2, c3⟩ := HS.out.cells; clear hk1)
    | (go_at_call 7; refine (B1.out _ HS.out.k).mono ?_; rintro e W1 ⟨v1, rfl, hk1, o1⟩; have HS := hid (HS.out.step hk1); have O1 := hid o1; clear c0 c1 c2 c3; obtain ⟨c0, c1, c2, c3⟩ := HS.out.cells; clear hk1 o1)
    | (go_at_call 12; refine (B2.out _ HS.out.k).mono ?_; rintro e W2 ⟨v2, rfl, hk2, o2⟩; have O1 := hid (Own.no O1.out hk2); have HS := hid (HS.out.step hk2); have O2 := hid o2; clear c0 c1 c2 c3; obtain ⟨c0, c1, c2, c3⟩ := HS.out.cells; clear hk2 o2)
    | (go_at_call 11; refine (same_code _ _ _ _ _ _ _ _ hL O1.out O2.out).mono ?_; rintro e W1 ⟨rfl, hk1⟩; have HS := hid (HS.out.step hk1); clear c0 c1 c2 c3; obtain ⟨c0, c1, c2, c3⟩ := HS.out.cells; clear hk1))
  all_goals
    go_wp2
    go_returns
    exact ⟨rfl, HS.out.k⟩
end Go.Proofs.YtpbbnkpplcnaoaaGreatDoor
