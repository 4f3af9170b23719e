/- LowerLong: equal codes are the same. -/
import Derived.Test.YtpbbnkpplcnaoaaGreatDoorS1
import Derived.Test.YtpbbnkpplcnaoaaGreatDoorUG
import Derived.Test.YtpbbnkpplcnaoaaGreatDoorOK
set_option linter.unusedVariables false
set_option linter.unusedSimpArgs false
namespace Go.Proofs.YtpbbnkpplcnaoaaGreatDoor
open Go.RowKit

def toD (x : Op4) : OpD := ⟨x.k, x.a, x.b, x.c, [], ByteArray.mk #[]⟩
theorem rows_toD (T : Nat → Prop) (w : World) : ∀ L : List Op4, RowsOk R_OpD T w (L.flatMap opE) (L.map toD)
  | [] => RowsOk.nil_ _ _ _
  | x :: L => by
    have h1 : RowsOk R_OpD T w (opE x) [toD x] := by
      refine ⟨rfl, fun k y hy => ?_⟩
      cases k with
      | zero =>
        simp only [List.getElem?_cons_zero, Option.some.injEq] at hy
        subst hy
        exact ⟨opE x, ⟨_, rfl, SlR.nil_ _ _ _⟩, fun j u hu => by rw [Nat.zero_mul, Nat.zero_add]; exact hu⟩
      | succ k => simp at hy
    have := h1.append (rows_toD T w L)
    simpa [List.flatMap_cons, List.map_cons] using this
theorem nums_none : ref10_SameNumbers [] [] = some true := by
  unfold ref10_SameNumbers
  have h : loop (fun s : Int => ref10_SameNumbers_l2 [] [] s) 0 = some (.go ()) := loop_to (fun k => (k : Int)) 0 rfl (fun k hk => by omega) rfl
  rw [h]
  rfl
theorem same_pure (P R : Int) (L : List Op4) (hL : L.length ≤ 100000) : ref10_SameCode ⟨P, R, L.map toD⟩ ⟨P, R, L.map toD⟩ = some true := by
  unfold ref10_SameCode
  have h : loop (fun s : Int => ref10_SameCode_l3 ⟨P, R, L.map toD⟩ ⟨P, R, L.map toD⟩ s) 0 = some (.go ()) := by
    refine loop_to (fun k => (k : Int)) L.length rfl (fun k hk => ?_) ?_
    · unfold ref10_SameCode_l3
      have hk2 : k < (L.map toD).length := by rw [List.length_map]; exact hk
      have hd : decide ((k : Int) < ((L.map toD).length : Int)) = true := by rw [decide_eq_true_iff]; omega
      simp only [hd, cond_true, getI_at hk2, Option.bind_some, List.getElem_map]
      unfold ref10_SameCode_j2 toD
      simp only [nums_none, bne_self_eq_false, cond_false, beq_self_eq_true, Bool.not_true, Option.bind_some]
      rw [w64 (by omega) (by omega)]
      rfl
    · unfold ref10_SameCode_l3
      have hd : decide (((L.length : Nat) : Int) < ((L.map toD).length : Int)) = false := by rw [List.length_map, decide_eq_false_iff_not]; omega
      simp only [hd, cond_false]
  simp only [bne_self_eq_false, cond_false, h, Option.bind_some]
  rfl
theorem same_code (w : World) (B1 B2 : Nat) (P R : Int) (v1 v2 : Value) (L : List Op4) (hL : L.length ≤ 100000) (h1 : Own w B1 35 6 v1 (L.flatMap opE)) (h2 : Own w B2 35 6 v2 (L.flatMap opE)) :
    Calls Tryz.prog 11 #[.agg #[.int .i64 P, .int .i64 R, v1], .agg #[.int .i64 P, .int .i64 R, v2]] w (fun e w' => e = .returned (.bool true) ∧ Kt No w w') := by
  have k1 := Own.rd (R := R_OpD) (T := No) (by decide) h1 (rows_toD No w L) (fun _ _ h => h)
  have k2 := Own.rd (R := R_OpD) (T := No) (by decide) h2 (rows_toD No w L) (fun _ _ h => h)
  refine Calls.mono (ref10_SameCode_c No w (fun _ h => h.elim) ⟨P, R, L.map toD⟩ ⟨P, R, L.map toD⟩ v1 v2 k1 k2 true (same_pure P R L hL)) ?_
  rintro e w' ⟨v, rfl, hk, rfl⟩
  exact ⟨rfl, hk⟩
end Go.Proofs.YtpbbnkpplcnaoaaGreatDoor
