/- LowerLong: the document's code of a chain, a statement, a block. -/
import Derived.Test.YtpbbnkpplcnaoaaGreatDoorOD
set_option linter.unusedVariables false
set_option linter.unusedSimpArgs false
namespace Go.Proofs.YtpbbnkpplcnaoaaGreatDoor
open Go.RowKit

set_option maxRecDepth 100000 in
set_option maxHeartbeats 4000000 in
theorem valS_int (w : World) (B p : Nat) (vs rs ns gs ts v : Value) (L : List Op4) (nx : Int) (b : UInt8) (hb : b = 49 ∨ b = 50 ∨ b = 55) (h : St14 w B p vs rs ns gs ts v L nx) (h0 : 0 ≤ nx) (h1 : nx ≤ 100000) (hl : L.length ≤ 8000) :
    Calls Tryz.prog 30 #[.pointer (some ⟨p, 0, none⟩), trV 20 ⟨#[b]⟩ none 0 0] w (fun e w' => e = .returned (.int .i64 nx) ∧ ∃ v', St14 w' B p vs rs ns gs ts v' (L ++ [⟨1, nx, 0, (b.toNat : Int) - 48⟩]) (nx + 1) ∧ Fr p v w v' w') := by
  obtain ⟨Av, nv, cv, hvv, hnv, _⟩ := h.2.2.form (by decide)
  have hnv2 : nv = L.length := by have := flat_length opE_len L; omega
  have hgt : decide ((8000 : Int) < (nv : Int)) = false := by rw [decide_eq_false_iff_not]; omega
  have cp : w.cell? ⟨p, 0, none⟩ = some (.slice Av nv cv) := by rw [cell_of_row _ _ _ _ _ _ h.1, hvv]; rfl
  have hz := h.keep (Kt.alloc w (.cells (trC 20 ⟨#[b]⟩ none 0 0) 25))
  have hp := h.lt
  have hb0 := heap_alloc_new w (.cells (trC 20 ⟨#[b]⟩ none 0 0) 25)
  have hF0 : Fr p v w v (w.alloc (.cells (trC 20 ⟨#[b]⟩ none 0 0) 25)) := Fr.of (Kt.alloc _ _)
  have hs0 : (w.alloc (.cells (trC 20 ⟨#[b]⟩ none 0 0) 25)).heap.size = w.heap.size + 1 := by simp
  clear h hnv hvv
  go_enter Tryz.func30, Tryz.ntmps30
  go_wp2_with fail
  refine (number_fr b _ hb).mono ?_
  rintro e w1 ⟨rfl, hK1⟩
  obtain ⟨c0, c1, c2, c3⟩ := trBox hb0 (hK1.block w.heap.size (by rw [hs0]; omega) (fun h => h))
  have hz1 := hid (hz.keep hK1)
  have hF1 := hid (hF0.no hK1)
  clear hz hb0 hF0 hs0 cp
  go_wp2_with fail
  refine (freshS_fr _ B p vs rs ns gs ts v L nx hz1.out h0 h1).mono ?_
  rintro e w2 ⟨rfl, hW2, hF2⟩
  have hF2 := hid (hF1.out.trans hF2)
  have hW2 := hid hW2
  clear hz1 hF1 c0 c1 c2 c3
  go_wp2_with fail
  refine (addS_fr _ B p vs rs ns gs ts v L (nx + 1) 1 nx 0 _ hW2.out (by omega)).mono ?_
  rintro e w3 ⟨rfl, v3, hW3, hF3⟩
  have hF := hF2.out.trans hF3
  clear hF2 hW2 hF3
  go_wp2
  go_returns
  exact ⟨rfl, v3, hW3, hF⟩

def ValS (n : Nat) : Prop := ∀ (w : World) (B p : Nat) (vs rs ns gs ts v : Value) (L : List Op4) (nx : Int) (A : Option Addr) (m d : Nat), St14 w B p vs rs ns gs ts v L nx → 0 ≤ nx → nx + n ≤ 50000 → Ch w B n A m d → L.length + n + 1 ≤ 8000 →
  Calls Tryz.prog 30 #[.pointer (some ⟨p, 0, none⟩), trV (kd n) (tx n) A m d] w (fun e w' => e = .returned (.int .i64 (nx + n)) ∧ ∃ v', St14 w' B p vs rs ns gs ts v' (L ++ chain nx n) (nx + n + 1) ∧ Fr p v w v' w')
set_option maxRecDepth 100000 in
set_option maxHeartbeats 8000000 in
theorem valS_neg (n : Nat) (IH : ValS n) (w : World) (B p : Nat) (vs rs ns gs ts v : Value) (L : List Op4) (nx : Int) (b : Nat) (A : Option Addr) (m d : Nat) (h : St14 w B p vs rs ns gs ts v L nx) (h0 : 0 ≤ nx) (h1 : nx + n + 1 ≤ 50000) (hbB : b < B) (hbl : b < w.heap.size) (hT : TrAt w b 0 (kd n) (tx n) A m d) (hC : Ch w B n A m d) (hl : L.length + n + 2 ≤ 8000) :
    Calls Tryz.prog 30 #[.pointer (some ⟨p, 0, none⟩), trV 27 ⟨#[45]⟩ (some ⟨b, 0, none⟩) 1 1] w (fun e w' => e = .returned (.int .i64 (nx + n + 1)) ∧ ∃ v', St14 w' B p vs rs ns gs ts v' (L ++ chain nx (n + 1)) (nx + n + 2) ∧ Fr p v w v' w') := by
  obtain ⟨Av, nv, cv, hvv, hnv, _⟩ := h.2.2.form (by decide)
  have hnv2 : nv = L.length := by have := flat_length opE_len L; omega
  have hgt : decide ((8000 : Int) < (nv : Int)) = false := by rw [decide_eq_false_iff_not]; omega
  have cp : w.cell? ⟨p, 0, none⟩ = some (.slice Av nv cv) := by rw [cell_of_row _ _ _ _ _ _ h.1, hvv]; rfl
  have hk0 := Kt.alloc w (.cells (trC 27 ⟨#[45]⟩ (some ⟨b, 0, none⟩) 1 1) 25)
  have hz := h.keep hk0
  have hb0 := heap_alloc_new w (.cells (trC 27 ⟨#[45]⟩ (some ⟨b, 0, none⟩) 1 1) 25)
  have hs0 : (w.alloc (.cells (trC 27 ⟨#[45]⟩ (some ⟨b, 0, none⟩) 1 1) 25)).heap.size = w.heap.size + 1 := by simp
  have hp := h.lt
  have hv := fun k hk => (h.own k hk).2
  have hT0 : TrAt (w.alloc (.cells (trC 27 ⟨#[45]⟩ (some ⟨b, 0, none⟩) 1 1) 25)) b (0 * 4) (kd n) (tx n) A m d := hT.keep (fun q hq => hk0.cell (by omega) (fun h => h))
  have hC0 := hC.no hk0
  clear h hT hC hvv hnv
  go_enter Tryz.func30, Tryz.ntmps30
  go_wp2_with fail
  refine (kidS_at _ _ _ b 1 1 0 (kd n) (tx n) A m d (by omega) (by omega) hT0 (by rw [hs0]; omega)).mono ?_
  rintro e w1 ⟨rfl, hK1⟩
  have hb1 := (hK1.block w.heap.size (by rw [hs0]; omega) (fun h => h)).trans hb0
  have hW1 := hz.keep hK1
  have hC1 := hC0.no hK1
  have hs1 := hK1.size
  rw [hs0] at hs1
  have hF1 : Fr p v w v w1 := Fr.of (hk0.trans hK1)
  clear hk0 hz hb0 hs0 hT0 hC0 hK1 cp
  go_wp2_with fail
  refine (IH _ B p vs rs ns gs ts v L nx A m d hW1 h0 (by omega) hC1 (by omega)).mono ?_
  rintro e w2 ⟨rfl, v2, hW2, hF2⟩
  have hb2 := (hF2.block (b := w.heap.size) (by omega) (by omega) (own_lt_ne hv)).trans hb1
  have hF := hid (hF1.trans hF2)
  have hl2 : w.heap.size < w2.heap.size := by have := hF2.size; omega
  have hv2 : v2.ownBlock ≠ some w.heap.size := own_no hW2.2.2 hb2 (by decide)
  have HW := hid hW2
  have HB := hid hb2
  clear hb1 hW1 hC1 hF1 hF2 hb2 hW2
  go_wp2_with fail
  refine (freshS_fr _ B p vs rs ns gs ts v2 (L ++ chain nx n) (nx + n + 1) HW.out (by omega) (by omega)).mono ?_
  rintro e w3 ⟨rfl, hW3, hF3⟩
  obtain ⟨c0, c1, c2, c3⟩ := trBox HB.out (hF3.block hl2 (by omega) hv2)
  have hF3 := hid (hF.out.trans hF3)
  have HW3 := hid hW3
  clear hF HW HB hW3
  go_wp2_with fail
  refine (addS_fr _ B p vs rs ns gs ts v2 (L ++ chain nx n) (nx + n + 1 + 1) 11 (nx + n + 1) (nx + n) 0 HW3.out (by rw [List.length_append, chain_len]; omega)).mono ?_
  rintro e w4 ⟨rfl, v4, hW4, hF4⟩
  have hF := hF3.out.trans hF4
  have hch : L ++ chain nx (n + 1) = L ++ chain nx n ++ [⟨11, nx + n + 1, nx + n, 0⟩] := by rw [chain, List.append_assoc]
  clear hF3 HW3 hF4 c0 c1 c2 c3
  go_wp2
  go_returns
  refine ⟨rfl, v4, ?_, hF⟩
  rw [hch, show nx + n + 2 = nx + n + 1 + 1 by omega]
  exact hW4
theorem valS_all : ∀ n, ValS n
  | 0 => by
    intro w B p vs rs ns gs ts v L nx A m d h h0 h1 hC hl
    obtain ⟨rfl, rfl, rfl⟩ := hC
    refine (valS_int w B p vs rs ns gs ts v L nx 49 (.inl rfl) h h0 (by omega) (by omega)).mono ?_
    rintro e w' ⟨rfl, v', hW, hF⟩
    exact ⟨by simp, v', by simpa [chain] using hW, hF⟩
  | n + 1 => by
    intro w B p vs rs ns gs ts v L nx A m d h h0 h1 hC hl
    obtain ⟨b, A', m', d', rfl, rfl, rfl, hbB, hbl, hT, hC⟩ := hC
    refine (valS_neg n (valS_all n) w B p vs rs ns gs ts v L nx b A' m' d' h h0 (by omega) hbB hbl hT hC (by omega)).mono ?_
    rintro e w' ⟨rfl, v', hW, hF⟩
    refine ⟨?_, v', ?_, hF⟩
    · rw [show nx + ((n + 1 : Nat) : Int) = nx + n + 1 by omega]
    · rw [show nx + ((n + 1 : Nat) : Int) + 1 = nx + n + 2 by omega]; exact hW
end Go.Proofs.YtpbbnkpplcnaoaaGreatDoor
