/- LowerLong: the document's code of a block. -/
import Derived.Test.YtpbbnkpplcnaoaaGreatDoorOE
set_option linter.unusedVariables false
set_option linter.unusedSimpArgs false
namespace Go.Proofs.YtpbbnkpplcnaoaaGreatDoor
open Go.RowKit

set_option maxRecDepth 100000 in
set_option maxHeartbeats 8000000 in
theorem doS_ok (n : Nat) (w : World) (B p : Nat) (vs rs ns gs ts v : Value) (L : List Op4) (nx : Int) (b : Nat) (A : Option Addr) (m d : Nat) (h : St14 w B p vs rs ns gs ts v L nx) (h0 : 0 ≤ nx) (h1 : nx + n + 1 ≤ 50000) (hbB : b < B) (hbl : b < w.heap.size) (hT : TrAt w b 0 (kd n) (tx n) A m d) (hC : Ch w B n A m d) (hl : L.length + n + 1 ≤ 8000) :
    Calls Tryz.prog 30 #[.pointer (some ⟨p, 0, none⟩), trV 36 ⟨#[]⟩ (some ⟨b, 0, none⟩) 1 1] w (fun e w' => e = .returned (.int .i64 0) ∧ ∃ v', St14 w' B p vs rs ns gs ts v' (L ++ chain nx n) (nx + n + 1) ∧ Fr p v w v' w') := by
  obtain ⟨Av, nv, cv, hvv, hnv, _⟩ := h.2.2.form (by decide)
  have hnv2 : nv = L.length := by have := flat_length opE_len L; omega
  have hgt : decide ((8000 : Int) < (nv : Int)) = false := by rw [decide_eq_false_iff_not]; omega
  have cp : w.cell? ⟨p, 0, none⟩ = some (.slice Av nv cv) := by rw [cell_of_row _ _ _ _ _ _ h.1, hvv]; rfl
  have hk0 := Kt.alloc w (.cells (trC 36 ⟨#[]⟩ (some ⟨b, 0, none⟩) 1 1) 25)
  have hz := h.keep hk0
  have hs0 : (w.alloc (.cells (trC 36 ⟨#[]⟩ (some ⟨b, 0, none⟩) 1 1) 25)).heap.size = w.heap.size + 1 := by simp
  have hp := h.lt
  have hT0 : TrAt (w.alloc (.cells (trC 36 ⟨#[]⟩ (some ⟨b, 0, none⟩) 1 1) 25)) b (0 * 4) (kd n) (tx n) A m d := hT.keep (fun q hq => hk0.cell (by omega) (fun h => h))
  have hC0 := hC.no hk0
  clear h hT hC hvv hnv
  go_enter Tryz.func30, Tryz.ntmps30
  go_wp2_with fail
  refine (kidS_at _ _ _ b 1 1 0 (kd n) (tx n) A m d (by omega) (by omega) hT0 (by rw [hs0]; omega)).mono ?_
  rintro e w1 ⟨rfl, hK1⟩
  have hW1 := hz.keep hK1
  have hC1 := hC0.no hK1
  have hF1 : Fr p v w v w1 := Fr.of (hk0.trans hK1)
  clear hk0 hz hs0 hT0 hC0 hK1 cp
  go_wp2_with fail
  refine (valS_all n _ B p vs rs ns gs ts v L nx A m d hW1 h0 (by omega) hC1 (by omega)).mono ?_
  rintro e w2 ⟨rfl, v2, hW2, hF2⟩
  have hF := hF1.trans hF2
  clear hW1 hC1 hF1 hF2
  go_wp2
  go_returns
  exact ⟨rfl, v2, hW2, hF⟩

set_option maxRecDepth 100000 in
set_option maxHeartbeats 16000000 in
theorem blockS_ok (n : Nat) (w : World) (B p : Nat) (vs rs ns gs ts v : Value) (L : List Op4) (nx : Int) (bk bd : Nat) (A : Option Addr) (m d : Nat) (h : St14 w B p vs rs ns gs ts v L nx) (h0 : 0 ≤ nx) (h1 : nx + 2 * n + 3 ≤ 50000) (hB : Blk w B n bk bd A m d) (hl : L.length + 2 * n + 3 ≤ 8000) :
    Calls Tryz.prog 30 #[.pointer (some ⟨p, 0, none⟩), trV 30 ⟨#[]⟩ (some ⟨bk, 0, none⟩) 3 3] w (fun e w' =>
      e = .returned (.int .i64 (nx + 2 * n + 2)) ∧ ∃ v', St14 w' B p vs rs ns gs ts v' (L ++ chain nx n ++ chain (nx + n + 1) n ++ [⟨1, nx + 2 * n + 2, 0, 7⟩]) (nx + 2 * n + 3) ∧ Fr p v w v' w') := by
  obtain ⟨Av, nv, cv, hvv, hnv, _⟩ := h.2.2.form (by decide)
  have hnv2 : nv = L.length := by have := flat_length opE_len L; omega
  have hgt : decide ((8000 : Int) < (nv : Int)) = false := by rw [decide_eq_false_iff_not]; omega
  have cp : w.cell? ⟨p, 0, none⟩ = some (.slice Av nv cv) := by rw [cell_of_row _ _ _ _ _ _ h.1, hvv]; rfl
  have hk0 := Kt.alloc w (.cells (trC 30 ⟨#[]⟩ (some ⟨bk, 0, none⟩) 3 3) 25)
  have hb0 := heap_alloc_new w (.cells (trC 30 ⟨#[]⟩ (some ⟨bk, 0, none⟩) 3 3) 25)
  have hs0 : (w.alloc (.cells (trC 30 ⟨#[]⟩ (some ⟨bk, 0, none⟩) 3 3) 25)).heap.size = w.heap.size + 1 := by simp
  have hp := h.lt
  have hpB := h.2.1
  have hv0 := fun k hk => (h.own k hk).1
  have hvl := fun k hk => (h.own k hk).2
  have HW := hid (h.keep hk0)
  have HB := hid (hB.no hk0)
  have HF := hid (Fr.of (p := p) (v := v) hk0)
  have hkl := hB.kl
  obtain ⟨a0, a1, a2, a3⟩ := hB.t1
  clear h hB hvv hnv hk0
  go_enter Tryz.func30, Tryz.ntmps30
  go_wp2_with fail
  refine wp_loop_rounds 4 ?_
  rw [rounds_succ]
  go_wp2_with fail
  clear a0 a1 a2 a3 cp
  refine (valS_all n _ B p vs rs ns gs ts v L nx A m d HW.out h0 (by omega) HB.out.ch (by omega)).mono ?_
  rintro e w2 ⟨rfl, v2, hW2, hF2⟩
  have hv2 := fun k hk => (hW2.own k hk).1
  have hb2 := (hF2.block (b := w.heap.size) (by omega) (by omega) (own_lt_ne hvl)).trans hb0
  have hvb2 : v2.ownBlock ≠ some w.heap.size := own_no hW2.2.2 hb2 (by decide)
  have hl2 := (Array.getElem?_eq_some_iff.1 hb2).1
  obtain ⟨c0, c1, c2, c3⟩ := trBox (w' := w2) hb2 rfl
  have hB2 := HB.out.fr hpB hv0 hF2
  obtain ⟨a0, a1, a2, a3⟩ := hB2.t2
  have hkl2 := hB2.kl
  replace HW := hid hW2
  replace HB := hid hB2
  replace HF := hid (HF.out.trans hF2)
  have Hb := hid hb2
  clear hW2 hF2 hB2 hb2 hb0 hs0
  go_wp2_with fail
  rw [rounds_succ]
  go_wp2_with fail
  clear a0 a1 a2 a3 c0 c1 c2 c3
  have hlen2 : (L ++ chain nx n).length = L.length + n + 1 := by rw [List.length_append, chain_len]; omega
  refine (doS_ok n _ B p vs rs ns gs ts v2 (L ++ chain nx n) (nx + n + 1) bd A m d HW.out (by omega) (by omega) HB.out.dB HB.out.dl HB.out.td HB.out.ch (by omega)).mono ?_
  rintro e w3 ⟨rfl, v3, hW3, hF3⟩
  have hb3 := (hF3.block (b := w.heap.size) hl2 (by omega) hvb2).trans Hb.out
  obtain ⟨c0, c1, c2, c3⟩ := trBox (w' := w3) hb3 rfl
  have hB3 := HB.out.fr hpB hv2 hF3
  have hvb3 : v3.ownBlock ≠ some w.heap.size := own_no hW3.2.2 hb3 (by decide)
  have hl3 := (Array.getElem?_eq_some_iff.1 hb3).1
  obtain ⟨a0, a1, a2, a3⟩ := hB3.t3
  have hkl3 := hB3.kl
  replace HW := hid hW3
  replace HB := hid hB3
  replace HF := hid (HF.out.trans hF3)
  replace Hb := hid hb3
  clear hW3 hF3 hB3 hb3
  go_wp2_with fail
  rw [rounds_succ]
  go_wp2_with fail
  clear a0 a1 a2 a3 c0 c1 c2 c3
  have hlen3 : (L ++ chain nx n ++ chain (nx + n + 1) n).length = L.length + 2 * n + 2 := by rw [List.length_append, hlen2, chain_len]; omega
  refine (valS_int _ B p vs rs ns gs ts v3 _ (nx + n + 1 + n + 1) 55 (.inr (.inr rfl)) HW.out (by omega) (by omega) (by omega)).mono ?_
  rintro e w4 ⟨rfl, v4, hW4, hF4⟩
  have hb4 := (hF4.block (b := w.heap.size) hl3 (by omega) hvb3).trans Hb.out
  obtain ⟨c0, c1, c2, c3⟩ := trBox (w' := w4) hb4 rfl
  replace HW := hid hW4
  replace HF := hid (HF.out.trans hF4)
  clear hW4 hF4 hb4 Hb
  go_wp2_with fail
  rw [rounds_succ]
  go_wp2
  go_returns
  have e1 : nx + n + 1 + n + 1 = nx + 2 * n + 2 := by omega
  have hW4 := HW.out
  rw [e1] at hW4
  refine ⟨?_, v4, ?_, HF.out⟩
  · rw [e1]; rfl
  · rw [show nx + 2 * n + 3 = nx + 2 * n + 2 + 1 by omega]; exact hW4
end Go.Proofs.YtpbbnkpplcnaoaaGreatDoor
