/- LowerLong: a statement of a value alone; a block. -/
import Derived.Test.YtpbbnkpplcnaoaaGreatDoorO6
set_option linter.unusedVariables false
set_option linter.unusedSimpArgs false
namespace Go.Proofs.YtpbbnkpplcnaoaaGreatDoor
open Go.RowKit

set_option maxHeartbeats 4000000 in
theorem stmt_any (n : Nat) (w : World) (B p : Nat) (lo tg v : Value) (L : List Op4) (nx : Int) (b : Nat) (A : Option Addr) (m d : Nat) (h : Wr w B p lo tg v L nx) (h0 : 0 ≤ nx) (h1 : nx + n + 1 ≤ 50000) (hbB : b < B) (hbl : b < w.heap.size) (hT : TrAt w b 0 (kd n) (tx n) A m d) (hC : Ch w B n A m d) (hl : L.length ≤ 4000) :
    Calls Tryz.prog 69 #[.pointer (some ⟨p, 0, none⟩), trV 36 ⟨#[]⟩ (some ⟨b, 0, none⟩) 1 1] w (fun e w' =>
      (L.length + n + 1 ≤ 4000 ∧ e = .returned (.tuple #[]) ∧ ∃ v', Wr w' B p lo tg v' (L ++ chain nx n) (nx + n + 1) ∧ Fr p v w v' w') ∨
      (4000 < L.length + n + 1 ∧ e = .panicked lgP ∧ Kt (fun k => k = p ∨ v.ownBlock = some k) w w')) := by
  obtain ⟨VC, VP⟩ := val_all n
  obtain ⟨Av, nv, cv, hvv, _⟩ := h.2.2.form (by decide)
  have hk0 := Kt.alloc w (.cells (trC 36 ⟨#[]⟩ (some ⟨b, 0, none⟩) 1 1) 25)
  have hz := h.keep hk0
  have hb0 := heap_alloc_new w (.cells (trC 36 ⟨#[]⟩ (some ⟨b, 0, none⟩) 1 1) 25)
  have hs0 : (w.alloc (.cells (trC 36 ⟨#[]⟩ (some ⟨b, 0, none⟩) 1 1) 25)).heap.size = w.heap.size + 1 := by simp
  have hp := h.lt
  have hv := fun k hk => (h.own k hk).2
  have hT0 : TrAt (w.alloc (.cells (trC 36 ⟨#[]⟩ (some ⟨b, 0, none⟩) 1 1) 25)) b (0 * 4) (kd n) (tx n) A m d := hT.keep (fun q hq => hk0.cell (by omega) (fun h => h))
  have hC0 := hC.no hk0
  have cp : w.cell? ⟨p, 0, none⟩ = some (.slice Av nv cv) := by rw [cell_of_row _ _ _ _ _ _ h.1, hvv]; rfl
  clear h hT hC hvv
  go_enter Tryz.func69, Tryz.ntmps69
  go_wp2_with fail
  refine (kid_at _ _ _ b 1 1 0 (kd n) (tx n) A m d (by omega) (by omega) hT0 (by rw [hs0]; omega)).mono ?_
  rintro e w1 ⟨rfl, hK1⟩
  have hb1 := (hK1.block w.heap.size (by rw [hs0]; omega) (fun h => h)).trans hb0
  have hW1 := hz.keep hK1
  have hC1 := hC0.no hK1
  have hs1 := hK1.size
  rw [hs0] at hs1
  have hF1 : Fr p v w v w1 := Fr.of (hk0.trans hK1)
  clear hk0 hz hb0 hs0 hT0 hC0 hK1 cp
  go_wp2_with fail
  by_cases hcase : L.length + n + 1 ≤ 4000
  · refine (VC _ B p lo tg v L nx A m d hW1 h0 (by omega) hC1 (by omega)).mono ?_
    rintro e w2 ⟨rfl, v2, hW2, hF2⟩
    have hb2 := (hF2.block (b := w.heap.size) (by omega) (by omega) (own_lt_ne hv)).trans hb1
    have hF := hid (hF1.trans hF2)
    obtain ⟨c0, c1, c2, c3⟩ := trBox (w' := w2) hb2 rfl
    have HW := hid hW2
    clear hb1 hW1 hC1 hF1 hF2 hb2 hW2
    go_wp2
    go_returns
    exact .inl ⟨hcase, rfl, v2, HW.out, hF.out⟩
  · refine (VP _ B p lo tg v L nx A m d hW1 h0 (by omega) hC1 hl (by omega)).mono ?_
    rintro e w2 ⟨rfl, hK2⟩
    exact ⟨rfl, .inr ⟨by omega, rfl, pan_later hF1 hK2⟩⟩

set_option maxHeartbeats 4000000 in
theorem do_any (n : Nat) (w : World) (B p : Nat) (lo tg v : Value) (L : List Op4) (nx : Int) (b : Nat) (A : Option Addr) (m d : Nat) (h : Wr w B p lo tg v L nx) (h0 : 0 ≤ nx) (h1 : nx + n + 1 ≤ 50000) (hbB : b < B) (hbl : b < w.heap.size) (hT : TrAt w b 0 (kd n) (tx n) A m d) (hC : Ch w B n A m d) (hl : L.length ≤ 4000) :
    Calls Tryz.prog 40 #[.pointer (some ⟨p, 0, none⟩), trV 36 ⟨#[]⟩ (some ⟨b, 0, none⟩) 1 1] w (fun e w' =>
      (L.length + n + 1 ≤ 4000 ∧ e = .returned (.int .i64 0) ∧ ∃ v', Wr w' B p lo tg v' (L ++ chain nx n) (nx + n + 1) ∧ Fr p v w v' w') ∨
      (4000 < L.length + n + 1 ∧ e = .panicked lgP ∧ Kt (fun k => k = p ∨ v.ownBlock = some k) w w')) := by
  have hk := Kt.alloc w (.cells (trC 36 ⟨#[]⟩ (some ⟨b, 0, none⟩) 1 1) 25)
  have hS := stmt_any n _ B p lo tg v L nx b A m d (h.keep hk) h0 h1 hbB (Nat.lt_of_lt_of_le hbl hk.size) (hT.keep fun q hq => hk.cell (by omega) (fun h => h)) (hC.no hk) hl
  have hF := hid (Fr.of (p := p) (v := v) hk)
  clear h hT hC hk
  go_enter Tryz.func40, Tryz.ntmps40
  go_wp2_with fail
  refine hS.mono ?_
  rintro e w2 (⟨hc, rfl, v', hW, hF2⟩ | ⟨hc, rfl, hK⟩)
  · have HF := hid (hF.out.trans hF2)
    have HW := hid hW
    clear hF2 hW hS
    go_wp2
    go_returns
    exact .inl ⟨hc, rfl, v', HW.out, HF.out⟩
  · exact ⟨rfl, .inr ⟨hc, rfl, pan_later hF.out hK⟩⟩
end Go.Proofs.YtpbbnkpplcnaoaaGreatDoor
