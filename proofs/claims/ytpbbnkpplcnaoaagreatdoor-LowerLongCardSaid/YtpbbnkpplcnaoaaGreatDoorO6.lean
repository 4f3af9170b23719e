/- LowerLong: the code of a chain of signs, and its panic. -/
import Derived.Test.YtpbbnkpplcnaoaaGreatDoorO5
set_option linter.unusedVariables false
set_option linter.unusedSimpArgs false
namespace Go.Proofs.YtpbbnkpplcnaoaaGreatDoor
open Go.RowKit

/-- the operations of a chain -/
def chain (nx : Int) : Nat → List Op4
  | 0 => [⟨1, nx, 0, 1⟩]
  | n + 1 => chain nx n ++ [⟨11, nx + n + 1, nx + n, 0⟩]
theorem chain_len (nx : Int) : ∀ n, (chain nx n).length = n + 1
  | 0 => rfl
  | n + 1 => by rw [chain, List.length_append, chain_len nx n]; rfl
def ValC (n : Nat) : Prop := ∀ (w : World) (B p : Nat) (lo tg v : Value) (L : List Op4) (nx : Int) (A : Option Addr) (m d : Nat), Wr w B p lo tg v L nx → 0 ≤ nx → nx + n ≤ 50000 → Ch w B n A m d → L.length + n + 1 ≤ 4000 →
  Calls Tryz.prog 40 #[.pointer (some ⟨p, 0, none⟩), trV (kd n) (tx n) A m d] w (fun e w' => e = .returned (.int .i64 (nx + n)) ∧ ∃ v', Wr w' B p lo tg v' (L ++ chain nx n) (nx + n + 1) ∧ Fr p v w v' w')

set_option maxHeartbeats 4000000 in
theorem unary_ok (n : Nat) (IH : ValC n) (w : World) (B p : Nat) (lo tg v : Value) (L : List Op4) (nx : Int) (b : Nat) (A : Option Addr) (m d : Nat) (h : Wr w B p lo tg v L nx) (h0 : 0 ≤ nx) (h1 : nx + n + 1 ≤ 50000) (hbB : b < B) (hbl : b < w.heap.size) (hT : TrAt w b 0 (kd n) (tx n) A m d) (hC : Ch w B n A m d) (hl : L.length + n + 2 ≤ 4000) :
    Calls Tryz.prog 66 #[.pointer (some ⟨p, 0, none⟩), trV 27 ⟨#[45]⟩ (some ⟨b, 0, none⟩) 1 1] w (fun e w' => e = .returned (.int .i64 (nx + n + 1)) ∧ ∃ v', Wr w' B p lo tg v' (L ++ chain nx (n + 1)) (nx + n + 2) ∧ Fr p v w v' w') := by
  have hk0 := Kt.alloc w (.cells (trC 27 ⟨#[45]⟩ (some ⟨b, 0, none⟩) 1 1) 25)
  have hz := h.keep hk0
  have hb0 := heap_alloc_new w (.cells (trC 27 ⟨#[45]⟩ (some ⟨b, 0, none⟩) 1 1) 25)
  have hs0 : (w.alloc (.cells (trC 27 ⟨#[45]⟩ (some ⟨b, 0, none⟩) 1 1) 25)).heap.size = w.heap.size + 1 := by simp
  have hp := h.lt
  have hv := fun k hk => (h.own k hk).2
  have hv0 := fun k hk => (h.own k hk).1
  have hpB := h.2.1
  have hT0 : TrAt (w.alloc (.cells (trC 27 ⟨#[45]⟩ (some ⟨b, 0, none⟩) 1 1) 25)) b (0 * 4) (kd n) (tx n) A m d := hT.keep (fun q hq => hk0.cell (by omega) (fun h => h))
  have hC0 := hC.no hk0
  clear h hT hC
  go_enter Tryz.func66, Tryz.ntmps66
  go_wp2_with fail
  refine (kid_at _ _ _ b 1 1 0 (kd n) (tx n) A m d (by omega) (by omega) hT0 (by rw [hs0]; omega)).mono ?_
  rintro e w1 ⟨rfl, hK1⟩
  have hb1 := (hK1.block w.heap.size (by rw [hs0]; omega) (fun h => h)).trans hb0
  have hW1 := hz.keep hK1
  have hC1 := hC0.no hK1
  have hs1 := hK1.size
  rw [hs0] at hs1
  have hF1 : Fr p v w v w1 := Fr.of (hk0.trans hK1)
  clear hk0 hz hb0 hs0 hT0 hC0 hK1
  go_wp2_with fail
  refine (IH _ B p lo tg v L nx A m d hW1 h0 (by omega) hC1 (by omega)).mono ?_
  rintro e w2 ⟨rfl, v2, hW2, hF2⟩
  have hb2 := (hF2.block (b := w.heap.size) (by omega) (by omega) (own_lt_ne hv)).trans hb1
  have hF := hid (hF1.trans hF2)
  have hs2 := Nat.le_trans hs1 hF2.size
  obtain ⟨c0, c1, c2, c3⟩ := trBox (w' := w2) hb2 rfl
  have HW := hid hW2
  have hlt : w.heap.size < w2.heap.size := by omega
  clear hb1 hW1 hC1 hF1 hF2 hb2 hW2
  go_wp2_with fail
  have hk2 := Kt.alloc w2 (.cells (opE ⟨11, 0, nx + n, 0⟩).toArray 35)
  refine (result_fr _ B p lo tg v2 (L ++ chain nx n) (nx + n + 1) 11 0 (nx + n) 0 (HW.out.keep hk2) (by omega) (by omega) (by rw [List.length_append, chain_len]; omega)).mono ?_
  rintro e w3 ⟨rfl, v3, hW3, hF3⟩
  have hF := (hF.out.no hk2).trans hF3
  have hch : L ++ chain nx (n + 1) = L ++ chain nx n ++ [⟨11, nx + n + 1, nx + n, 0⟩] := by rw [chain, List.append_assoc]
  clear hk2 hF3 c0 c1 c2 c3 HW
  go_wp2
  go_returns
  refine ⟨rfl, v3, ?_, hF⟩
  rw [hch, show nx + n + 2 = nx + n + 1 + 1 by omega]
  exact hW3
/-- the panic inside a chain -/
def ValP (n : Nat) : Prop := ∀ (w : World) (B p : Nat) (lo tg v : Value) (L : List Op4) (nx : Int) (A : Option Addr) (m d : Nat), Wr w B p lo tg v L nx → 0 ≤ nx → nx + n ≤ 50000 → Ch w B n A m d → L.length ≤ 4000 → 4000 < L.length + n + 1 →
  Calls Tryz.prog 40 #[.pointer (some ⟨p, 0, none⟩), trV (kd n) (tx n) A m d] w (fun e w' => e = .panicked lgP ∧ Kt (fun k => k = p ∨ v.ownBlock = some k) w w')
theorem pan_later {p : Nat} {v v1 : Value} {w w1 w2 : World} (h : Fr p v w v1 w1) (k : Kt (fun k => k = p ∨ v1.ownBlock = some k) w1 w2) : Kt (fun k => k = p ∨ v.ownBlock = some k) w w2 :=
  h.1.step k fun j hj => by
    rcases hj with rfl | hj
    · exact .inl (.inl rfl)
    · exact (h.2 j hj).imp .inr id

set_option maxHeartbeats 4000000 in
theorem unary_pan (n : Nat) (IH : ValC n) (IP : ValP n) (w : World) (B p : Nat) (lo tg v : Value) (L : List Op4) (nx : Int) (b : Nat) (A : Option Addr) (m d : Nat) (h : Wr w B p lo tg v L nx) (h0 : 0 ≤ nx) (h1 : nx + n + 1 ≤ 50000) (hbB : b < B) (hbl : b < w.heap.size) (hT : TrAt w b 0 (kd n) (tx n) A m d) (hC : Ch w B n A m d) (hl : L.length ≤ 4000) (hl2 : 4000 < L.length + n + 2) :
    Calls Tryz.prog 66 #[.pointer (some ⟨p, 0, none⟩), trV 27 ⟨#[45]⟩ (some ⟨b, 0, none⟩) 1 1] w (fun e w' => e = .panicked lgP ∧ Kt (fun k => k = p ∨ v.ownBlock = some k) w w') := by
  have hk0 := Kt.alloc w (.cells (trC 27 ⟨#[45]⟩ (some ⟨b, 0, none⟩) 1 1) 25)
  have hz := h.keep hk0
  have hb0 := heap_alloc_new w (.cells (trC 27 ⟨#[45]⟩ (some ⟨b, 0, none⟩) 1 1) 25)
  have hs0 : (w.alloc (.cells (trC 27 ⟨#[45]⟩ (some ⟨b, 0, none⟩) 1 1) 25)).heap.size = w.heap.size + 1 := by simp
  have hp := h.lt
  have hv := fun k hk => (h.own k hk).2
  have hv0 := fun k hk => (h.own k hk).1
  have hpB := h.2.1
  have hT0 : TrAt (w.alloc (.cells (trC 27 ⟨#[45]⟩ (some ⟨b, 0, none⟩) 1 1) 25)) b (0 * 4) (kd n) (tx n) A m d := hT.keep (fun q hq => hk0.cell (by omega) (fun h => h))
  have hC0 := hC.no hk0
  clear h hT hC
  go_enter Tryz.func66, Tryz.ntmps66
  go_wp2_with fail
  refine (kid_at _ _ _ b 1 1 0 (kd n) (tx n) A m d (by omega) (by omega) hT0 (by rw [hs0]; omega)).mono ?_
  rintro e w1 ⟨rfl, hK1⟩
  have hb1 := (hK1.block w.heap.size (by rw [hs0]; omega) (fun h => h)).trans hb0
  have hW1 := hz.keep hK1
  have hC1 := hC0.no hK1
  have hs1 := hK1.size
  rw [hs0] at hs1
  have hF1 : Fr p v w v w1 := Fr.of (hk0.trans hK1)
  clear hk0 hz hb0 hs0 hT0 hC0 hK1
  go_wp2_with fail
  by_cases hcase : L.length + n + 1 ≤ 4000
  · refine (IH _ B p lo tg v L nx A m d hW1 h0 (by omega) hC1 (by omega)).mono ?_
    rintro e w2 ⟨rfl, v2, hW2, hF2⟩
    have hb2 := (hF2.block (b := w.heap.size) (by omega) (by omega) (own_lt_ne hv)).trans hb1
    have hF := hid (hF1.trans hF2)
    have hs2 := Nat.le_trans hs1 hF2.size
    obtain ⟨c0, c1, c2, c3⟩ := trBox (w' := w2) hb2 rfl
    have HW := hid hW2
    have hlt : w.heap.size < w2.heap.size := by omega
    clear hb1 hW1 hC1 hF1 hF2 hb2 hW2
    go_wp2_with fail
    have hk2 := Kt.alloc w2 (.cells (opE ⟨11, 0, nx + n, 0⟩).toArray 35)
    refine (result_pan _ B p lo tg v2 (L ++ chain nx n) (nx + n + 1) 11 0 (nx + n) 0 (HW.out.keep hk2) (by omega) (by omega) (by rw [List.length_append, chain_len]; omega)).mono ?_
    rintro e w3 ⟨rfl, hK3⟩
    exact ⟨rfl, rfl, pan_later (hF.out.no hk2) hK3⟩
  · refine (IP _ B p lo tg v L nx A m d hW1 h0 (by omega) hC1 hl (by omega)).mono ?_
    rintro e w2 ⟨rfl, hK2⟩
    exact ⟨rfl, rfl, pan_later hF1 hK2⟩

set_option maxHeartbeats 4000000 in
theorem value_neg (w : World) (B p : Nat) (lo tg v : Value) (L : List Op4) (nx : Int) (A : Option Addr) (m d : Nat) (h : Wr w B p lo tg v L nx) (R : Ending → World → Prop)
    (hU : Calls Tryz.prog 66 #[.pointer (some ⟨p, 0, none⟩), trV 27 ⟨#[45]⟩ A m d] (w.alloc (.cells (trC 27 ⟨#[45]⟩ A m d) 25)) (fun e w' => R e w' ∧ ((∃ z, e = .returned (.int .i64 z)) ∨ e = .panicked lgP))) :
    Calls Tryz.prog 40 #[.pointer (some ⟨p, 0, none⟩), trV 27 ⟨#[45]⟩ A m d] w R := by
  go_enter Tryz.func40, Tryz.ntmps40
  go_wp2_with fail
  refine hU.mono ?_
  rintro e w2 ⟨hr, he⟩
  rcases he with ⟨z, rfl⟩ | rfl
  · go_wp2
    exact hr
  · exact ⟨rfl, hr⟩

set_option maxHeartbeats 2000000 in
theorem value_int_pan (w : World) (B p : Nat) (lo tg v : Value) (L : List Op4) (nx : Int) (b : UInt8) (hb : b = 49 ∨ b = 50 ∨ b = 55) (h : Wr w B p lo tg v L nx) (h0 : 0 ≤ nx) (h1 : nx ≤ 100000) (hl : L.length = 4000) :
    Calls Tryz.prog 40 #[.pointer (some ⟨p, 0, none⟩), trV 20 ⟨#[b]⟩ none 0 0] w (fun e w' => e = .panicked lgP ∧ Kt (fun k => k = p ∨ v.ownBlock = some k) w w') := by
  have hz := h.keep (Kt.alloc w (.cells (trC 20 ⟨#[b]⟩ none 0 0) 25))
  have hb0 := heap_alloc_new w (.cells (trC 20 ⟨#[b]⟩ none 0 0) 25)
  have hF0 : Fr p v w v (w.alloc (.cells (trC 20 ⟨#[b]⟩ none 0 0) 25)) := Fr.of (Kt.alloc _ _)
  have hs0 : (w.alloc (.cells (trC 20 ⟨#[b]⟩ none 0 0) 25)).heap.size = w.heap.size + 1 := by simp
  clear h
  go_enter Tryz.func40, Tryz.ntmps40
  go_wp2_with fail
  refine (dig_fr b _ hb).mono ?_
  rintro e w1 ⟨rfl, hK1⟩
  obtain ⟨c0, c1, c2, c3⟩ := trBox hb0 (hK1.block w.heap.size (by rw [hs0]; omega) (fun h => h))
  have hz1 := hid (hz.keep hK1)
  have hF1 := hid (hF0.no hK1)
  clear hz hb0 hF0 hs0
  go_wp2_with fail
  refine (result_pan _ B p lo tg v L nx _ _ _ _ hz1.out h0 h1 hl).mono ?_
  rintro e w2 ⟨rfl, hK2⟩
  exact ⟨rfl, rfl, pan_later hF1.out hK2⟩

/-- the code of a chain, and its panic -/
theorem val_all : ∀ n, ValC n ∧ ValP n
  | 0 => by
    refine ⟨?_, ?_⟩
    · intro w B p lo tg v L nx A m d h h0 h1 hC hl
      obtain ⟨rfl, rfl, rfl⟩ := hC
      refine (value_int w B p lo tg v L nx 49 (.inl rfl) h h0 (by omega) (by omega)).mono ?_
      rintro e w' ⟨rfl, v', hW, hF⟩
      exact ⟨by simp, v', by simpa [chain] using hW, hF⟩
    · intro w B p lo tg v L nx A m d h h0 h1 hC hl hl2
      obtain ⟨rfl, rfl, rfl⟩ := hC
      exact value_int_pan w B p lo tg v L nx 49 (.inl rfl) h h0 (by omega) (by omega)
  | n + 1 => by
    obtain ⟨IH, IP⟩ := val_all n
    refine ⟨?_, ?_⟩
    · intro w B p lo tg v L nx A m d h h0 h1 hC hl
      obtain ⟨b, A', m', d', rfl, rfl, rfl, hbB, hbl, hT, hC⟩ := hC
      have hk := Kt.alloc w (.cells (trC 27 ⟨#[45]⟩ (some ⟨b, 0, none⟩) 1 1) 25)
      refine value_neg w B p lo tg v L nx _ 1 1 h _ ?_
      refine (unary_ok n IH _ B p lo tg v L nx b A' m' d' (h.keep hk) h0 (by omega) hbB (Nat.lt_of_lt_of_le hbl hk.size) (hT.keep fun q hq => hk.cell (by omega) (fun h => h)) (hC.no hk) (by omega)).mono ?_
      rintro e w' ⟨rfl, v', hW, hF⟩
      refine ⟨⟨?_, v', ?_, (Fr.of hk).trans hF⟩, .inl ⟨_, rfl⟩⟩
      · rw [show nx + ((n + 1 : Nat) : Int) = nx + n + 1 by omega]
      · rw [show nx + ((n + 1 : Nat) : Int) + 1 = nx + n + 2 by omega]; exact hW
    · intro w B p lo tg v L nx A m d h h0 h1 hC hl hl2
      obtain ⟨b, A', m', d', rfl, rfl, rfl, hbB, hbl, hT, hC⟩ := hC
      have hk := Kt.alloc w (.cells (trC 27 ⟨#[45]⟩ (some ⟨b, 0, none⟩) 1 1) 25)
      refine value_neg w B p lo tg v L nx _ 1 1 h _ ?_
      refine (unary_pan n IH IP _ B p lo tg v L nx b A' m' d' (h.keep hk) h0 (by omega) hbB (Nat.lt_of_lt_of_le hbl hk.size) (hT.keep fun q hq => hk.cell (by omega) (fun h => h)) (hC.no hk) hl (by omega)).mono ?_
      rintro e w' ⟨rfl, hK⟩
      exact ⟨⟨rfl, pan_later (Fr.of hk) hK⟩, .inr rfl⟩
end Go.Proofs.YtpbbnkpplcnaoaaGreatDoor
