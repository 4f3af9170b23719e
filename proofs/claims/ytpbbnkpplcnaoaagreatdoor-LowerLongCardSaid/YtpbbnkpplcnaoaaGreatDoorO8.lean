/- LowerLong: a block of a chain, the chain as a statement, and a 7. -/
import Derived.Test.YtpbbnkpplcnaoaaGreatDoorO7
set_option linter.unusedVariables false
set_option linter.unusedSimpArgs false
namespace Go.Proofs.YtpbbnkpplcnaoaaGreatDoor
open Go.RowKit

theorem TrAt.fr {w w' : World} {B p : Nat} {v v' : Value} {b o : Nat} {k : Int} {s : ByteArray} {A : Option Addr} {n c : Nat} (h : TrAt w b o k s A n c) (hB : b < B) (hl : b < w.heap.size) (hp : B ≤ p) (hv : ∀ k, v.ownBlock = some k → B ≤ k) (f : Fr p v w v' w') : TrAt w' b o k s A n c :=
  h.keep fun q hq => f.cell hp hv (by omega) (by omega)
/-- what the block holds -/
structure Blk (w : World) (B n bk bd : Nat) (A : Option Addr) (m d : Nat) : Prop where
  kB : bk < B
  kl : bk < w.heap.size
  dB : bd < B
  dl : bd < w.heap.size
  t1 : TrAt w bk 0 (kd n) (tx n) A m d
  t2 : TrAt w bk 4 36 ⟨#[]⟩ (some ⟨bd, 0, none⟩) 1 1
  t3 : TrAt w bk 8 20 ⟨#[55]⟩ none 0 0
  td : TrAt w bd 0 (kd n) (tx n) A m d
  ch : Ch w B n A m d
theorem Blk.no {w w' : World} {B n bk bd : Nat} {A : Option Addr} {m d : Nat} (h : Blk w B n bk bd A m d) (k : Kt No w w') : Blk w' B n bk bd A m d :=
  ⟨h.kB, Nat.lt_of_lt_of_le h.kl k.size, h.dB, Nat.lt_of_lt_of_le h.dl k.size, h.t1.keep fun q hq => k.cell (by have := h.kl; omega) (fun h => h), h.t2.keep fun q hq => k.cell (by have := h.kl; omega) (fun h => h), h.t3.keep fun q hq => k.cell (by have := h.kl; omega) (fun h => h), h.td.keep fun q hq => k.cell (by have := h.dl; omega) (fun h => h), h.ch.no k⟩
theorem Blk.fr {w w' : World} {B n p bk bd : Nat} {A : Option Addr} {m d : Nat} {v v' : Value} (h : Blk w B n bk bd A m d) (hp : B ≤ p) (hv : ∀ k, v.ownBlock = some k → B ≤ k) (f : Fr p v w v' w') : Blk w' B n bk bd A m d :=
  ⟨h.kB, Nat.lt_of_lt_of_le h.kl f.size, h.dB, Nat.lt_of_lt_of_le h.dl f.size, h.t1.fr h.kB h.kl hp hv f, h.t2.fr h.kB h.kl hp hv f, h.t3.fr h.kB h.kl hp hv f, h.td.fr h.dB h.dl hp hv f, h.ch.fr hp hv f⟩

set_option maxHeartbeats 8000000 in
theorem block_any (n : Nat) (w : World) (B p : Nat) (lo tg v : Value) (L : List Op4) (nx : Int) (bk bd : Nat) (A : Option Addr) (m d : Nat) (h : Wr w B p lo tg v L nx) (h0 : 0 ≤ nx) (h1 : nx + 2 * n + 3 ≤ 50000) (hB : Blk w B n bk bd A m d) (hl : L.length ≤ 4000) :
    Calls Tryz.prog 40 #[.pointer (some ⟨p, 0, none⟩), trV 30 ⟨#[]⟩ (some ⟨bk, 0, none⟩) 3 3] w (fun e w' =>
      (L.length + 2 * n + 3 ≤ 4000 ∧ e = .returned (.int .i64 (nx + 2 * n + 2)) ∧ ∃ v', Wr w' B p lo tg v' (L ++ chain nx n ++ chain (nx + n + 1) n ++ [⟨1, nx + 2 * n + 2, 0, 7⟩]) (nx + 2 * n + 3) ∧ Fr p v w v' w') ∨
      (4000 < L.length + 2 * n + 3 ∧ e = .panicked lgP ∧ Kt (fun k => k = p ∨ v.ownBlock = some k) w w')) := by
  obtain ⟨VC, VP⟩ := val_all n
  have hk0 := Kt.alloc w (.cells (trC 30 ⟨#[]⟩ (some ⟨bk, 0, none⟩) 3 3) 25)
  have hpB := h.2.1
  have hv0 := fun k hk => (h.own k hk).1
  have HW := hid (h.keep hk0)
  have HB := hid (hB.no hk0)
  have HF := hid (Fr.of (p := p) (v := v) hk0)
  have hkl := hB.kl
  obtain ⟨a0, a1, a2, a3⟩ := hB.t1
  clear h hB hk0
  go_enter Tryz.func40, Tryz.ntmps40
  go_wp2_with fail
  refine wp_loop_rounds 4 ?_
  rw [rounds_succ]
  go_wp2_with fail
  clear a0 a1 a2 a3
  have hk1 := Kt.alloc (w.alloc (.cells (trC 30 ⟨#[]⟩ (some ⟨bk, 0, none⟩) 3 3) 25)) (.cells (trC (kd n) (tx n) A m d) 25)
  have HW1 := HW.out.keep hk1
  have HB1 := HB.out.no hk1
  have HF1 := HF.out.no hk1
  clear HW HB HF hk1
  by_cases hc1 : L.length + n + 1 ≤ 4000
  case neg =>
    refine (VP _ B p lo tg v L nx A m d HW1 h0 (by omega) HB1.ch hl (by omega)).mono ?_
    rintro e w2 ⟨rfl, hK2⟩
    exact ⟨rfl, .inr ⟨by omega, rfl, pan_later HF1 hK2⟩⟩
  case pos =>
  refine (VC _ B p lo tg v L nx A m d HW1 h0 (by omega) HB1.ch (by omega)).mono ?_
  rintro e w2 ⟨rfl, v2, hW2, hF2⟩
  have hv2 := fun k hk => (hW2.own k hk).1
  have hB2 := HB1.fr hpB hv0 hF2
  obtain ⟨a0, a1, a2, a3⟩ := hB2.t2
  have hkl2 := hB2.kl
  have HW := hid hW2
  have HB := hid hB2
  have HF := hid (HF1.trans hF2)
  clear HW1 HB1 HF1 hW2 hF2 hB2
  go_wp2_with fail
  rw [rounds_succ]
  go_wp2_with fail
  clear a0 a1 a2 a3
  have hk1 := Kt.alloc w2 (.cells (trC 36 ⟨#[]⟩ (some ⟨bd, 0, none⟩) 1 1) 25)
  have HW1 := HW.out.keep hk1
  have HB1 := HB.out.no hk1
  have HF1 := HF.out.no hk1
  clear HW HB HF hk1
  have hlen2 : (L ++ chain nx n).length = L.length + n + 1 := by rw [List.length_append, chain_len]; omega
  refine (do_any n _ B p lo tg v2 (L ++ chain nx n) (nx + n + 1) bd A m d HW1 (by omega) (by omega) HB1.dB HB1.dl HB1.td HB1.ch (by omega)).mono ?_
  rintro e w3 (⟨hc2, rfl, v3, hW3, hF3⟩ | ⟨hc2, rfl, hK3⟩)
  case inr => exact ⟨rfl, .inr ⟨by omega, rfl, pan_later HF1 hK3⟩⟩
  have hv3 := fun k hk => (hW3.own k hk).1
  have hB3 := HB1.fr hpB hv2 hF3
  obtain ⟨a0, a1, a2, a3⟩ := hB3.t3
  have hkl3 := hB3.kl
  have HW := hid hW3
  have HB := hid hB3
  have HF := hid (HF1.trans hF3)
  clear HW1 HB1 HF1 hW3 hF3 hB3
  go_wp2_with fail
  rw [rounds_succ]
  go_wp2_with fail
  clear a0 a1 a2 a3
  have hk1 := Kt.alloc w3 (.cells (trC 20 ⟨#[55]⟩ none 0 0) 25)
  have HW1 := HW.out.keep hk1
  have HF1 := HF.out.no hk1
  clear HW HB HF hk1
  have hlen3 : (L ++ chain nx n ++ chain (nx + n + 1) n).length = L.length + 2 * n + 2 := by rw [List.length_append, hlen2, chain_len]; omega
  by_cases hc3 : L.length + 2 * n + 3 ≤ 4000
  case neg =>
    refine (value_int_pan _ B p lo tg v3 _ (nx + n + 1 + n + 1) 55 (.inr (.inr rfl)) HW1 (by omega) (by omega) (by omega)).mono ?_
    rintro e w4 ⟨rfl, hK4⟩
    exact ⟨rfl, .inr ⟨by omega, rfl, pan_later HF1 hK4⟩⟩
  case pos =>
  refine (value_int _ B p lo tg v3 _ (nx + n + 1 + n + 1) 55 (.inr (.inr rfl)) HW1 (by omega) (by omega) (by omega)).mono ?_
  rintro e w4 ⟨rfl, v4, hW4, hF4⟩
  have HW := hid hW4
  have HF := hid (HF1.trans hF4)
  clear HW1 HF1 hW4 hF4
  go_wp2_with fail
  rw [rounds_succ]
  go_wp2
  go_returns
  have e1 : nx + n + 1 + n + 1 = nx + 2 * n + 2 := by omega
  have hW4 := HW.out
  rw [e1] at hW4
  refine .inl ⟨hc3, ?_, v4, ?_, HF.out⟩
  · rw [e1]; rfl
  · rw [show nx + 2 * n + 3 = nx + 2 * n + 2 + 1 by omega]; exact hW4
end Go.Proofs.YtpbbnkpplcnaoaaGreatDoor
