/- LowerLong: a sum of two numbers; the sanity check. -/
import Derived.Test.YtpbbnkpplcnaoaaGreatDoorOL
set_option linter.unusedVariables false
set_option linter.unusedSimpArgs false
namespace Go.Proofs.YtpbbnkpplcnaoaaGreatDoor
open Go.RowKit

set_option maxRecDepth 100000 in
set_option maxHeartbeats 8000000 in
theorem binary_12 (w : World) (B p : Nat) (lo tg v : Value) (b : Nat) (h : Wr w B p lo tg v [] 0) (hbB : b < B) (hbl : b < w.heap.size) (hT1 : TrAt w b 0 20 ⟨#[49]⟩ none 0 0) (hT2 : TrAt w b 4 20 ⟨#[50]⟩ none 0 0) :
    Calls Tryz.prog 67 #[.pointer (some ⟨p, 0, none⟩), trV 28 ⟨#[43]⟩ (some ⟨b, 0, none⟩) 2 2] w (fun e w' => e = .returned (.int .i64 2) ∧ ∃ v', Wr w' B p lo tg v' [⟨1, 0, 0, 1⟩, ⟨1, 1, 0, 2⟩, ⟨3, 2, 0, 1⟩] 3 ∧ Fr p v w v' w') := by
  have hk0 := Kt.alloc w (.cells (trC 28 ⟨#[43]⟩ (some ⟨b, 0, none⟩) 2 2) 25)
  have hz := h.keep hk0
  have hb0 := heap_alloc_new w (.cells (trC 28 ⟨#[43]⟩ (some ⟨b, 0, none⟩) 2 2) 25)
  have hs0 : (w.alloc (.cells (trC 28 ⟨#[43]⟩ (some ⟨b, 0, none⟩) 2 2) 25)).heap.size = w.heap.size + 1 := by simp
  have hp := h.lt
  have hv := fun k hk => (h.own k hk).2
  have hv0 := fun k hk => (h.own k hk).1
  have hpB := h.2.1
  have hT0 : TrAt (w.alloc (.cells (trC 28 ⟨#[43]⟩ (some ⟨b, 0, none⟩) 2 2) 25)) b (0 * 4) 20 ⟨#[49]⟩ none 0 0 := hT1.keep (fun q hq => hk0.cell (by omega) (fun h => h))
  have hT3 := hid (hT2.keep (w' := w.alloc (.cells (trC 28 ⟨#[43]⟩ (some ⟨b, 0, none⟩) 2 2) 25)) (fun q hq => hk0.cell (by omega) (fun h => h)))
  clear h hT1 hT2
  go_enter Tryz.func67, Tryz.ntmps67
  go_wp2_with fail
  refine (kid_at _ _ _ b 2 2 0 20 ⟨#[49]⟩ none 0 0 (by omega) (by omega) hT0 (by rw [hs0]; omega)).mono ?_
  rintro e w1 ⟨rfl, hK1⟩
  have hb1 := (hK1.block w.heap.size (by rw [hs0]; omega) (fun h => h)).trans hb0
  have hW1 := hz.keep hK1
  have hT4 := hid (hT3.out.keep (w' := w1) (fun q hq => hK1.cell (by rw [hs0]; omega) (fun h => h)))
  have hs1 := hK1.size
  rw [hs0] at hs1
  have hF1 : Fr p v w v w1 := Fr.of (hk0.trans hK1)
  clear hk0 hz hb0 hs0 hT0 hK1 hT3
  go_wp2_with fail
  refine (value_int _ B p lo tg v [] 0 49 (.inl rfl) hW1 (by omega) (by omega) (by decide)).mono ?_
  rintro e w2 ⟨rfl, v2, hW2, hF2⟩
  have hb2 := (hF2.block (b := w.heap.size) (by omega) (by omega) (own_lt_ne hv)).trans hb1
  have hT5 := hid (hT4.out.fr hbB (by omega) hpB hv0 hF2)
  have hF := hid (hF1.trans hF2)
  have hs2 := Nat.le_trans hs1 hF2.size
  have hv2 := fun k hk => (hW2.own k hk).2
  have hv20 := fun k hk => (hW2.own k hk).1
  obtain ⟨c0, c1, c2, c3⟩ := trBox (w' := w2) hb2 rfl
  have HW := hid hW2
  have hlt : w.heap.size < w2.heap.size := by omega
  clear hb1 hW1 hF1 hF2 hW2 hT4
  go_wp2_with fail
  refine (kid_at _ _ _ b 2 2 1 20 ⟨#[50]⟩ none 0 0 (by omega) (by omega) hT5.out (by omega)).mono ?_
  rintro e w3 ⟨rfl, hK3⟩
  have HW3 := HW.out.keep hK3
  have hF3 := hid (hF.out.no hK3)
  clear c0 c1 c2 c3 HW hK3 hT5 hF
  go_wp2_with fail
  refine (value_int _ B p lo tg v2 _ 1 50 (.inr (.inl rfl)) HW3 (by omega) (by omega) (by simp)).mono ?_
  rintro e w4 ⟨rfl, v4, hW4, hF4⟩
  have HW4 := hid hW4
  have hFF := hid (hF3.out.trans hF4)
  clear HW3 hW4 hF4 hF3
  go_wp2_with fail
  refine (result_fr _ B p lo tg v4 _ 2 3 0 0 1 HW4.out (by omega) (by omega) (by simp)).mono ?_
  rintro e w5 ⟨rfl, v5, hW5, hF5⟩
  have hF := hFF.out.trans hF5
  clear hF5 HW4 hFF
  go_wp2
  go_returns
  exact ⟨rfl, v5, hW5, hF⟩

set_option maxRecDepth 100000 in
set_option maxHeartbeats 8000000 in
theorem value_12 (w : World) (B p : Nat) (lo tg v : Value) (b : Nat) (h : Wr w B p lo tg v [] 0) (hbB : b < B) (hbl : b < w.heap.size) (hT1 : TrAt w b 0 20 ⟨#[49]⟩ none 0 0) (hT2 : TrAt w b 4 20 ⟨#[50]⟩ none 0 0) :
    Calls Tryz.prog 40 #[.pointer (some ⟨p, 0, none⟩), trV 28 ⟨#[43]⟩ (some ⟨b, 0, none⟩) 2 2] w (OutV B p lo tg v [⟨1, 0, 0, 1⟩, ⟨1, 1, 0, 2⟩, ⟨3, 2, 0, 1⟩] 2 3 w) := by
  have hk0 := Kt.alloc w (.cells (trC 28 ⟨#[43]⟩ (some ⟨b, 0, none⟩) 2 2) 25)
  have hz := h.keep hk0
  have hs0 : (w.alloc (.cells (trC 28 ⟨#[43]⟩ (some ⟨b, 0, none⟩) 2 2) 25)).heap.size = w.heap.size + 1 := by simp
  go_enter Tryz.func40, Tryz.ntmps40
  go_wp2_with fail
  refine (binary_12 _ B p lo tg v b hz hbB (by omega) (hT1.keep (fun q hq => hk0.cell (by omega) (fun h => h))) (hT2.keep (fun q hq => hk0.cell (by omega) (fun h => h)))).mono ?_
  rintro e w2 ⟨rfl, v2, hW2, hF2⟩
  have hF := (Fr.of (p := p) (v := v) hk0).trans hF2
  clear hk0 hz hs0 hF2
  go_wp2
  go_returns
  exact .inl ⟨by decide, rfl, v2, hW2, hF⟩

set_option maxRecDepth 100000 in
set_option maxHeartbeats 8000000 in
theorem awake_ok (w : World) : Calls Tryz.prog 5 #[] w (fun e w' => e = .returned (.bool true) ∧ Kt No w w') := by
  go_enter Tryz.func5, Tryz.ntmps5
  go_wp2_with fail
  generalize hW0 : World.alloc (World.alloc (World.alloc w _) _) _ = W0
  have hk0 : Kt No w W0 := by subst hW0; exact ((Kt.alloc _ _).trans (Kt.alloc _ _)).trans (Kt.alloc _ _)
  have hs0 : W0.heap.size = w.heap.size + 3 := by subst hW0; simp
  have b0 : W0.heap[w.heap.size]? = some (.cells #[.int .i64 20, .string ⟨#[49]⟩, .int .i64 0, .slice none 0 0, .int .i64 20, .string ⟨#[50]⟩, .int .i64 0, .slice none 0 0] 25 (0, 0)) := by
    subst hW0
    simp only [World.alloc, Array.getElem?_push, Array.size_push]
    rw [if_neg (by omega), if_neg (by omega), if_pos trivial]
  have b1 : W0.heap[w.heap.size + 1]? = some (.cells #[.int .i64 10, .string ⟨#[]⟩, .int .i64 0, .slice none 0 0, .int .i64 12, .string ⟨#[]⟩, .int .i64 0, .slice none 0 0, .int .i64 15, .string ⟨#[]⟩, .int .i64 0, .slice none 0 0, .int .i64 28, .string ⟨#[43]⟩, .int .i64 0, .slice (some ⟨w.heap.size, 0, none⟩) 2 2] 25 (0, 0)) := by
    subst hW0
    simp only [World.alloc, Array.getElem?_push, Array.size_push]
    rw [if_neg (by omega), if_pos trivial]
  clear hW0
  have t1 : TrAt W0 (w.heap.size + 1) (1 * 4) 12 ⟨#[]⟩ none 0 0 := ⟨by rw [cell_of_row _ _ _ _ _ _ b1]; rfl, by rw [cell_of_row _ _ _ _ _ _ b1]; rfl, by rw [cell_of_row _ _ _ _ _ _ b1]; rfl, by rw [cell_of_row _ _ _ _ _ _ b1]; rfl⟩
  have t3 : TrAt W0 (w.heap.size + 1) (3 * 4) 28 ⟨#[43]⟩ (some ⟨w.heap.size, 0, none⟩) 2 2 := ⟨by rw [cell_of_row _ _ _ _ _ _ b1]; rfl, by rw [cell_of_row _ _ _ _ _ _ b1]; rfl, by rw [cell_of_row _ _ _ _ _ _ b1]; rfl, by rw [cell_of_row _ _ _ _ _ _ b1]; rfl⟩
  have u1 : TrAt W0 w.heap.size 0 20 ⟨#[49]⟩ none 0 0 := ⟨by rw [cell_of_row _ _ _ _ _ _ b0]; rfl, by rw [cell_of_row _ _ _ _ _ _ b0]; rfl, by rw [cell_of_row _ _ _ _ _ _ b0]; rfl, by rw [cell_of_row _ _ _ _ _ _ b0]; rfl⟩
  have u2 : TrAt W0 w.heap.size 4 20 ⟨#[50]⟩ none 0 0 := ⟨by rw [cell_of_row _ _ _ _ _ _ b0]; rfl, by rw [cell_of_row _ _ _ _ _ _ b0]; rfl, by rw [cell_of_row _ _ _ _ _ _ b0]; rfl, by rw [cell_of_row _ _ _ _ _ _ b0]; rfl⟩
  clear b0 b1
  refine (body_none W0 (w.heap.size + 1) (by omega) t1 28 ⟨#[43]⟩ (some ⟨w.heap.size, 0, none⟩) 2 2 t3 [⟨1, 0, 0, 1⟩, ⟨1, 1, 0, 2⟩, ⟨3, 2, 0, 1⟩] 2 3 ?_).mono ?_
  · intro w1 p lo tg v hk hp hW
    have := hk.size
    exact value_12 w1 _ p lo tg v w.heap.size hW (by omega) (by omega) (u1.keep fun q hq => hk.cell (by omega) (fun h => h)) (u2.keep fun q hq => hk.cell (by omega) (fun h => h))
  rintro e w1 ⟨v1, hK1, ⟨_, rfl, ho⟩ | ⟨hb, _⟩⟩
  case inr => exact absurd hb (by decide)
  rcases ho with ⟨_, hnil⟩ | ⟨g, off, n, cap, cs, rfl, hl, _, hg, hnc, hc, hsz, hcs⟩
  · exact absurd hnil (by decide)
  have hn : n = 4 := by have : 24 = n * 6 := hl; omega
  subst hn
  have hkk := hid (hk0.trans hK1)
  have q12 := hcs 12 (.int .i64 3) rfl
  have q13 := hcs 13 (.int .i64 2) rfl
  have q18 := hcs 18 (.int .i64 18) rfl
  have hgl := hg.lt
  rw [show max (3 : Int) 1 = 3 by decide]
  have ha := Kt.alloc w1 (.cells #[.int .i64 0, .int .i64 3, .slice (some ⟨g, off, none⟩) 4 cap] 31)
  have z12 : (w1.alloc (.cells #[.int .i64 0, .int .i64 3, .slice (some ⟨g, off, none⟩) 4 cap] 31)).cell? ⟨g, off + 12, none⟩ = some (.int .i64 3) := (ha.cell hgl (fun h => h)).trans ((hg.cell _).trans q12)
  have z13 : (w1.alloc (.cells #[.int .i64 0, .int .i64 3, .slice (some ⟨g, off, none⟩) 4 cap] 31)).cell? ⟨g, off + 12 + 1, none⟩ = some (.int .i64 2) := (ha.cell hgl (fun h => h)).trans ((hg.cell _).trans q13)
  have z18 : (w1.alloc (.cells #[.int .i64 0, .int .i64 3, .slice (some ⟨g, off, none⟩) 4 cap] 31)).cell? ⟨g, off + 18, none⟩ = some (.int .i64 18) := (ha.cell hgl (fun h => h)).trans ((hg.cell _).trans q18)
  have HA := hid (hkk.out.trans ha)
  clear ha hcs q12 q13 q18 hg hk0 hK1 hkk t1 t3 u1 u2 hc hsz hl
  go_wp2_with fail
  go_returns
  exact ⟨rfl, HA.out⟩
end Go.Proofs.YtpbbnkpplcnaoaaGreatDoor
