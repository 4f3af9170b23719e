/- LowerLong: the calls of trees without calls: the document's. -/
import Derived.Test.YtpbbnkpplcnaoaaGreatDoorOJ
set_option linter.unusedVariables false
set_option linter.unusedSimpArgs false
namespace Go.Proofs.YtpbbnkpplcnaoaaGreatDoor
open Go.RowKit

/-- the document's calls of a tree are none -/
def CalC (w : World) (k : Int) (s : ByteArray) (A : Option Addr) (m d : Nat) : Prop :=
  ∀ w1, Kt No w w1 → Calls Tryz.prog 28 #[.slice none 0 0, trV k s A m d, .slice none 0 0, .slice none 0 0] w1 (fun e w' => e = .returned (.slice none 0 0) ∧ Kt No w1 w')

set_option maxRecDepth 100000 in
set_option maxHeartbeats 8000000 in
theorem cal_0_20 (w : World) (s : ByteArray) :
    CalC w 20 s none 0 0 := by
  intro w0 hk0
  have ha := Kt.alloc w0 (.cells #[.int .i64 20, .string s, .int .i64 0, .slice none 0 0] 25)
  have hs0 : (w0.alloc (.cells #[.int .i64 20, .string s, .int .i64 0, .slice none 0 0] 25)).heap.size = w0.heap.size + 1 := by simp
  have c0 := hid (heap_alloc_new w0 (.cells #[.int .i64 20, .string s, .int .i64 0, .slice none 0 0] 25))
  obtain ⟨x0, x1, x2, x3⟩ := trBox (w' := (w0.alloc (.cells #[.int .i64 20, .string s, .int .i64 0, .slice none 0 0] 25))) c0.out rfl
  simp only [Nat.zero_add] at x0 x1 x2 x3
  have HK := hid ha
  have HK0 := hid hk0
  clear ha hk0
  go_enter Tryz.func28, Tryz.ntmps28
  go_wp2_with fail
  refine wp_loop_rounds 1 ?_
  rw [rounds_succ]
  go_wp2
  go_returns
  exact ⟨rfl, HK.out⟩

set_option maxRecDepth 100000 in
set_option maxHeartbeats 8000000 in
theorem cal_1_27 (w : World) (s : ByteArray) (b : Nat) (hb : b < w.heap.size)
    (k0 : Int) (s0 : ByteArray) (A0 : Option Addr) (m0 d0 : Nat) (T0 : TrAt w b 0 k0 s0 A0 m0 d0) (V0 : CalC w k0 s0 A0 m0 d0) :
    CalC w 27 s (some ⟨b, 0, none⟩) 1 1 := by
  intro w0 hk0
  have ha := Kt.alloc w0 (.cells #[.int .i64 27, .string s, .int .i64 0, .slice (some ⟨b, 0, none⟩) 1 1] 25)
  have hs0 : (w0.alloc (.cells #[.int .i64 27, .string s, .int .i64 0, .slice (some ⟨b, 0, none⟩) 1 1] 25)).heap.size = w0.heap.size + 1 := by simp
  have c0 := hid (heap_alloc_new w0 (.cells #[.int .i64 27, .string s, .int .i64 0, .slice (some ⟨b, 0, none⟩) 1 1] 25))
  obtain ⟨x0, x1, x2, x3⟩ := trBox (w' := (w0.alloc (.cells #[.int .i64 27, .string s, .int .i64 0, .slice (some ⟨b, 0, none⟩) 1 1] 25))) c0.out rfl
  simp only [Nat.zero_add] at x0 x1 x2 x3
  have hb0 : b < w0.heap.size := Nat.lt_of_lt_of_le hb hk0.size
  have T0 := hid (T0.keep fun q hq => hk0.cell (by omega) (fun h => h))
  have V0 := hid V0
  have HK := hid ha
  have HK0 := hid hk0
  clear ha hk0
  go_enter Tryz.func28, Tryz.ntmps28
  go_wp2_with fail
  refine wp_loop_rounds 2 ?_
  obtain ⟨y0, y1, y2, y3⟩ := T0.out.keep (w' := (w0.alloc (.cells #[.int .i64 27, .string s, .int .i64 0, .slice (some ⟨b, 0, none⟩) 1 1] 25))) fun q hq => HK.out.cell (by omega) (fun h => h)
  simp only [Nat.zero_add, Nat.reduceAdd] at y0 y1 y2 y3
  have hlb : b < ((w0.alloc (.cells #[.int .i64 27, .string s, .int .i64 0, .slice (some ⟨b, 0, none⟩) 1 1] 25))).heap.size := by omega
  rw [rounds_succ]
  go_wp2_with fail
  refine (V0.out _ (HK0.out.trans HK.out)).mono ?_
  rintro e W0 ⟨rfl, hK⟩
  have HKn := hid (HK.out.trans hK)
  have hsn := hK.size
  have cn := hid ((hK.block w0.heap.size (by omega) (fun h => h)).trans c0.out)
  clear x0 x1 x2 x3 y0 y1 y2 y3 hK HK c0 hlb
  have HK := HKn
  have c0 := cn
  clear HKn cn
  obtain ⟨x0, x1, x2, x3⟩ := trBox (w' := W0) c0.out rfl
  simp only [Nat.zero_add] at x0 x1 x2 x3
  have hlt : w0.heap.size < W0.heap.size := by omega
  go_wp2_with fail
  rw [rounds_succ]
  go_wp2
  go_returns
  exact ⟨rfl, HK.out⟩

set_option maxRecDepth 100000 in
set_option maxHeartbeats 8000000 in
theorem cal_1_36 (w : World) (s : ByteArray) (b : Nat) (hb : b < w.heap.size)
    (k0 : Int) (s0 : ByteArray) (A0 : Option Addr) (m0 d0 : Nat) (T0 : TrAt w b 0 k0 s0 A0 m0 d0) (V0 : CalC w k0 s0 A0 m0 d0) :
    CalC w 36 s (some ⟨b, 0, none⟩) 1 1 := by
  intro w0 hk0
  have ha := Kt.alloc w0 (.cells #[.int .i64 36, .string s, .int .i64 0, .slice (some ⟨b, 0, none⟩) 1 1] 25)
  have hs0 : (w0.alloc (.cells #[.int .i64 36, .string s, .int .i64 0, .slice (some ⟨b, 0, none⟩) 1 1] 25)).heap.size = w0.heap.size + 1 := by simp
  have c0 := hid (heap_alloc_new w0 (.cells #[.int .i64 36, .string s, .int .i64 0, .slice (some ⟨b, 0, none⟩) 1 1] 25))
  obtain ⟨x0, x1, x2, x3⟩ := trBox (w' := (w0.alloc (.cells #[.int .i64 36, .string s, .int .i64 0, .slice (some ⟨b, 0, none⟩) 1 1] 25))) c0.out rfl
  simp only [Nat.zero_add] at x0 x1 x2 x3
  have hb0 : b < w0.heap.size := Nat.lt_of_lt_of_le hb hk0.size
  have T0 := hid (T0.keep fun q hq => hk0.cell (by omega) (fun h => h))
  have V0 := hid V0
  have HK := hid ha
  have HK0 := hid hk0
  clear ha hk0
  go_enter Tryz.func28, Tryz.ntmps28
  go_wp2_with fail
  refine wp_loop_rounds 2 ?_
  obtain ⟨y0, y1, y2, y3⟩ := T0.out.keep (w' := (w0.alloc (.cells #[.int .i64 36, .string s, .int .i64 0, .slice (some ⟨b, 0, none⟩) 1 1] 25))) fun q hq => HK.out.cell (by omega) (fun h => h)
  simp only [Nat.zero_add, Nat.reduceAdd] at y0 y1 y2 y3
  have hlb : b < ((w0.alloc (.cells #[.int .i64 36, .string s, .int .i64 0, .slice (some ⟨b, 0, none⟩) 1 1] 25))).heap.size := by omega
  rw [rounds_succ]
  go_wp2_with fail
  refine (V0.out _ (HK0.out.trans HK.out)).mono ?_
  rintro e W0 ⟨rfl, hK⟩
  have HKn := hid (HK.out.trans hK)
  have hsn := hK.size
  have cn := hid ((hK.block w0.heap.size (by omega) (fun h => h)).trans c0.out)
  clear x0 x1 x2 x3 y0 y1 y2 y3 hK HK c0 hlb
  have HK := HKn
  have c0 := cn
  clear HKn cn
  obtain ⟨x0, x1, x2, x3⟩ := trBox (w' := W0) c0.out rfl
  simp only [Nat.zero_add] at x0 x1 x2 x3
  have hlt : w0.heap.size < W0.heap.size := by omega
  go_wp2_with fail
  rw [rounds_succ]
  go_wp2
  go_returns
  exact ⟨rfl, HK.out⟩

set_option maxRecDepth 100000 in
set_option maxHeartbeats 8000000 in
theorem cal_3_30 (w : World) (s : ByteArray) (b : Nat) (hb : b < w.heap.size)
    (k0 : Int) (s0 : ByteArray) (A0 : Option Addr) (m0 d0 : Nat) (T0 : TrAt w b 0 k0 s0 A0 m0 d0) (V0 : CalC w k0 s0 A0 m0 d0)
    (k1 : Int) (s1 : ByteArray) (A1 : Option Addr) (m1 d1 : Nat) (T1 : TrAt w b 4 k1 s1 A1 m1 d1) (V1 : CalC w k1 s1 A1 m1 d1)
    (k2 : Int) (s2 : ByteArray) (A2 : Option Addr) (m2 d2 : Nat) (T2 : TrAt w b 8 k2 s2 A2 m2 d2) (V2 : CalC w k2 s2 A2 m2 d2) :
    CalC w 30 s (some ⟨b, 0, none⟩) 3 3 := by
  intro w0 hk0
  have ha := Kt.alloc w0 (.cells #[.int .i64 30, .string s, .int .i64 0, .slice (some ⟨b, 0, none⟩) 3 3] 25)
  have hs0 : (w0.alloc (.cells #[.int .i64 30, .string s, .int .i64 0, .slice (some ⟨b, 0, none⟩) 3 3] 25)).heap.size = w0.heap.size + 1 := by simp
  have c0 := hid (heap_alloc_new w0 (.cells #[.int .i64 30, .string s, .int .i64 0, .slice (some ⟨b, 0, none⟩) 3 3] 25))
  obtain ⟨x0, x1, x2, x3⟩ := trBox (w' := (w0.alloc (.cells #[.int .i64 30, .string s, .int .i64 0, .slice (some ⟨b, 0, none⟩) 3 3] 25))) c0.out rfl
  simp only [Nat.zero_add] at x0 x1 x2 x3
  have hb0 : b < w0.heap.size := Nat.lt_of_lt_of_le hb hk0.size
  have T0 := hid (T0.keep fun q hq => hk0.cell (by omega) (fun h => h))
  have V0 := hid V0
  have T1 := hid (T1.keep fun q hq => hk0.cell (by omega) (fun h => h))
  have V1 := hid V1
  have T2 := hid (T2.keep fun q hq => hk0.cell (by omega) (fun h => h))
  have V2 := hid V2
  have HK := hid ha
  have HK0 := hid hk0
  clear ha hk0
  go_enter Tryz.func28, Tryz.ntmps28
  go_wp2_with fail
  refine wp_loop_rounds 4 ?_
  obtain ⟨y0, y1, y2, y3⟩ := T0.out.keep (w' := (w0.alloc (.cells #[.int .i64 30, .string s, .int .i64 0, .slice (some ⟨b, 0, none⟩) 3 3] 25))) fun q hq => HK.out.cell (by omega) (fun h => h)
  simp only [Nat.zero_add, Nat.reduceAdd] at y0 y1 y2 y3
  have hlb : b < ((w0.alloc (.cells #[.int .i64 30, .string s, .int .i64 0, .slice (some ⟨b, 0, none⟩) 3 3] 25))).heap.size := by omega
  rw [rounds_succ]
  go_wp2_with fail
  refine (V0.out _ (HK0.out.trans HK.out)).mono ?_
  rintro e W0 ⟨rfl, hK⟩
  have HKn := hid (HK.out.trans hK)
  have hsn := hK.size
  have cn := hid ((hK.block w0.heap.size (by omega) (fun h => h)).trans c0.out)
  clear x0 x1 x2 x3 y0 y1 y2 y3 hK HK c0 hlb
  have HK := HKn
  have c0 := cn
  clear HKn cn
  obtain ⟨x0, x1, x2, x3⟩ := trBox (w' := W0) c0.out rfl
  simp only [Nat.zero_add] at x0 x1 x2 x3
  have hlt : w0.heap.size < W0.heap.size := by omega
  go_wp2_with fail
  obtain ⟨y0, y1, y2, y3⟩ := T1.out.keep (w' := W0) fun q hq => HK.out.cell (by omega) (fun h => h)
  simp only [Nat.zero_add, Nat.reduceAdd] at y0 y1 y2 y3
  have hlb : b < (W0).heap.size := by omega
  rw [rounds_succ]
  go_wp2_with fail
  refine (V1.out _ (HK0.out.trans HK.out)).mono ?_
  rintro e W1 ⟨rfl, hK⟩
  have HKn := hid (HK.out.trans hK)
  have hsn := hK.size
  have cn := hid ((hK.block w0.heap.size (by omega) (fun h => h)).trans c0.out)
  clear x0 x1 x2 x3 y0 y1 y2 y3 hK HK c0 hlb
  have HK := HKn
  have c0 := cn
  clear HKn cn
  obtain ⟨x0, x1, x2, x3⟩ := trBox (w' := W1) c0.out rfl
  simp only [Nat.zero_add] at x0 x1 x2 x3
  have hlt : w0.heap.size < W1.heap.size := by omega
  go_wp2_with fail
  obtain ⟨y0, y1, y2, y3⟩ := T2.out.keep (w' := W1) fun q hq => HK.out.cell (by omega) (fun h => h)
  simp only [Nat.zero_add, Nat.reduceAdd] at y0 y1 y2 y3
  have hlb : b < (W1).heap.size := by omega
  rw [rounds_succ]
  go_wp2_with fail
  refine (V2.out _ (HK0.out.trans HK.out)).mono ?_
  rintro e W2 ⟨rfl, hK⟩
  have HKn := hid (HK.out.trans hK)
  have hsn := hK.size
  have cn := hid ((hK.block w0.heap.size (by omega) (fun h => h)).trans c0.out)
  clear x0 x1 x2 x3 y0 y1 y2 y3 hK HK c0 hlb
  have HK := HKn
  have c0 := cn
  clear HKn cn
  obtain ⟨x0, x1, x2, x3⟩ := trBox (w' := W2) c0.out rfl
  simp only [Nat.zero_add] at x0 x1 x2 x3
  have hlt : w0.heap.size < W2.heap.size := by omega
  go_wp2_with fail
  rw [rounds_succ]
  go_wp2
  go_returns
  exact ⟨rfl, HK.out⟩

theorem cal_chain (w : World) (B : Nat) : ∀ (n : Nat) (A : Option Addr) (m d : Nat), Ch w B n A m d → CalC w (kd n) (tx n) A m d
  | 0, _, _, _, ⟨rfl, rfl, rfl⟩ => cal_0_20 w ⟨#[49]⟩
  | n + 1, _, _, _, ⟨b, A', m', d', rfl, rfl, rfl, _, hl, hT, hC⟩ => cal_1_27 w ⟨#[45]⟩ b hl _ _ _ _ _ hT (cal_chain w B n A' m' d' hC)
theorem cal_block (w : World) (B n : Nat) (bk bd : Nat) (A : Option Addr) (m d : Nat) (hB : Blk w B n bk bd A m d) :
    CalC w 30 ⟨#[]⟩ (some ⟨bk, 0, none⟩) 3 3 :=
  cal_3_30 w ⟨#[]⟩ bk hB.kl _ _ _ _ _ hB.t1 (cal_chain w B n A m d hB.ch) _ _ _ _ _ hB.t2
    (cal_1_36 w ⟨#[]⟩ bd hB.dl _ _ _ _ _ hB.td (cal_chain w B n A m d hB.ch)) _ _ _ _ _ hB.t3
    (cal_0_20 w ⟨#[55]⟩)

set_option maxRecDepth 100000 in
set_option maxHeartbeats 8000000 in
theorem callsS_t (w : World) (bt : Nat) (hl : bt < w.heap.size) (bk bd n : Nat) (A : Option Addr) (m d : Nat) (h1 : TrAt w bt (3 * 4) 30 ⟨#[]⟩ (some ⟨bk, 0, none⟩) 3 3) (hB : Blk w w.heap.size n bk bd A m d) :
    Calls Tryz.prog 10 #[trV 4 ⟨#[]⟩ (some ⟨bt, 0, none⟩) 4 4, .slice none 0 0, .slice none 0 0] w (fun e w' => e = .returned (.slice none 0 0) ∧ Kt No w w') := by
  have hk0 := Kt.alloc w (.cells #[.int .i64 4, .string ⟨#[]⟩, .int .i64 0, .slice (some ⟨bt, 0, none⟩) 4 4] 25)
  have hs0 : (w.alloc (.cells #[.int .i64 4, .string ⟨#[]⟩, .int .i64 0, .slice (some ⟨bt, 0, none⟩) 4 4] 25)).heap.size = w.heap.size + 1 := by simp
  go_enter Tryz.func10, Tryz.ntmps10
  go_wp2_with fail
  refine (last_ok _ bt (by omega) 30 ⟨#[]⟩ (some ⟨bk, 0, none⟩) 3 3 (h1.keep fun q hq => hk0.cell (by omega) (fun h => h))).mono ?_
  rintro e w1 ⟨rfl, hK1⟩
  have hk1 := hid (hk0.trans hK1)
  have hV := hid (cal_block w w.heap.size n bk bd A m d hB)
  have ha := hid (Kt.alloc w1 (.cells #[.int .i64 30, .string ⟨#[]⟩, .int .i64 0, .slice (some ⟨bk, 0, none⟩) 3 3] 25))
  clear hk0 hK1 h1 hB hs0
  go_wp2_with fail
  refine (hV.out _ (hk1.out.trans ha.out)).mono ?_
  rintro e w2 ⟨rfl, hK2⟩
  have hk2 := hid ((hk1.out.trans ha.out).trans hK2)
  clear hK2
  go_wp2
  go_returns
  exact ⟨rfl, hk2.out⟩

set_option maxHeartbeats 4000000 in
theorem same_none (w : World) : Calls Tryz.prog 22 #[.agg #[.string (ByteArray.mk #[]), .slice none 0 0], .agg #[.string (ByteArray.mk #[]), .slice none 0 0]] w (fun e w' => e = .returned (.bool true) ∧ Kt No w w') := by
  go_enter Tryz.func22, Tryz.ntmps22
  go_wp2_with fail
  refine wp_loop_rounds 1 ?_
  rw [rounds_succ]
  go_wp2
  go_returns
  exact ⟨rfl, (Kt.alloc _ _).trans (Kt.alloc _ _)⟩
set_option maxHeartbeats 4000000 in
theorem sameL_none (w : World) : Calls Tryz.prog 8 #[.slice none 0 0, .slice none 0 0] w (fun e w' => e = .returned (.bool true) ∧ Kt No w w') := by
  go_enter Tryz.func8, Tryz.ntmps8
  go_wp2_with fail
  refine (same_none w).mono ?_
  rintro e w1 ⟨rfl, hK1⟩
  go_wp2
  go_returns
  exact ⟨rfl, hK1⟩
end Go.Proofs.YtpbbnkpplcnaoaaGreatDoor
