/- LowerLong: the calls of trees without calls: the program's closure. -/
import Derived.Test.YtpbbnkpplcnaoaaGreatDoorOH
import Derived.Test.YtpbbnkpplcnaoaaGreatDoorO8
import Derived.Test.YtpbbnkpplcnaoaaGreatDoorOG
set_option linter.unusedVariables false
set_option linter.unusedSimpArgs false
namespace Go.Proofs.YtpbbnkpplcnaoaaGreatDoor
open Go.RowKit

/-- what the closure has caught -/
structure VEnv (w : World) (n1 n2 n3 n4 : Nat) : Prop where
  h1 : w.cell? ⟨n1, 0, none⟩ = some (.slice none 0 0)
  h2 : w.cell? ⟨n2, 0, none⟩ = some (.slice none 0 0)
  h4 : w.cell? ⟨n4, 0, none⟩ = some (.func (.func 23) #[] #[.pointer (some ⟨n1, 0, none⟩), .pointer (some ⟨n2, 0, none⟩), .pointer (some ⟨n3, 0, none⟩), .pointer (some ⟨n4, 0, none⟩)])
theorem VEnv.no {w w' : World} {n1 n2 n3 n4 : Nat} (h : VEnv w n1 n2 n3 n4) (k : Kt No w w') : VEnv w' n1 n2 n3 n4 :=
  ⟨(k.cell (World.block_lt_of_cell? _ _ h.h1) (fun h => h)).trans h.h1, (k.cell (World.block_lt_of_cell? _ _ h.h2) (fun h => h)).trans h.h2, (k.cell (World.block_lt_of_cell? _ _ h.h4) (fun h => h)).trans h.h4⟩
/-- the closure's call on a tree does nothing -/
def VisC (w : World) (n1 n2 n3 n4 : Nat) (k : Int) (s : ByteArray) (A : Option Addr) (m d : Nat) : Prop :=
  ∀ w1, Kt No w w1 → Calls Tryz.prog 23 #[trV k s A m d, .pointer (some ⟨n1, 0, none⟩), .pointer (some ⟨n2, 0, none⟩), .pointer (some ⟨n3, 0, none⟩), .pointer (some ⟨n4, 0, none⟩)] w1 (fun e w' => e = .returned (.tuple #[]) ∧ Kt No w1 w')

set_option maxRecDepth 100000 in
set_option maxHeartbeats 8000000 in
theorem visit_0_20 (w : World) (n1 n2 n3 n4 : Nat) (hv : VEnv w n1 n2 n3 n4) (s : ByteArray) (hs : Txt s) :
    VisC w n1 n2 n3 n4 20 s none 0 0 := by
  intro w0 hk0
  have hv0 := hv.no hk0
  obtain ⟨v1, v2, v4⟩ := hv0
  have hn1 := World.block_lt_of_cell? _ _ v1
  have hn2 := World.block_lt_of_cell? _ _ v2
  have hn4 := World.block_lt_of_cell? _ _ v4
  simp only at hn1 hn2 hn4
  clear hv
  go_enter Tryz.func23, Tryz.ntmps23
  go_wp2_with fail
  refine (inst_any s hs _).mono ?_
  rintro e w1 ⟨⟨ok, rfl⟩, hK1⟩
  have ha := Kt.alloc w0 (.cells (trC 20 s none 0 0) 25)
  have hs0 : (w0.alloc (.cells (trC 20 s none 0 0) 25)).heap.size = w0.heap.size + 1 := by simp
  have hs1 : w0.heap.size + 1 ≤ w1.heap.size := by have := hK1.size; simp at this; omega
  have hc := Kt.alloc w1 (.cells #[.string s, .slice none 0 0] 49)
  have hsc : (w1.alloc (.cells #[.string s, .slice none 0 0] 49)).heap.size = w1.heap.size + 1 := by simp
  have c0 := (hc.block w0.heap.size (by omega) (fun h => h)).trans ((hK1.block w0.heap.size (by simp) (fun h => h)).trans (heap_alloc_new w0 _))
  have hkw := (ha.trans hK1).trans hc
  obtain ⟨x0, x1, x2, x3⟩ := trBox (w' := w1.alloc (.cells #[.string s, .slice none 0 0] 49)) c0 rfl
  have v1 := (hkw.cell (p := ⟨n1, 0, none⟩) hn1 (fun h => h)).trans v1
  have v2 := (hkw.cell (p := ⟨n2, 0, none⟩) hn2 (fun h => h)).trans v2
  have v4 := (hkw.cell (p := ⟨n4, 0, none⟩) hn4 (fun h => h)).trans v4
  have HK := hid hkw
  clear ha hK1 hc c0 hkw hs hk0
  cases ok
  all_goals
    go_wp2_with fail
    refine wp_loop_rounds 1 ?_
    rw [rounds_succ]
    go_wp2
    go_returns
    exact ⟨rfl, HK.out⟩

set_option maxRecDepth 100000 in
set_option maxHeartbeats 8000000 in
theorem visit_1_27 (w : World) (n1 n2 n3 n4 : Nat) (hv : VEnv w n1 n2 n3 n4) (s : ByteArray) (hs : Txt s) (b : Nat) (hb : b < w.heap.size)
    (k0 : Int) (s0 : ByteArray) (A0 : Option Addr) (m0 d0 : Nat) (T0 : TrAt w b 0 k0 s0 A0 m0 d0) (V0 : VisC w n1 n2 n3 n4 k0 s0 A0 m0 d0) :
    VisC w n1 n2 n3 n4 27 s (some ⟨b, 0, none⟩) 1 1 := by
  intro w0 hk0
  have hv0 := hv.no hk0
  obtain ⟨v1, v2, v4⟩ := hv0
  have hn1 := World.block_lt_of_cell? _ _ v1
  have hn2 := World.block_lt_of_cell? _ _ v2
  have hn4 := World.block_lt_of_cell? _ _ v4
  simp only at hn1 hn2 hn4
  have hb0 : b < w0.heap.size := Nat.lt_of_lt_of_le hb hk0.size
  have T0 := hid (T0.keep fun q hq => hk0.cell (by omega) (fun h => h))
  have V0 := hid V0
  clear hv
  go_enter Tryz.func23, Tryz.ntmps23
  go_wp2_with fail
  refine (inst_any s hs _).mono ?_
  rintro e w1 ⟨⟨ok, rfl⟩, hK1⟩
  have ha := Kt.alloc w0 (.cells (trC 27 s (some ⟨b, 0, none⟩) 1 1) 25)
  have hs0 : (w0.alloc (.cells (trC 27 s (some ⟨b, 0, none⟩) 1 1) 25)).heap.size = w0.heap.size + 1 := by simp
  have hs1 : w0.heap.size + 1 ≤ w1.heap.size := by have := hK1.size; simp at this; omega
  have hc := Kt.alloc w1 (.cells #[.string s, .slice none 0 0] 49)
  have hsc : (w1.alloc (.cells #[.string s, .slice none 0 0] 49)).heap.size = w1.heap.size + 1 := by simp
  have c0 := (hc.block w0.heap.size (by omega) (fun h => h)).trans ((hK1.block w0.heap.size (by simp) (fun h => h)).trans (heap_alloc_new w0 _))
  have hkw := (ha.trans hK1).trans hc
  obtain ⟨x0, x1, x2, x3⟩ := trBox (w' := w1.alloc (.cells #[.string s, .slice none 0 0] 49)) c0 rfl
  have v1 := (hkw.cell (p := ⟨n1, 0, none⟩) hn1 (fun h => h)).trans v1
  have v2 := (hkw.cell (p := ⟨n2, 0, none⟩) hn2 (fun h => h)).trans v2
  have v4 := (hkw.cell (p := ⟨n4, 0, none⟩) hn4 (fun h => h)).trans v4
  have HK := hid hkw
  have HK0 := hid hk0
  have hlt : w0.heap.size < (w1.alloc (.cells #[.string s, .slice none 0 0] 49)).heap.size := by omega
  clear ha hK1 hc c0 hkw hs hk0
  cases ok
  all_goals
    go_wp2_with fail
    refine wp_loop_rounds 2 ?_
    obtain ⟨y0, y1, y2, y3⟩ := T0.out.keep (w' := (w1.alloc (.cells #[.string s, .slice none 0 0] 49))) fun q hq => HK.out.cell (by omega) (fun h => h)
    simp only [Nat.zero_add, Nat.reduceAdd] at y0 y1 y2 y3
    have al := Kt.alloc (w1.alloc (.cells #[.string s, .slice none 0 0] 49)) (.cells #[.int .i64 k0, .string s0, .int .i64 0, .slice A0 m0 d0] 25)
    have v4' := (al.cell (p := ⟨n4, 0, none⟩) (by show n4 < _; omega) (fun h => h)).trans v4
    have AL := hid al
    have hsz : (World.alloc (w1.alloc (.cells #[.string s, .slice none 0 0] 49)) (.cells #[.int .i64 k0, .string s0, .int .i64 0, .slice A0 m0 d0] 25)).heap.size = ((w1.alloc (.cells #[.string s, .slice none 0 0] 49))).heap.size + 1 := by simp
    clear al
    rw [rounds_succ]
    go_wp2_with fail
    refine (V0.out _ (HK0.out.trans (HK.out.trans AL.out))).mono ?_
    rintro e W0 ⟨rfl, hK⟩
    have HKn := hid (HK.out.trans (AL.out.trans hK))
    have hsn := hK.size
    have v4n := (hK.cell (p := ⟨n4, 0, none⟩) (by show n4 < _; omega) (fun h => h)).trans v4'
    clear v4' v4 y0 y1 y2 y3 hK HK AL
    have v4 := v4n
    have HK := HKn
    clear v4n HKn
    have hlt : w0.heap.size < W0.heap.size := by omega
    go_wp2_with fail
    rw [rounds_succ]
    go_wp2
    go_returns
    exact ⟨rfl, HK.out⟩

set_option maxRecDepth 100000 in
set_option maxHeartbeats 8000000 in
theorem visit_1_36 (w : World) (n1 n2 n3 n4 : Nat) (hv : VEnv w n1 n2 n3 n4) (s : ByteArray) (hs : Txt s) (b : Nat) (hb : b < w.heap.size)
    (k0 : Int) (s0 : ByteArray) (A0 : Option Addr) (m0 d0 : Nat) (T0 : TrAt w b 0 k0 s0 A0 m0 d0) (V0 : VisC w n1 n2 n3 n4 k0 s0 A0 m0 d0) :
    VisC w n1 n2 n3 n4 36 s (some ⟨b, 0, none⟩) 1 1 := by
  intro w0 hk0
  have hv0 := hv.no hk0
  obtain ⟨v1, v2, v4⟩ := hv0
  have hn1 := World.block_lt_of_cell? _ _ v1
  have hn2 := World.block_lt_of_cell? _ _ v2
  have hn4 := World.block_lt_of_cell? _ _ v4
  simp only at hn1 hn2 hn4
  have hb0 : b < w0.heap.size := Nat.lt_of_lt_of_le hb hk0.size
  have T0 := hid (T0.keep fun q hq => hk0.cell (by omega) (fun h => h))
  have V0 := hid V0
  clear hv
  go_enter Tryz.func23, Tryz.ntmps23
  go_wp2_with fail
  refine (inst_any s hs _).mono ?_
  rintro e w1 ⟨⟨ok, rfl⟩, hK1⟩
  have ha := Kt.alloc w0 (.cells (trC 36 s (some ⟨b, 0, none⟩) 1 1) 25)
  have hs0 : (w0.alloc (.cells (trC 36 s (some ⟨b, 0, none⟩) 1 1) 25)).heap.size = w0.heap.size + 1 := by simp
  have hs1 : w0.heap.size + 1 ≤ w1.heap.size := by have := hK1.size; simp at this; omega
  have hc := Kt.alloc w1 (.cells #[.string s, .slice none 0 0] 49)
  have hsc : (w1.alloc (.cells #[.string s, .slice none 0 0] 49)).heap.size = w1.heap.size + 1 := by simp
  have c0 := (hc.block w0.heap.size (by omega) (fun h => h)).trans ((hK1.block w0.heap.size (by simp) (fun h => h)).trans (heap_alloc_new w0 _))
  have hkw := (ha.trans hK1).trans hc
  obtain ⟨x0, x1, x2, x3⟩ := trBox (w' := w1.alloc (.cells #[.string s, .slice none 0 0] 49)) c0 rfl
  have v1 := (hkw.cell (p := ⟨n1, 0, none⟩) hn1 (fun h => h)).trans v1
  have v2 := (hkw.cell (p := ⟨n2, 0, none⟩) hn2 (fun h => h)).trans v2
  have v4 := (hkw.cell (p := ⟨n4, 0, none⟩) hn4 (fun h => h)).trans v4
  have HK := hid hkw
  have HK0 := hid hk0
  have hlt : w0.heap.size < (w1.alloc (.cells #[.string s, .slice none 0 0] 49)).heap.size := by omega
  clear ha hK1 hc c0 hkw hs hk0
  cases ok
  all_goals
    go_wp2_with fail
    refine wp_loop_rounds 2 ?_
    obtain ⟨y0, y1, y2, y3⟩ := T0.out.keep (w' := (w1.alloc (.cells #[.string s, .slice none 0 0] 49))) fun q hq => HK.out.cell (by omega) (fun h => h)
    simp only [Nat.zero_add, Nat.reduceAdd] at y0 y1 y2 y3
    have al := Kt.alloc (w1.alloc (.cells #[.string s, .slice none 0 0] 49)) (.cells #[.int .i64 k0, .string s0, .int .i64 0, .slice A0 m0 d0] 25)
    have v4' := (al.cell (p := ⟨n4, 0, none⟩) (by show n4 < _; omega) (fun h => h)).trans v4
    have AL := hid al
    have hsz : (World.alloc (w1.alloc (.cells #[.string s, .slice none 0 0] 49)) (.cells #[.int .i64 k0, .string s0, .int .i64 0, .slice A0 m0 d0] 25)).heap.size = ((w1.alloc (.cells #[.string s, .slice none 0 0] 49))).heap.size + 1 := by simp
    clear al
    rw [rounds_succ]
    go_wp2_with fail
    refine (V0.out _ (HK0.out.trans (HK.out.trans AL.out))).mono ?_
    rintro e W0 ⟨rfl, hK⟩
    have HKn := hid (HK.out.trans (AL.out.trans hK))
    have hsn := hK.size
    have v4n := (hK.cell (p := ⟨n4, 0, none⟩) (by show n4 < _; omega) (fun h => h)).trans v4'
    clear v4' v4 y0 y1 y2 y3 hK HK AL
    have v4 := v4n
    have HK := HKn
    clear v4n HKn
    have hlt : w0.heap.size < W0.heap.size := by omega
    go_wp2_with fail
    rw [rounds_succ]
    go_wp2
    go_returns
    exact ⟨rfl, HK.out⟩

set_option maxRecDepth 100000 in
set_option maxHeartbeats 8000000 in
theorem visit_3_30 (w : World) (n1 n2 n3 n4 : Nat) (hv : VEnv w n1 n2 n3 n4) (s : ByteArray) (hs : Txt s) (b : Nat) (hb : b < w.heap.size)
    (k0 : Int) (s0 : ByteArray) (A0 : Option Addr) (m0 d0 : Nat) (T0 : TrAt w b 0 k0 s0 A0 m0 d0) (V0 : VisC w n1 n2 n3 n4 k0 s0 A0 m0 d0)
    (k1 : Int) (s1 : ByteArray) (A1 : Option Addr) (m1 d1 : Nat) (T1 : TrAt w b 4 k1 s1 A1 m1 d1) (V1 : VisC w n1 n2 n3 n4 k1 s1 A1 m1 d1)
    (k2 : Int) (s2 : ByteArray) (A2 : Option Addr) (m2 d2 : Nat) (T2 : TrAt w b 8 k2 s2 A2 m2 d2) (V2 : VisC w n1 n2 n3 n4 k2 s2 A2 m2 d2) :
    VisC w n1 n2 n3 n4 30 s (some ⟨b, 0, none⟩) 3 3 := by
  intro w0 hk0
  have hv0 := hv.no hk0
  obtain ⟨v1, v2, v4⟩ := hv0
  have hn1 := World.block_lt_of_cell? _ _ v1
  have hn2 := World.block_lt_of_cell? _ _ v2
  have hn4 := World.block_lt_of_cell? _ _ v4
  simp only at hn1 hn2 hn4
  have hb0 : b < w0.heap.size := Nat.lt_of_lt_of_le hb hk0.size
  have T0 := hid (T0.keep fun q hq => hk0.cell (by omega) (fun h => h))
  have V0 := hid V0
  have T1 := hid (T1.keep fun q hq => hk0.cell (by omega) (fun h => h))
  have V1 := hid V1
  have T2 := hid (T2.keep fun q hq => hk0.cell (by omega) (fun h => h))
  have V2 := hid V2
  clear hv
  go_enter Tryz.func23, Tryz.ntmps23
  go_wp2_with fail
  refine (inst_any s hs _).mono ?_
  rintro e w1 ⟨⟨ok, rfl⟩, hK1⟩
  have ha := Kt.alloc w0 (.cells (trC 30 s (some ⟨b, 0, none⟩) 3 3) 25)
  have hs0 : (w0.alloc (.cells (trC 30 s (some ⟨b, 0, none⟩) 3 3) 25)).heap.size = w0.heap.size + 1 := by simp
  have hs1 : w0.heap.size + 1 ≤ w1.heap.size := by have := hK1.size; simp at this; omega
  have hc := Kt.alloc w1 (.cells #[.string s, .slice none 0 0] 49)
  have hsc : (w1.alloc (.cells #[.string s, .slice none 0 0] 49)).heap.size = w1.heap.size + 1 := by simp
  have c0 := (hc.block w0.heap.size (by omega) (fun h => h)).trans ((hK1.block w0.heap.size (by simp) (fun h => h)).trans (heap_alloc_new w0 _))
  have hkw := (ha.trans hK1).trans hc
  obtain ⟨x0, x1, x2, x3⟩ := trBox (w' := w1.alloc (.cells #[.string s, .slice none 0 0] 49)) c0 rfl
  have v1 := (hkw.cell (p := ⟨n1, 0, none⟩) hn1 (fun h => h)).trans v1
  have v2 := (hkw.cell (p := ⟨n2, 0, none⟩) hn2 (fun h => h)).trans v2
  have v4 := (hkw.cell (p := ⟨n4, 0, none⟩) hn4 (fun h => h)).trans v4
  have HK := hid hkw
  have HK0 := hid hk0
  have hlt : w0.heap.size < (w1.alloc (.cells #[.string s, .slice none 0 0] 49)).heap.size := by omega
  clear ha hK1 hc c0 hkw hs hk0
  cases ok
  all_goals
    go_wp2_with fail
    refine wp_loop_rounds 4 ?_
    obtain ⟨y0, y1, y2, y3⟩ := T0.out.keep (w' := (w1.alloc (.cells #[.string s, .slice none 0 0] 49))) fun q hq => HK.out.cell (by omega) (fun h => h)
    simp only [Nat.zero_add, Nat.reduceAdd] at y0 y1 y2 y3
    have al := Kt.alloc (w1.alloc (.cells #[.string s, .slice none 0 0] 49)) (.cells #[.int .i64 k0, .string s0, .int .i64 0, .slice A0 m0 d0] 25)
    have v4' := (al.cell (p := ⟨n4, 0, none⟩) (by show n4 < _; omega) (fun h => h)).trans v4
    have AL := hid al
    have hsz : (World.alloc (w1.alloc (.cells #[.string s, .slice none 0 0] 49)) (.cells #[.int .i64 k0, .string s0, .int .i64 0, .slice A0 m0 d0] 25)).heap.size = ((w1.alloc (.cells #[.string s, .slice none 0 0] 49))).heap.size + 1 := by simp
    clear al
    rw [rounds_succ]
    go_wp2_with fail
    refine (V0.out _ (HK0.out.trans (HK.out.trans AL.out))).mono ?_
    rintro e W0 ⟨rfl, hK⟩
    have HKn := hid (HK.out.trans (AL.out.trans hK))
    have hsn := hK.size
    have v4n := (hK.cell (p := ⟨n4, 0, none⟩) (by show n4 < _; omega) (fun h => h)).trans v4'
    clear v4' v4 y0 y1 y2 y3 hK HK AL
    have v4 := v4n
    have HK := HKn
    clear v4n HKn
    have hlt : w0.heap.size < W0.heap.size := by omega
    go_wp2_with fail
    obtain ⟨y0, y1, y2, y3⟩ := T1.out.keep (w' := W0) fun q hq => HK.out.cell (by omega) (fun h => h)
    simp only [Nat.zero_add, Nat.reduceAdd] at y0 y1 y2 y3
    have al := Kt.alloc W0 (.cells #[.int .i64 k1, .string s1, .int .i64 0, .slice A1 m1 d1] 25)
    have v4' := (al.cell (p := ⟨n4, 0, none⟩) (by show n4 < _; omega) (fun h => h)).trans v4
    have AL := hid al
    have hsz : (World.alloc W0 (.cells #[.int .i64 k1, .string s1, .int .i64 0, .slice A1 m1 d1] 25)).heap.size = (W0).heap.size + 1 := by simp
    clear al
    rw [rounds_succ]
    go_wp2_with fail
    refine (V1.out _ (HK0.out.trans (HK.out.trans AL.out))).mono ?_
    rintro e W1 ⟨rfl, hK⟩
    have HKn := hid (HK.out.trans (AL.out.trans hK))
    have hsn := hK.size
    have v4n := (hK.cell (p := ⟨n4, 0, none⟩) (by show n4 < _; omega) (fun h => h)).trans v4'
    clear v4' v4 y0 y1 y2 y3 hK HK AL
    have v4 := v4n
    have HK := HKn
    clear v4n HKn
    have hlt : w0.heap.size < W1.heap.size := by omega
    go_wp2_with fail
    obtain ⟨y0, y1, y2, y3⟩ := T2.out.keep (w' := W1) fun q hq => HK.out.cell (by omega) (fun h => h)
    simp only [Nat.zero_add, Nat.reduceAdd] at y0 y1 y2 y3
    have al := Kt.alloc W1 (.cells #[.int .i64 k2, .string s2, .int .i64 0, .slice A2 m2 d2] 25)
    have v4' := (al.cell (p := ⟨n4, 0, none⟩) (by show n4 < _; omega) (fun h => h)).trans v4
    have AL := hid al
    have hsz : (World.alloc W1 (.cells #[.int .i64 k2, .string s2, .int .i64 0, .slice A2 m2 d2] 25)).heap.size = (W1).heap.size + 1 := by simp
    clear al
    rw [rounds_succ]
    go_wp2_with fail
    refine (V2.out _ (HK0.out.trans (HK.out.trans AL.out))).mono ?_
    rintro e W2 ⟨rfl, hK⟩
    have HKn := hid (HK.out.trans (AL.out.trans hK))
    have hsn := hK.size
    have v4n := (hK.cell (p := ⟨n4, 0, none⟩) (by show n4 < _; omega) (fun h => h)).trans v4'
    clear v4' v4 y0 y1 y2 y3 hK HK AL
    have v4 := v4n
    have HK := HKn
    clear v4n HKn
    have hlt : w0.heap.size < W2.heap.size := by omega
    go_wp2_with fail
    rw [rounds_succ]
    go_wp2
    go_returns
    exact ⟨rfl, HK.out⟩
end Go.Proofs.YtpbbnkpplcnaoaaGreatDoor
