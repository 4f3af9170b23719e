/- recompilelaw01.agree: both return the same, whatever they are given. -/
import Derived.Test.YtpjpndbagkcgcaaB6
set_option linter.unusedVariables false
set_option linter.unusedSimpArgs false
namespace Go.Proofs.Ytpjpndbagkcgcaa
open Go.RowKit

/-- what agree's calls need of memory -/
def Cx (W : World) (b : Nat) (v : Value) (l : List Src) (s : Src) (x : Ed) : Prop :=
  Sl srcE 2 W W.heap.size v l ∧ W.cell? ⟨b, 0, none⟩ = some (.string s.1) ∧ W.cell? ⟨b, 1, none⟩ = some (.string s.2) ∧ EdAt W (b + 1) x
theorem Cx.later {W W' : World} {b : Nat} {v : Value} {l : List Src} {s : Src} {x : Ed} (h : Cx W b v l s x) (hb : Below W.heap.size W W') : Cx W' b v l s x := by
  have hl := World.block_lt_of_cell? _ _ h.2.1
  exact ⟨h.1.later hb, (hb.cell hl).trans h.2.1, (hb.cell (p := ⟨b, 1, none⟩) hl).trans h.2.2.1, h.2.2.2.later hb⟩

theorem agree_pre (l : List Src) (s : Src) (x : Ed) (v : Value) (w : World) (hv : Sl srcE 2 w w.heap.size v l) :
    ∃ W0, W0 = (w.alloc (.cells #[.string s.1, .string s.2] 39)).alloc (.cells #[.string x.m, .int .i64 x.at_, .int .i64 x.cnt, .string x.text] 34) ∧ Cx W0 w.heap.size v l s x ∧ Below w.heap.size w W0 := by
  have hbA : Below w.heap.size w (w.alloc (.cells #[.string s.1, .string s.2] 39)) := (Below.refl _ _).alloc (Nat.le_refl _) _
  have hbB : Below (w.alloc (.cells #[.string s.1, .string s.2] 39)).heap.size (w.alloc (.cells #[.string s.1, .string s.2] 39)) ((w.alloc (.cells #[.string s.1, .string s.2] 39)).alloc (.cells #[.string x.m, .int .i64 x.at_, .int .i64 x.cnt, .string x.text] 34)) := (Below.refl _ _).alloc (Nat.le_refl _) _
  have hsr0 := cell_new2 w (.string s.1) (.string s.2) 39
  have hed0 : EdAt _ _ x := EdAt.new (w.alloc (.cells #[.string s.1, .string s.2] 39)) x 34
  refine ⟨_, rfl, ⟨hv.later (below_step hbA hbB), (hbB.cell (p := ⟨w.heap.size, 0, none⟩) (by simp)).trans hsr0.1, (hbB.cell (p := ⟨w.heap.size, 1, none⟩) (by simp)).trans hsr0.2, ?_⟩, below_step hbA hbB⟩
  simpa using hed0

set_option maxHeartbeats 8000000 in
set_option maxRecDepth 100000 in
theorem agree_any (l : List Src) (s : Src) (x : Ed) (v : Value) (w : World) (hv : Sl srcE 2 w w.heap.size v l) (hs : SzOk l) (hl : l.length ≤ 1000000000000) (h1 : s.1.size ≤ 140737488355328) (h2 : s.2.size ≤ 140737488355328) (hx : EdOk x) :
    Calls Try.prog 23 #[v, .agg #[.string s.1, .string s.2], edV x] w fun e w' => e = .returned (.bool true) ∧ Below w.heap.size w w' := by
  obtain ⟨W0, hW0, hC, hB⟩ := agree_pre l s x v w hv
  have HW0 := hid hW0
  obtain ⟨_, r1, r2, r3, r4, r5, r6⟩ := hC
  have hC : Cx W0 w.heap.size v l s x := ⟨‹_›, r1, r2, r3, r4, r5, r6⟩
  clear hW0 hv
  unfold edV
  go_enter Try.func23, Try.ntmps23
  go_upto_region 1 with fail
  rw [← HW0.out]
  clear HW0
  go_wp2_with fail
  refine (put_any l s _ _ hC.1 hs hl h1 h2).mono ?_
  rintro e w1 ⟨va, rfl, sa, hb⟩
  clear r1 r2 r3 r4 r5 r6
  have hC := hC.later hb
  have hB := below_step hB hb
  obtain ⟨_, r1, r2, r3, r4, r5, r6⟩ := hC
  have hC : Cx w1 w.heap.size v l s x := ⟨‹_›, r1, r2, r3, r4, r5, r6⟩
  clear hb
  go_wp2_with fail
  refine (refput_any l s _ _ hC.1 hs hl h1 h2).mono ?_
  rintro e w2 ⟨vb, rfl, sb, hb⟩
  clear r1 r2 r3 r4 r5 r6
  have hC := hC.later hb
  have hB := below_step hB hb
  obtain ⟨_, r1, r2, r3, r4, r5, r6⟩ := hC
  have hC : Cx w2 w.heap.size v l s x := ⟨‹_›, r1, r2, r3, r4, r5, r6⟩
  have sa := sa.later hb
  clear hb
  rw [refput_eq] at sb ⊢
  go_wp2_with fail
  refine (drop_any l s.1 _ _ hC.1 hs hl).mono ?_
  rintro e w3 ⟨vc, rfl, sc, hb⟩
  clear r1 r2 r3 r4 r5 r6
  have hC := hC.later hb
  have hB := below_step hB hb
  obtain ⟨_, r1, r2, r3, r4, r5, r6⟩ := hC
  have hC : Cx w3 w.heap.size v l s x := ⟨‹_›, r1, r2, r3, r4, r5, r6⟩
  have sa := sa.later hb
  have sb := sb.later hb
  clear hb
  go_wp2_with fail
  refine (refdrop_any l s.1 _ _ hC.1 hs hl).mono ?_
  rintro e w4 ⟨vd, rfl, sd, hb⟩
  clear r1 r2 r3 r4 r5 r6
  have hC := hC.later hb
  have hB := below_step hB hb
  obtain ⟨_, r1, r2, r3, r4, r5, r6⟩ := hC
  have hC : Cx w4 w.heap.size v l s x := ⟨‹_›, r1, r2, r3, r4, r5, r6⟩
  have sa := sa.later hb
  have sb := sb.later hb
  have sc := sc.later hb
  clear hb
  rw [refdrop_eq] at sd ⊢
  go_wp2_with fail
  refine (apply_any l x _ _ hC.1 hs hl hx).mono ?_
  rintro e w5 ⟨vp, rfl, sp, hb⟩
  clear r1 r2 r3 r4 r5 r6
  have hC := hC.later hb
  have hB := below_step hB hb
  obtain ⟨_, r1, r2, r3, r4, r5, r6⟩ := hC
  have hC : Cx w5 w.heap.size v l s x := ⟨‹_›, r1, r2, r3, r4, r5, r6⟩
  have sa := sa.later hb
  have sb := sb.later hb
  have sc := sc.later hb
  have sd := sd.later hb
  clear hb
  go_wp2_with fail
  refine (refapply_any l x _ _ hC.1 hs hl hx).mono ?_
  rintro e w6 ⟨vq, rfl, sq, hb⟩
  clear r1 r2 r3 r4 r5 r6
  have hC := hC.later hb
  have hB := below_step hB hb
  obtain ⟨_, r1, r2, r3, r4, r5, r6⟩ := hC
  have hC : Cx w6 w.heap.size v l s x := ⟨‹_›, r1, r2, r3, r4, r5, r6⟩
  have sa := sa.later hb
  have sb := sb.later hb
  have sc := sc.later hb
  have sd := sd.later hb
  have sp := sp.later hb
  clear hb
  go_wp2_with fail
  refine (find_any l _ s.1 _ hC.1).mono ?_
  rintro e w7 ⟨rfl, hb⟩
  clear r1 r2 r3 r4 r5 r6
  have hC := hC.later hb
  have hB := below_step hB hb
  obtain ⟨_, r1, r2, r3, r4, r5, r6⟩ := hC
  have hC : Cx w7 w.heap.size v l s x := ⟨‹_›, r1, r2, r3, r4, r5, r6⟩
  have sa := sa.later hb
  have sb := sb.later hb
  have sc := sc.later hb
  have sd := sd.later hb
  have sp := sp.later hb
  have sq := sq.later hb
  clear hb
  go_wp2_with fail
  refine (reffind_any l _ s.1 _ hC.1).mono ?_
  rintro e w8 ⟨rfl, rfl⟩
  go_wp2_with fail
  refine (check_any l _ _ hC.1 hs).mono ?_
  rintro e w9 ⟨rfl, hb⟩
  clear r1 r2 r3 r4 r5 r6
  have hC := hC.later hb
  have hB := below_step hB hb
  obtain ⟨_, r1, r2, r3, r4, r5, r6⟩ := hC
  have hC : Cx w9 w.heap.size v l s x := ⟨‹_›, r1, r2, r3, r4, r5, r6⟩
  have sa := sa.later hb
  have sb := sb.later hb
  have sc := sc.later hb
  have sd := sd.later hb
  have sp := sp.later hb
  have sq := sq.later hb
  clear hb
  go_wp2_with fail
  refine (refcheck_any l _ _ hC.1 hs).mono ?_
  rintro e w10 ⟨rfl, hb⟩
  clear r1 r2 r3 r4 r5 r6
  have hC := hC.later hb
  have hB := below_step hB hb
  obtain ⟨_, r1, r2, r3, r4, r5, r6⟩ := hC
  have hC : Cx w10 w.heap.size v l s x := ⟨‹_›, r1, r2, r3, r4, r5, r6⟩
  have sa := sa.later hb
  have sb := sb.later hb
  have sc := sc.later hb
  have sd := sd.later hb
  have sp := sp.later hb
  have sq := sq.later hb
  clear hb
  go_wp2_with fail
  refine (same_any _ _ _ _ sa sb).mono ?_
  rintro e w11 ⟨rfl, hb⟩
  clear r1 r2 r3 r4 r5 r6
  have hC := hC.later hb
  have hB := below_step hB hb
  obtain ⟨_, r1, r2, r3, r4, r5, r6⟩ := hC
  have hC : Cx w11 w.heap.size v l s x := ⟨‹_›, r1, r2, r3, r4, r5, r6⟩
  have sa := sa.later hb
  have sb := sb.later hb
  have sc := sc.later hb
  have sd := sd.later hb
  have sp := sp.later hb
  have sq := sq.later hb
  clear hb
  go_wp2_with fail
  refine (same_any _ _ _ _ sc sd).mono ?_
  rintro e w12 ⟨rfl, hb⟩
  clear r1 r2 r3 r4 r5 r6
  have hC := hC.later hb
  have hB := below_step hB hb
  obtain ⟨_, r1, r2, r3, r4, r5, r6⟩ := hC
  have hC : Cx w12 w.heap.size v l s x := ⟨‹_›, r1, r2, r3, r4, r5, r6⟩
  have sa := sa.later hb
  have sb := sb.later hb
  have sc := sc.later hb
  have sd := sd.later hb
  have sp := sp.later hb
  have sq := sq.later hb
  clear hb
  go_wp2_with fail
  refine (same_any _ _ _ _ sp sq).mono ?_
  rintro e w13 ⟨rfl, hb⟩
  clear r1 r2 r3 r4 r5 r6
  have hC := hC.later hb
  have hB := below_step hB hb
  obtain ⟨_, r1, r2, r3, r4, r5, r6⟩ := hC
  have hC : Cx w13 w.heap.size v l s x := ⟨‹_›, r1, r2, r3, r4, r5, r6⟩
  have sa := sa.later hb
  have sb := sb.later hb
  have sc := sc.later hb
  have sd := sd.later hb
  have sp := sp.later hb
  have sq := sq.later hb
  clear hb
  go_wp2_with fail
  go_ret
  exact ⟨rfl, hB⟩
end Go.Proofs.Ytpjpndbagkcgcaa
