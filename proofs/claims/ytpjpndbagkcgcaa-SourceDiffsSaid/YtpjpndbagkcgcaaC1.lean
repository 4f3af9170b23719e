/- recompilelaw01.SourceLong: true, whatever it is given. -/
import Derived.Test.YtpjpndbagkcgcaaC0
import Derived.Laws.IdiomStrings
set_option linter.unusedVariables false
set_option linter.unusedSimpArgs false
namespace Go.Proofs.Ytpjpndbagkcgcaa
open Go.RowKit

/-- bytes that are zero -/
def zeros (k : Nat) : ByteArray := ⟨(List.replicate k (0 : UInt8)).toArray⟩
theorem zeros_size (k : Nat) : (zeros k).size = k := by simp [zeros, ByteArray.size]

theorem make_zeros (w : World) (k : Nat) (hk : k ≤ 1000000) :
    ∃ o, (Instr.makeSlice 55 (.int .i64 (k : Int)) (.int .i64 (k : Int))).run Try.prog w = .ok (.slice (some ⟨w.heap.size, 0, none⟩) k k) (w.alloc o) ∧
      (convert 55 9 (.slice (some ⟨w.heap.size, 0, none⟩) k k)).run Try.prog (w.alloc o) = .ok (.string (zeros k)) (w.alloc o) := by
  obtain ⟨i, hi, h1, h2, h3⟩ := info_parts (show (Try.prog.info? 5).map (fun i => (i.zero, i.size, i.bytes)) = some (some (.int .u8 0), 1, 1) by kernel_rfl)
  have hm := run_make (P := Try.prog) w 55 5 i _ Try.underlying55 hi h1 .i64 .i64 (k : Int) (k : Int) (by omega) (Int.le_refl _) (by rw [h3]; omega) (by omega)
  rw [Int.toNat_natCast, h2, Nat.mul_one] at hm
  refine ⟨_, hm, ?_⟩
  have hc := run_convert_bytes_back (P := Try.prog) (w.alloc (.cells (madeCells (Value.int .u8 0).cells k) 5)) 55 9 5 ⟨w.heap.size, 0, none⟩ k (List.replicate k 0) Try.underlying55 Try.underlying5 Try.underlying9 (fun j hj => by
    have hj' : j < k := by simpa using hj
    rw [Addr.add_lit, cell_of_row _ _ _ _ _ _ (heap_alloc_new w _)]
    simp [madeCells, Value.cells, hj', Nat.mod_one])
  rw [List.length_replicate] at hc
  exact hc

/-- one module, written out as a slice -/
theorem sl_one (w : World) (p q : ByteArray) : Sl srcE 2 (w.alloc (.cells #[.string p, .string q] 39)) (w.alloc (.cells #[.string p, .string q] 39)).heap.size (.slice (some ⟨w.heap.size, 0, none⟩) 1 1) [(p, q)] :=
  (show Own (w.alloc (.cells #[.string p, .string q] 39)) 0 39 2 (.slice (some ⟨w.heap.size, 0, none⟩) 1 1) ([(p, q)].flatMap srcE) from Own.lit w 0 _ 2 _ 1 (Nat.zero_le _) rfl (by unfold maxLen; omega)).sl srcE_len (by omega)
theorem szok_one {p q : ByteArray} (hp : p.size ≤ 140737488355328) (hq : q.size ≤ 140737488355328) : SzOk [(p, q)] := by
  intro x hx
  simp only [List.mem_cons, List.not_mem_nil, or_false] at hx
  subst hx
  exact ⟨hp, hq⟩

set_option maxHeartbeats 8000000 in
set_option maxRecDepth 100000 in
theorem long_any (n a : Int) (w : World) (h1 : -9223372036854775808 ≤ n) (h2 : n ≤ 9223372036854775807) (h3 : -9223372036854775808 ≤ a) (h4 : a ≤ 9223372036854775807) :
    Calls Try.prog 8 #[.int .i64 n, .int .i64 a] w fun e w' => e = .returned (.bool true) ∧ Below w.heap.size w w' := by
  have m1 : 0 ≤ modI n 8 ∧ modI n 8 < 8 := by simp [modI]; omega
  obtain ⟨m1, m2⟩ := m1
  obtain ⟨k, hk⟩ : ∃ k : Nat, (k : Int) = 19995 + modI n 8 := ⟨(19995 + modI n 8).toNat, by omega⟩
  have hk2 : k ≤ 20010 := by omega
  have hw : IntKind.i64.wrap (19995 + modI n 8) = (k : Int) := by rw [IntWalk.i64_in _ (by omega), hk]
  obtain ⟨o, hmk, hcv⟩ := make_zeros w k (by omega)
  have hb0 : Below w.heap.size w (w.alloc o) := (Below.refl _ _).alloc (Nat.le_refl _) _
  have Hw := hid hw
  have Hmk := hid hmk
  have Hcv := hid hcv
  clear hw hmk hcv hk
  go_enter Try.func8, Try.ntmps8
  go_wp2_with fail
  refine (mod_any _ _ _ h1 h2 (by omega)).mono ?_
  rintro e w1 ⟨rfl, rfl⟩
  have hw := Hw.out
  have hmk := Hmk.out
  have hcv := Hcv.out
  go_wp2_with fail
  refine (mod_any _ _ _ h3 h4 (by omega)).mono ?_
  rintro e w1 ⟨rfl, rfl⟩
  have t1 : -9223372036854775808 ≤ n.tdiv 8 ∧ n.tdiv 8 ≤ 9223372036854775807 := by have h : (n.tdiv 8).natAbs = n.natAbs / 8 := Int.natAbs_tdiv n 8; omega
  go_upto_region 4 with (go_at_call 12; refine (mod_any _ _ _ t1.1 t1.2 (by omega)).mono ?_; rintro e w1 ⟨rfl, rfl⟩)
  have hd : 0 ≤ modI a 3 ∧ modI a 3 ≤ 2 ∧ 0 ≤ modI (n.tdiv 8) 2 ∧ modI (n.tdiv 8) 2 ≤ 1 := by simp [modI]; omega
  obtain ⟨x, hx⟩ : ∃ x : Ed, x = ⟨⟨#[109]⟩, modI a 3, modI (n.tdiv 8) 2, zeros k⟩ := ⟨_, rfl⟩
  have zk := zeros_size k
  have z1 : (ByteArray.mk #[109]).size = 1 := rfl
  have z2 : (ByteArray.mk #[120]).size = 1 := rfl
  have z3 : (ByteArray.mk #[110]).size = 1 := rfl
  have z4 : (ByteArray.mk #[]).size = 0 := rfl
  have hxo : EdOk x := by subst hx; exact ⟨by simp only []; omega, by simp only []; omega, by simp only []; omega, by simp only []; omega, by simp only []; omega, by simp only []; omega⟩
  have hs1 := sl_one (w.alloc o) ⟨#[109]⟩ ⟨#[120]⟩
  obtain ⟨wA, hwA⟩ : ∃ wA, wA = (w.alloc o).alloc (.cells #[.string ⟨#[109]⟩, .string ⟨#[120]⟩] 39) := ⟨_, rfl⟩
  have zA : wA.heap.size = w.heap.size + 1 + 1 := by rw [hwA]; simp
  have zo : (w.alloc o).heap.size = w.heap.size + 1 := by simp
  rw [← hwA, zo] at hs1
  have hbA : Below w.heap.size w wA := by rw [hwA]; exact hb0.alloc (by simp) _
  have hed := EdAt.new wA x 34
  have hbE : Below wA.heap.size wA (wA.alloc (.cells #[.string x.m, .int .i64 x.at_, .int .i64 x.cnt, .string x.text] 34)) := (Below.refl _ _).alloc (Nat.le_refl _) _
  have hs2 := hs1.later hbE
  rw [← hwA, show (Obj.cells #[.string ⟨#[109]⟩, .int .i64 (modI a 3), .int .i64 (modI (n.tdiv 8) 2), .string (zeros k)] 34) = .cells #[.string x.m, .int .i64 x.at_, .int .i64 x.cnt, .string x.text] 34 by rw [hx]]
  have hbW := below_step hbA hbE
  obtain ⟨wB, hwB⟩ : ∃ wB, wB = wA.alloc (.cells #[.string x.m, .int .i64 x.at_, .int .i64 x.cnt, .string x.text] 34) := ⟨_, rfl⟩
  rw [← hwB] at hs2 hed hbW ⊢
  rw [zA] at hed
  clear hs1 hbE hbA hwA hwB hw hmk hcv zA zo
  have Hx := hid hx
  clear hx Hw Hmk Hcv hb0
  go_wp2_with fail
  refine (awake_any _).mono ?_
  rintro e w1 ⟨rfl, hb1⟩
  have hs3 := hs2.later hb1
  obtain ⟨e1, e2, e3, e4⟩ := hed.later hb1
  go_wp2_with fail
  refine (agree_any [(⟨#[109]⟩, ⟨#[120]⟩)] (⟨#[109]⟩, zeros k) x _ _ hs3 (szok_one (by omega) (by omega)) (by simp) (by simp only []; omega) (by simp only []; omega) hxo).mono ?_
  rintro e w2 ⟨rfl, hb2⟩
  obtain ⟨f1, f2, f3, f4⟩ := EdAt.later (x := x) ⟨e1, e2, e3, e4⟩ hb2
  clear e1 e2 e3 e4
  have hB := below_step (below_step hbW hb1) hb2
  have hbL : Below w2.heap.size w2 (w2.alloc (.cells #[.string ⟨#[109]⟩, .string (zeros k)] 39)) := (Below.refl _ _).alloc (Nat.le_refl _) _
  have hs4 := sl_one w2 ⟨#[109]⟩ (zeros k)
  obtain ⟨g1, g2, g3, g4⟩ := EdAt.later (x := x) ⟨f1, f2, f3, f4⟩ hbL
  go_wp2_with fail
  refine (agree_any [(⟨#[109]⟩, zeros k)] (⟨#[110]⟩, ⟨#[]⟩) x _ _ hs4 (szok_one (by omega) (by omega)) (by simp) (by simp only []; omega) (by simp only []; omega) hxo).mono ?_
  rintro e w3 ⟨rfl, hb3⟩
  go_wp2_with fail
  go_ret
  exact ⟨rfl, below_step (below_step hB hbL) hb3⟩
end Go.Proofs.Ytpjpndbagkcgcaa
