/- Programs that are made: sources. -/
import Derived.Test.YtpjpndbagkcgcaaM8
import Derived.Test.YtpjpndbagkcgcaaA3
set_option linter.unusedVariables false
set_option linter.unusedSimpArgs false
namespace Go.Proofs.Ytpjpndbagkcgcaa
open Go.RowKit

theorem base_any (w : World) : Calls Try.prog 30 #[] w fun e w' => ∃ s : ByteArray, s.size ≤ 300 ∧ e = .returned (.string s) ∧ w = w' := by
  go_enter Try.func30, Try.ntmps30
  go_wp2
  go_ret
  exact ⟨_, by decide +kernel, rfl, rfl⟩

def emptyRow (n : Nat) : Array Value := ((List.replicate n ByteArray.empty).map Value.string).toArray
theorem make_strs (w : World) (n : Nat) (hn : n ≤ 1000) :
    (Instr.makeSlice 63 (.int .i64 (n : Int)) (.int .i64 (n : Int))).run Try.prog w = .ok (.slice (some ⟨w.heap.size, 0, none⟩) n n) (w.alloc (.cells (emptyRow n) 9)) := by
  obtain ⟨i, hi, h1, h2, h3⟩ := info_parts (show (Try.prog.info? 9).map (fun i => (i.zero, i.size, i.bytes)) = some (some (.string ⟨#[]⟩), 1, 16) by kernel_rfl)
  have hm := run_make (P := Try.prog) w 63 9 i _ Try.underlying63 hi h1 .i64 .i64 (n : Int) (n : Int) (by omega) (Int.le_refl _) (by rw [h3]; omega) (by omega)
  rw [Int.toNat_natCast, h2, Nat.mul_one] at hm
  rw [hm]
  have e : madeCells (Value.string ⟨#[]⟩).cells n = emptyRow n := by
    unfold emptyRow
    apply Array.ext
    · simp [madeCells]
    · intro j h1 h2
      simp [madeCells, Value.cells, Nat.mod_one, ByteArray.empty, ByteArray.emptyWithCapacity]; rfl
  rw [e]

def srcName (i : Nat) : ByteArray := letterS i
/-- what is made: one to three modules a, b, c, of texts that are not too long -/
def SrcL (l : List Src) : Prop := 1 ≤ l.length ∧ l.length ≤ 3 ∧ ∀ i x, l[i]? = some x → x.1 = letterS i ∧ x.2.size ≤ 12000
def PostSrc (w : World) (d : Nat) (e : Ending) (w' : World) : Prop := ∃ (v : Value) (l : List Src), SrcL l ∧ e = .returned v ∧ DiceOk w' d ∧ Own w' w.heap.size 39 2 v (l.flatMap srcE) ∧ Kp [d] w w'

/-- the state at the beginning -/
theorem mk_start (w0 : World) (d n : Nat) (hD : DiceOk w0 d) (w1 : World) (hD1 : DiceOk w1 d)
    (hK : Kp [d] (w0.alloc (.cells #[.pointer (some ⟨d, 0, none⟩), .slice none 0 0, .slice none 0 0, .slice none 0 0, .bool false, .bool false, .int .i64 0, .bool false] 65)) w1) :
    Mk w0 (w1.alloc (.cells (emptyRow n) 9)) (w1.heap.size + 1) d w0.heap.size w1.heap.size n 0 0 0 ⟨.slice none 0 0, .slice none 0 0, .slice none 0 0, false, false, false⟩ := by
  have hal : Below w1.heap.size w1 (w1.alloc (.cells (emptyRow n) 9)) := (Below.refl _ _).alloc (Nat.le_refl _) _
  have hal0 : Below w0.heap.size w0 (w0.alloc (.cells #[.pointer (some ⟨d, 0, none⟩), .slice none 0 0, .slice none 0 0, .slice none 0 0, .bool false, .bool false, .int .i64 0, .bool false] 65)) := (Below.refl _ _).alloc (Nat.le_refl _) _
  have hdl := hD.lt
  have hs := hK.size
  simp at hs
  have hrow := (hK.heap (by simp; omega) (heap_alloc_new w0 _))
  have hrow' := (Kp.of (bs := []) hal).heap (by simp) hrow
  have nil3 : OwN (w1.alloc (.cells (emptyRow n) 9)) (w1.heap.size + 1) 0 (.slice none 0 0) := ⟨[], Own.nil_ _ _ _ _, by simp, by simp⟩
  have hB : d < w1.heap.size + 1 ∧ w0.heap.size < w1.heap.size + 1 := by omega
  refine ⟨hD1.of hal, ⟨⟨0, Nat.le_refl _, hrow', nil3.names hB, nil3.names hB, nil3.names hB⟩, nil3, nil3, nil3, .inl rfl, .inl rfl, .inl rfl, hdl, by omega⟩, ⟨List.replicate n ByteArray.empty, by simp, heap_alloc_new w1 _, fun x hx => ?_⟩, (Kp.of hal0).trans (hK.trans (Kp.of hal)), Nat.le_refl _, by omega, rfl⟩
  rw [List.eq_of_mem_replicate hx]
  exact Nat.le_refl _
end Go.Proofs.Ytpjpndbagkcgcaa
