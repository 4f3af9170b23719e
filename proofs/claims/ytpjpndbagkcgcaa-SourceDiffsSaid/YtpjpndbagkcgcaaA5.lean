/- Sources: copies, Find, the reference's Named, Check, Find. -/
import Derived.Test.YtpjpndbagkcgcaaA4
set_option linter.unusedVariables false
set_option linter.unusedSimpArgs false
namespace Go.Proofs.Ytpjpndbagkcgcaa
open Go.RowKit

theorem elSrc : Elem Try.prog 31 39 2 32 :=
  ⟨Try.underlying31, by
    obtain ⟨i, hi, h1, h2, h3⟩ := info_parts (show (Try.prog.info? 39).map (fun i => (i.zero, i.size, i.bytes)) = some (some (.agg #[.string ⟨#[]⟩, .string ⟨#[]⟩]), 2, 32) by kernel_rfl)
    exact ⟨i, _, hi, h1, h2, h3, rfl⟩, by omega⟩
theorem srcs_one (l : List Src) : ∀ u ∈ l.flatMap srcE, u.oneCell' = true := by
  intro u hu
  rw [List.mem_flatMap] at hu
  obtain ⟨x, _, hx⟩ := hu
  simp only [srcE, List.mem_cons, List.not_mem_nil, or_false] at hx
  rcases hx with rfl | rfl <;> rfl
theorem srcs_len (l : List Src) : (l.flatMap srcE).length = l.length * 2 := flat_length srcE_len l

set_option maxHeartbeats 1000000 in
theorem copy_any (l : List Src) (v : Value) (w : World) (hv : Sl srcE 2 w w.heap.size v l) (hl : l.length ≤ 1000000000000) :
    Calls Try.prog 54 #[v] w fun e w' => ∃ v', e = .returned v' ∧ Own w' w.heap.size 39 2 v' (l.flatMap srcE) ∧ Below w.heap.size w w' := by
  have hat := hv
  obtain ⟨A, c, rfl, hnc, hc, hcell⟩ := hv
  obtain ⟨_, hat, hBlt⟩ := hat.at_ srcE_len (by omega)
  have hll := srcs_len l
  have Hll := hid hll
  have Hcell := hid hcell
  have Hat := hid hat
  clear hcell hll hat
  go_enter Try.func54, Try.ntmps54
  go_wp2_with (at_builtin; refine wpl_append _ rfl _ _ 31 rfl _ 2 32 elSrc w.heap.size (.slice none 0 0) [] rfl (Own.nil_ _ _ _ _) A l.length c (l.flatMap srcE) rfl Hll.out Hat.out (srcs_one l) (by rw [List.length_nil, Hll.out]; unfold maxLen; omega) (by rw [List.length_nil, Hll.out]; omega) (Nat.le_refl _) ?_; intro v1 w1 hown1 hg1 hat1)
  go_ret
  exact ⟨_, rfl, by simpa using hown1, (Below.refl _ _).grown hg1 (Nat.le_refl _) (fun k hk => by simp [Value.ownBlock] at hk)⟩

set_option maxHeartbeats 1000000 in
theorem clone_any (l : List Src) (v : Value) (w : World) (hv : Sl srcE 2 w w.heap.size v l) (hl : l.length ≤ 1000000000000) :
    Calls Try.prog 35 #[v] w fun e w' => ∃ v', e = .returned v' ∧ Own w' w.heap.size 39 2 v' (l.flatMap srcE) ∧ Below w.heap.size w w' := by
  have hat := hv
  obtain ⟨A, c, rfl, hnc, hc, hcell⟩ := hv
  obtain ⟨_, hat, hBlt⟩ := hat.at_ srcE_len (by omega)
  have hll := srcs_len l
  have Hll := hid hll
  have Hcell := hid hcell
  have Hat := hid hat
  clear hcell hll
  have hnil : ∀ (a : Option Addr) (n c : Nat) (wx : World), (binOp .eql 31 (.slice a n c) (.slice none 0 0)).run Try.prog wx = .ok (.bool a.isNone) wx := fun a n c wx => Lib.run_eql_slice_nil wx 31 39 a n c 0 0 Try.underlying31
  cases A with
  | none =>
    go_enter Try.func35, Try.ntmps35
    go_wp2
    go_ret
    have : l = [] := by
      rcases Hcell.out with h | ⟨b, off, h, _⟩
      · exact h
      · cases h
    subst this
    exact ⟨_, rfl, .inl ⟨rfl, rfl⟩, Below.refl _ _⟩
  | some a =>
    go_enter Try.func35, Try.ntmps35
    have hB : Below w.heap.size w (w.alloc (.cells #[] 39)) := (Below.refl _ _).alloc (Nat.le_refl _) _
    have hat2 := Hat.out
    have hat3 : At (w.alloc (.cells #[] 39)) (some a) (l.flatMap srcE) := hat2.later hBlt hB
    have Hat3 := hid hat3
    clear hat2 hat3 hat
    go_wp2_with (at_builtin; refine wpl_append _ rfl _ _ 31 rfl _ 2 32 elSrc w.heap.size (.slice (some ⟨w.heap.size, 0, none⟩) 0 0) [] rfl (Own.made _ _ _ _ _ 0 (Nat.le_refl _) (by simp) (Nat.zero_le _)) (some a) l.length c (l.flatMap srcE) rfl Hll.out Hat3.out (srcs_one l) (by rw [List.length_nil, Hll.out]; unfold maxLen; omega) (by rw [List.length_nil, Hll.out]; omega) (by simp) ?_; intro v1 w1 hown1 hg1 hat1)
    go_ret
    exact ⟨_, rfl, by simpa using hown1, hB.grown hg1 (by simp) (fun k hk => by simp [Value.ownBlock] at hk; omega)⟩

end Go.Proofs.Ytpjpndbagkcgcaa
