/- Programs that are made: expressions. -/
import Derived.Test.YtpjpndbagkcgcaaM1
set_option linter.unusedVariables false
set_option linter.unusedSimpArgs false
namespace Go.Proofs.Ytpjpndbagkcgcaa
open Go.RowKit

def PostI (n : Int) (w : World) (d : Nat) (e : Ending) (w' : World) : Prop := ∃ r : Nat, (r : Int) < n ∧ e = .returned (.int .i64 r) ∧ DiceOk w' d ∧ Kp [d] w w'
theorem nexti (w : World) (d : Nat) (n : Int) (h : DiceOk w d) (hn : 1 ≤ n) (hn2 : n ≤ 9223372036854775807) :
    Calls Try.prog 24 #[.pointer (some ⟨d, 0, none⟩), .int .i64 n] w (PostI n w d) := by
  obtain ⟨m, rfl⟩ : ∃ m : Nat, n = (m : Int) := ⟨n.toNat, by omega⟩
  exact (next_any w d m h (by omega) (by omega)).mono fun e w' ⟨r, h1, h2, h3, h4⟩ => ⟨r, by omega, h2, h3, h4⟩

/-- what a program that is being made holds, but for the number of its variables -/
structure Pg where
  fns : Value
  consts : Value
  macros : Value
  r : Bool
  s : Bool
  m : Bool
def Names (w : World) (d p : Nat) (v : Value) : Prop := ∃ xs, Rs [d, p] w v xs ∧ ∀ x ∈ xs, x.size ≤ 3
def PrAt (w : World) (d p : Nat) (g : Pg) (V : Nat) : Prop :=
  ∃ v : Nat, v ≤ V ∧ w.heap[p]? = some (.cells #[.pointer (some ⟨d, 0, none⟩), g.fns, g.consts, g.macros, .bool g.r, .bool g.s, .int .i64 v, .bool g.m] 65 (0, 0)) ∧
    Names w d p g.fns ∧ Names w d p g.consts ∧ Names w d p g.macros
section
variable {w w' : World} {d p : Nat} {g : Pg} {V V' : Nat} {bs : List Nat}
theorem Names.kp {v : Value} (h : Names w d p v) (k : Kp bs w w') (hs : ∀ b, b ∈ bs → b ∈ [d, p]) : Names w' d p v := by
  obtain ⟨xs, h1, h2⟩ := h; exact ⟨xs, h1.kp k hs, h2⟩
theorem PrAt.kp (h : PrAt w d p g V) (k : Kp [d] w w') (hdp : d < p) : PrAt w' d p g V := by
  obtain ⟨v, h1, h2, h3, h4, h5⟩ := h
  have hs : ∀ b, b ∈ [d] → b ∈ [d, p] := fun b hb => by simp at hb ⊢; exact .inl hb
  exact ⟨v, h1, k.heap (by simp; omega) h2, h3.kp k hs, h4.kp k hs, h5.kp k hs⟩
theorem PrAt.of (h : PrAt w d p g V) (hb : Below w.heap.size w w') : PrAt w' d p g V := by
  obtain ⟨v, h1, h2, h3, h4, h5⟩ := h
  have k : Kp [] w w' := Kp.of hb
  exact ⟨v, h1, k.heap (by simp) h2, h3.kp k (by simp), h4.kp k (by simp), h5.kp k (by simp)⟩
theorem PrAt.le (h : PrAt w d p g V) (hv : V ≤ V') : PrAt w d p g V' := by
  obtain ⟨v, h1, h2⟩ := h; exact ⟨v, by omega, h2⟩
theorem PrAt.cells (h : PrAt w d p g V) : w.cell? ⟨p, 0, none⟩ = some (.pointer (some ⟨d, 0, none⟩)) ∧ w.cell? ⟨p, 1, none⟩ = some g.fns ∧ w.cell? ⟨p, 2, none⟩ = some g.consts ∧ w.cell? ⟨p, 3, none⟩ = some g.macros ∧ w.cell? ⟨p, 4, none⟩ = some (.bool g.r) ∧ w.cell? ⟨p, 5, none⟩ = some (.bool g.s) ∧ w.cell? ⟨p, 7, none⟩ = some (.bool g.m) := by
  obtain ⟨v, h1, h2, _⟩ := h
  refine ⟨?_, ?_, ?_, ?_, ?_, ?_, ?_⟩ <;> rw [cell_of_row _ _ _ _ _ _ h2] <;> rfl
theorem PrAt.lt (h : PrAt w d p g V) : p < w.heap.size := by
  obtain ⟨v, h1, h2, _⟩ := h; exact (Array.getElem?_eq_some_iff.1 h2).1
theorem DiceOk.of (h : DiceOk w d) (hb : Below w.heap.size w w') : DiceOk w' d := h.kp (bs := []) (Kp.of hb) (by simp)
end
/-- a call that returns a string of at most m bytes, and makes at most some variables -/
def PostS (m V : Nat) (w : World) (d p : Nat) (g : Pg) (e : Ending) (w' : World) : Prop := ∃ s : ByteArray, s.size ≤ m ∧ e = .returned (.string s) ∧ DiceOk w' d ∧ PrAt w' d p g V ∧ Kp [d, p] w w'
/-- the contract of such a function at a depth -/
def Con (f : FuncId) (dep : Int) (m dv N : Nat) : Prop := ∀ (w : World) (d p : Nat) (g : Pg) (V : Nat) (v : Value) (xs : List ByteArray), DiceOk w d → PrAt w d p g V → d < p → V + dv ≤ 9999 → Rs [d, p] w v xs → (∀ x ∈ xs, x.size ≤ 6) → xs.length ≤ N →
  Calls Try.prog f #[.pointer (some ⟨p, 0, none⟩), .int .i64 dep, v] w (PostS m (V + dv) w d p g)
theorem Con.use {f : FuncId} {dep : Int} {m dv N : Nat} (h : Con f dep m dv N) {w : World} {d p : Nat} {g : Pg} {V : Nat} {v : Value} {xs : List ByteArray} (a : DiceOk w d) (b : PrAt w d p g V) (c : d < p) (e : V + dv ≤ 9999) (k : Rs [d, p] w v xs) (l : ∀ x ∈ xs, x.size ≤ 6) (nn : xs.length ≤ N) :
    Calls Try.prog f #[.pointer (some ⟨p, 0, none⟩), .int .i64 dep, v] w (PostS m (V + dv) w d p g) := h w d p g V v xs a b c e k l nn
theorem sub1 (d p : Nat) : ∀ b, b ∈ [d] → b ∈ [d, p] := fun b hb => by simp at hb ⊢; exact .inl hb

set_option maxHeartbeats 4000000 in
set_option maxRecDepth 100000 in
theorem int_leaf (dep : Int) (hd : dep ≤ 0) (hd2 : -100 ≤ dep) (N : Nat) : Con 50 dep 6 0 N := by
  intro w d p g V v xs hD hP hdp hV hR hx hN
  obtain ⟨c0, _⟩ := hP.cells
  have hR2 := hR
  have hRd : Rs [d] w v xs := by
    obtain ⟨A, c, e, h1, h2, h3⟩ := hR
    refine ⟨A, c, e, h1, h2, ?_⟩
    rcases h3 with h3 | ⟨b, off, e2, hb, hl, hc⟩
    · exact .inl h3
    · exact .inr ⟨b, off, e2, fun hm => hb (sub1 d p b hm), hl, hc⟩
  obtain ⟨A, c, rfl, hnc, hc, hcell⟩ := hR
  unfold maxLen at hc
  have hKt : Kp [d, p] w w := Kp.refl _ _
  by_cases h0 : xs = []
  · subst h0
    clear hcell hR2 hRd
    go_enter Try.func50, Try.ntmps50
    go_wp2_with (first
      | (go_at_call 24; refine (nexti _ d _ hD (by omega) (by omega)).mono ?_; rintro e w1 ⟨r, hr, rfl, hD, hK⟩; have hP := hP.kp hK hdp; have hKt := hKt.trans (hK.sub (sub1 d p)))
      | (go_at_call 34; refine (digits_any 1 _ _ (by omega) (by omega) (by omega)).mono ?_; rintro e w2 ⟨s, hs, rfl, hb⟩; have hD := hD.of hb; have hP := hP.of hb; have hKt := hKt.trans (Kp.of hb)))
    go_ret
    exact ⟨s, by omega, rfl, hD, hP, hKt⟩
  · have hlen : 0 < xs.length := List.length_pos_iff.2 h0
    have g0 : decide (0 < xs.length) = true := by simp; exact hlen
    clear hcell
    go_enter Try.func50, Try.ntmps50
    go_upto_region 3 with fail
    go_wp2_with fail
    refine (nexti _ d _ hD (by omega) (by omega)).mono ?_
    rintro e w1 ⟨r, hr, rfl, hD, hK⟩
    have hP := hP.kp hK hdp
    have hKt := hKt.trans (hK.sub (sub1 d p))
    have hr2 : r = 0 ∨ r = 1 := by omega
    have hRk := hR2.kp hK (sub1 d p)
    have hRd1 : Rs [d] w1 _ xs := hRd.kp hK (fun _ h => h)
    rcases hr2 with rfl | rfl
    · go_wp2_with (first
        | (go_at_call 24; refine (nexti _ d _ hD (by omega) (by omega)).mono ?_; rintro e w1 ⟨r, hr, rfl, hD, hK⟩; have hP := hP.kp hK hdp; have hKt := hKt.trans (hK.sub (sub1 d p)))
        | (go_at_call 34; refine (digits_any 1 _ _ (by omega) (by omega) (by omega)).mono ?_; rintro e w2 ⟨s, hs, rfl, hb⟩; have hD := hD.of hb; have hP := hP.of hb; have hKt := hKt.trans (Kp.of hb)))
      go_ret
      exact ⟨s, by omega, rfl, hD, hP, hKt⟩
    · obtain ⟨A2, c2, e2, _, _, hcell⟩ := hRk
      injection e2 with e2 e3 e4
      subst e2 e4
      rcases hcell with hcell | ⟨b, off, rfl, hb, hl, hcell⟩
      · exact absurd hcell h0
      go_wp2_with fail
      refine (nexti _ d _ hD (by omega) (by omega)).mono ?_
      rintro e w2 ⟨r, hr, rfl, hD, hK⟩
      have hP := hP.kp hK hdp
      have hKt := hKt.trans (hK.sub (sub1 d p))
      have hrx : r < xs.length := by omega
      obtain ⟨s, hs⟩ : ∃ s, xs[r]? = some s := ⟨_, List.getElem?_eq_getElem hrx⟩
      have c5 : w2.cell? ⟨b, off + r, none⟩ = some (.string s) := (hK.cell hl (fun hm => hb (sub1 d p b hm))).trans (hcell r s hs)
      have hsz := hx s (List.mem_of_getElem? hs)
      have Hs := hid hs
      clear hs
      go_wp2_with fail
      go_ret
      exact ⟨s, hsz, rfl, hD, hP, hKt⟩

theorem Con.more {f : FuncId} {dep : Int} {m m' dv dv' N : Nat} (h : Con f dep m dv N) (hm : m ≤ m') (hv : dv ≤ dv') : Con f dep m' dv' N := by
  intro w d p g V v xs hD hP hdp hV hR hx hN
  exact (h w d p g V v xs hD hP hdp (by omega) hR hx hN).mono fun e w' ⟨s, a, b, c, d, k⟩ => ⟨s, by omega, b, c, d.le (by omega), k⟩
end Go.Proofs.Ytpjpndbagkcgcaa
