/- Worlds that keep all but some blocks; dice; strings in slices. -/
import Derived.Test.YtpjpndbagkcgcaaA0
import Derived.Laws.IdiomStrings
import Derived.Laws.BytesArg
set_option linter.unusedVariables false
set_option linter.unusedSimpArgs false
namespace Go.Proofs.Ytpjpndbagkcgcaa
open Go.RowKit

/-- all blocks that there were are as they were, but for some -/
def Kp (bs : List Nat) (w w' : World) : Prop := w'.os = w.os ∧ w'.tape = w.tape ∧ w'.output = w.output ∧ w.heap.size ≤ w'.heap.size ∧ ∀ k, k < w.heap.size → k ∉ bs → w'.heap[k]? = w.heap[k]?
section
variable {bs cs : List Nat} {w w' w'' : World}
theorem Kp.refl (bs : List Nat) (w : World) : Kp bs w w := ⟨rfl, rfl, rfl, Nat.le_refl _, fun _ _ _ => rfl⟩
theorem Kp.size (h : Kp bs w w') : w.heap.size ≤ w'.heap.size := h.2.2.2.1
theorem Kp.trans (h : Kp bs w w') (k : Kp bs w' w'') : Kp bs w w'' :=
  ⟨k.1.trans h.1, k.2.1.trans h.2.1, k.2.2.1.trans h.2.2.1, Nat.le_trans h.size k.size, fun j hj hn => (k.2.2.2.2 j (Nat.lt_of_lt_of_le hj h.size) hn).trans (h.2.2.2.2 j hj hn)⟩
theorem Kp.sub (h : Kp bs w w') (hs : ∀ k, k ∈ bs → k ∈ cs) : Kp cs w w' := ⟨h.1, h.2.1, h.2.2.1, h.2.2.2.1, fun j hj hn => h.2.2.2.2 j hj (fun hm => hn (hs j hm))⟩
theorem Kp.of (h : Below w.heap.size w w') : Kp bs w w' := ⟨h.os, h.tape, h.output, h.size, fun k hk _ => h.block k hk⟩
theorem Kp.alloc (h : Kp bs w w') (o : Obj) : Kp bs w (w'.alloc o) := h.trans (Kp.of ((Below.refl _ _).alloc (Nat.le_refl _) o))
theorem Kp.drew (h : Kp bs w w') : Kp bs w w'.drew := h
theorem Kp.drewN (h : Kp bs w w') (n : Nat) : Kp bs w (w'.drewN n) := h
theorem Kp.set (h : Kp bs w w') {p : Addr} (hp : p.block ∈ bs) (v : Value) : Kp bs w (w'.setCell p v) :=
  h.trans ⟨rfl, rfl, rfl, by simp [World.setCell], fun k hk hn => Below.heap_setCell w' p v k (fun e => hn (by rw [e]; exact hp))⟩
theorem Kp.cell (h : Kp bs w w') {p : Addr} (hl : p.block < w.heap.size) (hp : p.block ∉ bs) : w'.cell? p = w.cell? p := by
  unfold World.cell?; rw [h.2.2.2.2 _ hl hp]
theorem Kp.heap (h : Kp bs w w') {k : Nat} {o : Obj} (hk : k ∉ bs) (ho : w.heap[k]? = some o) : w'.heap[k]? = some o := by
  rw [h.2.2.2.2 k (Array.getElem?_eq_some_iff.1 ho).1 hk]; exact ho
theorem Kp.below {a : World} {B : Nat} (hb : Below B a w) (h : Kp bs w w') (hB : B ≤ w.heap.size) (hs : ∀ k ∈ bs, B ≤ k) : Below B a w' :=
  hb.trans ⟨h.1, h.2.1, h.2.2.1, h.size, fun k hk => h.2.2.2.2 k (Nat.lt_of_lt_of_le hk hB) (fun hm => by have := hs k hm; omega)⟩
end

/-- strings in a slice whose block is none of some -/
def Rs (bs : List Nat) (w : World) (v : Value) (xs : List ByteArray) : Prop :=
  ∃ A c, v = .slice A xs.length c ∧ xs.length ≤ c ∧ c ≤ maxLen ∧ (xs = [] ∨ ∃ b off, A = some ⟨b, off, none⟩ ∧ b ∉ bs ∧ b < w.heap.size ∧ ∀ j s, xs[j]? = some s → w.cell? ⟨b, off + j, none⟩ = some (.string s))
theorem Rs.kp {bs cs : List Nat} {w w' : World} {v : Value} {xs : List ByteArray} (h : Rs bs w v xs) (k : Kp cs w w') (hs : ∀ b, b ∈ cs → b ∈ bs) : Rs bs w' v xs := by
  obtain ⟨A, c, e, h1, h2, h3⟩ := h
  refine ⟨A, c, e, h1, h2, ?_⟩
  rcases h3 with h3 | ⟨b, off, e2, hb, hl, hc⟩
  · exact .inl h3
  · exact .inr ⟨b, off, e2, hb, Nat.lt_of_lt_of_le hl k.size, fun j s hj => (k.cell hl (fun hm => hb (hs _ hm))).trans (hc j s hj)⟩
theorem Rs.nil_ (bs : List Nat) (w : World) (A : Option Addr) (c : Nat) (hc : c ≤ maxLen) : Rs bs w (.slice A 0 c) [] := ⟨A, c, rfl, Nat.zero_le _, hc, .inl rfl⟩
/-- written out -/
theorem Rs.lit (bs : List Nat) (w : World) (xs : List ByteArray) (t : TypeId) (n : Nat) (hn : n = xs.length) (hl : n ≤ maxLen) (hb : ∀ k ∈ bs, k < w.heap.size) (cs : Array Value) (hcs : cs = (xs.map Value.string).toArray) :
    Rs bs (w.alloc (.cells cs t)) (.slice (some ⟨w.heap.size, 0, none⟩) n n) xs := by
  subst hn hcs
  refine ⟨_, xs.length, rfl, Nat.le_refl _, hl, .inr ⟨_, 0, rfl, fun hm => by have := hb _ hm; omega, by simp, fun j s hj => ?_⟩⟩
  rw [Nat.zero_add, cell_of_row _ _ _ _ _ _ (heap_alloc_new w _)]
  simp [hj]

/-- dice: the numbers that are left, and which one is next -/
def DiceOk (w : World) (d : Nat) : Prop :=
  ∃ (ns : List Int) (k : Nat) (A : Option Addr) (c : Nat), w.heap[d]? = some (.cells #[.slice A ns.length c, .int .i64 k] 61 (0, 0)) ∧ ns.length ≤ c ∧ c ≤ maxLen ∧ k ≤ ns.length ∧
    (∀ n ∈ ns, -9223372036854775808 ≤ n ∧ n ≤ 9223372036854775807) ∧ (ns = [] ∨ ∃ b off, A = some ⟨b, off, none⟩ ∧ b < d ∧ ∀ j n, ns[j]? = some n → w.cell? ⟨b, off + j, none⟩ = some (.int .i64 n))
theorem DiceOk.lt {w : World} {d : Nat} (h : DiceOk w d) : d < w.heap.size := by
  obtain ⟨_, _, _, _, h, _⟩ := h; exact (Array.getElem?_eq_some_iff.1 h).1
theorem DiceOk.kp {bs : List Nat} {w w' : World} {d : Nat} (h : DiceOk w d) (k : Kp bs w w') (hs : ∀ b ∈ bs, d < b) : DiceOk w' d := by
  have hlt := h.lt
  obtain ⟨ns, n, A, c, h1, h2, h3, h4, h5, h6⟩ := h
  refine ⟨ns, n, A, c, k.heap (fun hm => by have := hs _ hm; omega) h1, h2, h3, h4, h5, ?_⟩
  rcases h6 with h6 | ⟨b, off, e, hb, hc⟩
  · exact .inl h6
  · exact .inr ⟨b, off, e, hb, fun j m hj => (k.cell (p := ⟨b, off + j, none⟩) (by show b < _; omega) (fun hm => by have := hs _ hm; simp at this; omega)).trans (hc j m hj)⟩

/-- a call that throws dice -/
def PostN (n : Nat) (w : World) (d : Nat) (e : Ending) (w' : World) : Prop := ∃ r : Nat, r < n ∧ e = .returned (.int .i64 r) ∧ DiceOk w' d ∧ Kp [d] w w'

set_option maxHeartbeats 2000000 in
theorem next_any (w : World) (d n : Nat) (h : DiceOk w d) (hn : 1 ≤ n) (hn2 : n ≤ 9223372036854775807) :
    Calls Try.prog 24 #[.pointer (some ⟨d, 0, none⟩), .int .i64 n] w (PostN n w d) := by
  have hD := h
  obtain ⟨ns, k, A, c, hh, hnc, hc, hk, hns, hcell⟩ := h
  unfold maxLen at hc
  have c1 : w.cell? ⟨d, 0, none⟩ = some (.slice A ns.length c) := by rw [cell_of_row _ _ _ _ _ _ hh]; rfl
  have c2 : w.cell? ⟨d, 1, none⟩ = some (.int .i64 k) := by rw [cell_of_row _ _ _ _ _ _ hh]; rfl
  have f2 : w.frozen? ⟨d, 1, none⟩ = false := by simp [World.frozen?, hh]
  have Hh := hid hh
  clear hh
  by_cases hlt : k < ns.length
  · rcases hcell with h0 | ⟨b, off, rfl, hb, hcell⟩
    · rw [h0] at hlt; simp at hlt
    obtain ⟨m, hm⟩ : ∃ m, ns[k]? = some m := ⟨_, List.getElem?_eq_getElem hlt⟩
    have hmr := hns m (List.mem_of_getElem? hm)
    have c3 := hcell k m hm
    go_enter Try.func24, Try.ntmps24
    go_wp2
    go_quiet (fail)
    go_upto_region 4 with fail
    obtain ⟨W1, hW1⟩ : ∃ W1, W1 = (w.drewN nq).setCell ⟨d, 1, none⟩ (.int .i64 ((k : Int) + 1)) := ⟨_, rfl⟩
    rw [← hW1]
    have hh1 : W1.heap[d]? = some (.cells #[.slice (some ⟨b, off, none⟩) ns.length c, .int .i64 ((k : Int) + 1)] 61 (0, 0)) := by
      rw [hW1]
      have e : (w.drewN nq).heap[d]? = some (.cells #[.slice (some ⟨b, off, none⟩) ns.length c, .int .i64 k] 61 (0, 0)) := Hh.out
      simp only [World.setCell, Array.getElem?_modify, e, if_true]
      rfl
    have hK : Kp [d] w W1 := by rw [hW1]; exact ((Kp.refl _ _).drewN nq).set (p := ⟨d, 1, none⟩) (by simp) _
    have hcell1 : ∀ j n, ns[j]? = some n → W1.cell? ⟨b, off + j, none⟩ = some (.int .i64 n) := fun j n hj => by
      have hc := hcell j n hj
      exact (hK.cell (World.block_lt_of_cell? _ _ hc) (by simp; omega)).trans hc
    have c3' := hcell1 k m hm
    have c1' : W1.cell? ⟨d, 0, none⟩ = some (.slice (some ⟨b, off, none⟩) ns.length c) := by rw [cell_of_row _ _ _ _ _ _ hh1]; rfl
    have c2' : W1.cell? ⟨d, 1, none⟩ = some (.int .i64 ((k : Int) + 1)) := by rw [cell_of_row _ _ _ _ _ _ hh1]; rfl
    have e1 : ∀ x' : La W1, x'.w.cell? ⟨d, 0, none⟩ = some (.slice (some ⟨b, off, none⟩) ns.length c) := fun x' => x'.cell c1'
    have e2 : ∀ x' : La W1, x'.w.cell? ⟨d, 1, none⟩ = some (.int .i64 ((k : Int) + 1)) := fun x' => x'.cell c2'
    have e3 : ∀ x' : La W1, x'.w.cell? ⟨b, off + k, none⟩ = some (.int .i64 m) := fun x' => x'.cell c3'
    have g1 : IntKind.i64.wrap ((k : Int) + 1 - 1) = (k : Int) := by rw [IntWalk.i64_in _ (by omega)]; omega
    have hr : 0 ≤ modI m n ∧ modI m n < n := by
      have : ¬ ((n : Int) < 1) := by omega
      rw [modI, if_neg this]
      exact ⟨Int.emod_nonneg _ (by omega), Int.emod_lt_of_pos _ (by omega)⟩
    obtain ⟨r, hr2⟩ : ∃ r : Nat, (r : Int) = modI m n := ⟨(modI m n).toNat, by omega⟩
    have Hm := hid hm
    have Hh1 := hid hh1
    have Hr2 := hid hr2
    clear hW1 hm c1 c2 c3 f2 hh1 hr2 c1' c2' c3'
    refine wp_region_la (by kernel_rfl) (by kernel_rfl) ?_
    repeat (go_big_quiet_step ((go_at_call 12; exact La.same (mod_any _ _ _ hmr.1 hmr.2 (by omega)))))
    refine wpq_nil ?_
    intro w2 hb2
    clear g1
    go_wp2
    go_ret
    have hh2 := (Kp.of (bs := []) hb2).heap (by simp) Hh1.out
    refine ⟨r, by have := Hr2.out; omega, by rw [Hr2.out]; rfl, ⟨ns, k + 1, _, c, hh2, hnc, by unfold maxLen; omega, by omega, hns, .inr ⟨b, off, rfl, hb, fun j n hj => ?_⟩⟩, hK.trans (Kp.of hb2)⟩
    have := hcell1 j n hj
    exact (hb2.cell (World.block_lt_of_cell? _ _ this)).trans this
  · go_enter Try.func24, Try.ntmps24
    go_wp2
    go_quiet (fail)
    go_wp2
    go_ret
    exact ⟨0, hn, rfl, hD, (Kp.refl _ _).drewN _⟩
end Go.Proofs.Ytpjpndbagkcgcaa
