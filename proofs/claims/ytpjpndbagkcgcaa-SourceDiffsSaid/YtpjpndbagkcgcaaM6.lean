/- Programs that are made: all depths; programs whose names can be added to. -/
import Derived.Test.YtpjpndbagkcgcaaM5
set_option linter.unusedVariables false
set_option linter.unusedSimpArgs false
namespace Go.Proofs.Ytpjpndbagkcgcaa
open Go.RowKit

theorem int0 (N : Nat) : Con 50 0 6 0 N := int_leaf 0 (by omega) (by omega) N
theorem intm (N : Nat) : Con 50 (-1) 6 0 N := int_leaf (-1) (by omega) (by omega) N
theorem bool0 (N : Nat) : Con 61 0 19 0 N := bool_leaf N (int0 N) (intm N)
theorem shown0 (N : Nat) : Con 62 0 6 0 N := shown_leaf N (intm N)
theorem block0 (N : Nat) (hN : N ≤ 900) : Con 32 0 154 2 N := block_any 0 (by omega) (by omega) 6 0 154 2 N 72 hN (int0 _) (intm _) (by omega) (by omega) (by omega) (by omega) (by omega)
theorem block1 (N : Nat) (hN : N ≤ 900) : Con 32 1 154 2 N := block_any 1 (by omega) (by omega) 6 0 154 2 N 72 hN (int0 _) (int0 _) (by omega) (by omega) (by omega) (by omega) (by omega)
theorem int1 (N : Nat) (hN : N ≤ 900) : Con 50 1 154 2 N := int_succ 1 (by omega) (by omega) 6 19 154 6 0 0 2 0 154 2 N (int0 _) (int0 _) (bool0 _) (block0 _ hN) (shown0 _) (by omega) (by omega) (by omega) (by omega) (by omega) (by omega) (by omega) (by omega) (by omega)
theorem bool1 (N : Nat) : Con 61 1 32 0 N := bool_deep 1 (by omega) (by omega) 6 19 0 0 32 0 N (int0 _) (int0 _) (bool0 _) (by omega) (by omega) (by omega) (by omega) (by omega) (by omega)
theorem shown1 (N : Nat) : Con 62 1 16 0 N := shown_deep 1 (by omega) (by omega) 6 6 0 0 16 0 N (int0 _) (int0 _) (shown0 _) (by omega) (by omega) (by omega) (by omega) (by omega) (by omega)
theorem block2 (N : Nat) (hN : N ≤ 800) : Con 32 2 496 8 N := block_any 2 (by omega) (by omega) 154 2 496 8 N 169 (by omega) (int0 _) (int1 _ (by omega)) (by omega) (by omega) (by omega) (by omega) (by omega)
theorem int2 (N : Nat) (hN : N ≤ 800) : Con 50 2 358 4 N := int_succ 2 (by omega) (by omega) 154 32 154 16 2 0 2 0 358 4 N (int0 _) (int1 _ (by omega)) (bool1 _) (block1 _ (by omega)) (shown1 _) (by omega) (by omega) (by omega) (by omega) (by omega) (by omega) (by omega) (by omega) (by omega)
theorem block3 (N : Nat) (hN : N ≤ 700) : Con 32 3 1108 14 N := block_any 3 (by omega) (by omega) 358 4 1108 14 N 373 (by omega) (int0 _) (int2 _ (by omega)) (by omega) (by omega) (by omega) (by omega) (by omega)
theorem int12 (dep : Int) (h1 : 1 ≤ dep) (h2 : dep ≤ 2) : Con 50 dep 358 14 700 := by
  have h : dep = 1 ∨ dep = 2 := by omega
  rcases h with rfl | rfl
  · exact (int1 700 (by omega)).more (by omega) (by omega)
  · exact (int2 700 (by omega)).more (by omega) (by omega)
theorem block13 (dep : Int) (h1 : 1 ≤ dep) (h2 : dep ≤ 3) : Con 32 dep 1108 14 700 := by
  have h : dep = 1 ∨ dep = 2 ∨ dep = 3 := by omega
  rcases h with rfl | rfl | rfl
  · exact (block1 700 (by omega)).more (by omega) (by omega)
  · exact (block2 700 (by omega)).more (by omega) (by omega)
  · exact block3 700 (by omega)
/-- with no variables -/
theorem Con.use0 {f : FuncId} {dep : Int} {m dv N : Nat} (h : Con f dep m dv N) {w : World} {d p : Nat} {g : Pg} {V : Nat} (a : DiceOk w d) (b : PrAt w d p g V) (c : d < p) (e : V + dv ≤ 9999) :
    Calls Try.prog f #[.pointer (some ⟨p, 0, none⟩), .int .i64 dep, .slice none 0 0] w (PostS m (V + dv) w d p g) := h w d p g V _ [] a b c e (Rs.nil_ _ _ _ _ (by unfold maxLen; omega)) (by simp) (by simp)
/-- with variables that are written out -/
theorem Con.useL {f : FuncId} {dep : Int} {m dv N : Nat} (h : Con f dep m dv N) {w : World} {d p : Nat} {g : Pg} {V : Nat} (a : DiceOk w d) (b : PrAt w d p g V) (c : d < p) (e : V + dv ≤ 9999) (cs : Array Value) (t : TypeId) (n : Nat) (hcs : strsB 6 cs = true) (hn : n = cs.size) (hN : n ≤ N) (hb : n ≤ 1000) :
    Calls Try.prog f #[.pointer (some ⟨p, 0, none⟩), .int .i64 dep, .slice (some ⟨w.heap.size, 0, none⟩) n n] (w.alloc (.cells cs t)) (PostS m (V + dv) w d p g) := by
  obtain ⟨xs, h1, h2⟩ := strsB_list 6 cs.toList hcs
  have hcs2 : cs = (xs.map Value.string).toArray := by rw [← h1]
  have hnx : n = xs.length := by rw [hn, hcs2]; simp
  have hlt := a.lt
  have hpl := b.lt
  have hr : Rs [d, p] (w.alloc (.cells cs t)) (.slice (some ⟨w.heap.size, 0, none⟩) n n) xs := Rs.lit [d, p] w xs t n hnx (by unfold maxLen; omega) (fun k hk => by simp at hk; omega) cs hcs2
  have hal : Below w.heap.size w (w.alloc (.cells cs t)) := (Below.refl _ _).alloc (Nat.le_refl _) _
  exact (h _ d p g V _ xs (a.of hal) (b.of hal) c e hr h2 (by omega)).mono fun e w' ⟨s, q1, q2, q3, q4, q5⟩ => ⟨s, q1, q2, q3, q4, (Kp.of hal).trans q5⟩
/-- one of some strings, of which not all are written out -/
theorem of_mem (m : Nat) (w : World) (d : Nat) (h : DiceOk w d) (xs : List ByteArray) (cs : Array Value) (t : TypeId) (n : Nat) (hcs : cs = (xs.map Value.string).toArray) (hx : ∀ x ∈ xs, x.size ≤ m) (hn : n = xs.length) (h0 : 0 < n) (hb : n ≤ 1000) :
    Calls Try.prog 25 #[.pointer (some ⟨d, 0, none⟩), .slice (some ⟨w.heap.size, 0, none⟩) n n] (w.alloc (.cells cs t)) (PostL1 m w d) := by
  have hlt := h.lt
  have hr : Rs [d] (w.alloc (.cells cs t)) (.slice (some ⟨w.heap.size, 0, none⟩) n n) xs := Rs.lit [d] w xs t n hn (by unfold maxLen; omega) (fun k hk => by simp at hk; omega) cs hcs
  have hal : Below w.heap.size w (w.alloc (.cells cs t)) := (Below.refl _ _).alloc (Nat.le_refl _) _
  exact (of_any _ d _ xs (h.of hal) hr (by omega)).mono fun e w' ⟨s, a, b, c, k⟩ => ⟨s, hx s a, b, c, (Kp.of hal).trans k⟩

/-- all blocks below B are as they were, but for some -/
def Kb (B : Nat) (bs : List Nat) (w w' : World) : Prop := w'.os = w.os ∧ w'.tape = w.tape ∧ w'.output = w.output ∧ w.heap.size ≤ w'.heap.size ∧ ∀ k, k < B → k ∉ bs → w'.heap[k]? = w.heap[k]?
section
variable {B : Nat} {bs : List Nat} {w w' w1 w2 : World}
theorem Kb.refl (B : Nat) (bs : List Nat) (w : World) : Kb B bs w w := ⟨rfl, rfl, rfl, Nat.le_refl _, fun _ _ _ => rfl⟩
theorem Kb.size (h : Kb B bs w w') : w.heap.size ≤ w'.heap.size := h.2.2.2.1
theorem Kb.trans (h : Kb B bs w w1) (k : Kb B bs w1 w2) : Kb B bs w w2 :=
  ⟨k.1.trans h.1, k.2.1.trans h.2.1, k.2.2.1.trans h.2.2.1, Nat.le_trans h.size k.size, fun j hj hn => (k.2.2.2.2 j hj hn).trans (h.2.2.2.2 j hj hn)⟩
theorem Kb.kp (h : Kb B bs w w1) (k : Kp bs w1 w2) (hB : B ≤ w.heap.size) : Kb B bs w w2 :=
  h.trans ⟨k.1, k.2.1, k.2.2.1, k.size, fun j hj hn => k.2.2.2.2 j (Nat.lt_of_lt_of_le hj (Nat.le_trans hB h.size)) hn⟩
theorem Kb.of (h : Kb B bs w w1) (k : Below w1.heap.size w1 w2) (hB : B ≤ w.heap.size) : Kb B bs w w2 := h.kp (Kp.of k) hB
theorem Kb.grown {row : Option Nat} (h : Kb B bs w w1) (hg : w1.grownBy w2 row) (hr : ∀ k, row = some k → B ≤ k) (hB : B ≤ w.heap.size) : Kb B bs w w2 :=
  h.trans ⟨hg.os, hg.tape, hg.output, hg.size, fun j hj hn => hg.block j (Nat.lt_of_lt_of_le hj (Nat.le_trans hB h.size)) (fun e => by have := hr j e.symm; omega)⟩
theorem Kb.set (h : Kb B bs w w1) {p : Addr} (hp : p.block ∈ bs ∨ B ≤ p.block) (v : Value) : Kb B bs w (w1.setCell p v) :=
  h.trans ⟨rfl, rfl, rfl, by simp [World.setCell], fun k hk hn => Below.heap_setCell w1 p v k (by
    intro e
    rcases hp with hp | hp
    · exact hn (by rw [e]; exact hp)
    · omega)⟩
end

/-- names in a row of the program's own -/
def OwN (w : World) (B K : Nat) (v : Value) : Prop := ∃ xs : List ByteArray, Own w B 9 1 v (xs.map Value.string) ∧ (∀ x ∈ xs, x.size ≤ 3) ∧ xs.length ≤ K
def Apt (a b : Value) : Prop := a.ownBlock = none ∨ a.ownBlock ≠ b.ownBlock
theorem Apt.symm {a b : Value} (h : Apt a b) : Apt b a := by
  rcases h with h | h
  · cases hb : b.ownBlock with
    | none => exact .inl hb
    | some k => right; rw [h, hb]; simp
  · exact .inr (fun e => h e.symm)
/-- a program whose names can be added to -/
structure PrO (w : World) (B d p : Nat) (g : Pg) (K V : Nat) : Prop where
  at_ : PrAt w d p g V
  n1 : OwN w B K g.fns
  n2 : OwN w B K g.consts
  n3 : OwN w B K g.macros
  a12 : Apt g.fns g.consts
  a13 : Apt g.fns g.macros
  a23 : Apt g.consts g.macros
  dp : d < p
  pB : p < B
section
variable {B d p K V V' : Nat} {g : Pg} {w w' w1 w2 : World}
theorem OwN.kp {v : Value} (h : OwN w B K v) (k : Kp [d, p] w w') (hB : d < B ∧ p < B) : OwN w' B K v := by
  obtain ⟨xs, h1, h2, h3⟩ := h
  exact ⟨xs, h1.kp k (by simp; omega), h2, h3⟩
theorem OwN.of {v : Value} (h : OwN w B K v) (hb : Below w.heap.size w w') : OwN w' B K v := by
  obtain ⟨xs, h1, h2, h3⟩ := h
  exact ⟨xs, h1.later hb, h2, h3⟩
theorem PrO.kp (h : PrO w B d p g K V) (k : Kp [d, p] w w') (hP : PrAt w' d p g V') : PrO w' B d p g K V' := by
  have hB : d < B ∧ p < B := ⟨by have := h.dp; have := h.pB; omega, h.pB⟩
  exact ⟨hP, h.n1.kp k hB, h.n2.kp k hB, h.n3.kp k hB, h.a12, h.a13, h.a23, h.dp, h.pB⟩
theorem PrO.of (h : PrO w B d p g K V) (hb : Below w.heap.size w w') : PrO w' B d p g K V := h.kp (Kp.of hb) (h.at_.of hb)
theorem PrO.of1 (h : PrO w B d p g K V) (k : Kp [d] w w') : PrO w' B d p g K V := h.kp (k.sub (sub1 d p)) (h.at_.kp k h.dp)
theorem PrO.le (h : PrO w B d p g K V) (hv : V ≤ V') : PrO w B d p g K V' := ⟨h.at_.le hv, h.n1, h.n2, h.n3, h.a12, h.a13, h.a23, h.dp, h.pB⟩
theorem OwN.names {v : Value} (h : OwN w B K v) (hB : d < B ∧ p < B) : Names w d p v := by
  obtain ⟨xs, h1, h2, h3⟩ := h
  exact ⟨xs, h1.rs (by simp; omega), h2⟩
/-- the flag for macros -/
theorem PrO.mac (h : PrO w B d p g K V) (m : Bool) : PrO (w.setCell ⟨p, 7, none⟩ (.bool m)) B d p { g with m := m } K V ∧ Kp [p] w (w.setCell ⟨p, 7, none⟩ (.bool m)) ∧ w.frozen? ⟨p, 7, none⟩ = false := by
  have hB : d < B ∧ p < B := ⟨by have := h.dp; have := h.pB; omega, h.pB⟩
  have k : Kp [p] w (w.setCell ⟨p, 7, none⟩ (.bool m)) := (Kp.refl _ _).set (p := ⟨p, 7, none⟩) (by simp) _
  have k2 : Kp [d, p] w (w.setCell ⟨p, 7, none⟩ (.bool m)) := k.sub (by simp)
  obtain ⟨v, hv, hrow, q1, q2, q3⟩ := h.at_
  refine ⟨⟨⟨v, hv, ?_, (h.n1.kp k2 hB).names hB, (h.n2.kp k2 hB).names hB, (h.n3.kp k2 hB).names hB⟩, h.n1.kp k2 hB, h.n2.kp k2 hB, h.n3.kp k2 hB, h.a12, h.a13, h.a23, h.dp, h.pB⟩, k, by simp [World.frozen?, hrow]⟩
  simp only [World.setCell, Array.getElem?_modify, hrow, if_true]
  rfl
/-- a name is added -/
theorem PrO.add_fns (h : PrO w B d p g K V) (hD : DiceOk w d) {o : Obj} {v9 : Value} {w9 : World} {xs : List ByteArray} {nm : ByteArray} (hx : ∀ x ∈ xs, x.size ≤ 3) (hl : xs.length ≤ K) (hown : Own w B 9 1 g.fns (xs.map Value.string)) (hn : nm.size ≤ 3) (ho : Own w9 B 9 1 v9 (xs.map Value.string ++ [.string nm]))
    (hg : (w.alloc o).grownBy w9 g.fns.ownBlock) (ha : v9.ownBlock = g.fns.ownBlock ∨ v9.ownBlock = some (w.alloc o).heap.size) (hBw : B ≤ w.heap.size) :
    DiceOk (w9.setCell ⟨p, 1, none⟩ v9) d ∧ PrO (w9.setCell ⟨p, 1, none⟩ v9) B d p { g with fns := v9 } (K + 1) V ∧ Kb B [d, p] w (w9.setCell ⟨p, 1, none⟩ v9) ∧ w9.cell? ⟨p, 1, none⟩ = some g.fns ∧ w9.frozen? ⟨p, 1, none⟩ = false := by
  have hB : d < B ∧ p < B := ⟨by have := h.dp; have := h.pB; omega, h.pB⟩
  have hr : ∀ k, g.fns.ownBlock = some k → B ≤ k := fun k hk => (hown.blk k hk).1
  have hal : Below w.heap.size w (w.alloc o) := (Below.refl _ _).alloc (Nat.le_refl _) _
  have hD9 : DiceOk w9 d := (hD.of hal).grown hg (fun k hk => by have := hr k hk; omega)
  have kb : Kb B [d, p] w w9 := ((Kb.refl B [d, p] w).of hal hBw).grown hg hr hBw
  have k1 : Kp [p] w9 (w9.setCell ⟨p, 1, none⟩ v9) := (Kp.refl _ _).set (p := ⟨p, 1, none⟩) (by simp) _
  have k2 : Kp [d, p] w9 (w9.setCell ⟨p, 1, none⟩ v9) := k1.sub (by simp)
  obtain ⟨v, hv, hrow, _, _, _⟩ := h.at_
  have hpl := h.at_.lt
  have hrow9 : w9.heap[p]? = some (.cells #[.pointer (some ⟨d, 0, none⟩), g.fns, g.consts, g.macros, .bool g.r, .bool g.s, .int .i64 v, .bool g.m] 65 (0, 0)) := by
    rw [hg.block p (by simp; omega) (fun e => by have := hr p e.symm; omega), Below.heap_alloc w o p hpl]
    exact hrow
  have m1 : OwN (w9.setCell ⟨p, 1, none⟩ v9) B (K + 1) v9 := OwN.kp (d := d) (p := p) ⟨xs ++ [nm], by simpa using ho, by
    intro x hx'
    simp only [List.mem_append, List.mem_cons, List.not_mem_nil, or_false] at hx'
    rcases hx' with hx' | rfl
    · exact hx _ hx'
    · exact hn, by simp; omega⟩ k2 hB
  have m2 : OwN (w9.setCell ⟨p, 1, none⟩ v9) B (K + 1) g.consts := by
    obtain ⟨ys, y1, y2, y3⟩ := h.n2
    exact OwN.kp (d := d) (p := p) ⟨ys, (y1.alloc o).kept hg h.a12.symm, y2, by omega⟩ k2 hB
  have b2 : Apt g.consts v9 := by
    rcases ha with e | e
    · have q : Apt g.consts g.fns := h.a12.symm
      unfold Apt at q ⊢
      rw [e]; exact q
    · cases hb : g.consts.ownBlock with
      | none => exact .inl hb
      | some k =>
        right
        obtain ⟨ys, y1, y2, y3⟩ := h.n2
        have := (y1.blk k hb).2.1
        rw [hb, e]
        intro q
        injection q with q
        rw [q] at this
        simp at this
        omega
  have m3 : OwN (w9.setCell ⟨p, 1, none⟩ v9) B (K + 1) g.macros := by
    obtain ⟨ys, y1, y2, y3⟩ := h.n3
    exact OwN.kp (d := d) (p := p) ⟨ys, (y1.alloc o).kept hg h.a13.symm, y2, by omega⟩ k2 hB
  have b3 : Apt g.macros v9 := by
    rcases ha with e | e
    · have q : Apt g.macros g.fns := h.a13.symm
      unfold Apt at q ⊢
      rw [e]; exact q
    · cases hb : g.macros.ownBlock with
      | none => exact .inl hb
      | some k =>
        right
        obtain ⟨ys, y1, y2, y3⟩ := h.n3
        have := (y1.blk k hb).2.1
        rw [hb, e]
        intro q
        injection q with q
        rw [q] at this
        simp at this
        omega
  refine ⟨hD9.kp k1 (by simp; exact h.dp), ⟨⟨v, hv, ?_, OwN.names m1 hB, OwN.names m2 hB, OwN.names m3 hB⟩, m1, m2, m3, b2.symm, b3.symm, h.a23, h.dp, h.pB⟩, kb.set (p := ⟨p, 1, none⟩) (by simp) _, ?_, by simp [World.frozen?, hrow9]⟩
  · simp only [World.setCell, Array.getElem?_modify, hrow9, if_true]
    rfl
  · rw [cell_of_row _ _ _ _ _ _ hrow9]; rfl
/-- a name is added -/
theorem PrO.add_consts (h : PrO w B d p g K V) (hD : DiceOk w d) {o : Obj} {v9 : Value} {w9 : World} {xs : List ByteArray} {nm : ByteArray} (hx : ∀ x ∈ xs, x.size ≤ 3) (hl : xs.length ≤ K) (hown : Own w B 9 1 g.consts (xs.map Value.string)) (hn : nm.size ≤ 3) (ho : Own w9 B 9 1 v9 (xs.map Value.string ++ [.string nm]))
    (hg : (w.alloc o).grownBy w9 g.consts.ownBlock) (ha : v9.ownBlock = g.consts.ownBlock ∨ v9.ownBlock = some (w.alloc o).heap.size) (hBw : B ≤ w.heap.size) :
    DiceOk (w9.setCell ⟨p, 2, none⟩ v9) d ∧ PrO (w9.setCell ⟨p, 2, none⟩ v9) B d p { g with consts := v9 } (K + 1) V ∧ Kb B [d, p] w (w9.setCell ⟨p, 2, none⟩ v9) ∧ w9.cell? ⟨p, 2, none⟩ = some g.consts ∧ w9.frozen? ⟨p, 2, none⟩ = false := by
  have hB : d < B ∧ p < B := ⟨by have := h.dp; have := h.pB; omega, h.pB⟩
  have hr : ∀ k, g.consts.ownBlock = some k → B ≤ k := fun k hk => (hown.blk k hk).1
  have hal : Below w.heap.size w (w.alloc o) := (Below.refl _ _).alloc (Nat.le_refl _) _
  have hD9 : DiceOk w9 d := (hD.of hal).grown hg (fun k hk => by have := hr k hk; omega)
  have kb : Kb B [d, p] w w9 := ((Kb.refl B [d, p] w).of hal hBw).grown hg hr hBw
  have k1 : Kp [p] w9 (w9.setCell ⟨p, 2, none⟩ v9) := (Kp.refl _ _).set (p := ⟨p, 2, none⟩) (by simp) _
  have k2 : Kp [d, p] w9 (w9.setCell ⟨p, 2, none⟩ v9) := k1.sub (by simp)
  obtain ⟨v, hv, hrow, _, _, _⟩ := h.at_
  have hpl := h.at_.lt
  have hrow9 : w9.heap[p]? = some (.cells #[.pointer (some ⟨d, 0, none⟩), g.fns, g.consts, g.macros, .bool g.r, .bool g.s, .int .i64 v, .bool g.m] 65 (0, 0)) := by
    rw [hg.block p (by simp; omega) (fun e => by have := hr p e.symm; omega), Below.heap_alloc w o p hpl]
    exact hrow
  have m2 : OwN (w9.setCell ⟨p, 2, none⟩ v9) B (K + 1) v9 := OwN.kp (d := d) (p := p) ⟨xs ++ [nm], by simpa using ho, by
    intro x hx'
    simp only [List.mem_append, List.mem_cons, List.not_mem_nil, or_false] at hx'
    rcases hx' with hx' | rfl
    · exact hx _ hx'
    · exact hn, by simp; omega⟩ k2 hB
  have m1 : OwN (w9.setCell ⟨p, 2, none⟩ v9) B (K + 1) g.fns := by
    obtain ⟨ys, y1, y2, y3⟩ := h.n1
    exact OwN.kp (d := d) (p := p) ⟨ys, (y1.alloc o).kept hg h.a12, y2, by omega⟩ k2 hB
  have b1 : Apt g.fns v9 := by
    rcases ha with e | e
    · have q : Apt g.fns g.consts := h.a12
      unfold Apt at q ⊢
      rw [e]; exact q
    · cases hb : g.fns.ownBlock with
      | none => exact .inl hb
      | some k =>
        right
        obtain ⟨ys, y1, y2, y3⟩ := h.n1
        have := (y1.blk k hb).2.1
        rw [hb, e]
        intro q
        injection q with q
        rw [q] at this
        simp at this
        omega
  have m3 : OwN (w9.setCell ⟨p, 2, none⟩ v9) B (K + 1) g.macros := by
    obtain ⟨ys, y1, y2, y3⟩ := h.n3
    exact OwN.kp (d := d) (p := p) ⟨ys, (y1.alloc o).kept hg h.a23.symm, y2, by omega⟩ k2 hB
  have b3 : Apt g.macros v9 := by
    rcases ha with e | e
    · have q : Apt g.macros g.consts := h.a23.symm
      unfold Apt at q ⊢
      rw [e]; exact q
    · cases hb : g.macros.ownBlock with
      | none => exact .inl hb
      | some k =>
        right
        obtain ⟨ys, y1, y2, y3⟩ := h.n3
        have := (y1.blk k hb).2.1
        rw [hb, e]
        intro q
        injection q with q
        rw [q] at this
        simp at this
        omega
  refine ⟨hD9.kp k1 (by simp; exact h.dp), ⟨⟨v, hv, ?_, OwN.names m1 hB, OwN.names m2 hB, OwN.names m3 hB⟩, m1, m2, m3, b1, h.a13, b3.symm, h.dp, h.pB⟩, kb.set (p := ⟨p, 2, none⟩) (by simp) _, ?_, by simp [World.frozen?, hrow9]⟩
  · simp only [World.setCell, Array.getElem?_modify, hrow9, if_true]
    rfl
  · rw [cell_of_row _ _ _ _ _ _ hrow9]; rfl
/-- a name is added -/
theorem PrO.add_macros (h : PrO w B d p g K V) (hD : DiceOk w d) {o : Obj} {v9 : Value} {w9 : World} {xs : List ByteArray} {nm : ByteArray} (hx : ∀ x ∈ xs, x.size ≤ 3) (hl : xs.length ≤ K) (hown : Own w B 9 1 g.macros (xs.map Value.string)) (hn : nm.size ≤ 3) (ho : Own w9 B 9 1 v9 (xs.map Value.string ++ [.string nm]))
    (hg : (w.alloc o).grownBy w9 g.macros.ownBlock) (ha : v9.ownBlock = g.macros.ownBlock ∨ v9.ownBlock = some (w.alloc o).heap.size) (hBw : B ≤ w.heap.size) :
    DiceOk (w9.setCell ⟨p, 3, none⟩ v9) d ∧ PrO (w9.setCell ⟨p, 3, none⟩ v9) B d p { g with macros := v9 } (K + 1) V ∧ Kb B [d, p] w (w9.setCell ⟨p, 3, none⟩ v9) ∧ w9.cell? ⟨p, 3, none⟩ = some g.macros ∧ w9.frozen? ⟨p, 3, none⟩ = false := by
  have hB : d < B ∧ p < B := ⟨by have := h.dp; have := h.pB; omega, h.pB⟩
  have hr : ∀ k, g.macros.ownBlock = some k → B ≤ k := fun k hk => (hown.blk k hk).1
  have hal : Below w.heap.size w (w.alloc o) := (Below.refl _ _).alloc (Nat.le_refl _) _
  have hD9 : DiceOk w9 d := (hD.of hal).grown hg (fun k hk => by have := hr k hk; omega)
  have kb : Kb B [d, p] w w9 := ((Kb.refl B [d, p] w).of hal hBw).grown hg hr hBw
  have k1 : Kp [p] w9 (w9.setCell ⟨p, 3, none⟩ v9) := (Kp.refl _ _).set (p := ⟨p, 3, none⟩) (by simp) _
  have k2 : Kp [d, p] w9 (w9.setCell ⟨p, 3, none⟩ v9) := k1.sub (by simp)
  obtain ⟨v, hv, hrow, _, _, _⟩ := h.at_
  have hpl := h.at_.lt
  have hrow9 : w9.heap[p]? = some (.cells #[.pointer (some ⟨d, 0, none⟩), g.fns, g.consts, g.macros, .bool g.r, .bool g.s, .int .i64 v, .bool g.m] 65 (0, 0)) := by
    rw [hg.block p (by simp; omega) (fun e => by have := hr p e.symm; omega), Below.heap_alloc w o p hpl]
    exact hrow
  have m3 : OwN (w9.setCell ⟨p, 3, none⟩ v9) B (K + 1) v9 := OwN.kp (d := d) (p := p) ⟨xs ++ [nm], by simpa using ho, by
    intro x hx'
    simp only [List.mem_append, List.mem_cons, List.not_mem_nil, or_false] at hx'
    rcases hx' with hx' | rfl
    · exact hx _ hx'
    · exact hn, by simp; omega⟩ k2 hB
  have m1 : OwN (w9.setCell ⟨p, 3, none⟩ v9) B (K + 1) g.fns := by
    obtain ⟨ys, y1, y2, y3⟩ := h.n1
    exact OwN.kp (d := d) (p := p) ⟨ys, (y1.alloc o).kept hg h.a13, y2, by omega⟩ k2 hB
  have b1 : Apt g.fns v9 := by
    rcases ha with e | e
    · have q : Apt g.fns g.macros := h.a13
      unfold Apt at q ⊢
      rw [e]; exact q
    · cases hb : g.fns.ownBlock with
      | none => exact .inl hb
      | some k =>
        right
        obtain ⟨ys, y1, y2, y3⟩ := h.n1
        have := (y1.blk k hb).2.1
        rw [hb, e]
        intro q
        injection q with q
        rw [q] at this
        simp at this
        omega
  have m2 : OwN (w9.setCell ⟨p, 3, none⟩ v9) B (K + 1) g.consts := by
    obtain ⟨ys, y1, y2, y3⟩ := h.n2
    exact OwN.kp (d := d) (p := p) ⟨ys, (y1.alloc o).kept hg h.a23, y2, by omega⟩ k2 hB
  have b2 : Apt g.consts v9 := by
    rcases ha with e | e
    · have q : Apt g.consts g.macros := h.a23
      unfold Apt at q ⊢
      rw [e]; exact q
    · cases hb : g.consts.ownBlock with
      | none => exact .inl hb
      | some k =>
        right
        obtain ⟨ys, y1, y2, y3⟩ := h.n2
        have := (y1.blk k hb).2.1
        rw [hb, e]
        intro q
        injection q with q
        rw [q] at this
        simp at this
        omega
  refine ⟨hD9.kp k1 (by simp; exact h.dp), ⟨⟨v, hv, ?_, OwN.names m1 hB, OwN.names m2 hB, OwN.names m3 hB⟩, m1, m2, m3, h.a12, b1, b2, h.dp, h.pB⟩, kb.set (p := ⟨p, 3, none⟩) (by simp) _, ?_, by simp [World.frozen?, hrow9]⟩
  · simp only [World.setCell, Array.getElem?_modify, hrow9, if_true]
    rfl
  · rw [cell_of_row _ _ _ _ _ _ hrow9]; rfl
end
end Go.Proofs.Ytpjpndbagkcgcaa
