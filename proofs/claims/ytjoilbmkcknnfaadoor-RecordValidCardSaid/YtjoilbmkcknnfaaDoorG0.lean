/- A frame for walks: worlds that keep all but some blocks; how data lie in cells; what a call holds. -/
import Derived.Test.YtjoilbmkcknnfaaDoorW
set_option linter.unusedVariables false
set_option linter.unusedSimpArgs false
namespace Go.Proofs.YtjoilbmkcknnfaaDoor
open Go.RowKit

/-- nothing that there was has turned, but in the blocks of T -/
structure Kt (T : Nat → Prop) (w w' : World) : Prop where
  os : w'.os = w.os
  tape : w'.tape = w.tape
  output : w'.output = w.output
  size : w.heap.size ≤ w'.heap.size
  block : ∀ k, k < w.heap.size → ¬ T k → w'.heap[k]? = w.heap[k]?
/-- no block -/
def No : Nat → Prop := fun _ => False
theorem Kt.refl (T : Nat → Prop) (w : World) : Kt T w w := ⟨rfl, rfl, rfl, Nat.le_refl _, fun _ _ _ => rfl⟩
theorem Kt.trans {T : Nat → Prop} {a b c : World} (h : Kt T a b) (k : Kt T b c) : Kt T a c :=
  ⟨k.os.trans h.os, k.tape.trans h.tape, k.output.trans h.output, Nat.le_trans h.size k.size, fun i hi hn => (k.block i (Nat.lt_of_lt_of_le hi h.size) hn).trans (h.block i hi hn)⟩
theorem Kt.mono {T T' : Nat → Prop} {w w' : World} (h : Kt T w w') (hT : ∀ k, T k → T' k) : Kt T' w w' := ⟨h.os, h.tape, h.output, h.size, fun k hk hn => h.block k hk (fun ht => hn (hT k ht))⟩
theorem Kt.no {T : Nat → Prop} {w w' : World} (h : Kt No w w') : Kt T w w' := h.mono fun _ h => h.elim
/-- a later step turns only blocks of T, or new ones -/
theorem Kt.step {M T : Nat → Prop} {a b c : World} (h : Kt M a b) (k : Kt T b c) (hT : ∀ k, T k → M k ∨ a.heap.size ≤ k) : Kt M a c :=
  ⟨k.os.trans h.os, k.tape.trans h.tape, k.output.trans h.output, Nat.le_trans h.size k.size, fun i hi hn => (k.block i (Nat.lt_of_lt_of_le hi h.size) (fun ht => by rcases hT i ht with h1 | h1; exact hn h1; omega)).trans (h.block i hi hn)⟩
theorem Kt.below {w w' : World} (h : Kt No w w') : Below w.heap.size w w' := ⟨h.os, h.tape, h.output, h.size, fun k hk => h.block k hk (fun h => h)⟩
theorem Kt.ofBelow {w w' : World} (h : Below w.heap.size w w') : Kt No w w' := ⟨h.os, h.tape, h.output, h.size, fun k hk _ => h.block k hk⟩
theorem Kt.drew (w : World) : Kt No w w.drew := ⟨rfl, rfl, rfl, Nat.le_refl _, fun _ _ _ => rfl⟩
theorem Kt.drewN (w : World) (n : Nat) : Kt No w (w.drewN n) := ⟨rfl, rfl, rfl, Nat.le_refl _, fun _ _ _ => rfl⟩
theorem Kt.alloc (w : World) (o : Obj) : Kt No w (w.alloc o) := ⟨rfl, rfl, rfl, by simp, fun k hk _ => Below.heap_alloc w o k hk⟩
theorem Kt.setCell (w : World) (p : Addr) (v : Value) : Kt (fun k => k = p.block) w (w.setCell p v) :=
  ⟨rfl, rfl, rfl, by simp [World.setCell], fun k _ hn => Below.heap_setCell w p v k hn⟩
theorem Kt.setCells (w : World) (g o : Nat) (vs : List Value) : Kt (fun k => k = g) w (w.setCells g o vs) :=
  ⟨(setCells_rest g vs o w).1, (setCells_rest g vs o w).2.1, (setCells_rest g vs o w).2.2, by rw [setCells_size]; exact Nat.le_refl _, fun k _ hn => setCells_far g vs o w k hn⟩
theorem Kt.grown {w w' : World} {row : Option Nat} (h : w.grownBy w' row) : Kt (fun k => row = some k) w w' :=
  ⟨h.os, h.tape, h.output, h.size, fun k hk hn => h.block k hk (fun e => hn e.symm)⟩
theorem Kt.cell {T : Nat → Prop} {w w' : World} (h : Kt T w w') {p : Addr} (hl : p.block < w.heap.size) (hn : ¬ T p.block) : w'.cell? p = w.cell? p := World.cell?_of_block (w := w) (h.block _ hl hn)

/-- what is asked to carry a fact to a later world: new blocks may be added to those that turn -/
def Nw (T T' : Nat → Prop) (w : World) : Prop := ∀ k, T' k → T k ∨ w.heap.size ≤ k
theorem Nw.refl (T : Nat → Prop) (w : World) : Nw T T w := fun _ h => .inl h

/-- a fact about blocks that do not turn -/
structure Fact where
  p : (Nat → Prop) → World → Prop
  keep : ∀ {T T' : Nat → Prop} {w w' : World}, p T w → Kt T w w' → Nw T T' w → p T' w'

/-- how data of a type lie in cells -/
structure Rep (α : Type) where
  size : Nat
  rel : (Nat → Prop) → World → List Value → α → Prop
  len : ∀ {T w cs x}, rel T w cs x → cs.length = size
  one : ∀ {T w cs x}, rel T w cs x → ∀ u ∈ cs, u.oneCell' = true
  keep : ∀ {T T' : Nat → Prop} {w w' : World} {cs x}, rel T w cs x → Kt T w w' → Nw T T' w → rel T' w' cs x

/-- the cells that lie from an address on, in a block that does not turn -/
def CellsAt (T : Nat → Prop) (w : World) (b o : Nat) (cs : List Value) : Prop := ¬ T b ∧ b < w.heap.size ∧ ∀ j u, cs[j]? = some u → w.cell? ⟨b, o + j, none⟩ = some u
theorem CellsAt.keep {T T' : Nat → Prop} {w w' : World} {b o : Nat} {cs : List Value} (h : CellsAt T w b o cs) (k : Kt T w w') (hn : Nw T T' w) : CellsAt T' w' b o cs :=
  ⟨fun ht => by rcases hn b ht with h1 | h1; exact h.1 h1; have := h.2.1; omega, Nat.lt_of_lt_of_le h.2.1 k.size, fun j u hu => (k.cell (p := ⟨b, o + j, none⟩) h.2.1 h.1).trans (h.2.2 j u hu)⟩
def CellsF (b o : Nat) (cs : List Value) : Fact := ⟨fun T w => CellsAt T w b o cs, fun h k n => h.keep k n⟩
theorem CellsAt.sub {T : Nat → Prop} {w : World} {b o : Nat} {cs ds : List Value} (k : Nat) (h : CellsAt T w b o cs) (hd : ∀ j u, ds[j]? = some u → cs[k + j]? = some u) : CellsAt T w b (o + k) ds :=
  ⟨h.1, h.2.1, fun j u hu => by have := h.2.2 (k + j) u (hd j u hu); rwa [← Nat.add_assoc] at this⟩

/-- a slice that reads as a list -/
def SlR {α : Type} (R : Rep α) (T : Nat → Prop) (w : World) (v : Value) (xs : List α) : Prop :=
  ∃ A c, v = .slice A xs.length c ∧ xs.length ≤ c ∧ c ≤ maxLen ∧
    (xs = [] ∨ ∃ b off, A = some ⟨b, off, none⟩ ∧ ∀ k x, xs[k]? = some x → ∃ cs, R.rel T w cs x ∧ CellsAt T w b (off + k * R.size) cs)
theorem SlR.keep {α : Type} {R : Rep α} {T T' : Nat → Prop} {w w' : World} {v : Value} {xs : List α} (h : SlR R T w v xs) (k : Kt T w w') (hn : Nw T T' w) : SlR R T' w' v xs := by
  obtain ⟨A, c, e, h1, h2, h3⟩ := h
  refine ⟨A, c, e, h1, h2, ?_⟩
  rcases h3 with h3 | ⟨b, off, e2, hc⟩
  · exact .inl h3
  · refine .inr ⟨b, off, e2, fun i x hx => ?_⟩
    obtain ⟨cs, ha, hb⟩ := hc i x hx
    exact ⟨cs, R.keep ha k hn, hb.keep k hn⟩
theorem SlR.sub {α : Type} {R : Rep α} {T T' : Nat → Prop} {w : World} {v : Value} {xs : List α} (h : SlR R T w v xs) (hn : Nw T T' w) : SlR R T' w v xs := h.keep (Kt.refl _ _) hn
theorem SlR.nil_ {α : Type} (R : Rep α) (T : Nat → Prop) (w : World) : SlR R T w (.slice none 0 0) [] := ⟨none, 0, rfl, Nat.le_refl _, Nat.zero_le _, .inl rfl⟩
theorem SlR.one {α : Type} {R : Rep α} {T : Nat → Prop} {w : World} {v : Value} {xs : List α} (h : SlR R T w v xs) : v.oneCell' = true := by obtain ⟨A, c, rfl, _⟩ := h; rfl
def SlF {α : Type} (R : Rep α) (v : Value) (xs : List α) : Fact := ⟨fun T w => SlR R T w v xs, fun h k n => h.keep k n⟩
theorem SlR.len {α : Type} {R : Rep α} {T : Nat → Prop} {w : World} {v : Value} {xs : List α} (h : SlR R T w v xs) : ∃ A c, v = .slice A xs.length c ∧ xs.length ≤ c ∧ c ≤ maxLen := by obtain ⟨A, c, e, h1, h2, _⟩ := h; exact ⟨A, c, e, h1, h2⟩
/-- an element, by Go's index -/
def getI {α : Type} (xs : List α) (i : Int) : Option α := if 0 ≤ i then xs[i.toNat]? else none
theorem getI_some {α : Type} {xs : List α} {i : Int} {x : α} (h : getI xs i = some x) : 0 ≤ i ∧ i < xs.length ∧ xs[i.toNat]? = some x := by
  unfold getI at h
  split at h
  · have := (List.getElem?_eq_some_iff.1 h).1
    exact ⟨by omega, by omega, h⟩
  · cases h

def Rep.slice {α : Type} (R : Rep α) : Rep (List α) where
  size := 1
  rel := fun T w cs xs => ∃ v, cs = [v] ∧ SlR R T w v xs
  len := by rintro _ _ _ _ ⟨v, rfl, _⟩; rfl
  one := by rintro _ _ _ _ ⟨v, rfl, h⟩ u hu; simp only [List.mem_cons, List.not_mem_nil, or_false] at hu; subst hu; exact h.one
  keep := by rintro _ _ _ _ _ _ ⟨v, rfl, h⟩ k n; exact ⟨v, rfl, h.keep k n⟩
def Rep.int (k : IntKind) : Rep Int where
  size := 1
  rel := fun _ _ cs x => cs = [.int k x]
  len := by rintro _ _ _ _ rfl; rfl
  one := by rintro _ _ _ _ rfl u hu; simp only [List.mem_cons, List.not_mem_nil, or_false] at hu; subst hu; rfl
  keep := fun h _ _ => h
def Rep.bool : Rep Bool where
  size := 1
  rel := fun _ _ cs x => cs = [.bool x]
  len := by rintro _ _ _ _ rfl; rfl
  one := by rintro _ _ _ _ rfl u hu; simp only [List.mem_cons, List.not_mem_nil, or_false] at hu; subst hu; rfl
  keep := fun h _ _ => h
def Rep.str : Rep ByteArray where
  size := 1
  rel := fun _ _ cs x => cs = [.string x]
  len := by rintro _ _ _ _ rfl; rfl
  one := by rintro _ _ _ _ rfl u hu; simp only [List.mem_cons, List.not_mem_nil, or_false] at hu; subst hu; rfl
  keep := fun h _ _ => h
def Rep.prod {α β : Type} (R : Rep α) (S : Rep β) : Rep (α × β) where
  size := R.size + S.size
  rel := fun T w cs x => ∃ c d, cs = c ++ d ∧ R.rel T w c x.1 ∧ S.rel T w d x.2
  len := by rintro _ _ _ _ ⟨c, d, rfl, h1, h2⟩; rw [List.length_append, R.len h1, S.len h2]
  one := by rintro _ _ _ _ ⟨c, d, rfl, h1, h2⟩ u hu; rcases List.mem_append.1 hu with h | h; exact R.one h1 u h; exact S.one h2 u h
  keep := by rintro _ _ _ _ _ _ ⟨c, d, rfl, h1, h2⟩ k n; exact ⟨c, d, rfl, R.keep h1 k n, S.keep h2 k n⟩
/-- another spelling of the data -/
def Rep.via {α β : Type} (R : Rep α) (f : β → α) : Rep β where
  size := R.size
  rel := fun T w cs x => R.rel T w cs (f x)
  len := fun h => R.len h
  one := fun h => R.one h
  keep := fun h k n => R.keep h k n

/-- the cells of a row read as a list -/
def RowsOk {α : Type} (R : Rep α) (T : Nat → Prop) (w : World) (cl : List Value) (xs : List α) : Prop := cl.length = xs.length * R.size ∧ ∀ k x, xs[k]? = some x → ∃ cs, R.rel T w cs x ∧ ∀ j u, cs[j]? = some u → cl[k * R.size + j]? = some u
theorem RowsOk.keep {α : Type} {R : Rep α} {T T' : Nat → Prop} {w w' : World} {cl : List Value} {xs : List α} (h : RowsOk R T w cl xs) (k : Kt T w w') (hn : Nw T T' w) : RowsOk R T' w' cl xs :=
  ⟨h.1, fun i x hx => by obtain ⟨cs, h1, h2⟩ := h.2 i x hx; exact ⟨cs, R.keep h1 k hn, h2⟩⟩
def RowsF {α : Type} (R : Rep α) (cl : List Value) (xs : List α) : Fact := ⟨fun T w => RowsOk R T w cl xs, fun h k n => h.keep k n⟩
theorem RowsOk.nil_ {α : Type} (R : Rep α) (T : Nat → Prop) (w : World) : RowsOk R T w [] [] := ⟨by simp, fun k x hx => by simp at hx⟩
theorem RowsOk.append {α : Type} {R : Rep α} {T : Nat → Prop} {w : World} {cl dl : List Value} {xs ys : List α} (h : RowsOk R T w cl xs) (k : RowsOk R T w dl ys) : RowsOk R T w (cl ++ dl) (xs ++ ys) := by
  refine ⟨by rw [List.length_append, List.length_append, h.1, k.1, Nat.add_mul], fun i x hx => ?_⟩
  by_cases hi : i < xs.length
  · rw [List.getElem?_append_left hi] at hx
    obtain ⟨cs, h1, h2⟩ := h.2 i x hx
    refine ⟨cs, h1, fun j u hu => ?_⟩
    have := h2 j u hu
    rw [List.getElem?_append_left (List.getElem?_eq_some_iff.1 this).1]; exact this
  · rw [List.getElem?_append_right (by omega)] at hx
    obtain ⟨cs, h1, h2⟩ := k.2 _ x hx
    refine ⟨cs, h1, fun j u hu => ?_⟩
    have := h2 j u hu
    have he : xs.length * R.size + ((i - xs.length) * R.size + j) = i * R.size + j := by
      rw [← Nat.add_assoc, ← Nat.add_mul]; congr 2; omega
    rw [List.getElem?_append_right (by rw [h.1, ← he]; omega), h.1, ← he, Nat.add_sub_cancel_left]
    exact this
theorem RowsOk.one_ {α : Type} {R : Rep α} {T : Nat → Prop} {w : World} {cs : List Value} {x : α} (h : R.rel T w cs x) : RowsOk R T w cs [x] := by
  refine ⟨by rw [R.len h]; simp, fun k y hy => ?_⟩
  cases k with
  | zero => simp only [List.getElem?_cons_zero, Option.some.injEq] at hy; subst hy; exact ⟨cs, h, fun j u hu => by rw [Nat.zero_mul, Nat.zero_add]; exact hu⟩
  | succ k => simp at hy
theorem RowsOk.cell {α : Type} {R : Rep α} {T : Nat → Prop} {w : World} {cl : List Value} {xs : List α} (hs : 0 < R.size) (h : RowsOk R T w cl xs) : ∀ u ∈ cl, u.oneCell' = true := by
  intro u hu
  obtain ⟨i, hi, e⟩ := List.getElem_of_mem hu
  have hk : i / R.size < xs.length := by rw [Nat.div_lt_iff_lt_mul hs, ← h.1]; exact hi
  obtain ⟨cs, h1, h2⟩ := h.2 _ _ (List.getElem?_eq_getElem hk)
  have hl := R.len h1
  have hj : i % R.size < cs.length := by rw [hl]; exact Nat.mod_lt _ hs
  have := h2 _ _ (List.getElem?_eq_getElem hj)
  rw [Nat.div_add_mod' i R.size, List.getElem?_eq_getElem hi, e] at this
  injection this with this
  rw [this]
  exact R.one h1 _ (List.getElem_mem hj)
/-- an own row, read -/
theorem Own.rd {α : Type} {R : Rep α} {T : Nat → Prop} {w : World} {B : Nat} {e : TypeId} {v : Value} {cl : List Value} {xs : List α} (hs : 0 < R.size) (h : Own w B e R.size v cl) (hr : RowsOk R T w cl xs) (hT : ∀ k, v.ownBlock = some k → ¬ T k) : SlR R T w v xs := by
  rcases h with ⟨rfl, rfl⟩ | ⟨g, off, n, cap, cs, rfl, h1, hb, hg, hnc, hc, hsz, hcs⟩
  · have hl := hr.1
    have : xs = [] := by
      cases xs with
      | nil => rfl
      | cons x r => simp [Nat.add_mul] at hl; omega
    subst this
    exact SlR.nil_ _ _ _
  · have hn : n = xs.length := Nat.mul_right_cancel hs (h1.symm.trans hr.1)
    subst hn
    refine ⟨_, cap, rfl, hnc, hc, .inr ⟨g, off, rfl, fun k x hx => ?_⟩⟩
    obtain ⟨ds, h2, h3⟩ := hr.2 k x hx
    refine ⟨ds, h2, hT g rfl, hg.lt, fun j u hu => ?_⟩
    rw [hg.cell, Nat.add_assoc]
    exact hcs _ u (h3 j u hu)
/-- what lies behind a slice, as a row of cells -/
theorem SlR.rows {α : Type} {R : Rep α} {T : Nat → Prop} {w : World} {A : Option Addr} {n c : Nat} {xs : List α} (hs : 0 < R.size) (h : SlR R T w (.slice A n c) xs) : n = xs.length ∧ ∃ cl, At w A cl ∧ RowsOk R T w cl xs := by
  obtain ⟨A', c', e, h1, h2, h3⟩ := h
  injection e with e1 e2 e3
  subst e1 e2 e3
  refine ⟨rfl, ?_⟩
  rcases h3 with rfl | ⟨b, off, rfl, hc⟩
  · exact ⟨[], .inl rfl, RowsOk.nil_ _ _ _⟩
  · have key : ∀ (ys : List α) (o : Nat), (∀ k x, ys[k]? = some x → ∃ cs, R.rel T w cs x ∧ CellsAt T w b (o + k * R.size) cs) → ∃ cl : List Value, (∀ j u, cl[j]? = some u → w.cell? ⟨b, o + j, none⟩ = some u) ∧ RowsOk R T w cl ys := by
      intro ys
      induction ys with
      | nil => intro o _; exact ⟨[], fun j u hu => by simp at hu, RowsOk.nil_ _ _ _⟩
      | cons y r ih =>
        intro o ho
        obtain ⟨cs, g1, g2⟩ := ho 0 y rfl
        obtain ⟨cl, g3, g4⟩ := ih (o + R.size) (fun k x hx => by
          obtain ⟨ds, g5, g6⟩ := ho (k + 1) x (by simpa using hx)
          exact ⟨ds, g5, by rwa [show o + (k + 1) * R.size = o + R.size + k * R.size by rw [Nat.add_mul]; omega] at g6⟩)
        refine ⟨cs ++ cl, fun j u hu => ?_, (RowsOk.one_ g1).append g4⟩
        have hl := R.len g1
        by_cases hj : j < cs.length
        · rw [List.getElem?_append_left hj] at hu
          have := g2.2.2 j u hu
          rwa [Nat.zero_mul, Nat.add_zero] at this
        · rw [List.getElem?_append_right (by omega)] at hu
          have := g3 _ u hu
          rwa [show o + R.size + (j - cs.length) = o + j by omega] at this
    obtain ⟨cl, g1, g2⟩ := key xs off hc
    exact ⟨cl, .inr ⟨b, off, rfl, g1⟩, g2⟩
/-- an element of a slice -/
theorem SlR.get {α : Type} {R : Rep α} {T : Nat → Prop} {w : World} {v : Value} {xs : List α} (h : SlR R T w v xs) {i : Int} {x : α} (hx : getI xs i = some x) :
    ∃ b o c, v = .slice (some ⟨b, o, none⟩) xs.length c ∧ xs.length ≤ c ∧ ∃ cs, R.rel T w cs x ∧ CellsAt T w b (o + i.toNat * R.size) cs := by
  obtain ⟨hi0, hi1, hi2⟩ := getI_some hx
  obtain ⟨A, c, rfl, h1, h2, h3⟩ := h
  rcases h3 with h3 | ⟨b, off, rfl, hc⟩
  · subst h3; simp at hi1; omega
  · exact ⟨b, off, c, rfl, h1, hc _ _ hi2⟩
end Go.Proofs.YtjoilbmkcknnfaaDoor
