/- Several texts in one. -/
import Derived.WalkKit
import Derived.WalkSpells
import Derived.WalkLawsBesides
import Derived.BigQuiet
import Derived.Deep.QuietTactic
import Derived.Deep.CutBlock
import Derived.Deep.DeepCutAuto
import Derived.Laws.OwnMore
import Derived.Laws.IdiomCopy
import Derived.ArgAppend
import Derived.Deep.Draws
import Derived.RegionTactic
import Derived.Deep.RegionWith
import Derived.Deep.RegionHeld3
import Derived.Deep.RegionLaw
import Derived.Laws.Rows
import Derived.Laws.Tables
import Derived.Laws.CopyRow
import Derived.Laws.MakeOwn
import Derived.Great.BuildSlice
import Derived.Orders
/- Words for memory, over any program: slices that read as lists, rows that the call owns, append. -/
set_option linter.unusedVariables false
set_option linter.unusedSimpArgs false
namespace Go.Proofs.YtpbbnkpplcnaoaaGreatDoor
open Go.RowKit

theorem ret_int {k : IntKind} {a b : Int} (h : a = b) : Ending.returned (.int k a) = .returned (.int k b) := by rw [h]
theorem ret_bool {a b : Bool} (h : a = b) : Ending.returned (.bool a) = .returned (.bool b) := by rw [h]
theorem ret2 {a a' b b' : Value} (h1 : a = a') (h2 : b = b') : Ending.returned (.tuple #[a, b]) = .returned (.tuple #[a', b']) := by rw [h1, h2]
theorem ret3 {a a' b b' c c' : Value} (h1 : a = a') (h2 : b = b') (h3 : c = c') : Ending.returned (.tuple #[a, b, c]) = .returned (.tuple #[a', b', c']) := by rw [h1, h2, h3]
theorem int_eq {k : IntKind} {a b : Int} (h : a = b) : Value.int k a = Value.int k b := by rw [h]
theorem bool_eq {a b : Bool} (h : a = b) : Value.bool a = Value.bool b := by rw [h]
theorem hid {p : Prop} (h : p) : Hid p := h

/-- the world but for draws -/
def Dr (w w' : World) : Prop := ∃ n, w' = w.drewN n
theorem Dr.refl (w : World) : Dr w w := ⟨0, rfl⟩
theorem Dr.next {w a : World} (h : Dr w a) (n : Nat) : Dr w (a.drewN n) := by
  obtain ⟨m, rfl⟩ := h; exact ⟨m + n, by rw [World.drewN_drewN]⟩
theorem Dr.trans {w a b : World} (h : Dr w a) (k : Dr a b) : Dr w b := by
  obtain ⟨m, rfl⟩ := k; exact h.next m
theorem Dr.below {w a : World} (h : Dr w a) (B : Nat) : Below B w a := by
  obtain ⟨m, rfl⟩ := h; exact ⟨rfl, rfl, rfl, Nat.le_refl _, fun _ _ => rfl⟩
theorem below_drewN {B : Nat} {a w : World} (h : Below B a w) (n : Nat) : Below B a (w.drewN n) := ⟨h.os, h.tape, h.output, h.size, h.block⟩
theorem below_dr {B : Nat} {a w w' : World} (h : Below B a w) (k : Dr w w') : Below B a w' := by obtain ⟨m, rfl⟩ := k; exact below_drewN h m
/-- two steps, the second of which keeps all that there was -/
theorem below_step {a w w' : World} (h : Below a.heap.size a w) (k : Below w.heap.size w w') : Below a.heap.size a w' := h.trans (k.mono h.size)

/-- strings -/
theorem size_eq (s : ByteArray) : s.size = s.toList.length := by rw [ByteArray.toList_eq, Array.length_toList]; rfl
theorem str_ext {a b : ByteArray} (h : a.toList = b.toList) : a = b := by
  rw [ByteArray.toList_eq, ByteArray.toList_eq] at h
  cases a; cases b; congr; exact Array.toList_inj.1 h
theorem str_eq {a b : ByteArray} (h : a.toList = b.toList) : Value.string a = Value.string b := by rw [str_ext h]
theorem get_eq (s : ByteArray) (k : Nat) (h : k < s.size) : s.toList.getD k 0 = s[k] := by
  have : k < s.toList.length := by rw [← size_eq]; exact h
  rw [List.getD_eq_getElem?_getD, List.getElem?_eq_getElem this]; simp [ByteArray.toList_eq]; rfl
theorem take_snoc (s : ByteArray) (k : Nat) (h : k < s.size) : s.toList.take (k + 1) = s.toList.take k ++ [s[k]] := by
  have h1 : k < s.toList.length := by rw [← size_eq]; exact h
  rw [List.take_succ_eq_append_getElem h1, ← get_eq s k h, List.getD_eq_getElem?_getD, List.getElem?_eq_getElem h1]; rfl
theorem extract_toList (s : ByteArray) (a b : Nat) : (s.extract a b).toList = (s.toList.take b).drop a := by
  rw [ByteArray.toList_eq, ByteArray.toList_eq, ByteArray.data_extract, Array.toList_extract, List.extract_eq_take_drop, List.drop_take]
theorem toNat_eq {a b : UInt8} (h : a = b) : ((a.toNat : Int) == (b.toNat : Int)) = true := by rw [h]; simp
theorem toNat_ne {a b : UInt8} (h : ¬ a = b) : ((a.toNat : Int) == (b.toNat : Int)) = false := by
  rw [beq_eq_false_iff_ne]; intro e; exact h (UInt8.toNat_inj.1 (by omega))

/-- what an element type's row of the table says -/
structure Elem (P : Program) (t e : TypeId) (size bytes : Nat) : Prop where
  ht : P.underlying t = some (.slice e)
  hi : ∃ i z, P.info? e = some i ∧ i.zero = some z ∧ i.size = size ∧ i.bytes = bytes ∧ z.cells.size = size
  pos : 0 < size

/-- the slice v reads as the list xs; its block lies below B -/
def Sl {α : Type} (enc : α → List Value) (size : Nat) (w : World) (B : Nat) (v : Value) (xs : List α) : Prop :=
  ∃ A c, v = .slice A xs.length c ∧ xs.length ≤ c ∧ c ≤ maxLen ∧
    (xs = [] ∨ ∃ b off, A = some ⟨b, off, none⟩ ∧ b < B ∧ ∀ k x, xs[k]? = some x → ∀ j u, (enc x)[j]? = some u → w.cell? ⟨b, off + k * size + j, none⟩ = some u)

section
variable {α : Type} {enc : α → List Value} {size : Nat} {w w' : World} {B B' : Nat} {v : Value} {xs : List α}
theorem Sl.keep (h : Sl enc size w B v xs) (hk : ∀ p : Addr, p.block < B → w'.cell? p = w.cell? p) : Sl enc size w' B v xs := by
  obtain ⟨A, c, e, h1, h2, h3⟩ := h
  refine ⟨A, c, e, h1, h2, ?_⟩
  rcases h3 with h3 | ⟨b, off, e2, hb, hc⟩
  · exact .inl h3
  · exact .inr ⟨b, off, e2, hb, fun k x hx j u hu => (hk _ hb).trans (hc k x hx j u hu)⟩
theorem Sl.below (h : Sl enc size w B v xs) (hb : Below B w w') : Sl enc size w' B v xs := h.keep fun _ hp => hb.cell hp
theorem Sl.more (h : Sl enc size w B v xs) (hB : B ≤ B') : Sl enc size w B' v xs := by
  obtain ⟨A, c, e, h1, h2, h3⟩ := h
  refine ⟨A, c, e, h1, h2, ?_⟩
  rcases h3 with h3 | ⟨b, off, e2, hb, hc⟩
  · exact .inl h3
  · exact .inr ⟨b, off, e2, by omega, hc⟩
/-- all that there was, kept: in the later world, below its own size -/
theorem Sl.later (h : Sl enc size w w.heap.size v xs) (hb : Below w.heap.size w w') : Sl enc size w' w'.heap.size v xs := (h.below hb).more hb.size
theorem Sl.nil_ (c : Nat) (A : Option Addr) (hc : c ≤ maxLen) : Sl enc size w B (.slice A 0 c) [] := ⟨A, c, rfl, Nat.zero_le _, hc, .inl rfl⟩
end

/-- cells that lie behind an address -/
def At (w : World) (A : Option Addr) (cs : List Value) : Prop := cs = [] ∨ ∃ b off, A = some ⟨b, off, none⟩ ∧ ∀ j u, cs[j]? = some u → w.cell? ⟨b, off + j, none⟩ = some u

/-- they lie below a block -/
def AtLt (A : Option Addr) (B : Nat) (cs : List Value) : Prop := cs = [] ∨ ∃ b off, A = some ⟨b, off, none⟩ ∧ b < B
theorem At.below {w w' : World} {A : Option Addr} {cs : List Value} {B : Nat} (h : At w A cs) (hl : AtLt A B cs) (hb : Below B w w') : At w' A cs := by
  rcases h with h | ⟨b, off, e, h⟩
  · exact .inl h
  · rcases hl with hl | ⟨b', off', e', hl⟩
    · exact .inl hl
    · rw [e] at e'; injection e' with e'; injection e' with e1 e2; subst e1 e2
      exact .inr ⟨b, off, e, fun j u hu => (hb.cell (by exact hl)).trans (h j u hu)⟩
theorem At.later {w w' : World} {A : Option Addr} {cs : List Value} (h : At w A cs) (hl : AtLt A w.heap.size cs) (hb : Below w.heap.size w w') : At w' A cs := h.below hl hb
theorem flat_length {α : Type} {enc : α → List Value} {size : Nat} (he : ∀ x, (enc x).length = size) (xs : List α) : (xs.flatMap enc).length = xs.length * size := by
  induction xs with
  | nil => simp
  | cons x r ih => simp only [List.flatMap_cons, List.length_append, he, ih, List.length_cons]; rw [Nat.add_mul]; omega
theorem flat_get {α : Type} {enc : α → List Value} {size : Nat} (he : ∀ x, (enc x).length = size) : ∀ (xs : List α) (k j : Nat) (x : α), xs[k]? = some x → j < size → (xs.flatMap enc)[k * size + j]? = (enc x)[j]?
  | [], k, j, x, h, _ => by simp at h
  | y :: r, 0, j, x, h, hj => by
    simp only [List.getElem?_cons_zero, Option.some.injEq] at h
    subst h
    simp only [List.flatMap_cons, Nat.zero_mul, Nat.zero_add]
    rw [List.getElem?_append_left (by rw [he]; exact hj)]
  | y :: r, k + 1, j, x, h, hj => by
    simp only [List.getElem?_cons_succ] at h
    have := flat_get he r k j x h hj
    simp only [List.flatMap_cons]
    rw [List.getElem?_append_right (by rw [he, Nat.add_mul]; omega), he, ← this]
    congr 1
    rw [Nat.add_mul]; omega
theorem Sl.at_ {α : Type} {enc : α → List Value} {size : Nat} {w : World} {B : Nat} {A : Option Addr} {n c : Nat} {xs : List α} (he : ∀ x, (enc x).length = size) (hs : 0 < size) (h : Sl enc size w B (.slice A n c) xs) :
    n = xs.length ∧ At w A (xs.flatMap enc) ∧ AtLt A B (xs.flatMap enc) := by
  obtain ⟨A', c', e, h1, h2, h3⟩ := h
  injection e with e1 e2 e3
  subst e1 e2 e3
  refine ⟨rfl, ?_⟩
  rcases h3 with rfl | ⟨b, off, e2, hb, hc⟩
  · exact ⟨.inl (by simp), .inl (by simp)⟩
  · refine ⟨?_, .inr ⟨b, off, e2, hb⟩⟩
    right
    refine ⟨b, off, e2, fun j u hu => ?_⟩
    have hl := flat_length he xs
    have hj : j < xs.length * size := by rw [← hl]; exact (List.getElem?_eq_some_iff.1 hu).1
    have hk : j / size < xs.length := by rw [Nat.div_lt_iff_lt_mul hs]; exact hj
    have hx : xs[j / size]? = some xs[j / size] := List.getElem?_eq_getElem hk
    have hm := Nat.div_add_mod' j size
    have hf := flat_get he xs (j / size) (j % size) _ hx (Nat.mod_lt _ hs)
    rw [hm] at hf
    have := hc _ _ hx (j % size) u (by rw [← hf]; exact hu)
    rwa [Nat.add_assoc, hm] at this

/-- a row of cells that may be turned: none of them is marked -/
def Row (w : World) (g : Nat) (cs : Array Value) (e : TypeId) : Prop := ∃ fz : Nat × Nat, w.heap[g]? = some (.cells cs e fz) ∧ (fz = (0, 0) ∨ cs.size ≤ fz.1)
theorem Row.of {w : World} {g : Nat} {cs : Array Value} {e : TypeId} (h : w.heap[g]? = some (.cells cs e (0, 0))) : Row w g cs e := ⟨_, h, .inl rfl⟩
theorem Row.lt {w : World} {g : Nat} {cs : Array Value} {e : TypeId} (h : Row w g cs e) : g < w.heap.size := by
  obtain ⟨fz, h1, _⟩ := h
  exact (Array.getElem?_eq_some_iff.1 h1).1
theorem Row.eqb {w w' : World} {g : Nat} {cs : Array Value} {e : TypeId} (h : Row w g cs e) (hb : w'.heap[g]? = w.heap[g]?) : Row w' g cs e := by
  obtain ⟨fz, h1, h2⟩ := h
  exact ⟨fz, hb.trans h1, h2⟩
theorem Row.cell {w : World} {g : Nat} {cs : Array Value} {e : TypeId} (h : Row w g cs e) (o : Nat) : w.cell? ⟨g, o, none⟩ = cs[o]? := by
  obtain ⟨fz, h1, _⟩ := h
  exact cell_of_row w g o cs e fz h1
theorem Row.free {w : World} {g : Nat} {cs : Array Value} {e : TypeId} (h : Row w g cs e) {o : Nat} (ho : o < cs.size) : w.frozen? ⟨g, o, none⟩ = false := by
  obtain ⟨fz, h1, h2⟩ := h
  simp only [World.frozen?, h1]
  rcases h2 with rfl | h2
  · simp
  · simp; omega
theorem Row.ty {w : World} {g : Nat} {cs cs2 : Array Value} {e e2 : TypeId} (h : Row w g cs e) (k : Row w g cs2 e2) : e = e2 := by
  obtain ⟨fz, h1, _⟩ := h
  obtain ⟨fz2, h2, _⟩ := k
  rw [h1] at h2
  injection h2 with h2
  injection h2
/-- the slice value v, of cells xs (element type e, 'size' cells each), lies in a block of the call's own (from B on) -/
def Own (w : World) (B : Nat) (e : TypeId) (size : Nat) (v : Value) (xs : List Value) : Prop :=
  (v = .slice none 0 0 ∧ xs = []) ∨
  ∃ g off n cap cs, v = .slice (some ⟨g, off, none⟩) n cap ∧ xs.length = n * size ∧ B ≤ g ∧ Row w g cs e ∧ n ≤ cap ∧ cap ≤ maxLen ∧ off + cap * size ≤ cs.size ∧
    ∀ j u, xs[j]? = some u → cs[off + j]? = some u

theorem setCells_block (g : Nat) (e : TypeId) (fr : Nat × Nat) : ∀ (vs : List Value) (o : Nat) (w : World) (cs : Array Value), w.heap[g]? = some (.cells cs e fr) →
    ∃ cs', (w.setCells g o vs).heap[g]? = some (.cells cs' e fr) ∧ cs'.size = cs.size ∧ (∀ j, (j < o ∨ o + vs.length ≤ j) → cs'[j]? = cs[j]?) ∧ (o + vs.length ≤ cs.size → ∀ j u, vs[j]? = some u → cs'[o + j]? = some u)
  | [], o, w, cs, h => ⟨cs, h, rfl, fun _ _ => rfl, fun _ j u hu => by simp at hu⟩
  | v :: r, o, w, cs, h => by
    have h1 : (w.setCell ⟨g, o, none⟩ v).heap[g]? = some (.cells (cs.setIfInBounds o v) e fr) := by simp [World.setCell, Array.getElem?_modify, h]
    obtain ⟨cs', a1, a2, a3, a4⟩ := setCells_block g e fr r (o + 1) _ _ h1
    refine ⟨cs', a1, by rw [a2]; simp, fun j hj => ?_, fun hl j u hu => ?_⟩
    · rw [a3 j (by simp only [List.length_cons] at hj; omega), Array.getElem?_setIfInBounds, if_neg (by simp only [List.length_cons] at hj; omega)]
    · simp only [List.length_cons] at hl
      cases j with
      | zero =>
        simp only [List.getElem?_cons_zero, Option.some.injEq] at hu
        subst hu
        rw [Nat.add_zero, a3 o (by omega), Array.getElem?_setIfInBounds, if_pos rfl, if_pos (by omega)]
      | succ j =>
        simp only [List.getElem?_cons_succ] at hu
        have := a4 (by simp; omega) j u hu
        rwa [show o + (j + 1) = o + 1 + j by omega]
theorem setCells_far (g : Nat) : ∀ (vs : List Value) (o : Nat) (w : World) (k : Nat), k ≠ g → (w.setCells g o vs).heap[k]? = w.heap[k]?
  | [], _, _, _, _ => rfl
  | v :: r, o, w, k, h => by
    show ((w.setCell ⟨g, o, none⟩ v).setCells g (o + 1) r).heap[k]? = _
    rw [setCells_far g r (o + 1) _ k h]; exact Below.heap_setCell w _ v k h
theorem setCells_size (g : Nat) : ∀ (vs : List Value) (o : Nat) (w : World), (w.setCells g o vs).heap.size = w.heap.size
  | [], _, _ => rfl
  | v :: r, o, w => by
    show ((w.setCell ⟨g, o, none⟩ v).setCells g (o + 1) r).heap.size = _
    rw [setCells_size g r (o + 1) _]; simp [World.setCell]
theorem setCells_rest (g : Nat) : ∀ (vs : List Value) (o : Nat) (w : World), (w.setCells g o vs).os = w.os ∧ (w.setCells g o vs).tape = w.tape ∧ (w.setCells g o vs).output = w.output
  | [], _, _ => ⟨rfl, rfl, rfl⟩
  | v :: r, o, w => setCells_rest g r (o + 1) (w.setCell ⟨g, o, none⟩ v)
theorem setCells_grown (w : World) (g o : Nat) (vs : List Value) : w.grownBy (w.setCells g o vs) (some g) :=
  ⟨(setCells_rest g vs o w).1, (setCells_rest g vs o w).2.1, (setCells_rest g vs o w).2.2, by rw [setCells_size]; exact Nat.le_refl _, fun k _ hk => setCells_far g vs o w k (fun e => hk (by rw [e]))⟩

section
variable {w w' : World} {B B' : Nat} {e : TypeId} {size : Nat} {v : Value} {xs : List Value}
theorem Own.nil_ (w : World) (B : Nat) (e : TypeId) (size : Nat) : Own w B e size (.slice none 0 0) [] := .inl ⟨rfl, rfl⟩
theorem Own.made (w : World) (B : Nat) (e : TypeId) (size : Nat) (cs : Array Value) (cap : Nat) (hB : B ≤ w.heap.size) (hs : cap * size ≤ cs.size) (hc : cap ≤ maxLen) : Own (w.alloc (.cells cs e)) B e size (.slice (some ⟨w.heap.size, 0, none⟩) 0 cap) [] :=
  .inr ⟨w.heap.size, 0, 0, cap, cs, rfl, by simp, hB, .of (heap_alloc_new w _), Nat.zero_le _, hc, by omega, fun j u hu => by simp at hu⟩
theorem Own.lit (w : World) (B : Nat) (e : TypeId) (size : Nat) (cs : Array Value) (n : Nat) (hB : B ≤ w.heap.size) (hs : cs.size = n * size) (hc : n ≤ maxLen) : Own (w.alloc (.cells cs e)) B e size (.slice (some ⟨w.heap.size, 0, none⟩) n n) cs.toList :=
  .inr ⟨w.heap.size, 0, n, n, cs, rfl, by simpa using hs, hB, .of (heap_alloc_new w _), Nat.le_refl _, hc, by omega, fun j u hu => by simpa using hu⟩
theorem Own.blk (h : Own w B e size v xs) : ∀ k, v.ownBlock = some k → B ≤ k ∧ k < w.heap.size ∧ ∃ cs, Row w k cs e := by
  intro k hk
  rcases h with ⟨rfl, _⟩ | ⟨g, off, n, cap, cs, rfl, _, hb, hg, _⟩
  · simp [Value.ownBlock] at hk
  · simp [Value.ownBlock] at hk
    subst hk
    exact ⟨hb, hg.lt, cs, hg⟩
theorem Own.kept {row : Option Nat} (h : Own w B e size v xs) (hg : w.grownBy w' row) (hne : v.ownBlock = none ∨ v.ownBlock ≠ row) : Own w' B e size v xs := by
  rcases h with h | ⟨g, off, n, cap, cs, rfl, h1, hb, hgg, rest⟩
  · exact .inl h
  · refine .inr ⟨g, off, n, cap, cs, rfl, h1, hb, ?_, rest⟩
    exact hgg.eqb (hg.block g hgg.lt (by simpa [Value.ownBlock] using hne))
theorem Own.keep (h : Own w B e size v xs) (hk : ∀ k, k < w.heap.size → w'.heap[k]? = w.heap[k]?) : Own w' B e size v xs := by
  rcases h with h | ⟨g, off, n, cap, cs, rfl, h1, hb, hgg, rest⟩
  · exact .inl h
  · refine .inr ⟨g, off, n, cap, cs, rfl, h1, hb, ?_, rest⟩
    exact hgg.eqb (hk g hgg.lt)
theorem Own.later (h : Own w B e size v xs) (hb : Below w.heap.size w w') : Own w' B e size v xs := h.keep hb.block
theorem Own.alloc (h : Own w B e size v xs) (o : Obj) : Own (w.alloc o) B e size v xs := h.keep fun k hk => Below.heap_alloc w o k hk
theorem Own.drew (h : Own w B e size v xs) : Own w.drew B e size v xs := h
theorem Own.drewN (h : Own w B e size v xs) (n : Nat) : Own (w.drewN n) B e size v xs := h
theorem Own.less (h : Own w B e size v xs) (hB : B' ≤ B) : Own w B' e size v xs := by
  rcases h with h | ⟨g, off, n, cap, cs, rfl, h1, hb, rest⟩
  · exact .inl h
  · exact .inr ⟨g, off, n, cap, cs, rfl, h1, by omega, rest⟩
theorem Own.form (h : Own w B e size v xs) (hs : 0 < size) : ∃ A n c, v = .slice A n c ∧ xs.length = n * size ∧ n ≤ c ∧ c ≤ maxLen ∧ At w A xs := by
  rcases h with ⟨rfl, rfl⟩ | ⟨g, off, n, cap, cs, rfl, h1, hb, hg, hnc, hc, hsz, hcs⟩
  · exact ⟨none, 0, 0, rfl, by simp, Nat.le_refl _, Nat.zero_le _, .inl rfl⟩
  · refine ⟨_, n, cap, rfl, h1, hnc, hc, .inr ⟨g, off, rfl, fun j u hu => ?_⟩⟩
    rw [hg.cell]
    exact hcs j u hu
theorem Own.below {a : World} (h : Own w B e size v xs) (hb : Below B a w) (hB : B ≤ w.heap.size) (hg : w.grownBy w' v.ownBlock) : Below B a w' := hb.grown hg hB (fun k hk => (h.blk k hk).1)
/-- two rows of different element types lie apart -/
theorem Own.apart {B2 : Nat} {e2 : TypeId} {size2 : Nat} {v2 : Value} {xs2 : List Value} (h : Own w B e size v xs) (h2 : Own w B2 e2 size2 v2 xs2) (hne : e ≠ e2) : v.ownBlock = none ∨ v.ownBlock ≠ v2.ownBlock := by
  cases hv : v.ownBlock with
  | none => exact .inl rfl
  | some k =>
    right
    intro hk
    obtain ⟨_, _, cs, hc⟩ := h.blk k hv
    obtain ⟨_, _, cs2, hc2⟩ := h2.blk k hk.symm
    exact hne (hc.ty hc2)
end

/-- an own row, read -/
theorem Own.sl {α : Type} {enc : α → List Value} {size : Nat} {w : World} {B : Nat} {e : TypeId} {v : Value} {l : List α} (he : ∀ x, (enc x).length = size) (hs : 0 < size) (h : Own w B e size v (l.flatMap enc)) :
    Sl enc size w w.heap.size v l := by
  rcases h with ⟨rfl, h⟩ | ⟨g, off, n, cap, cs, rfl, h1, hb, hg, hnc, hc, hsz, hcs⟩
  · have hl := flat_length he l
    rw [h] at hl
    have : l = [] := by
      cases l with
      | nil => rfl
      | cons x r => simp [Nat.add_mul] at hl; omega
    subst this
    exact Sl.nil_ 0 none (Nat.zero_le _)
  · rw [flat_length he] at h1
    have hn : n = l.length := (Nat.mul_right_cancel hs h1).symm
    subst hn
    refine ⟨_, cap, rfl, hnc, hc, .inr ⟨g, off, rfl, hg.lt, fun k x hx j u hu => ?_⟩⟩
    have hj : j < size := by rw [← he x]; exact (List.getElem?_eq_some_iff.1 hu).1
    rw [hg.cell, Nat.add_assoc]
    exact hcs _ u (by rw [flat_get he l k j x hx hj]; exact hu)

section
variable {P : Program}
theorem run_append_none (w : World) (t ty e : TypeId) (i : TypeInfo) (ht : P.underlying t = some (.slice e)) (hi : P.info? e = some i) (A : Option Addr) (n cap c : Nat) (B : Option Addr) (hnc : n ≤ cap) :
    (Builtin.append_ #[t, t] ty #[.slice A n cap, .slice B 0 c]).run P w = .ok (.slice A n cap) w := by
  cases A <;> cases B <;> simp [Builtin.append_, run_underlying ht, sizeOf, typeInfo, hi, Builtin.lenOf, Builtin.firstCells, hnc, storeCells, loadCells, loadCellsFrom]

theorem run_append_Own (w : World) (t ty e : TypeId) (size bytes : Nat) (E : Elem P t e size bytes) (B : Nat) (v : Value) (xs : List Value) (hown : Own w B e size v xs)
    (A : Option Addr) (m c : Nat) (news : List Value) (hl : news.length = m * size) (hat : At w A news) (h1 : ∀ u ∈ news, u.oneCell' = true)
    (h63 : xs.length + news.length ≤ maxLen) (hbytes : (xs.length + news.length) * bytes ≤ 140737488355328) (hbase : B ≤ w.heap.size) :
    ∃ v' w', (Builtin.append_ #[t, t] ty #[v, .slice A m c]).run P w = .ok v' w' ∧ Own w' B e size v' (xs ++ news) ∧ w.grownBy w' v.ownBlock ∧ (v'.ownBlock = v.ownBlock ∨ v'.ownBlock = some w.heap.size) := by
  obtain ⟨ht, ⟨i, z, hi, hz, hsize, hby, hzs⟩, hpos⟩ := E
  subst hsize hby
  by_cases hm : m = 0
  · subst hm
    have hn : news = [] := List.eq_nil_of_length_eq_zero (by simpa using hl)
    subst hn
    rcases hown with ⟨rfl, rfl⟩ | ⟨g, off, n, cap, cs, rfl, a1, hb, hg, hnc, hc, hsz, hcs⟩
    · exact ⟨_, w, run_append_none w t ty e i ht hi none 0 0 c A (Nat.le_refl _), .inl ⟨rfl, rfl⟩, World.grownBy.refl w _, .inl rfl⟩
    · exact ⟨_, w, run_append_none w t ty e i ht hi _ n cap c A hnc, .inr ⟨g, off, n, cap, cs, rfl, by simpa using a1, hb, hg, hnc, hc, hsz, by simpa using hcs⟩, World.grownBy.refl w _, .inl rfl⟩
  · have hne : news ≠ [] := by rintro rfl; rw [List.length_nil] at hl; rcases Nat.mul_eq_zero.1 hl.symm with h | h <;> omega
    obtain ⟨sb, soff, rfl, hcell⟩ : ∃ b off, A = some ⟨b, off, none⟩ ∧ ∀ j u, news[j]? = some u → w.cell? ⟨b, off + j, none⟩ = some u := by
      rcases hat with h | h
      · exact absurd h hne
      · exact h
    have hcell' : ∀ j u, news[j]? = some u → w.cell? ((⟨sb, soff, none⟩ : Addr).add j) = some u := fun j u hu => by rw [Addr.add_lit]; exact hcell j u hu
    have hmn : m ≤ news.length := by rw [hl]; exact Nat.le_mul_of_pos_right _ hpos
    have grown : ∀ (old n : Nat), old < n + m → xs.length = n * i.size → n + m ≤ xs.length + news.length →
        Own (w.drew.alloc (.cells (xs.toArray ++ news.toArray ++ Builtin.zeroCells z.cells (grownCap w (n + m) old e - (n + m))) e)) B e i.size
          (.slice (some ⟨w.heap.size, 0, none⟩) (n + m) (grownCap w (n + m) old e)) (xs ++ news) := by
      intro old n ho hx hle
      have hge := grownCap_ge w (n + m) old e
      have hcm : grownCap w (n + m) old e ≤ maxLen := grownCap_le_maxLen w (n + m) old e (by omega)
      refine .inr ⟨w.heap.size, 0, n + m, _, _, rfl, by rw [List.length_append, hx, hl, Nat.add_mul], hbase, .of (heap_alloc_new w.drew _), hge, hcm, ?_, ?_⟩
      · simp only [Array.size_append, List.size_toArray, size_zeroCells, hzs, hx, hl, ← Nat.add_mul]
        rw [Nat.zero_add]
        exact Nat.mul_le_mul_right _ (by omega)
      · intro j u hu
        rw [Nat.zero_add, Array.getElem?_append_left (by
          have := (List.getElem?_eq_some_iff.1 hu).1
          simpa using this)]
        simpa using hu
    rcases hown with ⟨rfl, rfl⟩ | ⟨g, off, n, cap, cs, rfl, a1, hb, hg, hnc, hc, hsz, hcs⟩
    · have hr := run_append_nil (P := P) w t ty e i z ht hi hz ⟨sb, soff, none⟩ m c news hl hcell' (by omega) (by simp only [maxLen] at h63; simp at h63; omega)
        (by
          have h2 : m * i.bytes ≤ news.length * i.bytes := Nat.mul_le_mul_right _ hmn
          simp only [List.length_nil, Nat.zero_add] at hbytes
          omega)
      have hgr := grown 0 0 (by omega) (by simp) (by simp; omega)
      simp only [Nat.zero_add, List.nil_append, Array.empty_append] at hgr
      exact ⟨_, _, hr, hgr, ⟨rfl, rfl, rfl, by simp, fun k hk _ => Below.heap_alloc w.drew _ k hk⟩, .inr rfl⟩
    · have hnx : n ≤ xs.length := by rw [a1]; exact Nat.le_mul_of_pos_right _ hpos
      by_cases hroom : n + m ≤ cap
      · have hfit : off + n * i.size + news.length ≤ cs.size := by
          have : (n + m) * i.size ≤ cap * i.size := Nat.mul_le_mul_right _ hroom
          rw [hl]; rw [Nat.add_mul] at this; omega
        have hr := run_append_room_cells (P := P) w t ty e i ht hi g off n cap ⟨sb, soff, none⟩ m c news hl hcell' h1 hroom
          (fun j hj => by rw [hg.cell, Array.getElem?_eq_getElem (by omega)]; rfl)
          (fun j hj => hg.free (by omega))
        obtain ⟨fz, hg0, hfz⟩ := id hg
        obtain ⟨cs', c1, c2, c3, c4⟩ := setCells_block g e fz news (off + n * i.size) w cs hg0
        refine ⟨_, _, hr, .inr ⟨g, off, n + m, cap, cs', rfl, by rw [List.length_append, a1, hl, Nat.add_mul], hb, ⟨fz, c1, by rw [c2]; exact hfz⟩, hroom, hc, by rw [c2]; exact hsz, fun j u hu => ?_⟩, setCells_grown w g _ news, .inl rfl⟩
        by_cases hj : j < xs.length
        · rw [List.getElem?_append_left hj] at hu
          rw [c3 _ (by omega)]
          exact hcs j u hu
        · rw [List.getElem?_append_right (by omega)] at hu
          have := c4 hfit (j - xs.length) u hu
          rwa [show off + n * i.size + (j - xs.length) = off + j by omega] at this
      · have hr := run_append_grow (P := P) w t ty e i z ht hi hz ⟨g, off, none⟩ n cap xs a1 (fun j u hu => by rw [Addr.add_lit, hg.cell]; exact hcs j u hu)
          ⟨sb, soff, none⟩ m c news hl hcell' (by omega) (by simp only [maxLen] at h63; omega)
          (growslice_fits (by omega) (by
            have h2 : (n + m) * i.bytes ≤ (xs.length + news.length) * i.bytes := Nat.mul_le_mul_right _ (by omega)
            omega))
        have hgr := grown cap n (by omega) a1 (by omega)
        exact ⟨_, _, hr, hgr, ⟨rfl, rfl, rfl, by simp, fun k hk _ => Below.heap_alloc w.drew _ k hk⟩, .inr rfl⟩

theorem wp_append_Own (w : World) {o : Oper} {a : Act} {K : Act → World → Prop} {Q : Exit → Act → World → Prop} (s x : Operand) (t : TypeId)
    (ho : o.op = .call { callee := .builtin .append, args := #[s, x], argTypes := #[t, t] })
    (e : TypeId) (size bytes : Nat) (E : Elem P t e size bytes) (B : Nat) (v : Value) (xs : List Value) (hs : a.eval s = v) (hown : Own w B e size v xs)
    (A : Option Addr) (m c : Nat) (news : List Value) (hx : a.eval x = .slice A m c) (hl : news.length = m * size) (hat : At w A news) (h1 : ∀ u ∈ news, u.oneCell' = true)
    (h63 : xs.length + news.length ≤ maxLen) (hbytes : (xs.length + news.length) * bytes ≤ 140737488355328) (hbase : B ≤ w.heap.size)
    (h : ∀ v' w', Own w' B e size v' (xs ++ news) → w.grownBy w' v.ownBlock → (v'.ownBlock = v.ownBlock ∨ v'.ownBlock = some w.heap.size) → K (a.put o.dst v') w') : o.wp P a w K Q := by
  obtain ⟨v', w', hrun, h2, h3, h4⟩ := run_append_Own (P := P) w t o.type e size bytes E B v xs hown A m c news hl hat h1 h63 hbytes hbase
  unfold Oper.wp execOp
  simp only [ho, resolve, invoke, builtin, Sem.run_bind, Sem.run_pure, Result.andThen_ok, List.map_toArray, List.map_cons, List.map_nil, hs, hx, hrun]
  exact h v' w' h2 h3 h4

/-- append, as an operation of the walk -/
theorem wpl_append (w : World) {ops : Array Oper} {rest : List Oper} {o : Oper} {a : Act} {Q : Exit → Act → World → Prop} (hgd : o.guard = none) (s x : Operand) (t : TypeId)
    (ho : o.op = .call { callee := .builtin .append, args := #[s, x], argTypes := #[t, t] })
    (e : TypeId) (size bytes : Nat) (E : Elem P t e size bytes) (B : Nat) (v : Value) (xs : List Value) (hs : a.eval s = v) (hown : Own w B e size v xs)
    (A : Option Addr) (m c : Nat) (news : List Value) (hx : a.eval x = .slice A m c) (hl : news.length = m * size) (hat : At w A news) (h1 : ∀ u ∈ news, u.oneCell' = true)
    (h63 : xs.length + news.length ≤ maxLen) (hbytes : (xs.length + news.length) * bytes ≤ 140737488355328) (hbase : B ≤ w.heap.size)
    (h : ∀ v' w', Own w' B e size v' (xs ++ news) → w.grownBy w' v.ownBlock → (v'.ownBlock = v.ownBlock ∨ v'.ownBlock = some w.heap.size) → wpList P ops Q rest (a.put o.dst v') w') : wpList P ops Q (o :: rest) a w :=
  wpList_plain hgd fun _ hK => wp_append_Own w s x t ho e size bytes E B v xs hs hown A m c news hx hl hat h1 h63 hbytes hbase fun v' w' h2 h3 h4 => hK _ _ (h v' w' h2 h3 h4)
end


/-! A region that draws its order, whose operations yield values that hang on nothing but what there was before it: in whatever order, the values are the same; behind it stands some later world. -/
def La (w : World) : Type := { w' : World // Below w.heap.size w w' }
instance La.some_ (w : World) : Nonempty (La w) := ⟨⟨w, Below.refl _ _⟩⟩
def La.w {w : World} (x : La w) : World := x.1
theorem La.below {w : World} (x : La w) : Below w.heap.size w x.w := x.2
theorem La.cell {w : World} (x : La w) {p : Addr} {v : Value} (h : w.cell? p = some v) : x.w.cell? p = some v := (x.below.cell (World.block_lt_of_cell? w p h)).trans h
theorem La.sl {α : Type} {enc : α → List Value} {size : Nat} {w : World} {v : Value} {xs : List α} (x : La w) (h : Sl enc size w w.heap.size v xs) : Sl enc size x.w x.w.heap.size v xs := h.later x.below
theorem wp_region_la {P : Program} {id : Nat} {Q : Exit → Act → World → Prop} {a : Act} {w : World} {l : List Oper} (hm : P.follows .mixedOrders = true) (hB : Region.lexB .any l.toArray = true)
    (h : wpQuiet P l.toArray (fun w' => ∃ x : La w, w' = x.w) (fun a' => ∀ w', (∃ x : La w, w' = x.w) → Q .normal a' w') l a) : (Code.region id l.toArray true).wp P Q a w :=
  wp_region_quiet (C := fun w' => ∃ x : La w, w' = x.w) hm hB ⟨⟨_, (Below.refl _ w).drew⟩, rfl⟩ (by simpa using h)
theorem wpq_nil {P : Program} {ops : Array Oper} {Q : Exit → Act → World → Prop} {a : Act} {w : World} (h : ∀ w', Below w.heap.size w w' → Q .normal a w') :
    wpQuiet P ops (fun w' => ∃ x : La w, w' = x.w) (fun a' => ∀ w', (∃ x : La w, w' = x.w) → Q .normal a' w') [] a := fun w' ⟨x, hx⟩ => by subst hx; exact h _ x.below
theorem La.call {P : Program} {f : FuncId} {args : Array Value} {w : World} {x : La w} {v : Value}
    (h : Calls P f args x.w fun e w'' => e = .returned v ∧ Below x.w.heap.size x.w w'') : Calls P f args x.w fun e w'' => e = .returned v ∧ ∃ y : La w, w'' = y.w :=
  h.mono fun _ w'' ⟨he, hb⟩ => ⟨he, ⟨w'', below_step x.below hb⟩, rfl⟩
theorem La.same {P : Program} {f : FuncId} {args : Array Value} {w : World} {x : La w} {v : Value}
    (h : Calls P f args x.w fun e w'' => e = .returned v ∧ x.w = w'') : Calls P f args x.w fun e w'' => e = .returned v ∧ ∃ y : La w, w'' = y.w :=
  h.mono fun _ _ ⟨he, hb⟩ => ⟨he, x, hb.symm⟩

end Go.Proofs.YtpbbnkpplcnaoaaGreatDoor

/- A frame for walks: worlds that keep all but some blocks; how data lie in cells; what a call holds. -/
set_option linter.unusedVariables false
set_option linter.unusedSimpArgs false
namespace Go.Proofs.YtpbbnkpplcnaoaaGreatDoor
open Go.RowKit

/-- nothing that there was has turned, but in the blocks of T -/
structure Kt (T : Nat → Prop) (w w' : World) : Prop where
  os : w'.os = w.os
  tape : w'.tape = w.tape
  output : w'.output = w.output
  size : w.heap.size ≤ w'.heap.size
  block : ∀ k, k < w.heap.size → ¬ T k → w'.heap[k]? = w.heap[k]?
/-- no block -/
def No : Nat → Prop := fun _ => False
theorem Kt.refl (T : Nat → Prop) (w : World) : Kt T w w := ⟨rfl, rfl, rfl, Nat.le_refl _, fun _ _ _ => rfl⟩
theorem Kt.trans {T : Nat → Prop} {a b c : World} (h : Kt T a b) (k : Kt T b c) : Kt T a c :=
  ⟨k.os.trans h.os, k.tape.trans h.tape, k.output.trans h.output, Nat.le_trans h.size k.size, fun i hi hn => (k.block i (Nat.lt_of_lt_of_le hi h.size) hn).trans (h.block i hi hn)⟩
theorem Kt.mono {T T' : Nat → Prop} {w w' : World} (h : Kt T w w') (hT : ∀ k, T k → T' k) : Kt T' w w' := ⟨h.os, h.tape, h.output, h.size, fun k hk hn => h.block k hk (fun ht => hn (hT k ht))⟩
theorem Kt.no {T : Nat → Prop} {w w' : World} (h : Kt No w w') : Kt T w w' := h.mono fun _ h => h.elim
/-- a later step turns only blocks of T, or new ones -/
theorem Kt.step {M T : Nat → Prop} {a b c : World} (h : Kt M a b) (k : Kt T b c) (hT : ∀ k, T k → M k ∨ a.heap.size ≤ k) : Kt M a c :=
  ⟨k.os.trans h.os, k.tape.trans h.tape, k.output.trans h.output, Nat.le_trans h.size k.size, fun i hi hn => (k.block i (Nat.lt_of_lt_of_le hi h.size) (fun ht => by rcases hT i ht with h1 | h1; exact hn h1; omega)).trans (h.block i hi hn)⟩
theorem Kt.below {w w' : World} (h : Kt No w w') : Below w.heap.size w w' := ⟨h.os, h.tape, h.output, h.size, fun k hk => h.block k hk (fun h => h)⟩
theorem Kt.ofBelow {w w' : World} (h : Below w.heap.size w w') : Kt No w w' := ⟨h.os, h.tape, h.output, h.size, fun k hk _ => h.block k hk⟩
theorem Kt.drew (w : World) : Kt No w w.drew := ⟨rfl, rfl, rfl, Nat.le_refl _, fun _ _ _ => rfl⟩
theorem Kt.drewN (w : World) (n : Nat) : Kt No w (w.drewN n) := ⟨rfl, rfl, rfl, Nat.le_refl _, fun _ _ _ => rfl⟩
theorem Kt.alloc (w : World) (o : Obj) : Kt No w (w.alloc o) := ⟨rfl, rfl, rfl, by simp, fun k hk _ => Below.heap_alloc w o k hk⟩
theorem Kt.setCell (w : World) (p : Addr) (v : Value) : Kt (fun k => k = p.block) w (w.setCell p v) :=
  ⟨rfl, rfl, rfl, by simp [World.setCell], fun k _ hn => Below.heap_setCell w p v k hn⟩
theorem Kt.setCells (w : World) (g o : Nat) (vs : List Value) : Kt (fun k => k = g) w (w.setCells g o vs) :=
  ⟨(setCells_rest g vs o w).1, (setCells_rest g vs o w).2.1, (setCells_rest g vs o w).2.2, by rw [setCells_size]; exact Nat.le_refl _, fun k _ hn => setCells_far g vs o w k hn⟩
theorem Kt.grown {w w' : World} {row : Option Nat} (h : w.grownBy w' row) : Kt (fun k => row = some k) w w' :=
  ⟨h.os, h.tape, h.output, h.size, fun k hk hn => h.block k hk (fun e => hn e.symm)⟩
theorem Kt.cell {T : Nat → Prop} {w w' : World} (h : Kt T w w') {p : Addr} (hl : p.block < w.heap.size) (hn : ¬ T p.block) : w'.cell? p = w.cell? p := World.cell?_of_block (w := w) (h.block _ hl hn)

/-- what is asked to carry a fact to a later world: new blocks may be added to those that turn -/
def Nw (T T' : Nat → Prop) (w : World) : Prop := ∀ k, T' k → T k ∨ w.heap.size ≤ k
theorem Nw.refl (T : Nat → Prop) (w : World) : Nw T T w := fun _ h => .inl h

/-- a fact about blocks that do not turn -/
structure Fact where
  p : (Nat → Prop) → World → Prop
  keep : ∀ {T T' : Nat → Prop} {w w' : World}, p T w → Kt T w w' → Nw T T' w → p T' w'

/-- how data of a type lie in cells -/
structure Rep (α : Type) where
  size : Nat
  rel : (Nat → Prop) → World → List Value → α → Prop
  len : ∀ {T w cs x}, rel T w cs x → cs.length = size
  one : ∀ {T w cs x}, rel T w cs x → ∀ u ∈ cs, u.oneCell' = true
  keep : ∀ {T T' : Nat → Prop} {w w' : World} {cs x}, rel T w cs x → Kt T w w' → Nw T T' w → rel T' w' cs x

/-- the cells that lie from an address on, in a block that does not turn -/
def CellsAt (T : Nat → Prop) (w : World) (b o : Nat) (cs : List Value) : Prop := ¬ T b ∧ b < w.heap.size ∧ ∀ j u, cs[j]? = some u → w.cell? ⟨b, o + j, none⟩ = some u
theorem CellsAt.keep {T T' : Nat → Prop} {w w' : World} {b o : Nat} {cs : List Value} (h : CellsAt T w b o cs) (k : Kt T w w') (hn : Nw T T' w) : CellsAt T' w' b o cs :=
  ⟨fun ht => by rcases hn b ht with h1 | h1; exact h.1 h1; have := h.2.1; omega, Nat.lt_of_lt_of_le h.2.1 k.size, fun j u hu => (k.cell (p := ⟨b, o + j, none⟩) h.2.1 h.1).trans (h.2.2 j u hu)⟩
def CellsF (b o : Nat) (cs : List Value) : Fact := ⟨fun T w => CellsAt T w b o cs, fun h k n => h.keep k n⟩
theorem CellsAt.sub {T : Nat → Prop} {w : World} {b o : Nat} {cs ds : List Value} (k : Nat) (h : CellsAt T w b o cs) (hd : ∀ j u, ds[j]? = some u → cs[k + j]? = some u) : CellsAt T w b (o + k) ds :=
  ⟨h.1, h.2.1, fun j u hu => by have := h.2.2 (k + j) u (hd j u hu); rwa [← Nat.add_assoc] at this⟩

/-- a slice that reads as a list -/
def SlR {α : Type} (R : Rep α) (T : Nat → Prop) (w : World) (v : Value) (xs : List α) : Prop :=
  ∃ A c, v = .slice A xs.length c ∧ xs.length ≤ c ∧ c ≤ maxLen ∧
    (xs = [] ∨ ∃ b off, A = some ⟨b, off, none⟩ ∧ ∀ k x, xs[k]? = some x → ∃ cs, R.rel T w cs x ∧ CellsAt T w b (off + k * R.size) cs)
theorem SlR.keep {α : Type} {R : Rep α} {T T' : Nat → Prop} {w w' : World} {v : Value} {xs : List α} (h : SlR R T w v xs) (k : Kt T w w') (hn : Nw T T' w) : SlR R T' w' v xs := by
  obtain ⟨A, c, e, h1, h2, h3⟩ := h
  refine ⟨A, c, e, h1, h2, ?_⟩
  rcases h3 with h3 | ⟨b, off, e2, hc⟩
  · exact .inl h3
  · refine .inr ⟨b, off, e2, fun i x hx => ?_⟩
    obtain ⟨cs, ha, hb⟩ := hc i x hx
    exact ⟨cs, R.keep ha k hn, hb.keep k hn⟩
theorem SlR.sub {α : Type} {R : Rep α} {T T' : Nat → Prop} {w : World} {v : Value} {xs : List α} (h : SlR R T w v xs) (hn : Nw T T' w) : SlR R T' w v xs := h.keep (Kt.refl _ _) hn
theorem SlR.nil_ {α : Type} (R : Rep α) (T : Nat → Prop) (w : World) : SlR R T w (.slice none 0 0) [] := ⟨none, 0, rfl, Nat.le_refl _, Nat.zero_le _, .inl rfl⟩
theorem SlR.one {α : Type} {R : Rep α} {T : Nat → Prop} {w : World} {v : Value} {xs : List α} (h : SlR R T w v xs) : v.oneCell' = true := by obtain ⟨A, c, rfl, _⟩ := h; rfl
def SlF {α : Type} (R : Rep α) (v : Value) (xs : List α) : Fact := ⟨fun T w => SlR R T w v xs, fun h k n => h.keep k n⟩
theorem SlR.len {α : Type} {R : Rep α} {T : Nat → Prop} {w : World} {v : Value} {xs : List α} (h : SlR R T w v xs) : ∃ A c, v = .slice A xs.length c ∧ xs.length ≤ c ∧ c ≤ maxLen := by obtain ⟨A, c, e, h1, h2, _⟩ := h; exact ⟨A, c, e, h1, h2⟩
/-- an element, by Go's index -/
def getI {α : Type} (xs : List α) (i : Int) : Option α := if 0 ≤ i then xs[i.toNat]? else none
theorem getI_some {α : Type} {xs : List α} {i : Int} {x : α} (h : getI xs i = some x) : 0 ≤ i ∧ i < xs.length ∧ xs[i.toNat]? = some x := by
  unfold getI at h
  split at h
  · have := (List.getElem?_eq_some_iff.1 h).1
    exact ⟨by omega, by omega, h⟩
  · cases h

def Rep.slice {α : Type} (R : Rep α) : Rep (List α) where
  size := 1
  rel := fun T w cs xs => ∃ v, cs = [v] ∧ SlR R T w v xs
  len := by rintro _ _ _ _ ⟨v, rfl, _⟩; rfl
  one := by rintro _ _ _ _ ⟨v, rfl, h⟩ u hu; simp only [List.mem_cons, List.not_mem_nil, or_false] at hu; subst hu; exact h.one
  keep := by rintro _ _ _ _ _ _ ⟨v, rfl, h⟩ k n; exact ⟨v, rfl, h.keep k n⟩
def Rep.int (k : IntKind) : Rep Int where
  size := 1
  rel := fun _ _ cs x => cs = [.int k x]
  len := by rintro _ _ _ _ rfl; rfl
  one := by rintro _ _ _ _ rfl u hu; simp only [List.mem_cons, List.not_mem_nil, or_false] at hu; subst hu; rfl
  keep := fun h _ _ => h
def Rep.bool : Rep Bool where
  size := 1
  rel := fun _ _ cs x => cs = [.bool x]
  len := by rintro _ _ _ _ rfl; rfl
  one := by rintro _ _ _ _ rfl u hu; simp only [List.mem_cons, List.not_mem_nil, or_false] at hu; subst hu; rfl
  keep := fun h _ _ => h
def Rep.str : Rep ByteArray where
  size := 1
  rel := fun _ _ cs x => cs = [.string x]
  len := by rintro _ _ _ _ rfl; rfl
  one := by rintro _ _ _ _ rfl u hu; simp only [List.mem_cons, List.not_mem_nil, or_false] at hu; subst hu; rfl
  keep := fun h _ _ => h
def Rep.prod {α β : Type} (R : Rep α) (S : Rep β) : Rep (α × β) where
  size := R.size + S.size
  rel := fun T w cs x => ∃ c d, cs = c ++ d ∧ R.rel T w c x.1 ∧ S.rel T w d x.2
  len := by rintro _ _ _ _ ⟨c, d, rfl, h1, h2⟩; rw [List.length_append, R.len h1, S.len h2]
  one := by rintro _ _ _ _ ⟨c, d, rfl, h1, h2⟩ u hu; rcases List.mem_append.1 hu with h | h; exact R.one h1 u h; exact S.one h2 u h
  keep := by rintro _ _ _ _ _ _ ⟨c, d, rfl, h1, h2⟩ k n; exact ⟨c, d, rfl, R.keep h1 k n, S.keep h2 k n⟩
/-- another spelling of the data -/
def Rep.via {α β : Type} (R : Rep α) (f : β → α) : Rep β where
  size := R.size
  rel := fun T w cs x => R.rel T w cs (f x)
  len := fun h => R.len h
  one := fun h => R.one h
  keep := fun h k n => R.keep h k n

/-- the cells of a row read as a list -/
def RowsOk {α : Type} (R : Rep α) (T : Nat → Prop) (w : World) (cl : List Value) (xs : List α) : Prop := cl.length = xs.length * R.size ∧ ∀ k x, xs[k]? = some x → ∃ cs, R.rel T w cs x ∧ ∀ j u, cs[j]? = some u → cl[k * R.size + j]? = some u
theorem RowsOk.keep {α : Type} {R : Rep α} {T T' : Nat → Prop} {w w' : World} {cl : List Value} {xs : List α} (h : RowsOk R T w cl xs) (k : Kt T w w') (hn : Nw T T' w) : RowsOk R T' w' cl xs :=
  ⟨h.1, fun i x hx => by obtain ⟨cs, h1, h2⟩ := h.2 i x hx; exact ⟨cs, R.keep h1 k hn, h2⟩⟩
def RowsF {α : Type} (R : Rep α) (cl : List Value) (xs : List α) : Fact := ⟨fun T w => RowsOk R T w cl xs, fun h k n => h.keep k n⟩
theorem RowsOk.nil_ {α : Type} (R : Rep α) (T : Nat → Prop) (w : World) : RowsOk R T w [] [] := ⟨by simp, fun k x hx => by simp at hx⟩
theorem RowsOk.append {α : Type} {R : Rep α} {T : Nat → Prop} {w : World} {cl dl : List Value} {xs ys : List α} (h : RowsOk R T w cl xs) (k : RowsOk R T w dl ys) : RowsOk R T w (cl ++ dl) (xs ++ ys) := by
  refine ⟨by rw [List.length_append, List.length_append, h.1, k.1, Nat.add_mul], fun i x hx => ?_⟩
  by_cases hi : i < xs.length
  · rw [List.getElem?_append_left hi] at hx
    obtain ⟨cs, h1, h2⟩ := h.2 i x hx
    refine ⟨cs, h1, fun j u hu => ?_⟩
    have := h2 j u hu
    rw [List.getElem?_append_left (List.getElem?_eq_some_iff.1 this).1]; exact this
  · rw [List.getElem?_append_right (by omega)] at hx
    obtain ⟨cs, h1, h2⟩ := k.2 _ x hx
    refine ⟨cs, h1, fun j u hu => ?_⟩
    have := h2 j u hu
    have he : xs.length * R.size + ((i - xs.length) * R.size + j) = i * R.size + j := by
      rw [← Nat.add_assoc, ← Nat.add_mul]; congr 2; omega
    rw [List.getElem?_append_right (by rw [h.1, ← he]; omega), h.1, ← he, Nat.add_sub_cancel_left]
    exact this
theorem RowsOk.one_ {α : Type} {R : Rep α} {T : Nat → Prop} {w : World} {cs : List Value} {x : α} (h : R.rel T w cs x) : RowsOk R T w cs [x] := by
  refine ⟨by rw [R.len h]; simp, fun k y hy => ?_⟩
  cases k with
  | zero => simp only [List.getElem?_cons_zero, Option.some.injEq] at hy; subst hy; exact ⟨cs, h, fun j u hu => by rw [Nat.zero_mul, Nat.zero_add]; exact hu⟩
  | succ k => simp at hy
theorem RowsOk.cell {α : Type} {R : Rep α} {T : Nat → Prop} {w : World} {cl : List Value} {xs : List α} (hs : 0 < R.size) (h : RowsOk R T w cl xs) : ∀ u ∈ cl, u.oneCell' = true := by
  intro u hu
  obtain ⟨i, hi, e⟩ := List.getElem_of_mem hu
  have hk : i / R.size < xs.length := by rw [Nat.div_lt_iff_lt_mul hs, ← h.1]; exact hi
  obtain ⟨cs, h1, h2⟩ := h.2 _ _ (List.getElem?_eq_getElem hk)
  have hl := R.len h1
  have hj : i % R.size < cs.length := by rw [hl]; exact Nat.mod_lt _ hs
  have := h2 _ _ (List.getElem?_eq_getElem hj)
  rw [Nat.div_add_mod' i R.size, List.getElem?_eq_getElem hi, e] at this
  injection this with this
  rw [this]
  exact R.one h1 _ (List.getElem_mem hj)
/-- an own row, read -/
theorem Own.rd {α : Type} {R : Rep α} {T : Nat → Prop} {w : World} {B : Nat} {e : TypeId} {v : Value} {cl : List Value} {xs : List α} (hs : 0 < R.size) (h : Own w B e R.size v cl) (hr : RowsOk R T w cl xs) (hT : ∀ k, v.ownBlock = some k → ¬ T k) : SlR R T w v xs := by
  rcases h with ⟨rfl, rfl⟩ | ⟨g, off, n, cap, cs, rfl, h1, hb, hg, hnc, hc, hsz, hcs⟩
  · have hl := hr.1
    have : xs = [] := by
      cases xs with
      | nil => rfl
      | cons x r => simp [Nat.add_mul] at hl; omega
    subst this
    exact SlR.nil_ _ _ _
  · have hn : n = xs.length := Nat.mul_right_cancel hs (h1.symm.trans hr.1)
    subst hn
    refine ⟨_, cap, rfl, hnc, hc, .inr ⟨g, off, rfl, fun k x hx => ?_⟩⟩
    obtain ⟨ds, h2, h3⟩ := hr.2 k x hx
    refine ⟨ds, h2, hT g rfl, hg.lt, fun j u hu => ?_⟩
    rw [hg.cell, Nat.add_assoc]
    exact hcs _ u (h3 j u hu)
/-- what lies behind a slice, as a row of cells -/
theorem SlR.rows {α : Type} {R : Rep α} {T : Nat → Prop} {w : World} {A : Option Addr} {n c : Nat} {xs : List α} (hs : 0 < R.size) (h : SlR R T w (.slice A n c) xs) : n = xs.length ∧ ∃ cl, At w A cl ∧ RowsOk R T w cl xs := by
  obtain ⟨A', c', e, h1, h2, h3⟩ := h
  injection e with e1 e2 e3
  subst e1 e2 e3
  refine ⟨rfl, ?_⟩
  rcases h3 with rfl | ⟨b, off, rfl, hc⟩
  · exact ⟨[], .inl rfl, RowsOk.nil_ _ _ _⟩
  · have key : ∀ (ys : List α) (o : Nat), (∀ k x, ys[k]? = some x → ∃ cs, R.rel T w cs x ∧ CellsAt T w b (o + k * R.size) cs) → ∃ cl : List Value, (∀ j u, cl[j]? = some u → w.cell? ⟨b, o + j, none⟩ = some u) ∧ RowsOk R T w cl ys := by
      intro ys
      induction ys with
      | nil => intro o _; exact ⟨[], fun j u hu => by simp at hu, RowsOk.nil_ _ _ _⟩
      | cons y r ih =>
        intro o ho
        obtain ⟨cs, g1, g2⟩ := ho 0 y rfl
        obtain ⟨cl, g3, g4⟩ := ih (o + R.size) (fun k x hx => by
          obtain ⟨ds, g5, g6⟩ := ho (k + 1) x (by simpa using hx)
          exact ⟨ds, g5, by rwa [show o + (k + 1) * R.size = o + R.size + k * R.size by rw [Nat.add_mul]; omega] at g6⟩)
        refine ⟨cs ++ cl, fun j u hu => ?_, (RowsOk.one_ g1).append g4⟩
        have hl := R.len g1
        by_cases hj : j < cs.length
        · rw [List.getElem?_append_left hj] at hu
          have := g2.2.2 j u hu
          rwa [Nat.zero_mul, Nat.add_zero] at this
        · rw [List.getElem?_append_right (by omega)] at hu
          have := g3 _ u hu
          rwa [show o + R.size + (j - cs.length) = o + j by omega] at this
    obtain ⟨cl, g1, g2⟩ := key xs off hc
    exact ⟨cl, .inr ⟨b, off, rfl, g1⟩, g2⟩
/-- an element of a slice -/
theorem SlR.get {α : Type} {R : Rep α} {T : Nat → Prop} {w : World} {v : Value} {xs : List α} (h : SlR R T w v xs) {i : Int} {x : α} (hx : getI xs i = some x) :
    ∃ b o c, v = .slice (some ⟨b, o, none⟩) xs.length c ∧ xs.length ≤ c ∧ ∃ cs, R.rel T w cs x ∧ CellsAt T w b (o + i.toNat * R.size) cs := by
  obtain ⟨hi0, hi1, hi2⟩ := getI_some hx
  obtain ⟨A, c, rfl, h1, h2, h3⟩ := h
  rcases h3 with h3 | ⟨b, off, rfl, hc⟩
  · subst h3; simp at hi1; omega
  · exact ⟨b, off, c, rfl, h1, hc _ _ hi2⟩
end Go.Proofs.YtpbbnkpplcnaoaaGreatDoor

/- A frame for walks: what a call holds at each point (slots, blocks of its own, facts), and single operations. -/
set_option linter.unusedVariables false
set_option linter.unusedSimpArgs false
namespace Go.Proofs.YtpbbnkpplcnaoaaGreatDoor
open Go.RowKit

theorem nbeq {a b : Nat} (h : ¬ a = b) : Nat.beq a b = false := by
  cases hb : Nat.beq a b
  · rfl
  · exact absurd (Nat.eq_of_beq_eq_true hb) h
def lk : List (Nat × Value) → Nat → Option Value
  | [], _ => none
  | p :: r, t => cond (Nat.beq p.1 t) (some p.2) (lk r t)
/-- an own row -/
structure OwnT where
  v : Value
  e : TypeId
  sz : Nat
  cl : List Value
def OwnT.ok (w : World) (o : OwnT) : Prop := Own w 0 o.e o.sz o.v o.cl ∧ 0 < o.sz
/-- what lies in a block that the call may turn: a variable, or a row that is appended to; 'grp': rows whose slices lie in cells of another one -/
inductive Res where
  | grp (inn : List OwnT)
  | box (b : Nat) (cs : List Value) (t : TypeId)
  | own (v : Value) (e : TypeId) (sz : Nat) (cl : List Value)
  | obj (b : Nat) (o : Obj)
def Res.dom : Res → Nat → Prop
  | .box b _ _ => fun k => some b = some k
  | .own v _ _ _ => fun k => v.ownBlock = some k
  | .obj b _ => fun k => some b = some k
  | .grp inn => fun k => ∃ o ∈ inn, o.v.ownBlock = some k
/-- it holds no block -/
def Res.bare : Res → Bool
  | .own (.slice none _ _) _ _ _ => true
  | _ => false
def Res.ok (w : World) : Res → Prop
  | .box b cs t => w.heap[b]? = some (.cells cs.toArray t (0, 0))
  | .own v e sz cl => Own w 0 e sz v cl ∧ 0 < sz
  | .obj b o => w.heap[b]? = some o
  | .grp inn => (∀ o ∈ inn, o.ok w) ∧ inn.Pairwise fun r s => ∀ k, r.v.ownBlock = some k → s.v.ownBlock ≠ some k
theorem Res.bare_no {r : Res} (h : r.bare = true) : ∀ k, ¬ r.dom k := by
  intro k hk
  unfold Res.bare at h
  split at h
  · cases hk
  · cases h
theorem OwnT.lt {w : World} {o : OwnT} (h : o.ok w) {k : Nat} (hk : o.v.ownBlock = some k) : k < w.heap.size := (h.1.blk k hk).2.1
theorem OwnT.keep {w w' : World} {o : OwnT} (h : o.ok w) (hk : ∀ k, o.v.ownBlock = some k → w'.heap[k]? = w.heap[k]?) : o.ok w' := by
  obtain ⟨h1, h2⟩ := h
  refine ⟨?_, h2⟩
  rcases h1 with h1 | ⟨g, off, n, cap, cs, q0, q1, q2, q3, rest⟩
  · exact .inl h1
  · exact .inr ⟨g, off, n, cap, cs, q0, q1, q2, q3.eqb (hk g (by rw [q0]; rfl)), rest⟩
def dT (T : Nat → Prop) (D : List Res) : Nat → Prop := fun k => T k ∨ ∃ r ∈ D, r.dom k
theorem Res.lt {w : World} {r : Res} (h : r.ok w) : ∀ k, r.dom k → k < w.heap.size := by
  intro k hk
  cases r with
  | box b cs t => simp only [Res.dom, Option.some.injEq] at hk; subst hk; exact (Array.getElem?_eq_some_iff.1 h).1
  | own v e sz cl => exact (h.1.blk k hk).2.1
  | obj b o => simp only [Res.dom, Option.some.injEq] at hk; subst hk; exact (Array.getElem?_eq_some_iff.1 h).1
  | grp inn => obtain ⟨o, ho, hk⟩ := hk; exact OwnT.lt (h.1 o ho) hk
theorem Res.keep {w w' : World} {r : Res} (h : r.ok w) (hk : ∀ k, r.dom k → w'.heap[k]? = w.heap[k]?) : r.ok w' := by
  cases r with
  | box b cs t => exact (hk b rfl).trans h
  | obj b o => exact (hk b rfl).trans h
  | grp inn => exact ⟨fun o ho => OwnT.keep (h.1 o ho) fun k hk2 => hk k ⟨o, ho, hk2⟩, h.2⟩
  | own v e sz cl =>
    obtain ⟨h1, h2⟩ := h
    refine ⟨?_, h2⟩
    rcases h1 with h1 | ⟨g, off, n, cap, cs, rfl, q1, q2, q3, rest⟩
    · exact .inl h1
    · exact .inr ⟨g, off, n, cap, cs, rfl, q1, q2, q3.eqb (hk g rfl), rest⟩

/-- the state of a call: W, where it began; M, the blocks of W that it may turn; T, blocks that others may turn; slots; blocks of its own; facts -/
structure St (W : World) (M T : Nat → Prop) (n : Nat) (G : List (Nat × Value)) (D : List Res) (F : List Fact) (a : Act) (w : World) : Prop where
  size : a.tmps.size = n
  defers : a.defers = []
  slots : ∀ t v, lk G t = some v → a.tmps[t]? = some v
  base : Kt M W w
  own : ∀ r ∈ D, r.ok w
  free : ∀ r ∈ D, ∀ k, r.dom k → ¬ T k ∧ (M k ∨ W.heap.size ≤ k)
  apart : D.Pairwise fun r s => ∀ k, r.dom k → ¬ s.dom k
  facts : ∀ f ∈ F, f.p (dT T D) w
  tlt : ∀ k, T k → k < w.heap.size

section
variable {W : World} {M T : Nat → Prop} {n : Nat} {G G' : List (Nat × Value)} {D D' : List Res} {F F' : List Fact} {a : Act} {w w' : World}
theorem St.dlt (h : St W M T n G D F a w) : ∀ k, dT T D k → k < w.heap.size := by
  rintro k (hk | ⟨r, hr, hk⟩)
  · exact h.tlt k hk
  · exact Res.lt (h.own r hr) k hk
theorem St.put (h : St W M T n G D F a w) {d : Nat} (hd : Nat.blt d n = true) (v : Value) : St W M T n ((d, v) :: G) D F (a.put (some d) v) w := by
  have hd : d < n := Nat.le_of_ble_eq_true hd
  refine ⟨by simpa [Act.put] using h.size, h.defers, fun t u hu => ?_, h.base, h.own, h.free, h.apart, h.facts, h.tlt⟩
  simp only [lk] at hu
  by_cases e : d = t
  · subst e
    rw [show Nat.beq d d = true from by simp] at hu
    simp only [cond_true, Option.some.injEq] at hu
    subst hu
    simp [Act.put, h.size, hd]
  · rw [nbeq e] at hu
    have := h.slots t u hu
    simp only [Act.put]
    rw [Array.getElem?_setIfInBounds_ne e]; exact this
theorem St.put0 (h : St W M T n G D F a w) (v : Value) : St W M T n G D F (a.put none v) w := h
theorem St.fact (h : St W M T n G D F a w) (f : Fact) (hf : f.p (dT T D) w) : St W M T n G D (f :: F) a w :=
  ⟨h.size, h.defers, h.slots, h.base, h.own, h.free, h.apart, fun g hg => by rcases List.mem_cons.1 hg with rfl | hg; exact hf; exact h.facts g hg, h.tlt⟩
theorem St.get (h : St W M T n G D F a w) (i : Nat) {f : Fact} (hi : F[i]? = some f) : f.p (dT T D) w := h.facts f (List.mem_of_getElem? hi)
/-- all that there was is kept -/
theorem St.later (h : St W M T n G D F a w) (k : Kt No w w') : St W M T n G D F a w' :=
  ⟨h.size, h.defers, h.slots, h.base.step k (fun _ h => h.elim), fun r hr => Res.keep (h.own r hr) fun j hj => k.block j (Res.lt (h.own r hr) j hj) (fun h => h), h.free, h.apart,
    fun f hf => f.keep (h.facts f hf) k.no (Nw.refl _ _), fun j hj => Nat.lt_of_lt_of_le (h.tlt j hj) k.size⟩
theorem dT_cons {T : Nat → Prop} {D : List Res} {r : Res} {k : Nat} : dT T (r :: D) k ↔ dT T D k ∨ r.dom k := by
  unfold dT
  simp only [List.mem_cons, exists_eq_or_imp]
  constructor
  · rintro (h | h | h)
    · exact .inl (.inl h)
    · exact .inr h
    · exact .inl (.inr h)
  · rintro ((h | h) | h)
    · exact .inl h
    · exact .inr (.inr h)
    · exact .inr (.inl h)
/-- a new block of the call's own, behind a step that keeps all -/
theorem St.add (h : St W M T n G D F a w) (k : Kt No w w') (r : Res) (hr : r.ok w') (hn : ∀ k, r.dom k → w.heap.size ≤ k) : St W M T n G (r :: D) F a w' := by
  have h' := h.later k
  refine ⟨h'.size, h'.defers, h'.slots, h'.base, ?_, ?_, ?_, fun f hf => f.keep (h.facts f hf) k.no (fun j hj => ?_), h'.tlt⟩
  · intro s hs
    rcases List.mem_cons.1 hs with rfl | hs
    · exact hr
    · exact h'.own s hs
  · intro s hs j hj
    rcases List.mem_cons.1 hs with rfl | hs
    · have := hn j hj
      refine ⟨fun ht => ?_, .inr ?_⟩
      · have := h.tlt j ht; omega
      · have := h.base.size; omega
    · exact h'.free s hs j hj
  · refine List.pairwise_cons.2 ⟨fun s hs j hj hj2 => ?_, h.apart⟩
    have := hn j hj
    have := Res.lt (h.own s hs) j hj2
    omega
  · rcases dT_cons.1 hj with h1 | h1
    · exact .inl h1
    · exact .inr (hn j h1)
theorem St.alloc (h : St W M T n G D F a w) (cs : List Value) (t : TypeId) : St W M T n G (.box w.heap.size cs t :: D) F a (w.alloc (.cells cs.toArray t)) :=
  h.add (Kt.alloc _ _) _ (heap_alloc_new w _) (fun k hk => by simp only [Res.dom, Option.some.injEq] at hk; omega)
/-- one of the call's blocks is turned -/
theorem St.turn (h : St W M T n G D F a w) {i : Nat} {r r' : Res} (hi : D[i]? = some r) (k : Kt (fun j => r.dom j) w w') (hr : r'.ok w') (hd : ∀ j, r'.dom j → r.dom j ∨ w.heap.size ≤ j) :
    St W M T n G (D.set i r') F a w' := by
  have hmem := List.mem_of_getElem? hi
  have hlt := (List.getElem?_eq_some_iff.1 hi).1
  have hne : ∀ j s, j ≠ i → D[j]? = some s → ∀ q, s.dom q → ¬ r.dom q := by
    intro j s hj hs q hq hq2
    have hjl := (List.getElem?_eq_some_iff.1 hs).1
    have e1 := (List.getElem?_eq_some_iff.1 hs).2
    have e2 := (List.getElem?_eq_some_iff.1 hi).2
    rcases Nat.lt_or_gt_of_ne hj with hji | hji
    · have := List.pairwise_iff_getElem.1 h.apart j i hjl hlt hji q (by rw [e1]; exact hq)
      rw [e2] at this; exact this hq2
    · have := List.pairwise_iff_getElem.1 h.apart i j hlt hjl hji q (by rw [e2]; exact hq2)
      rw [e1] at this; exact this hq
  have hset : ∀ s, s ∈ D.set i r' → s = r' ∨ ∃ j, j ≠ i ∧ D[j]? = some s := by
    intro s hs
    obtain ⟨j, hj, e⟩ := List.getElem_of_mem hs
    by_cases hji : i = j
    · subst hji; rw [List.getElem_set_self] at e; exact .inl e.symm
    · rw [List.getElem_set_ne hji] at e
      exact .inr ⟨j, fun e => hji e.symm, by rw [← e]; exact List.getElem?_eq_getElem _⟩
  refine ⟨h.size, h.defers, h.slots, h.base.step k (fun j hj => (h.free r hmem j hj).2), ?_, ?_, ?_, fun f hf => f.keep (h.facts f hf) (k.mono fun j hj => .inr ⟨r, hmem, hj⟩) (fun j hj => ?_), fun j hj => Nat.lt_of_lt_of_le (h.tlt j hj) k.size⟩
  · intro s hs
    rcases hset s hs with rfl | ⟨j, hj, hs⟩
    · exact hr
    · have ho := h.own s (List.mem_of_getElem? hs)
      exact Res.keep ho fun q hq => k.block q (Res.lt ho q hq) (hne j s hj hs q hq)
  · intro s hs q hq
    rcases hset s hs with rfl | ⟨j, hj, hs⟩
    · rcases hd q hq with h1 | h1
      · exact h.free r hmem q h1
      · refine ⟨fun ht => ?_, .inr ?_⟩
        · have := h.tlt q ht; omega
        · have := h.base.size; omega
    · exact h.free s (List.mem_of_getElem? hs) q hq
  · rw [List.pairwise_iff_getElem]
    intro x y hx hy hxy q hq hq2
    have hx' : x < D.length := by simpa using hx
    have hy' : y < D.length := by simpa using hy
    have old : ∀ z (hz : z < D.length), D[z].dom q → q < w.heap.size := fun z hz e => Res.lt (h.own _ (List.getElem_mem hz)) q e
    by_cases h1 : i = x
    · subst h1
      rw [List.getElem_set_self] at hq
      rw [List.getElem_set_ne (by omega)] at hq2
      rcases hd q hq with h2 | h2
      · exact hne y _ (by omega) (List.getElem?_eq_getElem hy') q hq2 h2
      · have := old y hy' hq2; omega
    · by_cases h2 : i = y
      · subst h2
        rw [List.getElem_set_self] at hq2
        rw [List.getElem_set_ne h1] at hq
        rcases hd q hq2 with h3 | h3
        · exact hne x _ (by omega) (List.getElem?_eq_getElem hx') q hq h3
        · have := old x hx' hq; omega
      · rw [List.getElem_set_ne h1] at hq
        rw [List.getElem_set_ne h2] at hq2
        exact List.pairwise_iff_getElem.1 h.apart x y hx' hy' hxy q hq hq2
  · rcases hj with hj | ⟨s, hs, hj⟩
    · exact .inl (.inl hj)
    · rcases hset s hs with rfl | ⟨z, hz, hs⟩
      · rcases hd j hj with h1 | h1
        · exact .inl (.inr ⟨r, hmem, h1⟩)
        · exact .inr h1
      · exact .inl (.inr ⟨s, List.mem_of_getElem? hs, hj⟩)
/-- blocks that the call does not turn any more, put in another order -/
theorem St.res (h : St W M T n G D F a w) {D' : List Res} (hs : ∀ r ∈ D', r ∈ D) (hp : D'.Pairwise fun r s => ∀ k, r.dom k → ¬ s.dom k) : St W M T n G D' F a w :=
  ⟨h.size, h.defers, h.slots, h.base, fun r hr => h.own r (hs r hr), fun r hr => h.free r (hs r hr), hp, fun f hf => f.keep (h.facts f hf) (Kt.refl _ _) (fun k hk => .inl (by
    rcases hk with hk | ⟨r, hr, hk⟩
    · exact .inl hk
    · exact .inr ⟨r, hs r hr, hk⟩)), h.tlt⟩
theorem St.drop (h : St W M T n G D F a w) (i : Nat) : St W M T n G (D.eraseIdx i) F a w :=
  h.res (fun r hr => List.mem_of_mem_eraseIdx hr) (h.apart.sublist (List.eraseIdx_sublist _ _))
def Sub (G : List (Nat × Value)) : List (Nat × Value) → Prop
  | [] => True
  | p :: r => lk G p.1 = some p.2 ∧ Sub G r
theorem Sub.lk_ {G : List (Nat × Value)} : ∀ {G' : List (Nat × Value)}, Sub G G' → ∀ t v, lk G' t = some v → lk G t = some v
  | [], _, t, v, hv => by simp [lk] at hv
  | p :: r, h, t, v, hv => by
    simp only [lk] at hv
    by_cases e : p.1 = t
    · subst e
      rw [show Nat.beq p.1 p.1 = true from by simp] at hv
      simp only [cond_true, Option.some.injEq] at hv
      subst hv; exact h.1
    · rw [nbeq e] at hv
      exact Sub.lk_ h.2 t v hv
theorem St.slot (h : St W M T n G D F a w) (hs : Sub G G') : St W M T n G' D F a w :=
  ⟨h.size, h.defers, fun t v hv => h.slots t v (hs.lk_ t v hv), h.base, h.own, h.free, h.apart, h.facts, h.tlt⟩
theorem St.sel (h : St W M T n G D F a w) (hs : ∀ f ∈ F', f ∈ F) : St W M T n G D F' a w :=
  ⟨h.size, h.defers, h.slots, h.base, h.own, h.free, h.apart, fun f hf => h.facts f (hs f hf), h.tlt⟩
theorem St.old (h : St W M T n G D F a w) {k : Nat} (hk : dT T D k) : T k ∨ M k ∨ W.heap.size ≤ k := by
  rcases hk with h1 | ⟨r, hr, h1⟩
  · exact .inl h1
  · exact .inr (h.free r hr k h1).2
/-- an own row becomes a slice that nobody turns any more -/
theorem St.freeze {α : Type} {R : Rep α} {v : Value} {e : TypeId} {cl : List Value} {xs : List α} (h : St W M T n G D F a w) (i : Nat) (hi : D[i]? = some (.own v e R.size cl)) (j : Nat) (hj : F[j]? = some (RowsF R cl xs)) : St W M T n G (D.eraseIdx i) (SlF R v xs :: F) a w := by
  have hlt := (List.getElem?_eq_some_iff.1 hi).1
  have hD := (List.getElem?_eq_some_iff.1 hi).2
  obtain ⟨ho, hs⟩ := h.own _ (List.mem_of_getElem? hi)
  have hr : RowsOk R (dT T D) w cl xs := h.get j hj
  have h2 := h.drop i
  refine h2.fact _ ?_
  refine Own.rd hs ho (hr.keep (Kt.refl _ _) (fun k hk => .inl ?_)) (fun k hk hT => ?_)
  · rcases hk with hk | ⟨r, hr, hk⟩
    · exact .inl hk
    · exact .inr ⟨r, List.mem_of_mem_eraseIdx hr, hk⟩
  · rcases hT with hT | ⟨s, hs, hT⟩
    · exact (h.free _ (List.mem_of_getElem? hi) k hk).1 hT
    · obtain ⟨z, hz⟩ := List.mem_iff_getElem?.1 hs
      rw [List.getElem?_eraseIdx] at hz
      split at hz
      · rename_i hzi
        have hzl := (List.getElem?_eq_some_iff.1 hz).1
        have := List.pairwise_iff_getElem.1 h.apart z i hzl hlt hzi k (by rw [(List.getElem?_eq_some_iff.1 hz).2]; exact hT)
        rw [hD] at this; exact this hk
      · rename_i hzi
        have hzl := (List.getElem?_eq_some_iff.1 hz).1
        have := List.pairwise_iff_getElem.1 h.apart i (z + 1) hlt hzl (by omega) k (by rw [hD]; exact hk)
        rw [(List.getElem?_eq_some_iff.1 hz).2] at this; exact this hT
/-- an own row, read for a while -/
theorem St.lend {α : Type} {R : Rep α} {v : Value} {e : TypeId} {cl : List Value} {xs : List α} (h : St W M T n G D F a w) (i : Nat) (hi : D[i]? = some (.own v e R.size cl)) (j : Nat) (hj : F[j]? = some (RowsF R cl xs)) : SlR R (dT T (D.eraseIdx i)) w v xs :=
  (h.freeze i hi j hj).get 0 rfl
theorem St.lendF (h : St W M T n G D F a w) (i : Nat) (j : Nat) {f : Fact} (hj : F[j]? = some f) : f.p (dT T (D.eraseIdx i)) w := (h.drop i).get j hj
theorem dT_erase {T : Nat → Prop} {D : List Res} {i : Nat} : ∀ k, dT T (D.eraseIdx i) k → dT T D k := by
  rintro k (hk | ⟨r, hr, hk⟩)
  · exact .inl hk
  · exact .inr ⟨r, List.mem_of_mem_eraseIdx hr, hk⟩
end

/-- a call begins -/
theorem St.start (W : World) (M T : Nat → Prop) (n : Nat) (vs : List Value) (hT : ∀ k, T k → k < W.heap.size) (hn : vs.length ≤ n) (G : List (Nat × Value)) (hG : ∀ t v, lk G t = some v → vs[t]? = some v) :
    St W M T n G [] [] { tmps := vs.toArray ++ Array.replicate (n - vs.toArray.size) undef, defers := [] } W := by
  refine ⟨by simp; omega, rfl, fun t v hv => ?_, Kt.refl _ _, fun r hr => (by cases hr), fun r hr => (by cases hr), List.Pairwise.nil, fun f hf => (by cases hf), hT⟩
  have h1 := hG t v hv
  have h2 := (List.getElem?_eq_some_iff.1 h1).1
  simp only [Array.getElem?_append, List.size_toArray, h2, if_true, List.getElem?_toArray]
  exact h1
def argSlots : Nat → List Value → List (Nat × Value)
  | _, [] => []
  | k, v :: r => (k, v) :: argSlots (k + 1) r
theorem lk_args : ∀ (vs : List Value) (k t : Nat) (v : Value), lk (argSlots k vs) t = some v → k ≤ t ∧ vs[t - k]? = some v
  | [], k, t, v, h => by simp [argSlots, lk] at h
  | u :: r, k, t, v, h => by
    simp only [argSlots, lk] at h
    by_cases e : k = t
    · subst e
      rw [show Nat.beq k k = true from by simp] at h
      simp only [cond_true, Option.some.injEq] at h
      subst h; simp
    · rw [nbeq e] at h
      obtain ⟨h1, h2⟩ := lk_args r (k + 1) t v h
      refine ⟨by omega, ?_⟩
      rw [show t - k = (t - (k + 1)) + 1 by omega, List.getElem?_cons_succ]; exact h2
/-- a function that returns -/
def Rets (P : Program) (M : Nat → Prop) (f : FuncId) (args : List Value) (w : World) (R : Value → World → Prop) : Prop :=
  Calls P f args.toArray w fun e w' => ∃ v, e = .returned v ∧ Kt M w w' ∧ R v w'
theorem Rets.mono {P : Program} {M : Nat → Prop} {f : FuncId} {args : List Value} {w : World} {R R' : Value → World → Prop} (h : Rets P M f args w R) (hR : ∀ v w', R v w' → R' v w') : Rets P M f args w R' :=
  Calls.mono h fun e w' ⟨v, h1, h2, h3⟩ => ⟨v, h1, h2, hR v w' h3⟩
def Ret (M : Nat → Prop) (W : World) (R : Value → World → Prop) : Ending → World → Prop := fun e w' => ∃ v, e = .returned v ∧ Kt M W w' ∧ R v w'
theorem enter {P : Program} {M : Nat → Prop} {f : FuncId} {fn : Func} {c : Code} {args : List Value} {w : World} {R : Value → World → Prop} (hf : P.funcs[f]? = some fn) (hb : fn.body = some c)
    (T : Nat → Prop) (n : Nat) (hn : fn.ntmps = n) (hT : ∀ k, T k → k < w.heap.size) (hl : Nat.ble args.length n = true)
    (h : ∀ a, St w M T n (argSlots 0 args) [] [] a w → c.wp P (bodyPost P fn (Ret M w R)) a w) : Rets P M f args w R := by
  refine calls_of_wp hf hb (h _ ?_)
  subst hn
  exact St.start w M T _ args hT (Nat.le_of_ble_eq_true hl) _ fun t v hv => by
    obtain ⟨h1, h2⟩ := lk_args args 0 t v hv
    simpa using h2
end Go.Proofs.YtpbbnkpplcnaoaaGreatDoor

/- A frame for walks: operations that yield a value and turn nothing. -/
set_option linter.unusedVariables false
set_option linter.unusedSimpArgs false
namespace Go.Proofs.YtpbbnkpplcnaoaaGreatDoor
open Go.RowKit

def ev (G : List (Nat × Value)) : Operand → Option Value
  | .tmp t => lk G t
  | .const v => some v
  | .func f => some (.func (.func f) #[] #[])
  | .global g => some (.pointer (some ⟨g, 0, none⟩))
def evs (G : List (Nat × Value)) : List Operand → Option (List Value)
  | [] => some []
  | x :: r => match ev G x with
    | some v => match evs G r with
      | some vs => some (v :: vs)
      | none => none
    | none => none
/-- an operation that runs to its end -/
def OpK (P : Program) (o : Oper) (a : Act) (w : World) (K : Act → World → Prop) : Prop := ∀ (K' : Act → World → Prop) (Q : Exit → Act → World → Prop), (∀ a w, K a w → K' a w) → o.wp P a w K' Q
/-- an operation that yields v, in every world in which only blocks of E have turned -/
def Ye (P : Program) (o : Oper) (a : Act) (E : Nat → Prop) (w : World) (v : Value) : Prop := ∀ w', Kt E w w' → (execOp a.eval o).run P w' = .ok (.value v) w'
/-- what kind of type it is, and how many cells it takes -/
def tyI (P : Program) (t : TypeId) : Option (Bool × Nat) :=
  match P.underlying t, P.info? t with
  | some (.struct _), some i => some (true, i.size)
  | some (.array _ _), some i => some (true, i.size)
  | some _, some i => some (false, i.size)
  | _, _ => none
def fldI (P : Program) (s : TypeId) (f : Nat) : Option Nat :=
  match P.underlying s with
  | some (.struct fs) => match fs[f]? with
    | some d => match P.info? d.type with
      | some i => if i.size = 0 then none else some d.offset
      | none => none
    | none => none
  | _ => none

section
variable {P : Program} {W : World} {M T E : Nat → Prop} {n : Nat} {G G' : List (Nat × Value)} {D D' : List Res} {F F' : List Fact} {a : Act} {w w' : World} {K : Act → World → Prop}
theorem St.ev (h : St W M T n G D F a w) {x : Operand} {v : Value} (hx : ev G x = some v) : a.eval x = v := by
  cases x with
  | tmp t =>
    have := h.slots t v hx
    simp [Act.eval, Array.getD_eq_getD_getElem?, this]
  | const u => simp only [Proofs.YtpbbnkpplcnaoaaGreatDoor.ev, Option.some.injEq] at hx; exact hx
  | func f => simp only [Proofs.YtpbbnkpplcnaoaaGreatDoor.ev, Option.some.injEq] at hx; exact hx
  | global g => simp only [Proofs.YtpbbnkpplcnaoaaGreatDoor.ev, Option.some.injEq] at hx; exact hx
theorem St.evs (h : St W M T n G D F a w) : ∀ {xs : List Operand} {vs : List Value}, evs G xs = some vs → xs.map a.eval = vs
  | [], vs, hx => by simp only [Proofs.YtpbbnkpplcnaoaaGreatDoor.evs, Option.some.injEq] at hx; subst hx; rfl
  | x :: r, vs, hx => by
    simp only [Proofs.YtpbbnkpplcnaoaaGreatDoor.evs] at hx
    cases h1 : Proofs.YtpbbnkpplcnaoaaGreatDoor.ev G x with
    | none => rw [h1] at hx; cases hx
    | some v =>
      cases h2 : Proofs.YtpbbnkpplcnaoaaGreatDoor.evs G r with
      | none => rw [h1, h2] at hx; cases hx
      | some us =>
        rw [h1, h2] at hx
        simp only [Option.some.injEq] at hx
        subst hx
        rw [List.map_cons, h.ev h1, h.evs h2]
theorem wl {ops : Array Oper} {Q : Exit → Act → World → Prop} {rest : List Oper} {o : Oper} (hg : o.guard = none) (h : OpK P o a w (wpList P ops Q rest)) : wpList P ops Q (o :: rest) a w :=
  wpList_plain hg fun K hK => h K Q hK
theorem wanted_of {ops : Array Oper} {o : Oper} {j t : Nat} {want c : Bool} (h : St W M T n G D F a w) (hg : o.guard = some (j, want)) (hj : (ops[j]?).bind (·.dst) = some t) (ht : lk G t = some (.bool c)) : Region.wanted o (yielded ops a.tmps) = (c == want) := by
  have h1 := h.slots t _ ht
  unfold Region.wanted yielded
  rw [hg]
  simp only [hj, Option.bind_some, h1]
  cases c <;> cases want <;> rfl
/-- a guarded operation that is wanted -/
theorem wg {ops : Array Oper} {Q : Exit → Act → World → Prop} {rest : List Oper} {o : Oper} {j t : Nat} {want c : Bool} (hS : St W M T n G D F a w) (hg : o.guard = some (j, want)) (hj : (ops[j]?).bind (·.dst) = some t) (ht : lk G t = some (.bool c)) (hc : c = want) (h : OpK P o a w (wpList P ops Q rest)) : wpList P ops Q (o :: rest) a w :=
  wpList_step fun K hK => by rw [if_pos (by rw [wanted_of hS hg hj ht, hc]; simp)]; exact h K Q hK
/-- a guarded operation that is not -/
theorem wn {ops : Array Oper} {Q : Exit → Act → World → Prop} {rest : List Oper} {o : Oper} {j t d : Nat} {want c : Bool} (hS : St W M T n G D F a w) (hg : o.guard = some (j, want)) (hj : (ops[j]?).bind (·.dst) = some t) (ht : lk G t = some (.bool c)) (hc : c = !want) (hd : o.dst = some d) (hn : Nat.blt d n = true)
    (h : ∀ a, St W M T n ((d, undef) :: G) D F a w → wpList P ops Q rest a w) : wpList P ops Q (o :: rest) a w :=
  wpList_step fun K hK => by rw [if_neg (by rw [wanted_of hS hg hj ht, hc]; cases want <;> simp)]; rw [hd]; exact hK _ _ (h _ (hS.put hn _))
/-- a guarded operation whose guard has not been asked -/
theorem wnu {ops : Array Oper} {Q : Exit → Act → World → Prop} {rest : List Oper} {o : Oper} {j t d : Nat} {want : Bool} (hS : St W M T n G D F a w) (hg : o.guard = some (j, want)) (hj : (ops[j]?).bind (·.dst) = some t) (ht : lk G t = some undef) (hd : o.dst = some d) (hn : Nat.blt d n = true)
    (h : ∀ a, St W M T n ((d, undef) :: G) D F a w → wpList P ops Q rest a w) : wpList P ops Q (o :: rest) a w :=
  wpList_step fun K hK => by
    have h1 := hS.slots t _ ht
    have h2 : Region.wanted o (yielded ops a.tmps) = false := by
      unfold Region.wanted yielded
      rw [hg]
      simp only [hj, Option.bind_some, h1]
      rfl
    rw [if_neg (by rw [h2]; simp), hd]; exact hK _ _ (h _ (hS.put hn _))
theorem Ye.k {o : Oper} {v : Value} (h : Ye P o a E w v) : OpK P o a w (fun a' w' => a' = a.put o.dst v ∧ w' = w) := fun K' Q hK => by
  unfold Oper.wp
  rw [h w (Kt.refl _ _), Oper.upon_value]
  exact hK _ _ ⟨rfl, rfl⟩
theorem OpK.mono {o : Oper} {K' : Act → World → Prop} (h : OpK P o a w K) (hk : ∀ a w, K a w → K' a w) : OpK P o a w K' := fun K2 Q h2 => h K2 Q fun a w ha => h2 a w (hk a w ha)
theorem ky {o : Oper} {v : Value} {d : Nat} (hS : St W M T n G D F a w) (h : Ye P o a No w v) (hd : o.dst = some d) (hn : Nat.blt d n = true) (k : ∀ a, St W M T n ((d, v) :: G) D F a w → K a w) : OpK P o a w K :=
  h.k.mono fun a' w' ⟨h1, h2⟩ => by subst h1 h2; rw [hd]; exact k _ (hS.put hn v)
/-- an operation in a list that yields a value -/
theorem wy {ops : Array Oper} {Q : Exit → Act → World → Prop} {rest : List Oper} {o : Oper} {v : Value} {d : Nat} (hS : St W M T n G D F a w) (h : Ye P o a No w v) (hg : o.guard = none) (hd : o.dst = some d) (hn : Nat.blt d n = true) (k : ∀ a, St W M T n ((d, v) :: G) D F a w → wpList P ops Q rest a w) : wpList P ops Q (o :: rest) a w :=
  wl hg (ky hS h hd hn k)

/-- an operation that yields what it would in any world -/
theorem Ye.of {o : Oper} {v : Value} (h : ∀ w, (execOp a.eval o).run P w = .ok (.value v) w) : Ye P o a E w v := fun w' _ => h w'
theorem y_move {d : Option Nat} {x : Operand} {ty : TypeId} {pos : String} {af : Array Edge} {g : Option (Nat × Bool)} {v : Value} (hS : St W M T n G D F a w) (hx : ev G x = some v) : Ye P ⟨d, .move x, ty, pos, af, g⟩ a E w v :=
  Ye.of fun w => by simp only [execOp, Sem.run_pure, hS.ev hx]
theorem y_assign {d : Option Nat} {x : Operand} {ty : TypeId} {pos : String} {af : Array Edge} {g : Option (Nat × Bool)} {v : Value} (hS : St W M T n G D F a w) (hx : ev G x = some v) : Ye P ⟨d, .assign x, ty, pos, af, g⟩ a E w v :=
  Ye.of fun w => by simp only [execOp, Sem.run_pure, hS.ev hx]
theorem y_pickt {d : Option Nat} {c x y : Operand} {ty : TypeId} {pos : String} {af : Array Edge} {g : Option (Nat × Bool)} {v : Value} {b : Bool} (hS : St W M T n G D F a w) (hc : ev G c = some (.bool b)) (hb : b = true) (hv : ev G x = some v) : Ye P ⟨d, .pick c x y, ty, pos, af, g⟩ a E w v :=
  Ye.of fun w => by simp [execOp, hS.ev hc, hS.ev hv, asBool, hb]
theorem y_pickf {d : Option Nat} {c x y : Operand} {ty : TypeId} {pos : String} {af : Array Edge} {g : Option (Nat × Bool)} {v : Value} {b : Bool} (hS : St W M T n G D F a w) (hc : ev G c = some (.bool b)) (hb : b = false) (hv : ev G y = some v) : Ye P ⟨d, .pick c x y, ty, pos, af, g⟩ a E w v :=
  Ye.of fun w => by simp [execOp, hS.ev hc, hS.ev hv, asBool, hb]
def ibin : BinOp → IntKind → Int → Int → Option Value
  | .add, k, x, y => some (.int k (k.wrap (x + y)))
  | .sub, k, x, y => some (.int k (k.wrap (x - y)))
  | .mul, k, x, y => some (.int k (k.wrap (x * y)))
  | .eql, _, x, y => some (.bool (x == y))
  | .neq, _, x, y => some (.bool (x != y))
  | .lss, _, x, y => some (.bool (decide (x < y)))
  | .leq, _, x, y => some (.bool (decide (x ≤ y)))
  | .gtr, _, x, y => some (.bool (decide (y < x)))
  | .geq, _, x, y => some (.bool (decide (y ≤ x)))
  | _, _, _, _ => none
theorem y_int {d : Option Nat} {op : BinOp} {t t' : TypeId} {x y : Operand} {ty : TypeId} {pos : String} {af : Array Edge} {g : Option (Nat × Bool)} {v : Value} {k : IntKind} {p q : Int} (hS : St W M T n G D F a w)
    (hx : ev G x = some (.int k p)) (hy : ev G y = some (.int k q)) (hv : ibin op k p q = some v) : Ye P ⟨d, .binOp op t x y t', ty, pos, af, g⟩ a E w v :=
  Ye.of fun w => by
    have h1 := hS.ev hx
    have h2 := hS.ev hy
    cases op <;> simp only [ibin, Option.some.injEq, reduceCtorEq] at hv <;> subst hv <;> simp [execOp, h1, h2, eqGuard, binOp, Op.intArith, Op.intCmp]
theorem y_rem {d : Option Nat} {t t' : TypeId} {x y : Operand} {ty : TypeId} {pos : String} {af : Array Edge} {g : Option (Nat × Bool)} {k : IntKind} {p q : Int} (hS : St W M T n G D F a w)
    (hx : ev G x = some (.int k p)) (hy : ev G y = some (.int k q)) (hq : q ≠ 0) : Ye P ⟨d, .binOp .rem t x y t', ty, pos, af, g⟩ a E w (.int k (p.tmod q)) :=
  Ye.of fun w => by
    have h1 := hS.ev hx
    have h2 := hS.ev hy
    simp [execOp, h1, h2, eqGuard, binOp, Op.intDiv, hq]
theorem y_quo {d : Option Nat} {t t' : TypeId} {x y : Operand} {ty : TypeId} {pos : String} {af : Array Edge} {g : Option (Nat × Bool)} {k : IntKind} {p q : Int} (hS : St W M T n G D F a w)
    (hx : ev G x = some (.int k p)) (hy : ev G y = some (.int k q)) (hq : q ≠ 0) : Ye P ⟨d, .binOp .quo t x y t', ty, pos, af, g⟩ a E w (.int k (k.wrap (p.tdiv q))) :=
  Ye.of fun w => by
    have h1 := hS.ev hx
    have h2 := hS.ev hy
    simp [execOp, h1, h2, eqGuard, binOp, Op.intDiv, hq]
def sbin : BinOp → ByteArray → ByteArray → Option Value
  | .eql, x, y => some (.bool (x.toList == y.toList))
  | .neq, x, y => some (.bool !(x.toList == y.toList))
  | .lss, x, y => some (.bool (Op.bytesLess x.toList y.toList))
  | .gtr, x, y => some (.bool !(Op.bytesLess x.toList y.toList || x.toList == y.toList))
  | _, _, _ => none
theorem y_str {d : Option Nat} {op : BinOp} {t t' : TypeId} {x y : Operand} {ty : TypeId} {pos : String} {af : Array Edge} {g : Option (Nat × Bool)} {v : Value} {p q : ByteArray} (hS : St W M T n G D F a w)
    (hx : ev G x = some (.string p)) (hy : ev G y = some (.string q)) (hv : sbin op p q = some v) : Ye P ⟨d, .binOp op t x y t', ty, pos, af, g⟩ a E w v :=
  Ye.of fun w => by
    have h1 := hS.ev hx
    have h2 := hS.ev hy
    cases op <;> simp only [sbin, Option.some.injEq, reduceCtorEq] at hv <;> subst hv <;> simp [execOp, h1, h2, eqGuard, binOp, Op.stringOp]
theorem y_cat {d : Option Nat} {t t' : TypeId} {x y : Operand} {ty : TypeId} {pos : String} {af : Array Edge} {g : Option (Nat × Bool)} {p q : ByteArray} (hS : St W M T n G D F a w)
    (hx : ev G x = some (.string p)) (hy : ev G y = some (.string q)) (hz : p.size + q.size ≤ 140737488355328) : Ye P ⟨d, .binOp .add t x y t', ty, pos, af, g⟩ a E w (.string (p ++ q)) :=
  Ye.of fun w => by
    have h1 := hS.ev hx
    have h2 := hS.ev hy
    have h3 : ¬ (((p.size + q.size : Nat) : Int) > IntKind.i64.max) := by
      have : IntKind.i64.max = 9223372036854775807 := rfl
      omega
    simp only [execOp, h1, h2, eqGuard, binOp, Op.stringOp, if_neg h3]
    simp
theorem y_not {d : Option Nat} {t : TypeId} {x : Operand} {ty : TypeId} {pos : String} {af : Array Edge} {g : Option (Nat × Bool)} {b : Bool} (hS : St W M T n G D F a w) (hx : ev G x = some (.bool b)) : Ye P ⟨d, .unOp .not t x, ty, pos, af, g⟩ a E w (.bool !b) :=
  Ye.of fun w => by simp [execOp, hS.ev hx, Op.unary]
theorem y_neg {d : Option Nat} {t : TypeId} {x : Operand} {ty : TypeId} {pos : String} {af : Array Edge} {g : Option (Nat × Bool)} {k : IntKind} {p : Int} (hS : St W M T n G D F a w) (hx : ev G x = some (.int k p)) : Ye P ⟨d, .unOp .neg t x, ty, pos, af, g⟩ a E w (.int k (k.wrap (0 - p))) :=
  Ye.of fun w => by simp [execOp, hS.ev hx, Op.unary, Op.intArith]
theorem y_ex {d : Option Nat} {x : Operand} {i : Nat} {ty : TypeId} {pos : String} {af : Array Edge} {g : Option (Nat × Bool)} {vs : Array Value} {v : Value} (hS : St W M T n G D F a w) (hx : ev G x = some (.tuple vs)) (hv : vs[i]? = some v) : Ye P ⟨d, .extract x i, ty, pos, af, g⟩ a E w v :=
  Ye.of fun w => by simp [execOp, hS.ev hx, Instr.extract, hv]
theorem y_nil {d : Option Nat} {x : Operand} {ty : TypeId} {pos : String} {af : Array Edge} {g : Option (Nat × Bool)} {p : Addr} (hS : St W M T n G D F a w) (hx : ev G x = some (.pointer (some p))) : Ye P ⟨d, .nilCheck x, ty, pos, af, g⟩ a E w (.pointer (some p)) :=
  Ye.of fun w => by simp [execOp, hS.ev hx]
theorem y_nilf {d : Option Nat} {x : Operand} {ty : TypeId} {pos : String} {af : Array Edge} {g : Option (Nat × Bool)} {f : Nat} {c1 c2 : Array Value} (hS : St W M T n G D F a w) (hx : ev G x = some (.func (.func f) c1 c2)) : Ye P ⟨d, .nilCheck x, ty, pos, af, g⟩ a E w (.func (.func f) c1 c2) :=
  Ye.of fun w => by simp [execOp, hS.ev hx]
/-- len -/
def isSl (P : Program) (t : TypeId) : Option TypeId := match P.underlying t with
  | some (.slice e) => some e
  | _ => none
theorem isSl_und {t e : TypeId} (h : isSl P t = some e) : P.underlying t = some (.slice e) := by
  unfold isSl at h
  split at h
  · rename_i e' h1; injection h with h; subst h; exact h1
  · cases h
theorem y_lenv {d : Option Nat} {x : Operand} {t e : TypeId} {ty : TypeId} {pos : String} {af : Array Edge} {g : Option (Nat × Bool)} {v : Value} {m : Nat} (hS : St W M T n G D F a w) (ht : isSl P t = some e) (hx : ev G x = some v) (hv : ∃ A c, v = .slice A m c) : Ye P ⟨d, .call { callee := .builtin .len, args := #[x], argTypes := #[t] }, ty, pos, af, g⟩ a E w (.int .i64 m) :=
  Ye.of fun w => by
    obtain ⟨A, c, rfl⟩ := hv
    have h1 := hS.ev hx
    simp [execOp, resolve, invoke, builtin, h1, Builtin.len_, run_underlying (isSl_und ht), goInt]
theorem y_len {α : Type} {R : Rep α} {xs : List α} {d : Option Nat} {x : Operand} {t e : TypeId} {ty : TypeId} {pos : String} {af : Array Edge} {g : Option (Nat × Bool)} {v : Value} (hS : St W M T n G D F a w) (ht : isSl P t = some e) (hx : ev G x = some v) (i : Nat) (hi : F[i]? = some (SlF R v xs)) : Ye P ⟨d, .call { callee := .builtin .len, args := #[x], argTypes := #[t] }, ty, pos, af, g⟩ a E w (.int .i64 xs.length) :=
  y_lenv hS ht hx (by obtain ⟨A, c, e, _⟩ := SlR.len (hS.get i hi); exact ⟨A, c, e⟩)
theorem own_len {B sz : Nat} {e : TypeId} {v : Value} {cl : List Value} (h : Own w B e sz v cl) (hs : 0 < sz) {m : Nat} (hm : cl.length = m * sz) : ∃ A c, v = .slice A m c := by
  obtain ⟨A, k, c, rfl, h1, _⟩ := h.form hs
  have : k = m := Nat.mul_right_cancel hs (h1.symm.trans hm)
  subst this
  exact ⟨A, c, rfl⟩
theorem y_leno {α : Type} {R : Rep α} {xs : List α} {cl : List Value} {d : Option Nat} {x : Operand} {t e e' : TypeId} {ty : TypeId} {pos : String} {af : Array Edge} {g : Option (Nat × Bool)} {v : Value} (hS : St W M T n G D F a w) (ht : isSl P t = some e) (hx : ev G x = some v) (j : Nat) (hj : D[j]? = some (.own v e' R.size cl)) (i : Nat) (hi : F[i]? = some (RowsF R cl xs)) : Ye P ⟨d, .call { callee := .builtin .len, args := #[x], argTypes := #[t] }, ty, pos, af, g⟩ a E w (.int .i64 xs.length) :=
  y_lenv hS ht hx (by obtain ⟨h1, h2⟩ := hS.own _ (List.mem_of_getElem? hj); exact own_len h1 h2 (hS.get i hi : RowsOk R _ w cl xs).1)
theorem y_lens {d : Option Nat} {x : Operand} {t : TypeId} {ty : TypeId} {pos : String} {af : Array Edge} {g : Option (Nat × Bool)} {s : ByteArray} (hS : St W M T n G D F a w) (ht : P.underlying t = some .string) (hx : ev G x = some (.string s)) : Ye P ⟨d, .call { callee := .builtin .len, args := #[x], argTypes := #[t] }, ty, pos, af, g⟩ a E w (.int .i64 s.size) :=
  Ye.of fun w => by
    have h1 := hS.ev hx
    simp [execOp, resolve, invoke, builtin, h1, Builtin.len_, run_underlying ht, goInt]
/-- the address of a field -/
theorem run_field {s : TypeId} {f k : Nat} {b o : Nat} (hf : fldI P s f = some k) (w : World) : (Instr.fieldAt s (.pointer (some ⟨b, o, none⟩)) f).run P w = .ok (.pointer (some ⟨b, o + k, none⟩)) w := by
  unfold fldI at hf
  split at hf
  · rename_i fs hu
    split at hf
    · rename_i fd hfd
      split at hf
      · rename_i i hi
        split at hf
        · cases hf
        · rename_i hz
          injection hf with hf
          subst hf
          have hsz : (sizeOf fd.type).run P w = .ok i.size w := by simp [sizeOf, typeInfo, hi]
          have hadd : Addr.add ⟨b, o, none⟩ fd.offset = ⟨b, o + fd.offset, none⟩ := by
            unfold Addr.add
            split
            · rename_i h0; rw [h0]; rfl
            · rfl
          simp [Instr.fieldAt, run_underlying hu, hfd, Instr.sureAddr, fieldPlace, hsz, hz, hadd]
      · cases hf
    · cases hf
  · cases hf
theorem y_fld {d : Option Nat} {s : TypeId} {x : Operand} {f k : Nat} {ty : TypeId} {pos : String} {af : Array Edge} {g : Option (Nat × Bool)} {b o : Nat} (hS : St W M T n G D F a w) (hx : ev G x = some (.pointer (some ⟨b, o, none⟩))) (hf : fldI P s f = some k) : Ye P ⟨d, .fieldAddr s x f, ty, pos, af, g⟩ a E w (.pointer (some ⟨b, o + k, none⟩)) :=
  Ye.of fun w => by simp [execOp, hS.ev hx, run_field hf]
/-- loads -/
theorem run_isAgg {t : TypeId} {b : Bool} {z : Nat} (h : tyI P t = some (b, z)) (w : World) : (isAgg t).run P w = .ok b w := by
  unfold tyI at h
  split at h
  all_goals first | (cases h; done) | skip
  all_goals
    rename_i hu hi
    simp only [Option.some.injEq, Prod.mk.injEq] at h
    obtain ⟨rfl, _⟩ := h
    simp [isAgg, run_underlying hu]
theorem run_size {t : TypeId} {b : Bool} {z : Nat} (h : tyI P t = some (b, z)) (w : World) : (sizeOf t).run P w = .ok z w := by
  unfold tyI at h
  split at h
  all_goals first | (cases h; done) | skip
  all_goals
    rename_i hu hi
    simp only [Option.some.injEq, Prod.mk.injEq] at h
    obtain ⟨_, rfl⟩ := h
    simp [sizeOf, typeInfo, hi]
theorem addr_add (b o k : Nat) : Addr.add ⟨b, o, none⟩ k = ⟨b, o + k, none⟩ := by
  unfold Addr.add
  split
  · rename_i h0; rw [h0]; rfl
  · rfl
theorem run_loadFrom {b o : Nat} : ∀ (m : Nat) (us : List Value) (i : Nat) (acc : Array Value) (w : World), us.length = m → (∀ j u, us[j]? = some u → w.cell? ⟨b, o + i + j, none⟩ = some u) → (loadCellsFrom ⟨b, o, none⟩ i m acc).run P w = .ok (acc ++ us.toArray) w
  | 0, us, i, acc, w, hl, _ => by
    obtain rfl := List.eq_nil_of_length_eq_zero hl
    simp [loadCellsFrom]
  | m + 1, us, i, acc, w, hl, hc => by
    cases us with
    | nil => simp at hl
    | cons u r =>
      have h0 := hc 0 u rfl
      have ih := run_loadFrom m r (i + 1) (acc.push u) w (by simpa using hl) (fun j v hv => by have := hc (j + 1) v (by simpa using hv); rwa [show o + i + (j + 1) = o + (i + 1) + j by omega] at this)
      rw [Nat.add_zero] at h0
      simp [loadCellsFrom, addr_add, h0, load, ih, Sem.run]
theorem run_loadV {t : TypeId} {ag : Bool} {z b o : Nat} {us : List Value} {v : Value} (ht : tyI P t = some (ag, z)) (hl : us.length = z) (hv : v = cond ag (.agg us.toArray) (us.getD 0 undef)) (hz : ag = false → z = 1) (w : World) (hc : ∀ j u, us[j]? = some u → w.cell? ⟨b, o + j, none⟩ = some u) : (loadVar t ⟨b, o, none⟩).run P w = .ok v w := by
  cases ag with
  | true =>
    have := run_loadFrom (P := P) (b := b) (o := o) z us 0 #[] w hl (fun j u hu => by rw [Nat.add_zero]; exact hc j u hu)
    rw [hv]
    simp [loadVar, run_isAgg ht, run_size ht, loadCells, this]
  | false =>
    have h1 := hz rfl
    subst h1
    cases us with
    | nil => simp at hl
    | cons u r =>
      have h0 := hc 0 u rfl
      rw [hv]
      rw [Nat.add_zero] at h0
      simp [loadVar, run_isAgg ht, load, h0, Sem.run]
/-- how the cells of a variable come up as a value -/
def valOf (ag : Bool) (us : List Value) : Value := cond ag (.agg us.toArray) (us.getD 0 undef)
theorem run_loadAt {t : TypeId} {ag : Bool} {z b o : Nat} {us : List Value} (ht : tyI P t = some (ag, z)) (hl : us.length = z) (hz : ag = false → z = 1) (w : World) (hc : ∀ j u, us[j]? = some u → w.cell? ⟨b, o + j, none⟩ = some u) : (Instr.loadAt t (.pointer (some ⟨b, o, none⟩))).run P w = .ok (valOf ag us) w := by
  simp [Instr.loadAt, Instr.sureAddr, run_loadV ht hl rfl hz w hc, valOf]
/-- from a variable of the call's own -/
theorem y_load {d : Option Nat} {t ty : TypeId} {x : Operand} {pos : String} {af : Array Edge} {g : Option (Nat × Bool)} {ag : Bool} {z b o : Nat} {cs us : List Value} {bt : TypeId} (hS : St W M T n G D F a w) (hx : ev G x = some (.pointer (some ⟨b, o, none⟩))) (ht : tyI P t = some (ag, z)) (i : Nat) (hi : D[i]? = some (.box b cs bt)) (hE : ¬ E b)
    (hu : (cs.drop o).take z = us) (hl : us.length = z) (hz : ag = false → z = 1) : Ye P ⟨d, .load t x, ty, pos, af, g⟩ a E w (valOf ag us) := fun w' hk => by
  have hr : w.heap[b]? = some (.cells cs.toArray bt (0, 0)) := hS.own _ (List.mem_of_getElem? hi)
  have hr' := (hk.block b (Array.getElem?_eq_some_iff.1 hr).1 hE).trans hr
  have := run_loadAt (P := P) (b := b) (o := o) ht hl hz w' (fun j u hj => by
    rw [cell_of_row _ _ _ _ _ _ hr', List.getElem?_toArray]
    rw [← hu, List.getElem?_take] at hj
    split at hj
    · rw [List.getElem?_drop] at hj; exact hj
    · cases hj)
  simp [execOp, hS.ev hx, this]
/-- from a block that does not turn -/
theorem y_loadc {d : Option Nat} {t ty : TypeId} {x : Operand} {pos : String} {af : Array Edge} {g : Option (Nat × Bool)} {ag : Bool} {z b o k : Nat} {cs us : List Value} (hS : St W M T n G D F a w) (ht : tyI P t = some (ag, z)) (i : Nat) (hi : F[i]? = some (CellsF b o cs)) (hx : ev G x = some (.pointer (some ⟨b, o + k, none⟩))) (hE : ∀ j, E j → dT T D j ∨ w.heap.size ≤ j)
    (hu : (cs.drop k).take z = us) (hl : us.length = z) (hz : ag = false → z = 1) : Ye P ⟨d, .load t x, ty, pos, af, g⟩ a E w (valOf ag us) := fun w' hk => by
  have hc : CellsAt (dT T D) w b o cs := hS.get i hi
  have hk2 : Kt (dT T D) w w' := ⟨hk.os, hk.tape, hk.output, hk.size, fun j hj hn => hk.block j hj fun he => (hE j he).elim hn fun h => by omega⟩
  have hc' := (hc.keep hk2 (Nw.refl _ _)).sub (ds := us) k (fun j u hj => by
    rw [← hu, List.getElem?_take] at hj
    split at hj
    · rw [List.getElem?_drop] at hj; exact hj
    · cases hj)
  have := run_loadAt (P := P) (b := b) (o := o + k) ht hl hz w' hc'.2.2
  simp [execOp, hS.ev hx, this]
/-- a field of a value -/
theorem y_fieldv {d : Option Nat} {s : TypeId} {x : Operand} {f : Nat} {ty : TypeId} {pos : String} {af : Array Edge} {g : Option (Nat × Bool)} {cs : Array Value} {ag : Bool} {z k : Nat} {us : List Value} {fs : Array Field} {fd : Field} (hS : St W M T n G D F a w) (hx : ev G x = some (.agg cs)) (hs : P.underlying s = some (.struct fs)) (hf : fs[f]? = some fd) (hk : fd.offset = k) (ht : tyI P fd.type = some (ag, z))
    (hu : (cs.toList.drop k).take z = us) (hl : us.length = z) (hz : ag = false → z = 1) : Ye P ⟨d, .field s x f, ty, pos, af, g⟩ a E w (valOf ag us) :=
  Ye.of fun w => by
    have h1 := hS.ev hx
    subst hk
    have hp : (part fd.type cs fd.offset).run P w = .ok (valOf ag us) w := by
      cases ag with
      | true =>
        have : cs.extract fd.offset (fd.offset + z) = us.toArray := by
          rw [← hu]
          apply Array.toList_inj.1
          rw [Array.toList_extract, List.extract_eq_take_drop]
          simp
        simp [part, run_isAgg ht, run_size ht, this, valOf]
      | false =>
        have h1 := hz rfl
        subst h1
        have : cs[fd.offset]? = some (us.getD 0 undef) := by
          rw [← hu] at hl ⊢
          rw [List.length_take, List.length_drop] at hl
          have hlt : fd.offset < cs.toList.length := by omega
          rw [← Array.getElem?_toList, List.getElem?_eq_getElem hlt]
          simp [List.getD_eq_getElem?_getD, List.getElem?_take, List.getElem?_drop, List.getElem?_eq_getElem hlt]
        simp [part, run_isAgg ht, this, valOf]
    simp [execOp, h1, Instr.field, run_underlying hs, hf, asAgg, hp]
/-- a byte of a string -/
theorem y_byte {d : Option Nat} {s : TypeId} {x y : Operand} {ty : TypeId} {pos : String} {af : Array Edge} {g : Option (Nat × Bool)} {k : IntKind} {i : Int} {p : ByteArray} {c : UInt8} (hS : St W M T n G D F a w) (hs : P.underlying s = some .string) (hx : ev G x = some (.string p)) (hy : ev G y = some (.int k i)) (hc : getI p.toList i = some c) : Ye P ⟨d, .index s x y, ty, pos, af, g⟩ a E w (.int .u8 c.toNat) :=
  Ye.of fun w => by
    have h1 := hS.ev hx
    have h2 := hS.ev hy
    obtain ⟨q1, q2, q3⟩ := getI_some hc
    have h3 : p[i.toNat]? = some c := by
      rw [ByteArray.toList_eq, Array.getElem?_toList] at q3
      rw [← q3]; rfl
    simp [execOp, h1, h2, Instr.index, asIntOf, run_underlying hs, q1, h3]
end
end Go.Proofs.YtpbbnkpplcnaoaaGreatDoor

/- A frame for walks: operations that make or turn memory; calls; the end. -/
set_option linter.unusedVariables false
set_option linter.unusedSimpArgs false
namespace Go.Proofs.YtpbbnkpplcnaoaaGreatDoor
open Go.RowKit

def zeroI (P : Program) (t : TypeId) : Option (List Value) := match P.info? t with
  | some i => match i.zero with
    | some z => some z.cells.toList
    | none => none
  | none => none
def setL (cs : List Value) (o : Nat) (us : List Value) : List Value := cs.take o ++ us ++ cs.drop (o + us.length)
def fillL (pl : List (Nat × Nat)) (cs : List Value) : List (Nat × Value) → List (List Value) → Option (List Value)
  | [], [] => some cs
  | p :: r, u :: s => match pl[p.1]? with
    | some q => cond (Nat.beq u.length q.2 && Nat.ble (q.1 + q.2) cs.length) (fillL pl (setL cs q.1 u) r s) none
    | none => none
  | _, _ => none
/-- the cells of values -/
def Cs : List (Nat × Value) → List (List Value) → Prop
  | [], [] => True
  | p :: r, u :: s => p.2.cells.toList = u ∧ Cs r s
  | _, _ => False
theorem cells1 {v : Value} (h : v.oneCell' = true) : v.cells.toList = [v] := by cases v <;> first | rfl | cases h
def plI (P : Program) (t : TypeId) : Option (List (Nat × Nat)) := match P.underlying t with
  | some (.struct fs) => fs.toList.mapM fun f => (P.info? f.type).map fun i => (f.offset, i.size)
  | _ => none
def evp (G : List (Nat × Value)) : List (Nat × Operand) → Option (List (Nat × Value))
  | [] => some []
  | p :: r => match ev G p.2 with
    | some v => match evp G r with
      | some vs => some ((p.1, v) :: vs)
      | none => none
    | none => none
theorem set_fold : ∀ (us : List Value) (o k : Nat) (cs : Array Value), o + k + us.length ≤ cs.size → ((us.zipIdx k).foldl (fun cs x => cs.setIfInBounds (o + x.2) x.1) cs).toList = cs.toList.take (o + k) ++ us ++ cs.toList.drop (o + k + us.length)
  | [], o, k, cs, h => by simp
  | u :: r, o, k, cs, h => by
    simp only [List.length_cons] at h
    rw [List.zipIdx_cons, List.foldl_cons, set_fold r o (k + 1) _ (by simp; omega)]
    simp only [Array.toList_setIfInBounds, List.length_cons]
    apply List.ext_getElem?
    intro j
    have hl : cs.toList.length = cs.size := by simp
    simp only [List.getElem?_append, List.length_append, List.length_take, List.length_set, List.getElem?_take, List.getElem?_set, List.getElem?_drop, List.length_cons]
    rw [hl]
    rw [show min (o + (k + 1)) cs.size = o + k + 1 by omega, show min (o + k) cs.size = o + k by omega]
    by_cases h1 : j < o + k
    · simp [h1, show j < o + k + 1 + r.length by omega, show j < o + (k + 1) by omega, show j < o + k + 1 by omega, show j < o + k + (r.length + 1) by omega, show ¬ o + k = j by omega]
    · by_cases h2 : j = o + k
      · subst h2
        simp [show o + k < o + k + 1 + r.length by omega, show o + k < o + (k + 1) by omega, show o + k < cs.size by omega]
      · by_cases h3 : j < o + k + 1 + r.length
        · simp [h1, h3, show ¬ j < o + k + 1 by omega, show j < o + k + (r.length + 1) by omega]
          rw [show j - (o + k) = (j - (o + k + 1)) + 1 by omega, List.getElem?_cons_succ]
        · simp [h3, show ¬ j < o + k + 1 by omega, show ¬ j < o + k + (r.length + 1) by omega, show ¬ o + k = o + (k + 1) + r.length + (j - (o + k + 1 + r.length)) by omega]
          congr 1; omega
theorem fill_ok {place : Nat → Option (Nat × Nat)} {pl : List (Nat × Nat)} (hp : ∀ i q, pl[i]? = some q → place i = some q) : ∀ (parts : List (Nat × Value)) (us : List (List Value)) (cs ws : List Value), Cs parts us → fillL pl cs parts us = some ws → Instr.fill place cs.toArray parts = some ws.toArray
  | [], [], cs, ws, _, h => by simp only [fillL, Option.some.injEq] at h; subst h; rfl
  | [], _ :: _, _, _, h, _ => h.elim
  | _ :: _, [], _, _, h, _ => h.elim
  | (i, v) :: r, u :: s, cs, ws, hc0, h => by
    obtain ⟨hu, hc1⟩ := hc0
    simp only at hu
    subst hu
    simp only [fillL] at h
    cases hq : pl[i]? with
    | none => rw [hq] at h; cases h
    | some q =>
      obtain ⟨off, size⟩ := q
      rw [hq] at h
      simp only at h
      cases hc : (Nat.beq v.cells.toList.length size && Nat.ble (off + size) cs.length) with
      | false => rw [hc] at h; cases h
      | true =>
        rw [hc] at h
        simp only [cond_true] at h
        simp only [Bool.and_eq_true] at hc
        have h1 : v.cells.size = size := by have := Nat.eq_of_beq_eq_true hc.1; simpa using this
        have h2 : off + size ≤ cs.length := Nat.le_of_ble_eq_true hc.2
        have ih := fill_ok hp r s _ ws hc1 h
        have e : (v.cells.zipIdx.foldl (fun cs x => cs.setIfInBounds (off + x.2) x.1) cs.toArray) = (setL cs off v.cells.toList).toArray := by
          apply Array.toList_inj.1
          rw [← Array.foldl_toList, Array.toList_zipIdx, set_fold _ off 0 _ (by simp; omega)]
          simp [setL]
        have h3 : ¬ (v.cells.size ≠ size || decide (off + v.cells.size > cs.toArray.size)) = true := by simp [h1]; omega
        simp only [Instr.fill, hp i _ hq]
        simp only [ne_eq, decide_not, Bool.or_eq_true, Bool.not_eq_true', decide_eq_false_iff_not, decide_eq_true_eq] at h3 ⊢
        rw [if_neg h3]
        rw [← ih]
        congr 1

section
variable {P : Program} {W : World} {M T E : Nat → Prop} {n : Nat} {G G' : List (Nat × Value)} {D D' : List Res} {F F' : List Fact} {a : Act} {w w' : World} {K : Act → World → Prop}
theorem kval {o : Oper} {v : Value} {w' : World} (h : (execOp a.eval o).run P w = .ok (.value v) w') (hk : K (a.put o.dst v) w') : OpK P o a w K := fun K' Q hK => by
  unfold Oper.wp
  rw [h, Oper.upon_value]
  exact hK _ _ hk
theorem kskip {o : Oper} {w' : World} (h : (execOp a.eval o).run P w = .ok .skip w') (hk : K (a.put o.dst undef) w') : OpK P o a w K := fun K' Q hK => by
  unfold Oper.wp
  rw [h, Oper.upon_skip]
  exact hK _ _ hk
theorem zeroI_run {t : TypeId} {cs : List Value} (h : zeroI P t = some cs) (w : World) : ∃ z : Value, z.cells.toList = cs ∧ (zeroValue t).run P w = .ok z w := by
  unfold zeroI at h
  split at h
  · rename_i i hi
    split at h
    · rename_i z hz
      injection h with h
      exact ⟨z, h, by simp [zeroValue, typeInfo, hi, hz]⟩
    · cases h
  · cases h
/-- a new variable -/
theorem k_alloc {d : Nat} {t ty : TypeId} {pos : String} {af : Array Edge} {g : Option (Nat × Bool)} {cs : List Value} (hS : St W M T n G D F a w) (hz : zeroI P t = some cs) (hn : Nat.blt d n = true)
    (k : ∀ b, w.heap.size ≤ b → ∀ a w', Kt No w w' → St W M T n ((d, .pointer (some ⟨b, 0, none⟩)) :: G) (.box b cs t :: D) F a w' → K a w') : OpK P ⟨some d, .alloc t, ty, pos, af, g⟩ a w K := by
  obtain ⟨z, hz1, hz2⟩ := zeroI_run hz w
  have hr : (execOp a.eval ⟨some d, .alloc t, ty, pos, af, g⟩).run P w = .ok (.value (.pointer (some ⟨w.heap.size, 0, none⟩))) (w.alloc (.cells cs.toArray t)) := by
    subst hz1
    simp [execOp, Instr.alloc, hz2, newVar, newRow]
  exact kval hr (k w.heap.size (Nat.le_refl _) _ _ (Kt.alloc _ _) ((hS.alloc cs t).put hn _))
theorem k_box {d : Nat} {t ty : TypeId} {x : Operand} {pos : String} {af : Array Edge} {g : Option (Nat × Bool)} {v : Value} {cs : List Value} (hS : St W M T n G D F a w) (hx : ev G x = some v) (hv : v.cells.toList = cs) (hn : Nat.blt d n = true)
    (k : ∀ b, w.heap.size ≤ b → ∀ a w', Kt No w w' → St W M T n ((d, .pointer (some ⟨b, 0, none⟩)) :: G) (.box b cs t :: D) F a w' → K a w') : OpK P ⟨some d, .box t x, ty, pos, af, g⟩ a w K := by
  have hr : (execOp a.eval ⟨some d, .box t x, ty, pos, af, g⟩).run P w = .ok (.value (.pointer (some ⟨w.heap.size, 0, none⟩))) (w.alloc (.cells cs.toArray t)) := by
    subst hv
    simp [execOp, Instr.box, hS.ev hx, newVar, newRow]
  exact kval hr (k w.heap.size (Nat.le_refl _) _ _ (Kt.alloc _ _) ((hS.alloc cs t).put hn _))
theorem run_store_row {t : TypeId} {ag : Bool} {z : Nat} (ht : tyI P t = some (ag, z)) {b o : Nat} {cs : Array Value} {bt : TypeId} {v : Value} (hr : w.heap[b]? = some (.cells cs bt (0, 0))) (hz : v.cells.toList.length = z) (hl : o + z ≤ cs.size) (h1 : ∀ u ∈ v.cells.toList, u.oneCell' = true) :
    (Instr.storeAt t (.pointer (some ⟨b, o, none⟩)) v).run P w = .ok () (w.setRow b (cs.toList.take o ++ v.cells.toList ++ cs.toList.drop (o + z)).toArray) := by
  have h2 := run_storeCells_at (P := P) b o bt v.cells.toList 0 cs w hr (by omega) h1
  simp only [Nat.add_zero, hz] at h2
  have h3 : v.cells.size = z := by rw [← hz]; simp
  simp [Instr.storeAt, Instr.sureAddr, storeVar, run_size ht, h3, h2]
/-- a store into a variable of the call's own -/
theorem k_store {t ty : TypeId} {x y : Operand} {pos : String} {af : Array Edge} {g : Option (Nat × Bool)} {ag : Bool} {z b o : Nat} {cs us : List Value} {bt : TypeId} {v : Value} (hS : St W M T n G D F a w) (hx : ev G x = some (.pointer (some ⟨b, o, none⟩))) (hy : ev G y = some v) (hv : v.cells.toList = us) (ht : tyI P t = some (ag, z)) (i : Nat) (hi : D[i]? = some (.box b cs bt))
    (hz : us.length = z) (hl : Nat.ble (o + z) cs.length = true) (h1 : ∀ u ∈ us, u.oneCell' = true)
    (k : ∀ w', Kt (fun j => j = b) w w' → St W M T n G (D.set i (.box b (setL cs o us) bt)) F a w' → K a w') : OpK P ⟨none, .store t x y, ty, pos, af, g⟩ a w K := by
  have hr : w.heap[b]? = some (.cells cs.toArray bt (0, 0)) := hS.own _ (List.mem_of_getElem? hi)
  subst hv
  have hle := Nat.le_of_ble_eq_true hl
  have hst := run_store_row (P := P) ht hr hz (by simpa using hle) h1
  have hrow : (w.setRow b (cs.take o ++ v.cells.toList ++ cs.drop (o + z)).toArray).heap[b]? = some (.cells (cs.take o ++ v.cells.toList ++ cs.drop (o + z)).toArray bt (0, 0)) := setRow_heap w b cs.toArray _ bt _ hr
  have hk : Kt (fun j => Res.dom (.box b cs bt) j) w (w.setRow b (cs.take o ++ v.cells.toList ++ cs.drop (o + z)).toArray) := by
    refine ⟨rfl, rfl, rfl, by simp [World.setRow], fun j hj hn => ?_⟩
    have hne : b ≠ j := fun e => hn (by simp [Res.dom, e])
    simp [World.setRow, Array.getElem?_modify, hne]
  refine kskip (w' := w.setRow b (cs.take o ++ v.cells.toList ++ cs.drop (o + z)).toArray) (by simp [execOp, hS.ev hx, hS.ev hy, hst]) (k _ (hk.mono fun j hj => by simp only [Res.dom, Option.some.injEq] at hj; exact hj.symm) ?_)
  have := hS.turn hi hk (r' := .box b (setL cs o v.cells.toList) bt) (by rw [setL, hz]; exact hrow) (fun j hj => .inl hj)
  exact this

/-- a literal of a struct -/
theorem mapM_run {α β : Type} (f : α → Sem β) (g : α → Option β) (w : World) (hf : ∀ x y, g x = some y → (f x).run P w = .ok y w) : ∀ (l : List α) (r : List β), l.mapM g = some r → (l.mapM f).run P w = .ok r w
  | [], r, h => by simp only [List.mapM_nil, Option.pure_def, Option.some.injEq] at h; subst h; simp
  | x :: l, r, h => by
    simp only [List.mapM_cons, Option.bind_eq_bind, Option.pure_def] at h
    cases h1 : g x with
    | none => rw [h1] at h; cases h
    | some y =>
      cases h2 : l.mapM g with
      | none => rw [h1, h2] at h; cases h
      | some ys =>
        rw [h1, h2] at h
        simp only [Option.bind_some, Option.some.injEq] at h
        subst h
        simp [List.mapM_cons, hf x y h1, mapM_run f g w hf l ys h2]
theorem St.evp (h : St W M T n G D F a w) : ∀ {ps : List (Nat × Operand)} {vs : List (Nat × Value)}, evp G ps = some vs → ps.map (fun p => (p.1, a.eval p.2)) = vs
  | [], vs, hx => by simp only [Proofs.YtpbbnkpplcnaoaaGreatDoor.evp, Option.some.injEq] at hx; subst hx; rfl
  | (i, x) :: r, vs, hx => by
    simp only [Proofs.YtpbbnkpplcnaoaaGreatDoor.evp] at hx
    cases h1 : Proofs.YtpbbnkpplcnaoaaGreatDoor.ev G x with
    | none => rw [h1] at hx; cases hx
    | some v =>
      cases h2 : Proofs.YtpbbnkpplcnaoaaGreatDoor.evp G r with
      | none => rw [h1, h2] at hx; cases hx
      | some us =>
        rw [h1, h2] at hx
        simp only [Option.some.injEq] at hx
        subst hx
        rw [List.map_cons, h.ev h1, h.evp h2]
theorem y_build {d : Option Nat} {t ty : TypeId} {ps : List (Nat × Operand)} {pos : String} {af : Array Edge} {g : Option (Nat × Bool)} {pl : List (Nat × Nat)} {zs ws : List Value} {us : List (List Value)} {vs : List (Nat × Value)} (hS : St W M T n G D F a w) (hp : plI P t = some pl) (hz : zeroI P t = some zs) (hv : evp G ps = some vs) (hcs : Cs vs us) (hf : fillL pl zs vs us = some ws) :
    Ye P ⟨d, .build t ps.toArray, ty, pos, af, g⟩ a E w (.agg ws.toArray) :=
  Ye.of fun w => by
    unfold plI at hp
    split at hp
    · rename_i fs hu
      obtain ⟨z, hz1, hz2⟩ := zeroI_run hz w
      have h1 := mapM_run (P := P) (fun f => do pure (f.offset, ← sizeOf f.type)) (fun f => (P.info? f.type).map fun i => (f.offset, i.size)) w (fun x y hy => by
        cases hi : P.info? x.type with
        | none => rw [hi] at hy; cases hy
        | some i => rw [hi] at hy; simp only [Option.map_some, Option.some.injEq] at hy; subst hy; simp [sizeOf, typeInfo, hi]) fs.toList pl hp
      have h2 : (fs.mapM (m := Sem) fun f => do pure (f.offset, ← sizeOf f.type)).run P w = .ok pl.toArray w := by
        rw [Array.mapM_eq_mapM_toList, Sem.run_map, h1]; rfl
      have h3 := fill_ok (place := (pl.toArray[·]?)) (pl := pl) (fun i q hq => by simpa using hq) vs us zs ws hcs hf
      have hzc : z.cells = zs.toArray := by rw [← hz1]
      have h4 : (ps.toArray.map (fun p => (p.1, a.eval p.2))).toList = vs := by rw [← hS.evp hv]; simp
      have h5 : (Instr.build t (ps.toArray.map (fun p => (p.1, a.eval p.2)))).run P w = .ok (.agg ws.toArray) w := by
        unfold Instr.build
        simp only [Sem.run_bind, hz2, Result.andThen_ok, run_underlying hu, h2, hzc, h4, h3, Sem.run_pure]
      simp [execOp] at h5 ⊢
      rw [h5]; rfl
    · cases hp
end
end Go.Proofs.YtpbbnkpplcnaoaaGreatDoor

/- A frame for walks: regions that draw their order. -/
set_option linter.unusedVariables false
set_option linter.unusedSimpArgs false
namespace Go.Proofs.YtpbbnkpplcnaoaaGreatDoor
open Go.RowKit

section
variable {P : Program} {ops : Array Oper} {Q : Exit → Act → World → Prop} {md : Region.Mode} {E : Nat → Prop}
/-- all blocks -/
def Al : Nat → Prop := fun _ => True
/-- what a step may turn: anything, one block, or blocks from N on -/
inductive Tn where
  | any
  | blk (o : Option Nat)
  | new (N : Nat)
def Et : Tn → Nat → Prop
  | .any, _ => True
  | .blk o, k => o = some k
  | .new N, k => N ≤ k
def Eo (l : List (Tn)) (k : Nat) : Prop := ∃ e ∈ l, Et e k
def modsOf (mods : List (Nat × Tn)) (i : Nat) : List (Tn) := (mods.filter fun p => Nat.beq p.1 i).map (·.2)
/-- a step of a region: what operation i turns is said in 'mods' -/
def Stp (mods : List (Nat × Tn)) (i : Nat) (w w' : World) : Prop := Kt (Eo (modsOf mods i)) w w'
/-- operation j waits for operation i -/
def waitB (ops : Array Oper) (listed : Array Bool) (i : Nat) : Nat → Nat → Bool
  | 0, _ => false
  | n + 1, j => match ops[j]? with
    | some oj => oj.after.any fun e => Region.binds .any e && (Nat.beq e.on i || (!listed.getD e.on true && waitB ops listed i n e.on))
    | none => true
/-- operation j is done, or waits for operation i -/
def doneB (ops : Array Oper) (listed : Array Bool) (i j : Nat) : Bool := listed.getD j true || waitB ops listed i 5 j
/-- what may turn before operation i -/
def rem (ops : Array Oper) (mods : List (Nat × Tn)) (listed : Array Bool) (i : Nat) : List (Tn) := (mods.filter fun p => !doneB ops listed i p.1).map (·.2)
/-- every order -/
def wpE (P : Program) (ops : Array Oper) (Q : Exit → Act → World → Prop) (mods : List (Nat × Tn)) : Nat → Array Bool → Act → World → Prop
  | 0, listed, a, w => Region.ready .any ops listed = [] ∧ Q .normal a w
  | fuel + 1, listed, a, w =>
    (Region.ready .any ops listed = [] → Q .normal a w) ∧
    ∀ i ∈ Region.ready .any ops listed, wpOp P ops Q i (fun a' w' => Stp mods i w w' ∧ wpE P ops Q mods fuel (listed.setIfInBounds i true) a' w') a w
theorem wpE_any {mods : List (Nat × Tn)} : ∀ (fuel : Nat) (listed : Array Bool) (a : Act) (w : World), wpE P ops Q mods fuel listed a w → wpAny P .any ops Q fuel listed a w
  | 0, _, _, _, h => h
  | fuel + 1, listed, a, w, h => ⟨h.1, fun i hi => wpOp_mono (fun a w h => wpE_any fuel _ a w h.2) (h.2 i hi)⟩
theorem getD_tf {l : Array Bool} {i : Nat} (h : l.getD i false = true) : l.getD i true = true := by
  rcases Nat.lt_or_ge i l.size with h' | h'
  · simp [h'] at h ⊢; exact h
  · simp [Array.getElem?_eq_none h'] at h
theorem waitB_no {listed : Array Bool} {i j : Nat} {oj : Oper} (hj : ops[j]? = some oj) (hall : ∀ e ∈ oj.after, Region.binds .any e = true → listed.getD e.on false = true) (hno : ∀ e ∈ oj.after, Region.binds .any e = true → e.on ≠ i) : ∀ n, waitB ops listed i n j = false
  | 0 => rfl
  | n + 1 => by
    cases h : waitB ops listed i (n + 1) j with
    | false => rfl
    | true =>
      unfold waitB at h
      rw [hj] at h
      dsimp only at h
      obtain ⟨e, he, hb⟩ := Array.any_eq_true'.1 h
      simp only [Bool.and_eq_true, Bool.or_eq_true, Bool.not_eq_true'] at hb
      rcases hb.2 with h1 | h1
      · exact absurd (Nat.eq_of_beq_eq_true h1) (hno e he hb.1)
      · rw [getD_tf (hall e he hb.1)] at h1; cases h1.1
theorem doneB_no {listed : Array Bool} {i j : Nat} {oj : Oper} (hj : ops[j]? = some oj) (hun : listed.getD j true = false) (hall : ∀ e ∈ oj.after, Region.binds .any e = true → listed.getD e.on false = true) (hno : ∀ e ∈ oj.after, Region.binds .any e = true → e.on ≠ i) : doneB ops listed i j = false := by
  unfold doneB
  rw [hun, waitB_no hj hall hno]; rfl
theorem waitB_set {listed : Array Bool} {i j : Nat} (hw : ∀ n, waitB ops listed i n j = false) : ∀ n k, waitB ops listed i n k = true → waitB ops (listed.setIfInBounds j true) i n k = true
  | 0, _, h => h
  | n + 1, k, h => by
    unfold waitB at h ⊢
    cases hk : ops[k]? with
    | none => rfl
    | some ok =>
      rw [hk] at h
      dsimp only at h ⊢
      obtain ⟨e, he, hb⟩ := Array.any_eq_true'.1 h
      refine Array.any_eq_true'.2 ⟨e, he, ?_⟩
      simp only [Bool.and_eq_true, Bool.or_eq_true, Bool.not_eq_true'] at hb ⊢
      refine ⟨hb.1, ?_⟩
      rcases hb.2 with h1 | ⟨h1, h2⟩
      · exact .inl h1
      · by_cases hej : j = e.on
        · rw [← hej, hw n] at h2; cases h2
        · exact .inr ⟨by rw [getD_set_ne true hej]; exact h1, waitB_set hw n _ h2⟩
theorem doneB_set {listed : Array Bool} {i j k : Nat} (hw : ∀ n, waitB ops listed i n j = false) (h : doneB ops (listed.setIfInBounds j true) i k = false) : doneB ops listed i k = false := by
  unfold doneB at *
  rw [Bool.or_eq_false_iff] at h ⊢
  refine ⟨?_, ?_⟩
  · have h1 := h.1
    by_cases hjk : j = k
    · subst hjk
      by_cases hl : j < listed.size
      · simp [hl] at h1
      · simp [Array.getElem?_eq_none (by omega : listed.size ≤ j)] at h1
    · rw [getD_set_ne true hjk] at h1; exact h1
  · cases h2 : waitB ops listed i 5 k with
    | false => rfl
    | true => rw [waitB_set hw 5 k h2] at h; cases h.2
def YE (P : Program) (ops : Array Oper) (E : Nat → Prop) (w0 : World) (o : Oper) (v : Value) (a : Act) : Prop :=
  (Region.wanted o (yielded ops a.tmps) = true ∧ ∀ w, Kt E w0 w → (execOp a.eval o).run P w = .ok (.value v) w) ∨
  (Region.wanted o (yielded ops a.tmps) = false ∧ v = undef)
theorem YE.wpOp {w0 : World} {i : Nat} {o : Oper} {v : Value} {a : Act} (hi : ops[i]? = some o) (hy : YE P ops E w0 o v a)
    {K : Act → World → Prop} {w : World} (hw0 : Kt E w0 w) (h : K (a.put o.dst v) w) : wpOp P ops Q i K a w := by
  unfold Go.wpOp
  simp only [hi]
  rcases hy with ⟨hw, hv⟩ | ⟨hw, rfl⟩
  · simp only [hw, if_true, Oper.wp, hv w hw0, Oper.upon]; exact .inl h
  · simp only [hw, Bool.false_eq_true, if_false]; exact h
theorem YE.of_same {w0 : World} {o : Oper} {v : Value} {a a' : Act} (hy : YE P ops E w0 o v a) (he : execOp a'.eval o = execOp a.eval o)
    (hw : Region.wanted o (yielded ops a'.tmps) = Region.wanted o (yielded ops a.tmps)) : YE P ops E w0 o v a' := by
  unfold YE at *
  rw [he, hw]
  exact hy
theorem wpOp_putE {w0 : World} {j : Nat} {oi oj : Oper} {v : Value} (hj : ops[j]? = some oj) (hap : oi.apart ops oj = true)
    (hsi : ∀ cs b, oi.op ≠ .select cs b) (hsj : ∀ cs b, oj.op ≠ .select cs b)
    (hQ : ∀ c a w, Q (.panic c) (a.put oi.dst v) w → Q (.panic c) a w) {K : Act → World → Prop} {a : Act} {w : World}
    (hy : YE P ops E w0 oi v a) (h : wpOp P ops Q j K (a.put oi.dst v) w) :
    wpOp P ops Q j (fun a' w' => YE P ops E w0 oi v a' ∧ K (a'.put oi.dst v) w') a w := by
  obtain ⟨h1, h2, h3⟩ := Oper.apart_spec hap
  have keep : ∀ (a : Act), YE P ops E w0 oi v a → ∀ u, YE P ops E w0 oi v (a.put oj.dst u) := fun a hy u =>
    hy.of_same (execOp_put oi hsi a oj.dst u h3) (wanted_put oi a oj.dst u h3)
  have keepD : ∀ d, YE P ops E w0 oi v { a with defers := d :: a.defers } := fun d => hy.of_same rfl rfl
  unfold wpOp at *
  simp only [hj] at *
  rw [wanted_put oj a oi.dst v h1] at h
  split
  · rename_i hw
    simp only [hw, if_true] at h
    rcases h with h | ⟨hasks, hlets⟩
    case inr => exact .inr ⟨by unfold Oper.asks at *; rw [execOp_put oj hsj a oi.dst v h1] at hasks; exact hasks, hlets⟩
    refine .inl ?_
    unfold Oper.wp at *
    rw [execOp_put oj hsj a oi.dst v h1] at h
    generalize (execOp a.eval oj).run P w = r at *
    cases r with
    | ok n w' =>
      cases n <;> simp only [Oper.upon] at h ⊢
      case value u => exact ⟨keep a hy u, by rw [← Act.put_comm a v u h2]; exact h⟩
      case skip => exact ⟨keep a hy _, by rw [← Act.put_comm a v undef h2]; exact h⟩
      case defer d =>
        refine ⟨keep _ (keepD d) _, ?_⟩
        rw [← Act.put_comm _ v undef h2, ← Act.put_defers]
        exact h
      case enter f args =>
        refine Calls.mono h fun e w'' he => ?_
        cases e with
        | returned u => exact ⟨keep a hy u, by rw [← Act.put_comm a v u h2]; exact he⟩
        | panicked c => exact hQ _ _ _ he
        | outgrown => exact he
      case row row args => exact Rows.mono h fun u w'' he => ⟨keep a hy u, by rw [← Act.put_comm a v u h2]; exact he⟩
    | halt x w' =>
      cases x <;> simp only [Oper.upon] at h ⊢
      case panic u => exact hQ _ _ _ h
  · rename_i hw
    simp only [hw] at h
    exact ⟨keep a hy _, by rw [← Act.put_comm a v undef h2]; exact h⟩
theorem wpE_first {mods : List (Nat × Tn)} {w0 : World} {i : Nat} {oi : Oper} {v : Value} (hi : ops[i]? = some oi) (hsel : ∀ (j : Nat) (o : Oper) cs b, ops[j]? = some o → o.op ≠ .select cs b)
    (hQ : ∀ c a w, Q (.panic c) (a.put oi.dst v) w → Q (.panic c) a w) :
    ∀ (fuel : Nat) (listed : Array Bool) (a : Act) (w : World),
      (∀ j oj, ops[j]? = some oj → j ≠ i → listed.getD j true = false → (∀ e ∈ oj.after, Region.binds .any e = true → e.on ≠ i) → oi.apart ops oj = true) →
      i ∈ Region.ready .any ops listed → (∀ p ∈ mods, doneB ops listed i p.1 = false → ∀ k, Et p.2 k → E k) → YE P ops E w0 oi v a → Kt E w0 w →
      wpE P ops Q mods fuel (listed.setIfInBounds i true) (a.put oi.dst v) w → wpE P ops Q mods (fuel + 1) listed a w := by
  intro fuel
  induction fuel with
  | zero =>
    intro listed a w _ hr _ hy hw0 H
    refine ⟨fun h => (by rw [h] at hr; cases hr), fun j hj => ?_⟩
    by_cases hji : j = i
    · subst hji; exact hy.wpOp hi hw0 ⟨Kt.refl _ _, H⟩
    · have := ready_mono hj hji
      rw [H.1] at this
      cases this
  | succ fuel ih =>
    intro listed a w hfree hr hbef hy hw0 H
    refine ⟨fun h => (by rw [h] at hr; cases hr), fun j hj => ?_⟩
    by_cases hji : j = i
    · subst hji; exact hy.wpOp hi hw0 ⟨Kt.refl _ _, H⟩
    · have h1 := H.2 j (ready_mono hj hji)
      obtain ⟨hjun, oj, hoj, hall⟩ := mem_ready.1 hj
      have hnot : ∀ e ∈ oj.after, Region.binds .any e = true → e.on ≠ i := fun e he hb heq => by
        have h1 := hall e he hb
        have h0 := (mem_ready.1 hr).1
        rw [heq] at h1
        rcases Nat.lt_or_ge i listed.size with h' | h'
        · simp [h'] at h0 h1; rw [h0] at h1; cases h1
        · simp [Array.getElem?_eq_none h'] at h1
      have h2 := wpOp_putE hoj (hfree j oj hoj hji hjun hnot) (fun cs b => hsel i oi cs b hi) (fun cs b => hsel j oj cs b hoj) hQ hy h1
      have hfree' : ∀ k ok, ops[k]? = some ok → k ≠ i → (listed.setIfInBounds j true).getD k true = false →
          (∀ e ∈ ok.after, Region.binds .any e = true → e.on ≠ i) → oi.apart ops ok = true := fun k ok hk hki hun hno => by
        refine hfree k ok hk hki ?_ hno
        by_cases hjk : j = k
        · subst hjk; exact hjun
        · rw [getD_set_ne true hjk] at hun; exact hun
      refine wpOp_mono (fun a' w' h3 => ⟨h3.2.1, ih (listed.setIfInBounds j true) a' w' hfree' (ready_mono hr (Ne.symm hji)) (fun p hp hd => hbef p hp (doneB_set (waitB_no hoj hall hnot) hd)) h3.1 (hw0.trans ?_) ?_⟩) h2
      · refine Kt.mono h3.2.1 fun k hk => ?_
        obtain ⟨e, he, hek⟩ := hk
        obtain ⟨p, hp, rfl⟩ := List.mem_map.1 he
        rw [List.mem_filter] at hp
        have hpj := Nat.eq_of_beq_eq_true hp.2
        exact hbef p hp.1 (by rw [hpj]; exact doneB_no hoj hjun hall hnot) k hek
      · rw [Array.setIfInBounds_comm _ _ hji]
        exact h3.2.2
/-- an operation may be done first -/
theorem wpE_take {mods : List (Nat × Tn)} {l : List (Tn)} {i : Nat} {oi : Oper} {v : Value} {fuel : Nat} {listed : Array Bool} {a : Act} {w : World} (hi : ops[i]? = some oi)
    (hs : Region.noSelect ops = true) (hf : Region.free .any ops listed i = true) (hr : (Region.ready .any ops listed).contains i = true) (hb : rem ops mods listed i = l)
    (hQ : ∀ c a w, Q (.panic c) (a.put oi.dst v) w → Q (.panic c) a w) (hy : YE P ops (Eo l) w oi v a)
    (h : wpE P ops Q mods fuel (listed.setIfInBounds i true) (a.put oi.dst v) w) : wpE P ops Q mods (fuel + 1) listed a w :=
  wpE_first hi (Region.noSelect_spec hs) hQ fuel listed a w (Region.free_spec hi hf) (by simpa using hr)
    (fun p hp hd k hk => ⟨p.2, by rw [← hb]; exact List.mem_map.2 ⟨p, List.mem_filter.2 ⟨hp, by rw [hd]; rfl⟩, rfl⟩, hk⟩) hy (Kt.refl _ _) h
/-- just one can be done -/
theorem wpE_one {mods : List (Nat × Tn)} {i : Nat} {oi : Oper} {fuel : Nat} {listed : Array Bool} {a : Act} {w : World} (hi : ops[i]? = some oi) (hr : Region.ready .any ops listed = [i]) (hg : oi.guard = none)
    (h : OpK P oi a w (fun a' w' => Stp mods i w w' ∧ wpE P ops Q mods fuel (listed.setIfInBounds i true) a' w')) : wpE P ops Q mods (fuel + 1) listed a w := by
  refine ⟨fun h => (by rw [h] at hr; cases hr), fun j hj => ?_⟩
  rw [hr, List.mem_singleton] at hj
  subst hj
  unfold wpOp
  rw [hi]
  simp only
  rw [if_pos (by simp [Region.wanted, hg])]
  exact .inl (h _ _ fun a w h => h)
/-- just one can be done, and its guard lets it -/
theorem wpE_oneg {mods : List (Nat × Tn)} {W : World} {M T : Nat → Prop} {n : Nat} {G : List (Nat × Value)} {D : List Res} {F : List Fact} {i : Nat} {oi : Oper} {fuel : Nat} {listed : Array Bool} {a : Act} {w : World} {j t : Nat} {want c : Bool} (hi : ops[i]? = some oi) (hr : Region.ready .any ops listed = [i]) (hS : St W M T n G D F a w) (hg : oi.guard = some (j, want)) (hj : (ops[j]?).bind (·.dst) = some t) (ht : lk G t = some (.bool c)) (hc : c = want)
    (h : OpK P oi a w (fun a' w' => Stp mods i w w' ∧ wpE P ops Q mods fuel (listed.setIfInBounds i true) a' w')) : wpE P ops Q mods (fuel + 1) listed a w := by
  refine ⟨fun h => (by rw [h] at hr; cases hr), fun k hk => ?_⟩
  rw [hr, List.mem_singleton] at hk
  subst hk
  unfold wpOp
  rw [hi]
  simp only
  rw [if_pos (by rw [wanted_of hS hg hj ht, hc]; simp)]
  exact .inl (h _ _ fun a w h => h)
/-- two can be done -/
theorem wpE_two {mods : List (Nat × Tn)} {i j : Nat} {oi oj : Oper} {fuel : Nat} {listed : Array Bool} {a : Act} {w : World} (hi : ops[i]? = some oi) (hj : ops[j]? = some oj) (hr : Region.ready .any ops listed = [i, j]) (hg : oi.guard = none) (hg2 : oj.guard = none)
    (h : OpK P oi a w (fun a' w' => Stp mods i w w' ∧ wpE P ops Q mods fuel (listed.setIfInBounds i true) a' w'))
    (h2 : OpK P oj a w (fun a' w' => Stp mods j w w' ∧ wpE P ops Q mods fuel (listed.setIfInBounds j true) a' w')) : wpE P ops Q mods (fuel + 1) listed a w := by
  refine ⟨fun h => (by rw [h] at hr; cases hr), fun k hk => ?_⟩
  rw [hr] at hk
  simp only [List.mem_cons, List.not_mem_nil, or_false] at hk
  rcases hk with rfl | rfl
  · unfold wpOp
    rw [hi]
    simp only
    rw [if_pos (by simp [Region.wanted, hg])]
    exact .inl (h _ _ fun a w h => h)
  · unfold wpOp
    rw [hj]
    simp only
    rw [if_pos (by simp [Region.wanted, hg2])]
    exact .inl (h2 _ _ fun a w h => h)
/-- some can be done -/
theorem wpE_some {mods : List (Nat × Tn)} {l : List Nat} {fuel : Nat} {listed : Array Bool} {a : Act} {w : World} (hr : Region.ready .any ops listed = l) (hne : l ≠ [])
    (h : ∀ i ∈ l, ∃ oi, ops[i]? = some oi ∧ oi.guard = none ∧ OpK P oi a w (fun a' w' => Stp mods i w w' ∧ wpE P ops Q mods fuel (listed.setIfInBounds i true) a' w')) : wpE P ops Q mods (fuel + 1) listed a w := by
  refine ⟨fun h0 => absurd (hr.symm.trans h0) hne, fun k hk => ?_⟩
  rw [hr] at hk
  obtain ⟨oi, h1, h2, h3⟩ := h k hk
  unfold wpOp
  rw [h1]
  simp only
  rw [if_pos (by simp [Region.wanted, h2])]
  exact .inl (h3 _ _ fun a w h => h)
theorem wpE_three {mods : List (Nat × Tn)} {i j k : Nat} {oi oj ok : Oper} {fuel : Nat} {listed : Array Bool} {a : Act} {w : World} (hi : ops[i]? = some oi) (hj : ops[j]? = some oj) (hk : ops[k]? = some ok) (hr : Region.ready .any ops listed = [i, j, k]) (hg : oi.guard = none) (hg2 : oj.guard = none) (hg3 : ok.guard = none)
    (h : OpK P oi a w (fun a' w' => Stp mods i w w' ∧ wpE P ops Q mods fuel (listed.setIfInBounds i true) a' w'))
    (h2 : OpK P oj a w (fun a' w' => Stp mods j w w' ∧ wpE P ops Q mods fuel (listed.setIfInBounds j true) a' w'))
    (h3 : OpK P ok a w (fun a' w' => Stp mods k w w' ∧ wpE P ops Q mods fuel (listed.setIfInBounds k true) a' w')) : wpE P ops Q mods (fuel + 1) listed a w := by
  refine wpE_some hr (by simp) fun q hq => ?_
  simp only [List.mem_cons, List.not_mem_nil, or_false] at hq
  rcases hq with rfl | rfl | rfl
  · exact ⟨_, hi, hg, h⟩
  · exact ⟨_, hj, hg2, h2⟩
  · exact ⟨_, hk, hg3, h3⟩
theorem wpE_done {mods : List (Nat × Tn)} {listed : Array Bool} {a : Act} {w : World} (hr : Region.ready .any ops listed = []) (h : Q .normal a w) : ∀ fuel, wpE P ops Q mods fuel listed a w
  | 0 => ⟨hr, h⟩
  | _ + 1 => ⟨fun _ => h, fun i hi => by rw [hr] at hi; cases hi⟩
theorem stN {mods : List (Nat × Tn)} {i : Nat} {w w' : World} (h : Kt No w w') : Stp mods i w w' := h.no
theorem stM {mods : List (Nat × Tn)} {i : Nat} {w w' : World} {e : Tn} {E : Nat → Prop} (hm : modsOf mods i = [e]) (h : Kt E w w') (he : ∀ k, E k → Et e k) : Stp mods i w w' :=
  h.mono fun k hk => ⟨e, by rw [hm]; exact List.mem_singleton.2 rfl, he k hk⟩
theorem etAny {E : Nat → Prop} : ∀ k, E k → Et .any k := fun _ _ => trivial
theorem etBox {b : Nat} : ∀ k, k = b → Et (.blk (some b)) k := fun _ h => congrArg some h.symm
theorem etOwn {v : Value} : ∀ k, v.ownBlock = some k → Et (.blk v.ownBlock) k := fun _ h => h
theorem etNB {b N : Nat} (h : N ≤ b) : ∀ k, Et (.blk (some b)) k → Et (.new N) k := fun k hk => by
  have hk : some b = some k := hk
  injection hk with hk
  subst hk; exact h
theorem etNN {N N' : Nat} (h : N ≤ N') : ∀ k, Et (.new N') k → Et (.new N) k := fun _ hk => Nat.le_trans h hk
/-- what operation i turns is known better -/
def upd (mods : List (Nat × Tn)) (i : Nat) (e : Tn) : List (Nat × Tn) := mods.map fun p => if Nat.beq p.1 i then (i, e) else p
theorem wpE_sub {mods mods' : List (Nat × Tn)} (h : ∀ i k, Eo (modsOf mods' i) k → Eo (modsOf mods i) k) : ∀ (fuel : Nat) (listed : Array Bool) (a : Act) (w : World), wpE P ops Q mods' fuel listed a w → wpE P ops Q mods fuel listed a w
  | 0, _, _, _, H => H
  | fuel + 1, _, _, _, H => ⟨H.1, fun i hi => wpOp_mono (fun a w h1 => ⟨h1.1.mono (h i), wpE_sub h fuel _ a w h1.2⟩) (H.2 i hi)⟩
theorem wpE_upd {mods : List (Nat × Tn)} {fuel : Nat} {listed : Array Bool} {a : Act} {w : World} (i : Nat) (e e0 : Tn) (hm : modsOf mods i = [e0]) (hs : ∀ k, Et e k → Et e0 k) (H : wpE P ops Q (upd mods i e) fuel listed a w) : wpE P ops Q mods fuel listed a w := by
  refine wpE_sub (fun j k hk => ?_) _ _ _ _ H
  obtain ⟨x, hx, hxk⟩ := hk
  unfold modsOf at hx
  obtain ⟨p, hp, rfl⟩ := List.mem_map.1 hx
  rw [List.mem_filter] at hp
  obtain ⟨hp1, hp2⟩ := hp
  unfold upd at hp1
  obtain ⟨q, hq, rfl⟩ := List.mem_map.1 hp1
  by_cases hqi : Nat.beq q.1 i = true
  · rw [if_pos hqi] at hp2 hxk
    have hij : i = j := Nat.eq_of_beq_eq_true hp2
    subst hij
    exact ⟨e0, by rw [hm]; exact List.mem_singleton.2 rfl, hs k hxk⟩
  · rw [if_neg hqi] at hp2 hxk
    exact ⟨q.2, List.mem_map.2 ⟨q, List.mem_filter.2 ⟨hq, hp2⟩, rfl⟩, hxk⟩
theorem wp_region_E {id : Nat} {a : Act} {w : World} (mods : List (Nat × Tn)) (hm : P.follows .mixedOrders = true) (h : wpE P ops Q mods ops.size (Array.replicate ops.size false) a w.drew) : (Code.region id ops true).wp P Q a w :=
  wp_region_any hm (wpE_any _ _ _ _ h)
end
section
variable {P : Program} {W : World} {M T E : Nat → Prop} {n : Nat} {G G' : List (Nat × Value)} {D D' : List Res} {F F' : List Fact} {a : Act} {w w' : World} {ops : Array Oper} {Q : Exit → Act → World → Prop} {fuel : Nat} {listed : Array Bool} {mods : List (Nat × Tn)}
def Qp (Q : Exit → Act → World → Prop) : Prop := ∀ c a d v w, Q (.panic c) (a.put d v) w → Q (.panic c) a w
/-- a region that draws begins -/
theorem draws {id : Nat} {l : List Oper} {N : Nat} (mods : List (Nat × Tn)) (hS : St W M T n G D F a w) (hm : P.follows .mixedOrders = true) (hN : l.length = N) (hQ : Qp Q) (h : ∀ w, Qp Q → St W M T n G D F a w → wpE P l.toArray Q mods N (Array.replicate N false) a w) : (Code.region id l.toArray true).wp P Q a w := by
  refine wp_region_E mods hm ?_
  rw [List.size_toArray, hN]
  exact h _ hQ (hS.later (Kt.drew w))
/-- an operation that yields a value is done first -/
theorem dy {l : List (Tn)} (i : Nat) {o : Oper} {v : Value} {d : Nat} (hi : ops[i]? = some o) (hs : Region.noSelect ops = true) (hf : Region.free .any ops listed i = true) (hr : (Region.ready .any ops listed).contains i = true) (hb : rem ops mods listed i = l) (hQ : Qp Q) (hS : St W M T n G D F a w) (h : Ye P o a (Eo l) w v) (hg : o.guard = none) (hd : o.dst = some d) (hn : Nat.blt d n = true)
    (k : ∀ a, St W M T n ((d, v) :: G) D F a w → wpE P ops Q mods fuel (listed.setIfInBounds i true) a w) : wpE P ops Q mods (fuel + 1) listed a w :=
  wpE_take hi hs hf hr hb (fun c a w => hQ c a _ _ w) (.inl ⟨by simp [Region.wanted, hg], h⟩) (by rw [hd]; exact k _ (hS.put hn v))
theorem dyg {l : List (Tn)} (i : Nat) {o : Oper} {v : Value} {d j t : Nat} {want c : Bool} (hi : ops[i]? = some o) (hs : Region.noSelect ops = true) (hf : Region.free .any ops listed i = true) (hr : (Region.ready .any ops listed).contains i = true) (hb : rem ops mods listed i = l) (hQ : Qp Q) (hS : St W M T n G D F a w) (h : Ye P o a (Eo l) w v) (hg : o.guard = some (j, want)) (hj : (ops[j]?).bind (·.dst) = some t) (ht : lk G t = some (.bool c)) (hc : c = want) (hd : o.dst = some d) (hn : Nat.blt d n = true)
    (k : ∀ a, St W M T n ((d, v) :: G) D F a w → wpE P ops Q mods fuel (listed.setIfInBounds i true) a w) : wpE P ops Q mods (fuel + 1) listed a w :=
  wpE_take hi hs hf hr hb (fun c a w => hQ c a _ _ w) (.inl ⟨by rw [wanted_of hS hg hj ht, hc]; simp, h⟩) (by rw [hd]; exact k _ (hS.put hn v))
theorem dyn (i : Nat) {o : Oper} {d j t : Nat} {want c : Bool} (hi : ops[i]? = some o) (hs : Region.noSelect ops = true) (hf : Region.free .any ops listed i = true) (hr : (Region.ready .any ops listed).contains i = true) (hQ : Qp Q) (hS : St W M T n G D F a w) (hg : o.guard = some (j, want)) (hj : (ops[j]?).bind (·.dst) = some t) (ht : lk G t = some (.bool c)) (hc : c = !want) (hd : o.dst = some d) (hn : Nat.blt d n = true)
    (k : ∀ a, St W M T n ((d, undef) :: G) D F a w → wpE P ops Q mods fuel (listed.setIfInBounds i true) a w) : wpE P ops Q mods (fuel + 1) listed a w :=
  wpE_take (v := undef) hi hs hf hr rfl (fun c a w => hQ c a _ _ w) (.inr ⟨by rw [wanted_of hS hg hj ht, hc]; cases want <;> simp, rfl⟩) (by rw [hd]; exact k _ (hS.put hn undef))
theorem dynu (i : Nat) {o : Oper} {d j t : Nat} {want : Bool} (hi : ops[i]? = some o) (hs : Region.noSelect ops = true) (hf : Region.free .any ops listed i = true) (hr : (Region.ready .any ops listed).contains i = true) (hQ : Qp Q) (hS : St W M T n G D F a w) (hg : o.guard = some (j, want)) (hj : (ops[j]?).bind (·.dst) = some t) (ht : lk G t = some undef) (hd : o.dst = some d) (hn : Nat.blt d n = true)
    (k : ∀ a, St W M T n ((d, undef) :: G) D F a w → wpE P ops Q mods fuel (listed.setIfInBounds i true) a w) : wpE P ops Q mods (fuel + 1) listed a w :=
  wpE_take (v := undef) hi hs hf hr rfl (fun c a w => hQ c a _ _ w) (.inr ⟨by
    have h1 := hS.slots t _ ht
    unfold Region.wanted yielded
    rw [hg]
    simp only [hj, Option.bind_some, h1]
    rfl, rfl⟩) (by rw [hd]; exact k _ (hS.put hn undef))
theorem eo_nil {k : Nat} : ¬ Eo [] k := fun ⟨_, h, _⟩ => by cases h
theorem eo_cons {k : Nat} {e : Tn} {l : List Tn} (h1 : ¬ Et e k) (h : ¬ Eo l k) : ¬ Eo (e :: l) k := fun ⟨e, he, hk⟩ => by
  rcases List.mem_cons.1 he with rfl | he
  · exact h1 hk
  · exact h ⟨e, he, hk⟩
theorem eo_none {k : Nat} {l : List Tn} (h : ¬ Eo l k) : ¬ Eo (.blk none :: l) k := eo_cons (fun h => by cases h) h
theorem eo_new {k N : Nat} {l : List Tn} {r : Res} (hS : St W M T n G D F a w) (hN : N = w.heap.size) (i : Nat) (hi : D[i]? = some r) (hr : r.dom k) (h : ¬ Eo l k) : ¬ Eo (.new N :: l) k := eo_cons (fun h => by
  have := Res.lt (hS.own r (List.mem_of_getElem? hi)) k hr
  have h : N ≤ k := h
  omega) h
theorem eo_ne {k : Nat} {l : List Tn} {o : Option Nat} {r r' : Res} (hS : St W M T n G D F a w) (i : Nat) (hi : D[i]? = some r) (hr : r.dom k) (j : Nat) (hj : D[j]? = some r') (hd : r'.dom = fun k => o = some k) (hij : i ≠ j) (h : ¬ Eo l k) : ¬ Eo (.blk o :: l) k := eo_cons (fun hk => by
  have hk : o = some k := hk
  obtain ⟨l1, e1⟩ := List.getElem?_eq_some_iff.1 hi
  obtain ⟨l2, e2⟩ := List.getElem?_eq_some_iff.1 hj
  rcases Nat.lt_or_gt_of_ne hij with hlt | hlt
  · exact List.pairwise_iff_getElem.1 hS.apart i j l1 l2 hlt k (by rw [e1]; exact hr) (by rw [e2, hd]; exact hk)
  · exact List.pairwise_iff_getElem.1 hS.apart j i l2 l1 hlt k (by rw [e2, hd]; exact hk) (by rw [e1]; exact hr)) h
theorem es_nil : ∀ k, Eo [] k → dT T D k ∨ w.heap.size ≤ k := fun _ ⟨_, h, _⟩ => by cases h
theorem es_cons {e : Tn} {l : List Tn} (h1 : ∀ k, Et e k → dT T D k ∨ w.heap.size ≤ k) (h : ∀ k, Eo l k → dT T D k ∨ w.heap.size ≤ k) : ∀ k, Eo (e :: l) k → dT T D k ∨ w.heap.size ≤ k := fun k ⟨e, he, hk⟩ => by
  rcases List.mem_cons.1 he with rfl | he
  · exact h1 k hk
  · exact h k ⟨e, he, hk⟩
theorem es_none {l : List Tn} (h : ∀ k, Eo l k → dT T D k ∨ w.heap.size ≤ k) : ∀ k, Eo (.blk none :: l) k → dT T D k ∨ w.heap.size ≤ k := es_cons (fun k h => by cases h) h
theorem es_new {N : Nat} {l : List Tn} (hN : N = w.heap.size) (h : ∀ k, Eo l k → dT T D k ∨ w.heap.size ≤ k) : ∀ k, Eo (.new N :: l) k → dT T D k ∨ w.heap.size ≤ k := es_cons (fun k h => .inr (by subst hN; exact h)) h
theorem es_in {l : List Tn} {o : Option Nat} {r' : Res} (j : Nat) (hj : D[j]? = some r') (hd : r'.dom = fun k => o = some k) (h : ∀ k, Eo l k → dT T D k ∨ w.heap.size ≤ k) : ∀ k, Eo (.blk o :: l) k → dT T D k ∨ w.heap.size ≤ k := es_cons (fun k hk => .inl (.inr ⟨r', List.mem_of_getElem? hj, by rw [hd]; exact hk⟩)) h
theorem szLe {N N' : Nat} {w : World} (hN : N' = w.heap.size) (h : N ≤ w.heap.size) : N ≤ N' := by omega
/-- the world has grown so far -/
def SzF (N : Nat) : Fact := ⟨fun _ w => N ≤ w.heap.size, fun h k _ => Nat.le_trans h k.size⟩
end
end Go.Proofs.YtpbbnkpplcnaoaaGreatDoor

/- A frame for walks: slices, calls, the end, ways, loops. -/
set_option linter.unusedVariables false
set_option linter.unusedSimpArgs false
namespace Go.Proofs.YtpbbnkpplcnaoaaGreatDoor
open Go.RowKit

/-- a part of a list, by Go's bounds -/
def subI {α : Type} (xs : List α) (lo hi : Int) : Option (List α) := if 0 ≤ lo ∧ lo ≤ hi ∧ hi ≤ xs.length then some ((xs.take hi.toNat).drop lo.toNat) else none
def subS (s : ByteArray) (lo hi : Int) : Option ByteArray := if 0 ≤ lo ∧ lo ≤ hi ∧ hi ≤ s.size then some (s.extract lo.toNat hi.toNat) else none
/-- there is room for so many -/
def roomB (n : Nat) : Bool := Nat.ble n 4294967296
theorem roomB_le {n : Nat} (h : roomB n = true) : n ≤ 4294967296 := Nat.le_of_ble_eq_true h
/-- a condition that must hold -/
def gd {α : Type} (b : Bool) (x : Option α) : Option α := cond b x none
theorem gd_some {α : Type} {b : Bool} {x : Option α} {y : α} (h : gd b x = some y) : b = true ∧ x = some y := by cases b with
  | true => exact ⟨rfl, h⟩
  | false => cases h
theorem bd {α β : Type} {o : Option α} {k : α → Option β} {y : β} (h : o.bind k = some y) : ∃ u, o = some u ∧ k u = some y := Option.bind_eq_some_iff.1 h
theorem ct {α : Type} {b : Bool} {x y : α} {r : α} (hb : b = true) (h : cond b x y = r) : x = r := by subst hb; exact h
theorem cf {α : Type} {b : Bool} {x y : α} {r : α} (hb : b = false) (h : cond b x y = r) : y = r := by subst hb; exact h
theorem bool2 (b : Bool) : b = true ∨ b = false := by cases b <;> simp
theorem on : ∀ u ∈ ([] : List Value), u.oneCell' = true := fun u hu => by cases hu
theorem oc {v : Value} {l : List Value} (h : v.oneCell' = true) (k : ∀ u ∈ l, u.oneCell' = true) : ∀ u ∈ v :: l, u.oneCell' = true := fun u hu => by
  rcases List.mem_cons.1 hu with rfl | hu
  · exact h
  · exact k u hu

/-! loops -/
inductive Fl (S R : Type) where
  | go (s : S)
  | out (r : R)
def iter {S R : Type} (body : S → Option (Fl S R)) : Nat → S → Option R
  | 0, _ => none
  | n + 1, s => match body s with
    | none => none
    | some (.out r) => some r
    | some (.go s') => iter body n s'
theorem iter_det {S R : Type} {body : S → Option (Fl S R)} : ∀ {n m : Nat} {s : S} {r q : R}, iter body n s = some r → iter body m s = some q → r = q
  | 0, _, _, _, _, h, _ => by cases h
  | _, 0, _, _, _, _, h => by cases h
  | n + 1, m + 1, s, r, q, h, k => by
    simp only [iter] at h k
    cases hb : body s with
    | none => rw [hb] at h; cases h
    | some f =>
      rw [hb] at h k
      cases f with
      | out u => simp only [Option.some.injEq] at h k; rw [← h, ← k]
      | go u => exact iter_det h k
open Classical in
noncomputable def loop {S R : Type} (body : S → Option (Fl S R)) (s : S) : Option R := if h : ∃ r n, iter body n s = some r then some h.choose else none
theorem loop_iff {S R : Type} {body : S → Option (Fl S R)} {s : S} {r : R} : loop body s = some r ↔ ∃ n, iter body n s = some r := by
  unfold loop
  split
  · rename_i h
    obtain ⟨n, hn⟩ := h.choose_spec
    constructor
    · intro e; simp only [Option.some.injEq] at e; rw [← e]; exact ⟨n, hn⟩
    · rintro ⟨m, hm⟩; rw [iter_det hn hm]
  · rename_i h
    constructor
    · intro e; cases e
    · rintro ⟨m, hm⟩; exact absurd ⟨r, m, hm⟩ h
theorem loop_go {S R : Type} {body : S → Option (Fl S R)} {s s' : S} (h : body s = some (.go s')) : loop body s = loop body s' := by
  apply Option.ext
  intro r
  rw [loop_iff, loop_iff]
  constructor
  · rintro ⟨n, hn⟩
    cases n with
    | zero => cases hn
    | succ n => simp only [iter, h] at hn; exact ⟨n, hn⟩
  · rintro ⟨n, hn⟩; exact ⟨n + 1, by simp only [iter, h]; exact hn⟩
theorem loop_out {S R : Type} {body : S → Option (Fl S R)} {s : S} {r : R} (h : body s = some (.out r)) : loop body s = some r := loop_iff.2 ⟨1, by simp only [iter, h]⟩

section
variable {P : Program} {W : World} {M T E : Nat → Prop} {n : Nat} {G G' : List (Nat × Value)} {D D' : List Res} {F F' : List Fact} {a : Act} {w w' : World} {K : Act → World → Prop} {Q : Exit → Act → World → Prop}
theorem wp_lp {S R : Type} {c : Code} (body : S → Option (Fl S R)) (I : S → Act → World → Prop) {s0 : S} {r : R} (hl : loop body s0 = some r) (h0 : I s0 a w)
    (round : ∀ s a w f, I s a w → body s = some f → (∀ u, f = .out u → u = r) → c.wp P (Exit.then (fun a' w' => ∃ s', f = .go s' ∧ I s' a' w') Q) a w) : (Code.loop c).wp P Q a w := by
  obtain ⟨N, hN⟩ := loop_iff.1 hl
  intro b k cs
  have key : ∀ N s a w, iter body N s = some r → I s a w → ∃ e a' w', Q e a' w' ∧ Arrives P (lone (b.at a (.code c :: .inLoop c :: k)) cs w) b k cs e a' w' := by
    intro N
    induction N with
    | zero => intro s a w h; cases h
    | succ N ih =>
      intro s a w h hI
      simp only [iter] at h
      cases hb : body s with
      | none => rw [hb] at h; cases h
      | some f =>
        rw [hb] at h
        obtain ⟨e, a₁, w₁, hq, harr⟩ := round s a w f hI hb (fun u hu => by subst hu; simp only [Option.some.injEq] at h; exact h) b (.inLoop c :: k) cs
        cases e with
        | normal =>
          obtain ⟨s', hf, hI'⟩ := hq
          subst hf
          obtain ⟨e₂, a₂, w₂, hq₂, harr₂⟩ := ih s' a₁ w₁ h hI'
          exact ⟨e₂, a₂, w₂, hq₂, .of_steps (Steps.trans harr (.one step_inLoop)) harr₂⟩
        | exit id => exact ⟨_, a₁, w₁, hq, .pass (x := .inLoop c) rfl (fun _ _ => .inl (by simp)) harr⟩
        | goto l => exact ⟨_, a₁, w₁, hq, .pass (x := .inLoop c) rfl (fun _ _ => .inl (by simp)) harr⟩
        | ret => exact ⟨_, a₁, w₁, hq, .pass (x := .inLoop c) rfl (fun _ _ => .inl (by simp)) harr⟩
        | panic ch => exact ⟨_, a₁, w₁, hq, .pass (x := .inLoop c) rfl (fun _ _ => .inl (by simp)) harr⟩
        | outgrown => exact ⟨_, a₁, w₁, hq, .pass (x := .inLoop c) rfl (fun _ _ => .inl (by simp)) harr⟩
  obtain ⟨e, a', w', hq, harr⟩ := key N s0 a w hN h0
  exact ⟨e, a', w', hq, .of_steps (.one step_loop) harr⟩
theorem seq_j {x y : Code} (J : Act → World → Prop) (h1 : x.wp P (Exit.then J Q) a w) (h2 : ∀ a w, J a w → y.wp P Q a w) : (Code.seq x y).wp P Q a w :=
  wp_seq (wp_mono h1 fun e a w h => by cases e <;> first | exact h2 a w h | exact h)
/-- ways through a block meet behind it -/
theorem blk_j {id : Nat} {c : Code} {Kx : Act → World → Prop} (J : Act → World → Prop) (h1 : c.wp P (Exit.inBlock id (Exit.then J Q)) a w) (h2 : ∀ a w, J a w → Kx a w) : (Code.block id c).wp P (Exit.then Kx Q) a w :=
  wp_block (wp_mono h1 fun e a w h => by
    cases e <;> first
      | exact h2 a w h
      | exact h
      | (rename_i i
         simp only [Exit.inBlock] at h ⊢
         split
         · rename_i hi; rw [if_pos hi] at h; exact h2 a w h
         · rename_i hi; rw [if_neg hi] at h; exact h))
theorem c_t {c : Operand} {x y : Code} {b : Bool} (hS : St W M T n G D F a w) (hc : ev G c = some (.bool b)) (hb : b = true) (h : x.wp P Q a w) : (Code.cond c x y).wp P Q a w := wp_cond_true (by rw [hS.ev hc, hb]) h
theorem c_f {c : Operand} {x y : Code} {b : Bool} (hS : St W M T n G D F a w) (hc : ev G c = some (.bool b)) (hb : b = false) (h : y.wp P Q a w) : (Code.cond c x y).wp P Q a w := wp_cond_false (by rw [hS.ev hc, hb]) h
theorem r_list {id : Nat} {l : List Oper} (h : wpList P l.toArray Q l a w) : (Code.region id l.toArray false).wp P Q a w := wp_region_lit h

/-- results -/
def ResOk (P : Program) (a : Act) (w : World) : List ResultVar → List Value → Prop
  | [], [] => True
  | .tmp t :: r, v :: vs => a.tmps.getD t undef = v ∧ ResOk P a w r vs
  | .cell c t :: r, v :: vs => (∃ p, a.tmps.getD c undef = .pointer (some p) ∧ (loadVar t p).run P w = .ok v w) ∧ ResOk P a w r vs
  | _, _ => False
def retV : List Value → Value
  | [v] => v
  | vs => .tuple vs.toArray
def rvOf (tmps : Array Value) : ResultVar → Sem Value
  | .tmp t => pure (tmps.getD t undef)
  | .cell c t => do loadVar t (← asAddr (tmps.getD c undef))
theorem res_run : ∀ {rs : List ResultVar} {vs : List Value}, ResOk P a w rs vs → (rs.mapM (rvOf a.tmps)).run P w = .ok vs w
  | [], [], _ => by simp
  | [], v :: vs, h => h.elim
  | .tmp t :: r, [], h => h.elim
  | .cell c t :: r, [], h => h.elim
  | .tmp t :: r, v :: vs, h => by
    obtain ⟨h1, h2⟩ := h
    have hA : (rvOf a.tmps (.tmp t)).run P w = .ok v w := by
      show (pure (a.tmps.getD t undef) : Sem Value).run P w = _
      rw [h1]; rfl
    rw [List.mapM_cons, Sem.run_bind, hA, Result.andThen_ok, Sem.run_bind, res_run h2]; rfl
  | .cell c t :: r, v :: vs, h => by
    obtain ⟨⟨p, h0, h1⟩, h2⟩ := h
    have hA : (rvOf a.tmps (.cell c t)).run P w = .ok v w := by
      unfold rvOf
      simp only
      have : (asAddr (a.tmps.getD c undef)).run P w = .ok p w := by rw [h0]; rfl
      rw [Sem.run_bind, this, Result.andThen_ok, h1]
    rw [List.mapM_cons, Sem.run_bind, hA, Result.andThen_ok, Sem.run_bind, res_run h2]; rfl
theorem results_rv (fn : Func) (tmps : Array Value) : results fn tmps = (do
    let vs ← fn.results.mapM (rvOf tmps)
    pure (if h : vs.size = 1 then vs[0] else .tuple vs)) := rfl
theorem ret_ok {fn : Func} {R : Value → World → Prop} {rs : List ResultVar} {vs : List Value} (hS : St W M T n G D F a w) (hr : fn.results = rs.toArray) (h : ResOk P a w rs vs) (hR : R (retV vs) w) : bodyPost P fn (Ret M W R) .ret a w := by
  refine ⟨hS.defers, retV vs, ?_, retV vs, rfl, hS.base, hR⟩
  have h1 := res_run h
  rw [results_rv, hr, Array.mapM_eq_mapM_toList, Sem.run_bind, Sem.run_map, h1]
  cases vs with
  | nil => rfl
  | cons v r =>
    cases r with
    | nil => rfl
    | cons u s =>
      show Sem.run P (pure (if h : (u :: s).length + 1 = 1 then _ else _)) w = _
      rw [dif_neg (by simp)]
      rfl
theorem res_nil : ResOk P a w [] [] := trivial
theorem res_tmp {t : Nat} {v : Value} {r : List ResultVar} {vs : List Value} (hS : St W M T n G D F a w) (hv : lk G t = some v) (h : ResOk P a w r vs) : ResOk P a w (.tmp t :: r) (v :: vs) :=
  ⟨by have := hS.slots t v hv; simp [Array.getD_eq_getD_getElem?, this], h⟩
theorem res_cell {c : Nat} {t : TypeId} {b : Nat} {cs : List Value} {bt : TypeId} {ag : Bool} {z : Nat} {r : List ResultVar} {vs : List Value} (hS : St W M T n G D F a w) (hv : lk G c = some (.pointer (some ⟨b, 0, none⟩))) (i : Nat) (hi : D[i]? = some (.box b cs bt)) (ht : tyI P t = some (ag, z)) (hl : cs.length = z) (hz : ag = false → z = 1) (h : ResOk P a w r vs) : ResOk P a w (.cell c t :: r) (valOf ag cs :: vs) := by
  have hr : w.heap[b]? = some (.cells cs.toArray bt (0, 0)) := hS.own _ (List.mem_of_getElem? hi)
  refine ⟨⟨⟨b, 0, none⟩, by have := hS.slots c _ hv; simp [Array.getD_eq_getD_getElem?, this], ?_⟩, h⟩
  exact run_loadV ht hl rfl hz w (fun j u hj => by rw [cell_of_row _ _ _ _ _ _ hr, List.getElem?_toArray, Nat.zero_add]; exact hj)

/-- new rows, behind a step that keeps all -/
theorem St.adds (h : St W M T n G D F a w) (k : Kt No w w') : ∀ (rs : List Res), (∀ r ∈ rs, r.ok w' ∧ ∀ k, r.dom k → w.heap.size ≤ k) → (rs.Pairwise fun r s => ∀ k, r.dom k → ¬ s.dom k) → St W M T n G (rs ++ D) F a w'
  | [], _, _ => h.later k
  | r :: rs, hr, hp => by
    obtain ⟨hp1, hp2⟩ := List.pairwise_cons.1 hp
    have ih := St.adds h k rs (fun s hs => hr s (List.mem_cons_of_mem _ hs)) hp2
    obtain ⟨q1, q2⟩ := hr r List.mem_cons_self
    refine ⟨ih.size, ih.defers, ih.slots, ih.base, ?_, ?_, ?_, fun f hf => f.keep (h.facts f hf) k.no (fun j hj => ?_), ih.tlt⟩
    · intro s hs
      rcases List.mem_cons.1 hs with rfl | hs
      · exact q1
      · exact ih.own s hs
    · intro s hs j hj
      rcases List.mem_cons.1 hs with rfl | hs
      · have := q2 j hj
        refine ⟨fun ht => ?_, .inr ?_⟩
        · have := h.tlt j ht; omega
        · have := h.base.size; omega
      · exact ih.free s hs j hj
    · refine List.pairwise_cons.2 ⟨fun s hs j hj hj2 => ?_, ih.apart⟩
      rcases List.mem_append.1 hs with hs | hs
      · exact hp1 s hs j hj hj2
      · have := q2 j hj
        have := Res.lt (h.own s hs) j hj2
        omega
    · rcases hj with hj | ⟨s, hs, hj⟩
      · exact .inl (.inl hj)
      · rcases List.mem_cons.1 hs with rfl | hs
        · exact .inr (q2 j hj)
        · rcases List.mem_append.1 hs with hs | hs
          · exact .inr ((hr s (List.mem_cons_of_mem _ hs)).2 j hj)
          · exact .inl (.inr ⟨s, hs, hj⟩)
theorem adds1 {w0 : World} {r : Res} (h : r.ok w') (hf : ∀ k, r.dom k → w0.heap.size ≤ k) : ∀ s ∈ [r], s.ok w' ∧ ∀ k, s.dom k → w0.heap.size ≤ k := fun s hs => by
  rw [List.mem_singleton] at hs; subst hs; exact ⟨h, hf⟩
theorem adds2 {w0 : World} {r s : Res} (h : r.ok w') (hf : ∀ k, r.dom k → w0.heap.size ≤ k) (h2 : s.ok w') (hf2 : ∀ k, s.dom k → w0.heap.size ≤ k) : ∀ q ∈ [r, s], q.ok w' ∧ ∀ k, q.dom k → w0.heap.size ≤ k := fun q hq => by
  simp only [List.mem_cons, List.not_mem_nil, or_false] at hq
  rcases hq with rfl | rfl
  · exact ⟨h, hf⟩
  · exact ⟨h2, hf2⟩
theorem pw1 (r : Res) : [r].Pairwise fun r s => ∀ k, r.dom k → ¬ s.dom k := List.pairwise_singleton _ _
theorem pw2 {r s : Res} (h : ∀ k, r.dom k → ¬ s.dom k) : [r, s].Pairwise fun r s => ∀ k, r.dom k → ¬ s.dom k := by
  simp only [List.pairwise_cons, List.mem_singleton, forall_eq, List.not_mem_nil, false_implies, implies_true, List.Pairwise.nil, and_true]
  exact h
theorem dT_dT {T : Nat → Prop} {D rs : List Res} (w : World) : Nw (dT (dT T D) rs) (dT T (rs ++ D)) w := fun k hk => .inl (by
  rcases hk with hk | ⟨r, hr, hk⟩
  · exact .inl (.inl hk)
  · rcases List.mem_append.1 hr with hr | hr
    · exact .inr ⟨r, hr, hk⟩
    · exact .inl (.inr ⟨r, hr, hk⟩))
/-- what is kept, at a place where ways meet -/
def SubF (F : List Fact) : List Fact → Prop
  | [] => True
  | f :: r => (∃ i : Nat, F[i]? = some f) ∧ SubF F r
theorem SubF.mem {F : List Fact} : ∀ {F' : List Fact}, SubF F F' → ∀ f ∈ F', f ∈ F
  | [], _, f, hf => by cases hf
  | g :: r, h, f, hf => by
    rcases List.mem_cons.1 hf with rfl | hf
    · obtain ⟨⟨i, hi⟩, _⟩ := h; exact List.mem_of_getElem? hi
    · exact SubF.mem h.2 f hf
def SubD (D : List Res) : List Nat → List Res → Prop
  | [], [] => True
  | i :: r, d :: s => D[i]? = some d ∧ SubD D r s
  | _, _ => False
theorem SubD.get {D : List Res} : ∀ {is : List Nat} {D' : List Res}, SubD D is D' → ∀ d ∈ D', ∃ i ∈ is, D[i]? = some d
  | [], [], _, d, hd => by cases hd
  | [], _ :: _, h, _, _ => h.elim
  | _ :: _, [], h, _, _ => h.elim
  | i :: r, e :: s, h, d, hd => by
    rcases List.mem_cons.1 hd with rfl | hd
    · exact ⟨i, List.mem_cons_self, h.1⟩
    · obtain ⟨j, hj, h2⟩ := SubD.get h.2 d hd; exact ⟨j, List.mem_cons_of_mem _ hj, h2⟩
theorem SubD.pw {D : List Res} (hp : D.Pairwise fun r s => ∀ k, r.dom k → ¬ s.dom k) : ∀ {is : List Nat} {D' : List Res}, SubD D is D' → is.Nodup → D'.Pairwise fun r s => ∀ k, r.dom k → ¬ s.dom k
  | [], [], _, _ => List.Pairwise.nil
  | [], _ :: _, h, _ => h.elim
  | _ :: _, [], h, _ => h.elim
  | i :: r, e :: s, h, hn => by
    obtain ⟨n1, n2⟩ := List.nodup_cons.1 hn
    refine List.pairwise_cons.2 ⟨fun d hd k hk hk2 => ?_, SubD.pw hp h.2 n2⟩
    obtain ⟨j, hj, h2⟩ := SubD.get h.2 d hd
    have hij : i ≠ j := fun e => n1 (e ▸ hj)
    obtain ⟨l1, e1⟩ := List.getElem?_eq_some_iff.1 h.1
    obtain ⟨l2, e2⟩ := List.getElem?_eq_some_iff.1 h2
    rcases Nat.lt_or_gt_of_ne hij with hlt | hlt
    · exact List.pairwise_iff_getElem.1 hp i j l1 l2 hlt k (by rw [e1]; exact hk) (by rw [e2]; exact hk2)
    · exact List.pairwise_iff_getElem.1 hp j i l2 l1 hlt k (by rw [e2]; exact hk2) (by rw [e1]; exact hk)
theorem St.meet (h : St W M T n G D F a w) (is : List Nat) (hn : is.Nodup) (hG : Sub G G') (hD : SubD D is D') (hF : SubF F F') : St W M T n G' D' F' a w :=
  ((h.slot hG).sel hF.mem).res (fun r hr => by obtain ⟨i, _, hi⟩ := hD.get r hr; exact List.mem_of_getElem? hi) (hD.pw h.apart hn)
theorem nt {b : Bool} (h : b = true) : (!b) = false := by rw [h]; rfl
theorem nf {b : Bool} (h : b = false) : (!b) = true := by rw [h]; rfl
def Fl.el {S R α : Type} (f : Fl S R) (g : S → α) (h : R → α) : α := match f with
  | .go s => g s
  | .out r => h r
theorem el_go {S R α : Type} {s : S} {g : S → α} {h : R → α} {r : α} (e : Fl.el (.go s) g h = r) : g s = r := e
theorem el_out {S R α : Type} {s : R} {g : S → α} {h : R → α} {r : α} (e : Fl.el (.out s) g h = r) : h s = r := e

/-- a call -/
def callI (P : Program) (f : Nat) : Bool := match P.funcs[f]? with
  | some fn => !(fn.name == "runtime.NumGoroutine") && fn.body.isSome
  | none => false
theorem call_run {f : Nat} (hf : callI P f = true) (args : Array Value) (w : World) : (callFunc f args).run P w = .ok (.enter f args) w := by
  unfold callI at hf
  split at hf
  · rename_i fn hfn
    simp only [Bool.and_eq_true, Bool.not_eq_true'] at hf
    obtain ⟨b, hb⟩ := Option.isSome_iff_exists.1 hf.2
    have h1 : ¬ (fn.name == "runtime.NumGoroutine") = true := by rw [hf.1]; simp
    simp [callFunc, hfn, hb, h1]
    simpa using h1
  · cases hf
theorem k_callF {o : Oper} {x : Operand} {args : Array Operand} {tys : Array TypeId} {f : Nat} {vs cap : List Value} {R : Value → World → Prop} {M' : Nat → Prop} (ho : o.op = .call { callee := .value x, args := args, argTypes := tys }) (hS : St W M T n G D F a w) (hx : ev G x = some (.func (.func f) #[] cap.toArray)) (hf : callI P f = true) (hargs : evs G args.toList = some vs) (hc : Rets P M' f (vs ++ cap) w R)
    (k : ∀ v w', Kt M' w w' → R v w' → K (a.put o.dst v) w') : OpK P o a w K := fun K' Q hK => by
  have h1 : (args.map a.eval) = vs.toArray := by
    apply Array.toList_inj.1
    rw [Array.toList_map, hS.evs hargs]
  have hr : (execOp a.eval o).run P w = .ok (.enter f (vs ++ cap).toArray) w := by
    simp [execOp, ho, resolve, hS.ev hx, Deferred.ofValue, invoke, h1, call_run hf]
  unfold Oper.wp
  rw [hr, Oper.upon_enter]
  exact Calls.mono hc fun e w' ⟨v, h1, h2, h3⟩ => by subst h1; exact hK _ _ (k v w' h2 h3)
/-- a function of the program -/
theorem k_call {d : Nat} {ty : TypeId} {pos : String} {af : Array Edge} {g : Option (Nat × Bool)} {args : Array Operand} {tys : Array TypeId} {f : Nat} {vs : List Value} {R : Value → World → Prop} (hS : St W M T n G D F a w) (hf : callI P f = true) (hargs : evs G args.toList = some vs) (hn : Nat.blt d n = true) (hc : Rets P No f vs w R)
    (k : ∀ v w', R v w' → ∀ a, Kt No w w' → (∀ rs : List Res, (∀ r ∈ rs, r.ok w' ∧ ∀ k, r.dom k → w.heap.size ≤ k) → (rs.Pairwise fun r s => ∀ k, r.dom k → ¬ s.dom k) → St W M T n ((d, v) :: G) (rs ++ D) F a w') → K a w') : OpK P ⟨some d, .call { callee := .value (.func f), args := args, argTypes := tys }, ty, pos, af, g⟩ a w K :=
  k_callF (cap := []) rfl hS rfl hf hargs (by rw [List.append_nil]; exact hc) fun v w' hk hr => k v w' hr _ hk (fun rs h1 h2 => (hS.adds hk rs h1 h2).put hn v)
/-- a function that is called by its value -/
theorem k_callv {d : Nat} {ty : TypeId} {pos : String} {af : Array Edge} {g : Option (Nat × Bool)} {x : Operand} {args : Array Operand} {tys : Array TypeId} {f : Nat} {vs cap : List Value} {R : Value → World → Prop} (hS : St W M T n G D F a w) (hx : ev G x = some (.func (.func f) #[] cap.toArray)) (hf : callI P f = true) (hargs : evs G args.toList = some vs) (hn : Nat.blt d n = true) (hc : Rets P No f (vs ++ cap) w R)
    (k : ∀ v w', R v w' → ∀ a, Kt No w w' → (∀ rs : List Res, (∀ r ∈ rs, r.ok w' ∧ ∀ k, r.dom k → w.heap.size ≤ k) → (rs.Pairwise fun r s => ∀ k, r.dom k → ¬ s.dom k) → St W M T n ((d, v) :: G) (rs ++ D) F a w') → K a w') : OpK P ⟨some d, .call { callee := .value x, args := args, argTypes := tys }, ty, pos, af, g⟩ a w K :=
  k_callF rfl hS hx hf hargs hc fun v w' hk hr => k v w' hr _ hk (fun rs h1 h2 => (hS.adds hk rs h1 h2).put hn v)
/-- a call that turns one variable -/
theorem k_callm {d : Nat} {ty : TypeId} {pos : String} {af : Array Edge} {g : Option (Nat × Bool)} {args : Array Operand} {tys : Array TypeId} {f : Nat} {vs : List Value} {R : Value → World → Prop} {b : Nat} {cs : List Value} {bt : TypeId} (hS : St W M T n G D F a w) (hf : callI P f = true) (hargs : evs G args.toList = some vs) (hn : Nat.blt d n = true) (i : Nat) (hi : D[i]? = some (.box b cs bt)) (hc : Rets P (fun k => k = b) f vs w R)
    (k : ∀ v w', R v w' → Kt (fun k => k = b) w w' → ∃ cs', w'.heap[b]? = some (.cells cs'.toArray bt (0, 0)) ∧ ∀ a, St W M T n ((d, v) :: G) (D.set i (.box b cs' bt)) F a w' → K a w') : OpK P ⟨some d, .call { callee := .value (.func f), args := args, argTypes := tys }, ty, pos, af, g⟩ a w K :=
  k_callF (cap := []) rfl hS rfl hf hargs (by rw [List.append_nil]; exact hc) fun v w' hk hr => by
    obtain ⟨cs', h1, h2⟩ := k v w' hr hk
    exact h2 _ ((hS.turn hi (hk.mono fun j hj => by simp [Res.dom, hj]) (r' := .box b cs' bt) h1 (fun j hj => .inl hj)).put hn v)
/-- an element's address -/
theorem run_indexAt {t e : TypeId} {z b o m c : Nat} {k : IntKind} {i : Int} (ht : isSl P t = some e) {ag : Bool} (he : tyI P e = some (ag, z)) (h0 : 0 ≤ i) (h1 : i < m) (w : World) : (Instr.indexAt t (.slice (some ⟨b, o, none⟩) m c) (.int k i)).run P w = .ok (.pointer (some ⟨b, o + i.toNat * z, none⟩)) w := by
  simp [Instr.indexAt, asIntOf, run_underlying (isSl_und ht), h0, h1, run_size he, addr_add]
theorem k_index {α : Type} {R : Rep α} {xs : List α} {x : α} {d : Nat} {t e ty : TypeId} {X Y : Operand} {pos : String} {af : Array Edge} {g : Option (Nat × Bool)} {v : Value} {k : IntKind} {i : Int} {ag : Bool} (hS : St W M T n G D F a w) (ht : isSl P t = some e) (he : tyI P e = some (ag, R.size)) (hX : ev G X = some v) (hY : ev G Y = some (.int k i)) (j : Nat) (hj : F[j]? = some (SlF R v xs)) (hg : getI xs i = some x) (hn : Nat.blt d n = true)
    (K' : ∀ b o cs, R.rel (dT T D) w cs x → ∀ a, St W M T n ((d, .pointer (some ⟨b, o, none⟩)) :: G) D (CellsF b o cs :: F) a w → K a w) : OpK P ⟨some d, .indexAddr t X Y, ty, pos, af, g⟩ a w K := by
  obtain ⟨b, o, c, rfl, _, cs, h1, h2⟩ := SlR.get (hS.get j hj : SlR R (dT T D) w v xs) hg
  obtain ⟨q1, q2, _⟩ := getI_some hg
  have hr : (execOp a.eval ⟨some d, .indexAddr t X Y, ty, pos, af, g⟩).run P w = .ok (.value (.pointer (some ⟨b, o + i.toNat * R.size, none⟩))) w := by simp [execOp, hS.ev hX, hS.ev hY, run_indexAt ht he q1 q2]
  exact kval hr (K' b _ cs h1 _ ((hS.put hn _).fact (CellsF b _ cs) h2))
/-- the same, in a region that draws -/
theorem d_index {α : Type} {R : Rep α} {xs : List α} {x : α} {e t : TypeId} {v : Value} {i : Int} {ag : Bool} (hS : St W M T n G D F a w) (ht : isSl P t = some e) (he : tyI P e = some (ag, R.size)) (j : Nat) (hj : F[j]? = some (SlF R v xs)) (hg : getI xs i = some x) :
    ∃ b o cs, R.rel (dT T D) w cs x ∧ (∀ {E : Nat → Prop} {d : Option Nat} {ty : TypeId} {X Y : Operand} {pos : String} {af : Array Edge} {g : Option (Nat × Bool)} {k : IntKind}, ev G X = some v → ev G Y = some (.int k i) → Ye P ⟨d, .indexAddr t X Y, ty, pos, af, g⟩ a E w (.pointer (some ⟨b, o, none⟩))) ∧ St W M T n G D (CellsF b o cs :: F) a w := by
  obtain ⟨b, o, c, rfl, _, cs, h1, h2⟩ := SlR.get (hS.get j hj : SlR R (dT T D) w v xs) hg
  obtain ⟨q1, q2, _⟩ := getI_some hg
  refine ⟨b, _, cs, h1, fun hX hY => Ye.of fun w => by simp [execOp, hS.ev hX, hS.ev hY, run_indexAt ht he q1 q2], hS.fact (CellsF b _ cs) h2⟩
end
end Go.Proofs.YtpbbnkpplcnaoaaGreatDoor

/- A frame for walks: slices that are made, appended to, cut; rows of the call's own, read and stored into. -/
set_option linter.unusedVariables false
set_option linter.unusedSimpArgs false
namespace Go.Proofs.YtpbbnkpplcnaoaaGreatDoor
open Go.RowKit

/-- what an element type's row of the table says -/
def elI (P : Program) (t : TypeId) : Option (TypeId × Nat × Nat) := match P.underlying t with
  | some (.slice e) => match P.info? e with
    | some i => match i.zero with
      | some z => cond (Nat.beq z.cells.size i.size && Nat.blt 0 i.size) (some (e, i.size, i.bytes)) none
      | none => none
    | none => none
  | _ => none
theorem elI_el {P : Program} {t e : TypeId} {sz bt : Nat} (h : elI P t = some (e, sz, bt)) : Elem P t e sz bt := by
  unfold elI at h
  split at h
  · rename_i e' hu
    split at h
    · rename_i i hi
      split at h
      · rename_i z hz
        cases hc : (Nat.beq z.cells.size i.size && Nat.blt 0 i.size) with
        | false => rw [hc] at h; cases h
        | true =>
          rw [hc] at h
          simp only [cond_true, Option.some.injEq, Prod.mk.injEq] at h
          obtain ⟨rfl, rfl, rfl⟩ := h
          simp only [Bool.and_eq_true] at hc
          exact ⟨hu, ⟨i, z, hi, hz, rfl, rfl, Nat.eq_of_beq_eq_true hc.1⟩, Nat.le_of_ble_eq_true hc.2⟩
      · cases h
    · cases h
  · cases h
theorem elI_sl {P : Program} {t e : TypeId} {sz bt : Nat} (h : elI P t = some (e, sz, bt)) : isSl P t = some e := by
  have := (elI_el h).ht
  unfold isSl; rw [this]
def plS (len size : Nat) : List (Nat × Nat) := (List.range len).map fun i => (i * size, size)
def bsZ (zc : List Value) (k : Nat) : List Value := ((Array.range k).map (zc.toArray[· % zc.toArray.size]!)).toList

section
variable {P : Program} {W : World} {M T E : Nat → Prop} {n : Nat} {G G' : List (Nat × Value)} {D D' : List Res} {F F' : List Fact} {a : Act} {w w' : World} {K : Act → World → Prop} {Q : Exit → Act → World → Prop}
/-- a literal of a slice -/
theorem k_bslice {d : Nat} {t e ty : TypeId} {len : Nat} {ps : List (Nat × Operand)} {pos : String} {af : Array Edge} {g : Option (Nat × Bool)} {sz bt : Nat} {zs zl ws : List Value} {us : List (List Value)} {vs : List (Nat × Value)} (hS : St W M T n G D F a w) (he : elI P t = some (e, sz, bt)) (hz : zeroI P e = some zs) (hzl : bsZ zs (len * sz) = zl) (hv : evp G ps = some vs) (hcs : Cs vs us) (hf : fillL (plS len sz) zl vs us = some ws) (hl : Nat.ble (len * sz) 1000 = true) (hl0 : Nat.blt 0 len = true) (hn : Nat.blt d n = true)
    (k : ∀ b a w', Kt No w w' → St W M T n ((d, .slice (some ⟨b, 0, none⟩) len len) :: G) (.box b ws e :: D) F a w' → K a w') : OpK P ⟨some d, .buildSlice t len ps.toArray, ty, pos, af, g⟩ a w K := by
  obtain ⟨ht, ⟨i, z, hi, hz0, hsz, hby, hzc⟩, hpos⟩ := elI_el he
  have hzz : z.cells.toList = zs := by
    unfold zeroI at hz
    rw [hi] at hz
    simp only [hz0, Option.some.injEq] at hz
    exact hz
  have h1 := Nat.le_of_ble_eq_true hl
  have h2 : 0 < len := Nat.le_of_ble_eq_true hl0
  have hfill := fill_ok (place := fun i => some (i * sz, sz)) (pl := plS len sz) (fun i q hq => by
    unfold plS at hq
    rw [List.getElem?_map] at hq
    cases hr : (List.range len)[i]? with
    | none => rw [hr] at hq; cases hq
    | some j =>
      rw [hr] at hq
      simp only [Option.map_some, Option.some.injEq] at hq
      have := List.getElem?_eq_some_iff.1 hr
      obtain ⟨_, hj⟩ := this
      simp only [List.getElem_range] at hj
      subst hj; rw [← hq]) vs us zl ws hcs hf
  subst hsz
  have hcells : ((Array.range (len * i.size)).map (z.cells[· % z.cells.size]!)) = zl.toArray := by
    rw [← hzl]; unfold bsZ; rw [← hzz]
  have hev : (ps.toArray.map (fun p => (p.1, a.eval p.2))).toList = vs := by rw [← hS.evp hv]; simp
  have hr : (Instr.buildSlice t len (ps.toArray.map (fun p => (p.1, a.eval p.2)))).run P w = .ok (.slice (some ⟨w.heap.size, 0, none⟩) len len) (w.alloc (.cells ws.toArray e)) :=
    run_buildSlice w t e len _ ws.toArray i z ht hi hz0 (by omega) (by have := Nat.mul_pos h2 hpos; omega) (by rw [hcells, hev]; exact hfill)
  have hr2 : (execOp a.eval ⟨some d, .buildSlice t len ps.toArray, ty, pos, af, g⟩).run P w = .ok (.value (.slice (some ⟨w.heap.size, 0, none⟩) len len)) (w.alloc (.cells ws.toArray e)) := by
    show (do pure (Next.value (← Instr.buildSlice t len (ps.toArray.map fun p => (p.1, a.eval p.2)))) : Sem Next).run P w = _
    rw [Sem.run_bind, hr]; rfl
  exact kval hr2 (k w.heap.size _ _ (Kt.alloc _ _) ((hS.alloc ws e).put hn _))
/-- a literal slice, from a variable of the call's own to a row of its own -/
theorem St.lit {α : Type} {R : Rep α} {b m : Nat} {us : List Value} {e : TypeId} {xs : List α} (hS : St W M T n G D F a w) (i : Nat) (hi : D[i]? = some (.box b us e)) (hR : 0 < R.size) (hr : RowsOk R (dT T D) w us xs) (hm : m = xs.length) (hlim : Nat.ble m 1000 = true) : St W M T n G (D.set i (.own (.slice (some ⟨b, 0, none⟩) m m) e R.size us)) (RowsF R us xs :: F) a w := by
  have hok := hS.own _ (List.mem_of_getElem? hi)
  have h1 := Nat.le_of_ble_eq_true hlim
  subst hm
  have h2 := hS.fact (RowsF R us xs) hr
  refine h2.turn hi (Kt.refl _ _) ⟨.inr ⟨b, 0, xs.length, xs.length, us.toArray, rfl, hr.1, Nat.zero_le _, .of hok, Nat.le_refl _, by unfold maxLen; omega, by rw [Nat.zero_add, ← hr.1]; simp, fun j u hu => by rw [Nat.zero_add]; simpa using hu⟩, hR⟩ (fun j hj => .inl hj)
theorem St.nilRow {α : Type} (R : Rep α) (e : TypeId) (hR : 0 < R.size) (hS : St W M T n G D F a w) : St W M T n G (.own (.slice none 0 0) e R.size [] :: D) (RowsF R [] [] :: F) a w :=
  (hS.add (Kt.refl _ _) (.own (.slice none 0 0) e R.size []) ⟨Own.nil_ _ _ _ _, hR⟩ (fun k hk => by simp [Res.dom, Value.ownBlock] at hk)).fact _ (RowsOk.nil_ _ _ _)
theorem app_run {o : Oper} {s x : Operand} {t e : TypeId} {sz bt : Nat} {v : Value} {cl news : List Value} {A : Option Addr} {m c : Nat} (ho : o.op = .call { callee := .builtin .append, args := #[s, x], argTypes := #[t, t] }) (hS : St W M T n G D F a w) (he : elI P t = some (e, sz, bt)) (hs : ev G s = some v) (hx : ev G x = some (.slice A m c)) (hown : Own w 0 e sz v cl) (hl : news.length = m * sz) (hat : At w A news) (h1 : ∀ u ∈ news, u.oneCell' = true) (hz : (cl.length + news.length) ≤ 4294967296 * sz) (hb : Nat.ble (sz * bt) 32768 = true) (hbs : Nat.ble sz 32768 = true)
    (k : ∀ v' w', Kt (fun j => v.ownBlock = some j) w w' → Own w' 0 e sz v' (cl ++ news) → (∀ j, v'.ownBlock = some j → v.ownBlock = some j ∨ w.heap.size ≤ j) → K (a.put o.dst v') w') : OpK P o a w K := fun K' Q hK => by
  have q1 := Nat.le_of_ble_eq_true hb
  have q2 := Nat.le_of_ble_eq_true hbs
  have q3 : (cl.length + news.length) * bt ≤ 4294967296 * (sz * bt) := by rw [← Nat.mul_assoc]; exact Nat.mul_le_mul_right _ hz
  exact wp_append_Own w s x t ho e sz bt (elI_el he) 0 v cl (hS.ev hs) hown A m c news (hS.ev hx) hl hat h1 (by unfold maxLen; omega) (by omega) (Nat.zero_le _) fun v' w' h2 h3 h4 => hK _ _ (k v' w' (Kt.grown h3) h2 (fun j hj => by
    rcases h4 with h4 | h4
    · exact .inl (h4 ▸ hj)
    · rw [h4] at hj; injection hj with hj; exact .inr (by omega)))
/-- append of values -/
theorem k_app {α : Type} {R : Rep α} {xs ys : List α} {d : Nat} {ty t e e' : TypeId} {s x : Operand} {pos : String} {af : Array Edge} {g : Option (Nat × Bool)} {bt b m c : Nat} {v : Value} {cl cs : List Value} (hS : St W M T n G D F a w) (he : elI P t = some (e, R.size, bt)) (hb : Nat.ble (R.size * bt) 32768 = true) (hbs : Nat.ble R.size 32768 = true) (hs : ev G s = some v) (hx : ev G x = some (.slice (some ⟨b, 0, none⟩) m c)) (i : Nat) (hi : D[i]? = some (.own v e R.size cl)) (p : Nat) (hp : F[p]? = some (RowsF R cl xs)) (j : Nat) (hj : D[j]? = some (.box b cs e')) (hr : RowsOk R (dT T D) w cs ys) (hm : m = ys.length) (hroom : roomB (xs.length + m) = true) (hn : Nat.blt d n = true)
    (k : ∀ v' cl' a w', Kt (fun j => v.ownBlock = some j) w w' → St W M T n ((d, v') :: G) (D.set i (.own v' e R.size cl')) (RowsF R cl' (xs ++ ys) :: F) a w' → K a w') : OpK P ⟨some d, .call { callee := .builtin .append, args := #[s, x], argTypes := #[t, t] }, ty, pos, af, g⟩ a w K := by
  obtain ⟨hown, hsz⟩ := hS.own _ (List.mem_of_getElem? hi)
  have hbox : w.heap[b]? = some (.cells cs.toArray e' (0, 0)) := hS.own _ (List.mem_of_getElem? hj)
  have hrow : RowsOk R (dT T D) w cl xs := hS.get p hp
  have h1 := roomB_le hroom
  refine app_run rfl hS he hs hx hown (by rw [hr.1, hm]) (.inr ⟨b, 0, rfl, fun q u hu => by rw [cell_of_row _ _ _ _ _ _ hbox, Nat.zero_add]; simpa using hu⟩) (hr.cell hsz) (by rw [hrow.1, hr.1, ← hm, ← Nat.add_mul]; exact Nat.mul_le_mul_right _ h1) hb hbs fun v' w' h2 h3 h4 => ?_
  have h5 := hS.fact (RowsF R (cl ++ cs) (xs ++ ys)) (hrow.append hr)
  exact k v' (cl ++ cs) _ w' h2 ((h5.turn hi (r' := .own v' e R.size (cl ++ cs)) h2 ⟨h3, hsz⟩ h4).put hn v')
/-- append of a slice -/
theorem k_apps {α : Type} {R : Rep α} {xs ys : List α} {d : Nat} {ty t e : TypeId} {s x : Operand} {pos : String} {af : Array Edge} {g : Option (Nat × Bool)} {bt : Nat} {v u : Value} {cl : List Value} (hS : St W M T n G D F a w) (he : elI P t = some (e, R.size, bt)) (hb : Nat.ble (R.size * bt) 32768 = true) (hbs : Nat.ble R.size 32768 = true) (hs : ev G s = some v) (hx : ev G x = some u) (i : Nat) (hi : D[i]? = some (.own v e R.size cl)) (p : Nat) (hp : F[p]? = some (RowsF R cl xs)) (q : Nat) (hq : F[q]? = some (SlF R u ys)) (hroom : roomB (xs.length + ys.length) = true) (hn : Nat.blt d n = true)
    (k : ∀ v' cl' a w', Kt (fun j => v.ownBlock = some j) w w' → St W M T n ((d, v') :: G) (D.set i (.own v' e R.size cl')) (RowsF R cl' (xs ++ ys) :: F) a w' → K a w') : OpK P ⟨some d, .call { callee := .builtin .append, args := #[s, x], argTypes := #[t, t] }, ty, pos, af, g⟩ a w K := by
  obtain ⟨hown, hsz⟩ := hS.own _ (List.mem_of_getElem? hi)
  have hrow : RowsOk R (dT T D) w cl xs := hS.get p hp
  have hsl : SlR R (dT T D) w u ys := hS.get q hq
  obtain ⟨A, c, rfl, _⟩ := id hsl
  obtain ⟨_, cs, hat, hr⟩ := hsl.rows hsz
  have h1 := roomB_le hroom
  refine app_run rfl hS he hs hx hown hr.1 hat (hr.cell hsz) (by rw [hrow.1, hr.1, ← Nat.add_mul]; exact Nat.mul_le_mul_right _ h1) hb hbs fun v' w' h2 h3 h4 => ?_
  have h5 := hS.fact (RowsF R (cl ++ cs) (xs ++ ys)) (hrow.append hr)
  exact k v' (cl ++ cs) _ w' h2 ((h5.turn hi (r' := .own v' e R.size (cl ++ cs)) h2 ⟨h3, hsz⟩ h4).put hn v')
theorem made_flat (z : Array Value) : ∀ m : Nat, (madeCells z (m * z.size)).toList = (List.replicate m z.toList).flatten
  | 0 => by simp [madeCells]
  | m + 1 => by
    have ih := made_flat z m
    have h1 : ∀ N, (madeCells z N).toList = (List.range N).map (fun k => z[k % z.size]!) := fun N => by simp [madeCells]
    rw [h1] at ih ⊢
    rw [show (m + 1) * z.size = z.size + m * z.size by rw [Nat.add_mul]; omega, List.range_add, List.map_append, List.map_map, List.replicate_succ, List.flatten_cons, ← ih]
    congr 1
    · apply List.ext_getElem?
      intro k
      rw [List.getElem?_map]
      by_cases hk : k < z.size
      · rw [List.getElem?_range hk, Option.map_some, Nat.mod_eq_of_lt hk, getElem!_pos z k hk]
        simp [hk]
      · rw [List.getElem?_eq_none (by simpa using hk), List.getElem?_eq_none (by simpa using hk)]; rfl
    · apply List.map_congr_left
      intro k _
      simp only [Function.comp, Nat.add_mod_left]
theorem RowsOk.rep {α : Type} {R : Rep α} {T : Nat → Prop} {w : World} {cs : List Value} {x : α} (h : R.rel T w cs x) : ∀ m : Nat, RowsOk R T w (List.replicate m cs).flatten (List.replicate m x)
  | 0 => RowsOk.nil_ _ _ _
  | m + 1 => by rw [List.replicate_succ, List.replicate_succ, List.flatten_cons]; exact (RowsOk.one_ h).append (RowsOk.rep h m)
/-- make -/
theorem k_make {α : Type} {R : Rep α} {z0 : α} {d : Nat} {ty t e : TypeId} {x y : Operand} {pos : String} {af : Array Edge} {g : Option (Nat × Bool)} {bt : Nat} {zs : List Value} {kx ky : IntKind} {len : Int} (hS : St W M T n G D F a w) (he : elI P t = some (e, R.size, bt)) (hz : zeroI P e = some zs) (hb : Nat.ble (R.size * bt) 32768 = true) (hx : ev G x = some (.int kx len)) (hy : ev G y = some (.int ky len)) (h0 : decide (0 ≤ len) = true) (hroom : roomB len.toNat = true) (hr : R.rel (dT T D) w zs z0) (hn : Nat.blt d n = true)
    (k : ∀ v' cl' a w', Kt No w w' → St W M T n ((d, v') :: G) (.own v' e R.size cl' :: D) (RowsF R cl' (List.replicate len.toNat z0) :: F) a w' → K a w') : OpK P ⟨some d, .makeSlice t x y, ty, pos, af, g⟩ a w K := by
  obtain ⟨ht, ⟨i, z, hi, hz0, hsz, hby, hzc⟩, hpos⟩ := elI_el he
  have h0 := of_decide_eq_true h0
  have hzz : z.cells.toList = zs := by
    unfold zeroI at hz
    rw [hi] at hz
    simp only [hz0, Option.some.injEq] at hz
    exact hz
  have h1 := roomB_le hroom
  have q1 := Nat.le_of_ble_eq_true hb
  subst hby
  have hbt : i.bytes ≤ 32768 := Nat.le_trans (Nat.le_mul_of_pos_left _ hpos) q1
  obtain ⟨m, rfl⟩ : ∃ m : Nat, len = m := ⟨len.toNat, by omega⟩
  rw [Int.toNat_natCast] at *
  have hmul : i.bytes * m ≤ 32768 * 4294967296 := Nat.mul_le_mul hbt h1
  have hbi : (i.bytes : Int) * (m : Int) ≤ 281474976710656 := by
    have : ((i.bytes * m : Nat) : Int) ≤ 281474976710656 := by omega
    rwa [Int.natCast_mul] at this
  have hrun := run_make (P := P) w t e i z ht hi hz0 kx ky (m : Int) (m : Int) (by omega) (by omega) hbi (by omega)
  rw [Int.toNat_natCast, hsz] at hrun
  have hfl : (madeCells z.cells (m * R.size)).toList = (List.replicate m zs).flatten := by rw [← hzc, made_flat, hzz]
  have hrow := RowsOk.rep hr m
  have hown : Own (w.alloc (.cells (madeCells z.cells (m * R.size)) e)) 0 e R.size (.slice (some ⟨w.heap.size, 0, none⟩) m m) (List.replicate m zs).flatten := by
    rw [← hfl]
    exact Own.lit w 0 e R.size _ m (Nat.zero_le _) (size_madeCells _ _) (by unfold maxLen; omega)
  have hr2 : (execOp a.eval ⟨some d, .makeSlice t x y, ty, pos, af, g⟩).run P w = .ok (.value (.slice (some ⟨w.heap.size, 0, none⟩) m m)) (w.alloc (.cells (madeCells z.cells (m * R.size)) e)) := by
    simp [execOp, hS.ev hx, hS.ev hy, hrun]
  have hS2 := hS.fact (RowsF R (List.replicate m zs).flatten (List.replicate m z0)) hrow
  exact kval hr2 (k _ _ _ _ (Kt.alloc _ _) ((hS2.add (Kt.alloc _ _) (.own (.slice (some ⟨w.heap.size, 0, none⟩) m m) e R.size (List.replicate m zs).flatten) ⟨hown, hpos⟩ (fun j hj => by simp only [Res.dom, Value.ownBlock, Option.some.injEq] at hj; omega)).put hn _))
/-- a part of a slice -/
theorem run_bounds {isS : Bool} {len cap : Nat} {k1 k2 : IntKind} {lo hi : Int} (h0 : 0 ≤ lo) (h1 : lo ≤ hi) (h2 : hi ≤ len) (h3 : len ≤ cap) (w : World) (olo ohi : Option Value) (hlo : olo = some (.int k1 lo) ∨ (olo = none ∧ lo = 0)) (hhi : ohi = some (.int k2 hi) ∨ (ohi = none ∧ hi = len)) : (Instr.sliceBounds isS len cap olo ohi none).run P w = .ok (lo.toNat, hi.toNat, cap) w := by
  have a1 : hi ≤ cap := by omega
  have a2 : 0 ≤ hi := by omega
  have a3 : lo ≤ (hi.toNat : Int) := by omega
  rcases hlo with rfl | ⟨rfl, rfl⟩ <;> rcases hhi with rfl | ⟨rfl, rfl⟩
  · simp [Instr.sliceBounds, Instr.sliceBound, asIntOf, h0, a1, a2, a3]
    intro h
    omega
  · simp [Instr.sliceBounds, Instr.sliceBound, asIntOf, h0, h1]
  · simp [Instr.sliceBounds, Instr.sliceBound, asIntOf, a1, a2]
  · simp [Instr.sliceBounds]
theorem subI_some {α : Type} {xs ys : List α} {lo hi : Int} (h : subI xs lo hi = some ys) : 0 ≤ lo ∧ lo ≤ hi ∧ hi ≤ xs.length ∧ ys = (xs.take hi.toNat).drop lo.toNat := by
  unfold subI at h
  split at h
  · rename_i hc; injection h with h; exact ⟨hc.1, hc.2.1, hc.2.2, h.symm⟩
  · cases h
theorem SlR.cut {α : Type} {R : Rep α} {T : Nat → Prop} {A : Option Addr} {c l h : Nat} {xs : List α} (hs : SlR R T w (.slice A xs.length c) xs) (h1 : l ≤ h) (h2 : h ≤ xs.length) (B : Option Addr) (hB : l < h → ∀ b o, A = some ⟨b, o, none⟩ → B = some ⟨b, o + l * R.size, none⟩) : SlR R T w (.slice B (h - l) (c - l)) ((xs.take h).drop l) := by
  obtain ⟨A', c', e, q1, q2, q3⟩ := hs
  injection e with e1 e2 e3
  subst e1 e3
  have hlen : ((xs.take h).drop l).length = h - l := by simp; omega
  refine ⟨B, c - l, by rw [hlen], by omega, by omega, ?_⟩
  by_cases hlt : l < h
  · rcases q3 with q3 | ⟨b, off, rfl, hc⟩
    · subst q3; simp at h2; omega
    · refine .inr ⟨b, off + l * R.size, hB hlt b off rfl, fun k x hx => ?_⟩
      rw [List.getElem?_drop, List.getElem?_take] at hx
      split at hx
      · obtain ⟨cs, g1, g2⟩ := hc _ x hx
        exact ⟨cs, g1, by rwa [show off + l * R.size + k * R.size = off + (l + k) * R.size by rw [Nat.add_mul]; omega]⟩
      · cases hx
  · left
    apply List.eq_nil_of_length_eq_zero; omega
theorem k_sub {α : Type} {R : Rep α} {xs ys : List α} {d : Nat} {t e ty : TypeId} {X : Operand} {olo ohi : Option Operand} {pos : String} {af : Array Edge} {g : Option (Nat × Bool)} {v : Value} {k1 k2 : IntKind} {lo hi : Int} {ag : Bool} (hS : St W M T n G D F a w) (ht : isSl P t = some e) (he : tyI P e = some (ag, R.size)) (hX : ev G X = some v) (hlo : (∃ x, olo = some x ∧ ev G x = some (.int k1 lo)) ∨ (olo = none ∧ lo = 0)) (hhi : (∃ x, ohi = some x ∧ ev G x = some (.int k2 hi)) ∨ (ohi = none ∧ hi = xs.length)) (j : Nat) (hj : F[j]? = some (SlF R v xs)) (hg : subI xs lo hi = some ys) (hn : Nat.blt d n = true)
    (K' : ∀ v' a, St W M T n ((d, v') :: G) D (SlF R v' ys :: F) a w → K a w) : OpK P ⟨some d, .slice t X olo ohi none, ty, pos, af, g⟩ a w K := by
  obtain ⟨q1, q2, q3, rfl⟩ := subI_some hg
  have hsl : SlR R (dT T D) w v xs := hS.get j hj
  obtain ⟨A, c, rfl, p1, p2⟩ := hsl.len
  have hb := run_bounds (P := P) (isS := true) (k1 := k1) (k2 := k2) q1 q2 q3 p1 w (olo.map a.eval) (ohi.map a.eval)
    (by rcases hlo with ⟨x, rfl, hx⟩ | ⟨rfl, rfl⟩
        · exact .inl (by rw [Option.map_some, hS.ev hx])
        · exact .inr ⟨rfl, rfl⟩)
    (by rcases hhi with ⟨x, rfl, hx⟩ | ⟨rfl, rfl⟩
        · exact .inl (by rw [Option.map_some, hS.ev hx])
        · exact .inr ⟨rfl, rfl⟩)
  have hr : (execOp a.eval ⟨some d, .slice t X olo ohi none, ty, pos, af, g⟩).run P w = .ok (.value (.slice (if c = lo.toNat then A else A.map (·.add (lo.toNat * R.size))) (hi.toNat - lo.toNat) (c - lo.toNat))) w := by
    have hx := hS.ev hX
    simp [execOp, Instr.sliceAt, Instr.slice, run_underlying (isSl_und ht), hx, hb, run_size he]
  refine kval hr (K' _ _ ((hS.put hn _).fact (SlF R _ _) ?_))
  refine hsl.cut (by omega) (by omega) _ (fun hlt b o hA => ?_)
  rw [if_neg (by omega), hA]
  simp [addr_add]
theorem subS_some {s p : ByteArray} {lo hi : Int} (h : subS s lo hi = some p) : 0 ≤ lo ∧ lo ≤ hi ∧ hi ≤ s.size ∧ p = s.extract lo.toNat hi.toNat := by
  unfold subS at h
  split at h
  · rename_i hc; injection h with h; exact ⟨hc.1, hc.2.1, hc.2.2, h.symm⟩
  · cases h
theorem y_subs {d : Option Nat} {t ty : TypeId} {X : Operand} {olo ohi : Option Operand} {pos : String} {af : Array Edge} {g : Option (Nat × Bool)} {s p : ByteArray} {k1 k2 : IntKind} {lo hi : Int} (hS : St W M T n G D F a w) (ht : P.underlying t = some .string) (hX : ev G X = some (.string s)) (hlo : (∃ x, olo = some x ∧ ev G x = some (.int k1 lo)) ∨ (olo = none ∧ lo = 0)) (hhi : (∃ x, ohi = some x ∧ ev G x = some (.int k2 hi)) ∨ (ohi = none ∧ hi = s.size)) (hg : subS s lo hi = some p) : Ye P ⟨d, .slice t X olo ohi none, ty, pos, af, g⟩ a E w (.string p) :=
  Ye.of fun w => by
    obtain ⟨q1, q2, q3, rfl⟩ := subS_some hg
    have hb := run_bounds (P := P) (isS := false) (k1 := k1) (k2 := k2) q1 q2 q3 (Nat.le_refl _) w (olo.map a.eval) (ohi.map a.eval)
      (by rcases hlo with ⟨x, rfl, hx⟩ | ⟨rfl, rfl⟩
          · exact .inl (by rw [Option.map_some, hS.ev hx])
          · exact .inr ⟨rfl, rfl⟩)
      (by rcases hhi with ⟨x, rfl, hx⟩ | ⟨rfl, rfl⟩
          · exact .inl (by rw [Option.map_some, hS.ev hx])
          · exact .inr ⟨rfl, rfl⟩)
    simp [execOp, Instr.sliceAt, Instr.slice, run_underlying ht, hS.ev hX, hb]
end
end Go.Proofs.YtpbbnkpplcnaoaaGreatDoor
