/- Words for memory, over any program: slices that read as lists, rows that the call owns, append. -/
import Derived.WalkKit
import Derived.WalkSpells
import Derived.WalkLawsBesides
import Derived.BigQuiet
import Derived.Deep.QuietTactic
import Derived.Deep.CutBlock
import Derived.Deep.DeepCutAuto
import Derived.Laws.OwnMore
import Derived.Laws.IdiomCopy
import Derived.ArgAppend
import Derived.Deep.Draws
import Derived.RegionTactic
import Derived.Deep.RegionWith
import Derived.Deep.RegionHeld3
import Derived.Deep.RegionLaw
set_option linter.unusedVariables false
set_option linter.unusedSimpArgs false
namespace Go.Proofs.YtjoilbmkcknnfaaDoor
open Go.RowKit

theorem ret_int {k : IntKind} {a b : Int} (h : a = b) : Ending.returned (.int k a) = .returned (.int k b) := by rw [h]
theorem ret_bool {a b : Bool} (h : a = b) : Ending.returned (.bool a) = .returned (.bool b) := by rw [h]
theorem ret2 {a a' b b' : Value} (h1 : a = a') (h2 : b = b') : Ending.returned (.tuple #[a, b]) = .returned (.tuple #[a', b']) := by rw [h1, h2]
theorem ret3 {a a' b b' c c' : Value} (h1 : a = a') (h2 : b = b') (h3 : c = c') : Ending.returned (.tuple #[a, b, c]) = .returned (.tuple #[a', b', c']) := by rw [h1, h2, h3]
theorem int_eq {k : IntKind} {a b : Int} (h : a = b) : Value.int k a = Value.int k b := by rw [h]
theorem bool_eq {a b : Bool} (h : a = b) : Value.bool a = Value.bool b := by rw [h]
theorem hid {p : Prop} (h : p) : Hid p := h

/-- the world but for draws -/
def Dr (w w' : World) : Prop := ∃ n, w' = w.drewN n
theorem Dr.refl (w : World) : Dr w w := ⟨0, rfl⟩
theorem Dr.next {w a : World} (h : Dr w a) (n : Nat) : Dr w (a.drewN n) := by
  obtain ⟨m, rfl⟩ := h; exact ⟨m + n, by rw [World.drewN_drewN]⟩
theorem Dr.trans {w a b : World} (h : Dr w a) (k : Dr a b) : Dr w b := by
  obtain ⟨m, rfl⟩ := k; exact h.next m
theorem Dr.below {w a : World} (h : Dr w a) (B : Nat) : Below B w a := by
  obtain ⟨m, rfl⟩ := h; exact ⟨rfl, rfl, rfl, Nat.le_refl _, fun _ _ => rfl⟩
theorem below_drewN {B : Nat} {a w : World} (h : Below B a w) (n : Nat) : Below B a (w.drewN n) := ⟨h.os, h.tape, h.output, h.size, h.block⟩
theorem below_dr {B : Nat} {a w w' : World} (h : Below B a w) (k : Dr w w') : Below B a w' := by obtain ⟨m, rfl⟩ := k; exact below_drewN h m
/-- two steps, the second of which keeps all that there was -/
theorem below_step {a w w' : World} (h : Below a.heap.size a w) (k : Below w.heap.size w w') : Below a.heap.size a w' := h.trans (k.mono h.size)

/-- strings -/
theorem size_eq (s : ByteArray) : s.size = s.toList.length := by rw [ByteArray.toList_eq, Array.length_toList]; rfl
theorem str_ext {a b : ByteArray} (h : a.toList = b.toList) : a = b := by
  rw [ByteArray.toList_eq, ByteArray.toList_eq] at h
  cases a; cases b; congr; exact Array.toList_inj.1 h
theorem str_eq {a b : ByteArray} (h : a.toList = b.toList) : Value.string a = Value.string b := by rw [str_ext h]
theorem get_eq (s : ByteArray) (k : Nat) (h : k < s.size) : s.toList.getD k 0 = s[k] := by
  have : k < s.toList.length := by rw [← size_eq]; exact h
  rw [List.getD_eq_getElem?_getD, List.getElem?_eq_getElem this]; simp [ByteArray.toList_eq]; rfl
theorem take_snoc (s : ByteArray) (k : Nat) (h : k < s.size) : s.toList.take (k + 1) = s.toList.take k ++ [s[k]] := by
  have h1 : k < s.toList.length := by rw [← size_eq]; exact h
  rw [List.take_succ_eq_append_getElem h1, ← get_eq s k h, List.getD_eq_getElem?_getD, List.getElem?_eq_getElem h1]; rfl
theorem extract_toList (s : ByteArray) (a b : Nat) : (s.extract a b).toList = (s.toList.take b).drop a := by
  rw [ByteArray.toList_eq, ByteArray.toList_eq, ByteArray.data_extract, Array.toList_extract, List.extract_eq_take_drop, List.drop_take]
theorem toNat_eq {a b : UInt8} (h : a = b) : ((a.toNat : Int) == (b.toNat : Int)) = true := by rw [h]; simp
theorem toNat_ne {a b : UInt8} (h : ¬ a = b) : ((a.toNat : Int) == (b.toNat : Int)) = false := by
  rw [beq_eq_false_iff_ne]; intro e; exact h (UInt8.toNat_inj.1 (by omega))

/-- what an element type's row of the table says -/
structure Elem (P : Program) (t e : TypeId) (size bytes : Nat) : Prop where
  ht : P.underlying t = some (.slice e)
  hi : ∃ i z, P.info? e = some i ∧ i.zero = some z ∧ i.size = size ∧ i.bytes = bytes ∧ z.cells.size = size
  pos : 0 < size

/-- the slice v reads as the list xs; its block lies below B -/
def Sl {α : Type} (enc : α → List Value) (size : Nat) (w : World) (B : Nat) (v : Value) (xs : List α) : Prop :=
  ∃ A c, v = .slice A xs.length c ∧ xs.length ≤ c ∧ c ≤ maxLen ∧
    (xs = [] ∨ ∃ b off, A = some ⟨b, off, none⟩ ∧ b < B ∧ ∀ k x, xs[k]? = some x → ∀ j u, (enc x)[j]? = some u → w.cell? ⟨b, off + k * size + j, none⟩ = some u)

section
variable {α : Type} {enc : α → List Value} {size : Nat} {w w' : World} {B B' : Nat} {v : Value} {xs : List α}
theorem Sl.keep (h : Sl enc size w B v xs) (hk : ∀ p : Addr, p.block < B → w'.cell? p = w.cell? p) : Sl enc size w' B v xs := by
  obtain ⟨A, c, e, h1, h2, h3⟩ := h
  refine ⟨A, c, e, h1, h2, ?_⟩
  rcases h3 with h3 | ⟨b, off, e2, hb, hc⟩
  · exact .inl h3
  · exact .inr ⟨b, off, e2, hb, fun k x hx j u hu => (hk _ hb).trans (hc k x hx j u hu)⟩
theorem Sl.below (h : Sl enc size w B v xs) (hb : Below B w w') : Sl enc size w' B v xs := h.keep fun _ hp => hb.cell hp
theorem Sl.more (h : Sl enc size w B v xs) (hB : B ≤ B') : Sl enc size w B' v xs := by
  obtain ⟨A, c, e, h1, h2, h3⟩ := h
  refine ⟨A, c, e, h1, h2, ?_⟩
  rcases h3 with h3 | ⟨b, off, e2, hb, hc⟩
  · exact .inl h3
  · exact .inr ⟨b, off, e2, by omega, hc⟩
/-- all that there was, kept: in the later world, below its own size -/
theorem Sl.later (h : Sl enc size w w.heap.size v xs) (hb : Below w.heap.size w w') : Sl enc size w' w'.heap.size v xs := (h.below hb).more hb.size
theorem Sl.nil_ (c : Nat) (A : Option Addr) (hc : c ≤ maxLen) : Sl enc size w B (.slice A 0 c) [] := ⟨A, c, rfl, Nat.zero_le _, hc, .inl rfl⟩
end

/-- cells that lie behind an address -/
def At (w : World) (A : Option Addr) (cs : List Value) : Prop := cs = [] ∨ ∃ b off, A = some ⟨b, off, none⟩ ∧ ∀ j u, cs[j]? = some u → w.cell? ⟨b, off + j, none⟩ = some u

/-- they lie below a block -/
def AtLt (A : Option Addr) (B : Nat) (cs : List Value) : Prop := cs = [] ∨ ∃ b off, A = some ⟨b, off, none⟩ ∧ b < B
theorem At.below {w w' : World} {A : Option Addr} {cs : List Value} {B : Nat} (h : At w A cs) (hl : AtLt A B cs) (hb : Below B w w') : At w' A cs := by
  rcases h with h | ⟨b, off, e, h⟩
  · exact .inl h
  · rcases hl with hl | ⟨b', off', e', hl⟩
    · exact .inl hl
    · rw [e] at e'; injection e' with e'; injection e' with e1 e2; subst e1 e2
      exact .inr ⟨b, off, e, fun j u hu => (hb.cell (by exact hl)).trans (h j u hu)⟩
theorem At.later {w w' : World} {A : Option Addr} {cs : List Value} (h : At w A cs) (hl : AtLt A w.heap.size cs) (hb : Below w.heap.size w w') : At w' A cs := h.below hl hb
theorem flat_length {α : Type} {enc : α → List Value} {size : Nat} (he : ∀ x, (enc x).length = size) (xs : List α) : (xs.flatMap enc).length = xs.length * size := by
  induction xs with
  | nil => simp
  | cons x r ih => simp only [List.flatMap_cons, List.length_append, he, ih, List.length_cons]; rw [Nat.add_mul]; omega
theorem flat_get {α : Type} {enc : α → List Value} {size : Nat} (he : ∀ x, (enc x).length = size) : ∀ (xs : List α) (k j : Nat) (x : α), xs[k]? = some x → j < size → (xs.flatMap enc)[k * size + j]? = (enc x)[j]?
  | [], k, j, x, h, _ => by simp at h
  | y :: r, 0, j, x, h, hj => by
    simp only [List.getElem?_cons_zero, Option.some.injEq] at h
    subst h
    simp only [List.flatMap_cons, Nat.zero_mul, Nat.zero_add]
    rw [List.getElem?_append_left (by rw [he]; exact hj)]
  | y :: r, k + 1, j, x, h, hj => by
    simp only [List.getElem?_cons_succ] at h
    have := flat_get he r k j x h hj
    simp only [List.flatMap_cons]
    rw [List.getElem?_append_right (by rw [he, Nat.add_mul]; omega), he, ← this]
    congr 1
    rw [Nat.add_mul]; omega
theorem Sl.at_ {α : Type} {enc : α → List Value} {size : Nat} {w : World} {B : Nat} {A : Option Addr} {n c : Nat} {xs : List α} (he : ∀ x, (enc x).length = size) (hs : 0 < size) (h : Sl enc size w B (.slice A n c) xs) :
    n = xs.length ∧ At w A (xs.flatMap enc) ∧ AtLt A B (xs.flatMap enc) := by
  obtain ⟨A', c', e, h1, h2, h3⟩ := h
  injection e with e1 e2 e3
  subst e1 e2 e3
  refine ⟨rfl, ?_⟩
  rcases h3 with rfl | ⟨b, off, e2, hb, hc⟩
  · exact ⟨.inl (by simp), .inl (by simp)⟩
  · refine ⟨?_, .inr ⟨b, off, e2, hb⟩⟩
    right
    refine ⟨b, off, e2, fun j u hu => ?_⟩
    have hl := flat_length he xs
    have hj : j < xs.length * size := by rw [← hl]; exact (List.getElem?_eq_some_iff.1 hu).1
    have hk : j / size < xs.length := by rw [Nat.div_lt_iff_lt_mul hs]; exact hj
    have hx : xs[j / size]? = some xs[j / size] := List.getElem?_eq_getElem hk
    have hm := Nat.div_add_mod' j size
    have hf := flat_get he xs (j / size) (j % size) _ hx (Nat.mod_lt _ hs)
    rw [hm] at hf
    have := hc _ _ hx (j % size) u (by rw [← hf]; exact hu)
    rwa [Nat.add_assoc, hm] at this

/-- a row of cells that may be turned: none of them is marked -/
def Row (w : World) (g : Nat) (cs : Array Value) (e : TypeId) : Prop := ∃ fz : Nat × Nat, w.heap[g]? = some (.cells cs e fz) ∧ (fz = (0, 0) ∨ cs.size ≤ fz.1)
theorem Row.of {w : World} {g : Nat} {cs : Array Value} {e : TypeId} (h : w.heap[g]? = some (.cells cs e (0, 0))) : Row w g cs e := ⟨_, h, .inl rfl⟩
theorem Row.lt {w : World} {g : Nat} {cs : Array Value} {e : TypeId} (h : Row w g cs e) : g < w.heap.size := by
  obtain ⟨fz, h1, _⟩ := h
  exact (Array.getElem?_eq_some_iff.1 h1).1
theorem Row.eqb {w w' : World} {g : Nat} {cs : Array Value} {e : TypeId} (h : Row w g cs e) (hb : w'.heap[g]? = w.heap[g]?) : Row w' g cs e := by
  obtain ⟨fz, h1, h2⟩ := h
  exact ⟨fz, hb.trans h1, h2⟩
theorem Row.cell {w : World} {g : Nat} {cs : Array Value} {e : TypeId} (h : Row w g cs e) (o : Nat) : w.cell? ⟨g, o, none⟩ = cs[o]? := by
  obtain ⟨fz, h1, _⟩ := h
  exact cell_of_row w g o cs e fz h1
theorem Row.free {w : World} {g : Nat} {cs : Array Value} {e : TypeId} (h : Row w g cs e) {o : Nat} (ho : o < cs.size) : w.frozen? ⟨g, o, none⟩ = false := by
  obtain ⟨fz, h1, h2⟩ := h
  simp only [World.frozen?, h1]
  rcases h2 with rfl | h2
  · simp
  · simp; omega
theorem Row.ty {w : World} {g : Nat} {cs cs2 : Array Value} {e e2 : TypeId} (h : Row w g cs e) (k : Row w g cs2 e2) : e = e2 := by
  obtain ⟨fz, h1, _⟩ := h
  obtain ⟨fz2, h2, _⟩ := k
  rw [h1] at h2
  injection h2 with h2
  injection h2
/-- the slice value v, of cells xs (element type e, 'size' cells each), lies in a block of the call's own (from B on) -/
def Own (w : World) (B : Nat) (e : TypeId) (size : Nat) (v : Value) (xs : List Value) : Prop :=
  (v = .slice none 0 0 ∧ xs = []) ∨
  ∃ g off n cap cs, v = .slice (some ⟨g, off, none⟩) n cap ∧ xs.length = n * size ∧ B ≤ g ∧ Row w g cs e ∧ n ≤ cap ∧ cap ≤ maxLen ∧ off + cap * size ≤ cs.size ∧
    ∀ j u, xs[j]? = some u → cs[off + j]? = some u

theorem setCells_block (g : Nat) (e : TypeId) (fr : Nat × Nat) : ∀ (vs : List Value) (o : Nat) (w : World) (cs : Array Value), w.heap[g]? = some (.cells cs e fr) →
    ∃ cs', (w.setCells g o vs).heap[g]? = some (.cells cs' e fr) ∧ cs'.size = cs.size ∧ (∀ j, (j < o ∨ o + vs.length ≤ j) → cs'[j]? = cs[j]?) ∧ (o + vs.length ≤ cs.size → ∀ j u, vs[j]? = some u → cs'[o + j]? = some u)
  | [], o, w, cs, h => ⟨cs, h, rfl, fun _ _ => rfl, fun _ j u hu => by simp at hu⟩
  | v :: r, o, w, cs, h => by
    have h1 : (w.setCell ⟨g, o, none⟩ v).heap[g]? = some (.cells (cs.setIfInBounds o v) e fr) := by simp [World.setCell, Array.getElem?_modify, h]
    obtain ⟨cs', a1, a2, a3, a4⟩ := setCells_block g e fr r (o + 1) _ _ h1
    refine ⟨cs', a1, by rw [a2]; simp, fun j hj => ?_, fun hl j u hu => ?_⟩
    · rw [a3 j (by simp only [List.length_cons] at hj; omega), Array.getElem?_setIfInBounds, if_neg (by simp only [List.length_cons] at hj; omega)]
    · simp only [List.length_cons] at hl
      cases j with
      | zero =>
        simp only [List.getElem?_cons_zero, Option.some.injEq] at hu
        subst hu
        rw [Nat.add_zero, a3 o (by omega), Array.getElem?_setIfInBounds, if_pos rfl, if_pos (by omega)]
      | succ j =>
        simp only [List.getElem?_cons_succ] at hu
        have := a4 (by simp; omega) j u hu
        rwa [show o + (j + 1) = o + 1 + j by omega]
theorem setCells_far (g : Nat) : ∀ (vs : List Value) (o : Nat) (w : World) (k : Nat), k ≠ g → (w.setCells g o vs).heap[k]? = w.heap[k]?
  | [], _, _, _, _ => rfl
  | v :: r, o, w, k, h => by
    show ((w.setCell ⟨g, o, none⟩ v).setCells g (o + 1) r).heap[k]? = _
    rw [setCells_far g r (o + 1) _ k h]; exact Below.heap_setCell w _ v k h
theorem setCells_size (g : Nat) : ∀ (vs : List Value) (o : Nat) (w : World), (w.setCells g o vs).heap.size = w.heap.size
  | [], _, _ => rfl
  | v :: r, o, w => by
    show ((w.setCell ⟨g, o, none⟩ v).setCells g (o + 1) r).heap.size = _
    rw [setCells_size g r (o + 1) _]; simp [World.setCell]
theorem setCells_rest (g : Nat) : ∀ (vs : List Value) (o : Nat) (w : World), (w.setCells g o vs).os = w.os ∧ (w.setCells g o vs).tape = w.tape ∧ (w.setCells g o vs).output = w.output
  | [], _, _ => ⟨rfl, rfl, rfl⟩
  | v :: r, o, w => setCells_rest g r (o + 1) (w.setCell ⟨g, o, none⟩ v)
theorem setCells_grown (w : World) (g o : Nat) (vs : List Value) : w.grownBy (w.setCells g o vs) (some g) :=
  ⟨(setCells_rest g vs o w).1, (setCells_rest g vs o w).2.1, (setCells_rest g vs o w).2.2, by rw [setCells_size]; exact Nat.le_refl _, fun k _ hk => setCells_far g vs o w k (fun e => hk (by rw [e]))⟩

section
variable {w w' : World} {B B' : Nat} {e : TypeId} {size : Nat} {v : Value} {xs : List Value}
theorem Own.nil_ (w : World) (B : Nat) (e : TypeId) (size : Nat) : Own w B e size (.slice none 0 0) [] := .inl ⟨rfl, rfl⟩
theorem Own.made (w : World) (B : Nat) (e : TypeId) (size : Nat) (cs : Array Value) (cap : Nat) (hB : B ≤ w.heap.size) (hs : cap * size ≤ cs.size) (hc : cap ≤ maxLen) : Own (w.alloc (.cells cs e)) B e size (.slice (some ⟨w.heap.size, 0, none⟩) 0 cap) [] :=
  .inr ⟨w.heap.size, 0, 0, cap, cs, rfl, by simp, hB, .of (heap_alloc_new w _), Nat.zero_le _, hc, by omega, fun j u hu => by simp at hu⟩
theorem Own.lit (w : World) (B : Nat) (e : TypeId) (size : Nat) (cs : Array Value) (n : Nat) (hB : B ≤ w.heap.size) (hs : cs.size = n * size) (hc : n ≤ maxLen) : Own (w.alloc (.cells cs e)) B e size (.slice (some ⟨w.heap.size, 0, none⟩) n n) cs.toList :=
  .inr ⟨w.heap.size, 0, n, n, cs, rfl, by simpa using hs, hB, .of (heap_alloc_new w _), Nat.le_refl _, hc, by omega, fun j u hu => by simpa using hu⟩
theorem Own.blk (h : Own w B e size v xs) : ∀ k, v.ownBlock = some k → B ≤ k ∧ k < w.heap.size ∧ ∃ cs, Row w k cs e := by
  intro k hk
  rcases h with ⟨rfl, _⟩ | ⟨g, off, n, cap, cs, rfl, _, hb, hg, _⟩
  · simp [Value.ownBlock] at hk
  · simp [Value.ownBlock] at hk
    subst hk
    exact ⟨hb, hg.lt, cs, hg⟩
theorem Own.kept {row : Option Nat} (h : Own w B e size v xs) (hg : w.grownBy w' row) (hne : v.ownBlock = none ∨ v.ownBlock ≠ row) : Own w' B e size v xs := by
  rcases h with h | ⟨g, off, n, cap, cs, rfl, h1, hb, hgg, rest⟩
  · exact .inl h
  · refine .inr ⟨g, off, n, cap, cs, rfl, h1, hb, ?_, rest⟩
    exact hgg.eqb (hg.block g hgg.lt (by simpa [Value.ownBlock] using hne))
theorem Own.keep (h : Own w B e size v xs) (hk : ∀ k, k < w.heap.size → w'.heap[k]? = w.heap[k]?) : Own w' B e size v xs := by
  rcases h with h | ⟨g, off, n, cap, cs, rfl, h1, hb, hgg, rest⟩
  · exact .inl h
  · refine .inr ⟨g, off, n, cap, cs, rfl, h1, hb, ?_, rest⟩
    exact hgg.eqb (hk g hgg.lt)
theorem Own.later (h : Own w B e size v xs) (hb : Below w.heap.size w w') : Own w' B e size v xs := h.keep hb.block
theorem Own.alloc (h : Own w B e size v xs) (o : Obj) : Own (w.alloc o) B e size v xs := h.keep fun k hk => Below.heap_alloc w o k hk
theorem Own.drew (h : Own w B e size v xs) : Own w.drew B e size v xs := h
theorem Own.drewN (h : Own w B e size v xs) (n : Nat) : Own (w.drewN n) B e size v xs := h
theorem Own.less (h : Own w B e size v xs) (hB : B' ≤ B) : Own w B' e size v xs := by
  rcases h with h | ⟨g, off, n, cap, cs, rfl, h1, hb, rest⟩
  · exact .inl h
  · exact .inr ⟨g, off, n, cap, cs, rfl, h1, by omega, rest⟩
theorem Own.form (h : Own w B e size v xs) (hs : 0 < size) : ∃ A n c, v = .slice A n c ∧ xs.length = n * size ∧ n ≤ c ∧ c ≤ maxLen ∧ At w A xs := by
  rcases h with ⟨rfl, rfl⟩ | ⟨g, off, n, cap, cs, rfl, h1, hb, hg, hnc, hc, hsz, hcs⟩
  · exact ⟨none, 0, 0, rfl, by simp, Nat.le_refl _, Nat.zero_le _, .inl rfl⟩
  · refine ⟨_, n, cap, rfl, h1, hnc, hc, .inr ⟨g, off, rfl, fun j u hu => ?_⟩⟩
    rw [hg.cell]
    exact hcs j u hu
theorem Own.below {a : World} (h : Own w B e size v xs) (hb : Below B a w) (hB : B ≤ w.heap.size) (hg : w.grownBy w' v.ownBlock) : Below B a w' := hb.grown hg hB (fun k hk => (h.blk k hk).1)
/-- two rows of different element types lie apart -/
theorem Own.apart {B2 : Nat} {e2 : TypeId} {size2 : Nat} {v2 : Value} {xs2 : List Value} (h : Own w B e size v xs) (h2 : Own w B2 e2 size2 v2 xs2) (hne : e ≠ e2) : v.ownBlock = none ∨ v.ownBlock ≠ v2.ownBlock := by
  cases hv : v.ownBlock with
  | none => exact .inl rfl
  | some k =>
    right
    intro hk
    obtain ⟨_, _, cs, hc⟩ := h.blk k hv
    obtain ⟨_, _, cs2, hc2⟩ := h2.blk k hk.symm
    exact hne (hc.ty hc2)
end

/-- an own row, read -/
theorem Own.sl {α : Type} {enc : α → List Value} {size : Nat} {w : World} {B : Nat} {e : TypeId} {v : Value} {l : List α} (he : ∀ x, (enc x).length = size) (hs : 0 < size) (h : Own w B e size v (l.flatMap enc)) :
    Sl enc size w w.heap.size v l := by
  rcases h with ⟨rfl, h⟩ | ⟨g, off, n, cap, cs, rfl, h1, hb, hg, hnc, hc, hsz, hcs⟩
  · have hl := flat_length he l
    rw [h] at hl
    have : l = [] := by
      cases l with
      | nil => rfl
      | cons x r => simp [Nat.add_mul] at hl; omega
    subst this
    exact Sl.nil_ 0 none (Nat.zero_le _)
  · rw [flat_length he] at h1
    have hn : n = l.length := (Nat.mul_right_cancel hs h1).symm
    subst hn
    refine ⟨_, cap, rfl, hnc, hc, .inr ⟨g, off, rfl, hg.lt, fun k x hx j u hu => ?_⟩⟩
    have hj : j < size := by rw [← he x]; exact (List.getElem?_eq_some_iff.1 hu).1
    rw [hg.cell, Nat.add_assoc]
    exact hcs _ u (by rw [flat_get he l k j x hx hj]; exact hu)

section
variable {P : Program}
theorem run_append_none (w : World) (t ty e : TypeId) (i : TypeInfo) (ht : P.underlying t = some (.slice e)) (hi : P.info? e = some i) (A : Option Addr) (n cap c : Nat) (B : Option Addr) (hnc : n ≤ cap) :
    (Builtin.append_ #[t, t] ty #[.slice A n cap, .slice B 0 c]).run P w = .ok (.slice A n cap) w := by
  cases A <;> cases B <;> simp [Builtin.append_, run_underlying ht, sizeOf, typeInfo, hi, Builtin.lenOf, Builtin.firstCells, hnc, storeCells, loadCells, loadCellsFrom]

theorem run_append_Own (w : World) (t ty e : TypeId) (size bytes : Nat) (E : Elem P t e size bytes) (B : Nat) (v : Value) (xs : List Value) (hown : Own w B e size v xs)
    (A : Option Addr) (m c : Nat) (news : List Value) (hl : news.length = m * size) (hat : At w A news) (h1 : ∀ u ∈ news, u.oneCell' = true)
    (h63 : xs.length + news.length ≤ maxLen) (hbytes : (xs.length + news.length) * bytes ≤ 140737488355328) (hbase : B ≤ w.heap.size) :
    ∃ v' w', (Builtin.append_ #[t, t] ty #[v, .slice A m c]).run P w = .ok v' w' ∧ Own w' B e size v' (xs ++ news) ∧ w.grownBy w' v.ownBlock ∧ (v'.ownBlock = v.ownBlock ∨ v'.ownBlock = some w.heap.size) := by
  obtain ⟨ht, ⟨i, z, hi, hz, hsize, hby, hzs⟩, hpos⟩ := E
  subst hsize hby
  by_cases hm : m = 0
  · subst hm
    have hn : news = [] := List.eq_nil_of_length_eq_zero (by simpa using hl)
    subst hn
    rcases hown with ⟨rfl, rfl⟩ | ⟨g, off, n, cap, cs, rfl, a1, hb, hg, hnc, hc, hsz, hcs⟩
    · exact ⟨_, w, run_append_none w t ty e i ht hi none 0 0 c A (Nat.le_refl _), .inl ⟨rfl, rfl⟩, World.grownBy.refl w _, .inl rfl⟩
    · exact ⟨_, w, run_append_none w t ty e i ht hi _ n cap c A hnc, .inr ⟨g, off, n, cap, cs, rfl, by simpa using a1, hb, hg, hnc, hc, hsz, by simpa using hcs⟩, World.grownBy.refl w _, .inl rfl⟩
  · have hne : news ≠ [] := by rintro rfl; rw [List.length_nil] at hl; rcases Nat.mul_eq_zero.1 hl.symm with h | h <;> omega
    obtain ⟨sb, soff, rfl, hcell⟩ : ∃ b off, A = some ⟨b, off, none⟩ ∧ ∀ j u, news[j]? = some u → w.cell? ⟨b, off + j, none⟩ = some u := by
      rcases hat with h | h
      · exact absurd h hne
      · exact h
    have hcell' : ∀ j u, news[j]? = some u → w.cell? ((⟨sb, soff, none⟩ : Addr).add j) = some u := fun j u hu => by rw [Addr.add_lit]; exact hcell j u hu
    have hmn : m ≤ news.length := by rw [hl]; exact Nat.le_mul_of_pos_right _ hpos
    have grown : ∀ (old n : Nat), old < n + m → xs.length = n * i.size → n + m ≤ xs.length + news.length →
        Own (w.drew.alloc (.cells (xs.toArray ++ news.toArray ++ Builtin.zeroCells z.cells (grownCap w (n + m) old e - (n + m))) e)) B e i.size
          (.slice (some ⟨w.heap.size, 0, none⟩) (n + m) (grownCap w (n + m) old e)) (xs ++ news) := by
      intro old n ho hx hle
      have hge := grownCap_ge w (n + m) old e
      have hcm : grownCap w (n + m) old e ≤ maxLen := grownCap_le_maxLen w (n + m) old e (by omega)
      refine .inr ⟨w.heap.size, 0, n + m, _, _, rfl, by rw [List.length_append, hx, hl, Nat.add_mul], hbase, .of (heap_alloc_new w.drew _), hge, hcm, ?_, ?_⟩
      · simp only [Array.size_append, List.size_toArray, size_zeroCells, hzs, hx, hl, ← Nat.add_mul]
        rw [Nat.zero_add]
        exact Nat.mul_le_mul_right _ (by omega)
      · intro j u hu
        rw [Nat.zero_add, Array.getElem?_append_left (by
          have := (List.getElem?_eq_some_iff.1 hu).1
          simpa using this)]
        simpa using hu
    rcases hown with ⟨rfl, rfl⟩ | ⟨g, off, n, cap, cs, rfl, a1, hb, hg, hnc, hc, hsz, hcs⟩
    · have hr := run_append_nil (P := P) w t ty e i z ht hi hz ⟨sb, soff, none⟩ m c news hl hcell' (by omega) (by simp only [maxLen] at h63; simp at h63; omega)
        (by
          have h2 : m * i.bytes ≤ news.length * i.bytes := Nat.mul_le_mul_right _ hmn
          simp only [List.length_nil, Nat.zero_add] at hbytes
          omega)
      have hgr := grown 0 0 (by omega) (by simp) (by simp; omega)
      simp only [Nat.zero_add, List.nil_append, Array.empty_append] at hgr
      exact ⟨_, _, hr, hgr, ⟨rfl, rfl, rfl, by simp, fun k hk _ => Below.heap_alloc w.drew _ k hk⟩, .inr rfl⟩
    · have hnx : n ≤ xs.length := by rw [a1]; exact Nat.le_mul_of_pos_right _ hpos
      by_cases hroom : n + m ≤ cap
      · have hfit : off + n * i.size + news.length ≤ cs.size := by
          have : (n + m) * i.size ≤ cap * i.size := Nat.mul_le_mul_right _ hroom
          rw [hl]; rw [Nat.add_mul] at this; omega
        have hr := run_append_room_cells (P := P) w t ty e i ht hi g off n cap ⟨sb, soff, none⟩ m c news hl hcell' h1 hroom
          (fun j hj => by rw [hg.cell, Array.getElem?_eq_getElem (by omega)]; rfl)
          (fun j hj => hg.free (by omega))
        obtain ⟨fz, hg0, hfz⟩ := id hg
        obtain ⟨cs', c1, c2, c3, c4⟩ := setCells_block g e fz news (off + n * i.size) w cs hg0
        refine ⟨_, _, hr, .inr ⟨g, off, n + m, cap, cs', rfl, by rw [List.length_append, a1, hl, Nat.add_mul], hb, ⟨fz, c1, by rw [c2]; exact hfz⟩, hroom, hc, by rw [c2]; exact hsz, fun j u hu => ?_⟩, setCells_grown w g _ news, .inl rfl⟩
        by_cases hj : j < xs.length
        · rw [List.getElem?_append_left hj] at hu
          rw [c3 _ (by omega)]
          exact hcs j u hu
        · rw [List.getElem?_append_right (by omega)] at hu
          have := c4 hfit (j - xs.length) u hu
          rwa [show off + n * i.size + (j - xs.length) = off + j by omega] at this
      · have hr := run_append_grow (P := P) w t ty e i z ht hi hz ⟨g, off, none⟩ n cap xs a1 (fun j u hu => by rw [Addr.add_lit, hg.cell]; exact hcs j u hu)
          ⟨sb, soff, none⟩ m c news hl hcell' (by omega) (by simp only [maxLen] at h63; omega)
          (growslice_fits (by omega) (by
            have h2 : (n + m) * i.bytes ≤ (xs.length + news.length) * i.bytes := Nat.mul_le_mul_right _ (by omega)
            omega))
        have hgr := grown cap n (by omega) a1 (by omega)
        exact ⟨_, _, hr, hgr, ⟨rfl, rfl, rfl, by simp, fun k hk _ => Below.heap_alloc w.drew _ k hk⟩, .inr rfl⟩

theorem wp_append_Own (w : World) {o : Oper} {a : Act} {K : Act → World → Prop} {Q : Exit → Act → World → Prop} (s x : Operand) (t : TypeId)
    (ho : o.op = .call { callee := .builtin .append, args := #[s, x], argTypes := #[t, t] })
    (e : TypeId) (size bytes : Nat) (E : Elem P t e size bytes) (B : Nat) (v : Value) (xs : List Value) (hs : a.eval s = v) (hown : Own w B e size v xs)
    (A : Option Addr) (m c : Nat) (news : List Value) (hx : a.eval x = .slice A m c) (hl : news.length = m * size) (hat : At w A news) (h1 : ∀ u ∈ news, u.oneCell' = true)
    (h63 : xs.length + news.length ≤ maxLen) (hbytes : (xs.length + news.length) * bytes ≤ 140737488355328) (hbase : B ≤ w.heap.size)
    (h : ∀ v' w', Own w' B e size v' (xs ++ news) → w.grownBy w' v.ownBlock → (v'.ownBlock = v.ownBlock ∨ v'.ownBlock = some w.heap.size) → K (a.put o.dst v') w') : o.wp P a w K Q := by
  obtain ⟨v', w', hrun, h2, h3, h4⟩ := run_append_Own (P := P) w t o.type e size bytes E B v xs hown A m c news hl hat h1 h63 hbytes hbase
  unfold Oper.wp execOp
  simp only [ho, resolve, invoke, builtin, Sem.run_bind, Sem.run_pure, Result.andThen_ok, List.map_toArray, List.map_cons, List.map_nil, hs, hx, hrun]
  exact h v' w' h2 h3 h4

/-- append, as an operation of the walk -/
theorem wpl_append (w : World) {ops : Array Oper} {rest : List Oper} {o : Oper} {a : Act} {Q : Exit → Act → World → Prop} (hgd : o.guard = none) (s x : Operand) (t : TypeId)
    (ho : o.op = .call { callee := .builtin .append, args := #[s, x], argTypes := #[t, t] })
    (e : TypeId) (size bytes : Nat) (E : Elem P t e size bytes) (B : Nat) (v : Value) (xs : List Value) (hs : a.eval s = v) (hown : Own w B e size v xs)
    (A : Option Addr) (m c : Nat) (news : List Value) (hx : a.eval x = .slice A m c) (hl : news.length = m * size) (hat : At w A news) (h1 : ∀ u ∈ news, u.oneCell' = true)
    (h63 : xs.length + news.length ≤ maxLen) (hbytes : (xs.length + news.length) * bytes ≤ 140737488355328) (hbase : B ≤ w.heap.size)
    (h : ∀ v' w', Own w' B e size v' (xs ++ news) → w.grownBy w' v.ownBlock → (v'.ownBlock = v.ownBlock ∨ v'.ownBlock = some w.heap.size) → wpList P ops Q rest (a.put o.dst v') w') : wpList P ops Q (o :: rest) a w :=
  wpList_plain hgd fun _ hK => wp_append_Own w s x t ho e size bytes E B v xs hs hown A m c news hx hl hat h1 h63 hbytes hbase fun v' w' h2 h3 h4 => hK _ _ (h v' w' h2 h3 h4)
end


/-! A region that draws its order, whose operations yield values that hang on nothing but what there was before it: in whatever order, the values are the same; behind it stands some later world. -/
def La (w : World) : Type := { w' : World // Below w.heap.size w w' }
instance La.some_ (w : World) : Nonempty (La w) := ⟨⟨w, Below.refl _ _⟩⟩
def La.w {w : World} (x : La w) : World := x.1
theorem La.below {w : World} (x : La w) : Below w.heap.size w x.w := x.2
theorem La.cell {w : World} (x : La w) {p : Addr} {v : Value} (h : w.cell? p = some v) : x.w.cell? p = some v := (x.below.cell (World.block_lt_of_cell? w p h)).trans h
theorem La.sl {α : Type} {enc : α → List Value} {size : Nat} {w : World} {v : Value} {xs : List α} (x : La w) (h : Sl enc size w w.heap.size v xs) : Sl enc size x.w x.w.heap.size v xs := h.later x.below
theorem wp_region_la {P : Program} {id : Nat} {Q : Exit → Act → World → Prop} {a : Act} {w : World} {l : List Oper} (hm : P.follows .mixedOrders = true) (hB : Region.lexB .any l.toArray = true)
    (h : wpQuiet P l.toArray (fun w' => ∃ x : La w, w' = x.w) (fun a' => ∀ w', (∃ x : La w, w' = x.w) → Q .normal a' w') l a) : (Code.region id l.toArray true).wp P Q a w :=
  wp_region_quiet (C := fun w' => ∃ x : La w, w' = x.w) hm hB ⟨⟨_, (Below.refl _ w).drew⟩, rfl⟩ (by simpa using h)
theorem wpq_nil {P : Program} {ops : Array Oper} {Q : Exit → Act → World → Prop} {a : Act} {w : World} (h : ∀ w', Below w.heap.size w w' → Q .normal a w') :
    wpQuiet P ops (fun w' => ∃ x : La w, w' = x.w) (fun a' => ∀ w', (∃ x : La w, w' = x.w) → Q .normal a' w') [] a := fun w' ⟨x, hx⟩ => by subst hx; exact h _ x.below
theorem La.call {P : Program} {f : FuncId} {args : Array Value} {w : World} {x : La w} {v : Value}
    (h : Calls P f args x.w fun e w'' => e = .returned v ∧ Below x.w.heap.size x.w w'') : Calls P f args x.w fun e w'' => e = .returned v ∧ ∃ y : La w, w'' = y.w :=
  h.mono fun _ w'' ⟨he, hb⟩ => ⟨he, ⟨w'', below_step x.below hb⟩, rfl⟩
theorem La.same {P : Program} {f : FuncId} {args : Array Value} {w : World} {x : La w} {v : Value}
    (h : Calls P f args x.w fun e w'' => e = .returned v ∧ x.w = w'') : Calls P f args x.w fun e w'' => e = .returned v ∧ ∃ y : La w, w'' = y.w :=
  h.mono fun _ _ ⟨he, hb⟩ => ⟨he, x, hb.symm⟩

end Go.Proofs.YtjoilbmkcknnfaaDoor
