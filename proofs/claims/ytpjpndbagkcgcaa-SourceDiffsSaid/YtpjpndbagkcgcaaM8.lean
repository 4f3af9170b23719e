/- Programs that are made: the state in which sources are made. -/
import Derived.Test.YtpjpndbagkcgcaaM7
set_option linter.unusedVariables false
set_option linter.unusedSimpArgs false
namespace Go.Proofs.Ytpjpndbagkcgcaa
open Go.RowKit

/-- a row of n strings of at most L bytes; the one at i is s -/
def TxI (w : World) (bT n L i : Nat) (s : ByteArray) : Prop := ∃ xs : List ByteArray, xs.length = n ∧ w.heap[bT]? = some (.cells (xs.map Value.string).toArray 9 (0, 0)) ∧ (∀ x ∈ xs, x.size ≤ L) ∧ xs[i]? = some s
def TxT (w : World) (bT n L : Nat) : Prop := ∃ xs : List ByteArray, xs.length = n ∧ w.heap[bT]? = some (.cells (xs.map Value.string).toArray 9 (0, 0)) ∧ ∀ x ∈ xs, x.size ≤ L
section
variable {w w' : World} {bT n L L' i : Nat} {s : ByteArray}
theorem TxT.pick (h : TxT w bT n L) (hi : i < n) : ∃ s, TxI w bT n L i s := by
  obtain ⟨xs, h1, h2, h3⟩ := h
  exact ⟨_, xs, h1, h2, h3, List.getElem?_eq_getElem (by omega)⟩
theorem TxI.row (h : TxI w bT n L i s) (k : w'.heap[bT]? = w.heap[bT]?) : TxI w' bT n L i s := by
  obtain ⟨xs, h1, h2, h3, h4⟩ := h
  exact ⟨xs, h1, k.trans h2, h3, h4⟩
theorem TxT.row (h : TxT w bT n L) (k : w'.heap[bT]? = w.heap[bT]?) : TxT w' bT n L := by
  obtain ⟨xs, h1, h2, h3⟩ := h
  exact ⟨xs, h1, k.trans h2, h3⟩
theorem TxT.le (h : TxT w bT n L) (k : L ≤ L') : TxT w bT n L' := by
  obtain ⟨xs, h1, h2, h3⟩ := h
  exact ⟨xs, h1, h2, fun x hx => Nat.le_trans (h3 x hx) k⟩
theorem TxT.lt (h : TxT w bT n L) : bT < w.heap.size := by
  obtain ⟨xs, h1, h2, h3⟩ := h
  exact (Array.getElem?_eq_some_iff.1 h2).1
theorem TxI.cell (h : TxI w bT n L i s) : w.cell? ⟨bT, i, none⟩ = some (.string s) ∧ w.frozen? ⟨bT, i, none⟩ = false ∧ s.size ≤ L := by
  obtain ⟨xs, h1, h2, h3, h4⟩ := h
  refine ⟨?_, by simp [World.frozen?, h2], h3 s (List.mem_of_getElem? h4)⟩
  rw [cell_of_row _ _ _ _ _ _ h2]
  simp [h4]
theorem TxI.set (h : TxI w bT n L i s) (s' : ByteArray) (hs : s'.size ≤ L') (hL : L ≤ L') : TxT (w.setCell ⟨bT, i, none⟩ (.string s')) bT n L' := by
  obtain ⟨xs, h1, h2, h3, h4⟩ := h
  refine ⟨xs.set i s', by simpa using h1, ?_, fun x hx => ?_⟩
  · simp only [World.setCell, Array.getElem?_modify, h2, if_true]
    simp [List.map_set]
  · rcases List.mem_or_eq_of_mem_set hx with hx | rfl
    · exact Nat.le_trans (h3 x hx) hL
    · exact hs
end

/-- the state in which sources are made: dice, a program, texts; all else is new or as it was -/
structure Mk (w0 w : World) (B d p bT n K V L : Nat) (g : Pg) : Prop where
  hD : DiceOk w d
  hO : PrO w B d p g K V
  hT : TxT w bT n L
  hK : Kp [d] w0 w
  lp : w0.heap.size ≤ p
  pT : p < bT
  eB : B = bT + 1
section
variable {w0 w w' : World} {B d p bT n K V L K' V' L' i : Nat} {g g' : Pg} {s : ByteArray}
theorem Mk.lB (h : Mk w0 w B d p bT n K V L g) : B ≤ w.heap.size := by have := h.hT.lt; have := h.eB; omega
theorem Mk.kb (h : Mk w0 w B d p bT n K V L g) (a : DiceOk w' d) (b : PrO w' B d p g' K' V') (k : Kb B [d, p] w w') : Mk w0 w' B d p bT n K' V' L g' := by
  have h1 := h.hO.dp; have h2 := h.pT; have h3 := h.eB; have h4 := h.lp; have h5 := h.hK.size
  refine ⟨a, b, h.hT.row (k.2.2.2.2 _ (by omega) (by simp; omega)), ?_, h4, h2, h3⟩
  exact ⟨k.1.trans h.hK.1, k.2.1.trans h.hK.2.1, k.2.2.1.trans h.hK.2.2.1, Nat.le_trans h5 k.size, fun j hj hn => (k.2.2.2.2 j (by omega) (by simp at hn ⊢; omega)).trans (h.hK.2.2.2.2 j hj hn)⟩
theorem Mk.ikb (h : Mk w0 w B d p bT n K V L g) (hI : TxI w bT n L i s) (k : Kb B [d, p] w w') : TxI w' bT n L i s := by
  have h1 := h.hO.dp; have h2 := h.pT; have h3 := h.eB
  exact hI.row (k.2.2.2.2 _ (by omega) (by simp; omega))
theorem Mk.k1 (h : Mk w0 w B d p bT n K V L g) (a : DiceOk w' d) (k : Kp [d] w w') : Mk w0 w' B d p bT n K V L g :=
  h.kb a (h.hO.of1 k) ((Kb.refl _ _ _).kp (k.sub (sub1 d p)) h.lB)
theorem Mk.k2 (h : Mk w0 w B d p bT n K V L g) (a : DiceOk w' d) (b : PrAt w' d p g V') (k : Kp [d, p] w w') : Mk w0 w' B d p bT n K V' L g :=
  h.kb a (h.hO.kp k b) ((Kb.refl _ _ _).kp k h.lB)
theorem Mk.of (h : Mk w0 w B d p bT n K V L g) (k : Below w.heap.size w w') : Mk w0 w' B d p bT n K V L g := h.k1 (h.hD.of k) (Kp.of k)
theorem Mk.i1 (h : Mk w0 w B d p bT n K V L g) (hI : TxI w bT n L i s) (k : Kp [d] w w') : TxI w' bT n L i s := h.ikb hI ((Kb.refl _ _ _).kp (k.sub (sub1 d p)) h.lB)
theorem Mk.i2 (h : Mk w0 w B d p bT n K V L g) (hI : TxI w bT n L i s) (k : Kp [d, p] w w') : TxI w' bT n L i s := h.ikb hI ((Kb.refl _ _ _).kp k h.lB)
theorem Mk.iof (h : Mk w0 w B d p bT n K V L g) (hI : TxI w bT n L i s) (k : Below w.heap.size w w') : TxI w' bT n L i s := h.i1 hI (Kp.of k)
theorem Mk.drewN (h : Mk w0 w B d p bT n K V L g) (m : Nat) : Mk w0 (w.drewN m) B d p bT n K V L g := h.of (below_drewN (Below.refl _ _) m)
theorem Mk.drew (h : Mk w0 w B d p bT n K V L g) : Mk w0 w.drew B d p bT n K V L g := h.drewN 1
theorem Mk.le (h : Mk w0 w B d p bT n K V L g) (hL : L ≤ L') (hV : V ≤ V') : Mk w0 w B d p bT n K V' L' g := ⟨h.hD, h.hO.le hV, h.hT.le hL, h.hK, h.lp, h.pT, h.eB⟩
theorem Own.far {e : TypeId} {size : Nat} {v : Value} {xs : List Value} (h : Own w B e size v xs) (hk : ∀ k, B ≤ k → w'.heap[k]? = w.heap[k]?) : Own w' B e size v xs := by
  rcases h with h | ⟨g, off, n, cap, cs, rfl, h1, hbg, hgg, rest⟩
  · exact .inl h
  · exact .inr ⟨g, off, n, cap, cs, rfl, h1, hbg, (hk g hbg).trans hgg, rest⟩
/-- a text is written -/
theorem Mk.set (h : Mk w0 w B d p bT n K V L g) (hI : TxI w bT n L i s) (s' : ByteArray) (hs : s'.size ≤ L') (hL : L ≤ L') : Mk w0 (w.setCell ⟨bT, i, none⟩ (.string s')) B d p bT n K V L' g := by
  have h1 := h.hO.dp; have h2 := h.pT; have h3 := h.eB; have h4 := h.lp; have h5 := h.hK.size
  have k : Kp [bT] w (w.setCell ⟨bT, i, none⟩ (.string s')) := (Kp.refl _ _).set (p := ⟨bT, i, none⟩) (by simp) _
  have hf : ∀ k, B ≤ k → (w.setCell ⟨bT, i, none⟩ (.string s')).heap[k]? = w.heap[k]? := fun k hk => Below.heap_setCell w ⟨bT, i, none⟩ _ k (by show k ≠ bT; omega)
  have own : ∀ v, OwN w B K v → OwN (w.setCell ⟨bT, i, none⟩ (.string s')) B K v := fun v ⟨xs, a, b, c⟩ => ⟨xs, a.far hf, b, c⟩
  have hB : d < B ∧ p < B := by omega
  obtain ⟨v, hv, hrow, _, _, _⟩ := h.hO.at_
  have m1 := own _ h.hO.n1; have m2 := own _ h.hO.n2; have m3 := own _ h.hO.n3
  refine ⟨h.hD.kp k (by simp; omega), ⟨⟨v, hv, k.heap (by simp; omega) hrow, m1.names hB, m2.names hB, m3.names hB⟩, m1, m2, m3, h.hO.a12, h.hO.a13, h.hO.a23, h1, h.hO.pB⟩, hI.set s' hs hL, ?_, h4, h2, h3⟩
  exact ⟨h.hK.1, h.hK.2.1, h.hK.2.2.1, Nat.le_trans h5 k.size, fun j hj hn => (k.2.2.2.2 j (by omega) (by simp; omega)).trans (h.hK.2.2.2.2 j hj hn)⟩
/-- records and Show are there -/
theorem Mk.flags (h : Mk w0 w B d p bT n K V L g) : Mk w0 ((w.setCell ⟨p, 4, none⟩ (.bool true)).setCell ⟨p, 5, none⟩ (.bool true)) B d p bT n K V L { g with r := true, s := true } ∧
    (∃ x, w.cell? ⟨p, 4, none⟩ = some (.bool x)) ∧ (∃ x, w.cell? ⟨p, 5, none⟩ = some (.bool x)) ∧ w.frozen? ⟨p, 4, none⟩ = false ∧ w.frozen? ⟨p, 5, none⟩ = false := by
  have h1 := h.hO.dp; have h2 := h.pT; have h3 := h.eB; have h4 := h.lp; have h5 := h.hK.size
  have k : Kp [p] w ((w.setCell ⟨p, 4, none⟩ (.bool true)).setCell ⟨p, 5, none⟩ (.bool true)) := ((Kp.refl _ _).set (p := ⟨p, 4, none⟩) (by simp) _).set (p := ⟨p, 5, none⟩) (by simp) _
  have k2 := k.sub (cs := [d, p]) (by simp)
  have hB : d < B ∧ p < B := by omega
  obtain ⟨v, hv, hrow, _, _, _⟩ := h.hO.at_
  have m1 := h.hO.n1.kp k2 hB; have m2 := h.hO.n2.kp k2 hB; have m3 := h.hO.n3.kp k2 hB
  have hD' : DiceOk ((w.setCell ⟨p, 4, none⟩ (.bool true)).setCell ⟨p, 5, none⟩ (.bool true)) d := h.hD.kp k (by simp; omega)
  have hP' : PrAt ((w.setCell ⟨p, 4, none⟩ (.bool true)).setCell ⟨p, 5, none⟩ (.bool true)) d p { g with r := true, s := true } V := by
    refine ⟨v, hv, ?_, m1.names hB, m2.names hB, m3.names hB⟩
    simp only [World.setCell, Array.getElem?_modify, hrow, if_true]
    rfl
  refine ⟨h.kb hD' ⟨hP', m1, m2, m3, h.hO.a12, h.hO.a13, h.hO.a23, h1, h.hO.pB⟩ ((Kb.refl _ _ _).kp k2 h.lB), ⟨g.r, ?_⟩, ⟨g.s, ?_⟩, by simp [World.frozen?, hrow], by simp [World.frozen?, hrow]⟩ <;> rw [cell_of_row _ _ _ _ _ _ hrow] <;> rfl
end
theorem Kb.refl' (B : Nat) (bs : List Nat) (w : World) : Kb B bs w w := Kb.refl B bs w
/-- one of some strings that were written out a while ago -/
theorem of_later (m : Nat) (w w' : World) (d : Nat) (h : DiceOk w' d) (cs : Array Value) (t : TypeId) (n : Nat) (hd : d < w.heap.size) (hb : Below (w.alloc (.cells cs t)).heap.size (w.alloc (.cells cs t)) w') (hcs : strsB m cs = true) (hn : n = cs.size) (h0 : 0 < n) (hb2 : n ≤ 1000) :
    Calls Try.prog 25 #[.pointer (some ⟨d, 0, none⟩), .slice (some ⟨w.heap.size, 0, none⟩) n n] w' (PostL1 m w' d) := by
  obtain ⟨xs, h1, h2⟩ := strsB_list m cs.toList hcs
  have hcs2 : cs = (xs.map Value.string).toArray := by rw [← h1]
  have hnx : n = xs.length := by rw [hn, hcs2]; simp
  have hr : Rs [d] (w.alloc (.cells cs t)) (.slice (some ⟨w.heap.size, 0, none⟩) n n) xs := Rs.lit [d] w xs t n hnx (by unfold maxLen; omega) (fun k hk => by simp at hk; omega) cs hcs2
  exact (of_any _ d _ xs h (hr.kp (Kp.of (bs := []) hb) (by simp)) (by omega)).mono fun e w'' ⟨s, a, b, c, k⟩ => ⟨s, h2 s a, b, c, k⟩
end Go.Proofs.Ytpjpndbagkcgcaa
