/- A frame for walks: bytes and strings. -/
import Derived.Test.YtjoilbmkcknnfaaDoorGA
import Derived.Lib.AppendStr
import Derived.Lib.ConvBytes
import Derived.Laws.BytesString
import Derived.ArgAppend
import Derived.Lib.SmallJoins
set_option linter.unusedVariables false
set_option linter.unusedSimpArgs false
namespace Go.Proofs.YtjoilbmkcknnfaaDoor
open Go.RowKit

/-- a string's bytes, as numbers -/
def bytesI (s : ByteArray) : List Int := s.toList.map fun c => (c.toNat : Int)
/-- numbers, as a string -/
def strI (l : List Int) : ByteArray := ⟨(l.map fun n => UInt8.ofNat n.toNat).toArray⟩
def shlI (k : IntKind) (x n : Int) : Int := k.wrap (x * 2 ^ (min n.toNat k.bits))
def shrI (k : IntKind) (x n : Int) : Int := x.fdiv (2 ^ (min n.toNat k.bits))
theorem gd_of {α : Type} {b : Bool} {x : Option α} {y : α} (hb : b = true) (h : x = some y) : gd b x = some y := by subst hb; exact h
theorem bd_of {α β : Type} {m : Option α} {v : α} {f : α → Option β} {y : β} (hm : m = some v) (h : f v = some y) : m.bind f = some y := by rw [hm]; exact h
theorem bytesI_len (s : ByteArray) : (bytesI s).length = s.size := by
  unfold bytesI
  rw [List.length_map, ByteArray.toList_eq]; rfl
theorem strCells_I (s : ByteArray) : Lib.strCells s = (bytesI s).map (Value.int .u8) := by
  unfold Lib.strCells bytesI
  rw [ByteArray.toList_eq, List.map_map]; rfl
theorem rows_bytes (T : Nat → Prop) (w : World) : ∀ (l : List Int), RowsOk (Rep.int .u8) T w (l.map (Value.int .u8)) l
  | l => ⟨by simp [Rep.int], fun k x hx => ⟨[.int .u8 x], rfl, fun j u hu => by
    cases j with
    | zero => simp only [List.getElem?_cons_zero, Option.some.injEq] at hu; subst hu; simp [Rep.int, hx]
    | succ j => simp at hu⟩⟩
theorem rows_bytes_eq {T : Nat → Prop} {w : World} {cl : List Value} {l : List Int} (h : RowsOk (Rep.int .u8) T w cl l) : cl = l.map (Value.int .u8) := by
  obtain ⟨h1, h2⟩ := h
  have h1 : cl.length = l.length := by simpa [Rep.int] using h1
  apply List.ext_getElem (by simpa using h1)
  intro i hi hj
  have hi' : i < l.length := by omega
  obtain ⟨cs, h3, h4⟩ := h2 i _ (List.getElem?_eq_getElem hi')
  have h3 : cs = [.int .u8 l[i]] := h3
  subst h3
  have := h4 0 _ rfl
  have hs : (Rep.int .u8).size = 1 := rfl
  rw [hs, Nat.mul_one, Nat.add_zero, List.getElem?_eq_getElem hi] at this
  simp only [Option.some.injEq] at this
  rw [this]; simp
section
variable {P : Program}
theorem run_append_room_str (w : World) (t u ty e : TypeId) (i : TypeInfo) (ht : P.underlying t = some (.slice e)) (hu : P.underlying u = some .string) (hi : P.info? e = some i) (hs1 : i.size = 1)
    (b off sLen sCap : Nat) (s : ByteArray) (hroom : sLen + s.size ≤ sCap) (hc : ∀ j, j < s.size → (w.cell? ⟨b, off + sLen + j, none⟩).isSome = true) (hf : ∀ j, j < s.size → w.frozen? ⟨b, off + sLen + j, none⟩ = false) :
    (Builtin.append_ #[t, u] ty #[.slice (some ⟨b, off, none⟩) sLen sCap, .string s]).run P w = .ok (.slice (some ⟨b, off, none⟩) (sLen + s.size) sCap) (w.setCells b (off + sLen) (Lib.strCells s)) := by
  have hfc := Lib.run_firstCells_string (P := P) w 1 s
  have hst := run_storeCells_cells (P := P) b (off + sLen) (Lib.strCells s) 0 w (by simpa [Lib.strCells_length] using hc) (by simpa [Lib.strCells_length] using hf) (Lib.strCells_oneCell s)
  simp only [Nat.add_zero] at hst
  simp [Builtin.append_, run_underlying ht, run_underlying hu, sizeOf, typeInfo, hi, hs1, Builtin.lenOf, hroom, hfc, Addr.add_lit, hst]
theorem run_append_Str (w : World) (t u ty e : TypeId) (E : Elem P t e 1 1) (hu : P.underlying u = some .string) (v : Value) (xs : List Value) (hown : Own w 0 e 1 v xs) (s : ByteArray) (h63 : xs.length + s.size ≤ 140737488355328) :
    ∃ v' w', (Builtin.append_ #[t, u] ty #[v, .string s]).run P w = .ok v' w' ∧ Own w' 0 e 1 v' (xs ++ Lib.strCells s) ∧ w.grownBy w' v.ownBlock ∧ (v'.ownBlock = v.ownBlock ∨ v'.ownBlock = some w.heap.size) := by
  obtain ⟨ht, ⟨i, z, hi, hz, hsize, hby, hzs⟩, hpos⟩ := E
  have hsl := Lib.strCells_length s
  have grown : ∀ (old n : Nat), xs.length = n → old < n + s.size →
      Own (w.drew.alloc (.cells (xs.toArray ++ (Lib.strCells s).toArray ++ Builtin.zeroCells z.cells (grownCap w (n + s.size) old e - (n + s.size))) e)) 0 e 1
        (.slice (some ⟨w.heap.size, 0, none⟩) (n + s.size) (grownCap w (n + s.size) old e)) (xs ++ Lib.strCells s) := by
    intro old n hx ho
    have hge := grownCap_ge w (n + s.size) old e
    have hcm : grownCap w (n + s.size) old e ≤ maxLen := grownCap_le_maxLen w (n + s.size) old e (by unfold maxLen; omega)
    refine .inr ⟨w.heap.size, 0, n + s.size, _, _, rfl, by rw [List.length_append, hx, hsl]; omega, Nat.zero_le _, .of (heap_alloc_new w.drew _), hge, hcm, ?_, ?_⟩
    · simp only [Array.size_append, List.size_toArray, size_zeroCells, hzs, hx, hsl]
      omega
    · intro j u hu
      rw [Nat.zero_add, Array.getElem?_append_left (by
        have := (List.getElem?_eq_some_iff.1 hu).1
        simpa using this)]
      simpa using hu
  rcases hown with ⟨rfl, rfl⟩ | ⟨g, off, n, cap, cs, rfl, a1, hb, hg, hnc, hc, hsz, hcs⟩
  · by_cases h0 : s.size = 0
    · have hn : Lib.strCells s = [] := List.eq_nil_of_length_eq_zero (by rw [hsl]; exact h0)
      refine ⟨.slice none 0 0, w, ?_, .inl ⟨rfl, by rw [hn]; rfl⟩, World.grownBy.refl w _, .inl rfl⟩
      have hfc := Lib.run_firstCells_string (P := P) w 1 s
      rw [h0] at hfc
      simp [Builtin.append_, run_underlying ht, run_underlying hu, sizeOf, typeInfo, hi, hsize, Builtin.lenOf, h0, hfc, storeCells]
    · have hr := run_append_nil_string (P := P) w t u ty e i z ht hu hi hz s (by omega) (by simp at h63; omega) (by simp at h63; rw [hby]; omega)
      have hgr := grown 0 0 rfl (by omega)
      have he : s.data.map (fun b => Value.int .u8 b.toNat) = (Lib.strCells s).toArray := by unfold Lib.strCells; apply Array.ext'; simp
      simp only [Nat.zero_add, Array.empty_append] at hgr
      rw [he] at hr
      refine ⟨_, _, hr, ?_, ⟨rfl, rfl, rfl, by simp, fun k hk _ => Below.heap_alloc w.drew _ k hk⟩, .inr rfl⟩
      simpa using hgr
  · have hn : n = xs.length := by omega
    by_cases hroom : n + s.size ≤ cap
    · have hr := run_append_room_str (P := P) w t u ty e i ht hu hi hsize g off n cap s hroom
        (fun j hj => by rw [hg.cell, Array.getElem?_eq_getElem (by omega)]; rfl)
        (fun j hj => hg.free (by omega))
      obtain ⟨fz, hg0, hfz⟩ := id hg
      obtain ⟨cs', c1, c2, c3, c4⟩ := setCells_block g e fz (Lib.strCells s) (off + n) w cs hg0
      refine ⟨_, _, hr, .inr ⟨g, off, n + s.size, cap, cs', rfl, by rw [List.length_append, hsl]; omega, hb, ⟨fz, c1, by rw [c2]; exact hfz⟩, hroom, hc, by rw [c2]; exact hsz, fun j u hu => ?_⟩, setCells_grown w g _ _, .inl rfl⟩
      by_cases hj : j < xs.length
      · rw [List.getElem?_append_left hj] at hu
        rw [c3 _ (by omega)]
        exact hcs j u hu
      · rw [List.getElem?_append_right (by omega)] at hu
        have := c4 (by rw [hsl]; omega) (j - xs.length) u hu
        rwa [show off + n + (j - xs.length) = off + j by omega] at this
    · have hr := Lib.run_append_grow_string (P := P) w t u ty e i z ht hu hi hz ⟨g, off, none⟩ n cap xs (by rw [hsize]; omega) (fun j u hu => by rw [Addr.add_lit, hg.cell]; exact hcs j u hu) s (by omega) (by omega)
        (growslice_fits (by omega) (by rw [hby]; omega))
      exact ⟨_, _, hr, grown cap n hn.symm (by omega), ⟨rfl, rfl, rfl, by simp, fun k hk _ => Below.heap_alloc w.drew _ k hk⟩, .inr rfl⟩
end
section
variable {P : Program} {W : World} {M T E : Nat → Prop} {n : Nat} {G G' : List (Nat × Value)} {D D' : List Res} {F F' : List Fact} {a : Act} {w w' : World} {K : Act → World → Prop}
theorem y_shl {d : Option Nat} {t t' : TypeId} {x y : Operand} {ty : TypeId} {pos : String} {af : Array Edge} {g : Option (Nat × Bool)} {k k' : IntKind} {p q : Int} (hS : St W M T n G D F a w) (hx : ev G x = some (.int k p)) (hy : ev G y = some (.int k' q)) (hq : decide (0 ≤ q) = true) : Ye P ⟨d, .binOp .shl t x y t', ty, pos, af, g⟩ a E w (.int k (shlI k p q)) :=
  Ye.of fun w => by
    have h1 := hS.ev hx
    have h2 := hS.ev hy
    have h3 : ¬ q < 0 := by have := of_decide_eq_true hq; omega
    simp [execOp, h1, h2, eqGuard, binOp, Op.shift, h3, shlI]
theorem y_shr {d : Option Nat} {t t' : TypeId} {x y : Operand} {ty : TypeId} {pos : String} {af : Array Edge} {g : Option (Nat × Bool)} {k k' : IntKind} {p q : Int} (hS : St W M T n G D F a w) (hx : ev G x = some (.int k p)) (hy : ev G y = some (.int k' q)) (hq : decide (0 ≤ q) = true) : Ye P ⟨d, .binOp .shr t x y t', ty, pos, af, g⟩ a E w (.int k (shrI k p q)) :=
  Ye.of fun w => by
    have h1 := hS.ev hx
    have h2 := hS.ev hy
    have h3 : ¬ q < 0 := by have := of_decide_eq_true hq; omega
    simp [execOp, h1, h2, eqGuard, binOp, Op.shift, h3, shrI]
/-- append of a string's bytes -/
theorem k_appstr {xs : List Int} {s : ByteArray} {d : Nat} {ty t u e : TypeId} {X Y : Operand} {pos : String} {af : Array Edge} {g : Option (Nat × Bool)} {v : Value} {cl : List Value} (hS : St W M T n G D F a w) (he : elI P t = some (e, 1, 1)) (hu : P.underlying u = some .string) (hs : ev G X = some v) (hx : ev G Y = some (.string s)) (i : Nat) (hi : D[i]? = some (.own v e (Rep.int .u8).size cl)) (p : Nat) (hp : F[p]? = some (RowsF (Rep.int .u8) cl xs)) (hroom : roomB (xs.length + s.size) = true) (hn : Nat.blt d n = true)
    (k : ∀ v' cl' a w', Kt (fun j => v.ownBlock = some j) w w' → St W M T n ((d, v') :: G) (D.set i (.own v' e (Rep.int .u8).size cl')) (RowsF (Rep.int .u8) cl' (xs ++ bytesI s) :: F) a w' → K a w') : OpK P ⟨some d, .call { callee := .builtin .append, args := #[X, Y], argTypes := #[t, u] }, ty, pos, af, g⟩ a w K := fun K' Q hK => by
  obtain ⟨hown, hsz⟩ := hS.own _ (List.mem_of_getElem? hi)
  have hown : Own w 0 e 1 v cl := hown
  have hrow : RowsOk (Rep.int .u8) (dT T D) w cl xs := hS.get p hp
  have h1 : xs.length + s.size ≤ 4294967296 := roomB_le hroom
  have hl : cl.length = xs.length := by have := hrow.1; simpa [Rep.int] using this
  obtain ⟨v', w', hrun, h2, h3, h4⟩ := run_append_Str (P := P) w t u ty e (elI_el he) hu v cl hown s (by omega)
  have e1 := hS.ev hs
  have e2 := hS.ev hx
  unfold Oper.wp execOp
  simp only [resolve, invoke, builtin, Sem.run_bind, Sem.run_pure, Result.andThen_ok, List.map_toArray, List.map_cons, List.map_nil, e1, e2, hrun]
  have hk := Kt.grown h3
  have hd : ∀ j, v'.ownBlock = some j → v.ownBlock = some j ∨ w.heap.size ≤ j := fun j hj => by
    rcases h4 with h4 | h4
    · exact .inl (h4 ▸ hj)
    · rw [h4] at hj; injection hj with hj; exact .inr (by omega)
  have h5 := hS.fact (RowsF (Rep.int .u8) (cl ++ Lib.strCells s) (xs ++ bytesI s)) (hrow.append (by rw [strCells_I]; exact rows_bytes _ _ _))
  exact hK _ _ (k v' (cl ++ Lib.strCells s) _ w' hk ((h5.turn hi (r' := .own v' e (Rep.int .u8).size (cl ++ Lib.strCells s)) hk ⟨h2, hsz⟩ hd).put hn v'))
/-- a string's bytes, in a row of the call's own -/
theorem k_s2b {s : ByteArray} {d : Nat} {src t e ty : TypeId} {x : Operand} {pos : String} {af : Array Edge} {g : Option (Nat × Bool)} (hS : St W M T n G D F a w) (hx : ev G x = some (.string s)) (hs : P.underlying src = some .string) (ht : P.underlying t = some (.slice e)) (he : P.underlying e = some (.int .u8)) (hroom : roomB s.size = true) (hn : Nat.blt d n = true)
    (k : ∀ v cl a w', Kt No w w' → St W M T n ((d, v) :: G) (.own v e (Rep.int .u8).size cl :: D) (RowsF (Rep.int .u8) cl (bytesI s) :: F) a w' → K a w') : OpK P ⟨some d, .convert src t x, ty, pos, af, g⟩ a w K := by
  have h1 : s.size ≤ 4294967296 := roomB_le hroom
  have hrun : (execOp a.eval ⟨some d, .convert src t x, ty, pos, af, g⟩).run P w = .ok (.value (.slice (some ⟨w.heap.size, 0, none⟩) s.size (grownCap w s.size 0 e))) (Lib.bytesWorld w e s) := by
    have := Lib.run_convert_string_bytes (P := P) w src t e s hs ht he
    simp [execOp, hS.ev hx, this]
  have hge := grownCap_ge w s.size 0 e
  have hcm : grownCap w s.size 0 e ≤ maxLen := grownCap_le_maxLen w s.size 0 e (by unfold maxLen; omega)
  have hk : Kt No w (Lib.bytesWorld w e s) := Kt.ofBelow (Go.Joins.below_bytesWorld _ _ _ _ (Nat.le_refl _))
  have hsz : (Lib.bytesCells w e s).size = grownCap w s.size 0 e := by
    unfold Lib.bytesCells
    simp only [Array.size_append, Array.size_map, Array.size_replicate]
    have : s.data.size = s.size := rfl
    omega
  have hown : Own (Lib.bytesWorld w e s) 0 e (Rep.int .u8).size (.slice (some ⟨w.heap.size, 0, none⟩) s.size (grownCap w s.size 0 e)) (Lib.strCells s) := by
    refine .inr ⟨w.heap.size, 0, s.size, _, Lib.bytesCells w e s, rfl, by rw [Lib.strCells_length]; exact (Nat.mul_one _).symm, Nat.zero_le _, ⟨_, Lib.bytesWorld_at_new w e s, .inr (Nat.le_refl _)⟩, hge, hcm, by rw [hsz]; show 0 + _ * 1 ≤ _; omega, fun j u hu => ?_⟩
    have hj := (List.getElem?_eq_some_iff.1 hu).1
    rw [Lib.strCells_length] at hj
    unfold Lib.bytesCells
    rw [Nat.zero_add, Array.getElem?_append_left (by simpa using hj)]
    unfold Lib.strCells at hu
    rw [List.getElem?_map] at hu
    simpa using hu
  have h2 := hS.fact (RowsF (Rep.int .u8) (Lib.strCells s) (bytesI s)) (by rw [strCells_I]; exact rows_bytes _ _ _)
  exact kval hrun (k _ _ _ _ hk ((h2.add hk (.own _ e (Rep.int .u8).size (Lib.strCells s)) ⟨hown, by decide⟩ (fun j hj => by simp only [Res.dom, Value.ownBlock, Option.some.injEq] at hj; omega)).put hn _))
theorem foldl_push : ∀ (ns : List Int) (r : ByteArray), ns.foldl (fun r n => r.push (UInt8.ofNat n.toNat)) r = ⟨r.data ++ (ns.map fun n => UInt8.ofNat n.toNat).toArray⟩
  | [], r => by simp
  | n :: ns, r => by
    rw [List.foldl_cons, foldl_push ns]
    apply ByteArray.ext
    simp [ByteArray.push]
theorem b2s_run (w : World) (A : Option Addr) (m c : Nat) (xs : List Int) (hm : m = xs.length) (hat : At w A (xs.map (Value.int .u8))) : (Conv.bytesToString (.slice A m c)).run P w = .ok (.string (strI xs)) w := by
  rcases hat with h | ⟨b, off, rfl, h⟩
  · have : xs = [] := by simpa using h
    subst this
    have hm : m = 0 := hm
    subst hm
    cases A <;> simp [Conv.bytesToString, loadCells, loadCellsFrom, strI, Sem.run_pure] <;> rfl
  · have hl := run_loadCells_list (P := P) w ⟨b, off, none⟩ (xs.map (Value.int .u8)) (fun j u hu => by rw [Addr.add_lit]; exact h j u hu)
    rw [List.length_map, ← hm] at hl
    rw [run_bytesToString w ⟨b, off, none⟩ m c xs hl, foldl_push]
    simp [strI]
/-- bytes of the call's own, as a string -/
theorem y_b2so {d : Option Nat} {s t e e' : TypeId} {x : Operand} {ty : TypeId} {pos : String} {af : Array Edge} {g : Option (Nat × Bool)} {v : Value} {cl : List Value} {xs : List Int} (hS : St W M T n G D F a w) (hx : ev G x = some v) (hs : P.underlying s = some (.slice e)) (he : P.underlying e = some (.int .u8)) (ht : P.underlying t = some .string) (i : Nat) (hi : D[i]? = some (.own v e' (Rep.int .u8).size cl)) (j : Nat) (hj : F[j]? = some (RowsF (Rep.int .u8) cl xs)) (hE : ∀ k, v.ownBlock = some k → ¬ E k) : Ye P ⟨d, .convert s t x, ty, pos, af, g⟩ a E w (.string (strI xs)) := fun w' hk => by
  obtain ⟨hown, hsz⟩ := hS.own _ (List.mem_of_getElem? hi)
  have hrow : RowsOk (Rep.int .u8) (dT T D) w cl xs := hS.get j hj
  have hcl := rows_bytes_eq hrow
  have h1 : ∃ A m c, v = .slice A m c ∧ m = xs.length ∧ At w' A (xs.map (Value.int .u8)) := by
    rcases hown with ⟨rfl, h0⟩ | ⟨g, off, m, cap, cs, rfl, a1, hb, hg, hnc, hc, hsz2, hcs⟩
    · have hz : xs = [] := by rw [h0] at hcl; simpa using hcl.symm
      exact ⟨none, 0, 0, rfl, by rw [hz]; rfl, .inl (by rw [hz]; rfl)⟩
    · have hg' := hg.eqb (hk.block g hg.lt (hE g rfl))
      refine ⟨_, _, _, rfl, ?_, .inr ⟨g, off, rfl, fun j u hu => ?_⟩⟩
      · have : (Rep.int .u8).size = 1 := rfl
        have := congrArg List.length hcl
        simp at this; simp only [Rep.int] at a1; omega
      · rw [hg'.cell]
        exact hcs j u (by rw [hcl]; exact hu)
  obtain ⟨A, m, c, rfl, hm, hat⟩ := h1
  have := b2s_run (P := P) w' A m c xs hm hat
  simp [execOp, hS.ev hx, convert, run_underlying hs, run_underlying he, run_underlying ht, this]
/-- bytes that nobody turns, as a string -/
theorem y_b2s {d : Option Nat} {s t e : TypeId} {x : Operand} {ty : TypeId} {pos : String} {af : Array Edge} {g : Option (Nat × Bool)} {v : Value} {xs : List Int} (hS : St W M T n G D F a w) (hx : ev G x = some v) (hs : P.underlying s = some (.slice e)) (he : P.underlying e = some (.int .u8)) (ht : P.underlying t = some .string) (i : Nat) (hi : F[i]? = some (SlF (Rep.int .u8) v xs)) (hE : ∀ j, E j → dT T D j ∨ w.heap.size ≤ j) : Ye P ⟨d, .convert s t x, ty, pos, af, g⟩ a E w (.string (strI xs)) := fun w' hk => by
  have hsl : SlR (Rep.int .u8) (dT T D) w v xs := hS.get i hi
  have hk2 : Kt (dT T D) w w' := ⟨hk.os, hk.tape, hk.output, hk.size, fun k hlt hn => hk.block k hlt fun he => (hE k he).elim hn fun h => by omega⟩
  have hsl' : SlR (Rep.int .u8) (dT T D) w' v xs := hsl.keep hk2 (Nw.refl _ _)
  obtain ⟨A, c, rfl, _⟩ := id hsl'
  obtain ⟨_, cl, hat, hr⟩ := hsl'.rows (by decide)
  rw [rows_bytes_eq hr] at hat
  have := b2s_run (P := P) w' A _ c xs rfl hat
  simp [execOp, hS.ev hx, convert, run_underlying hs, run_underlying he, run_underlying ht, this]
end
end Go.Proofs.YtjoilbmkcknnfaaDoor
