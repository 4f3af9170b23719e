/- A frame for walks: closures over variables that do not turn any more; rows that are handed over; windows of an own row; clear. -/
import Derived.Test.YtjoilbmkcknnfaaDoorGB
set_option linter.unusedVariables false
set_option linter.unusedSimpArgs false
namespace Go.Proofs.YtjoilbmkcknnfaaDoor
open Go.RowKit

def AndF (f g : Fact) : Fact := ⟨fun T w => f.p T w ∧ g.p T w, fun h k n => ⟨f.keep h.1 k n, g.keep h.2 k n⟩⟩
def TrueF : Fact := ⟨fun _ _ => True, fun _ _ _ => trivial⟩
/-- v' is the part of the own slice v from lo to hi -/
def Win (sz : Nat) (v v' : Value) (lo hi n : Nat) : Prop := ∃ A c, v = .slice A n c ∧ n ≤ c ∧ lo ≤ hi ∧ hi ≤ n ∧ v' = .slice (if c = lo then A else A.map (·.add (lo * sz))) (hi - lo) (c - lo)
def WinF (sz : Nat) (v v' : Value) (lo hi n : Nat) : Fact := ⟨fun _ _ => Win sz v v' lo hi n, fun h _ _ => h⟩
section
variable {P : Program} {W : World} {M T E : Nat → Prop} {n : Nat} {G G' : List (Nat × Value)} {D D' D0 Dr rs : List Res} {F F' : List Fact} {a : Act} {w w' : World} {K : Act → World → Prop}
theorem y_mkfunc {d : Option Nat} {f : Nat} {caps : Array Operand} {ty : TypeId} {pos : String} {af : Array Edge} {g : Option (Nat × Bool)} {vs : List Value} (hS : St W M T n G D F a w) (hv : evs G caps.toList = some vs) :
    Ye P ⟨d, .makeFunc (.func f) #[] caps, ty, pos, af, g⟩ a E w (.func (.func f) #[] vs.toArray) :=
  Ye.of fun w => by
    have h1 : (caps.map a.eval) = vs.toArray := by
      apply Array.toList_inj.1
      rw [Array.toList_map, hS.evs hv]
    simp [execOp, Instr.makeFunc, h1]
/-- a variable that does not turn any more -/
theorem St.freezeBox {b : Nat} {cs : List Value} {t : TypeId} (h : St W M T n G D F a w) (i : Nat) (hi : D[i]? = some (.box b cs t)) : St W M T n G (D.eraseIdx i) (CellsF b 0 cs :: F) a w := by
  have hlt := (List.getElem?_eq_some_iff.1 hi).1
  have hD := (List.getElem?_eq_some_iff.1 hi).2
  have ho : w.heap[b]? = some (.cells cs.toArray t (0, 0)) := h.own _ (List.mem_of_getElem? hi)
  refine (h.drop i).fact _ ⟨fun hT => ?_, (Array.getElem?_eq_some_iff.1 ho).1, fun j u hu => ?_⟩
  · rcases hT with hT | ⟨s, hs, hT⟩
    · exact (h.free _ (List.mem_of_getElem? hi) b rfl).1 hT
    · obtain ⟨z, hz⟩ := List.mem_iff_getElem?.1 hs
      rw [List.getElem?_eraseIdx] at hz
      split at hz
      · rename_i hzi
        have hzl := (List.getElem?_eq_some_iff.1 hz).1
        have := List.pairwise_iff_getElem.1 h.apart z i hzl hlt hzi b (by rw [(List.getElem?_eq_some_iff.1 hz).2]; exact hT)
        rw [hD] at this; exact this rfl
      · rename_i hzi
        have hzl := (List.getElem?_eq_some_iff.1 hz).1
        have := List.pairwise_iff_getElem.1 h.apart i (z + 1) hlt hzl (by omega) b (by rw [hD]; rfl)
        rw [(List.getElem?_eq_some_iff.1 hz).2] at this; exact this hT
  · rw [Nat.zero_add, (Row.of ho).cell]
    simpa using hu
/-- a part of an own row, which stays own: where it lies -/
theorem d_win {α : Type} {R : Rep α} {xs ys : List α} {e e' t : TypeId} {v : Value} {cl : List Value} {lo hi : Int} {ag : Bool} (hS : St W M T n G D F a w) (ht : isSl P t = some e) (he : tyI P e = some (ag, R.size)) (q : Nat) (hq : D[q]? = some (.own v e' R.size cl)) (j : Nat) (hj : F[j]? = some (RowsF R cl xs)) (hg : subI xs lo hi = some ys) :
    ∃ v', (∀ (T : Nat → Prop) (w : World), SlR R T w v xs → SlR R T w v' ys) ∧ Win R.size v v' lo.toNat hi.toNat xs.length ∧ (∀ {E : Nat → Prop} {d : Option Nat} {ty : TypeId} {X : Operand} {olo ohi : Option Operand} {pos : String} {af : Array Edge} {g : Option (Nat × Bool)} {k1 k2 : IntKind}, ev G X = some v → ((∃ x, olo = some x ∧ ev G x = some (.int k1 lo)) ∨ (olo = none ∧ lo = 0)) → ((∃ x, ohi = some x ∧ ev G x = some (.int k2 hi)) ∨ (ohi = none ∧ hi = xs.length)) → Ye P ⟨d, .slice t X olo ohi none, ty, pos, af, g⟩ a E w v') := by
  obtain ⟨q1, q2, q3, rfl⟩ := subI_some hg
  obtain ⟨A, c, hv, h1, h2, hS'⟩ := subo (lo := lo.toNat) (hi := hi.toNat) hS q hq j hj (by omega) (by omega)
  refine ⟨_, fun T w h => ?_, ⟨A, c, hv, h1, by omega, by omega, rfl⟩, fun hX hlo hhi => y_sl hS ht he q1 q2 q3 h1 hv hX hlo hhi⟩
  subst hv
  refine h.cut (by omega) (by omega) _ (fun hlt b o hA => ?_)
  rw [if_neg (by omega), hA]
  simp [addr_add]
/-- some cells of an own row are set -/
theorem Own.mid {e : TypeId} {sz : Nat} {v : Value} {cl us : List Value} {B : Nat} (h : Own w B e sz v cl) (o : Nat) (hl : o + us.length ≤ cl.length) (hpos : 0 < us.length) :
    ∃ g off m c cs, v = .slice (some ⟨g, off, none⟩) m c ∧ cl.length = m * sz ∧ m ≤ c ∧ Row w g cs e ∧ off + c * sz ≤ cs.size ∧ Own (w.setCells g (off + o) us) B e sz v (setL cl o us) ∧ (∀ j, j < us.length → (w.cell? ⟨g, off + o + j, none⟩).isSome = true) ∧ (∀ j, j < us.length → w.frozen? ⟨g, off + o + j, none⟩ = false) := by
  rcases h with ⟨_, rfl⟩ | ⟨g, off, m, c, cs, rfl, h1, hb, hg, hmc, hc, hsz, hcs⟩
  · simp only [List.length_nil] at hl; omega
  have hmz : m * sz ≤ c * sz := Nat.mul_le_mul_right _ hmc
  refine ⟨g, off, m, c, cs, rfl, h1, hmc, hg, hsz, ?_, fun j hj => ?_, fun j hj => hg.free (by omega)⟩
  · obtain ⟨fz, hg1, hfz⟩ := hg
    obtain ⟨cs', a1, a2, a3, a4⟩ := setCells_block g e fz us (off + o) w cs hg1
    refine .inr ⟨g, off, m, c, cs', rfl, ?_, hb, ⟨fz, a1, by rw [a2]; exact hfz⟩, hmc, hc, by rw [a2]; exact hsz, fun j u hu => ?_⟩
    · unfold setL; simp only [List.length_append, List.length_take, List.length_drop]; omega
    · rw [setL_get _ _ _ _ hl] at hu
      split at hu
      · rename_i hj
        have := a4 (by omega) _ u hu
        rwa [show off + o + (j - o) = off + j by omega] at this
      · rename_i hj
        rw [a3 _ (by omega)]; exact hcs j u hu
  · rw [hg.cell, Array.getElem?_eq_getElem (by omega)]; rfl
theorem own_len_of {α : Type} {R : Rep α} {T : Nat → Prop} {w : World} {B : Nat} {e : TypeId} {v : Value} {cl : List Value} {xs : List α} {A : Option Addr} {m c : Nat} (h : Own w B e R.size v cl) (hs : 0 < R.size) (hr : RowsOk R T w cl xs) (hv : v = .slice A m c) : m = xs.length := by
  rcases h with ⟨rfl, rfl⟩ | ⟨g, off, m', c', cs, rfl, h1, _⟩
  · injection hv with _ e2 _
    have := hr.1
    rw [← e2]
    cases xs with
    | nil => rfl
    | cons x r => simp [Nat.add_mul] at this; omega
  · injection hv with _ e2 _
    subst e2
    exact Nat.mul_right_cancel hs (h1.symm.trans hr.1)
theorem RowsOk.mid {α : Type} {R : Rep α} {T : Nat → Prop} {w : World} {cl us : List Value} {xs ys : List α} (h : RowsOk R T w cl xs) (k : RowsOk R T w us ys) {lo : Nat} (hl : lo + ys.length ≤ xs.length) : RowsOk R T w (setL cl (lo * R.size) us) (xs.take lo ++ ys ++ xs.drop (lo + ys.length)) := by
  have h1 := h.cut (Nat.zero_le lo) (by omega)
  have h2 := h.cut hl (Nat.le_refl _)
  rw [Nat.zero_mul, List.drop_zero, List.drop_zero] at h1
  rw [List.take_length, List.take_of_length_le (by rw [h.1]; exact Nat.le_refl _)] at h2
  have h3 := (h1.append k).append h2
  unfold setL
  rw [k.1, ← Nat.add_mul]
  exact h3
theorem zeroCells_flat (z : Value) : ∀ m : Nat, (Builtin.zeroCells z.cells m).toList = (List.replicate m z.cells.toList).flatten := by
  intro m
  rw [← made_flat]
  simp [Builtin.zeroCells, madeCells]
/-- the cells of a window are set to their zero -/
theorem k_clear {α : Type} {R : Rep α} {z0 : α} {xs : List α} {ty t e : TypeId} {x : Operand} {pos : String} {af : Array Edge} {g : Option (Nat × Bool)} {bt lo hi : Nat} {v v' : Value} {cl zs : List Value} (hS : St W M T n G D F a w) (he : elI P t = some (e, R.size, bt)) (hz : zeroI P e = some zs) (hx : ev G x = some v') (i : Nat) (hi_ : D[i]? = some (.own v e R.size cl)) (p : Nat) (hp : F[p]? = some (RowsF R cl xs)) {m0 : Nat} (hw : Win R.size v v' lo hi m0) (hr : R.rel (dT T D) w zs z0)
    (k : ∀ cl' w', Kt (fun j => v.ownBlock = some j) w w' → St W M T n G (D.set i (.own v e R.size cl')) (RowsF R cl' (xs.take lo ++ List.replicate (hi - lo) z0 ++ xs.drop hi) :: F) a w' → K a w') : OpK P ⟨none, .call { callee := .builtin .clear, args := #[x], argTypes := #[t] }, ty, pos, af, g⟩ a w K := by
  obtain ⟨hown, hsz⟩ := hS.own _ (List.mem_of_getElem? hi_)
  have hrow : RowsOk R (dT T D) w cl xs := hS.get p hp
  obtain ⟨A, c, hv, hnc, hlh, hhn, hv'⟩ := hw
  obtain rfl : m0 = xs.length := own_len_of hown hsz hrow hv
  obtain ⟨ht, _⟩ := elI_el he
  obtain ⟨z, hzl, hzr⟩ := zeroI_run hz w
  have hx' := hS.ev hx
  by_cases h0 : hi - lo = 0
  · have h1 : (execOp a.eval ⟨none, .call { callee := .builtin .clear, args := #[x], argTypes := #[t] }, ty, pos, af, g⟩).run P w = .ok (.value (.tuple #[])) w := by
      rw [h0] at hv'
      subst hv'
      simp only [execOp, resolve, invoke, builtin]
      generalize (if c = lo then A else A.map (·.add (lo * R.size))) = A' at hx' 
      cases A' <;> simp [Builtin.clear_, hx', run_underlying ht]
    refine kval h1 (k cl w (Kt.refl _ _) ?_)
    rw [h0]
    have e1 : xs.take lo ++ List.replicate 0 z0 ++ xs.drop hi = xs := by
      rw [List.replicate_zero, List.append_nil, show hi = lo by omega, List.take_append_drop]
    rw [e1]
    have h2 := (hS.fact (RowsF R cl xs) hrow).turn hi_ (w' := w) (Kt.refl _ _) (r' := .own v e R.size cl) ⟨hown, hsz⟩ (fun j hj => .inl hj)
    exact h2
  · have hrows := RowsOk.rep hr (hi - lo)
    have hlen := hrows.1
    rw [List.length_replicate] at hlen
    have hclen := hrow.1
    have q1 : lo * R.size + (hi - lo) * R.size ≤ cl.length := by
      rw [hclen, ← Nat.add_mul]; exact Nat.mul_le_mul_right _ (by omega)
    have q2 : 0 < (hi - lo) * R.size := Nat.mul_pos (by omega) hsz
    obtain ⟨gb, off, m, c', cs, hv2, h1, hmc, hg, hcs, hown', hcell, hfree⟩ := hown.mid (us := (List.replicate (hi - lo) zs).flatten) (lo * R.size) (by rw [hlen]; exact q1) (by rw [hlen]; exact q2)
    have hrow' := hrow.mid hrows (lo := lo) (by rw [List.length_replicate]; omega)
    rw [List.length_replicate, show lo + (hi - lo) = hi by omega] at hrow'
    rw [hv] at hv2
    injection hv2 with e1 e2 e3
    subst e1 e2 e3
    have hA : (if c = lo then (some ⟨gb, off, none⟩ : Option Addr) else (some (⟨gb, off, none⟩ : Addr)).map (·.add (lo * R.size))) = some ⟨gb, off + lo * R.size, none⟩ := by
      rw [if_neg (by omega)]; simp [addr_add]
    rw [hA] at hv'
    subst hv'
    have hst := run_storeCells_cells (P := P) gb (off + lo * R.size) (List.replicate (hi - lo) zs).flatten 0 w (by simpa using hcell) (by simpa using hfree) (hrows.cell hsz)
    simp only [Nat.add_zero] at hst
    have hzc : (Builtin.zeroCells z.cells (hi - lo)).toList = (List.replicate (hi - lo) zs).flatten := by rw [zeroCells_flat, hzl]
    have h1 : (execOp a.eval ⟨none, .call { callee := .builtin .clear, args := #[x], argTypes := #[t] }, ty, pos, af, g⟩).run P w = .ok (.value (.tuple #[])) (w.setCells gb (off + lo * R.size) (List.replicate (hi - lo) zs).flatten) := by
      obtain ⟨m', hm'⟩ : ∃ m', hi - lo = m' + 1 := ⟨hi - lo - 1, by omega⟩
      rw [hm'] at hx' hzc hst ⊢
      simp [execOp, resolve, invoke, builtin, Builtin.clear_, hx', run_underlying ht, hzr, hzc, hst]
    subst hv
    have hkt : Kt (fun j => (Value.slice (some ⟨gb, off, none⟩) xs.length c).ownBlock = some j) w (w.setCells gb (off + lo * R.size) (List.replicate (hi - lo) zs).flatten) := (Kt.setCells _ _ _ _).mono fun j h => by rw [h]; rfl
    refine kval h1 (k (setL cl (lo * R.size) (List.replicate (hi - lo) zs).flatten) _ hkt ?_)
    exact (hS.fact (RowsF R _ _) hrow').turn hi_ hkt (r' := .own (.slice (some ⟨gb, off, none⟩) xs.length c) e R.size (setL cl (lo * R.size) (List.replicate (hi - lo) zs).flatten)) ⟨hown', hsz⟩ (fun j hj => .inl hj)
/-- an element of a window -/
theorem d_indexw {α : Type} {R : Rep α} {xs : List α} {x : α} {t e e' : TypeId} {v v' : Value} {cl : List Value} {i : Int} {lo hi : Nat} {ag : Bool} (hS : St W M T n G D F a w) (ht : isSl P t = some e) (he : tyI P e = some (ag, R.size)) (q : Nat) (hq : D[q]? = some (.own v e' R.size cl)) (j : Nat) (hj : F[j]? = some (RowsF R cl xs)) {m0 : Nat} (hw : Win R.size v v' lo hi m0) (h0 : decide (0 ≤ i) = true) (h1 : decide (i < ((hi - lo : Nat) : Int)) = true) (hg : getI xs ((lo : Int) + i) = some x) :
    ∃ b o p cs, R.rel (dT T D) w cs x ∧ Oel v b o R.size ((lo : Int) + i) p ∧ (∀ k u, cs[k]? = some u → cl[p + k]? = some u) ∧ (∀ {E : Nat → Prop} {d : Option Nat} {ty : TypeId} {X Y : Operand} {pos : String} {af : Array Edge} {g : Option (Nat × Bool)} {k : IntKind}, ev G X = some v' → ev G Y = some (.int k i) → Ye P ⟨d, .indexAddr t X Y, ty, pos, af, g⟩ a E w (.pointer (some ⟨b, o, none⟩))) := by
  obtain ⟨b, off, c, rfl, cs, g1, g2⟩ := own_get hS q hq j hj hg
  have h0 := of_decide_eq_true h0
  have h1 := of_decide_eq_true h1
  obtain ⟨A, c2, hv, hnc, hlh, hhn, rfl⟩ := hw
  injection hv with e1 e2 e3
  subst e1 e2 e3
  have hA : (if c = lo then (some ⟨b, off, none⟩ : Option Addr) else (some (⟨b, off, none⟩ : Addr)).map (·.add (lo * R.size))) = some ⟨b, off + lo * R.size, none⟩ := by
    rw [if_neg (by omega)]; simp [addr_add]
  rw [hA]
  have he2 : off + ((lo : Int) + i).toNat * R.size = off + lo * R.size + i.toNat * R.size := by
    rw [show ((lo : Int) + i).toNat = lo + i.toNat by omega, Nat.add_mul]; omega
  refine ⟨b, off + ((lo : Int) + i).toNat * R.size, _, cs, g1, ⟨off, _, _, rfl, rfl, rfl⟩, g2, fun hX hY => Ye.of fun w => ?_⟩
  rw [he2]
  simp [execOp, hS.ev hX, hS.ev hY, run_indexAt ht he h0 h1]
/-- how long a window is -/
theorem y_lenw {d : Option Nat} {x : Operand} {t e : TypeId} {ty : TypeId} {pos : String} {af : Array Edge} {g : Option (Nat × Bool)} {sz : Nat} {v v' : Value} {lo hi m : Nat} (hS : St W M T n G D F a w) (ht : isSl P t = some e) (hx : ev G x = some v') (hw : Win sz v v' lo hi m) :
    Ye P ⟨d, .call { callee := .builtin .len, args := #[x], argTypes := #[t] }, ty, pos, af, g⟩ a E w (.int .i64 ((hi - lo : Nat) : Int)) := by
  obtain ⟨A, c2, hv, hnc, hlh, hhn, rfl⟩ := hw
  exact y_lenv hS ht hx ⟨_, _, rfl⟩
theorem Fact.dn (f : Fact) {T : Nat → Prop} {w : World} (h : f.p T w) : f.p (dT T []) w := f.keep h (Kt.refl _ _) fun k hk => by
  rcases hk with hk | ⟨r, hr, _⟩
  · exact .inl hk
  · cases hr
end
section
variable {κ ν : Type} {P : Program} {W : World} {M T E : Nat → Prop} {n : Nat} {G G' : List (Nat × Value)} {D D' : List Res} {F F' : List Fact} {a : Act} {w w' : World} {K : Act → World → Prop}
variable {kt et : TypeId} {RK : Rep κ} {ak : Bool} {RV : Rep ν} {av : Bool} {q : κ → κ → Bool} {b clock : Nat} {es : Array MapEntry} {xs : List (κ × ν)}
/-- a key taken out of a map of the call's own -/
theorem k_mdel {t t2 ty : TypeId} {X Y : Operand} {pos : String} {af : Array Edge} {g : Option (Nat × Bool)} (hS : St W M T n G D F a w) (ht : mpI P t = some (kt, et)) (hK : KeyT P kt RK ak q) (i : Nat) (hi : D[i]? = some (.obj b (.map es clock))) (j : Nat) (hj : F[j]? = some (MapF RK ak RV av es xs))
    {c : List Value} {key : κ} (hc : RK.rel (dT T D) w c key) (hX : ev G X = some (.map (some b))) (hY : ev G Y = some (valOf ak c))
    (k : ∀ es' ck' w', Kt (fun j => j = b) w w' → St W M T n G (D.set i (.obj b (.map es' ck'))) (MapF RK ak RV av es' (mdel q key xs) :: F) a w' → K a w') : OpK P ⟨none, .call { callee := .builtin .delete, args := #[X, Y], argTypes := #[t, t2] }, ty, pos, af, g⟩ a w K := by
  have hr : w.heap[b]? = some (.map es clock) := hS.own _ (List.mem_of_getElem? hi)
  have hm := hS.mapOk j hj
  obtain ⟨hl, hkeys⟩ := mapKeys hm
  have hf := find_run hK hc w hl hkeys
  have hch := hK.check es.isEmpty _ _ w _ _ hc
  have fin : ∀ es' ck', (Builtin.delete_ #[t, t2] ty #[.map (some b), valOf ak c]).run P w = .ok (.tuple #[]) { w with heap := w.heap.setIfInBounds b (.map es' ck') } → MapOk RK ak RV av (dT T D) w es' (mdel q key xs) → OpK P ⟨none, .call { callee := .builtin .delete, args := #[X, Y], argTypes := #[t, t2] }, ty, pos, af, g⟩ a w K := fun es' ck' hrun hok => by
    refine kval (w' := { w with heap := w.heap.setIfInBounds b (.map es' ck') }) (v := .tuple #[]) (by simp [execOp, resolve, invoke, builtin, hS.ev hX, hS.ev hY, hrun]) (k es' ck' _ ((set_kt hr).mono fun j hj => (Option.some.inj hj).symm) ?_)
    exact (hS.fact (MapF RK ak RV av es' _) hok).turn hi (set_kt hr) (r' := .obj b (.map es' ck')) (hset hr).1 fun j hj => .inl hj
  cases hp : mpos q key xs with
  | none =>
    obtain ⟨_, _, g3⟩ := mpos_none hp
    rw [hp] at hf
    refine fin es clock ?_ (by rw [g3]; exact hm)
    simp [Builtin.delete_, run_underlying (mpI_und ht), gobj hr, hch, hf, atP, sobj _ hr]
  | some p =>
    obtain ⟨x0, hx0, hq0, _, _, g3⟩ := mpos_some hp
    have hpi : p < es.size := by rw [hm.1]; exact (List.getElem?_eq_some_iff.1 hx0).1
    have he0 : es[p]? = some es[p] := Array.getElem?_eq_getElem hpi
    rw [hp] at hf
    have hat : atP es.toList 0 (some p) = some (p, es[p].val) := by simp [atP, he0]
    rw [hat] at hf
    refine fin (es.eraseIdxIfInBounds p) clock ?_ ⟨?_, fun z e x he hx => ?_⟩
    · simp [Builtin.delete_, run_underlying (mpI_und ht), gobj hr, hch, hf, sobj _ hr]
    · rw [g3]
      have h1 : (es.eraseIdxIfInBounds p).size = es.size - 1 := by simp [Array.eraseIdxIfInBounds, hpi]
      rw [h1, List.length_eraseIdx, if_pos (by rw [← hm.1]; exact hpi), hm.1]
    · rw [g3, List.getElem?_eraseIdx] at hx
      have he2 : (es.eraseIdxIfInBounds p)[z]? = if z < p then es[z]? else es[z + 1]? := by
        simp only [Array.eraseIdxIfInBounds, hpi, dif_pos]
        rw [Array.getElem?_eraseIdx]
      rw [he2] at he
      split at hx
      · rename_i hz
        rw [if_pos hz] at he
        exact hm.2 z e x he hx
      · rename_i hz
        rw [if_neg hz] at he
        exact hm.2 (z + 1) e x he hx
end
end Go.Proofs.YtjoilbmkcknnfaaDoor
