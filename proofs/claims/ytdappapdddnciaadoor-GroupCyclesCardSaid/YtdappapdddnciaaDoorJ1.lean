/- slices.SortFunc of keys, into the row that is handed over. -/
import Derived.Test.YtdappapdddnciaaDoorJ0
import Derived.Test.YtdappapdddnciaaDoorY0
import Derived.Test.YtdappapdddnciaaDoorMB
import Derived.Shelf.SlSortCmp.NoneTotal
import Derived.Lib.RowBridge
set_option linter.unusedVariables false
set_option linter.unusedSimpArgs false
namespace Go.Proofs.YtdappapdddnciaaDoor
open Go.RowKit
open Go.Lib hiding intOf
open Go.Sort (grow grow_grow alloc_eq_grow SWO HoldsK Holds flatK putRowK heap_grow_old)

instance : Inhabited KeyD := ⟨⟨0, ⟨#[]⟩⟩⟩
def encK (k : KeyD) : List Value := [.int .i64 k.Kind, .string k.Text]
/-- keys in order -/
def sortK (xs : List KeyD) : List KeyD := xs.mergeSort fun x y => !ltOf kcmp y x
section
variable {α : Type} [Inhabited α] {enc : α → List Value} {n : Nat}
theorem flatMap_get (hk : ∀ x, (enc x).length = n) (hn : 0 < n) : ∀ (xs : List α) (t : Nat), t < xs.length * n → (xs.flatMap enc)[t]? = some (enc xs[t / n]!)[t % n]!
  | [], t, h => by simp at h
  | x :: r, t, h => by
    rw [List.flatMap_cons]
    by_cases ht : t < n
    · rw [List.getElem?_append_left (by rw [hk]; exact ht), Nat.div_eq_of_lt ht, Nat.mod_eq_of_lt ht]
      have : t < (enc x).length := by rw [hk]; exact ht
      rw [List.getElem?_eq_getElem this]
      simp [this]
    · have h2 : t - n < r.length * n := by simp only [List.length_cons, Nat.add_mul] at h; omega
      rw [List.getElem?_append_right (by rw [hk]; omega), hk, flatMap_get hk hn r (t - n) h2]
      have e1 : t / n = (t - n) / n + 1 := by
        conv => lhs; rw [show t = t - n + n by omega]
        rw [Nat.add_div_right _ hn]
      have e2 : t % n = (t - n) % n := by
        conv => lhs; rw [show t = t - n + n by omega]
        rw [Nat.add_mod_right]
      rw [e1, e2]; simp
omit [Inhabited α] in
theorem flatMap_len (hk : ∀ x, (enc x).length = n) (xs : List α) : (xs.flatMap enc).length = xs.length * n := by
  induction xs with
  | nil => simp
  | cons x r ih => rw [List.flatMap_cons, List.length_append, hk, ih, List.length_cons, Nat.add_mul]; omega
theorem flat_list (hk : ∀ x, (enc x).length = n) (hn : 0 < n) (xs : List α) : (flatK enc n xs.toArray).toList = xs.flatMap enc := by
  refine List.ext_getElem? fun t => ?_
  by_cases ht : t < xs.length * n
  · rw [flatMap_get hk hn xs t ht]
    have h1 := Go.Sort.get_flatK enc n xs.toArray t (by simpa using ht)
    have h2 : t < (flatK enc n xs.toArray).size := by simpa using ht
    rw [Array.getElem?_toList, Array.getElem?_eq_getElem h2]
    rw [getElem!_pos (flatK enc n xs.toArray) t h2] at h1
    rw [h1]; simp
  · rw [List.getElem?_eq_none (by simp; omega), List.getElem?_eq_none (by rw [flatMap_len hk]; omega)]
/-- the world behind the sorting of an own row -/
theorem sorted_row {w : World} {g off c : Nat} {cs : Array Value} {e : TypeId} {xs ys : List α} {q : Nat} {os : Array Obj} (hk : ∀ x, (enc x).length = n) (hn : 0 < n) (hg : Row w g cs e) (hsz : off + c * n ≤ cs.size) (hnc : xs.length ≤ c) (hcs : ∀ j u, (xs.flatMap enc)[j]? = some u → cs[off + j]? = some u) (hl : ys.length = xs.length) :
    ∃ cs', Row (sortWorldK enc n w g off q ys.toArray os) g cs' e ∧ cs'.size = cs.size ∧ (∀ j u, (ys.flatMap enc)[j]? = some u → cs'[off + j]? = some u) ∧ Kt (fun k => k = g) w (sortWorldK enc n w g off q ys.toArray os) := by
  have hH : Holds id w g off (flatK enc n xs.toArray) := fun j hj => by
    have hj2 : j < xs.length * n := by simpa using hj
    have hm : xs.length * n ≤ c * n := Nat.mul_le_mul_right _ hnc
    have h1 := Go.Sort.get_flatK enc n xs.toArray j (by simpa using hj2)
    refine ⟨?_, hg.free (by omega)⟩
    rw [hg.cell, hcs j _ (flatMap_get hk hn xs j hj2), h1]; simp
  have e1 : sortWorldK enc n w g off q ys.toArray os = grow ((w.drewN q).setCells g off (ys.flatMap enc)) os := by
    unfold sortWorldK putRowK
    have := putRow_eq_setCells id w g off (flatK enc n xs.toArray) (flatK enc n ys.toArray).toList q hH (by simp [hl])
    rw [Array.toArray_toList] at this
    rw [this, flat_list hk hn, List.map_id]
  obtain ⟨fz, hg1, hfz⟩ := id hg
  obtain ⟨cs', c1, c2, c3, c4⟩ := setCells_block g e fz (ys.flatMap enc) off (w.drewN q) cs hg1
  have hgl : g < ((w.drewN q).setCells g off (ys.flatMap enc)).heap.size := (Array.getElem?_eq_some_iff.1 c1).1
  refine ⟨cs', ?_, c2, fun j u hu => c4 (by rw [flatMap_len hk, hl]; have : xs.length * n ≤ c * n := Nat.mul_le_mul_right _ hnc; omega) j u hu, ?_⟩
  · rw [e1]
    exact ⟨fz, by rw [heap_grow_old _ os hgl]; exact c1, by rw [c2]; exact hfz⟩
  · rw [e1]
    have k1 : Kt (fun k => k = g) w ((w.drewN q).setCells g off (ys.flatMap enc)) := (Kt.drewN w q).no.trans (Kt.setCells _ g off _)
    exact k1.trans ⟨rfl, rfl, rfl, by simp, fun k hk _ => heap_grow_old _ os hk⟩
end
theorem rows_key {T : Nat → Prop} {w : World} {cl : List Value} {xs : List KeyD} : RowsOk R_KeyD T w cl xs ↔ cl = xs.flatMap encK := by
  have hk : ∀ x : KeyD, (encK x).length = 2 := fun _ => rfl
  constructor
  · rintro ⟨h1, h2⟩
    refine List.ext_getElem? fun t => ?_
    have h1' : cl.length = xs.length * 2 := h1
    by_cases ht : t < xs.length * 2
    · rw [flatMap_get hk (by omega) xs t ht]
      have hx : t / 2 < xs.length := by omega
      obtain ⟨cs, rfl, h4⟩ := h2 (t / 2) _ (List.getElem?_eq_getElem hx)
      have hm : (encK xs[t / 2])[t % 2]? = some (encK xs[t / 2]!)[t % 2]! := by
        rw [getElem!_pos xs (t / 2) hx]
        have h5 : t % 2 < (encK xs[t / 2]).length := by rw [hk]; omega
        rw [List.getElem?_eq_getElem h5, getElem!_pos (encK xs[t / 2]) (t % 2) h5]
      have := h4 (t % 2) _ hm
      rwa [show t / 2 * R_KeyD.size + t % 2 = t by show t / 2 * 2 + t % 2 = t; omega] at this
    · rw [List.getElem?_eq_none (by omega), List.getElem?_eq_none (by rw [flatMap_len hk]; omega)]
  · rintro rfl
    refine ⟨flatMap_len hk xs, fun k x hx => ⟨encK x, rfl, fun j u hu => ?_⟩⟩
    have hkl := (List.getElem?_eq_some_iff.1 hx).1
    have hj : j < 2 := by have := (List.getElem?_eq_some_iff.1 hu).1; rw [hk] at this; exact this
    show (xs.flatMap encK)[k * 2 + j]? = some u
    rw [flatMap_get hk (by omega) xs _ (by omega), show (k * 2 + j) / 2 = k by omega, show (k * 2 + j) % 2 = j by omega, getElem!_pos xs k hkl, (List.getElem?_eq_some_iff.1 hx).2]
    obtain ⟨h3, h4⟩ := List.getElem?_eq_some_iff.1 hu
    rw [getElem!_pos (encK x) j h3, h4]
theorem swoK : SWO (ltOf kcmp) where
  irrefl x := by unfold ltOf; simp [kcmp_refl]
  trans x y z h1 h2 := by
    unfold ltOf at *
    simp only [decide_eq_true_eq] at *
    exact kcmp_trans h1 h2
  ntrans x y z h1 h2 := by
    unfold ltOf at *
    simp only [decide_eq_false_iff_not] at *
    exact fun h => h2 (kcmp_lt_of_le h1 h)
theorem antiK (x y : KeyD) (h1 : ltOf kcmp x y = false) (h2 : ltOf kcmp y x = false) : x = y := by
  unfold ltOf at *
  simp only [decide_eq_false_iff_not] at *
  rcases kcmp_tri x y with h | h | h
  · exact absurd h h1
  · exact h
  · exact absurd h h2
theorem cmpLaysK (blk off size : Nat) (w : World) : CmpLays Tryd.prog 51 #[] encK 2 kcmp blk off size w := fun m os dk hd x y => by
  refine (keyCmp_g (x.Kind, x.Text) (y.Kind, y.Text) (sortWorldK encK 2 w blk off m dk os)).mono ?_
  rintro e w' ⟨rfl, hg⟩
  refine ⟨?_, hg⟩
  congr 2
  unfold kcmp compareInt
  dsimp only
  rw [data_toList, data_toList]
  by_cases h1 : x.Kind < y.Kind
  · simp [h1]
  · by_cases h2 : y.Kind < x.Kind <;> simp [h1, h2]
theorem sortK_len (xs : List KeyD) : (sortK xs).length = xs.length := by unfold sortK; exact List.length_mergeSort _
theorem sortKey_c (T : Nat → Prop) (W0 : World) (v : Value) (cl : List Value) (xs : List KeyD) (hD : DOk T W0 [.own v 32 R_KeyD.size cl]) (hv : RowsOk R_KeyD (dT T [.own v 32 R_KeyD.size cl]) W0 cl xs) (hr : roomB xs.length = true) :
    Rets Tryd.prog (MD [.own v 32 R_KeyD.size cl]) 50 [v, .func (.func 51) #[] #[]] W0 (fun v' w' => v' = .tuple #[] ∧ ∃ cl', RowsOk R_KeyD (dT T [.own v 32 R_KeyD.size cl']) w' cl' (sortK xs) ∧ DNew W0 w' [.own v 32 R_KeyD.size cl] [.own v 32 R_KeyD.size cl']) := by
  have hk : ∀ x : KeyD, (encK x).length = 2 := fun _ => rfl
  have hr := roomB_le hr
  have hcl := rows_key.1 hv
  subst hcl
  obtain ⟨hown, hpos⟩ := hD.own _ List.mem_cons_self
  rcases id hown with ⟨rfl, h0⟩ | ⟨g, off, n, c, cs, rfl, h1, hb, hg, hnc, hc, hsz, hcs⟩
  · have hx : xs = [] := by
      have := flatMap_len hk xs
      rw [h0] at this
      simp only [List.length_nil] at this
      exact List.eq_nil_of_length_eq_zero (by omega)
    subst hx
    have h := AnyF.slices_SortFunc_none Tryd.sortKey none 0 (.func (.func 51) #[] #[]) W0
    change Calls Tryd.prog 50 _ _ _ at h
    refine h.mono ?_
    rintro e w' ⟨rfl, rfl⟩
    refine ⟨_, rfl, Kt.refl _ _, rfl, [], rows_key.2 (by unfold sortK; simp), ⟨fun r hr => ?_, fun r hr k hk => ?_, List.pairwise_singleton _ _⟩⟩
    · simp only [List.mem_cons, List.not_mem_nil, or_false] at hr; subst hr; exact ⟨hown, hpos⟩
    · simp only [List.mem_cons, List.not_mem_nil, or_false] at hr; subst hr; exact .inl ⟨_, List.mem_cons_self, hk⟩
  · have hn : n = xs.length := by
      have h2 := flatMap_len hk xs
      rw [h1] at h2
      have h2 : n * 2 = xs.length * 2 := h2
      omega
    subst hn
    have hgl : g < W0.heap.size := hg.lt
    have hH : HoldsK encK 2 W0 g off xs.toArray := fun j hj => by
      have hj2 : j < xs.length * 2 := by simpa using hj
      have hsz2 : off + c * 2 ≤ cs.size := hsz
      have h3 := Go.Sort.get_flatK encK 2 xs.toArray j (by simpa using hj2)
      refine ⟨?_, hg.free (by omega)⟩
      rw [hg.cell, hcs j _ (flatMap_get hk (by omega) xs j hj2), h3]; simp
    have eg : ∀ args w, (callFunc 51 args).run Tryd.prog w = .ok (.enter 51 args) w := enters_of Tryd.func51 (by kernel_rfl) rfl
    have h := AnyQ.slices_SortFunc_total Tryd.sortKey 2 Tryd.isAgg32 Tryd.sizeOf32 encK hk (fun x v hv => by simp [encK] at hv; rcases hv with rfl | rfl <;> rfl) kcmp swoK 51 #[] g off c xs.toArray W0 eg (cmpLaysK g off _ W0) hH hgl (by simp; omega) antiK
    change Calls Tryd.prog 50 _ _ _ at h
    rw [List.size_toArray] at h
    refine h.mono ?_
    rintro e w' ⟨rfl, q, os, rfl⟩
    have hs : (xs.toArray.toList.mergeSort fun x y => !ltOf kcmp y x) = sortK xs := rfl
    rw [hs]
    obtain ⟨cs', r1, r2, r3, r4⟩ := sorted_row (enc := encK) (n := 2) (ys := sortK xs) (q := q) (os := os) hk (by omega) hg hsz hnc hcs (sortK_len xs)
    have hkM : Kt (MD [.own (.slice (some ⟨g, off, none⟩) xs.length c) 32 R_KeyD.size (xs.flatMap encK)]) W0 (sortWorldK encK 2 W0 g off q (sortK xs).toArray os) := r4.mono fun j hj => ⟨_, List.mem_cons_self, by rw [hj]; rfl⟩
    refine ⟨_, rfl, hkM, rfl, (sortK xs).flatMap encK, rows_key.2 rfl, ⟨fun r hr => ?_, fun r hr k hk => ?_, List.pairwise_singleton _ _⟩⟩
    · simp only [List.mem_cons, List.not_mem_nil, or_false] at hr
      subst hr
      exact ⟨.inr ⟨g, off, xs.length, c, cs', rfl, by rw [flatMap_len hk, sortK_len]; rfl, hb, r1, hnc, hc, by rw [r2]; exact hsz, r3⟩, hpos⟩
    · simp only [List.mem_cons, List.not_mem_nil, or_false] at hr; subst hr; exact .inl ⟨_, List.mem_cons_self, hk⟩
end Go.Proofs.YtdappapdddnciaaDoor
