/- Programs that are made: edits. -/
import Derived.Test.YtpjpndbagkcgcaaMA
import Derived.Test.YtpjpndbagkcgcaaB5
set_option linter.unusedVariables false
set_option linter.unusedSimpArgs false
namespace Go.Proofs.Ytpjpndbagkcgcaa
open Go.RowKit

theorem rs_lit2 (m : Nat) (w : World) (cs : Array Value) (t : TypeId) (n : Nat) (hcs : strsB m cs = true) (hn : n = cs.size) (hb : n ≤ 1000) :
    ∃ xs : List ByteArray, Rs [] (w.alloc (.cells cs t)) (.slice (some ⟨w.heap.size, 0, none⟩) n n) xs ∧ xs.length = n ∧ ∀ x ∈ xs, x.size ≤ m := by
  obtain ⟨xs, h1, h2⟩ := strsB_list m cs.toList hcs
  have hcs2 : cs = (xs.map Value.string).toArray := by rw [← h1]
  have hnx : n = xs.length := by rw [hn, hcs2]; simp
  exact ⟨xs, Rs.lit [] w xs t n hnx (by unfold maxLen; omega) (by simp) cs hcs2, hnx.symm, h2⟩
def PostPc (w : World) (e : Ending) (w' : World) : Prop := ∃ (b : Nat) (xs : List ByteArray), e = .returned (.slice (some ⟨b, 0, none⟩) 34 34) ∧ (∀ j s, xs[j]? = some s → w'.cell? ⟨b, j, none⟩ = some (.string s)) ∧ xs.length = 34 ∧ (∀ x ∈ xs, x.size ≤ 40) ∧ w.heap.size ≤ b ∧ Below w.heap.size w w'
theorem pieces_post (w : World) (cs : Array Value) (t : TypeId) (hcs : strsB 40 cs = true) (hn : 34 = cs.size) : PostPc w (.returned (.slice (some ⟨w.heap.size, 0, none⟩) 34 34)) (w.alloc (.cells cs t)) := by
  obtain ⟨xs, h1, h2, h3⟩ := rs_lit2 40 w cs t 34 hcs hn (by omega)
  refine ⟨_, xs, rfl, fun j s hj => ?_, h2, h3, Nat.le_refl _, (Below.refl _ _).alloc (Nat.le_refl _) _⟩
  obtain ⟨A, c', e, _, _, h⟩ := h1
  injection e with e1 e2 e3
  rcases h with h | ⟨b', off', e', _, _, hc⟩
  · rw [h] at hj; simp at hj
  · rw [← e1] at e'
    injection e' with e'
    injection e' with e1 e2
    subst e1 e2
    have := hc j s hj
    rwa [Nat.zero_add] at this
set_option maxHeartbeats 2000000 in
theorem pieces_any (w : World) : Calls Try.prog 33 #[] w (PostPc w) := by
  go_enter Try.func33, Try.ntmps33
  go_wp2
  go_ret
  refine pieces_post w _ _ ?_ ?_
  · rfl
  · rfl

/-- an edit that is possible: the module is there, and the place lies in it -/
def EdIn (l : List Src) (x : Ed) : Prop := ∃ (k : Nat) (y : Src), l[k]? = some y ∧ x.m = y.1 ∧ 0 ≤ x.at_ ∧ 0 ≤ x.cnt ∧ x.at_ + x.cnt ≤ y.2.size ∧ x.text.size ≤ 40
def PostEd (l : List Src) (w : World) (d : Nat) (e : Ending) (w' : World) : Prop := ∃ x : Ed, EdIn l x ∧ e = .returned (edV x) ∧ DiceOk w' d ∧ Kp [d] w w'
def edC (x : Ed) : Array Value := #[.string x.m, .int .i64 x.at_, .int .i64 x.cnt, .string x.text]
/-- where an edit is being made: the result, the module, the edit -/
structure Es (w0 w : World) (d br bs be : Nat) (r : Ed) (y : Src) (x : Ed) : Prop where
  rr : w.heap[br]? = some (.cells (edC r) 34 (0, 0))
  rs : w.heap[bs]? = some (.cells #[.string y.1, .string y.2] 39 (0, 0))
  re : w.heap[be]? = some (.cells (edC x) 34 (0, 0))
  hD : DiceOk w d
  hK : Kp [d] w0 w
  l1 : w0.heap.size ≤ br
  l2 : br < bs
  l3 : bs < be
  l4 : d < w0.heap.size
section
variable {w0 w w' : World} {d br bs be : Nat} {r x : Ed} {y : Src}
theorem Es.k1 (h : Es w0 w d br bs be r y x) (a : DiceOk w' d) (k : Kp [d] w w') : Es w0 w' d br bs be r y x := by
  obtain ⟨h1, h2, h3, h4, h5, l1, l2, l3, l4⟩ := h
  exact ⟨k.heap (by simp; omega) h1, k.heap (by simp; omega) h2, k.heap (by simp; omega) h3, a, h5.trans k, l1, l2, l3, l4⟩
theorem Es.of (h : Es w0 w d br bs be r y x) (k : Below w.heap.size w w') : Es w0 w' d br bs be r y x := h.k1 (h.hD.of k) (Kp.of k)
theorem Es.drew (h : Es w0 w d br bs be r y x) : Es w0 w.drew d br bs be r y x := h.of (below_d (Below.refl _ _))
theorem Es.scells (h : Es w0 w d br bs be r y x) : w.cell? ⟨bs, 0, none⟩ = some (.string y.1) ∧ w.cell? ⟨bs, 1, none⟩ = some (.string y.2) := by
  refine ⟨?_, ?_⟩ <;> rw [cell_of_row _ _ _ _ _ _ h.rs] <;> rfl
theorem Es.ecells (h : Es w0 w d br bs be r y x) : w.cell? ⟨be, 0, none⟩ = some (.string x.m) ∧ w.cell? ⟨be, 1, none⟩ = some (.int .i64 x.at_) ∧ w.cell? ⟨be, 2, none⟩ = some (.int .i64 x.cnt) ∧ w.cell? ⟨be, 3, none⟩ = some (.string x.text) ∧ w.frozen? ⟨be, 2, none⟩ = false ∧ w.frozen? ⟨be, 3, none⟩ = false := by
  refine ⟨?_, ?_, ?_, ?_, by simp [World.frozen?, h.re], by simp [World.frozen?, h.re]⟩ <;> rw [cell_of_row _ _ _ _ _ _ h.re] <;> rfl
theorem Es.rcells (h : Es w0 w d br bs be r y x) : w.cell? ⟨br, 0, none⟩ = some (.string r.m) ∧ w.cell? ⟨br, 1, none⟩ = some (.int .i64 r.at_) ∧ w.cell? ⟨br, 2, none⟩ = some (.int .i64 r.cnt) ∧ w.cell? ⟨br, 3, none⟩ = some (.string r.text) ∧
    w.frozen? ⟨br, 0, none⟩ = false ∧ w.frozen? ⟨br, 1, none⟩ = false ∧ w.frozen? ⟨br, 2, none⟩ = false ∧ w.frozen? ⟨br, 3, none⟩ = false := by
  refine ⟨?_, ?_, ?_, ?_, by simp [World.frozen?, h.rr], by simp [World.frozen?, h.rr], by simp [World.frozen?, h.rr], by simp [World.frozen?, h.rr]⟩ <;> rw [cell_of_row _ _ _ _ _ _ h.rr] <;> rfl
theorem Es.put (h : Es w0 w d br bs be r y x) {j : Nat} {u : Value} {x' : Ed} (hx : (edC x).setIfInBounds j u = edC x') : Es w0 (w.setCell ⟨be, j, none⟩ u) d br bs be r y x' := by
  obtain ⟨h1, h2, h3, h4, h5, l1, l2, l3, l4⟩ := h
  have k : Kp [be] w (w.setCell ⟨be, j, none⟩ u) := (Kp.refl _ _).set (p := ⟨be, j, none⟩) (by simp) _
  have hz := h5.size
  refine ⟨k.heap (by simp; omega) h1, k.heap (by simp; omega) h2, ?_, h4.kp k (by simp; omega), ?_, l1, l2, l3, l4⟩
  · simp only [World.setCell, Array.getElem?_modify, h3, if_true]
    rw [← hx]; rfl
  · exact ⟨h5.1, h5.2.1, h5.2.2.1, Nat.le_trans hz k.size, fun j hj hn => (k.2.2.2.2 j (by omega) (by simp; omega)).trans (h5.2.2.2.2 j hj hn)⟩
theorem Es.cnt (h : Es w0 w d br bs be r y x) (c : Int) : Es w0 (w.setCell ⟨be, 2, none⟩ (.int .i64 c)) d br bs be r y { x with cnt := c } := h.put rfl
theorem Es.text (h : Es w0 w d br bs be r y x) (c : ByteArray) : Es w0 (w.setCell ⟨be, 3, none⟩ (.string c)) d br bs be r y { x with text := c } := h.put rfl
theorem Es.ret (h : Es w0 w d br bs be r y x) {w' : World} (k : Kp [br] w w') : DiceOk w' d ∧ Kp [d] w0 w' := by
  obtain ⟨h1, h2, h3, h4, h5, l1, l2, l3, l4⟩ := h
  have hz := h5.size
  exact ⟨h4.kp k (by simp; omega), ⟨k.1.trans h5.1, k.2.1.trans h5.2.1, k.2.2.1.trans h5.2.2.1, Nat.le_trans hz k.size, fun j hj hn => (k.2.2.2.2 j (by omega) (by simp; omega)).trans (h5.2.2.2.2 j hj hn)⟩⟩
end
def ed0 : Ed := ⟨⟨#[]⟩, 0, 0, ⟨#[]⟩⟩
theorem es_new {w wa : World} {d br bs : Nat} {y : Src} (a : Int) (hD : DiceOk wa d) (hK : Kp [d] w wa) (hr : wa.heap[br]? = some (.cells (edC ed0) 34 (0, 0))) (hs : wa.heap[bs]? = some (.cells #[.string y.1, .string y.2] 39 (0, 0)))
    (l1 : w.heap.size ≤ br) (l2 : br < bs) (l4 : d < w.heap.size) : Es w (wa.alloc (.cells #[.string y.1, .int .i64 a, .int .i64 0, .string ⟨#[]⟩] 34)) d br bs wa.heap.size ed0 y ⟨y.1, a, 0, ⟨#[]⟩⟩ := by
  have hal : Below wa.heap.size wa (wa.alloc (.cells #[.string y.1, .int .i64 a, .int .i64 0, .string ⟨#[]⟩] 34)) := (Below.refl _ _).alloc (Nat.le_refl _) _
  exact ⟨(Kp.of (bs := []) hal).heap (by simp) hr, (Kp.of (bs := []) hal).heap (by simp) hs, heap_alloc_new wa _, hD.of hal, hK.trans (Kp.of hal), l1, l2, (Array.getElem?_eq_some_iff.1 hs).1, l4⟩
theorem es_set {w wa : World} {d br bs be : Nat} {y : Src} (a : Int) (h : Es w wa d br bs be ed0 y ed0) :
    Es w ((((wa.setCell ⟨be, 0, none⟩ (.string y.1)).setCell ⟨be, 1, none⟩ (.int .i64 a)).setCell ⟨be, 2, none⟩ (.int .i64 0)).setCell ⟨be, 3, none⟩ (.string ⟨#[]⟩)) d br bs be ed0 y ⟨y.1, a, 0, ⟨#[]⟩⟩ :=
  (((h.put (x' := ⟨y.1, 0, 0, ⟨#[]⟩⟩) rfl).put (x' := ⟨y.1, a, 0, ⟨#[]⟩⟩) rfl).put (x' := ⟨y.1, a, 0, ⟨#[]⟩⟩) rfl).put (x' := ⟨y.1, a, 0, ⟨#[]⟩⟩) rfl

set_option maxHeartbeats 8000000 in
set_option maxRecDepth 100000 in
theorem edit_any (l : List Src) (v : Value) (w : World) (d : Nat) (hD : DiceOk w d) (hv : Sl srcE 2 w w.heap.size v l) (h1 : 1 ≤ l.length) (h3 : l.length ≤ 1000) (hs : ∀ y ∈ l, y.2.size ≤ 1000000) (hdj : ∀ c n cap, v = .slice (some c) n cap → c.block ≠ d) :
    Calls Try.prog 16 #[.pointer (some ⟨d, 0, none⟩), v] w (PostEd l w d) := by
  obtain ⟨A, cc, rfl, hnc, hcap, hcell⟩ := hv
  rcases hcell with h0 | ⟨b, off, rfl, hb, hcell⟩
  · rw [h0] at h1; simp at h1
  have hbd : b ≠ d := hdj _ _ _ rfl
  clear hdj
  unfold maxLen at hcap
  have g0 : decide (l.length = 0) = false := by rw [decide_eq_false_iff_not]; omega
  have g1 : ((l.length : Int) == 0) = false := by rw [beq_eq_false_iff_ne]; omega
  have hdl := hD.lt
  go_enter Try.func16, Try.ntmps16
  go_upto_region 3 with fail
  have hal : Below w.heap.size w (w.alloc (.cells #[.string ⟨#[]⟩, .int .i64 0, .int .i64 0, .string ⟨#[]⟩] 34)) := (Below.refl _ _).alloc (Nat.le_refl _) _
  have hD1 := hD.of hal
  go_wp2_with fail
  refine (nexti _ d l.length hD1 (by omega) (by omega)).mono ?_
  rintro e w1 ⟨k, hk, rfl, hD2, hK2⟩
  have hkl : k < l.length := by omega
  obtain ⟨y, hy⟩ : ∃ y, l[k]? = some y := ⟨_, List.getElem?_eq_getElem hkl⟩
  have hKw : Kp [d] w w1 := (Kp.of hal).trans hK2
  have q1 : w1.cell? ⟨b, off + k * 2, none⟩ = some (.string y.1) := (hKw.cell (p := ⟨b, off + k * 2, none⟩) hb (by simp; exact hbd)).trans (hcell k y hy 0 (.string y.1) rfl)
  have q2 : w1.cell? ⟨b, off + k * 2 + 1, none⟩ = some (.string y.2) := (hKw.cell (p := ⟨b, off + k * 2 + 1, none⟩) hb (by simp; exact hbd)).trans (hcell k y hy 1 (.string y.2) rfl)
  have hys := hs y (List.mem_of_getElem? hy)
  have hr1 : w1.heap[w.heap.size]? = some (.cells (edC ed0) 34 (0, 0)) := hK2.heap (by simp; omega) (heap_alloc_new w _)
  have Hy := hid hy
  clear hy hs hcell hal
  go_upto_region 4 with fail
  have hal2 : Below w1.heap.size w1 (w1.alloc (.cells #[.string y.1, .string y.2] 39)) := (Below.refl _ _).alloc (Nat.le_refl _) _
  have hD3 := hD2.of hal2
  have hK3 : Kp [d] w (w1.alloc (.cells #[.string y.1, .string y.2] 39)) := hKw.trans (Kp.of hal2)
  have hr3 := (Kp.of (bs := []) hal2).heap (by simp) hr1
  have hs3 := heap_alloc_new w1 (.cells #[.string y.1, .string y.2] 39)
  obtain ⟨w2, hw2⟩ : ∃ w2, w2 = w1.alloc (.cells #[.string y.1, .string y.2] 39) := ⟨_, rfl⟩
  rw [← hw2] at hD3 hK3 hr3 hs3 ⊢
  obtain ⟨bs, hbs⟩ : ∃ bs, bs = w1.heap.size := ⟨_, rfl⟩
  obtain ⟨br, hbr⟩ : ∃ br, br = w.heap.size := ⟨_, rfl⟩
  have l12 : br < bs := by rw [hbs, hbr]; have := hK2.size; simp at this; omega
  have l1 : w.heap.size ≤ br := by omega
  have lbs : bs < w2.heap.size := by rw [hbs, hw2]; simp
  rw [← hbs] at hs3 ⊢
  rw [← hbr] at hr3 ⊢
  clear hw2 hbs hbr hD1 hD2 hK2 hKw q1 q2 hr1 hal2 hD hk
  have dbr : d < br := by omega
  go_cut [6] (fun t6 wx => ∃ (be : Nat) (a : Int), t6 = .pointer (some ⟨be, 0, none⟩) ∧ 0 ≤ a ∧ a ≤ (y.2.size : Int) ∧ Es w wx d br bs be ed0 y ⟨y.1, a, 0, ⟨#[]⟩⟩)
  case first =>
    have c0 : w2.cell? ⟨bs, 0, none⟩ = some (.string y.1) := by rw [cell_of_row _ _ _ _ _ _ hs3]; rfl
    have c1 : w2.cell? ⟨bs, 1, none⟩ = some (.string y.2) := by rw [cell_of_row _ _ _ _ _ _ hs3]; rfl
    have gw : IntKind.i64.wrap ((y.2.size : Int) + 1) = (y.2.size : Int) + 1 := IntWalk.i64_in _ (by omega)
    have hne : w2.heap.size ≠ bs := by omega
    have Hr := hid hr3
    have Hs := hid hs3
    have hD2 : DiceOk w2.drew d := hD3
    have hal4 : Below w2.heap.size w2 (w2.alloc (.cells #[.string ⟨#[]⟩, .int .i64 0, .int .i64 0, .string ⟨#[]⟩] 34)) := (Below.refl _ _).alloc (Nat.le_refl _) _
    have hD2b : DiceOk (w2.alloc (.cells #[.string ⟨#[]⟩, .int .i64 0, .int .i64 0, .string ⟨#[]⟩] 34)).drew d := by have h := hD3.of hal4; exact h
    have hE0 : (w2.alloc (.cells #[.string ⟨#[]⟩, .int .i64 0, .int .i64 0, .string ⟨#[]⟩] 34)).drew.heap[w2.heap.size]? = some (.cells #[.string ⟨#[]⟩, .int .i64 0, .int .i64 0, .string ⟨#[]⟩] 34 (0, 0)) := heap_alloc_new w2 _
    have HE0 := hid hE0
    clear hE0
    have hdw : d < w2.heap.size := hD3.lt
    clear hr3 hs3
    go_region_held3 (fun w' => w'.cell? ⟨bs, 0, none⟩ = some (.string y.1) ∧ w'.cell? ⟨bs, 1, none⟩ = some (.string y.2)) (first | exact ⟨c0, c1⟩ | go_keep) (first
      | (go_at_call 24; (with_reducible refine (nexti _ d _ hD2 ?_ ?_).mono ?_); omega; omega; rintro e wa ⟨ra, hra, rfl, hDa, hKa⟩; have hKz : Kp [d] w wa := hK3.trans (show Kp [d] w2 wa from hKa); have hra2 : (ra : Int) ≤ y.2.size := (by omega); have Hr := hid (hKa.heap (by simp; omega) Hr.out); have Hs := hid (hKa.heap (by simp; omega) Hs.out); have c0 := (hKa.cell (p := ⟨bs, 0, none⟩) (by exact lbs) (by simp; omega)).trans c0; have c1 := (hKa.cell (p := ⟨bs, 1, none⟩) (by exact lbs) (by simp; omega)).trans c1; have lba := Nat.lt_of_lt_of_le lbs hKa.size; have hnea : wa.heap.size ≠ bs := (by omega))
      | (go_at_call 24; (with_reducible refine (nexti _ d _ hD2b ?_ ?_).mono ?_); omega; omega; rintro e wa ⟨ra, hra, rfl, hDa, hKa⟩; have hKz : Kp [d] w wa := hK3.trans ((Kp.of hal4).trans (show Kp [d] (w2.alloc (.cells #[.string ⟨#[]⟩, .int .i64 0, .int .i64 0, .string ⟨#[]⟩] 34)) wa from hKa)); have hra2 : (ra : Int) ≤ y.2.size := (by omega); have Hr := hid (hKa.heap (by simp; omega) ((Kp.of (bs := []) hal4).heap (by simp) Hr.out)); have Hs := hid (hKa.heap (by simp; omega) ((Kp.of (bs := []) hal4).heap (by simp) Hs.out)); have He := hid (hKa.heap (by simp; omega) HE0.out); have hsr := Hs.out; have her := He.out; have c0 : wa.cell? ⟨bs, 0, none⟩ = some (.string y.1) := (by rw [cell_of_row _ _ _ _ _ _ hsr]; rfl); have c1 : wa.cell? ⟨bs, 1, none⟩ = some (.string y.2) := (by rw [cell_of_row _ _ _ _ _ _ hsr]; rfl); have e0 : wa.cell? ⟨w2.heap.size, 0, none⟩ = some (.string ⟨#[]⟩) := (by rw [cell_of_row _ _ _ _ _ _ her]; rfl); have e1 : wa.cell? ⟨w2.heap.size, 1, none⟩ = some (.int .i64 0) := (by rw [cell_of_row _ _ _ _ _ _ her]; rfl); have e2 : wa.cell? ⟨w2.heap.size, 2, none⟩ = some (.int .i64 0) := (by rw [cell_of_row _ _ _ _ _ _ her]; rfl); have e3 : wa.cell? ⟨w2.heap.size, 3, none⟩ = some (.string ⟨#[]⟩) := (by rw [cell_of_row _ _ _ _ _ _ her]; rfl); have f0 : ∀ j, wa.frozen? ⟨w2.heap.size, j, none⟩ = false := (fun j => by simp [World.frozen?, her]); have f00 := f0 0; have f01 := f0 1; have f02 := f0 2; have f03 := f0 3; clear f0 hsr her; have lba : bs < wa.heap.size := Nat.lt_of_lt_of_le lbs (Nat.le_trans (Nat.le_trans hal4.size (Nat.le_refl _)) hKa.size)))
    all_goals
      go_wp2_with fail
      go_meet
      first
        | exact ⟨_, _, rfl, by omega, hra2, es_new _ hDa hKz Hr.out Hs.out l1 l12 hdl⟩
        | exact ⟨_, _, rfl, by omega, hra2, es_set _ ⟨Hr.out, Hs.out, He.out, hDa, hKz, l1, l12, lbs, hdl⟩⟩
  case rest =>
    obtain ⟨be, a, rfl, ha0, ha1, hE⟩ := hcut
    clear hD3 hK3 hr3 hs3 lbs
    go_upto_region 5 with fail
    go_cut [] (fun wx => ∃ c : Int, 0 ≤ c ∧ a + c ≤ (y.2.size : Int) ∧ Es w wx d br bs be ed0 y ⟨y.1, a, c, ⟨#[]⟩⟩)
    case first =>
      obtain ⟨c0, c1⟩ := hE.scells
      obtain ⟨e0, e1, e2, e3, f2, f3⟩ := hE.ecells
      have hE : Es w wc.drew d br bs be ed0 y ⟨y.1, a, 0, ⟨#[]⟩⟩ := hE.drew
      have hne : be ≠ bs := by have := hE.l3; omega
      have hne2 : (⟨be, 2, none⟩ : Addr) ≠ ⟨be, 1, none⟩ := by simp
      have gw : IntKind.i64.wrap ((y.2.size : Int) - a) = (y.2.size : Int) - a := IntWalk.i64_in _ (by omega)
      go_region_held3 (fun w' => w'.cell? ⟨bs, 1, none⟩ = some (.string y.2) ∧ w'.cell? ⟨be, 1, none⟩ = some (.int .i64 a)) (first | exact ⟨c1, e1⟩ | (exact ⟨(World.cell?_setCell_far _ _ _ _ hne).trans c1, (World.cell?_setCell_other _ _ _ _ hne2).trans e1⟩) | go_keep) (first
        | (go_at_call 24; (with_reducible refine (nexti _ d _ hE.hD ?_ ?_).mono ?_); omega; omega; rintro e wa ⟨ra, hra, rfl, hDa, hKa⟩; have hE := hE.k1 hDa hKa; clear c0 c1 e0 e1 e2 e3 f2 f3; obtain ⟨c0, c1⟩ := hE.scells; obtain ⟨e0, e1, e2, e3, f2, f3⟩ := hE.ecells))
      all_goals
        go_wp2_with fail
        all_goals
          go_meet
          exact ⟨_, by omega, by omega, hE.cnt _⟩
    case rest =>
      clear hE
      obtain ⟨c, hc0, hc1, hE⟩ := hcut
      go_wp2_with fail
      refine (pieces_any _).mono ?_
      rintro e w3 ⟨bp, xs, rfl, hpc, hxl, hxs, hbp, hb3⟩
      have hbpd : bp ≠ d := by have := hE.hD.lt; omega
      have hE := hE.of hb3
      clear hb3 hbp
      go_wp2_with fail
      refine (nexti _ d 34 hE.hD (by omega) (by omega)).mono ?_
      rintro e w4 ⟨rp, hrp, rfl, hD4, hK4⟩
      obtain ⟨ps, hps⟩ : ∃ s, xs[rp]? = some s := ⟨_, List.getElem?_eq_getElem (by omega)⟩
      have cp : w4.cell? ⟨bp, rp, none⟩ = some (.string ps) := (hK4.cell (World.block_lt_of_cell? _ _ (hpc rp ps hps)) (by simp; exact hbpd)).trans (hpc rp ps hps)
      have hpsz := hxs ps (List.mem_of_getElem? hps)
      have hE := hE.k1 hD4 hK4
      obtain ⟨e0, e1, e2, e3, f2, f3⟩ := hE.ecells
      clear hD4 hK4 hps hpc hxs hxl
      go_upto_region 8 with fail
      have hE := hE.text ps
      obtain ⟨w5, hw5⟩ : ∃ w5, w5 = w4.setCell ⟨be, 3, none⟩ (.string ps) := ⟨_, rfl⟩
      rw [← hw5] at hE ⊢
      clear hw5 e0 e1 e2 e3 f2 f3 cp
      go_wp2_with fail
      refine (nexti _ d 4 hE.hD (by omega) (by omega)).mono ?_
      rintro e w6 ⟨r4, hr4, rfl, hD6, hK6⟩
      have hE := hE.k1 hD6 hK6
      clear hD6 hK6
      go_upto_block 0 with fail
      go_cut [] (fun wx => ∃ x : Ed, x.m = y.1 ∧ 0 ≤ x.at_ ∧ 0 ≤ x.cnt ∧ x.at_ + x.cnt ≤ (y.2.size : Int) ∧ x.text.size ≤ 40 ∧ Es w wx d br bs be ed0 y x)
      case first =>
        obtain ⟨e0, e1, e2, e3, f2, f3⟩ := hE.ecells
        have hr : r4 = 0 ∨ r4 = 1 ∨ r4 = 2 ∨ r4 = 3 := by omega
        rcases hr with rfl | rfl | rfl | rfl
        · go_wp2_with fail
          go_meet
          exact ⟨_, rfl, ha0, Int.le_refl 0, by show a + 0 ≤ _; omega, hpsz, hE.cnt 0⟩
        · obtain ⟨s0, s1⟩ := hE.scells
          go_wp2_with fail
          go_loop [8] (fun i => ∃ j : Nat, j ≤ y.2.size ∧ i = .int .i64 j) (fun i => y.2.size - (intOf i).toNat)
          case atStart => exact ⟨0, by omega, rfl⟩
          case round =>
            obtain ⟨j, hj, rfl⟩ := hrel
            by_cases hjt : j < y.2.size
            · obtain ⟨kk, hkk, hkl2⟩ : ∃ kk : Nat, (a + (j : Int)) % (y.2.size : Int) = (kk : Int) ∧ kk < y.2.size := ⟨((a + (j : Int)) % (y.2.size : Int)).toNat, by have := Int.emod_nonneg (a + (j : Int)) (b := (y.2.size : Int)) (by omega); omega, by have := Int.emod_nonneg (a + (j : Int)) (b := (y.2.size : Int)) (by omega); have := Int.emod_lt_of_pos (a + (j : Int)) (b := (y.2.size : Int)) (by omega); omega⟩
              have z0 : ((y.2.size : Int) == 0) = false := by rw [beq_eq_false_iff_ne]; omega
              have z1 : ¬ (y.2.size : Int) = 0 := by omega
              go_upto_region 16 with fail
              rw [hkk]
              clear hkk
              obtain ⟨kv, hkv⟩ : ∃ kv : Int, kv = kk := ⟨_, rfl⟩
              go_cut [102] (fun t wx => ∃ bb : Bool, t = .bool bb ∧ wx = w6)
              case first =>
                clear hkv
                by_cases hk0 : kk = 0
                · subst hk0
                  go_wp2_with fail
                  all_goals
                    go_meet
                    exact ⟨_, rfl, rfl⟩
                · have z2 : ((kk : Int) == 0) = false := by rw [beq_eq_false_iff_ne]; omega
                  have z3 : IntKind.i64.wrap ((kk : Int) - 1) = (kk : Int) - 1 := IntWalk.i64_in _ (by omega)
                  have z4 : 1 ≤ kk := by omega
                  clear hk0
                  go_wp2_with fail
                  all_goals
                    go_meet
                    exact ⟨_, rfl, rfl⟩
              case rest =>
                obtain ⟨bb, rfl, hwx⟩ := hcut
                subst hwx
                cases bb
                · go_wp2_with fail
                  go_round
                  case rel => exact ⟨j + 1, by omega, by go_num⟩
                  case measure => simp [intOf]; omega
                · have hne : br ≠ bs := by omega
                  have c0 := s0
                  have hE := hE.drew
                  clear s0 s1 e0 e1 e2 e3 f2 f3
                  obtain ⟨b0, b1, b2, b3, h0, h1', h2, h3'⟩ := hE.rcells
                  go_upto_region 17 with fail
                  go_region_held3 (fun w' => w'.cell? ⟨bs, 0, none⟩ = some (.string y.1)) (first | exact c0 | go_keep) (first
                    | (go_at_call 24; (with_reducible refine (nexti _ d _ hE.hD ?_ ?_).mono ?_); omega; omega; rintro e wa ⟨r9, hr9, rfl, hDa, hKa⟩; have hE := hE.k1 hDa hKa; clear c0 b0 b1 b2 b3 h0 h1' h2 h3'; obtain ⟨c0, c1⟩ := hE.scells; obtain ⟨b0, b1, b2, b3, h0, h1', h2, h3'⟩ := hE.rcells)
                    | (go_at_call 34; (with_reducible refine (digits_small _ _ ?_).mono ?_); omega; rintro e wb ⟨sd, hsd, rfl, hbd2⟩; have hE := hE.of hbd2; clear c0 b0 b1 b2 b3 h0 h1' h2 h3'; obtain ⟨c0, c1⟩ := hE.scells; obtain ⟨b0, b1, b2, b3, h0, h1', h2, h3'⟩ := hE.rcells))
                  all_goals
                    go_wp2_with fail
                    refine bodyPost_ret (v := edV ⟨y.1, kk, 1, sd⟩) (by simp [results, Try.results16, go_sem, edV, b0, b1, b2, b3]) rfl ⟨⟨y.1, kk, 1, sd⟩, ⟨k, y, Hy.out, rfl, by show (0 : Int) ≤ kk; omega, by show (0 : Int) ≤ 1; omega, by show (kk : Int) + 1 ≤ _; omega, by show sd.size ≤ 40; omega⟩, rfl, ?_⟩
                    exact hE.ret ((((Kp.refl _ _).set (p := ⟨br, 0, none⟩) (by simp) _).set (p := ⟨br, 1, none⟩) (by simp) _).set (p := ⟨br, 2, none⟩) (by simp) _ |>.set (p := ⟨br, 3, none⟩) (by simp) _)
            · go_wp2_with fail
              go_meet
              exact ⟨_, rfl, ha0, hc0, hc1, hpsz, hE⟩
        · go_wp2_with fail
          go_meet
          exact ⟨_, rfl, ha0, hc0, hc1, hpsz, hE⟩
        · go_wp2_with fail
          go_meet
          exact ⟨_, rfl, ha0, hc0, hc1, hpsz, hE⟩
      case rest =>
        clear hE
        obtain ⟨x, hx1, hx2, hx3, hx4, hx5, hE⟩ := hcut
        obtain ⟨e0, e1, e2, e3, f2, f3⟩ := hE.ecells
        obtain ⟨b0, b1, b2, b3, h0, h1', h2, h3'⟩ := hE.rcells
        go_wp2_with fail
        refine bodyPost_ret (v := edV x) (by simp [results, Try.results16, go_sem, edV, b0, b1, b2, b3, hx1]) rfl ⟨x, ⟨k, y, Hy.out, hx1, hx2, hx3, hx4, hx5⟩, rfl, ?_⟩
        exact hE.ret ((((Kp.refl _ _).set (p := ⟨br, 0, none⟩) (by simp) _).set (p := ⟨br, 1, none⟩) (by simp) _).set (p := ⟨br, 2, none⟩) (by simp) _ |>.set (p := ⟨br, 3, none⟩) (by simp) _)
end Go.Proofs.Ytpjpndbagkcgcaa
