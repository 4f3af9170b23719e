/- recompilelaw01.SourceMade: true, whatever it is given. -/
import Derived.Test.YtpjpndbagkcgcaaMC
set_option linter.unusedVariables false
set_option linter.unusedSimpArgs false
namespace Go.Proofs.Ytpjpndbagkcgcaa
open Go.RowKit

theorem srcl_sz {l : List Src} (h : SrcL l) : SzOk l := by
  intro x hx
  obtain ⟨j, hj, e⟩ := List.getElem_of_mem hx
  obtain ⟨a, b⟩ := h.2.2 j x (by rw [← e]; exact List.getElem?_eq_getElem hj)
  rw [a]
  have := letterS_size j
  constructor <;> omega
theorem srcl_big {l : List Src} (h : SrcL l) : ∀ y ∈ l, y.2.size ≤ 1000000 := by
  intro x hx
  obtain ⟨j, hj, e⟩ := List.getElem_of_mem hx
  obtain ⟨a, b⟩ := h.2.2 j x (by rw [← e]; exact List.getElem?_eq_getElem hj)
  omega
theorem edin_ok {l : List Src} (h : SrcL l) {x : Ed} (hx : EdIn l x) : EdOk x := by
  obtain ⟨k, y, hy, e, a, b, c, d⟩ := hx
  obtain ⟨p, q⟩ := h.2.2 k y hy
  have := letterS_size k
  exact ⟨by rw [e, p]; omega, by omega, by omega, by omega, by omega, by omega⟩
theorem own_ne {w : World} {B : Nat} {e : TypeId} {size : Nat} {v : Value} {xs : List Value} (h : Own w B e size v xs) {d : Nat} (hd : d < B) : ∀ c n cap, v = .slice (some c) n cap → c.block ≠ d := by
  intro c n cap hv
  have := h.blk c.block (by rw [hv]; simp [Value.ownBlock])
  omega
theorem EdAt.k1 {w w' : World} {b d : Nat} {x : Ed} (h : EdAt w b x) (k : Kp [d] w w') (hb : b ≠ d) : EdAt w' b x := by
  have hl := World.block_lt_of_cell? _ _ h.1
  exact ⟨(k.cell (p := ⟨b, 0, none⟩) hl (by simp; exact hb)).trans h.1, (k.cell (p := ⟨b, 1, none⟩) hl (by simp; exact hb)).trans h.2.1, (k.cell (p := ⟨b, 2, none⟩) hl (by simp; exact hb)).trans h.2.2.1, (k.cell (p := ⟨b, 3, none⟩) hl (by simp; exact hb)).trans h.2.2.2⟩

/-- an edit in a variable -/
def RowE (w : World) (b : Nat) (x : Ed) : Prop := w.heap[b]? = some (.cells (edC x) 34 (0, 0))
section
variable {w w' : World} {b d : Nat} {x x' : Ed}
theorem RowE.k1 (h : RowE w b x) (k : Kp [d] w w') (hb : b ≠ d) : RowE w' b x := k.heap (by simp; exact hb) h
theorem RowE.of (h : RowE w b x) (k : Below w.heap.size w w') : RowE w' b x := (Kp.of (bs := []) k).heap (by simp) h
theorem RowE.at_ (h : RowE w b x) : EdAt w b x := by
  unfold RowE at h
  refine ⟨?_, ?_, ?_, ?_⟩ <;> rw [cell_of_row _ _ _ _ _ _ h] <;> rfl
theorem RowE.fr (h : RowE w b x) (j : Nat) : w.frozen? ⟨b, j, none⟩ = false := by
  unfold RowE at h
  simp [World.frozen?, h]
theorem RowE.put (h : RowE w b x) {j : Nat} {u : Value} (hx : (edC x).setIfInBounds j u = edC x') : RowE (w.setCell ⟨b, j, none⟩ u) b x' := by
  unfold RowE at h ⊢
  simp only [World.setCell, Array.getElem?_modify, h, if_true]
  rw [← hx]; rfl
theorem RowE.lt (h : RowE w b x) : b < w.heap.size := (Array.getElem?_eq_some_iff.1 h).1
end
theorem Sl.set {w : World} {b : Nat} {v : Value} {l : List Src} (h : Sl srcE 2 w b v l) (j : Nat) (u : Value) : Sl srcE 2 (w.setCell ⟨b, j, none⟩ u) b v l :=
  h.keep fun p hp => World.cell?_setCell_far _ _ _ _ (by show b ≠ p.block; omega)
theorem Sl.k1 {w w' : World} {d : Nat} {v : Value} {l : List Src} (h : Sl srcE 2 w w.heap.size v l) (k : Kp [d] w w') (hne : ∀ j, v.ownBlock = some j → d < j) : Sl srcE 2 w' w'.heap.size v l := by
  obtain ⟨A, c, rfl, q1, q2, q3⟩ := h
  refine ⟨A, c, rfl, q1, q2, ?_⟩
  rcases q3 with q3 | ⟨b, off, rfl, hb, hc⟩
  · exact .inl q3
  · have hbd : d < b := hne b (by simp [Value.ownBlock])
    exact .inr ⟨b, off, rfl, Nat.lt_of_lt_of_le hb k.size, fun i x hx j u hu => (k.cell (p := ⟨b, off + i * 2 + j, none⟩) hb (by simp; omega)).trans (hc i x hx j u hu)⟩
theorem szok_snoc {l : List Src} {y : Src} (h : SzOk l) (hy : y ∈ l) : SzOk (l ++ [y]) := by
  intro x hx
  simp only [List.mem_append, List.mem_cons, List.not_mem_nil, or_false] at hx
  rcases hx with hx | rfl
  · exact h x hx
  · exact h x hy
def MadeCut (W : World) (d bx : Nat) (lv : Value) (wx : World) : Prop := ∃ (l' : List Src) (x' : Ed), SzOk l' ∧ l'.length ≤ 4 ∧ EdOk x' ∧ Sl srcE 2 wx wx.heap.size lv l' ∧ RowE wx bx x' ∧ DiceOk wx d ∧ Below W.heap.size W wx ∧ (∀ k, lv.ownBlock = some k → d < k)

set_option maxHeartbeats 8000000 in
set_option maxRecDepth 100000 in
theorem made_any (ns : List Int) (v : Value) (n0 n1 : Int) (w : World) (hv : IntSl w v ns) (h0 : -9223372036854775808 ≤ n0 ∧ n0 ≤ 9223372036854775807) (h1 : -9223372036854775808 ≤ n1 ∧ n1 ≤ 9223372036854775807) :
    Calls Try.prog 7 #[v, .agg #[.int .i64 n0, .int .i64 n1]] w fun e w' => e = .returned (.bool true) ∧ Below w.heap.size w w' := by
  have hal : Below w.heap.size w (w.alloc (.cells #[.int .i64 n0, .int .i64 n1] 51)) := (Below.refl _ _).alloc (Nat.le_refl _) _
  have hv1 := hv.later hal
  by_cases h400 : (ns.length : Int) ≤ 400
  · have g0 : decide ((ns.length : Int) ≤ 400) = true := by simpa using h400
    go_enter Try.func7, Try.ntmps7
    go_wp2_with fail
    refine (light_any _ v ns hv1).mono ?_
    rintro e w1 ⟨rfl, rfl⟩
    go_wp2_with fail
    refine (roll_any _ v ns hv1).mono ?_
    rintro e w1 ⟨rfl, hD, hb1⟩
    have hr0 := Kp.heap (Kp.of (bs := []) hb1) (by simp) (heap_alloc_new w (.cells #[.int .i64 n0, .int .i64 n1] 51))
    have c0 : w1.cell? ⟨w.heap.size, 0, none⟩ = some (.int .i64 n0) := cell_of_row _ w.heap.size 0 _ _ _ hr0
    have c1 : w1.cell? ⟨w.heap.size, 1, none⟩ = some (.int .i64 n1) := cell_of_row _ w.heap.size 1 _ _ _ hr0
    clear hr0
    have hB := below_step hal hb1
    obtain ⟨d, hd⟩ : ∃ d, d = (w.alloc (.cells #[.int .i64 n0, .int .i64 n1] 51)).heap.size := ⟨_, rfl⟩
    have hd2 : w.heap.size < d := by rw [hd]; simp
    rw [← hd] at hD ⊢
    clear hd hv1 hb1
    go_wp2_with fail
    refine (sources_any _ d hD).mono ?_
    rintro e w2 ⟨lv, l, hL, rfl, hD2, hown, hK2⟩
    have hdl := hD.lt
    have c0 := (hK2.cell (p := ⟨w.heap.size, 0, none⟩) (by show w.heap.size < _; omega) (by simp; omega)).trans c0
    have c1 := (hK2.cell (p := ⟨w.heap.size, 1, none⟩) (by show w.heap.size < _; omega) (by simp; omega)).trans c1
    have hB := Kp.below hB hK2 hB.size (by simp; omega)
    have hsl : Sl srcE 2 w2 w2.heap.size lv l := hown.sl srcE_len (by omega)
    have hnd := own_ne hown hdl
    go_wp2_with fail
    refine (edit_any l lv _ d hD2 hsl hL.1 (by have := hL.2.1; omega) (srcl_big hL) hnd).mono ?_
    rintro e w3 ⟨x, hx, rfl, hD3, hK3⟩
    have hx := edin_ok hL hx
    have hz2 := hB.size
    have c0 := (hK3.cell (p := ⟨w.heap.size, 0, none⟩) (by show w.heap.size < _; have := hK2.size; omega) (by simp; omega)).trans c0
    have c1 := (hK3.cell (p := ⟨w.heap.size, 1, none⟩) (by show w.heap.size < _; have := hK2.size; omega) (by simp; omega)).trans c1
    have hB := Kp.below hB hK3 hz2 (by simp; omega)
    have hown := Own.kp hown hK3 (by simp; omega)
    have hsl := hown.sl srcE_len (by omega)
    have hob : ∀ k, lv.ownBlock = some k → d < k ∧ k < w3.heap.size ∧ w.heap.size ≤ k := fun k hk => by have := hown.blk k hk; omega
    have hdz := hD3.lt
    clear hnd hK2 hD
    unfold edV
    go_upto_region 6 with fail
    have hal3 : Below w3.heap.size w3 (w3.alloc (.cells #[.string x.m, .int .i64 x.at_, .int .i64 x.cnt, .string x.text] 34)) := (Below.refl _ _).alloc (Nat.le_refl _) _
    have hX : RowE (w3.alloc (.cells #[.string x.m, .int .i64 x.at_, .int .i64 x.cnt, .string x.text] 34)) w3.heap.size x := heap_alloc_new w3 _
    have c0 := (hal3.cell (p := ⟨w.heap.size, 0, none⟩) (by show w.heap.size < _; omega)).trans c0
    have c1 := (hal3.cell (p := ⟨w.heap.size, 1, none⟩) (by show w.heap.size < _; omega)).trans c1
    have hD4 := hD3.of hal3
    have hB := Below.trans hB (hal3.mono hB.size)
    have hown := hown.later hal3
    have hsl := hsl.below hal3
    obtain ⟨w4, hw4⟩ : ∃ w4, w4 = w3.alloc (.cells #[.string x.m, .int .i64 x.at_, .int .i64 x.cnt, .string x.text] 34) := ⟨_, rfl⟩
    rw [← hw4] at hX c0 c1 hD4 hB hown hsl ⊢
    obtain ⟨bx, hbx⟩ : ∃ bx, bx = w3.heap.size := ⟨_, rfl⟩
    rw [← hbx] at hX hsl hob hdz ⊢
    clear hw4 hbx hal3 hD3 hK3
    go_wp2_with fail
    refine (nexti _ d 5 hD4 (by omega) (by omega)).mono ?_
    rintro e w5 ⟨r5, hr5, rfl, hD, hK⟩
    have hz4 := hB.size
    have hwd : w.heap.size < w4.heap.size := World.block_lt_of_cell? _ _ c0
    have c0 := (hK.cell (p := ⟨w.heap.size, 0, none⟩) hwd (by simp; omega)).trans c0
    have c1 := (hK.cell (p := ⟨w.heap.size, 1, none⟩) hwd (by simp; omega)).trans c1
    have hX := hX.k1 hK (by omega)
    have hB := Kp.below hB hK hz4 (by simp; omega)
    have hown := Own.kp hown hK (by simp; omega)
    have hsl : Sl srcE 2 w5 bx lv l := by
      obtain ⟨A, c, e, q1, q2, q3⟩ := hsl
      have := hown.sl srcE_len (by omega)
      obtain ⟨A', c', e', q1', q2', q3'⟩ := this
      rw [e] at e'
      injection e' with e1 e2 e3
      subst e1 e3
      refine ⟨A, c, e, q1, q2, ?_⟩
      rcases q3 with q3 | ⟨b, off, e4, hb, hc⟩
      · exact .inl q3
      · rcases q3' with q3' | ⟨b', off', e4', hb', hc'⟩
        · exact .inl q3'
        · rw [e4] at e4'
          injection e4' with e4'
          injection e4' with e5 e6
          subst e5 e6
          exact .inr ⟨b, off, e4, hb, hc'⟩
    clear hK hD4 hwd
    go_upto_block 0 with fail
    go_cut [6] (fun lv wx => MadeCut w d bx lv wx)
    case first =>
      have hr : r5 = 0 ∨ r5 = 1 ∨ r5 = 2 ∨ r5 = 3 ∨ r5 = 4 := by omega
      have hxb := hX.lt
      obtain ⟨a0, a1, a2, a3⟩ := hX.at_
      have f1 := hX.fr 1
      have f2 := hX.fr 2
      obtain ⟨q1, q2, q3, q4, q5, q6⟩ := hx
      rcases hr with rfl | rfl | rfl | rfl | rfl
      · go_wp2_with fail
        go_meet
        exact ⟨l, { x with at_ := n0 }, srcl_sz hL, by have := hL.2.1; omega, ⟨q1, q2, h0.1, h0.2, q5, q6⟩, (hsl.set _ _).more (by simp [World.setCell]; omega), hX.put rfl, hD.kp ((Kp.refl [bx] _).set (p := ⟨bx, 1, none⟩) (by simp) _) (by simp; omega), hB.setCell (by show w.heap.size ≤ bx; omega) _, fun k hk => (hob k hk).1⟩
      · go_wp2_with fail
        go_meet
        exact ⟨l, { x with cnt := n1 }, srcl_sz hL, by have := hL.2.1; omega, ⟨q1, q2, q3, q4, h1.1, h1.2⟩, (hsl.set _ _).more (by simp [World.setCell]; omega), hX.put rfl, hD.kp ((Kp.refl [bx] _).set (p := ⟨bx, 2, none⟩) (by simp) _) (by simp; omega), hB.setCell (by show w.heap.size ≤ bx; omega) _, fun k hk => (hob k hk).1⟩
      · obtain ⟨A, cc, e, z1, z2, z3⟩ := hsl
        subst e
        rcases z3 with z3 | ⟨b, off, rfl, hb, hc⟩
        · have := hL.1
          rw [z3] at this; simp at this
        have hbo := hob b (by simp [Value.ownBlock])
        have hl3 := hL.2.1
        unfold maxLen at z2
        go_wp2_with fail
        refine (nexti _ d l.length hD (by have := hL.1; omega) (by omega)).mono ?_
        rintro e w6 ⟨rk, hrk, rfl, hD6, hK6⟩
        obtain ⟨y, hy⟩ : ∃ y, l[rk]? = some y := ⟨_, List.getElem?_eq_getElem (by omega)⟩
        have hb5 : b < w5.heap.size := by omega
        have c3 : w6.cell? ⟨b, off + rk * 2, none⟩ = some (.string y.1) := (hK6.cell (p := ⟨b, off + rk * 2, none⟩) hb5 (by simp; omega)).trans (hc rk y hy 0 (.string y.1) rfl)
        have c4 : w6.cell? ⟨b, off + rk * 2 + 1, none⟩ = some (.string y.2) := (hK6.cell (p := ⟨b, off + rk * 2 + 1, none⟩) hb5 (by simp; omega)).trans (hc rk y hy 1 (.string y.2) rfl)
        have hX6 := hX.k1 hK6 (by omega)
        have hB6 := Kp.below hB hK6 hB.size (by simp; omega)
        have hown6 := Own.kp hown hK6 (by simp; omega)
        have hym := List.mem_of_getElem? hy
        have hx6 := hX6.lt
        have h16 : w1.heap.size ≤ w6.heap.size := by have := hown.blk b (by simp [Value.ownBlock]); have := hK6.size; omega
        have hw6 : w.heap.size ≤ w6.heap.size := hB6.size
        clear hc hy hX hB hown hD hK6 a0 a1 a2 a3 f1 f2
        go_wp2_with (at_builtin; refine wpl_append _ rfl _ _ 31 rfl _ 2 32 elSrc w1.heap.size _ (l.flatMap srcE) rfl (hown6.alloc _) (some ⟨_, 0, none⟩) 1 1 [.string _, .string _] rfl rfl (at_lit2 _ _ _ _) (one_two _ _) (push_len (x := y) hl3 (by omega)).1 (push_len (x := y) hl3 (by omega)).2 (by simp; omega) ?_; intro v9 w9 ho9 hg9 hat9)
        go_meet
        have hal6 : ∀ o, Below w6.heap.size w6 (w6.alloc o) := fun o => (Below.refl _ _).alloc (Nat.le_refl _) _
        have ho9' : Own w9 w1.heap.size 39 2 v9 ((l ++ [y]).flatMap srcE) := by rw [← flat_snoc]; exact ho9
        have hbb : ∀ k, (Value.slice (some ⟨b, off, none⟩) l.length cc).ownBlock = some k → k = b := fun k hk => by simpa [Value.ownBlock] using hk.symm
        refine ⟨l ++ [y], x, szok_snoc (srcl_sz hL) hym, by simp; omega, ⟨q1, q2, q3, q4, q5, q6⟩, ho9'.sl srcE_len (by omega), ?_, ?_, ?_, ?_⟩
        · exact (hg9.block bx (by simp; omega) (fun e => by have := hbb bx e.symm; omega)).trans (hX6.of (hal6 _))
        · exact (hD6.of (hal6 _)).grown hg9 (fun k hk => by have := hbb k hk; omega)
        · exact (hB6.alloc (by omega) _).grown hg9 (by simp; omega) (fun k hk => by have := hbb k hk; omega)
        · intro k hk
          have := ho9'.blk k hk
          omega
      · go_wp2_with fail
        go_meet
        exact ⟨l, x, srcl_sz hL, by have := hL.2.1; omega, ⟨q1, q2, q3, q4, q5, q6⟩, hsl.more (by omega), hX, hD, hB, fun k hk => (hob k hk).1⟩
      · go_wp2_with fail
        go_meet
        exact ⟨l, x, srcl_sz hL, by have := hL.2.1; omega, ⟨q1, q2, q3, q4, q5, q6⟩, hsl.more (by omega), hX, hD, hB, fun k hk => (hob k hk).1⟩
    case rest =>
      obtain ⟨l', x', s1, s2, s3, s4, s5, s6, s7, s8⟩ := hcut
      have hdx : bx ≠ d := by omega
      clear hsl hX hD hB c0 c1 hown hob hx hL hD2 hr5
      obtain ⟨a0, a1, a2, a3⟩ := s5.at_
      go_upto_region 13 with fail
      go_region_held3 (fun w' => w'.cell? ⟨bx, 0, none⟩ = some (.string x'.m) ∧ w'.cell? ⟨bx, 1, none⟩ = some (.int .i64 x'.at_) ∧ w'.cell? ⟨bx, 2, none⟩ = some (.int .i64 x'.cnt) ∧ w'.cell? ⟨bx, 3, none⟩ = some (.string x'.text)) (first | exact ⟨a0, a1, a2, a3⟩ | go_keep) (first
        | (go_at_call 9; (with_reducible refine (awake_any _).mono ?_); rintro e wa ⟨rfl, hba⟩; have hbz := below_d hba; have s4 := s4.later hbz; have s5 := s5.of hbz; have s6 := s6.of hbz; have s7 := below_step s7 hbz; clear a0 a1 a2 a3; obtain ⟨a0, a1, a2, a3⟩ := s5.at_)
        | (go_at_call 25; (with_reducible refine (of_lit 4 _ d s6 _ _ _ ?_ ?_ ?_ ?_).mono ?_); rfl; rfl; omega; omega; rintro e wo ⟨so, hso, rfl, hDo, hKo⟩; have s4 := s4.k1 hKo s8; have s5 := s5.k1 hKo hdx; have s7 := Kp.below s7 hKo s7.size (by simp; omega); clear a0 a1 a2 a3; obtain ⟨a0, a1, a2, a3⟩ := s5.at_)
        | (go_at_call 23; (refine (agree_any l' (_, ⟨#[120]⟩) x' _ _ s4 s1 ?_ ?_ ?_ s3).mono ?_); omega; exact Nat.le_trans hso (by omega); (show (1 : Nat) ≤ _; omega); rintro e wz ⟨rfl, hbz⟩; have s7 := below_step s7 hbz; have a0 := (hbz.cell (p := ⟨bx, 0, none⟩) s5.lt).trans a0; have a1 := (hbz.cell (p := ⟨bx, 1, none⟩) s5.lt).trans a1; have a2 := (hbz.cell (p := ⟨bx, 2, none⟩) s5.lt).trans a2; have a3 := (hbz.cell (p := ⟨bx, 3, none⟩) s5.lt).trans a3))
      go_wp2_with fail
      go_ret
      exact ⟨rfl, s7⟩
  · have g0 : decide ((ns.length : Int) ≤ 400) = false := by simpa using h400
    go_enter Try.func7, Try.ntmps7
    go_wp2_with fail
    refine (light_any _ v ns hv1).mono ?_
    rintro e w1 ⟨rfl, rfl⟩
    go_wp2_with fail
    refine (awake_any _).mono ?_
    rintro e w2 ⟨rfl, hb⟩
    go_wp2_with fail
    go_ret
    exact ⟨rfl, below_step hal hb⟩
end Go.Proofs.Ytpjpndbagkcgcaa
