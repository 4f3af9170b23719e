/- The reference's Put. -/
import Derived.Test.YtpjpndbagkcgcaaB1
import Derived.Test.YtpjpndbagkcgcaaA8
set_option linter.unusedVariables false
set_option linter.unusedSimpArgs false
namespace Go.Proofs.Ytpjpndbagkcgcaa
open Go.RowKit

def rp (s : Src) : List Src → Bool → List Src
  | [], done => if done then [] else [s]
  | x :: r, done => (if !done && !bl x.1 s.1 then [s] else []) ++ ((if nameIs s.1 x then [] else [x]) ++ rp s r (done || !bl x.1 s.1))
def refputP (l : List Src) (s : Src) : List Src × Int := if checkL l then (if okSrc s then (rp s l false, 0) else (l, 2)) else (l, 1)

theorem rp_step {s x : Src} {l ys : List Src} {k : Nat} {d : Bool} (H : Hid (ys ++ rp s (l.drop k) d = rp s l false)) (hx : l[k]? = some x) {zs : List Src} {d' : Bool}
    (hz : zs = ys ++ ((if !d && !bl x.1 s.1 then [s] else []) ++ (if nameIs s.1 x then [] else [x]))) (hd : d' = (d || !bl x.1 s.1)) : Hid (zs ++ rp s (l.drop (k + 1)) d' = rp s l false) := by
  obtain ⟨hk, e⟩ := List.getElem?_eq_some_iff.1 hx
  have h := H.out
  rw [List.drop_eq_getElem_cons hk, e] at h
  show _ = _
  rw [← h, hz, hd]
  simp only [rp, List.append_assoc]

theorem at_lit2 (w : World) (x y : Value) (t : TypeId) : At (w.alloc (.cells #[x, y] t)) (some ⟨w.heap.size, 0, none⟩) [x, y] := by
  refine .inr ⟨_, 0, rfl, fun j u hu => ?_⟩
  rw [Nat.zero_add, cell_of_row _ _ _ _ _ _ (heap_alloc_new w _)]
  simpa using hu
theorem one_two (a b : ByteArray) : ∀ u ∈ [Value.string a, Value.string b], u.oneCell' = true := by
  intro u hu
  simp only [List.mem_cons, List.not_mem_nil, or_false] at hu
  rcases hu with rfl | rfl <;> rfl
theorem flat_snoc (l : List Src) (x : Src) : l.flatMap srcE ++ [.string x.1, .string x.2] = (l ++ [x]).flatMap srcE := by simp [srcE]

/-- one element, appended -/
theorem own_push {w0 wr wm w1 : World} {B : Nat} {v v' : Value} {ys : List Src} {x : Src} {c : Obj} (hb : Below B w0 wr) (hB : B ≤ wr.heap.size) (hown : Own wr B 39 2 v (ys.flatMap srcE)) (hd : Dr wr wm)
    (ho : Own w1 B 39 2 v' (ys.flatMap srcE ++ [.string x.1, .string x.2])) (hg : (wm.alloc c).grownBy w1 v.ownBlock) : Below B w0 w1 ∧ Own w1 B 39 2 v' ((ys ++ [x]).flatMap srcE) ∧ B ≤ w1.heap.size := by
  obtain ⟨n, rfl⟩ := hd
  refine ⟨((below_drewN hb n).alloc (by simpa using hB) c).grown hg (by simp; omega) (fun k hk => (hown.blk k hk).1), ?_, ?_⟩
  · rw [← flat_snoc]; exact ho
  · have := hg.size
    simp at this
    omega
theorem Own.dr {w w' : World} {B : Nat} {e : TypeId} {size : Nat} {v : Value} {xs : List Value} (h : Own w B e size v xs) (hd : Dr w w') : Own w' B e size v xs := by
  obtain ⟨n, rfl⟩ := hd; exact h
theorem push_len {ys : List Src} {x : Src} {n : Nat} (h : ys.length ≤ n) (hn : n ≤ 2100000000000) : (ys.flatMap srcE).length + [Value.string x.1, .string x.2].length ≤ maxLen ∧ ((ys.flatMap srcE).length + [Value.string x.1, .string x.2].length) * 32 ≤ 140737488355328 := by
  rw [srcs_len]; simp only [List.length_cons, List.length_nil]; unfold maxLen; omega

set_option maxHeartbeats 4000000 in
set_option maxRecDepth 100000 in
theorem refput_loop (l : List Src) (s : Src) (v : Value) (w : World) (hv : Sl srcE 2 w w.heap.size v l) (hs : SzOk l) (hl : l.length ≤ 1000000000000) (hc : checkL l = true) (h1 : s.1.size ≤ 140737488355328) (h2 : s.2.size ≤ 140737488355328) (hok : okSrc s = true) :
    Calls Try.prog 38 #[v, .agg #[.string s.1, .string s.2]] w (PostL w (rp s l false, 0)) := by
  have hb0 : Below w.heap.size w (w.alloc (.cells #[.string s.1, .string s.2] 39)) := (Below.refl _ _).alloc (Nat.le_refl _) _
  have hv0 := hv.later hb0
  have he : errB (checkL l) = 0 := errB_t hc
  have hnm : named s.1.toList = true ∧ decide ((20000 : Int) < (s.2.size : Int)) = false := by
    simp only [okSrc, Bool.and_eq_true, decide_eq_true_eq] at hok
    exact ⟨hok.1, by simp; omega⟩
  obtain ⟨hnm, hmx⟩ := hnm
  obtain ⟨e1, e2⟩ := cell_new2 w (.string s.1) (.string s.2) 39
  have h1' : s.1.size ≤ maxLen := by unfold maxLen; omega
  clear hc hok
  go_enter Try.func38, Try.ntmps38
  go_wp2_with fail
  refine (refcheck_any l _ _ hv0 hs).mono ?_
  rintro e w1 ⟨rfl, hb1⟩
  have f1 := (hb1.cell (p := ⟨w.heap.size, 0, none⟩) (by simp)).trans e1
  have f2 := (hb1.cell (p := ⟨w.heap.size, 1, none⟩) (by simp)).trans e2
  have hbw := below_step hb0 hb1
  have hv1 := hv0.later hb1
  have hz1 := hb1.size
  simp only [World.size_alloc] at hz1
  obtain ⟨A, c, rfl, hnc, hcap, hcell⟩ := hv1
  unfold maxLen at hcap
  clear e1 e2 hb0 hb1 hv hv0
  go_wp2_with (go_at_call 55; refine (refnamed_any _ _ h1').mono ?_; rintro e w2 ⟨rfl, rfl⟩; rw [hnm])
  go_loopw [6, 7, 8] (fun o d i wr => ∃ k ys, ∃ db : Bool, k ≤ l.length ∧ i = .int .i64 k ∧ d = .bool db ∧ Below w1.heap.size w1 wr ∧ w1.heap.size ≤ wr.heap.size ∧ Own wr w1.heap.size 39 2 o (ys.flatMap srcE) ∧ ys.length ≤ 2 * k ∧ Hid (ys ++ rp s (l.drop k) db = rp s l false)) (fun o d i _ => l.length - (intOf i).toNat)
  case atStart => exact ⟨0, [], false, Nat.zero_le _, rfl, rfl, Below.refl _ _, Nat.le_refl _, Own.nil_ _ _ _ _, Nat.le_refl _, rfl⟩
  case round =>
    obtain ⟨k, ys, db, hk, rfl, rfl, hb, hB, hown, hys, H⟩ := hrel
    have g1 := (hb.cell (p := ⟨w.heap.size, 0, none⟩) (by show w.heap.size < _; omega)).trans f1
    have g2 := (hb.cell (p := ⟨w.heap.size, 1, none⟩) (by show w.heap.size < _; omega)).trans f2
    by_cases hlt : k < l.length
    · rcases hcell with rfl | ⟨b, off, rfl, hbB, hcell⟩
      · simp at hlt
      obtain ⟨x, hx⟩ : ∃ x, l[k]? = some x := ⟨_, List.getElem?_eq_getElem hlt⟩
      obtain ⟨c1, c2⟩ := src_at hcell hx
      have d1 := (hb.cell (by exact hbB)).trans c1
      have d2 := (hb.cell (by exact hbB)).trans c2
      have Hx := hid hx
      clear hx
      cases hbl : bl x.1 s.1
      · have hbl' : Op.bytesLess x.1.toList s.1.toList = false := hbl
        have Hbl := hid hbl
        clear hbl
        cases hn : nameIs s.1 x
        · have hn' : (x.1.toList == s.1.toList) = false := hn
          have Hn := hid hn
          clear hn
          cases db
          · go_wp2_with fail
            go_quiet (fail)
            go_wp2_with (at_builtin; refine wpl_append _ rfl _ _ 31 rfl _ 2 32 elSrc w1.heap.size _ (ys.flatMap srcE) rfl ((hown.dr (by first | exact Dr.refl _ | exact ⟨_, rfl⟩ | exact ((Dr.refl _).next _).next _)).alloc _) (some ⟨_, 0, none⟩) 1 1 [.string s.1, .string s.2] rfl rfl (at_lit2 _ _ _ _) (one_two _ _) (push_len hys (by omega)).1 (push_len hys (by omega)).2 (by simp; omega) ?_; intro vs w2s ho2 hg2 hat2; obtain ⟨hb, hown, hB⟩ := own_push (x := s) hb hB hown (by first | exact Dr.refl _ | exact ⟨_, rfl⟩ | exact ((Dr.refl _).next _).next _) ho2 hg2; clear ho2 hg2 hat2; have hys2 : (ys ++ [s]).length ≤ 2 * k + 1 := (by simp; omega); have g1 := (hb.cell (p := ⟨w.heap.size, 0, none⟩) (by show w.heap.size < _; omega)).trans f1; have d1 := (hb.cell (p := ⟨b, off + k * 2, none⟩) hbB).trans c1; have d2 := (hb.cell (p := ⟨b, off + k * 2 + 1, none⟩) hbB).trans c2)
            go_quiet (fail)
            go_wp2_with (at_builtin; refine wpl_append _ rfl _ _ 31 rfl _ 2 32 elSrc w1.heap.size _ ((ys ++ [s]).flatMap srcE) rfl ((hown.dr (by first | exact Dr.refl _ | exact ⟨_, rfl⟩ | exact ((Dr.refl _).next _).next _)).alloc _) (some ⟨_, 0, none⟩) 1 1 [.string x.1, .string x.2] rfl rfl (at_lit2 _ _ _ _) (one_two _ _) (push_len hys2 (by omega)).1 (push_len hys2 (by omega)).2 (by simp; omega) ?_; intro vx w2x ho2 hg2 hat2; obtain ⟨hb, hown, hB⟩ := own_push (x := x) hb hB hown (by first | exact Dr.refl _ | exact ⟨_, rfl⟩ | exact ((Dr.refl _).next _).next _) ho2 hg2; clear ho2 hg2 hat2)
            go_roundw
            case rel => exact ⟨k + 1, _, true, by omega, by go_num, rfl, hb, hB, hown, (by first | omega | (simp; omega)), (rp_step H Hx.out (by simp [Hbl.out, Hn.out]) (by simp [Hbl.out]))⟩
            case measure => simp [intOf]; omega
          · go_wp2_with fail
            go_quiet (fail)
            go_wp2_with fail
            go_quiet (fail)
            go_wp2_with (at_builtin; refine wpl_append _ rfl _ _ 31 rfl _ 2 32 elSrc w1.heap.size _ (ys.flatMap srcE) rfl ((hown.dr (by first | exact Dr.refl _ | exact ⟨_, rfl⟩ | exact ((Dr.refl _).next _).next _)).alloc _) (some ⟨_, 0, none⟩) 1 1 [.string x.1, .string x.2] rfl rfl (at_lit2 _ _ _ _) (one_two _ _) (push_len hys (by omega)).1 (push_len hys (by omega)).2 (by simp; omega) ?_; intro vx w2x ho2 hg2 hat2; obtain ⟨hb, hown, hB⟩ := own_push (x := x) hb hB hown (by first | exact Dr.refl _ | exact ⟨_, rfl⟩ | exact ((Dr.refl _).next _).next _) ho2 hg2; clear ho2 hg2 hat2)
            go_roundw
            case rel => exact ⟨k + 1, _, true, by omega, by go_num, rfl, hb, hB, hown, (by first | omega | (simp; omega)), (rp_step H Hx.out (by simp [Hbl.out, Hn.out]) (by simp [Hbl.out]))⟩
            case measure => simp [intOf]; omega
        · have hn' : (x.1.toList == s.1.toList) = true := hn
          have Hn := hid hn
          clear hn
          cases db
          · go_wp2_with fail
            go_quiet (fail)
            go_wp2_with (at_builtin; refine wpl_append _ rfl _ _ 31 rfl _ 2 32 elSrc w1.heap.size _ (ys.flatMap srcE) rfl ((hown.dr (by first | exact Dr.refl _ | exact ⟨_, rfl⟩ | exact ((Dr.refl _).next _).next _)).alloc _) (some ⟨_, 0, none⟩) 1 1 [.string s.1, .string s.2] rfl rfl (at_lit2 _ _ _ _) (one_two _ _) (push_len hys (by omega)).1 (push_len hys (by omega)).2 (by simp; omega) ?_; intro vs w2s ho2 hg2 hat2; obtain ⟨hb, hown, hB⟩ := own_push (x := s) hb hB hown (by first | exact Dr.refl _ | exact ⟨_, rfl⟩ | exact ((Dr.refl _).next _).next _) ho2 hg2; clear ho2 hg2 hat2; have hys2 : (ys ++ [s]).length ≤ 2 * k + 1 := (by simp; omega); have g1 := (hb.cell (p := ⟨w.heap.size, 0, none⟩) (by show w.heap.size < _; omega)).trans f1; have d1 := (hb.cell (p := ⟨b, off + k * 2, none⟩) hbB).trans c1; have d2 := (hb.cell (p := ⟨b, off + k * 2 + 1, none⟩) hbB).trans c2)
            go_quiet (fail)
            go_wp2_with fail
            go_roundw
            case rel => exact ⟨k + 1, _, true, by omega, by go_num, rfl, (below_dr hb (by first | exact Dr.refl _ | exact ⟨_, rfl⟩ | exact ((Dr.refl _).next _).next _)), (by first | omega | (simp; omega)), (hown.dr (by first | exact Dr.refl _ | exact ⟨_, rfl⟩ | exact ((Dr.refl _).next _).next _)), (by first | omega | (simp; omega)), (rp_step H Hx.out (by simp [Hbl.out, Hn.out]) (by simp [Hbl.out]))⟩
            case measure => simp [intOf]; omega
          · go_wp2_with fail
            go_quiet (fail)
            go_wp2_with fail
            go_quiet (fail)
            go_wp2_with fail
            go_roundw
            case rel => exact ⟨k + 1, _, true, by omega, by go_num, rfl, (below_dr hb (by first | exact Dr.refl _ | exact ⟨_, rfl⟩ | exact ((Dr.refl _).next _).next _)), (by first | omega | (simp; omega)), (hown.dr (by first | exact Dr.refl _ | exact ⟨_, rfl⟩ | exact ((Dr.refl _).next _).next _)), (by first | omega | (simp; omega)), (rp_step H Hx.out (by simp [Hbl.out, Hn.out]) (by simp [Hbl.out]))⟩
            case measure => simp [intOf]; omega
      · have hbl' : Op.bytesLess x.1.toList s.1.toList = true := hbl
        have Hbl := hid hbl
        clear hbl
        cases hn : nameIs s.1 x
        · have hn' : (x.1.toList == s.1.toList) = false := hn
          have Hn := hid hn
          clear hn
          cases db
          · go_wp2_with fail
            go_quiet (fail)
            go_wp2_with fail
            go_quiet (fail)
            go_wp2_with (at_builtin; refine wpl_append _ rfl _ _ 31 rfl _ 2 32 elSrc w1.heap.size _ (ys.flatMap srcE) rfl ((hown.dr (by first | exact Dr.refl _ | exact ⟨_, rfl⟩ | exact ((Dr.refl _).next _).next _)).alloc _) (some ⟨_, 0, none⟩) 1 1 [.string x.1, .string x.2] rfl rfl (at_lit2 _ _ _ _) (one_two _ _) (push_len hys (by omega)).1 (push_len hys (by omega)).2 (by simp; omega) ?_; intro vx w2x ho2 hg2 hat2; obtain ⟨hb, hown, hB⟩ := own_push (x := x) hb hB hown (by first | exact Dr.refl _ | exact ⟨_, rfl⟩ | exact ((Dr.refl _).next _).next _) ho2 hg2; clear ho2 hg2 hat2)
            go_roundw
            case rel => exact ⟨k + 1, _, false, by omega, by go_num, rfl, hb, hB, hown, (by first | omega | (simp; omega)), (rp_step H Hx.out (by simp [Hbl.out, Hn.out]) (by simp [Hbl.out]))⟩
            case measure => simp [intOf]; omega
          · go_wp2_with fail
            go_quiet (fail)
            go_wp2_with fail
            go_quiet (fail)
            go_wp2_with (at_builtin; refine wpl_append _ rfl _ _ 31 rfl _ 2 32 elSrc w1.heap.size _ (ys.flatMap srcE) rfl ((hown.dr (by first | exact Dr.refl _ | exact ⟨_, rfl⟩ | exact ((Dr.refl _).next _).next _)).alloc _) (some ⟨_, 0, none⟩) 1 1 [.string x.1, .string x.2] rfl rfl (at_lit2 _ _ _ _) (one_two _ _) (push_len hys (by omega)).1 (push_len hys (by omega)).2 (by simp; omega) ?_; intro vx w2x ho2 hg2 hat2; obtain ⟨hb, hown, hB⟩ := own_push (x := x) hb hB hown (by first | exact Dr.refl _ | exact ⟨_, rfl⟩ | exact ((Dr.refl _).next _).next _) ho2 hg2; clear ho2 hg2 hat2)
            go_roundw
            case rel => exact ⟨k + 1, _, true, by omega, by go_num, rfl, hb, hB, hown, (by first | omega | (simp; omega)), (rp_step H Hx.out (by simp [Hbl.out, Hn.out]) (by simp [Hbl.out]))⟩
            case measure => simp [intOf]; omega
        · have hn' : (x.1.toList == s.1.toList) = true := hn
          have Hn := hid hn
          clear hn
          cases db
          · go_wp2_with fail
            go_quiet (fail)
            go_wp2_with fail
            go_quiet (fail)
            go_wp2_with fail
            go_roundw
            case rel => exact ⟨k + 1, _, false, by omega, by go_num, rfl, (below_dr hb (by first | exact Dr.refl _ | exact ⟨_, rfl⟩ | exact ((Dr.refl _).next _).next _)), (by first | omega | (simp; omega)), (hown.dr (by first | exact Dr.refl _ | exact ⟨_, rfl⟩ | exact ((Dr.refl _).next _).next _)), (by first | omega | (simp; omega)), (rp_step H Hx.out (by simp [Hbl.out, Hn.out]) (by simp [Hbl.out]))⟩
            case measure => simp [intOf]; omega
          · go_wp2_with fail
            go_quiet (fail)
            go_wp2_with fail
            go_quiet (fail)
            go_wp2_with fail
            go_roundw
            case rel => exact ⟨k + 1, _, true, by omega, by go_num, rfl, (below_dr hb (by first | exact Dr.refl _ | exact ⟨_, rfl⟩ | exact ((Dr.refl _).next _).next _)), (by first | omega | (simp; omega)), (hown.dr (by first | exact Dr.refl _ | exact ⟨_, rfl⟩ | exact ((Dr.refl _).next _).next _)), (by first | omega | (simp; omega)), (rp_step H Hx.out (by simp [Hbl.out, Hn.out]) (by simp [Hbl.out]))⟩
            case measure => simp [intOf]; omega
    · have hdr : l.drop k = [] := List.drop_eq_nil_of_le (by omega)
      cases db
      · have H2 : Hid (rp s l false = ys ++ [s]) := by have e := H.out; rw [hdr] at e; exact e.symm
        clear H hdr hcell
        go_wp2_with (at_builtin; refine wpl_append _ rfl _ _ 31 rfl _ 2 32 elSrc w1.heap.size _ (ys.flatMap srcE) rfl ((hown.dr (by first | exact Dr.refl _ | exact ⟨_, rfl⟩ | exact ((Dr.refl _).next _).next _)).alloc _) (some ⟨_, 0, none⟩) 1 1 [.string s.1, .string s.2] rfl rfl (at_lit2 _ _ _ _) (one_two _ _) (push_len hys (by omega)).1 (push_len hys (by omega)).2 (by simp; omega) ?_; intro vs w2s ho2 hg2 hat2; obtain ⟨hb, hown, hB⟩ := own_push (x := s) hb hB hown (by first | exact Dr.refl _ | exact ⟨_, rfl⟩ | exact ((Dr.refl _).next _).next _) ho2 hg2; clear ho2 hg2 hat2)
        go_ret2
        rw [H2.out]
        exact ⟨_, rfl, hown.sl srcE_len (by omega), below_step hbw (hb.mono (Nat.le_refl _))⟩
      · have H2 : Hid (rp s l false = ys) := by have e := H.out; rw [hdr] at e; simp only [rp, if_true, List.append_nil] at e; exact e.symm
        clear H hdr hcell
        go_wp2_with fail
        go_ret2
        rw [H2.out]
        exact ⟨_, rfl, hown.sl srcE_len (by omega), below_step hbw hb⟩
end Go.Proofs.Ytpjpndbagkcgcaa
