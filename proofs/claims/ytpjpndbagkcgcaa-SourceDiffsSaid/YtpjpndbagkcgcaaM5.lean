/- Programs that are made: blocks. -/
import Derived.Test.YtpjpndbagkcgcaaM4
set_option linter.unusedVariables false
set_option linter.unusedSimpArgs false
namespace Go.Proofs.Ytpjpndbagkcgcaa
open Go.RowKit

theorem elStr : Elem Try.prog 63 9 1 16 :=
  ⟨Try.underlying63, by
    obtain ⟨i, hi, h1, h2, h3⟩ := info_parts (show (Try.prog.info? 9).map (fun i => (i.zero, i.size, i.bytes)) = some (some (.string ⟨#[]⟩), 1, 16) by kernel_rfl)
    exact ⟨i, _, hi, h1, h2, h3, rfl⟩, by omega⟩
theorem strs_one (l : List ByteArray) : ∀ u ∈ l.map Value.string, u.oneCell' = true := by
  intro u hu
  obtain ⟨x, _, rfl⟩ := List.mem_map.1 hu
  rfl

theorem onei (w : World) (d : Nat) (n : Int) (h : DiceOk w d) (hn : 1 ≤ n) (hn2 : n ≤ 9223372036854775807) :
    Calls Try.prog 51 #[.pointer (some ⟨d, 0, none⟩), .int .i64 n] w (PostB w d) := by
  obtain ⟨m, rfl⟩ : ∃ m : Nat, n = (m : Int) := ⟨n.toNat, by omega⟩
  exact one_any w d m h (by omega) (by omega)

section
variable {w w' w1 w2 : World} {B : Nat} {e : TypeId} {size : Nat} {v : Value} {bs : List Nat}
theorem Own.kp {xs : List Value} (h : Own w B e size v xs) (k : Kp bs w w') (hb : ∀ b ∈ bs, b < B) : Own w' B e size v xs := by
  rcases h with h | ⟨g, off, n, cap, cs, rfl, h1, hbg, hgg, rest⟩
  · exact .inl h
  · exact .inr ⟨g, off, n, cap, cs, rfl, h1, hbg, k.heap (fun hm => by have := hb _ hm; omega) hgg, rest⟩
theorem Own.rs {ys : List ByteArray} (h : Own w B e 1 v (ys.map Value.string)) (hb : ∀ b ∈ bs, b < B) : Rs bs w v ys := by
  rcases h with ⟨rfl, h⟩ | ⟨g, off, n, cap, cs, rfl, h1, hbg, hg, hnc, hc, hsz, hcs⟩
  · have : ys = [] := by simpa using h
    subst this
    exact Rs.nil_ bs w none 0 (by unfold maxLen; omega)
  · have hn : n = ys.length := by simpa using h1.symm
    subst hn
    refine ⟨_, cap, rfl, hnc, hc, .inr ⟨g, off, rfl, fun hm => by have := hb _ hm; omega, (Array.getElem?_eq_some_iff.1 hg).1, fun j s hj => ?_⟩⟩
    rw [cell_of_row _ _ _ _ _ _ hg]
    exact hcs j _ (by simp [hj])
theorem Rs.at_ {xs : List ByteArray} {A : Option Addr} {n c : Nat} (h : Rs bs w (.slice A n c) xs) : n = xs.length ∧ At w A (xs.map Value.string) := by
  obtain ⟨A', c', e, h1, h2, h3⟩ := h
  injection e with e1 e2 e3
  subst e1 e2 e3
  refine ⟨rfl, ?_⟩
  rcases h3 with rfl | ⟨b, off, e, _, _, hc⟩
  · exact .inl rfl
  · refine .inr ⟨b, off, e, fun j u hu => ?_⟩
    rw [List.getElem?_map] at hu
    obtain ⟨s, hs, rfl⟩ := Option.map_eq_some_iff.1 hu
    exact hc j s hs
theorem Kp.grown {row : Option Nat} (h : Kp bs w w1) (hg : w1.grownBy w2 row) (hr : ∀ k, row = some k → w.heap.size ≤ k) : Kp bs w w2 :=
  ⟨hg.os.trans h.1, hg.tape.trans h.2.1, hg.output.trans h.2.2.1, Nat.le_trans h.size hg.size, fun k hk hn => (hg.block k (Nat.lt_of_lt_of_le hk h.size) (fun e => by have := hr k e.symm; omega)).trans (h.2.2.2.2 k hk hn)⟩
theorem PrAt.re {d p V0 V : Nat} {g : Pg} (h0 : PrAt w d p g V0) (hK : Kp [d, p] w w2) (h1 : PrAt w1 d p g V) (hg : w2.heap[p]? = w1.heap[p]?) : PrAt w2 d p g V := by
  obtain ⟨_, _, _, n1, n2, n3⟩ := h0
  obtain ⟨x, hx, hrow, _⟩ := h1
  exact ⟨x, hx, hg.trans hrow, n1.kp hK (fun b hb => hb), n2.kp hK (fun b hb => hb), n3.kp hK (fun b hb => hb)⟩
theorem DiceOk.grown {d : Nat} {row : Option Nat} (h : DiceOk w1 d) (hg : w1.grownBy w2 row) (hr : ∀ k, row = some k → d < k) : DiceOk w2 d := by
  have k : Kp row.toList w1 w2 := ⟨hg.os, hg.tape, hg.output, hg.size, fun k hk hn => hg.block k hk (fun e => hn (by simp [e.symm]))⟩
  exact h.kp k (fun b hb => hr b (by simpa using hb))
/-- one more variable -/
theorem PrAt.bump {d p V : Nat} {g : Pg} {x : Nat} (h : PrAt w d p g V) (hrow : w.heap[p]? = some (.cells #[.pointer (some ⟨d, 0, none⟩), g.fns, g.consts, g.macros, .bool g.r, .bool g.s, .int .i64 x, .bool g.m] 65 (0, 0))) (hx : x ≤ V) :
    PrAt (w.setCell ⟨p, 6, none⟩ (.int .i64 ((x : Int) + 1))) d p g (V + 1) := by
  obtain ⟨_, _, _, n1, n2, n3⟩ := h
  have k : Kp [d, p] w (w.setCell ⟨p, 6, none⟩ (.int .i64 ((x : Int) + 1))) := (Kp.refl _ _).set (p := ⟨p, 6, none⟩) (by simp) _
  refine ⟨x + 1, by omega, ?_, n1.kp k (fun b hb => hb), n2.kp k (fun b hb => hb), n3.kp k (fun b hb => hb)⟩
  simp only [World.setCell, Array.getElem?_modify, hrow, if_true]
  rfl
end

theorem at_lit1 (w : World) (x : Value) (t : TypeId) : At (w.alloc (.cells #[x] t)) (some ⟨w.heap.size, 0, none⟩) [x] := by
  refine .inr ⟨_, 0, rfl, fun j u hu => ?_⟩
  rw [Nat.zero_add, cell_of_row _ _ _ _ _ _ (heap_alloc_new w _)]
  simpa using hu
theorem one_one (a : ByteArray) : ∀ u ∈ [Value.string a], u.oneCell' = true := by
  intro u hu
  simp only [List.mem_cons, List.not_mem_nil, or_false] at hu
  subst hu; rfl
theorem names_snoc {ys : List ByteArray} {nm : ByteArray} (h : ∀ y ∈ ys, y.size ≤ 6) (hn : nm.size ≤ 6) : ∀ y ∈ ys ++ [nm], y.size ≤ 6 := by
  intro y hy
  simp only [List.mem_append, List.mem_cons, List.not_mem_nil, or_false] at hy
  rcases hy with hy | rfl
  · exact h _ hy
  · exact hn
/-- behind an append to a row of the call's own -/
theorem app_keep {w w1 w2 : World} {d p V0 V : Nat} {g : Pg} {v : Value} {xs : List Value} {o : Obj} {e : TypeId} (hP0 : PrAt w d p g V0) (hD : DiceOk w1 d) (hP : PrAt w1 d p g V) (hKt : Kp [d, p] w w1) (hown : Own w1 w.heap.size e 1 v xs) (hdp : d < p) (hpl : p < w.heap.size)
    (hg : (w1.alloc o).grownBy w2 v.ownBlock) : DiceOk w2 d ∧ PrAt w2 d p g V ∧ Kp [d, p] w w2 := by
  have hr : ∀ k, v.ownBlock = some k → w.heap.size ≤ k := fun k hk => (hown.blk k hk).1
  have hal : Below w1.heap.size w1 (w1.alloc o) := (Below.refl _ _).alloc (Nat.le_refl _) _
  have k1 : Kp [d, p] w w2 := (hKt.trans (Kp.of hal)).grown hg hr
  refine ⟨(hD.of hal).grown hg (fun k hk => by have := hr k hk; omega), hP0.re k1 hP ?_, k1⟩
  have hp1 : p < w1.heap.size := hP.lt
  rw [hg.block p (by simp; omega) (fun e => by have := hr p e.symm; omega), Below.heap_alloc w1 o p hp1]


set_option maxHeartbeats 16000000 in
set_option maxRecDepth 100000 in
theorem block_any (dep : Int) (h0 : 0 ≤ dep) (h100 : dep ≤ 100) (mi di m dv N L : Nat) (hN1 : N ≤ 900) (hI0 : Con 50 0 6 0 (N + 2)) (hI : Con 50 (dep - 1) mi di (N + 2))
    (hL1 : 15 + mi ≤ L) (hL2 : 72 ≤ L) (hm1 : 4 + 2 * L + mi ≤ m) (hm6 : m ≤ 100000) (hd1 : 2 * (1 + di) + di ≤ dv) : Con 32 dep m dv N := by
  intro w d p g V v xs hD hP hdp hV hR hx hN
  have hs1 : IntKind.i64.wrap (dep - 1) = dep - 1 := IntWalk.i64_in _ (by omega)
  have hKt : Kp [d, p] w w := Kp.refl _ _
  obtain ⟨c0, c1, c2, c3, c4, c5, c7⟩ := hP.cells
  have hP0 := hP
  have hpl := hP.lt
  have hR2 := hR
  obtain ⟨A0, cc0, rfl, hnc0, hc0, hcell0⟩ := hR2
  obtain ⟨_, hat0⟩ := hR.at_
  have hzf : ∀ j : Nat, j < 0 → True := fun _ _ => trivial
  clear hcell0
  go_enter Try.func32, Try.ntmps32
  go_upto_region 4 with (at_builtin; refine wpl_append _ rfl _ _ 63 rfl _ 1 16 elStr w.heap.size (.slice none 0 0) [] rfl (Own.nil_ _ _ _ _) A0 xs.length cc0 (xs.map Value.string) rfl (by simp) hat0 (strs_one xs) (by simp; unfold maxLen; omega) (by simp; omega) (Nat.le_refl _) ?_; intro v1 w1 hown hg1 hat1)
  have hb1 : Below w.heap.size w w1 := (Below.refl _ _).grown hg1 (Nat.le_refl _) (fun k hk => by simp [Value.ownBlock] at hk)
  rw [List.nil_append] at hown
  have hD := hD.of hb1
  have hP := hP.of hb1
  have hKt := hKt.trans (Kp.of (bs := [d, p]) hb1)
  clear hg1 hat1 hb1
  clear c0 c1 c2 c3 c4 c5 c7
  obtain ⟨c0, c1, c2, c3, c4, c5, c7⟩ := hP.cells
  go_wp2_with fail
  refine (nexti _ d _ hD (by omega) (by omega)).mono ?_
  rintro e w2 ⟨r0, hr0, rfl, hD, hK⟩
  have hP := hP.kp hK hdp
  have hKt := hKt.trans (hK.sub (sub1 d p))
  have hown := hown.kp hK (by simp; omega)
  clear c0 c1 c2 c3 c4 c5 c7 hK
  have hxl : ∀ y ∈ xs, y.size ≤ 6 := hx
  go_wp2_with fail
  go_loopw [8, 9, 10] (fun inn s n wr => ∃ (k : Nat) (str : ByteArray) (ys : List ByteArray), k ≤ 2 ∧ n = .int .i64 k ∧ s = .string str ∧ str.size ≤ 2 + (2 - k) * L ∧ DiceOk wr d ∧ PrAt wr d p g (V + (2 - k) * (1 + di)) ∧ Kp [d, p] w wr ∧
    Own wr w.heap.size 9 1 inn (ys.map Value.string) ∧ (∀ y ∈ ys, y.size ≤ 6) ∧ ys.length ≤ xs.length + (2 - k)) (fun inn s n _ => (intOf n).toNat)
  case atStart => exact ⟨r0, ⟨#[123, 32]⟩, xs, by omega, rfl, rfl, by show (2 : Nat) ≤ _; omega, hD, hP.le (by omega), hKt, hown, hx, by omega⟩
  case round =>
    obtain ⟨k, str, ys, hk, rfl, rfl, hstr, hD, hP, hKt, hown, hx, hyl⟩ := hrel
    have hk3 : k = 0 ∨ k = 1 ∨ k = 2 := by omega
    obtain ⟨VV, hVV, hVk⟩ : ∃ VV, VV = V + (2 - k) * (1 + di) ∧ (k = 0 ∨ VV + (1 + di) = V + (2 - (k - 1)) * (1 + di)) ∧ VV + di ≤ V + 2 * (1 + di) + di ∧ (k = 0 ∨ VV + (1 + di) ≤ V + 2 * (1 + di)) := ⟨_, rfl, by rcases hk3 with rfl | rfl | rfl <;> omega, by rcases hk3 with rfl | rfl | rfl <;> omega, by rcases hk3 with rfl | rfl | rfl <;> omega⟩
    obtain ⟨LL, hLL, hLk⟩ : ∃ LL, LL = 2 + (2 - k) * L ∧ (k = 0 ∨ LL + L = 2 + (2 - (k - 1)) * L) ∧ LL ≤ 2 + 2 * L := ⟨_, rfl, by rcases hk3 with rfl | rfl | rfl <;> omega, by rcases hk3 with rfl | rfl | rfl <;> omega⟩
    rw [← hVV] at hP
    rw [← hLL] at hstr
    clear hk3
    have HVV := hid hVV
    have HLL := hid hLL
    clear hVV hLL
    obtain ⟨A, nn, cc, rfl, hnn, hncc, hcc, hat⟩ := hown.form (by omega)
    obtain rfl : nn = ys.length := by simpa using hnn.symm
    have hR : Rs [d, p] wr (.slice A ys.length cc) ys := hown.rs (by simp; omega)
    have hcc' := hcc
    unfold maxLen at hcc
    obtain ⟨c0, c1, c2, c3, c4, c5, c7⟩ := hP.cells
    by_cases hpos : 0 < k
    · go_wp2_with fail
      refine (nexti _ d _ hD (by omega) (by omega)).mono ?_
      rintro e w3 ⟨r, hr, rfl, hD, hK⟩
      have hP := hP.kp hK hdp
      have hKt := hKt.trans (hK.sub (sub1 d p))
      have hown := hown.kp hK (by simp; omega)
      have hR := hR.kp hK (sub1 d p)
      clear c0 c1 c2 c3 c4 c5 c7 hK hat
      obtain ⟨c0, c1, c2, c3, c4, c5, c7⟩ := hP.cells
      have hr5 : r = 0 ∨ r = 1 ∨ r = 2 ∨ r = 3 ∨ r = 4 := by omega
      rcases hr5 with rfl | rfl | rfl | rfl | rfl
      · obtain ⟨x, hxV, hrow, hn1, hn2, hn3⟩ := hP
        have hP : PrAt w3 d p g VV := ⟨x, hxV, hrow, hn1, hn2, hn3⟩
        have c6 : w3.cell? ⟨p, 6, none⟩ = some (.int .i64 x) := by rw [cell_of_row _ _ _ _ _ _ hrow]; rfl
        have Hrow := hid hrow
        clear hrow hn1 hn2 hn3
        go_wp2_with fail
        refine (digits_any 3 x _ (by omega) (by omega) (by omega)).mono ?_
        rintro e w4 ⟨sd, hsd, rfl, hb⟩
        have hD := hD.of hb
        have hP := hP.of hb
        have hKt := hKt.trans (Kp.of (bs := [d, p]) hb)
        have hown := hown.later hb
        have hrow := (Kp.of (bs := []) hb).heap (by simp) Hrow.out
        have c6 : w4.cell? ⟨p, 6, none⟩ = some (.int .i64 x) := by rw [cell_of_row _ _ _ _ _ _ hrow]; rfl
        have f6 : w4.frozen? ⟨p, 6, none⟩ = false := by simp [World.frozen?, hrow]
        clear c0 c1 c2 c3 c4 c5 c7 hb Hrow
        obtain ⟨c0, c1, c2, c3, c4, c5, c7⟩ := hP.cells
        have hP5 := hP.bump hrow hxV
        have hK5 : Kp [d, p] w4 (w4.setCell ⟨p, 6, none⟩ (.int .i64 ((x : Int) + 1))) := (Kp.refl _ _).set (p := ⟨p, 6, none⟩) (by simp) _
        have hK5' : Kp [p] w4 (w4.setCell ⟨p, 6, none⟩ (.int .i64 ((x : Int) + 1))) := (Kp.refl _ _).set (p := ⟨p, 6, none⟩) (by simp) _
        clear hrow
        go_upto_region 15 with fail
        obtain ⟨w5, hw5⟩ : ∃ w5, w5 = w4.setCell ⟨p, 6, none⟩ (.int .i64 ((x : Int) + 1)) := ⟨_, rfl⟩
        rw [← hw5] at hP5 hK5 hK5' ⊢
        have hD := hD.kp hK5' (by simp; omega)
        have hP := hP5
        have hKt := hKt.trans hK5
        have hown := hown.kp hK5 (by simp; omega)
        have hR : Rs [d, p] w5 (.slice A ys.length cc) ys := hown.rs (by simp; omega)
        clear c0 c1 c2 c3 c4 c5 c7 c6 f6 hw5 hP5 hK5 hK5'
        obtain ⟨c0, c1, c2, c3, c4, c5, c7⟩ := hP.cells
        rcases Nat.eq_zero_or_pos ys.length with hz | hz
        · have g0 : decide (0 < ys.length) = false := by rw [decide_eq_false_iff_not]; omega
          have Hz := hid hz
          clear hz
          go_wp2_with (first
            | (go_at_call 50; (with_reducible refine (hI.use hD hP hdp ?_ hR hx ?_).mono ?_); omega; omega; rintro e w8 ⟨si, hsiz, rfl, hD, hP, hK⟩; have hKt := hKt.trans hK; have hown := hown.kp hK (by simp; omega); have hR := hR.kp hK (fun b hb => hb); obtain ⟨c0, c1, c2, c3, c4, c5, c7⟩ := hP.cells)
            | (at_builtin; refine wpl_append _ rfl _ _ 63 rfl _ 1 16 elStr w.heap.size _ (ys.map Value.string) rfl (hown.alloc _) (some ⟨_, 0, none⟩) 1 1 [.string _] rfl rfl (at_lit1 _ _ _) (one_one _) (by simp; unfold maxLen; omega) (by simp; omega) (by have := hKt.size; simp; omega) ?_; intro v9 w9 ho9 hg9 hat9; obtain ⟨hD, hP, hKt⟩ := app_keep hP0 hD hP hKt hown hdp hpl hg9))
          go_roundw
          case rel => exact ⟨k - 1, _, (ys ++ [_]), by omega, by go_num, rfl, by (try simp only [ByteArray.size_append, lit_size, List.size_toArray, List.length_cons, List.length_nil]); omega, hD, hP.le (by omega), hKt, (by simpa using ho9), (names_snoc hx (by simp only [ByteArray.size_append, lit_size, List.size_toArray, List.length_cons, List.length_nil]; omega)), by first | omega | (simp; omega)⟩
          case measure => simp [intOf]; omega
        · have g0 : decide (0 < ys.length) = true := by rw [decide_eq_true_iff]; exact hz
          obtain ⟨A2, c2', e2, _, _, hcell⟩ := id hR
          injection e2 with e2 e3 e4
          subst e2 e4
          rcases hcell with hcell | ⟨b, off, rfl, hb, hl, hcell⟩
          · rw [hcell] at hz; simp at hz
          have hS : ∀ (w' : World) (j : Nat), Kp [d, p] w5 w' → j < ys.length → ∃ y : ByteArray, y.size ≤ 6 ∧ w'.cell? ⟨b, off + j, none⟩ = some (.string y) := fun w' j k hj =>
            ⟨ys[j], hx _ (List.getElem_mem _), (k.cell hl hb).trans (hcell j _ (List.getElem?_eq_getElem hj))⟩
          have hKK : Kp [d, p] w5 w5 := Kp.refl _ _
          clear hcell
          go_upto_if 87 with (go_at_call 51; (with_reducible refine (onei _ d 3 hD ?_ ?_).mono ?_); omega; omega; rintro e w6 ⟨bo, rfl, hD, hK⟩; have hP := hP.kp hK hdp; have hKK := hKK.trans (hK.sub (sub1 d p)); have hKt := hKt.trans (hK.sub (sub1 d p)); have hown := hown.kp hK (by simp; omega))
          clear c0 c1 c2 c3 c4 c5 c7
          go_cut [11] (fun nm wx => ∃ y : ByteArray, nm = .string y ∧ y.size ≤ 6 ∧ DiceOk wx d ∧ PrAt wx d p g (VV + 1) ∧ Kp [d, p] w wx ∧ Own wx w.heap.size 9 1 (.slice (some ⟨b, off, none⟩) ys.length cc) (ys.map Value.string))
          case first =>
            obtain ⟨c0, _, _, _, _, _, c7⟩ := hP.cells
            cases bo
            · go_wp2_with fail
              go_meet
              exact ⟨_, rfl, by simp only [ByteArray.size_append, lit_size, List.size_toArray, List.length_cons, List.length_nil]; omega, hD, hP, hKt, hown⟩
            · cases hgm : g.m
              all_goals
                go_wp2_with (go_at_call 24; (with_reducible refine (nexti _ d _ hD ?_ ?_).mono ?_); omega; omega; rintro e w7 ⟨r, hr, rfl, hD, hK⟩; have hP := hP.kp hK hdp; have hKK := hKK.trans (hK.sub (sub1 d p)); have hKt := hKt.trans (hK.sub (sub1 d p)); have hown := hown.kp hK (by simp; omega); obtain ⟨y, hy6, cy⟩ := hS w7 r hKK (by omega); obtain ⟨c0, _, _, _, _, _, c7⟩ := hP.cells; rw [hgm] at c7; clear hgm)
                all_goals
                  go_meet
                  exact ⟨_, rfl, by first | assumption | (simp only [ByteArray.size_append, lit_size, List.size_toArray, List.length_cons, List.length_nil]; omega), hD, hP, hKt, hown⟩
          case rest =>
            obtain ⟨nm, rfl, hnm, hD, hP, hKt, hown⟩ := hcut
            have hR : Rs [d, p] wc (.slice (some ⟨b, off, none⟩) ys.length cc) ys := hown.rs (by simp; omega)
            obtain ⟨c0, c1, c2, c3, c4, c5, c7⟩ := hP.cells
            clear hS hKK hl hb
            go_wp2_with (first
              | (go_at_call 50; (with_reducible refine (hI.use hD hP hdp ?_ hR hx ?_).mono ?_); omega; omega; rintro e w8 ⟨si, hsiz, rfl, hD, hP, hK⟩; have hKt := hKt.trans hK; have hown := hown.kp hK (by simp; omega); have hR := hR.kp hK (fun b hb => hb); obtain ⟨c0, c1, c2, c3, c4, c5, c7⟩ := hP.cells)
              | (at_builtin; refine wpl_append _ rfl _ _ 63 rfl _ 1 16 elStr w.heap.size _ (ys.map Value.string) rfl (hown.alloc _) (some ⟨_, 0, none⟩) 1 1 [.string _] rfl rfl (at_lit1 _ _ _) (one_one _) (by simp; unfold maxLen; omega) (by simp; omega) (by have := hKt.size; simp; omega) ?_; intro v9 w9 ho9 hg9 hat9; obtain ⟨hD, hP, hKt⟩ := app_keep hP0 hD hP hKt hown hdp hpl hg9))
            go_roundw
            case rel => exact ⟨k - 1, _, (ys ++ [_]), by omega, by go_num, rfl, by (try simp only [ByteArray.size_append, lit_size, List.size_toArray, List.length_cons, List.length_nil]); omega, hD, hP.le (by omega), hKt, (by simpa using ho9), (names_snoc hx (by assumption)), by first | omega | (simp; omega)⟩
            case measure => simp [intOf]; omega
      · obtain ⟨x, hxV, hrow, hn1, hn2, hn3⟩ := hP
        have hP : PrAt w3 d p g VV := ⟨x, hxV, hrow, hn1, hn2, hn3⟩
        have c6 : w3.cell? ⟨p, 6, none⟩ = some (.int .i64 x) := by rw [cell_of_row _ _ _ _ _ _ hrow]; rfl
        have Hrow := hid hrow
        clear hrow hn1 hn2 hn3
        go_wp2_with fail
        refine (digits_any 3 x _ (by omega) (by omega) (by omega)).mono ?_
        rintro e w4 ⟨sd, hsd, rfl, hb⟩
        have hD := hD.of hb
        have hP := hP.of hb
        have hKt := hKt.trans (Kp.of (bs := [d, p]) hb)
        have hown := hown.later hb
        have hrow := (Kp.of (bs := []) hb).heap (by simp) Hrow.out
        have c6 : w4.cell? ⟨p, 6, none⟩ = some (.int .i64 x) := by rw [cell_of_row _ _ _ _ _ _ hrow]; rfl
        have f6 : w4.frozen? ⟨p, 6, none⟩ = false := by simp [World.frozen?, hrow]
        clear c0 c1 c2 c3 c4 c5 c7 hb Hrow
        obtain ⟨c0, c1, c2, c3, c4, c5, c7⟩ := hP.cells
        have hP5 := hP.bump hrow hxV
        have hK5 : Kp [d, p] w4 (w4.setCell ⟨p, 6, none⟩ (.int .i64 ((x : Int) + 1))) := (Kp.refl _ _).set (p := ⟨p, 6, none⟩) (by simp) _
        have hK5' : Kp [p] w4 (w4.setCell ⟨p, 6, none⟩ (.int .i64 ((x : Int) + 1))) := (Kp.refl _ _).set (p := ⟨p, 6, none⟩) (by simp) _
        clear hrow
        go_upto_region 15 with fail
        obtain ⟨w5, hw5⟩ : ∃ w5, w5 = w4.setCell ⟨p, 6, none⟩ (.int .i64 ((x : Int) + 1)) := ⟨_, rfl⟩
        rw [← hw5] at hP5 hK5 hK5' ⊢
        have hD := hD.kp hK5' (by simp; omega)
        have hP := hP5
        have hKt := hKt.trans hK5
        have hown := hown.kp hK5 (by simp; omega)
        have hR : Rs [d, p] w5 (.slice A ys.length cc) ys := hown.rs (by simp; omega)
        clear c0 c1 c2 c3 c4 c5 c7 c6 f6 hw5 hP5 hK5 hK5'
        obtain ⟨c0, c1, c2, c3, c4, c5, c7⟩ := hP.cells
        rcases Nat.eq_zero_or_pos ys.length with hz | hz
        · have g0 : decide (0 < ys.length) = false := by rw [decide_eq_false_iff_not]; omega
          have Hz := hid hz
          clear hz
          go_wp2_with (first
            | (go_at_call 50; (with_reducible refine (hI.use hD hP hdp ?_ hR hx ?_).mono ?_); omega; omega; rintro e w8 ⟨si, hsiz, rfl, hD, hP, hK⟩; have hKt := hKt.trans hK; have hown := hown.kp hK (by simp; omega); have hR := hR.kp hK (fun b hb => hb); obtain ⟨c0, c1, c2, c3, c4, c5, c7⟩ := hP.cells)
            | (at_builtin; refine wpl_append _ rfl _ _ 63 rfl _ 1 16 elStr w.heap.size _ (ys.map Value.string) rfl (hown.alloc _) (some ⟨_, 0, none⟩) 1 1 [.string _] rfl rfl (at_lit1 _ _ _) (one_one _) (by simp; unfold maxLen; omega) (by simp; omega) (by have := hKt.size; simp; omega) ?_; intro v9 w9 ho9 hg9 hat9; obtain ⟨hD, hP, hKt⟩ := app_keep hP0 hD hP hKt hown hdp hpl hg9))
          go_roundw
          case rel => exact ⟨k - 1, _, (ys ++ [_]), by omega, by go_num, rfl, by (try simp only [ByteArray.size_append, lit_size, List.size_toArray, List.length_cons, List.length_nil]); omega, hD, hP.le (by omega), hKt, (by simpa using ho9), (names_snoc hx (by simp only [ByteArray.size_append, lit_size, List.size_toArray, List.length_cons, List.length_nil]; omega)), by first | omega | (simp; omega)⟩
          case measure => simp [intOf]; omega
        · have g0 : decide (0 < ys.length) = true := by rw [decide_eq_true_iff]; exact hz
          obtain ⟨A2, c2', e2, _, _, hcell⟩ := id hR
          injection e2 with e2 e3 e4
          subst e2 e4
          rcases hcell with hcell | ⟨b, off, rfl, hb, hl, hcell⟩
          · rw [hcell] at hz; simp at hz
          have hS : ∀ (w' : World) (j : Nat), Kp [d, p] w5 w' → j < ys.length → ∃ y : ByteArray, y.size ≤ 6 ∧ w'.cell? ⟨b, off + j, none⟩ = some (.string y) := fun w' j k hj =>
            ⟨ys[j], hx _ (List.getElem_mem _), (k.cell hl hb).trans (hcell j _ (List.getElem?_eq_getElem hj))⟩
          have hKK : Kp [d, p] w5 w5 := Kp.refl _ _
          clear hcell
          go_upto_if 87 with (go_at_call 51; (with_reducible refine (onei _ d 3 hD ?_ ?_).mono ?_); omega; omega; rintro e w6 ⟨bo, rfl, hD, hK⟩; have hP := hP.kp hK hdp; have hKK := hKK.trans (hK.sub (sub1 d p)); have hKt := hKt.trans (hK.sub (sub1 d p)); have hown := hown.kp hK (by simp; omega))
          clear c0 c1 c2 c3 c4 c5 c7
          go_cut [11] (fun nm wx => ∃ y : ByteArray, nm = .string y ∧ y.size ≤ 6 ∧ DiceOk wx d ∧ PrAt wx d p g (VV + 1) ∧ Kp [d, p] w wx ∧ Own wx w.heap.size 9 1 (.slice (some ⟨b, off, none⟩) ys.length cc) (ys.map Value.string))
          case first =>
            obtain ⟨c0, _, _, _, _, _, c7⟩ := hP.cells
            cases bo
            · go_wp2_with fail
              go_meet
              exact ⟨_, rfl, by simp only [ByteArray.size_append, lit_size, List.size_toArray, List.length_cons, List.length_nil]; omega, hD, hP, hKt, hown⟩
            · cases hgm : g.m
              all_goals
                go_wp2_with (go_at_call 24; (with_reducible refine (nexti _ d _ hD ?_ ?_).mono ?_); omega; omega; rintro e w7 ⟨r, hr, rfl, hD, hK⟩; have hP := hP.kp hK hdp; have hKK := hKK.trans (hK.sub (sub1 d p)); have hKt := hKt.trans (hK.sub (sub1 d p)); have hown := hown.kp hK (by simp; omega); obtain ⟨y, hy6, cy⟩ := hS w7 r hKK (by omega); obtain ⟨c0, _, _, _, _, _, c7⟩ := hP.cells; rw [hgm] at c7; clear hgm)
                all_goals
                  go_meet
                  exact ⟨_, rfl, by first | assumption | (simp only [ByteArray.size_append, lit_size, List.size_toArray, List.length_cons, List.length_nil]; omega), hD, hP, hKt, hown⟩
          case rest =>
            obtain ⟨nm, rfl, hnm, hD, hP, hKt, hown⟩ := hcut
            have hR : Rs [d, p] wc (.slice (some ⟨b, off, none⟩) ys.length cc) ys := hown.rs (by simp; omega)
            obtain ⟨c0, c1, c2, c3, c4, c5, c7⟩ := hP.cells
            clear hS hKK hl hb
            go_wp2_with (first
              | (go_at_call 50; (with_reducible refine (hI.use hD hP hdp ?_ hR hx ?_).mono ?_); omega; omega; rintro e w8 ⟨si, hsiz, rfl, hD, hP, hK⟩; have hKt := hKt.trans hK; have hown := hown.kp hK (by simp; omega); have hR := hR.kp hK (fun b hb => hb); obtain ⟨c0, c1, c2, c3, c4, c5, c7⟩ := hP.cells)
              | (at_builtin; refine wpl_append _ rfl _ _ 63 rfl _ 1 16 elStr w.heap.size _ (ys.map Value.string) rfl (hown.alloc _) (some ⟨_, 0, none⟩) 1 1 [.string _] rfl rfl (at_lit1 _ _ _) (one_one _) (by simp; unfold maxLen; omega) (by simp; omega) (by have := hKt.size; simp; omega) ?_; intro v9 w9 ho9 hg9 hat9; obtain ⟨hD, hP, hKt⟩ := app_keep hP0 hD hP hKt hown hdp hpl hg9))
            go_roundw
            case rel => exact ⟨k - 1, _, (ys ++ [_]), by omega, by go_num, rfl, by (try simp only [ByteArray.size_append, lit_size, List.size_toArray, List.length_cons, List.length_nil]); omega, hD, hP.le (by omega), hKt, (by simpa using ho9), (names_snoc hx (by assumption)), by first | omega | (simp; omega)⟩
            case measure => simp [intOf]; omega
      · by_cases hgt : xs.length < ys.length
        · obtain ⟨k1, hk1⟩ : ∃ k1, ys.length = k1 + 1 := ⟨ys.length - 1, by omega⟩
          obtain ⟨y0, hy0⟩ : ∃ y, ys[k1]? = some y := ⟨_, List.getElem?_eq_getElem (by omega)⟩
          have hy6 := hx y0 (List.mem_of_getElem? hy0)
          obtain ⟨A2, c2', e2, _, _, hcell⟩ := id hR
          injection e2 with e2 e3 e4
          subst e2 e4
          rcases hcell with hcell | ⟨b, off, rfl, hb, hl, hcell⟩
          · rw [hcell] at hk1; simp at hk1
          have cy := hcell k1 y0 hy0
          have hS : ∀ w', Kp [d, p] w3 w' → w'.cell? ⟨b, off + k1, none⟩ = some (.string y0) := fun w' k => (k.cell hl hb).trans cy
          have hKK : Kp [d, p] w3 w3.drew := Kp.refl _ _
          have g1 : IntKind.i64.wrap ((ys.length : Int) - 1) = (k1 : Int) := by rw [IntWalk.i64_in _ (by omega)]; omega
          have g2 : (k1 : Int) < (ys.length : Int) := by omega
          have g3 : decide (xs.length < ys.length) = true := by simpa using hgt
          have q0 : ¬ 9223372036854775807 < y0.size + 3 := by omega
          have Hk1 := hid hk1
          clear hk1 hy0 hcell
          go_upto_region 23 with fail
          have hD : DiceOk w3.drew d := hD
          have hP : PrAt w3.drew d p g VV := hP
          have hR : Rs [d, p] w3.drew _ ys := hR
          have hKt : Kp [d, p] w w3.drew := hKt
          have hown : Own w3.drew w.heap.size 9 1 _ (ys.map Value.string) := hown
          go_region_held3 (fun w' => w'.cell? ⟨b, off + k1, none⟩ = some (.string y0)) (first | exact hS _ (Kp.refl _ _) | exact hS _ hKK) (first
            | (go_at_call 50; (with_reducible refine (hI.use hD hP hdp ?_ hR hx ?_).mono ?_); omega; omega; rintro e w4 ⟨s1, hs1', rfl, hD, hP, hK⟩; have hKK := hKK.trans hK; have hKt := hKt.trans hK; have hown := hown.kp hK (by simp; omega); have q1 : ¬ 9223372036854775807 < y0.size + 3 + s1.size := (by omega); have q2 : ¬ 9223372036854775807 < y0.size + 3 + s1.size + 2 := (by omega); have q3 : ¬ 9223372036854775807 < str.size + (y0.size + 3 + s1.size + 2) := (by omega)))
          go_wp2_with fail
          go_roundw
          case rel => exact ⟨k - 1, _, ys, by omega, by go_num, rfl, by (try simp only [ByteArray.size_append, lit_size, List.size_toArray, List.length_cons, List.length_nil]); omega, hD, hP.le (by omega), hKt, hown, hx, by first | omega | (simp; omega)⟩
          case measure => simp [intOf]; omega
        · have g3 : decide (xs.length < ys.length) = false := by simpa using hgt
          go_wp2_with fail
          go_roundw
          case rel => exact ⟨k - 1, _, ys, by omega, by go_num, rfl, by (try simp only [ByteArray.size_append, lit_size, List.size_toArray, List.length_cons, List.length_nil]); omega, hD, hP.le (by omega), hKt, hown, hx, by first | omega | (simp; omega)⟩
          case measure => simp [intOf]; omega
      · go_wp2_with (go_at_call 50; (with_reducible refine (hI0.use hD hP hdp ?_ hR hx ?_).mono ?_); omega; omega; rintro e w4 ⟨s1, hs1', rfl, hD, hP, hK⟩; have hKt := hKt.trans hK; have hown := hown.kp hK (by simp; omega))
        go_roundw
        case rel => exact ⟨k - 1, _, ys, by omega, by go_num, rfl, by (try simp only [ByteArray.size_append, lit_size, List.size_toArray, List.length_cons, List.length_nil]); omega, hD, hP.le (by omega), hKt, hown, hx, by omega⟩
        case measure => simp [intOf]; omega
      · obtain ⟨x, hxV, hrow, hn1, hn2, hn3⟩ := hP
        have hP : PrAt w3 d p g VV := ⟨x, hxV, hrow, hn1, hn2, hn3⟩
        have c6 : w3.cell? ⟨p, 6, none⟩ = some (.int .i64 x) := by rw [cell_of_row _ _ _ _ _ _ hrow]; rfl
        have Hrow := hid hrow
        clear hrow hn1 hn2 hn3
        go_wp2_with fail
        refine (digits_any 3 x _ (by omega) (by omega) (by omega)).mono ?_
        rintro e w4 ⟨sd, hsd, rfl, hb⟩
        have hD := hD.of hb
        have hP := hP.of hb
        have hKt := hKt.trans (Kp.of (bs := [d, p]) hb)
        have hown := hown.later hb
        have hrow := (Kp.of (bs := []) hb).heap (by simp) Hrow.out
        have c6 : w4.cell? ⟨p, 6, none⟩ = some (.int .i64 x) := by rw [cell_of_row _ _ _ _ _ _ hrow]; rfl
        have f6 : w4.frozen? ⟨p, 6, none⟩ = false := by simp [World.frozen?, hrow]
        clear c0 c1 c2 c3 c4 c5 c7 hb Hrow
        obtain ⟨c0, c1, c2, c3, c4, c5, c7⟩ := hP.cells
        have hP5 := hP.bump hrow hxV
        have hK5 : Kp [d, p] w4 (w4.setCell ⟨p, 6, none⟩ (.int .i64 ((x : Int) + 1))) := (Kp.refl _ _).set (p := ⟨p, 6, none⟩) (by simp) _
        have hK5' : Kp [p] w4 (w4.setCell ⟨p, 6, none⟩ (.int .i64 ((x : Int) + 1))) := (Kp.refl _ _).set (p := ⟨p, 6, none⟩) (by simp) _
        clear hrow
        go_upto_region 10 with fail
        obtain ⟨w5, hw5⟩ : ∃ w5, w5 = w4.setCell ⟨p, 6, none⟩ (.int .i64 ((x : Int) + 1)) := ⟨_, rfl⟩
        rw [← hw5] at hP5 hK5 hK5' ⊢
        have hD := hD.kp hK5' (by simp; omega)
        have hP := hP5
        have hKt := hKt.trans hK5
        have hown := hown.kp hK5 (by simp; omega)
        have hR : Rs [d, p] w5 (.slice A ys.length cc) ys := hown.rs (by simp; omega)
        clear c0 c1 c2 c3 c4 c5 c7 c6 f6 hw5 hP5 hK5 hK5'
        obtain ⟨c0, c1, c2, c3, c4, c5, c7⟩ := hP.cells
        go_wp2_with (first
          | (go_at_call 24; (with_reducible refine (nexti _ d _ hD ?_ ?_).mono ?_); omega; omega; rintro e w6 ⟨r, hr, rfl, hD, hK⟩; have hP := hP.kp hK hdp; have hR := hR.kp hK (sub1 d p); have hKt := hKt.trans (hK.sub (sub1 d p)); have hown := hown.kp hK (by simp; omega); obtain ⟨c0, c1, c2, c3, c4, c5, c7⟩ := hP.cells)
          | (go_at_call 34; (with_reducible refine (digits_any 0 _ _ ?_ ?_ ?_).mono ?_); omega; omega; omega; rintro e w7 ⟨se, hse, rfl, hb⟩; have hD := hD.of hb; have hP := hP.of hb; have hKt := hKt.trans (Kp.of (bs := [d, p]) hb); have hown := hown.later hb; have hR := hR.kp (Kp.of (bs := []) hb) (by simp); obtain ⟨c0, c1, c2, c3, c4, c5, c7⟩ := hP.cells)
          | (go_at_call 50; (with_reducible refine (hI0.use hD hP hdp ?_ hR hx ?_).mono ?_); omega; omega; rintro e w8 ⟨si, hsiz, rfl, hD, hP, hK⟩; have hKt := hKt.trans hK; have hown := hown.kp hK (by simp; omega); have hR := hR.kp hK (fun b hb => hb); obtain ⟨c0, c1, c2, c3, c4, c5, c7⟩ := hP.cells))
        go_roundw
        case rel => exact ⟨k - 1, _, ys, by omega, by go_num, rfl, by (try simp only [ByteArray.size_append, lit_size, List.size_toArray, List.length_cons, List.length_nil]); omega, hD, hP.le (by omega), hKt, hown, hx, by first | omega | (simp; omega)⟩
        case measure => simp [intOf]; omega
    · obtain rfl : k = 0 := by omega
      go_wp2_with ((go_at_call 50; (with_reducible refine (hI.use hD hP hdp ?_ hR hx ?_).mono ?_); omega; omega; rintro e w8 ⟨si, hsiz, rfl, hD, hP, hK⟩; have hKt := hKt.trans hK; have hown := hown.kp hK (by simp; omega); have hR := hR.kp hK (fun b hb => hb); obtain ⟨c0, c1, c2, c3, c4, c5, c7⟩ := hP.cells))
      go_ret
      refine ⟨_, ?_, rfl, hD, hP.le (by omega), hKt⟩
      simp only [ByteArray.size_append, lit_size, List.size_toArray, List.length_cons, List.length_nil]
      omega
end Go.Proofs.Ytpjpndbagkcgcaa
