/- Programs that are made: ints, one level deeper. -/
import Derived.Test.YtpjpndbagkcgcaaM2
set_option linter.unusedVariables false
set_option linter.unusedSimpArgs false
namespace Go.Proofs.Ytpjpndbagkcgcaa
open Go.RowKit

/-- strings of at most so many bytes, written out -/
def strsB (m : Nat) (cs : Array Value) : Bool := cs.toList.all fun | .string s => decide (s.size ≤ m) | _ => false
theorem strsB_list (m : Nat) : ∀ (l : List Value), (l.all fun | .string s => decide (s.size ≤ m) | _ => false) = true → ∃ xs : List ByteArray, l = xs.map Value.string ∧ ∀ s ∈ xs, s.size ≤ m
  | [], _ => ⟨[], rfl, fun s hs => by simp at hs⟩
  | v :: r, h => by
    simp only [List.all_cons, Bool.and_eq_true] at h
    obtain ⟨xs, h1, h2⟩ := strsB_list m r h.2
    cases v with
    | string s =>
      have hs : s.size ≤ m := by simpa using h.1
      refine ⟨s :: xs, by simp [h1], fun x hx => ?_⟩
      simp only [List.mem_cons] at hx
      rcases hx with rfl | hx
      · exact hs
      · exact h2 x hx
    | _ => simp at h
def PostL1 (m : Nat) (w : World) (d : Nat) (e : Ending) (w' : World) : Prop := ∃ s : ByteArray, s.size ≤ m ∧ e = .returned (.string s) ∧ DiceOk w' d ∧ Kp [d] w w'
theorem of_lit (m : Nat) (w : World) (d : Nat) (h : DiceOk w d) (cs : Array Value) (t : TypeId) (n : Nat) (hcs : strsB m cs = true) (hn : n = cs.size) (h0 : 0 < n) (hb : n ≤ 1000) :
    Calls Try.prog 25 #[.pointer (some ⟨d, 0, none⟩), .slice (some ⟨w.heap.size, 0, none⟩) n n] (w.alloc (.cells cs t)) (PostL1 m w d) := by
  obtain ⟨xs, h1, h2⟩ := strsB_list m cs.toList hcs
  have hcs2 : cs = (xs.map Value.string).toArray := by rw [← h1]
  have hnx : n = xs.length := by rw [hn, hcs2]; simp
  have hlt := h.lt
  have hr : Rs [d] (w.alloc (.cells cs t)) (.slice (some ⟨w.heap.size, 0, none⟩) n n) xs := Rs.lit [d] w xs t n hnx (by unfold maxLen; omega) (fun k hk => by simp at hk; omega) cs hcs2
  have hal : Below w.heap.size w (w.alloc (.cells cs t)) := (Below.refl _ _).alloc (Nat.le_refl _) _
  exact (of_any _ d _ xs (h.of hal) hr (by omega)).mono fun e w' ⟨s, a, b, c, k⟩ => ⟨s, h2 s a, b, c, (Kp.of hal).trans k⟩

theorem Names.open_ {w : World} {d p : Nat} {v : Value} (h : Names w d p v) : ∃ (n : Nat) (A : Option Addr) (c : Nat) (f : Nat → ByteArray), v = .slice A n c ∧ n ≤ c ∧ c ≤ maxLen ∧ (n = 0 ∨ ∃ b off, A = some ⟨b, off, none⟩ ∧ b ∉ [d, p] ∧ b < w.heap.size ∧ ∀ j, j < n → w.cell? ⟨b, off + j, none⟩ = some (.string (f j))) ∧ ∀ j, j < n → (f j).size ≤ 3 := by
  obtain ⟨xs, ⟨A, c, rfl, h1, h2, h3⟩, hx⟩ := h
  refine ⟨xs.length, A, c, fun j => xs.getD j default, rfl, h1, h2, ?_, fun j hj => ?_⟩
  · rcases h3 with h3 | ⟨b, off, e, hb, hl, hc⟩
    · left; simp [h3]
    · refine .inr ⟨b, off, e, hb, hl, fun j hj => hc j _ ?_⟩
      show xs[j]? = some (xs.getD j default)
      rw [List.getD_eq_getElem?_getD, List.getElem?_eq_getElem hj]; rfl
  · have : xs.getD j default = xs[j] := by rw [List.getD_eq_getElem?_getD, List.getElem?_eq_getElem hj]; rfl
    show (xs.getD j default).size ≤ 3
    rw [this]; exact hx _ (List.getElem_mem _)

theorem lit_size (a : Array UInt8) : (ByteArray.mk a).size = a.size := rfl
set_option maxHeartbeats 8000000 in
set_option maxRecDepth 100000 in
theorem int_succ (dep : Int) (h1 : 1 ≤ dep) (h100 : dep ≤ 100) (mi mb mk mh di db dk dh m dv N : Nat) (hI0 : Con 50 0 6 0 N) (hI : Con 50 (dep - 1) mi di N) (hB : Con 61 (dep - 1) mb db N) (hB2 : Con 32 (dep - 1) mk dk N) (hH : Con 62 (dep - 1) mh dh N)
    (hm1 : 18 + mb + 2 * mi ≤ m) (hm2 : mk ≤ m) (hm3 : 6 + mh ≤ m) (hm4 : 22 + mi ≤ m) (hm5 : 9 + 2 * mi ≤ m) (hm6 : m ≤ 100000) (hd1 : db + 2 * di ≤ dv) (hd2 : dk ≤ dv) (hd3 : dh ≤ dv) : Con 50 dep m dv N := by
  intro w d p g V v xs hD hP hdp hV hR hx hN
  have hs1 : IntKind.i64.wrap (dep - 1) = dep - 1 := IntWalk.i64_in _ (by omega)
  have hKt : Kp [d, p] w w := Kp.refl _ _
  obtain ⟨c0, c1, c2, c3, c4, c5, c7⟩ := hP.cells
  have hP0 := hP
  go_enter Try.func50, Try.ntmps50
  go_upto_region 6 with fail
  go_wp2_with fail
  refine (nexti _ d _ hD (by omega) (by omega)).mono ?_
  rintro e w1 ⟨r, hr, rfl, hD, hK⟩
  have hP := hP.kp hK hdp
  have hR := hR.kp hK (sub1 d p)
  have hKt := hKt.trans (hK.sub (sub1 d p))
  obtain ⟨c0, c1, c2, c3, c4, c5, c7⟩ := hP.cells
  have hzf : ∀ j : Nat, j < 0 → True := fun _ _ => trivial
  have hr14 : r = 0 ∨ r = 1 ∨ r = 2 ∨ r = 3 ∨ r = 4 ∨ r = 5 ∨ r = 6 ∨ r = 7 ∨ r = 8 ∨ r = 9 ∨ r = 10 ∨ r = 11 ∨ r = 12 ∨ r = 13 := by omega
  rcases hr14 with rfl | rfl | rfl | rfl | rfl | rfl | rfl | rfl | rfl | rfl | rfl | rfl | rfl | rfl
  · go_wp2_with (first
        | (go_at_call 24; (with_reducible refine (nexti _ d _ hD ?_ ?_).mono ?_); omega; omega; rintro e w1 ⟨r, hr, rfl, hD, hK⟩; (first | (have hrn := Int.ofNat_lt.1 hr; have hzn := hzf r hrn) | skip); have hP := hP.kp hK hdp; have hR := hR.kp hK (sub1 d p); have hKt := hKt.trans (hK.sub (sub1 d p)); obtain ⟨c0, c1, c2, c3, c4, c5, c7⟩ := hP.cells)
        | (go_at_call 25; (with_reducible refine (of_lit 5 _ d hD _ _ _ ?_ ?_ ?_ ?_).mono ?_); rfl; rfl; omega; omega; rintro e w1 ⟨s, hs, rfl, hD, hK⟩; have hP := hP.kp hK hdp; have hR := hR.kp hK (sub1 d p); have hKt := hKt.trans (hK.sub (sub1 d p)); obtain ⟨c0, c1, c2, c3, c4, c5, c7⟩ := hP.cells)
        | (go_at_call 50; (with_reducible refine (hI0.use hD hP hdp ?_ hR hx hN).mono ?_); omega; rintro e w1 ⟨s, hs, rfl, hD, hP, hK⟩; have hR := hR.kp hK (fun b hb => hb); have hKt := hKt.trans hK; obtain ⟨c0, c1, c2, c3, c4, c5, c7⟩ := hP.cells)
        | (go_at_call 50; (with_reducible refine (hI.use hD hP hdp ?_ hR hx hN).mono ?_); omega; rintro e w1 ⟨s, hs, rfl, hD, hP, hK⟩; have hR := hR.kp hK (fun b hb => hb); have hKt := hKt.trans hK; obtain ⟨c0, c1, c2, c3, c4, c5, c7⟩ := hP.cells)
        | (go_at_call 61; (with_reducible refine (hB.use hD hP hdp ?_ hR hx hN).mono ?_); omega; rintro e w1 ⟨s, hs, rfl, hD, hP, hK⟩; have hR := hR.kp hK (fun b hb => hb); have hKt := hKt.trans hK; obtain ⟨c0, c1, c2, c3, c4, c5, c7⟩ := hP.cells)
        | (go_at_call 32; (with_reducible refine (hB2.use hD hP hdp ?_ hR hx hN).mono ?_); omega; rintro e w1 ⟨s, hs, rfl, hD, hP, hK⟩; have hR := hR.kp hK (fun b hb => hb); have hKt := hKt.trans hK; obtain ⟨c0, c1, c2, c3, c4, c5, c7⟩ := hP.cells)
        | (go_at_call 62; (with_reducible refine (hH.use hD hP hdp ?_ hR hx hN).mono ?_); omega; rintro e w1 ⟨s, hs, rfl, hD, hP, hK⟩; have hR := hR.kp hK (fun b hb => hb); have hKt := hKt.trans hK; obtain ⟨c0, c1, c2, c3, c4, c5, c7⟩ := hP.cells))
    go_ret
    refine ⟨_, ?_, rfl, hD, hP.le (by omega), hKt⟩
    try simp only [ByteArray.size_append, lit_size, List.size_toArray, List.length_cons, List.length_nil]
    omega
  · go_wp2_with (first
        | (go_at_call 24; (with_reducible refine (nexti _ d _ hD ?_ ?_).mono ?_); omega; omega; rintro e w1 ⟨r, hr, rfl, hD, hK⟩; (first | (have hrn := Int.ofNat_lt.1 hr; have hzn := hzf r hrn) | skip); have hP := hP.kp hK hdp; have hR := hR.kp hK (sub1 d p); have hKt := hKt.trans (hK.sub (sub1 d p)); obtain ⟨c0, c1, c2, c3, c4, c5, c7⟩ := hP.cells)
        | (go_at_call 25; (with_reducible refine (of_lit 5 _ d hD _ _ _ ?_ ?_ ?_ ?_).mono ?_); rfl; rfl; omega; omega; rintro e w1 ⟨s, hs, rfl, hD, hK⟩; have hP := hP.kp hK hdp; have hR := hR.kp hK (sub1 d p); have hKt := hKt.trans (hK.sub (sub1 d p)); obtain ⟨c0, c1, c2, c3, c4, c5, c7⟩ := hP.cells)
        | (go_at_call 50; (with_reducible refine (hI0.use hD hP hdp ?_ hR hx hN).mono ?_); omega; rintro e w1 ⟨s, hs, rfl, hD, hP, hK⟩; have hR := hR.kp hK (fun b hb => hb); have hKt := hKt.trans hK; obtain ⟨c0, c1, c2, c3, c4, c5, c7⟩ := hP.cells)
        | (go_at_call 50; (with_reducible refine (hI.use hD hP hdp ?_ hR hx hN).mono ?_); omega; rintro e w1 ⟨s, hs, rfl, hD, hP, hK⟩; have hR := hR.kp hK (fun b hb => hb); have hKt := hKt.trans hK; obtain ⟨c0, c1, c2, c3, c4, c5, c7⟩ := hP.cells)
        | (go_at_call 61; (with_reducible refine (hB.use hD hP hdp ?_ hR hx hN).mono ?_); omega; rintro e w1 ⟨s, hs, rfl, hD, hP, hK⟩; have hR := hR.kp hK (fun b hb => hb); have hKt := hKt.trans hK; obtain ⟨c0, c1, c2, c3, c4, c5, c7⟩ := hP.cells)
        | (go_at_call 32; (with_reducible refine (hB2.use hD hP hdp ?_ hR hx hN).mono ?_); omega; rintro e w1 ⟨s, hs, rfl, hD, hP, hK⟩; have hR := hR.kp hK (fun b hb => hb); have hKt := hKt.trans hK; obtain ⟨c0, c1, c2, c3, c4, c5, c7⟩ := hP.cells)
        | (go_at_call 62; (with_reducible refine (hH.use hD hP hdp ?_ hR hx hN).mono ?_); omega; rintro e w1 ⟨s, hs, rfl, hD, hP, hK⟩; have hR := hR.kp hK (fun b hb => hb); have hKt := hKt.trans hK; obtain ⟨c0, c1, c2, c3, c4, c5, c7⟩ := hP.cells))
    go_ret
    refine ⟨_, ?_, rfl, hD, hP.le (by omega), hKt⟩
    try simp only [ByteArray.size_append, lit_size, List.size_toArray, List.length_cons, List.length_nil]
    omega
  · go_wp2_with (first
        | (go_at_call 24; (with_reducible refine (nexti _ d _ hD ?_ ?_).mono ?_); omega; omega; rintro e w1 ⟨r, hr, rfl, hD, hK⟩; (first | (have hrn := Int.ofNat_lt.1 hr; have hzn := hzf r hrn) | skip); have hP := hP.kp hK hdp; have hR := hR.kp hK (sub1 d p); have hKt := hKt.trans (hK.sub (sub1 d p)); obtain ⟨c0, c1, c2, c3, c4, c5, c7⟩ := hP.cells)
        | (go_at_call 25; (with_reducible refine (of_lit 5 _ d hD _ _ _ ?_ ?_ ?_ ?_).mono ?_); rfl; rfl; omega; omega; rintro e w1 ⟨s, hs, rfl, hD, hK⟩; have hP := hP.kp hK hdp; have hR := hR.kp hK (sub1 d p); have hKt := hKt.trans (hK.sub (sub1 d p)); obtain ⟨c0, c1, c2, c3, c4, c5, c7⟩ := hP.cells)
        | (go_at_call 50; (with_reducible refine (hI0.use hD hP hdp ?_ hR hx hN).mono ?_); omega; rintro e w1 ⟨s, hs, rfl, hD, hP, hK⟩; have hR := hR.kp hK (fun b hb => hb); have hKt := hKt.trans hK; obtain ⟨c0, c1, c2, c3, c4, c5, c7⟩ := hP.cells)
        | (go_at_call 50; (with_reducible refine (hI.use hD hP hdp ?_ hR hx hN).mono ?_); omega; rintro e w1 ⟨s, hs, rfl, hD, hP, hK⟩; have hR := hR.kp hK (fun b hb => hb); have hKt := hKt.trans hK; obtain ⟨c0, c1, c2, c3, c4, c5, c7⟩ := hP.cells)
        | (go_at_call 61; (with_reducible refine (hB.use hD hP hdp ?_ hR hx hN).mono ?_); omega; rintro e w1 ⟨s, hs, rfl, hD, hP, hK⟩; have hR := hR.kp hK (fun b hb => hb); have hKt := hKt.trans hK; obtain ⟨c0, c1, c2, c3, c4, c5, c7⟩ := hP.cells)
        | (go_at_call 32; (with_reducible refine (hB2.use hD hP hdp ?_ hR hx hN).mono ?_); omega; rintro e w1 ⟨s, hs, rfl, hD, hP, hK⟩; have hR := hR.kp hK (fun b hb => hb); have hKt := hKt.trans hK; obtain ⟨c0, c1, c2, c3, c4, c5, c7⟩ := hP.cells)
        | (go_at_call 62; (with_reducible refine (hH.use hD hP hdp ?_ hR hx hN).mono ?_); omega; rintro e w1 ⟨s, hs, rfl, hD, hP, hK⟩; have hR := hR.kp hK (fun b hb => hb); have hKt := hKt.trans hK; obtain ⟨c0, c1, c2, c3, c4, c5, c7⟩ := hP.cells))
    go_ret
    refine ⟨_, ?_, rfl, hD, hP.le (by omega), hKt⟩
    try simp only [ByteArray.size_append, lit_size, List.size_toArray, List.length_cons, List.length_nil]
    omega
  · go_wp2_with (first
        | (go_at_call 24; (with_reducible refine (nexti _ d _ hD ?_ ?_).mono ?_); omega; omega; rintro e w1 ⟨r, hr, rfl, hD, hK⟩; (first | (have hrn := Int.ofNat_lt.1 hr; have hzn := hzf r hrn) | skip); have hP := hP.kp hK hdp; have hR := hR.kp hK (sub1 d p); have hKt := hKt.trans (hK.sub (sub1 d p)); obtain ⟨c0, c1, c2, c3, c4, c5, c7⟩ := hP.cells)
        | (go_at_call 25; (with_reducible refine (of_lit 5 _ d hD _ _ _ ?_ ?_ ?_ ?_).mono ?_); rfl; rfl; omega; omega; rintro e w1 ⟨s, hs, rfl, hD, hK⟩; have hP := hP.kp hK hdp; have hR := hR.kp hK (sub1 d p); have hKt := hKt.trans (hK.sub (sub1 d p)); obtain ⟨c0, c1, c2, c3, c4, c5, c7⟩ := hP.cells)
        | (go_at_call 50; (with_reducible refine (hI0.use hD hP hdp ?_ hR hx hN).mono ?_); omega; rintro e w1 ⟨s, hs, rfl, hD, hP, hK⟩; have hR := hR.kp hK (fun b hb => hb); have hKt := hKt.trans hK; obtain ⟨c0, c1, c2, c3, c4, c5, c7⟩ := hP.cells)
        | (go_at_call 50; (with_reducible refine (hI.use hD hP hdp ?_ hR hx hN).mono ?_); omega; rintro e w1 ⟨s, hs, rfl, hD, hP, hK⟩; have hR := hR.kp hK (fun b hb => hb); have hKt := hKt.trans hK; obtain ⟨c0, c1, c2, c3, c4, c5, c7⟩ := hP.cells)
        | (go_at_call 61; (with_reducible refine (hB.use hD hP hdp ?_ hR hx hN).mono ?_); omega; rintro e w1 ⟨s, hs, rfl, hD, hP, hK⟩; have hR := hR.kp hK (fun b hb => hb); have hKt := hKt.trans hK; obtain ⟨c0, c1, c2, c3, c4, c5, c7⟩ := hP.cells)
        | (go_at_call 32; (with_reducible refine (hB2.use hD hP hdp ?_ hR hx hN).mono ?_); omega; rintro e w1 ⟨s, hs, rfl, hD, hP, hK⟩; have hR := hR.kp hK (fun b hb => hb); have hKt := hKt.trans hK; obtain ⟨c0, c1, c2, c3, c4, c5, c7⟩ := hP.cells)
        | (go_at_call 62; (with_reducible refine (hH.use hD hP hdp ?_ hR hx hN).mono ?_); omega; rintro e w1 ⟨s, hs, rfl, hD, hP, hK⟩; have hR := hR.kp hK (fun b hb => hb); have hKt := hKt.trans hK; obtain ⟨c0, c1, c2, c3, c4, c5, c7⟩ := hP.cells))
    go_ret
    refine ⟨_, ?_, rfl, hD, hP.le (by omega), hKt⟩
    try simp only [ByteArray.size_append, lit_size, List.size_toArray, List.length_cons, List.length_nil]
    omega
  · obtain ⟨n, A, cc, f, hv, hnc, hcm, hcell, hzf⟩ := Names.open_ (v := g.fns) (w := w) (d := d) (p := p) (by obtain ⟨_, _, _, n1, n2, n3⟩ := hP0; exact n1)
    unfold maxLen at hcm
    rw [hv] at c1
    rcases Nat.eq_zero_or_pos n with h0 | h0
    · subst h0
      clear hcell hzf hv
      have hzf : ∀ j : Nat, j < 0 → True := fun _ _ => trivial
      go_wp2_with (first
        | (go_at_call 24; (with_reducible refine (nexti _ d _ hD ?_ ?_).mono ?_); omega; omega; rintro e w1 ⟨r, hr, rfl, hD, hK⟩; (first | (have hrn := Int.ofNat_lt.1 hr; have hzn := hzf r hrn) | skip); have hP := hP.kp hK hdp; have hR := hR.kp hK (sub1 d p); have hKt := hKt.trans (hK.sub (sub1 d p)); obtain ⟨c0, c1, c2, c3, c4, c5, c7⟩ := hP.cells)
        | (go_at_call 25; (with_reducible refine (of_lit 5 _ d hD _ _ _ ?_ ?_ ?_ ?_).mono ?_); rfl; rfl; omega; omega; rintro e w1 ⟨s, hs, rfl, hD, hK⟩; have hP := hP.kp hK hdp; have hR := hR.kp hK (sub1 d p); have hKt := hKt.trans (hK.sub (sub1 d p)); obtain ⟨c0, c1, c2, c3, c4, c5, c7⟩ := hP.cells)
        | (go_at_call 50; (with_reducible refine (hI0.use hD hP hdp ?_ hR hx hN).mono ?_); omega; rintro e w1 ⟨s, hs, rfl, hD, hP, hK⟩; have hR := hR.kp hK (fun b hb => hb); have hKt := hKt.trans hK; obtain ⟨c0, c1, c2, c3, c4, c5, c7⟩ := hP.cells)
        | (go_at_call 50; (with_reducible refine (hI.use hD hP hdp ?_ hR hx hN).mono ?_); omega; rintro e w1 ⟨s, hs, rfl, hD, hP, hK⟩; have hR := hR.kp hK (fun b hb => hb); have hKt := hKt.trans hK; obtain ⟨c0, c1, c2, c3, c4, c5, c7⟩ := hP.cells)
        | (go_at_call 61; (with_reducible refine (hB.use hD hP hdp ?_ hR hx hN).mono ?_); omega; rintro e w1 ⟨s, hs, rfl, hD, hP, hK⟩; have hR := hR.kp hK (fun b hb => hb); have hKt := hKt.trans hK; obtain ⟨c0, c1, c2, c3, c4, c5, c7⟩ := hP.cells)
        | (go_at_call 32; (with_reducible refine (hB2.use hD hP hdp ?_ hR hx hN).mono ?_); omega; rintro e w1 ⟨s, hs, rfl, hD, hP, hK⟩; have hR := hR.kp hK (fun b hb => hb); have hKt := hKt.trans hK; obtain ⟨c0, c1, c2, c3, c4, c5, c7⟩ := hP.cells)
        | (go_at_call 62; (with_reducible refine (hH.use hD hP hdp ?_ hR hx hN).mono ?_); omega; rintro e w1 ⟨s, hs, rfl, hD, hP, hK⟩; have hR := hR.kp hK (fun b hb => hb); have hKt := hKt.trans hK; obtain ⟨c0, c1, c2, c3, c4, c5, c7⟩ := hP.cells))
      go_ret
      refine ⟨_, ?_, rfl, hD, hP.le (by omega), hKt⟩
      try simp only [ByteArray.size_append, lit_size, List.size_toArray, List.length_cons, List.length_nil]
      omega
    · rcases hcell with hcell | ⟨b, off, rfl, hb, hl, hcell⟩
      · omega
      have g0 : decide (0 < n) = true := by simp; exact h0
      have hS : ∀ w' V', PrAt w' d p g V' → Kp [d, p] w w' → (w'.cell? ⟨p, 1, none⟩ = some (.slice (some ⟨b, off, none⟩) n cc) ∧ ∀ j : Nat, j < n → w'.cell? ⟨b, off + j, none⟩ = some (.string (f j))) := fun w' V' a k => by
        obtain ⟨d0, d1, d2, d3, d4, d5, d7⟩ := a.cells
        rw [hv] at d1
        exact ⟨d1, fun j hj => (k.cell hl hb).trans (hcell j hj)⟩
      clear hv
      go_upto_region 18 with fail
      have hD : DiceOk w1.drew d := hD
      have hP : PrAt w1.drew d p g V := hP
      have hR : Rs [d, p] w1.drew v xs := hR
      have hKt : Kp [d, p] w w1.drew := hKt
      go_region_held3 (fun w' => w'.cell? ⟨p, 1, none⟩ = some (.slice (some ⟨b, off, none⟩) n cc) ∧ ∀ j : Nat, j < n → w'.cell? ⟨b, off + j, none⟩ = some (.string (f j))) (first | exact hS _ _ hP hKt | exact hS _ _ (by assumption) (by assumption)) (first
        | (go_at_call 24; (with_reducible refine (nexti _ d _ hD ?_ ?_).mono ?_); omega; omega; rintro e w1 ⟨r, hr, rfl, hD, hK⟩; have hrn := Int.ofNat_lt.1 hr; have hzn := hzf r hrn; have q1 : ¬ 9223372036854775807 < (f r).size + 1 := (by omega); have hP := hP.kp hK hdp; have hR := hR.kp hK (sub1 d p); have hKt := hKt.trans (hK.sub (sub1 d p)); obtain ⟨c0, c1, c2, c3, c4, c5, c7⟩ := hP.cells)
        | (go_at_call 50; (with_reducible refine (hI.use hD hP hdp ?_ hR hx hN).mono ?_); omega; rintro e w1 ⟨s1, hs1, rfl, hD, hP, hK⟩; have q2 : ¬ 9223372036854775807 < (f r).size + 1 + s1.size := (by omega); have q3 : ¬ 9223372036854775807 < (f r).size + 1 + s1.size + 2 := (by omega); have hR := hR.kp hK (fun b hb => hb); have hKt := hKt.trans hK; obtain ⟨c0, c1, c2, c3, c4, c5, c7⟩ := hP.cells)
        | (go_at_call 50; (with_reducible refine (hI0.use hD hP hdp ?_ hR hx hN).mono ?_); omega; rintro e w1 ⟨s2, hs2, rfl, hD, hP, hK⟩; have q4 : ¬ 9223372036854775807 < (f r).size + 1 + s1.size + 2 + s2.size := (by omega); have q5 : ¬ 9223372036854775807 < (f r).size + 1 + s1.size + 2 + s2.size + 1 := (by omega); have hR := hR.kp hK (fun b hb => hb); have hKt := hKt.trans hK; obtain ⟨c0, c1, c2, c3, c4, c5, c7⟩ := hP.cells))
      go_wp2_with fail
      go_ret
      refine ⟨_, ?_, rfl, hD, hP.le (by omega), hKt⟩
      try simp only [ByteArray.size_append, lit_size, List.size_toArray, List.length_cons, List.length_nil]
      omega
  · obtain ⟨n, A, cc, f, hv, hnc, hcm, hcell, hzf⟩ := Names.open_ (v := g.fns) (w := w) (d := d) (p := p) (by obtain ⟨_, _, _, n1, n2, n3⟩ := hP0; exact n1)
    unfold maxLen at hcm
    rw [hv] at c1
    rcases Nat.eq_zero_or_pos n with h0 | h0
    · subst h0
      clear hcell hzf hv
      have hzf : ∀ j : Nat, j < 0 → True := fun _ _ => trivial
      go_wp2_with (first
        | (go_at_call 24; (with_reducible refine (nexti _ d _ hD ?_ ?_).mono ?_); omega; omega; rintro e w1 ⟨r, hr, rfl, hD, hK⟩; (first | (have hrn := Int.ofNat_lt.1 hr; have hzn := hzf r hrn) | skip); have hP := hP.kp hK hdp; have hR := hR.kp hK (sub1 d p); have hKt := hKt.trans (hK.sub (sub1 d p)); obtain ⟨c0, c1, c2, c3, c4, c5, c7⟩ := hP.cells)
        | (go_at_call 25; (with_reducible refine (of_lit 5 _ d hD _ _ _ ?_ ?_ ?_ ?_).mono ?_); rfl; rfl; omega; omega; rintro e w1 ⟨s, hs, rfl, hD, hK⟩; have hP := hP.kp hK hdp; have hR := hR.kp hK (sub1 d p); have hKt := hKt.trans (hK.sub (sub1 d p)); obtain ⟨c0, c1, c2, c3, c4, c5, c7⟩ := hP.cells)
        | (go_at_call 50; (with_reducible refine (hI0.use hD hP hdp ?_ hR hx hN).mono ?_); omega; rintro e w1 ⟨s, hs, rfl, hD, hP, hK⟩; have hR := hR.kp hK (fun b hb => hb); have hKt := hKt.trans hK; obtain ⟨c0, c1, c2, c3, c4, c5, c7⟩ := hP.cells)
        | (go_at_call 50; (with_reducible refine (hI.use hD hP hdp ?_ hR hx hN).mono ?_); omega; rintro e w1 ⟨s, hs, rfl, hD, hP, hK⟩; have hR := hR.kp hK (fun b hb => hb); have hKt := hKt.trans hK; obtain ⟨c0, c1, c2, c3, c4, c5, c7⟩ := hP.cells)
        | (go_at_call 61; (with_reducible refine (hB.use hD hP hdp ?_ hR hx hN).mono ?_); omega; rintro e w1 ⟨s, hs, rfl, hD, hP, hK⟩; have hR := hR.kp hK (fun b hb => hb); have hKt := hKt.trans hK; obtain ⟨c0, c1, c2, c3, c4, c5, c7⟩ := hP.cells)
        | (go_at_call 32; (with_reducible refine (hB2.use hD hP hdp ?_ hR hx hN).mono ?_); omega; rintro e w1 ⟨s, hs, rfl, hD, hP, hK⟩; have hR := hR.kp hK (fun b hb => hb); have hKt := hKt.trans hK; obtain ⟨c0, c1, c2, c3, c4, c5, c7⟩ := hP.cells)
        | (go_at_call 62; (with_reducible refine (hH.use hD hP hdp ?_ hR hx hN).mono ?_); omega; rintro e w1 ⟨s, hs, rfl, hD, hP, hK⟩; have hR := hR.kp hK (fun b hb => hb); have hKt := hKt.trans hK; obtain ⟨c0, c1, c2, c3, c4, c5, c7⟩ := hP.cells))
      go_ret
      refine ⟨_, ?_, rfl, hD, hP.le (by omega), hKt⟩
      try simp only [ByteArray.size_append, lit_size, List.size_toArray, List.length_cons, List.length_nil]
      omega
    · rcases hcell with hcell | ⟨b, off, rfl, hb, hl, hcell⟩
      · omega
      have g0 : decide (0 < n) = true := by simp; exact h0
      have hS : ∀ w' V', PrAt w' d p g V' → Kp [d, p] w w' → (w'.cell? ⟨p, 1, none⟩ = some (.slice (some ⟨b, off, none⟩) n cc) ∧ ∀ j : Nat, j < n → w'.cell? ⟨b, off + j, none⟩ = some (.string (f j))) := fun w' V' a k => by
        obtain ⟨d0, d1, d2, d3, d4, d5, d7⟩ := a.cells
        rw [hv] at d1
        exact ⟨d1, fun j hj => (k.cell hl hb).trans (hcell j hj)⟩
      clear hv
      go_upto_region 18 with fail
      have hD : DiceOk w1.drew d := hD
      have hP : PrAt w1.drew d p g V := hP
      have hR : Rs [d, p] w1.drew v xs := hR
      have hKt : Kp [d, p] w w1.drew := hKt
      go_region_held3 (fun w' => w'.cell? ⟨p, 1, none⟩ = some (.slice (some ⟨b, off, none⟩) n cc) ∧ ∀ j : Nat, j < n → w'.cell? ⟨b, off + j, none⟩ = some (.string (f j))) (first | exact hS _ _ hP hKt | exact hS _ _ (by assumption) (by assumption)) (first
        | (go_at_call 24; (with_reducible refine (nexti _ d _ hD ?_ ?_).mono ?_); omega; omega; rintro e w1 ⟨r, hr, rfl, hD, hK⟩; have hrn := Int.ofNat_lt.1 hr; have hzn := hzf r hrn; have q1 : ¬ 9223372036854775807 < (f r).size + 1 := (by omega); have hP := hP.kp hK hdp; have hR := hR.kp hK (sub1 d p); have hKt := hKt.trans (hK.sub (sub1 d p)); obtain ⟨c0, c1, c2, c3, c4, c5, c7⟩ := hP.cells)
        | (go_at_call 50; (with_reducible refine (hI.use hD hP hdp ?_ hR hx hN).mono ?_); omega; rintro e w1 ⟨s1, hs1, rfl, hD, hP, hK⟩; have q2 : ¬ 9223372036854775807 < (f r).size + 1 + s1.size := (by omega); have q3 : ¬ 9223372036854775807 < (f r).size + 1 + s1.size + 2 := (by omega); have hR := hR.kp hK (fun b hb => hb); have hKt := hKt.trans hK; obtain ⟨c0, c1, c2, c3, c4, c5, c7⟩ := hP.cells)
        | (go_at_call 50; (with_reducible refine (hI0.use hD hP hdp ?_ hR hx hN).mono ?_); omega; rintro e w1 ⟨s2, hs2, rfl, hD, hP, hK⟩; have q4 : ¬ 9223372036854775807 < (f r).size + 1 + s1.size + 2 + s2.size := (by omega); have q5 : ¬ 9223372036854775807 < (f r).size + 1 + s1.size + 2 + s2.size + 1 := (by omega); have hR := hR.kp hK (fun b hb => hb); have hKt := hKt.trans hK; obtain ⟨c0, c1, c2, c3, c4, c5, c7⟩ := hP.cells))
      go_wp2_with fail
      go_ret
      refine ⟨_, ?_, rfl, hD, hP.le (by omega), hKt⟩
      try simp only [ByteArray.size_append, lit_size, List.size_toArray, List.length_cons, List.length_nil]
      omega
  · obtain ⟨n, A, cc, f, hv, hnc, hcm, hcell, hzf⟩ := Names.open_ (v := g.consts) (w := w) (d := d) (p := p) (by obtain ⟨_, _, _, n1, n2, n3⟩ := hP0; exact n2)
    unfold maxLen at hcm
    rw [hv] at c2
    rcases Nat.eq_zero_or_pos n with h0 | h0
    · subst h0
      clear hcell hzf hv
      have hzf : ∀ j : Nat, j < 0 → True := fun _ _ => trivial
      go_wp2_with (first
        | (go_at_call 24; (with_reducible refine (nexti _ d _ hD ?_ ?_).mono ?_); omega; omega; rintro e w1 ⟨r, hr, rfl, hD, hK⟩; (first | (have hrn := Int.ofNat_lt.1 hr; have hzn := hzf r hrn) | skip); have hP := hP.kp hK hdp; have hR := hR.kp hK (sub1 d p); have hKt := hKt.trans (hK.sub (sub1 d p)); obtain ⟨c0, c1, c2, c3, c4, c5, c7⟩ := hP.cells)
        | (go_at_call 25; (with_reducible refine (of_lit 5 _ d hD _ _ _ ?_ ?_ ?_ ?_).mono ?_); rfl; rfl; omega; omega; rintro e w1 ⟨s, hs, rfl, hD, hK⟩; have hP := hP.kp hK hdp; have hR := hR.kp hK (sub1 d p); have hKt := hKt.trans (hK.sub (sub1 d p)); obtain ⟨c0, c1, c2, c3, c4, c5, c7⟩ := hP.cells)
        | (go_at_call 50; (with_reducible refine (hI0.use hD hP hdp ?_ hR hx hN).mono ?_); omega; rintro e w1 ⟨s, hs, rfl, hD, hP, hK⟩; have hR := hR.kp hK (fun b hb => hb); have hKt := hKt.trans hK; obtain ⟨c0, c1, c2, c3, c4, c5, c7⟩ := hP.cells)
        | (go_at_call 50; (with_reducible refine (hI.use hD hP hdp ?_ hR hx hN).mono ?_); omega; rintro e w1 ⟨s, hs, rfl, hD, hP, hK⟩; have hR := hR.kp hK (fun b hb => hb); have hKt := hKt.trans hK; obtain ⟨c0, c1, c2, c3, c4, c5, c7⟩ := hP.cells)
        | (go_at_call 61; (with_reducible refine (hB.use hD hP hdp ?_ hR hx hN).mono ?_); omega; rintro e w1 ⟨s, hs, rfl, hD, hP, hK⟩; have hR := hR.kp hK (fun b hb => hb); have hKt := hKt.trans hK; obtain ⟨c0, c1, c2, c3, c4, c5, c7⟩ := hP.cells)
        | (go_at_call 32; (with_reducible refine (hB2.use hD hP hdp ?_ hR hx hN).mono ?_); omega; rintro e w1 ⟨s, hs, rfl, hD, hP, hK⟩; have hR := hR.kp hK (fun b hb => hb); have hKt := hKt.trans hK; obtain ⟨c0, c1, c2, c3, c4, c5, c7⟩ := hP.cells)
        | (go_at_call 62; (with_reducible refine (hH.use hD hP hdp ?_ hR hx hN).mono ?_); omega; rintro e w1 ⟨s, hs, rfl, hD, hP, hK⟩; have hR := hR.kp hK (fun b hb => hb); have hKt := hKt.trans hK; obtain ⟨c0, c1, c2, c3, c4, c5, c7⟩ := hP.cells))
      go_ret
      refine ⟨_, ?_, rfl, hD, hP.le (by omega), hKt⟩
      try simp only [ByteArray.size_append, lit_size, List.size_toArray, List.length_cons, List.length_nil]
      omega
    · rcases hcell with hcell | ⟨b, off, rfl, hb, hl, hcell⟩
      · omega
      have g0 : decide (0 < n) = true := by simp; exact h0
      have hS : ∀ w' V', PrAt w' d p g V' → Kp [d, p] w w' → (w'.cell? ⟨p, 2, none⟩ = some (.slice (some ⟨b, off, none⟩) n cc) ∧ ∀ j : Nat, j < n → w'.cell? ⟨b, off + j, none⟩ = some (.string (f j))) := fun w' V' a k => by
        obtain ⟨d0, d1, d2, d3, d4, d5, d7⟩ := a.cells
        rw [hv] at d2
        exact ⟨d2, fun j hj => (k.cell hl hb).trans (hcell j hj)⟩
      clear hv
      go_upto_region 21 with fail
      have hD : DiceOk w1.drew d := hD
      have hP : PrAt w1.drew d p g V := hP
      have hR : Rs [d, p] w1.drew v xs := hR
      have hKt : Kp [d, p] w w1.drew := hKt
      go_region_held3 (fun w' => w'.cell? ⟨p, 2, none⟩ = some (.slice (some ⟨b, off, none⟩) n cc) ∧ ∀ j : Nat, j < n → w'.cell? ⟨b, off + j, none⟩ = some (.string (f j))) (first | exact hS _ _ hP hKt | exact hS _ _ (by assumption) (by assumption)) (first
        | (go_at_call 24; (with_reducible refine (nexti _ d _ hD ?_ ?_).mono ?_); omega; omega; rintro e w1 ⟨r, hr, rfl, hD, hK⟩; have hrn := Int.ofNat_lt.1 hr; have hzn := hzf r hrn; have hP := hP.kp hK hdp; have hR := hR.kp hK (sub1 d p); have hKt := hKt.trans (hK.sub (sub1 d p)); obtain ⟨c0, c1, c2, c3, c4, c5, c7⟩ := hP.cells))
      go_wp2_with fail
      go_ret
      refine ⟨_, ?_, rfl, hD, hP.le (by omega), hKt⟩
      try simp only [ByteArray.size_append, lit_size, List.size_toArray, List.length_cons, List.length_nil]
      omega
  · obtain ⟨n, A, cc, f, hv, hnc, hcm, hcell, hzf⟩ := Names.open_ (v := g.macros) (w := w) (d := d) (p := p) (by obtain ⟨_, _, _, n1, n2, n3⟩ := hP0; exact n3)
    unfold maxLen at hcm
    rw [hv] at c3
    rcases Nat.eq_zero_or_pos n with h0 | h0
    · subst h0
      clear hcell hzf hv
      have hzf : ∀ j : Nat, j < 0 → True := fun _ _ => trivial
      go_wp2_with (first
        | (go_at_call 24; (with_reducible refine (nexti _ d _ hD ?_ ?_).mono ?_); omega; omega; rintro e w1 ⟨r, hr, rfl, hD, hK⟩; (first | (have hrn := Int.ofNat_lt.1 hr; have hzn := hzf r hrn) | skip); have hP := hP.kp hK hdp; have hR := hR.kp hK (sub1 d p); have hKt := hKt.trans (hK.sub (sub1 d p)); obtain ⟨c0, c1, c2, c3, c4, c5, c7⟩ := hP.cells)
        | (go_at_call 25; (with_reducible refine (of_lit 5 _ d hD _ _ _ ?_ ?_ ?_ ?_).mono ?_); rfl; rfl; omega; omega; rintro e w1 ⟨s, hs, rfl, hD, hK⟩; have hP := hP.kp hK hdp; have hR := hR.kp hK (sub1 d p); have hKt := hKt.trans (hK.sub (sub1 d p)); obtain ⟨c0, c1, c2, c3, c4, c5, c7⟩ := hP.cells)
        | (go_at_call 50; (with_reducible refine (hI0.use hD hP hdp ?_ hR hx hN).mono ?_); omega; rintro e w1 ⟨s, hs, rfl, hD, hP, hK⟩; have hR := hR.kp hK (fun b hb => hb); have hKt := hKt.trans hK; obtain ⟨c0, c1, c2, c3, c4, c5, c7⟩ := hP.cells)
        | (go_at_call 50; (with_reducible refine (hI.use hD hP hdp ?_ hR hx hN).mono ?_); omega; rintro e w1 ⟨s, hs, rfl, hD, hP, hK⟩; have hR := hR.kp hK (fun b hb => hb); have hKt := hKt.trans hK; obtain ⟨c0, c1, c2, c3, c4, c5, c7⟩ := hP.cells)
        | (go_at_call 61; (with_reducible refine (hB.use hD hP hdp ?_ hR hx hN).mono ?_); omega; rintro e w1 ⟨s, hs, rfl, hD, hP, hK⟩; have hR := hR.kp hK (fun b hb => hb); have hKt := hKt.trans hK; obtain ⟨c0, c1, c2, c3, c4, c5, c7⟩ := hP.cells)
        | (go_at_call 32; (with_reducible refine (hB2.use hD hP hdp ?_ hR hx hN).mono ?_); omega; rintro e w1 ⟨s, hs, rfl, hD, hP, hK⟩; have hR := hR.kp hK (fun b hb => hb); have hKt := hKt.trans hK; obtain ⟨c0, c1, c2, c3, c4, c5, c7⟩ := hP.cells)
        | (go_at_call 62; (with_reducible refine (hH.use hD hP hdp ?_ hR hx hN).mono ?_); omega; rintro e w1 ⟨s, hs, rfl, hD, hP, hK⟩; have hR := hR.kp hK (fun b hb => hb); have hKt := hKt.trans hK; obtain ⟨c0, c1, c2, c3, c4, c5, c7⟩ := hP.cells))
      go_ret
      refine ⟨_, ?_, rfl, hD, hP.le (by omega), hKt⟩
      try simp only [ByteArray.size_append, lit_size, List.size_toArray, List.length_cons, List.length_nil]
      omega
    · rcases hcell with hcell | ⟨b, off, rfl, hb, hl, hcell⟩
      · omega
      have g0 : decide (0 < n) = true := by simp; exact h0
      have hS : ∀ w' V', PrAt w' d p g V' → Kp [d, p] w w' → (w'.cell? ⟨p, 3, none⟩ = some (.slice (some ⟨b, off, none⟩) n cc) ∧ ∀ j : Nat, j < n → w'.cell? ⟨b, off + j, none⟩ = some (.string (f j))) := fun w' V' a k => by
        obtain ⟨d0, d1, d2, d3, d4, d5, d7⟩ := a.cells
        rw [hv] at d3
        exact ⟨d3, fun j hj => (k.cell hl hb).trans (hcell j hj)⟩
      clear hv
      go_upto_region 24 with fail
      have hD : DiceOk w1.drew d := hD
      have hP : PrAt w1.drew d p g V := hP
      have hR : Rs [d, p] w1.drew v xs := hR
      have hKt : Kp [d, p] w w1.drew := hKt
      go_region_held3 (fun w' => w'.cell? ⟨p, 3, none⟩ = some (.slice (some ⟨b, off, none⟩) n cc) ∧ ∀ j : Nat, j < n → w'.cell? ⟨b, off + j, none⟩ = some (.string (f j))) (first | exact hS _ _ hP hKt | exact hS _ _ (by assumption) (by assumption)) (first
        | (go_at_call 24; (with_reducible refine (nexti _ d _ hD ?_ ?_).mono ?_); omega; omega; rintro e w1 ⟨r, hr, rfl, hD, hK⟩; have hrn := Int.ofNat_lt.1 hr; have hzn := hzf r hrn; have q1 : ¬ 9223372036854775807 < (f r).size + 2 := (by omega); have hP := hP.kp hK hdp; have hR := hR.kp hK (sub1 d p); have hKt := hKt.trans (hK.sub (sub1 d p)); obtain ⟨c0, c1, c2, c3, c4, c5, c7⟩ := hP.cells)
        | (go_at_call 50; (with_reducible refine (hI.use hD hP hdp ?_ hR hx hN).mono ?_); omega; rintro e w1 ⟨s1, hs1, rfl, hD, hP, hK⟩; have q2 : ¬ 9223372036854775807 < (f r).size + 2 + s1.size := (by omega); have q3 : ¬ 9223372036854775807 < (f r).size + 2 + s1.size + 1 := (by omega); have hR := hR.kp hK (fun b hb => hb); have hKt := hKt.trans hK; obtain ⟨c0, c1, c2, c3, c4, c5, c7⟩ := hP.cells))
      go_wp2_with fail
      go_ret
      refine ⟨_, ?_, rfl, hD, hP.le (by omega), hKt⟩
      try simp only [ByteArray.size_append, lit_size, List.size_toArray, List.length_cons, List.length_nil]
      omega
  · cases hgr : g.r
    · rw [hgr] at c4
      clear hgr
      go_wp2_with (first
        | (go_at_call 24; (with_reducible refine (nexti _ d _ hD ?_ ?_).mono ?_); omega; omega; rintro e w1 ⟨r, hr, rfl, hD, hK⟩; (first | (have hrn := Int.ofNat_lt.1 hr; have hzn := hzf r hrn) | skip); have hP := hP.kp hK hdp; have hR := hR.kp hK (sub1 d p); have hKt := hKt.trans (hK.sub (sub1 d p)); obtain ⟨c0, c1, c2, c3, c4, c5, c7⟩ := hP.cells)
        | (go_at_call 25; (with_reducible refine (of_lit 5 _ d hD _ _ _ ?_ ?_ ?_ ?_).mono ?_); rfl; rfl; omega; omega; rintro e w1 ⟨s, hs, rfl, hD, hK⟩; have hP := hP.kp hK hdp; have hR := hR.kp hK (sub1 d p); have hKt := hKt.trans (hK.sub (sub1 d p)); obtain ⟨c0, c1, c2, c3, c4, c5, c7⟩ := hP.cells)
        | (go_at_call 50; (with_reducible refine (hI0.use hD hP hdp ?_ hR hx hN).mono ?_); omega; rintro e w1 ⟨s, hs, rfl, hD, hP, hK⟩; have hR := hR.kp hK (fun b hb => hb); have hKt := hKt.trans hK; obtain ⟨c0, c1, c2, c3, c4, c5, c7⟩ := hP.cells)
        | (go_at_call 50; (with_reducible refine (hI.use hD hP hdp ?_ hR hx hN).mono ?_); omega; rintro e w1 ⟨s, hs, rfl, hD, hP, hK⟩; have hR := hR.kp hK (fun b hb => hb); have hKt := hKt.trans hK; obtain ⟨c0, c1, c2, c3, c4, c5, c7⟩ := hP.cells)
        | (go_at_call 61; (with_reducible refine (hB.use hD hP hdp ?_ hR hx hN).mono ?_); omega; rintro e w1 ⟨s, hs, rfl, hD, hP, hK⟩; have hR := hR.kp hK (fun b hb => hb); have hKt := hKt.trans hK; obtain ⟨c0, c1, c2, c3, c4, c5, c7⟩ := hP.cells)
        | (go_at_call 32; (with_reducible refine (hB2.use hD hP hdp ?_ hR hx hN).mono ?_); omega; rintro e w1 ⟨s, hs, rfl, hD, hP, hK⟩; have hR := hR.kp hK (fun b hb => hb); have hKt := hKt.trans hK; obtain ⟨c0, c1, c2, c3, c4, c5, c7⟩ := hP.cells)
        | (go_at_call 62; (with_reducible refine (hH.use hD hP hdp ?_ hR hx hN).mono ?_); omega; rintro e w1 ⟨s, hs, rfl, hD, hP, hK⟩; have hR := hR.kp hK (fun b hb => hb); have hKt := hKt.trans hK; obtain ⟨c0, c1, c2, c3, c4, c5, c7⟩ := hP.cells))
      go_ret
      refine ⟨_, ?_, rfl, hD, hP.le (by omega), hKt⟩
      try simp only [ByteArray.size_append, lit_size, List.size_toArray, List.length_cons, List.length_nil]
      omega
    · rw [hgr] at c4
      clear hgr
      go_wp2_with (first
        | (go_at_call 24; (with_reducible refine (nexti _ d _ hD ?_ ?_).mono ?_); omega; omega; rintro e w1 ⟨r, hr, rfl, hD, hK⟩; (first | (have hrn := Int.ofNat_lt.1 hr; have hzn := hzf r hrn) | skip); have hP := hP.kp hK hdp; have hR := hR.kp hK (sub1 d p); have hKt := hKt.trans (hK.sub (sub1 d p)); obtain ⟨c0, c1, c2, c3, c4, c5, c7⟩ := hP.cells)
        | (go_at_call 25; (with_reducible refine (of_lit 5 _ d hD _ _ _ ?_ ?_ ?_ ?_).mono ?_); rfl; rfl; omega; omega; rintro e w1 ⟨s, hs, rfl, hD, hK⟩; have hP := hP.kp hK hdp; have hR := hR.kp hK (sub1 d p); have hKt := hKt.trans (hK.sub (sub1 d p)); obtain ⟨c0, c1, c2, c3, c4, c5, c7⟩ := hP.cells)
        | (go_at_call 50; (with_reducible refine (hI0.use hD hP hdp ?_ hR hx hN).mono ?_); omega; rintro e w1 ⟨s, hs, rfl, hD, hP, hK⟩; have hR := hR.kp hK (fun b hb => hb); have hKt := hKt.trans hK; obtain ⟨c0, c1, c2, c3, c4, c5, c7⟩ := hP.cells)
        | (go_at_call 50; (with_reducible refine (hI.use hD hP hdp ?_ hR hx hN).mono ?_); omega; rintro e w1 ⟨s, hs, rfl, hD, hP, hK⟩; have hR := hR.kp hK (fun b hb => hb); have hKt := hKt.trans hK; obtain ⟨c0, c1, c2, c3, c4, c5, c7⟩ := hP.cells)
        | (go_at_call 61; (with_reducible refine (hB.use hD hP hdp ?_ hR hx hN).mono ?_); omega; rintro e w1 ⟨s, hs, rfl, hD, hP, hK⟩; have hR := hR.kp hK (fun b hb => hb); have hKt := hKt.trans hK; obtain ⟨c0, c1, c2, c3, c4, c5, c7⟩ := hP.cells)
        | (go_at_call 32; (with_reducible refine (hB2.use hD hP hdp ?_ hR hx hN).mono ?_); omega; rintro e w1 ⟨s, hs, rfl, hD, hP, hK⟩; have hR := hR.kp hK (fun b hb => hb); have hKt := hKt.trans hK; obtain ⟨c0, c1, c2, c3, c4, c5, c7⟩ := hP.cells)
        | (go_at_call 62; (with_reducible refine (hH.use hD hP hdp ?_ hR hx hN).mono ?_); omega; rintro e w1 ⟨s, hs, rfl, hD, hP, hK⟩; have hR := hR.kp hK (fun b hb => hb); have hKt := hKt.trans hK; obtain ⟨c0, c1, c2, c3, c4, c5, c7⟩ := hP.cells))
      go_ret
      refine ⟨_, ?_, rfl, hD, hP.le (by omega), hKt⟩
      try simp only [ByteArray.size_append, lit_size, List.size_toArray, List.length_cons, List.length_nil]
      omega
  · cases hgr : g.r
    · rw [hgr] at c4
      clear hgr
      go_wp2_with (first
        | (go_at_call 24; (with_reducible refine (nexti _ d _ hD ?_ ?_).mono ?_); omega; omega; rintro e w1 ⟨r, hr, rfl, hD, hK⟩; (first | (have hrn := Int.ofNat_lt.1 hr; have hzn := hzf r hrn) | skip); have hP := hP.kp hK hdp; have hR := hR.kp hK (sub1 d p); have hKt := hKt.trans (hK.sub (sub1 d p)); obtain ⟨c0, c1, c2, c3, c4, c5, c7⟩ := hP.cells)
        | (go_at_call 25; (with_reducible refine (of_lit 5 _ d hD _ _ _ ?_ ?_ ?_ ?_).mono ?_); rfl; rfl; omega; omega; rintro e w1 ⟨s, hs, rfl, hD, hK⟩; have hP := hP.kp hK hdp; have hR := hR.kp hK (sub1 d p); have hKt := hKt.trans (hK.sub (sub1 d p)); obtain ⟨c0, c1, c2, c3, c4, c5, c7⟩ := hP.cells)
        | (go_at_call 50; (with_reducible refine (hI0.use hD hP hdp ?_ hR hx hN).mono ?_); omega; rintro e w1 ⟨s, hs, rfl, hD, hP, hK⟩; have hR := hR.kp hK (fun b hb => hb); have hKt := hKt.trans hK; obtain ⟨c0, c1, c2, c3, c4, c5, c7⟩ := hP.cells)
        | (go_at_call 50; (with_reducible refine (hI.use hD hP hdp ?_ hR hx hN).mono ?_); omega; rintro e w1 ⟨s, hs, rfl, hD, hP, hK⟩; have hR := hR.kp hK (fun b hb => hb); have hKt := hKt.trans hK; obtain ⟨c0, c1, c2, c3, c4, c5, c7⟩ := hP.cells)
        | (go_at_call 61; (with_reducible refine (hB.use hD hP hdp ?_ hR hx hN).mono ?_); omega; rintro e w1 ⟨s, hs, rfl, hD, hP, hK⟩; have hR := hR.kp hK (fun b hb => hb); have hKt := hKt.trans hK; obtain ⟨c0, c1, c2, c3, c4, c5, c7⟩ := hP.cells)
        | (go_at_call 32; (with_reducible refine (hB2.use hD hP hdp ?_ hR hx hN).mono ?_); omega; rintro e w1 ⟨s, hs, rfl, hD, hP, hK⟩; have hR := hR.kp hK (fun b hb => hb); have hKt := hKt.trans hK; obtain ⟨c0, c1, c2, c3, c4, c5, c7⟩ := hP.cells)
        | (go_at_call 62; (with_reducible refine (hH.use hD hP hdp ?_ hR hx hN).mono ?_); omega; rintro e w1 ⟨s, hs, rfl, hD, hP, hK⟩; have hR := hR.kp hK (fun b hb => hb); have hKt := hKt.trans hK; obtain ⟨c0, c1, c2, c3, c4, c5, c7⟩ := hP.cells))
      go_ret
      refine ⟨_, ?_, rfl, hD, hP.le (by omega), hKt⟩
      try simp only [ByteArray.size_append, lit_size, List.size_toArray, List.length_cons, List.length_nil]
      omega
    · rw [hgr] at c4
      clear hgr
      go_wp2_with (first
        | (go_at_call 24; (with_reducible refine (nexti _ d _ hD ?_ ?_).mono ?_); omega; omega; rintro e w1 ⟨r, hr, rfl, hD, hK⟩; (first | (have hrn := Int.ofNat_lt.1 hr; have hzn := hzf r hrn) | skip); have hP := hP.kp hK hdp; have hR := hR.kp hK (sub1 d p); have hKt := hKt.trans (hK.sub (sub1 d p)); obtain ⟨c0, c1, c2, c3, c4, c5, c7⟩ := hP.cells)
        | (go_at_call 25; (with_reducible refine (of_lit 5 _ d hD _ _ _ ?_ ?_ ?_ ?_).mono ?_); rfl; rfl; omega; omega; rintro e w1 ⟨s, hs, rfl, hD, hK⟩; have hP := hP.kp hK hdp; have hR := hR.kp hK (sub1 d p); have hKt := hKt.trans (hK.sub (sub1 d p)); obtain ⟨c0, c1, c2, c3, c4, c5, c7⟩ := hP.cells)
        | (go_at_call 50; (with_reducible refine (hI0.use hD hP hdp ?_ hR hx hN).mono ?_); omega; rintro e w1 ⟨s, hs, rfl, hD, hP, hK⟩; have hR := hR.kp hK (fun b hb => hb); have hKt := hKt.trans hK; obtain ⟨c0, c1, c2, c3, c4, c5, c7⟩ := hP.cells)
        | (go_at_call 50; (with_reducible refine (hI.use hD hP hdp ?_ hR hx hN).mono ?_); omega; rintro e w1 ⟨s, hs, rfl, hD, hP, hK⟩; have hR := hR.kp hK (fun b hb => hb); have hKt := hKt.trans hK; obtain ⟨c0, c1, c2, c3, c4, c5, c7⟩ := hP.cells)
        | (go_at_call 61; (with_reducible refine (hB.use hD hP hdp ?_ hR hx hN).mono ?_); omega; rintro e w1 ⟨s, hs, rfl, hD, hP, hK⟩; have hR := hR.kp hK (fun b hb => hb); have hKt := hKt.trans hK; obtain ⟨c0, c1, c2, c3, c4, c5, c7⟩ := hP.cells)
        | (go_at_call 32; (with_reducible refine (hB2.use hD hP hdp ?_ hR hx hN).mono ?_); omega; rintro e w1 ⟨s, hs, rfl, hD, hP, hK⟩; have hR := hR.kp hK (fun b hb => hb); have hKt := hKt.trans hK; obtain ⟨c0, c1, c2, c3, c4, c5, c7⟩ := hP.cells)
        | (go_at_call 62; (with_reducible refine (hH.use hD hP hdp ?_ hR hx hN).mono ?_); omega; rintro e w1 ⟨s, hs, rfl, hD, hP, hK⟩; have hR := hR.kp hK (fun b hb => hb); have hKt := hKt.trans hK; obtain ⟨c0, c1, c2, c3, c4, c5, c7⟩ := hP.cells))
      go_ret
      refine ⟨_, ?_, rfl, hD, hP.le (by omega), hKt⟩
      try simp only [ByteArray.size_append, lit_size, List.size_toArray, List.length_cons, List.length_nil]
      omega
  · cases hgr : g.s
    · rw [hgr] at c5
      clear hgr
      go_wp2_with (first
        | (go_at_call 24; (with_reducible refine (nexti _ d _ hD ?_ ?_).mono ?_); omega; omega; rintro e w1 ⟨r, hr, rfl, hD, hK⟩; (first | (have hrn := Int.ofNat_lt.1 hr; have hzn := hzf r hrn) | skip); have hP := hP.kp hK hdp; have hR := hR.kp hK (sub1 d p); have hKt := hKt.trans (hK.sub (sub1 d p)); obtain ⟨c0, c1, c2, c3, c4, c5, c7⟩ := hP.cells)
        | (go_at_call 25; (with_reducible refine (of_lit 5 _ d hD _ _ _ ?_ ?_ ?_ ?_).mono ?_); rfl; rfl; omega; omega; rintro e w1 ⟨s, hs, rfl, hD, hK⟩; have hP := hP.kp hK hdp; have hR := hR.kp hK (sub1 d p); have hKt := hKt.trans (hK.sub (sub1 d p)); obtain ⟨c0, c1, c2, c3, c4, c5, c7⟩ := hP.cells)
        | (go_at_call 50; (with_reducible refine (hI0.use hD hP hdp ?_ hR hx hN).mono ?_); omega; rintro e w1 ⟨s, hs, rfl, hD, hP, hK⟩; have hR := hR.kp hK (fun b hb => hb); have hKt := hKt.trans hK; obtain ⟨c0, c1, c2, c3, c4, c5, c7⟩ := hP.cells)
        | (go_at_call 50; (with_reducible refine (hI.use hD hP hdp ?_ hR hx hN).mono ?_); omega; rintro e w1 ⟨s, hs, rfl, hD, hP, hK⟩; have hR := hR.kp hK (fun b hb => hb); have hKt := hKt.trans hK; obtain ⟨c0, c1, c2, c3, c4, c5, c7⟩ := hP.cells)
        | (go_at_call 61; (with_reducible refine (hB.use hD hP hdp ?_ hR hx hN).mono ?_); omega; rintro e w1 ⟨s, hs, rfl, hD, hP, hK⟩; have hR := hR.kp hK (fun b hb => hb); have hKt := hKt.trans hK; obtain ⟨c0, c1, c2, c3, c4, c5, c7⟩ := hP.cells)
        | (go_at_call 32; (with_reducible refine (hB2.use hD hP hdp ?_ hR hx hN).mono ?_); omega; rintro e w1 ⟨s, hs, rfl, hD, hP, hK⟩; have hR := hR.kp hK (fun b hb => hb); have hKt := hKt.trans hK; obtain ⟨c0, c1, c2, c3, c4, c5, c7⟩ := hP.cells)
        | (go_at_call 62; (with_reducible refine (hH.use hD hP hdp ?_ hR hx hN).mono ?_); omega; rintro e w1 ⟨s, hs, rfl, hD, hP, hK⟩; have hR := hR.kp hK (fun b hb => hb); have hKt := hKt.trans hK; obtain ⟨c0, c1, c2, c3, c4, c5, c7⟩ := hP.cells))
      go_ret
      refine ⟨_, ?_, rfl, hD, hP.le (by omega), hKt⟩
      try simp only [ByteArray.size_append, lit_size, List.size_toArray, List.length_cons, List.length_nil]
      omega
    · rw [hgr] at c5
      clear hgr
      go_wp2_with (first
        | (go_at_call 24; (with_reducible refine (nexti _ d _ hD ?_ ?_).mono ?_); omega; omega; rintro e w1 ⟨r, hr, rfl, hD, hK⟩; (first | (have hrn := Int.ofNat_lt.1 hr; have hzn := hzf r hrn) | skip); have hP := hP.kp hK hdp; have hR := hR.kp hK (sub1 d p); have hKt := hKt.trans (hK.sub (sub1 d p)); obtain ⟨c0, c1, c2, c3, c4, c5, c7⟩ := hP.cells)
        | (go_at_call 25; (with_reducible refine (of_lit 5 _ d hD _ _ _ ?_ ?_ ?_ ?_).mono ?_); rfl; rfl; omega; omega; rintro e w1 ⟨s, hs, rfl, hD, hK⟩; have hP := hP.kp hK hdp; have hR := hR.kp hK (sub1 d p); have hKt := hKt.trans (hK.sub (sub1 d p)); obtain ⟨c0, c1, c2, c3, c4, c5, c7⟩ := hP.cells)
        | (go_at_call 50; (with_reducible refine (hI0.use hD hP hdp ?_ hR hx hN).mono ?_); omega; rintro e w1 ⟨s, hs, rfl, hD, hP, hK⟩; have hR := hR.kp hK (fun b hb => hb); have hKt := hKt.trans hK; obtain ⟨c0, c1, c2, c3, c4, c5, c7⟩ := hP.cells)
        | (go_at_call 50; (with_reducible refine (hI.use hD hP hdp ?_ hR hx hN).mono ?_); omega; rintro e w1 ⟨s, hs, rfl, hD, hP, hK⟩; have hR := hR.kp hK (fun b hb => hb); have hKt := hKt.trans hK; obtain ⟨c0, c1, c2, c3, c4, c5, c7⟩ := hP.cells)
        | (go_at_call 61; (with_reducible refine (hB.use hD hP hdp ?_ hR hx hN).mono ?_); omega; rintro e w1 ⟨s, hs, rfl, hD, hP, hK⟩; have hR := hR.kp hK (fun b hb => hb); have hKt := hKt.trans hK; obtain ⟨c0, c1, c2, c3, c4, c5, c7⟩ := hP.cells)
        | (go_at_call 32; (with_reducible refine (hB2.use hD hP hdp ?_ hR hx hN).mono ?_); omega; rintro e w1 ⟨s, hs, rfl, hD, hP, hK⟩; have hR := hR.kp hK (fun b hb => hb); have hKt := hKt.trans hK; obtain ⟨c0, c1, c2, c3, c4, c5, c7⟩ := hP.cells)
        | (go_at_call 62; (with_reducible refine (hH.use hD hP hdp ?_ hR hx hN).mono ?_); omega; rintro e w1 ⟨s, hs, rfl, hD, hP, hK⟩; have hR := hR.kp hK (fun b hb => hb); have hKt := hKt.trans hK; obtain ⟨c0, c1, c2, c3, c4, c5, c7⟩ := hP.cells))
      go_ret
      refine ⟨_, ?_, rfl, hD, hP.le (by omega), hKt⟩
      try simp only [ByteArray.size_append, lit_size, List.size_toArray, List.length_cons, List.length_nil]
      omega
  · cases hgr : g.s
    · rw [hgr] at c5
      clear hgr
      go_wp2_with (first
        | (go_at_call 24; (with_reducible refine (nexti _ d _ hD ?_ ?_).mono ?_); omega; omega; rintro e w1 ⟨r, hr, rfl, hD, hK⟩; (first | (have hrn := Int.ofNat_lt.1 hr; have hzn := hzf r hrn) | skip); have hP := hP.kp hK hdp; have hR := hR.kp hK (sub1 d p); have hKt := hKt.trans (hK.sub (sub1 d p)); obtain ⟨c0, c1, c2, c3, c4, c5, c7⟩ := hP.cells)
        | (go_at_call 25; (with_reducible refine (of_lit 5 _ d hD _ _ _ ?_ ?_ ?_ ?_).mono ?_); rfl; rfl; omega; omega; rintro e w1 ⟨s, hs, rfl, hD, hK⟩; have hP := hP.kp hK hdp; have hR := hR.kp hK (sub1 d p); have hKt := hKt.trans (hK.sub (sub1 d p)); obtain ⟨c0, c1, c2, c3, c4, c5, c7⟩ := hP.cells)
        | (go_at_call 50; (with_reducible refine (hI0.use hD hP hdp ?_ hR hx hN).mono ?_); omega; rintro e w1 ⟨s, hs, rfl, hD, hP, hK⟩; have hR := hR.kp hK (fun b hb => hb); have hKt := hKt.trans hK; obtain ⟨c0, c1, c2, c3, c4, c5, c7⟩ := hP.cells)
        | (go_at_call 50; (with_reducible refine (hI.use hD hP hdp ?_ hR hx hN).mono ?_); omega; rintro e w1 ⟨s, hs, rfl, hD, hP, hK⟩; have hR := hR.kp hK (fun b hb => hb); have hKt := hKt.trans hK; obtain ⟨c0, c1, c2, c3, c4, c5, c7⟩ := hP.cells)
        | (go_at_call 61; (with_reducible refine (hB.use hD hP hdp ?_ hR hx hN).mono ?_); omega; rintro e w1 ⟨s, hs, rfl, hD, hP, hK⟩; have hR := hR.kp hK (fun b hb => hb); have hKt := hKt.trans hK; obtain ⟨c0, c1, c2, c3, c4, c5, c7⟩ := hP.cells)
        | (go_at_call 32; (with_reducible refine (hB2.use hD hP hdp ?_ hR hx hN).mono ?_); omega; rintro e w1 ⟨s, hs, rfl, hD, hP, hK⟩; have hR := hR.kp hK (fun b hb => hb); have hKt := hKt.trans hK; obtain ⟨c0, c1, c2, c3, c4, c5, c7⟩ := hP.cells)
        | (go_at_call 62; (with_reducible refine (hH.use hD hP hdp ?_ hR hx hN).mono ?_); omega; rintro e w1 ⟨s, hs, rfl, hD, hP, hK⟩; have hR := hR.kp hK (fun b hb => hb); have hKt := hKt.trans hK; obtain ⟨c0, c1, c2, c3, c4, c5, c7⟩ := hP.cells))
      go_ret
      refine ⟨_, ?_, rfl, hD, hP.le (by omega), hKt⟩
      try simp only [ByteArray.size_append, lit_size, List.size_toArray, List.length_cons, List.length_nil]
      omega
    · rw [hgr] at c5
      clear hgr
      go_wp2_with (first
        | (go_at_call 24; (with_reducible refine (nexti _ d _ hD ?_ ?_).mono ?_); omega; omega; rintro e w1 ⟨r, hr, rfl, hD, hK⟩; (first | (have hrn := Int.ofNat_lt.1 hr; have hzn := hzf r hrn) | skip); have hP := hP.kp hK hdp; have hR := hR.kp hK (sub1 d p); have hKt := hKt.trans (hK.sub (sub1 d p)); obtain ⟨c0, c1, c2, c3, c4, c5, c7⟩ := hP.cells)
        | (go_at_call 25; (with_reducible refine (of_lit 5 _ d hD _ _ _ ?_ ?_ ?_ ?_).mono ?_); rfl; rfl; omega; omega; rintro e w1 ⟨s, hs, rfl, hD, hK⟩; have hP := hP.kp hK hdp; have hR := hR.kp hK (sub1 d p); have hKt := hKt.trans (hK.sub (sub1 d p)); obtain ⟨c0, c1, c2, c3, c4, c5, c7⟩ := hP.cells)
        | (go_at_call 50; (with_reducible refine (hI0.use hD hP hdp ?_ hR hx hN).mono ?_); omega; rintro e w1 ⟨s, hs, rfl, hD, hP, hK⟩; have hR := hR.kp hK (fun b hb => hb); have hKt := hKt.trans hK; obtain ⟨c0, c1, c2, c3, c4, c5, c7⟩ := hP.cells)
        | (go_at_call 50; (with_reducible refine (hI.use hD hP hdp ?_ hR hx hN).mono ?_); omega; rintro e w1 ⟨s, hs, rfl, hD, hP, hK⟩; have hR := hR.kp hK (fun b hb => hb); have hKt := hKt.trans hK; obtain ⟨c0, c1, c2, c3, c4, c5, c7⟩ := hP.cells)
        | (go_at_call 61; (with_reducible refine (hB.use hD hP hdp ?_ hR hx hN).mono ?_); omega; rintro e w1 ⟨s, hs, rfl, hD, hP, hK⟩; have hR := hR.kp hK (fun b hb => hb); have hKt := hKt.trans hK; obtain ⟨c0, c1, c2, c3, c4, c5, c7⟩ := hP.cells)
        | (go_at_call 32; (with_reducible refine (hB2.use hD hP hdp ?_ hR hx hN).mono ?_); omega; rintro e w1 ⟨s, hs, rfl, hD, hP, hK⟩; have hR := hR.kp hK (fun b hb => hb); have hKt := hKt.trans hK; obtain ⟨c0, c1, c2, c3, c4, c5, c7⟩ := hP.cells)
        | (go_at_call 62; (with_reducible refine (hH.use hD hP hdp ?_ hR hx hN).mono ?_); omega; rintro e w1 ⟨s, hs, rfl, hD, hP, hK⟩; have hR := hR.kp hK (fun b hb => hb); have hKt := hKt.trans hK; obtain ⟨c0, c1, c2, c3, c4, c5, c7⟩ := hP.cells))
      go_ret
      refine ⟨_, ?_, rfl, hD, hP.le (by omega), hKt⟩
      try simp only [ByteArray.size_append, lit_size, List.size_toArray, List.length_cons, List.length_nil]
      omega
  · go_wp2_with (first
        | (go_at_call 24; (with_reducible refine (nexti _ d _ hD ?_ ?_).mono ?_); omega; omega; rintro e w1 ⟨r, hr, rfl, hD, hK⟩; (first | (have hrn := Int.ofNat_lt.1 hr; have hzn := hzf r hrn) | skip); have hP := hP.kp hK hdp; have hR := hR.kp hK (sub1 d p); have hKt := hKt.trans (hK.sub (sub1 d p)); obtain ⟨c0, c1, c2, c3, c4, c5, c7⟩ := hP.cells)
        | (go_at_call 25; (with_reducible refine (of_lit 5 _ d hD _ _ _ ?_ ?_ ?_ ?_).mono ?_); rfl; rfl; omega; omega; rintro e w1 ⟨s, hs, rfl, hD, hK⟩; have hP := hP.kp hK hdp; have hR := hR.kp hK (sub1 d p); have hKt := hKt.trans (hK.sub (sub1 d p)); obtain ⟨c0, c1, c2, c3, c4, c5, c7⟩ := hP.cells)
        | (go_at_call 50; (with_reducible refine (hI0.use hD hP hdp ?_ hR hx hN).mono ?_); omega; rintro e w1 ⟨s, hs, rfl, hD, hP, hK⟩; have hR := hR.kp hK (fun b hb => hb); have hKt := hKt.trans hK; obtain ⟨c0, c1, c2, c3, c4, c5, c7⟩ := hP.cells)
        | (go_at_call 50; (with_reducible refine (hI.use hD hP hdp ?_ hR hx hN).mono ?_); omega; rintro e w1 ⟨s, hs, rfl, hD, hP, hK⟩; have hR := hR.kp hK (fun b hb => hb); have hKt := hKt.trans hK; obtain ⟨c0, c1, c2, c3, c4, c5, c7⟩ := hP.cells)
        | (go_at_call 61; (with_reducible refine (hB.use hD hP hdp ?_ hR hx hN).mono ?_); omega; rintro e w1 ⟨s, hs, rfl, hD, hP, hK⟩; have hR := hR.kp hK (fun b hb => hb); have hKt := hKt.trans hK; obtain ⟨c0, c1, c2, c3, c4, c5, c7⟩ := hP.cells)
        | (go_at_call 32; (with_reducible refine (hB2.use hD hP hdp ?_ hR hx hN).mono ?_); omega; rintro e w1 ⟨s, hs, rfl, hD, hP, hK⟩; have hR := hR.kp hK (fun b hb => hb); have hKt := hKt.trans hK; obtain ⟨c0, c1, c2, c3, c4, c5, c7⟩ := hP.cells)
        | (go_at_call 62; (with_reducible refine (hH.use hD hP hdp ?_ hR hx hN).mono ?_); omega; rintro e w1 ⟨s, hs, rfl, hD, hP, hK⟩; have hR := hR.kp hK (fun b hb => hb); have hKt := hKt.trans hK; obtain ⟨c0, c1, c2, c3, c4, c5, c7⟩ := hP.cells))
    go_ret
    refine ⟨_, ?_, rfl, hD, hP.le (by omega), hKt⟩
    try simp only [ByteArray.size_append, lit_size, List.size_toArray, List.length_cons, List.length_nil]
    omega
  · go_wp2_with (first
        | (go_at_call 24; (with_reducible refine (nexti _ d _ hD ?_ ?_).mono ?_); omega; omega; rintro e w1 ⟨r, hr, rfl, hD, hK⟩; (first | (have hrn := Int.ofNat_lt.1 hr; have hzn := hzf r hrn) | skip); have hP := hP.kp hK hdp; have hR := hR.kp hK (sub1 d p); have hKt := hKt.trans (hK.sub (sub1 d p)); obtain ⟨c0, c1, c2, c3, c4, c5, c7⟩ := hP.cells)
        | (go_at_call 25; (with_reducible refine (of_lit 5 _ d hD _ _ _ ?_ ?_ ?_ ?_).mono ?_); rfl; rfl; omega; omega; rintro e w1 ⟨s, hs, rfl, hD, hK⟩; have hP := hP.kp hK hdp; have hR := hR.kp hK (sub1 d p); have hKt := hKt.trans (hK.sub (sub1 d p)); obtain ⟨c0, c1, c2, c3, c4, c5, c7⟩ := hP.cells)
        | (go_at_call 50; (with_reducible refine (hI0.use hD hP hdp ?_ hR hx hN).mono ?_); omega; rintro e w1 ⟨s, hs, rfl, hD, hP, hK⟩; have hR := hR.kp hK (fun b hb => hb); have hKt := hKt.trans hK; obtain ⟨c0, c1, c2, c3, c4, c5, c7⟩ := hP.cells)
        | (go_at_call 50; (with_reducible refine (hI.use hD hP hdp ?_ hR hx hN).mono ?_); omega; rintro e w1 ⟨s, hs, rfl, hD, hP, hK⟩; have hR := hR.kp hK (fun b hb => hb); have hKt := hKt.trans hK; obtain ⟨c0, c1, c2, c3, c4, c5, c7⟩ := hP.cells)
        | (go_at_call 61; (with_reducible refine (hB.use hD hP hdp ?_ hR hx hN).mono ?_); omega; rintro e w1 ⟨s, hs, rfl, hD, hP, hK⟩; have hR := hR.kp hK (fun b hb => hb); have hKt := hKt.trans hK; obtain ⟨c0, c1, c2, c3, c4, c5, c7⟩ := hP.cells)
        | (go_at_call 32; (with_reducible refine (hB2.use hD hP hdp ?_ hR hx hN).mono ?_); omega; rintro e w1 ⟨s, hs, rfl, hD, hP, hK⟩; have hR := hR.kp hK (fun b hb => hb); have hKt := hKt.trans hK; obtain ⟨c0, c1, c2, c3, c4, c5, c7⟩ := hP.cells)
        | (go_at_call 62; (with_reducible refine (hH.use hD hP hdp ?_ hR hx hN).mono ?_); omega; rintro e w1 ⟨s, hs, rfl, hD, hP, hK⟩; have hR := hR.kp hK (fun b hb => hb); have hKt := hKt.trans hK; obtain ⟨c0, c1, c2, c3, c4, c5, c7⟩ := hP.cells))
    go_ret
    refine ⟨_, ?_, rfl, hD, hP.le (by omega), hKt⟩
    try simp only [ByteArray.size_append, lit_size, List.size_toArray, List.length_cons, List.length_nil]
    omega
end Go.Proofs.Ytpjpndbagkcgcaa
