/- Programs that are made: items. -/
import Derived.Test.YtpjpndbagkcgcaaM6
set_option linter.unusedVariables false
set_option linter.unusedSimpArgs false
namespace Go.Proofs.Ytpjpndbagkcgcaa
open Go.RowKit

def PostIt (B K V : Nat) (w : World) (d p : Nat) (e : Ending) (w' : World) : Prop := ∃ (s : ByteArray) (g' : Pg), s.size ≤ 1200 ∧ e = .returned (.string s) ∧ DiceOk w' d ∧ PrO w' B d p g' (K + 1) (V + 14) ∧ Kb B [d, p] w w'

set_option maxHeartbeats 8000000 in
set_option maxRecDepth 100000 in
theorem item_any (w : World) (B d p : Nat) (g : Pg) (K V : Nat) (mm : ByteArray) (k : Nat) (hD : DiceOk w d) (hO : PrO w B d p g K V) (hBw : B ≤ w.heap.size) (hV : V + 14 ≤ 9999) (hK : K ≤ 100) (hmm : mm.size ≤ 1) (hk : k < 10) :
    Calls Try.prog 31 #[.pointer (some ⟨p, 0, none⟩), .string mm, .int .i64 k] w (PostIt B K V w d p) := by
  have hKb : Kb B [d, p] w w := Kb.refl _ _ _
  have hdp := hO.dp
  obtain ⟨c0, c1, c2, c3, c4, c5, c7⟩ := hO.at_.cells
  go_enter Try.func31, Try.ntmps31
  go_wp2_with fail
  refine (digits_small k _ hk).mono ?_
  rintro e w1 ⟨sd, hsd, rfl, hb⟩
  have hD := hD.of hb
  have hO := hO.of hb
  have hKb := hKb.of hb hBw
  clear c0 c1 c2 c3 c4 c5 c7 hb
  obtain ⟨c0, c1, c2, c3, c4, c5, c7⟩ := hO.at_.cells
  obtain ⟨nm, hnm, hnms⟩ : ∃ nm, nm = mm ++ sd ∧ nm.size ≤ 2 := ⟨_, rfl, by rw [ByteArray.size_append]; omega⟩
  go_wp2_with fail
  try rw [← hnm]
  clear hnm
  refine (nexti _ d _ hD (by omega) (by omega)).mono ?_
  rintro e w2 ⟨r, hr, rfl, hD, hK⟩
  have hO := hO.of1 hK
  have hKb := hKb.kp (hK.sub (sub1 d p)) hBw
  clear c0 c1 c2 c3 c4 c5 c7
  obtain ⟨c0, c1, c2, c3, c4, c5, c7⟩ := hO.at_.cells
  have hr6 : r = 0 ∨ r = 1 ∨ r = 2 ∨ r = 3 ∨ r = 4 ∨ r = 5 := by omega
  rcases hr6 with rfl | rfl | rfl | rfl | rfl | rfl
  · go_wp2_with (first
      | (go_at_call 24; (with_reducible refine (nexti _ d _ hD ?_ ?_).mono ?_); omega; omega; rintro e w1 ⟨r, hr, rfl, hD, hK⟩; have hO := hO.of1 hK; have hKb := hKb.kp (hK.sub (sub1 d p)) hBw; clear c0 c1 c2 c3 c4 c5 c7; obtain ⟨c0, c1, c2, c3, c4, c5, c7⟩ := hO.at_.cells)
      | (go_at_call 50; (with_reducible refine ((int12 _ ?_ ?_).use0 hD hO.at_ hdp ?_).mono ?_); omega; omega; omega; rintro e w1 ⟨sb, hsb, rfl, hD, hP, hK⟩; have hO := hO.kp hK hP; have hKb := hKb.kp hK hBw; clear c0 c1 c2 c3 c4 c5 c7; obtain ⟨c0, c1, c2, c3, c4, c5, c7⟩ := hO.at_.cells)
      | (at_builtin; obtain ⟨xs, hown, hxs, hxl⟩ := hO.n2; refine wpl_append _ rfl _ _ 63 rfl _ 1 16 elStr B _ (xs.map Value.string) rfl (hown.alloc _) (some ⟨_, 0, none⟩) 1 1 [.string _] rfl rfl (at_lit1 _ _ _) (one_one _) (by simp; unfold maxLen; omega) (by simp; omega) (by have := hKb.size; simp; omega) ?_; intro v9 w9 ho9 hg9 hat9; obtain ⟨hD9, hO9, hKb9, c9, f9⟩ := hO.add_consts hD hxs hxl hown (by simp only [ByteArray.size_append, lit_size, List.size_toArray, List.length_cons, List.length_nil]; omega) ho9 hg9 hat9 (by have := hKb.size; omega); obtain ⟨A9, n9, k9, rfl, _⟩ := ho9.form (by omega); clear c0 c1 c2 c3 c4 c5 c7))
    go_ret
    refine ⟨_, _, ?_, rfl, hD9, hO9.le (by omega), hKb.trans hKb9⟩
    simp only [ByteArray.size_append, lit_size, List.size_toArray, List.length_cons, List.length_nil]; omega
  · obtain ⟨hO5, k7, f7⟩ := hO.mac true
    go_upto_region 10 with fail
    obtain ⟨w5, hw5⟩ : ∃ w5, w5 = w2.setCell ⟨p, 7, none⟩ (.bool true) := ⟨_, rfl⟩
    rw [← hw5] at hO5 k7 ⊢
    have hD := hD.kp k7 (by simp; omega)
    have hKb := hKb.kp (k7.sub (cs := [d, p]) (by simp)) hBw
    have hO := hO5
    clear c0 c1 c2 c3 c4 c5 c7 f7 hw5 hO5 k7
    obtain ⟨c0, c1, c2, c3, c4, c5, c7⟩ := hO.at_.cells
    go_wp2_with fail
    refine ((int1 700 (by omega)).useL hD hO.at_ hdp ?_ _ _ _ ?_ ?_ ?_ ?_).mono ?_
    · omega
    · rfl
    · rfl
    · omega
    · omega
    rintro e w6 ⟨sb, hsb, rfl, hD, hP, hK⟩
    have hO := hO.kp hK hP
    have hKb := hKb.kp hK hBw
    clear c0 c1 c2 c3 c4 c5 c7 hK hP
    obtain ⟨c0, c1, c2, c3, c4, c5, c7⟩ := hO.at_.cells
    obtain ⟨hO5, k7, f7⟩ := hO.mac false
    go_upto_region 12 with fail
    obtain ⟨w7, hw7⟩ : ∃ w5, w5 = w6.setCell ⟨p, 7, none⟩ (.bool false) := ⟨_, rfl⟩
    rw [← hw7] at hO5 k7 ⊢
    have hD := hD.kp k7 (by simp; omega)
    have hKb := hKb.kp (k7.sub (cs := [d, p]) (by simp)) hBw
    have hO := hO5
    clear c0 c1 c2 c3 c4 c5 c7 f7 hw7 hO5 k7
    obtain ⟨c0, c1, c2, c3, c4, c5, c7⟩ := hO.at_.cells
    go_wp2_with (first
      | (go_at_call 25; (refine (of_mem 200 _ d hD [_, _, _, _] _ _ _ rfl ?_ ?_ ?_ ?_).mono ?_); (intro y hy; simp only [List.mem_cons, List.not_mem_nil, or_false] at hy; (rcases hy with rfl | rfl | rfl | rfl <;> (try simp only [lit_size, List.size_toArray, List.length_cons, List.length_nil]) <;> omega)); rfl; omega; omega; rintro e w8 ⟨sc, hsc, rfl, hD, hK⟩; have hO := hO.of1 hK; have hKb := hKb.kp (hK.sub (sub1 d p)) hBw; clear c0 c1 c2 c3 c4 c5 c7; obtain ⟨c0, c1, c2, c3, c4, c5, c7⟩ := hO.at_.cells)
      | (at_builtin; obtain ⟨xs, hown, hxs, hxl⟩ := hO.n3; refine wpl_append _ rfl _ _ 63 rfl _ 1 16 elStr B _ (xs.map Value.string) rfl (hown.alloc _) (some ⟨_, 0, none⟩) 1 1 [.string _] rfl rfl (at_lit1 _ _ _) (one_one _) (by simp; unfold maxLen; omega) (by simp; omega) (by have := hKb.size; simp; omega) ?_; intro v9 w9 ho9 hg9 hat9; obtain ⟨hD9, hO9, hKb9, c9, f9⟩ := hO.add_macros hD hxs hxl hown (by simp only [ByteArray.size_append, lit_size, List.size_toArray, List.length_cons, List.length_nil]; omega) ho9 hg9 hat9 (by have := hKb.size; omega); obtain ⟨A9, n9, k9, rfl, _⟩ := ho9.form (by omega); clear c0 c1 c2 c3 c4 c5 c7))
    go_ret
    refine ⟨_, _, ?_, rfl, hD9, hO9.le (by omega), hKb.trans hKb9⟩
    simp only [ByteArray.size_append, lit_size, List.size_toArray, List.length_cons, List.length_nil]; omega
  · go_wp2_with (first
      | (go_at_call 50; (refine ((int12 1 ?_ ?_).useL hD hO.at_ hdp ?_ _ _ _ ?_ ?_ ?_ ?_).mono ?_); omega; omega; omega; rfl; rfl; omega; omega; rintro e w1 ⟨sb, hsb, rfl, hD, hP, hK⟩; have hO := hO.kp hK hP; have hKb := hKb.kp hK hBw; clear c0 c1 c2 c3 c4 c5 c7; obtain ⟨c0, c1, c2, c3, c4, c5, c7⟩ := hO.at_.cells)
      | (at_builtin; obtain ⟨xs, hown, hxs, hxl⟩ := hO.n1; refine wpl_append _ rfl _ _ 63 rfl _ 1 16 elStr B _ (xs.map Value.string) rfl (hown.alloc _) (some ⟨_, 0, none⟩) 1 1 [.string _] rfl rfl (at_lit1 _ _ _) (one_one _) (by simp; unfold maxLen; omega) (by simp; omega) (by have := hKb.size; simp; omega) ?_; intro v9 w9 ho9 hg9 hat9; obtain ⟨hD9, hO9, hKb9, c9, f9⟩ := hO.add_fns hD hxs hxl hown (by simp only [ByteArray.size_append, lit_size, List.size_toArray, List.length_cons, List.length_nil]; omega) ho9 hg9 hat9 (by have := hKb.size; omega); obtain ⟨A9, n9, k9, rfl, _⟩ := ho9.form (by omega); clear c0 c1 c2 c3 c4 c5 c7))
    go_ret
    refine ⟨_, _, ?_, rfl, hD9, hO9.le (by omega), hKb.trans hKb9⟩
    simp only [ByteArray.size_append, lit_size, List.size_toArray, List.length_cons, List.length_nil]; omega
  · go_wp2_with (first
      | (at_builtin; obtain ⟨xs, hown, hxs, hxl⟩ := hO.n1; refine wpl_append _ rfl _ _ 63 rfl _ 1 16 elStr B _ (xs.map Value.string) rfl (hown.alloc _) (some ⟨_, 0, none⟩) 1 1 [.string _] rfl rfl (at_lit1 _ _ _) (one_one _) (by simp; unfold maxLen; omega) (by simp; omega) (by have := hKb.size; simp; omega) ?_; intro v9 w9 ho9 hg9 hat9; obtain ⟨hD9, hO9, hKb9, c9, f9⟩ := hO.add_fns hD hxs hxl hown (by simp only [ByteArray.size_append, lit_size, List.size_toArray, List.length_cons, List.length_nil]; omega) ho9 hg9 hat9 (by have := hKb.size; omega); obtain ⟨A9, n9, k9, rfl, _⟩ := ho9.form (by omega); clear c0 c1 c2 c3 c4 c5 c7))
    go_ret
    refine ⟨_, _, ?_, rfl, hD9, hO9.le (by omega), hKb.trans hKb9⟩
    simp only [ByteArray.size_append, lit_size, List.size_toArray, List.length_cons, List.length_nil]; omega
  · go_wp2_with (first
      | (go_at_call 24; (with_reducible refine (nexti _ d _ hD ?_ ?_).mono ?_); omega; omega; rintro e w1 ⟨r, hr, rfl, hD, hK⟩; have hO := hO.of1 hK; have hKb := hKb.kp (hK.sub (sub1 d p)) hBw; clear c0 c1 c2 c3 c4 c5 c7; obtain ⟨c0, c1, c2, c3, c4, c5, c7⟩ := hO.at_.cells)
      | (go_at_call 32; (refine ((block13 _ ?_ ?_).useL hD hO.at_ hdp ?_ _ _ _ ?_ ?_ ?_ ?_).mono ?_); omega; omega; omega; rfl; rfl; omega; omega; rintro e w1 ⟨sb, hsb, rfl, hD, hP, hK⟩; have hO := hO.kp hK hP; have hKb := hKb.kp hK hBw; clear c0 c1 c2 c3 c4 c5 c7; obtain ⟨c0, c1, c2, c3, c4, c5, c7⟩ := hO.at_.cells)
      | (at_builtin; obtain ⟨xs, hown, hxs, hxl⟩ := hO.n1; refine wpl_append _ rfl _ _ 63 rfl _ 1 16 elStr B _ (xs.map Value.string) rfl (hown.alloc _) (some ⟨_, 0, none⟩) 1 1 [.string _] rfl rfl (at_lit1 _ _ _) (one_one _) (by simp; unfold maxLen; omega) (by simp; omega) (by have := hKb.size; simp; omega) ?_; intro v9 w9 ho9 hg9 hat9; obtain ⟨hD9, hO9, hKb9, c9, f9⟩ := hO.add_fns hD hxs hxl hown (by simp only [ByteArray.size_append, lit_size, List.size_toArray, List.length_cons, List.length_nil]; omega) ho9 hg9 hat9 (by have := hKb.size; omega); obtain ⟨A9, n9, k9, rfl, _⟩ := ho9.form (by omega); clear c0 c1 c2 c3 c4 c5 c7))
    go_ret
    refine ⟨_, _, ?_, rfl, hD9, hO9.le (by omega), hKb.trans hKb9⟩
    simp only [ByteArray.size_append, lit_size, List.size_toArray, List.length_cons, List.length_nil]; omega
  · go_wp2_with (first
      | (go_at_call 24; (with_reducible refine (nexti _ d _ hD ?_ ?_).mono ?_); omega; omega; rintro e w1 ⟨r, hr, rfl, hD, hK⟩; have hO := hO.of1 hK; have hKb := hKb.kp (hK.sub (sub1 d p)) hBw; clear c0 c1 c2 c3 c4 c5 c7; obtain ⟨c0, c1, c2, c3, c4, c5, c7⟩ := hO.at_.cells)
      | (go_at_call 32; (refine ((block13 _ ?_ ?_).useL hD hO.at_ hdp ?_ _ _ _ ?_ ?_ ?_ ?_).mono ?_); omega; omega; omega; rfl; rfl; omega; omega; rintro e w1 ⟨sb, hsb, rfl, hD, hP, hK⟩; have hO := hO.kp hK hP; have hKb := hKb.kp hK hBw; clear c0 c1 c2 c3 c4 c5 c7; obtain ⟨c0, c1, c2, c3, c4, c5, c7⟩ := hO.at_.cells)
      | (at_builtin; obtain ⟨xs, hown, hxs, hxl⟩ := hO.n1; refine wpl_append _ rfl _ _ 63 rfl _ 1 16 elStr B _ (xs.map Value.string) rfl (hown.alloc _) (some ⟨_, 0, none⟩) 1 1 [.string _] rfl rfl (at_lit1 _ _ _) (one_one _) (by simp; unfold maxLen; omega) (by simp; omega) (by have := hKb.size; simp; omega) ?_; intro v9 w9 ho9 hg9 hat9; obtain ⟨hD9, hO9, hKb9, c9, f9⟩ := hO.add_fns hD hxs hxl hown (by simp only [ByteArray.size_append, lit_size, List.size_toArray, List.length_cons, List.length_nil]; omega) ho9 hg9 hat9 (by have := hKb.size; omega); obtain ⟨A9, n9, k9, rfl, _⟩ := ho9.form (by omega); clear c0 c1 c2 c3 c4 c5 c7))
    go_ret
    refine ⟨_, _, ?_, rfl, hD9, hO9.le (by omega), hKb.trans hKb9⟩
    simp only [ByteArray.size_append, lit_size, List.size_toArray, List.length_cons, List.length_nil]; omega
end Go.Proofs.Ytpjpndbagkcgcaa
