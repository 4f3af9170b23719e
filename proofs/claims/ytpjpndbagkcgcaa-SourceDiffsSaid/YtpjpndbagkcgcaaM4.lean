/- Programs that are made: bools, shown values. -/
import Derived.Test.YtpjpndbagkcgcaaM3
set_option linter.unusedVariables false
set_option linter.unusedSimpArgs false
namespace Go.Proofs.Ytpjpndbagkcgcaa
open Go.RowKit

set_option maxHeartbeats 8000000 in
set_option maxRecDepth 100000 in
theorem bool_deep (dep : Int) (h1 : 1 ≤ dep) (h100 : dep ≤ 100) (mi mb di db m dv N : Nat) (hI0 : Con 50 0 6 0 N) (hI : Con 50 (dep - 1) mi di N) (hB : Con 61 (dep - 1) mb db N)
    (hm1 : 13 + mb ≤ m) (hm2 : 13 + mi ≤ m) (hm3 : 13 ≤ m) (hm6 : m ≤ 100000) (hd1 : db ≤ dv) (hd2 : di ≤ dv) : Con 61 dep m dv N := by
  intro w d p g V v xs hD hP hdp hV hR hx hN
  have hs1 : IntKind.i64.wrap (dep - 1) = dep - 1 := IntWalk.i64_in _ (by omega)
  have hKt : Kp [d, p] w w := Kp.refl _ _
  obtain ⟨c0, c1, c2, c3, c4, c5, c7⟩ := hP.cells
  have hzf : ∀ j : Nat, j < 0 → True := fun _ _ => trivial
  go_enter Try.func61, Try.ntmps61
  go_upto_region 2 with fail
  go_wp2_with fail
  refine (nexti _ d _ hD (by omega) (by omega)).mono ?_
  rintro e w1 ⟨r, hr, rfl, hD, hK⟩
  have hP := hP.kp hK hdp
  have hR := hR.kp hK (sub1 d p)
  have hKt := hKt.trans (hK.sub (sub1 d p))
  obtain ⟨c0, c1, c2, c3, c4, c5, c7⟩ := hP.cells
  have hr5 : r = 0 ∨ r = 1 ∨ r = 2 ∨ r = 3 ∨ r = 4 := by omega
  rcases hr5 with rfl | rfl | rfl | rfl | rfl
  · go_wp2_with (first
        | (go_at_call 24; (with_reducible refine (nexti _ d _ hD ?_ ?_).mono ?_); omega; omega; rintro e w1 ⟨r, hr, rfl, hD, hK⟩; (first | (have hrn := Int.ofNat_lt.1 hr; have hzn := hzf r hrn) | skip); have hP := hP.kp hK hdp; have hR := hR.kp hK (sub1 d p); have hKt := hKt.trans (hK.sub (sub1 d p)); obtain ⟨c0, c1, c2, c3, c4, c5, c7⟩ := hP.cells)
        | (go_at_call 25; (with_reducible refine (of_lit 5 _ d hD _ _ _ ?_ ?_ ?_ ?_).mono ?_); rfl; rfl; omega; omega; rintro e w1 ⟨s, hs, rfl, hD, hK⟩; have hP := hP.kp hK hdp; have hR := hR.kp hK (sub1 d p); have hKt := hKt.trans (hK.sub (sub1 d p)); obtain ⟨c0, c1, c2, c3, c4, c5, c7⟩ := hP.cells)
        | (go_at_call 50; (with_reducible refine (hI0.use hD hP hdp ?_ hR hx hN).mono ?_); omega; rintro e w1 ⟨s, hs, rfl, hD, hP, hK⟩; have hR := hR.kp hK (fun b hb => hb); have hKt := hKt.trans hK; obtain ⟨c0, c1, c2, c3, c4, c5, c7⟩ := hP.cells)
        | (go_at_call 50; (with_reducible refine (hI.use hD hP hdp ?_ hR hx hN).mono ?_); omega; rintro e w1 ⟨s, hs, rfl, hD, hP, hK⟩; have hR := hR.kp hK (fun b hb => hb); have hKt := hKt.trans hK; obtain ⟨c0, c1, c2, c3, c4, c5, c7⟩ := hP.cells)
        | (go_at_call 61; (with_reducible refine (hB.use hD hP hdp ?_ hR hx hN).mono ?_); omega; rintro e w1 ⟨s, hs, rfl, hD, hP, hK⟩; have hR := hR.kp hK (fun b hb => hb); have hKt := hKt.trans hK; obtain ⟨c0, c1, c2, c3, c4, c5, c7⟩ := hP.cells))
    go_ret
    refine ⟨_, ?_, rfl, hD, hP.le (by omega), hKt⟩
    try simp only [ByteArray.size_append, lit_size, List.size_toArray, List.length_cons, List.length_nil]
    omega
  · go_wp2_with (first
        | (go_at_call 24; (with_reducible refine (nexti _ d _ hD ?_ ?_).mono ?_); omega; omega; rintro e w1 ⟨r, hr, rfl, hD, hK⟩; (first | (have hrn := Int.ofNat_lt.1 hr; have hzn := hzf r hrn) | skip); have hP := hP.kp hK hdp; have hR := hR.kp hK (sub1 d p); have hKt := hKt.trans (hK.sub (sub1 d p)); obtain ⟨c0, c1, c2, c3, c4, c5, c7⟩ := hP.cells)
        | (go_at_call 25; (with_reducible refine (of_lit 5 _ d hD _ _ _ ?_ ?_ ?_ ?_).mono ?_); rfl; rfl; omega; omega; rintro e w1 ⟨s, hs, rfl, hD, hK⟩; have hP := hP.kp hK hdp; have hR := hR.kp hK (sub1 d p); have hKt := hKt.trans (hK.sub (sub1 d p)); obtain ⟨c0, c1, c2, c3, c4, c5, c7⟩ := hP.cells)
        | (go_at_call 50; (with_reducible refine (hI0.use hD hP hdp ?_ hR hx hN).mono ?_); omega; rintro e w1 ⟨s, hs, rfl, hD, hP, hK⟩; have hR := hR.kp hK (fun b hb => hb); have hKt := hKt.trans hK; obtain ⟨c0, c1, c2, c3, c4, c5, c7⟩ := hP.cells)
        | (go_at_call 50; (with_reducible refine (hI.use hD hP hdp ?_ hR hx hN).mono ?_); omega; rintro e w1 ⟨s, hs, rfl, hD, hP, hK⟩; have hR := hR.kp hK (fun b hb => hb); have hKt := hKt.trans hK; obtain ⟨c0, c1, c2, c3, c4, c5, c7⟩ := hP.cells)
        | (go_at_call 61; (with_reducible refine (hB.use hD hP hdp ?_ hR hx hN).mono ?_); omega; rintro e w1 ⟨s, hs, rfl, hD, hP, hK⟩; have hR := hR.kp hK (fun b hb => hb); have hKt := hKt.trans hK; obtain ⟨c0, c1, c2, c3, c4, c5, c7⟩ := hP.cells))
    go_ret
    refine ⟨_, ?_, rfl, hD, hP.le (by omega), hKt⟩
    try simp only [ByteArray.size_append, lit_size, List.size_toArray, List.length_cons, List.length_nil]
    omega
  · go_wp2_with (first
        | (go_at_call 24; (with_reducible refine (nexti _ d _ hD ?_ ?_).mono ?_); omega; omega; rintro e w1 ⟨r, hr, rfl, hD, hK⟩; (first | (have hrn := Int.ofNat_lt.1 hr; have hzn := hzf r hrn) | skip); have hP := hP.kp hK hdp; have hR := hR.kp hK (sub1 d p); have hKt := hKt.trans (hK.sub (sub1 d p)); obtain ⟨c0, c1, c2, c3, c4, c5, c7⟩ := hP.cells)
        | (go_at_call 25; (with_reducible refine (of_lit 5 _ d hD _ _ _ ?_ ?_ ?_ ?_).mono ?_); rfl; rfl; omega; omega; rintro e w1 ⟨s, hs, rfl, hD, hK⟩; have hP := hP.kp hK hdp; have hR := hR.kp hK (sub1 d p); have hKt := hKt.trans (hK.sub (sub1 d p)); obtain ⟨c0, c1, c2, c3, c4, c5, c7⟩ := hP.cells)
        | (go_at_call 50; (with_reducible refine (hI0.use hD hP hdp ?_ hR hx hN).mono ?_); omega; rintro e w1 ⟨s, hs, rfl, hD, hP, hK⟩; have hR := hR.kp hK (fun b hb => hb); have hKt := hKt.trans hK; obtain ⟨c0, c1, c2, c3, c4, c5, c7⟩ := hP.cells)
        | (go_at_call 50; (with_reducible refine (hI.use hD hP hdp ?_ hR hx hN).mono ?_); omega; rintro e w1 ⟨s, hs, rfl, hD, hP, hK⟩; have hR := hR.kp hK (fun b hb => hb); have hKt := hKt.trans hK; obtain ⟨c0, c1, c2, c3, c4, c5, c7⟩ := hP.cells)
        | (go_at_call 61; (with_reducible refine (hB.use hD hP hdp ?_ hR hx hN).mono ?_); omega; rintro e w1 ⟨s, hs, rfl, hD, hP, hK⟩; have hR := hR.kp hK (fun b hb => hb); have hKt := hKt.trans hK; obtain ⟨c0, c1, c2, c3, c4, c5, c7⟩ := hP.cells))
    go_ret
    refine ⟨_, ?_, rfl, hD, hP.le (by omega), hKt⟩
    try simp only [ByteArray.size_append, lit_size, List.size_toArray, List.length_cons, List.length_nil]
    omega
  · go_wp2_with (first
        | (go_at_call 24; (with_reducible refine (nexti _ d _ hD ?_ ?_).mono ?_); omega; omega; rintro e w1 ⟨r, hr, rfl, hD, hK⟩; (first | (have hrn := Int.ofNat_lt.1 hr; have hzn := hzf r hrn) | skip); have hP := hP.kp hK hdp; have hR := hR.kp hK (sub1 d p); have hKt := hKt.trans (hK.sub (sub1 d p)); obtain ⟨c0, c1, c2, c3, c4, c5, c7⟩ := hP.cells)
        | (go_at_call 25; (with_reducible refine (of_lit 5 _ d hD _ _ _ ?_ ?_ ?_ ?_).mono ?_); rfl; rfl; omega; omega; rintro e w1 ⟨s, hs, rfl, hD, hK⟩; have hP := hP.kp hK hdp; have hR := hR.kp hK (sub1 d p); have hKt := hKt.trans (hK.sub (sub1 d p)); obtain ⟨c0, c1, c2, c3, c4, c5, c7⟩ := hP.cells)
        | (go_at_call 50; (with_reducible refine (hI0.use hD hP hdp ?_ hR hx hN).mono ?_); omega; rintro e w1 ⟨s, hs, rfl, hD, hP, hK⟩; have hR := hR.kp hK (fun b hb => hb); have hKt := hKt.trans hK; obtain ⟨c0, c1, c2, c3, c4, c5, c7⟩ := hP.cells)
        | (go_at_call 50; (with_reducible refine (hI.use hD hP hdp ?_ hR hx hN).mono ?_); omega; rintro e w1 ⟨s, hs, rfl, hD, hP, hK⟩; have hR := hR.kp hK (fun b hb => hb); have hKt := hKt.trans hK; obtain ⟨c0, c1, c2, c3, c4, c5, c7⟩ := hP.cells)
        | (go_at_call 61; (with_reducible refine (hB.use hD hP hdp ?_ hR hx hN).mono ?_); omega; rintro e w1 ⟨s, hs, rfl, hD, hP, hK⟩; have hR := hR.kp hK (fun b hb => hb); have hKt := hKt.trans hK; obtain ⟨c0, c1, c2, c3, c4, c5, c7⟩ := hP.cells))
    go_ret
    refine ⟨_, ?_, rfl, hD, hP.le (by omega), hKt⟩
    try simp only [ByteArray.size_append, lit_size, List.size_toArray, List.length_cons, List.length_nil]
    omega
  · go_wp2_with (first
        | (go_at_call 24; (with_reducible refine (nexti _ d _ hD ?_ ?_).mono ?_); omega; omega; rintro e w1 ⟨r, hr, rfl, hD, hK⟩; (first | (have hrn := Int.ofNat_lt.1 hr; have hzn := hzf r hrn) | skip); have hP := hP.kp hK hdp; have hR := hR.kp hK (sub1 d p); have hKt := hKt.trans (hK.sub (sub1 d p)); obtain ⟨c0, c1, c2, c3, c4, c5, c7⟩ := hP.cells)
        | (go_at_call 25; (with_reducible refine (of_lit 5 _ d hD _ _ _ ?_ ?_ ?_ ?_).mono ?_); rfl; rfl; omega; omega; rintro e w1 ⟨s, hs, rfl, hD, hK⟩; have hP := hP.kp hK hdp; have hR := hR.kp hK (sub1 d p); have hKt := hKt.trans (hK.sub (sub1 d p)); obtain ⟨c0, c1, c2, c3, c4, c5, c7⟩ := hP.cells)
        | (go_at_call 50; (with_reducible refine (hI0.use hD hP hdp ?_ hR hx hN).mono ?_); omega; rintro e w1 ⟨s, hs, rfl, hD, hP, hK⟩; have hR := hR.kp hK (fun b hb => hb); have hKt := hKt.trans hK; obtain ⟨c0, c1, c2, c3, c4, c5, c7⟩ := hP.cells)
        | (go_at_call 50; (with_reducible refine (hI.use hD hP hdp ?_ hR hx hN).mono ?_); omega; rintro e w1 ⟨s, hs, rfl, hD, hP, hK⟩; have hR := hR.kp hK (fun b hb => hb); have hKt := hKt.trans hK; obtain ⟨c0, c1, c2, c3, c4, c5, c7⟩ := hP.cells)
        | (go_at_call 61; (with_reducible refine (hB.use hD hP hdp ?_ hR hx hN).mono ?_); omega; rintro e w1 ⟨s, hs, rfl, hD, hP, hK⟩; have hR := hR.kp hK (fun b hb => hb); have hKt := hKt.trans hK; obtain ⟨c0, c1, c2, c3, c4, c5, c7⟩ := hP.cells))
    go_ret
    refine ⟨_, ?_, rfl, hD, hP.le (by omega), hKt⟩
    try simp only [ByteArray.size_append, lit_size, List.size_toArray, List.length_cons, List.length_nil]
    omega

set_option maxHeartbeats 8000000 in
set_option maxRecDepth 100000 in
theorem bool_leaf (N : Nat) (hI0 : Con 50 0 6 0 N) (hI : Con 50 (-1) 6 0 N) : Con 61 0 19 0 N := by
  intro w d p g V v xs hD hP hdp hV hR hx hN
  have hKt : Kp [d, p] w w := Kp.refl _ _
  obtain ⟨c0, c1, c2, c3, c4, c5, c7⟩ := hP.cells
  have hzf : ∀ j : Nat, j < 0 → True := fun _ _ => trivial
  go_enter Try.func61, Try.ntmps61
  go_upto_region 2 with fail
  go_wp2_with fail
  refine (nexti _ d _ hD (by omega) (by omega)).mono ?_
  rintro e w1 ⟨r, hr, rfl, hD, hK⟩
  have hP := hP.kp hK hdp
  have hR := hR.kp hK (sub1 d p)
  have hKt := hKt.trans (hK.sub (sub1 d p))
  obtain ⟨c0, c1, c2, c3, c4, c5, c7⟩ := hP.cells
  have hr5 : r = 0 ∨ r = 1 ∨ r = 2 ∨ r = 3 ∨ r = 4 := by omega
  rcases hr5 with rfl | rfl | rfl | rfl | rfl
  · go_wp2_with (first
        | (go_at_call 24; (with_reducible refine (nexti _ d _ hD ?_ ?_).mono ?_); omega; omega; rintro e w1 ⟨r, hr, rfl, hD, hK⟩; (first | (have hrn := Int.ofNat_lt.1 hr; have hzn := hzf r hrn) | skip); have hP := hP.kp hK hdp; have hR := hR.kp hK (sub1 d p); have hKt := hKt.trans (hK.sub (sub1 d p)); obtain ⟨c0, c1, c2, c3, c4, c5, c7⟩ := hP.cells)
        | (go_at_call 25; (with_reducible refine (of_lit 5 _ d hD _ _ _ ?_ ?_ ?_ ?_).mono ?_); rfl; rfl; omega; omega; rintro e w1 ⟨s, hs, rfl, hD, hK⟩; have hP := hP.kp hK hdp; have hR := hR.kp hK (sub1 d p); have hKt := hKt.trans (hK.sub (sub1 d p)); obtain ⟨c0, c1, c2, c3, c4, c5, c7⟩ := hP.cells)
        | (go_at_call 50; (with_reducible refine (hI0.use hD hP hdp ?_ hR hx hN).mono ?_); omega; rintro e w1 ⟨s, hs, rfl, hD, hP, hK⟩; have hR := hR.kp hK (fun b hb => hb); have hKt := hKt.trans hK; obtain ⟨c0, c1, c2, c3, c4, c5, c7⟩ := hP.cells)
        | (go_at_call 50; (with_reducible refine (hI.use hD hP hdp ?_ hR hx hN).mono ?_); omega; rintro e w1 ⟨s, hs, rfl, hD, hP, hK⟩; have hR := hR.kp hK (fun b hb => hb); have hKt := hKt.trans hK; obtain ⟨c0, c1, c2, c3, c4, c5, c7⟩ := hP.cells))
    go_ret
    refine ⟨_, ?_, rfl, hD, hP.le (by omega), hKt⟩
    try simp only [ByteArray.size_append, lit_size, List.size_toArray, List.length_cons, List.length_nil]
    omega
  · go_wp2_with (first
        | (go_at_call 24; (with_reducible refine (nexti _ d _ hD ?_ ?_).mono ?_); omega; omega; rintro e w1 ⟨r, hr, rfl, hD, hK⟩; (first | (have hrn := Int.ofNat_lt.1 hr; have hzn := hzf r hrn) | skip); have hP := hP.kp hK hdp; have hR := hR.kp hK (sub1 d p); have hKt := hKt.trans (hK.sub (sub1 d p)); obtain ⟨c0, c1, c2, c3, c4, c5, c7⟩ := hP.cells)
        | (go_at_call 25; (with_reducible refine (of_lit 5 _ d hD _ _ _ ?_ ?_ ?_ ?_).mono ?_); rfl; rfl; omega; omega; rintro e w1 ⟨s, hs, rfl, hD, hK⟩; have hP := hP.kp hK hdp; have hR := hR.kp hK (sub1 d p); have hKt := hKt.trans (hK.sub (sub1 d p)); obtain ⟨c0, c1, c2, c3, c4, c5, c7⟩ := hP.cells)
        | (go_at_call 50; (with_reducible refine (hI0.use hD hP hdp ?_ hR hx hN).mono ?_); omega; rintro e w1 ⟨s, hs, rfl, hD, hP, hK⟩; have hR := hR.kp hK (fun b hb => hb); have hKt := hKt.trans hK; obtain ⟨c0, c1, c2, c3, c4, c5, c7⟩ := hP.cells)
        | (go_at_call 50; (with_reducible refine (hI.use hD hP hdp ?_ hR hx hN).mono ?_); omega; rintro e w1 ⟨s, hs, rfl, hD, hP, hK⟩; have hR := hR.kp hK (fun b hb => hb); have hKt := hKt.trans hK; obtain ⟨c0, c1, c2, c3, c4, c5, c7⟩ := hP.cells))
    go_ret
    refine ⟨_, ?_, rfl, hD, hP.le (by omega), hKt⟩
    try simp only [ByteArray.size_append, lit_size, List.size_toArray, List.length_cons, List.length_nil]
    omega
  · go_wp2_with (first
        | (go_at_call 24; (with_reducible refine (nexti _ d _ hD ?_ ?_).mono ?_); omega; omega; rintro e w1 ⟨r, hr, rfl, hD, hK⟩; (first | (have hrn := Int.ofNat_lt.1 hr; have hzn := hzf r hrn) | skip); have hP := hP.kp hK hdp; have hR := hR.kp hK (sub1 d p); have hKt := hKt.trans (hK.sub (sub1 d p)); obtain ⟨c0, c1, c2, c3, c4, c5, c7⟩ := hP.cells)
        | (go_at_call 25; (with_reducible refine (of_lit 5 _ d hD _ _ _ ?_ ?_ ?_ ?_).mono ?_); rfl; rfl; omega; omega; rintro e w1 ⟨s, hs, rfl, hD, hK⟩; have hP := hP.kp hK hdp; have hR := hR.kp hK (sub1 d p); have hKt := hKt.trans (hK.sub (sub1 d p)); obtain ⟨c0, c1, c2, c3, c4, c5, c7⟩ := hP.cells)
        | (go_at_call 50; (with_reducible refine (hI0.use hD hP hdp ?_ hR hx hN).mono ?_); omega; rintro e w1 ⟨s, hs, rfl, hD, hP, hK⟩; have hR := hR.kp hK (fun b hb => hb); have hKt := hKt.trans hK; obtain ⟨c0, c1, c2, c3, c4, c5, c7⟩ := hP.cells)
        | (go_at_call 50; (with_reducible refine (hI.use hD hP hdp ?_ hR hx hN).mono ?_); omega; rintro e w1 ⟨s, hs, rfl, hD, hP, hK⟩; have hR := hR.kp hK (fun b hb => hb); have hKt := hKt.trans hK; obtain ⟨c0, c1, c2, c3, c4, c5, c7⟩ := hP.cells))
    go_ret
    refine ⟨_, ?_, rfl, hD, hP.le (by omega), hKt⟩
    try simp only [ByteArray.size_append, lit_size, List.size_toArray, List.length_cons, List.length_nil]
    omega
  · go_wp2_with (first
        | (go_at_call 24; (with_reducible refine (nexti _ d _ hD ?_ ?_).mono ?_); omega; omega; rintro e w1 ⟨r, hr, rfl, hD, hK⟩; (first | (have hrn := Int.ofNat_lt.1 hr; have hzn := hzf r hrn) | skip); have hP := hP.kp hK hdp; have hR := hR.kp hK (sub1 d p); have hKt := hKt.trans (hK.sub (sub1 d p)); obtain ⟨c0, c1, c2, c3, c4, c5, c7⟩ := hP.cells)
        | (go_at_call 25; (with_reducible refine (of_lit 5 _ d hD _ _ _ ?_ ?_ ?_ ?_).mono ?_); rfl; rfl; omega; omega; rintro e w1 ⟨s, hs, rfl, hD, hK⟩; have hP := hP.kp hK hdp; have hR := hR.kp hK (sub1 d p); have hKt := hKt.trans (hK.sub (sub1 d p)); obtain ⟨c0, c1, c2, c3, c4, c5, c7⟩ := hP.cells)
        | (go_at_call 50; (with_reducible refine (hI0.use hD hP hdp ?_ hR hx hN).mono ?_); omega; rintro e w1 ⟨s, hs, rfl, hD, hP, hK⟩; have hR := hR.kp hK (fun b hb => hb); have hKt := hKt.trans hK; obtain ⟨c0, c1, c2, c3, c4, c5, c7⟩ := hP.cells)
        | (go_at_call 50; (with_reducible refine (hI.use hD hP hdp ?_ hR hx hN).mono ?_); omega; rintro e w1 ⟨s, hs, rfl, hD, hP, hK⟩; have hR := hR.kp hK (fun b hb => hb); have hKt := hKt.trans hK; obtain ⟨c0, c1, c2, c3, c4, c5, c7⟩ := hP.cells))
    go_ret
    refine ⟨_, ?_, rfl, hD, hP.le (by omega), hKt⟩
    try simp only [ByteArray.size_append, lit_size, List.size_toArray, List.length_cons, List.length_nil]
    omega
  · go_wp2_with (first
        | (go_at_call 24; (with_reducible refine (nexti _ d _ hD ?_ ?_).mono ?_); omega; omega; rintro e w1 ⟨r, hr, rfl, hD, hK⟩; (first | (have hrn := Int.ofNat_lt.1 hr; have hzn := hzf r hrn) | skip); have hP := hP.kp hK hdp; have hR := hR.kp hK (sub1 d p); have hKt := hKt.trans (hK.sub (sub1 d p)); obtain ⟨c0, c1, c2, c3, c4, c5, c7⟩ := hP.cells)
        | (go_at_call 25; (with_reducible refine (of_lit 5 _ d hD _ _ _ ?_ ?_ ?_ ?_).mono ?_); rfl; rfl; omega; omega; rintro e w1 ⟨s, hs, rfl, hD, hK⟩; have hP := hP.kp hK hdp; have hR := hR.kp hK (sub1 d p); have hKt := hKt.trans (hK.sub (sub1 d p)); obtain ⟨c0, c1, c2, c3, c4, c5, c7⟩ := hP.cells)
        | (go_at_call 50; (with_reducible refine (hI0.use hD hP hdp ?_ hR hx hN).mono ?_); omega; rintro e w1 ⟨s, hs, rfl, hD, hP, hK⟩; have hR := hR.kp hK (fun b hb => hb); have hKt := hKt.trans hK; obtain ⟨c0, c1, c2, c3, c4, c5, c7⟩ := hP.cells)
        | (go_at_call 50; (with_reducible refine (hI.use hD hP hdp ?_ hR hx hN).mono ?_); omega; rintro e w1 ⟨s, hs, rfl, hD, hP, hK⟩; have hR := hR.kp hK (fun b hb => hb); have hKt := hKt.trans hK; obtain ⟨c0, c1, c2, c3, c4, c5, c7⟩ := hP.cells))
    go_ret
    refine ⟨_, ?_, rfl, hD, hP.le (by omega), hKt⟩
    try simp only [ByteArray.size_append, lit_size, List.size_toArray, List.length_cons, List.length_nil]
    omega

set_option maxHeartbeats 8000000 in
set_option maxRecDepth 100000 in
theorem shown_deep (dep : Int) (h1 : 1 ≤ dep) (h100 : dep ≤ 100) (mi mh di dh m dv N : Nat) (hI0 : Con 50 0 6 0 N) (hI : Con 50 (dep - 1) mi di N) (hH : Con 62 (dep - 1) mh dh N)
    (hm1 : 16 ≤ m) (hm2 : 9 + mh ≤ m) (hm3 : mi ≤ m) (hm6 : m ≤ 100000) (hd1 : dh ≤ dv) (hd2 : di ≤ dv) : Con 62 dep m dv N := by
  intro w d p g V v xs hD hP hdp hV hR hx hN
  have hs1 : IntKind.i64.wrap (dep - 1) = dep - 1 := IntWalk.i64_in _ (by omega)
  have hKt : Kp [d, p] w w := Kp.refl _ _
  obtain ⟨c0, c1, c2, c3, c4, c5, c7⟩ := hP.cells
  have hzf : ∀ j : Nat, j < 0 → True := fun _ _ => trivial
  have hg1 : decide (0 < dep) = true := by simp; omega
  cases hgr : g.r
  · rw [hgr] at c4
    clear hgr
    go_enter Try.func62, Try.ntmps62
    go_wp2_with (first
        | (go_at_call 24; (with_reducible refine (nexti _ d _ hD ?_ ?_).mono ?_); omega; omega; rintro e w1 ⟨r, hr, rfl, hD, hK⟩; (first | (have hrn := Int.ofNat_lt.1 hr; have hzn := hzf r hrn) | skip); have hP := hP.kp hK hdp; have hR := hR.kp hK (sub1 d p); have hKt := hKt.trans (hK.sub (sub1 d p)); obtain ⟨c0, c1, c2, c3, c4, c5, c7⟩ := hP.cells)
        | (go_at_call 25; (with_reducible refine (of_lit 5 _ d hD _ _ _ ?_ ?_ ?_ ?_).mono ?_); rfl; rfl; omega; omega; rintro e w1 ⟨s, hs, rfl, hD, hK⟩; have hP := hP.kp hK hdp; have hR := hR.kp hK (sub1 d p); have hKt := hKt.trans (hK.sub (sub1 d p)); obtain ⟨c0, c1, c2, c3, c4, c5, c7⟩ := hP.cells)
        | (go_at_call 50; (with_reducible refine (hI0.use hD hP hdp ?_ hR hx hN).mono ?_); omega; rintro e w1 ⟨s, hs, rfl, hD, hP, hK⟩; have hR := hR.kp hK (fun b hb => hb); have hKt := hKt.trans hK; obtain ⟨c0, c1, c2, c3, c4, c5, c7⟩ := hP.cells)
        | (go_at_call 50; (with_reducible refine (hI.use hD hP hdp ?_ hR hx hN).mono ?_); omega; rintro e w1 ⟨s, hs, rfl, hD, hP, hK⟩; have hR := hR.kp hK (fun b hb => hb); have hKt := hKt.trans hK; obtain ⟨c0, c1, c2, c3, c4, c5, c7⟩ := hP.cells)
        | (go_at_call 62; (with_reducible refine (hH.use hD hP hdp ?_ hR hx hN).mono ?_); omega; rintro e w1 ⟨s, hs, rfl, hD, hP, hK⟩; have hR := hR.kp hK (fun b hb => hb); have hKt := hKt.trans hK; obtain ⟨c0, c1, c2, c3, c4, c5, c7⟩ := hP.cells))
    go_ret
    refine ⟨_, ?_, rfl, hD, hP.le (by omega), hKt⟩
    try simp only [ByteArray.size_append, lit_size, List.size_toArray, List.length_cons, List.length_nil]
    omega
  · rw [hgr] at c4
    clear hgr
    go_enter Try.func62, Try.ntmps62
    go_upto_region 2 with fail
    go_wp2_with fail
    refine (nexti _ d _ hD (by omega) (by omega)).mono ?_
    rintro e w1 ⟨r, hr, rfl, hD, hK⟩
    have hP := hP.kp hK hdp
    have hR := hR.kp hK (sub1 d p)
    have hKt := hKt.trans (hK.sub (sub1 d p))
    obtain ⟨c0, c1, c2, c3, c4, c5, c7⟩ := hP.cells
    have hr5 : r = 0 ∨ r = 1 ∨ r = 2 ∨ r = 3 := by omega
    rcases hr5 with rfl | rfl | rfl | rfl
    · go_wp2_with (first
        | (go_at_call 24; (with_reducible refine (nexti _ d _ hD ?_ ?_).mono ?_); omega; omega; rintro e w1 ⟨r, hr, rfl, hD, hK⟩; (first | (have hrn := Int.ofNat_lt.1 hr; have hzn := hzf r hrn) | skip); have hP := hP.kp hK hdp; have hR := hR.kp hK (sub1 d p); have hKt := hKt.trans (hK.sub (sub1 d p)); obtain ⟨c0, c1, c2, c3, c4, c5, c7⟩ := hP.cells)
        | (go_at_call 25; (with_reducible refine (of_lit 5 _ d hD _ _ _ ?_ ?_ ?_ ?_).mono ?_); rfl; rfl; omega; omega; rintro e w1 ⟨s, hs, rfl, hD, hK⟩; have hP := hP.kp hK hdp; have hR := hR.kp hK (sub1 d p); have hKt := hKt.trans (hK.sub (sub1 d p)); obtain ⟨c0, c1, c2, c3, c4, c5, c7⟩ := hP.cells)
        | (go_at_call 50; (with_reducible refine (hI0.use hD hP hdp ?_ hR hx hN).mono ?_); omega; rintro e w1 ⟨s, hs, rfl, hD, hP, hK⟩; have hR := hR.kp hK (fun b hb => hb); have hKt := hKt.trans hK; obtain ⟨c0, c1, c2, c3, c4, c5, c7⟩ := hP.cells)
        | (go_at_call 50; (with_reducible refine (hI.use hD hP hdp ?_ hR hx hN).mono ?_); omega; rintro e w1 ⟨s, hs, rfl, hD, hP, hK⟩; have hR := hR.kp hK (fun b hb => hb); have hKt := hKt.trans hK; obtain ⟨c0, c1, c2, c3, c4, c5, c7⟩ := hP.cells)
        | (go_at_call 62; (with_reducible refine (hH.use hD hP hdp ?_ hR hx hN).mono ?_); omega; rintro e w1 ⟨s, hs, rfl, hD, hP, hK⟩; have hR := hR.kp hK (fun b hb => hb); have hKt := hKt.trans hK; obtain ⟨c0, c1, c2, c3, c4, c5, c7⟩ := hP.cells))
      go_ret
      refine ⟨_, ?_, rfl, hD, hP.le (by omega), hKt⟩
      try simp only [ByteArray.size_append, lit_size, List.size_toArray, List.length_cons, List.length_nil]
      omega
    · go_wp2_with (first
        | (go_at_call 24; (with_reducible refine (nexti _ d _ hD ?_ ?_).mono ?_); omega; omega; rintro e w1 ⟨r, hr, rfl, hD, hK⟩; (first | (have hrn := Int.ofNat_lt.1 hr; have hzn := hzf r hrn) | skip); have hP := hP.kp hK hdp; have hR := hR.kp hK (sub1 d p); have hKt := hKt.trans (hK.sub (sub1 d p)); obtain ⟨c0, c1, c2, c3, c4, c5, c7⟩ := hP.cells)
        | (go_at_call 25; (with_reducible refine (of_lit 5 _ d hD _ _ _ ?_ ?_ ?_ ?_).mono ?_); rfl; rfl; omega; omega; rintro e w1 ⟨s, hs, rfl, hD, hK⟩; have hP := hP.kp hK hdp; have hR := hR.kp hK (sub1 d p); have hKt := hKt.trans (hK.sub (sub1 d p)); obtain ⟨c0, c1, c2, c3, c4, c5, c7⟩ := hP.cells)
        | (go_at_call 50; (with_reducible refine (hI0.use hD hP hdp ?_ hR hx hN).mono ?_); omega; rintro e w1 ⟨s, hs, rfl, hD, hP, hK⟩; have hR := hR.kp hK (fun b hb => hb); have hKt := hKt.trans hK; obtain ⟨c0, c1, c2, c3, c4, c5, c7⟩ := hP.cells)
        | (go_at_call 50; (with_reducible refine (hI.use hD hP hdp ?_ hR hx hN).mono ?_); omega; rintro e w1 ⟨s, hs, rfl, hD, hP, hK⟩; have hR := hR.kp hK (fun b hb => hb); have hKt := hKt.trans hK; obtain ⟨c0, c1, c2, c3, c4, c5, c7⟩ := hP.cells)
        | (go_at_call 62; (with_reducible refine (hH.use hD hP hdp ?_ hR hx hN).mono ?_); omega; rintro e w1 ⟨s, hs, rfl, hD, hP, hK⟩; have hR := hR.kp hK (fun b hb => hb); have hKt := hKt.trans hK; obtain ⟨c0, c1, c2, c3, c4, c5, c7⟩ := hP.cells))
      go_ret
      refine ⟨_, ?_, rfl, hD, hP.le (by omega), hKt⟩
      try simp only [ByteArray.size_append, lit_size, List.size_toArray, List.length_cons, List.length_nil]
      omega
    · go_wp2_with (first
        | (go_at_call 24; (with_reducible refine (nexti _ d _ hD ?_ ?_).mono ?_); omega; omega; rintro e w1 ⟨r, hr, rfl, hD, hK⟩; (first | (have hrn := Int.ofNat_lt.1 hr; have hzn := hzf r hrn) | skip); have hP := hP.kp hK hdp; have hR := hR.kp hK (sub1 d p); have hKt := hKt.trans (hK.sub (sub1 d p)); obtain ⟨c0, c1, c2, c3, c4, c5, c7⟩ := hP.cells)
        | (go_at_call 25; (with_reducible refine (of_lit 5 _ d hD _ _ _ ?_ ?_ ?_ ?_).mono ?_); rfl; rfl; omega; omega; rintro e w1 ⟨s, hs, rfl, hD, hK⟩; have hP := hP.kp hK hdp; have hR := hR.kp hK (sub1 d p); have hKt := hKt.trans (hK.sub (sub1 d p)); obtain ⟨c0, c1, c2, c3, c4, c5, c7⟩ := hP.cells)
        | (go_at_call 50; (with_reducible refine (hI0.use hD hP hdp ?_ hR hx hN).mono ?_); omega; rintro e w1 ⟨s, hs, rfl, hD, hP, hK⟩; have hR := hR.kp hK (fun b hb => hb); have hKt := hKt.trans hK; obtain ⟨c0, c1, c2, c3, c4, c5, c7⟩ := hP.cells)
        | (go_at_call 50; (with_reducible refine (hI.use hD hP hdp ?_ hR hx hN).mono ?_); omega; rintro e w1 ⟨s, hs, rfl, hD, hP, hK⟩; have hR := hR.kp hK (fun b hb => hb); have hKt := hKt.trans hK; obtain ⟨c0, c1, c2, c3, c4, c5, c7⟩ := hP.cells)
        | (go_at_call 62; (with_reducible refine (hH.use hD hP hdp ?_ hR hx hN).mono ?_); omega; rintro e w1 ⟨s, hs, rfl, hD, hP, hK⟩; have hR := hR.kp hK (fun b hb => hb); have hKt := hKt.trans hK; obtain ⟨c0, c1, c2, c3, c4, c5, c7⟩ := hP.cells))
      go_ret
      refine ⟨_, ?_, rfl, hD, hP.le (by omega), hKt⟩
      try simp only [ByteArray.size_append, lit_size, List.size_toArray, List.length_cons, List.length_nil]
      omega
    · go_wp2_with (first
        | (go_at_call 24; (with_reducible refine (nexti _ d _ hD ?_ ?_).mono ?_); omega; omega; rintro e w1 ⟨r, hr, rfl, hD, hK⟩; (first | (have hrn := Int.ofNat_lt.1 hr; have hzn := hzf r hrn) | skip); have hP := hP.kp hK hdp; have hR := hR.kp hK (sub1 d p); have hKt := hKt.trans (hK.sub (sub1 d p)); obtain ⟨c0, c1, c2, c3, c4, c5, c7⟩ := hP.cells)
        | (go_at_call 25; (with_reducible refine (of_lit 5 _ d hD _ _ _ ?_ ?_ ?_ ?_).mono ?_); rfl; rfl; omega; omega; rintro e w1 ⟨s, hs, rfl, hD, hK⟩; have hP := hP.kp hK hdp; have hR := hR.kp hK (sub1 d p); have hKt := hKt.trans (hK.sub (sub1 d p)); obtain ⟨c0, c1, c2, c3, c4, c5, c7⟩ := hP.cells)
        | (go_at_call 50; (with_reducible refine (hI0.use hD hP hdp ?_ hR hx hN).mono ?_); omega; rintro e w1 ⟨s, hs, rfl, hD, hP, hK⟩; have hR := hR.kp hK (fun b hb => hb); have hKt := hKt.trans hK; obtain ⟨c0, c1, c2, c3, c4, c5, c7⟩ := hP.cells)
        | (go_at_call 50; (with_reducible refine (hI.use hD hP hdp ?_ hR hx hN).mono ?_); omega; rintro e w1 ⟨s, hs, rfl, hD, hP, hK⟩; have hR := hR.kp hK (fun b hb => hb); have hKt := hKt.trans hK; obtain ⟨c0, c1, c2, c3, c4, c5, c7⟩ := hP.cells)
        | (go_at_call 62; (with_reducible refine (hH.use hD hP hdp ?_ hR hx hN).mono ?_); omega; rintro e w1 ⟨s, hs, rfl, hD, hP, hK⟩; have hR := hR.kp hK (fun b hb => hb); have hKt := hKt.trans hK; obtain ⟨c0, c1, c2, c3, c4, c5, c7⟩ := hP.cells))
      go_ret
      refine ⟨_, ?_, rfl, hD, hP.le (by omega), hKt⟩
      try simp only [ByteArray.size_append, lit_size, List.size_toArray, List.length_cons, List.length_nil]
      omega

set_option maxHeartbeats 8000000 in
set_option maxRecDepth 100000 in
theorem shown_leaf (N : Nat) (hI : Con 50 (-1) 6 0 N) : Con 62 0 6 0 N := by
  intro w d p g V v xs hD hP hdp hV hR hx hN
  have hKt : Kp [d, p] w w := Kp.refl _ _
  obtain ⟨c0, c1, c2, c3, c4, c5, c7⟩ := hP.cells
  have hzf : ∀ j : Nat, j < 0 → True := fun _ _ => trivial
  cases hgr : g.r
  all_goals
    rw [hgr] at c4
    clear hgr
    go_enter Try.func62, Try.ntmps62
    go_wp2_with (first
        | (go_at_call 50; (with_reducible refine (hI.use hD hP hdp ?_ hR hx hN).mono ?_); omega; rintro e w1 ⟨s, hs, rfl, hD, hP, hK⟩; have hR := hR.kp hK (fun b hb => hb); have hKt := hKt.trans hK; obtain ⟨c0, c1, c2, c3, c4, c5, c7⟩ := hP.cells))
    go_ret
    refine ⟨_, ?_, rfl, hD, hP.le (by omega), hKt⟩
    try simp only [ByteArray.size_append, lit_size, List.size_toArray, List.length_cons, List.length_nil]
    omega
end Go.Proofs.Ytpjpndbagkcgcaa
