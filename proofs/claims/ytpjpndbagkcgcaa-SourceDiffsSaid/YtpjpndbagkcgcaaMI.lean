/- recompilelaw01.SourceDiffs: true, whatever it is given. -/
import Derived.Test.YtpjpndbagkcgcaaMH
set_option linter.unusedVariables false
set_option linter.unusedSimpArgs false
namespace Go.Proofs.Ytpjpndbagkcgcaa
open Go.RowKit

theorem pairs_sl (w : World) (ps : List Src) (cs : Array Value) (n : Nat) (hcs : cs.toList = ps.flatMap srcE) (hn : cs.size = n * 2) (hl : n ≤ 100) :
    Sl srcE 2 (w.alloc (.cells cs 37)) (w.alloc (.cells cs 37)).heap.size (.slice (some ⟨w.heap.size, 0, none⟩) n n) ps := by
  have h := Own.lit w 0 37 2 cs n (Nat.zero_le _) hn (by unfold maxLen; omega)
  rw [hcs] at h
  exact h.sl srcE_len (by omega)

set_option maxHeartbeats 8000000 in
set_option maxRecDepth 100000 in
theorem diffs_any (a b : ByteArray) (ns : List Int) (v : Value) (w : World) (ha : a.size ≤ maxLen) (hb0 : b.size ≤ maxLen) (hv : IntSl w v ns) :
    Calls Try.prog 4 #[.string a, .string b, v] w fun e w' => e = .returned (.bool true) ∧ Below w.heap.size w w' := by
  unfold maxLen at ha hb0
  by_cases hgood : (ns.length : Int) ≤ 400 ∧ a.size ≤ 3000 ∧ b.size ≤ 3000
  · obtain ⟨h400, ha3, hb3⟩ := hgood
    have g0 : decide ((ns.length : Int) ≤ 400) = true := by simpa using h400
    have g1 : decide ((3000 : Int) < (a.size : Int)) = false := by rw [decide_eq_false_iff_not]; omega
    have g2 : decide ((3000 : Int) < (b.size : Int)) = false := by rw [decide_eq_false_iff_not]; omega
    go_enter Try.func4, Try.ntmps4
    go_upto_region 3 with (go_at_call 13; refine (light_any _ v ns hv).mono ?_; rintro e w1 ⟨rfl, rfl⟩)
    go_wp2_with fail
    refine (roll_any _ v ns hv).mono ?_
    rintro e w1 ⟨rfl, hD, hb1⟩
    obtain ⟨d, hd⟩ : ∃ d, d = w.heap.size := ⟨_, rfl⟩
    have hB : Below d w w1 := by rw [hd]; exact hb1
    rw [← hd] at hD ⊢
    have hd1 : d ≤ w.heap.size := by omega
    have Hd := hid hd
    clear hd hb1
    go_wp2_with fail
    refine (sources_any _ d hD).mono ?_
    rintro e w2 ⟨lv, l, hL, rfl, hD2, hown, hK2⟩
    have hdl := hD.lt
    have hB := Kp.below hB hK2 (by have := hB.size; omega) (by simp)
    have hsl : Sl srcE 2 w2 w2.heap.size lv l := hown.sl srcE_len (by omega)
    have hnd := own_ne hown hdl
    go_wp2_with fail
    refine (edit_any l lv _ d hD2 hsl hL.1 (by have := hL.2.1; omega) (srcl_big hL) hnd).mono ?_
    rintro e w3 ⟨x, hx, rfl, hD3, hK3⟩
    have hB := Kp.below hB hK3 (by have := hB.size; omega) (by simp)
    have hown := Own.kp hown hK3 (by simp; omega)
    have hsl : Sl srcE 2 w3 w3.heap.size lv l := hown.sl srcE_len (by omega)
    clear hown hK2 hK3 hnd hD2 hD3 hD hdl
    obtain ⟨k, q, i, j, s, hq, rfl, hij, hs⟩ := edin_open hx
    have hqs := (hL.2.2 k q hq).2
    clear hx
    unfold edV
    go_upto_region 6 with fail
    have hal : Below w3.heap.size w3 (w3.alloc (.cells #[.string q.1, .int .i64 (i : Int), .int .i64 (j : Int), .string s] 34)) := (Below.refl _ _).alloc (Nat.le_refl _) _
    have hX : RowE (w3.alloc (.cells #[.string q.1, .int .i64 (i : Int), .int .i64 (j : Int), .string s] 34)) w3.heap.size ⟨q.1, (i : Int), (j : Int), s⟩ := heap_alloc_new w3 _
    have hB := below_step (show Below w.heap.size w w3 by rw [← Hd.out]; exact hB) hal
    have hsl := hsl.later hal
    obtain ⟨w5, hw5⟩ : ∃ w5, w5 = w3.alloc (.cells #[.string q.1, .int .i64 (i : Int), .int .i64 (j : Int), .string s] 34) := ⟨_, rfl⟩
    rw [← hw5] at hX hB hsl ⊢
    clear hw5 hal hd1 Hd
    obtain ⟨x0, x1, x2, x3⟩ := hX.at_
    have hl3 := hL.2.1
    have hl1 := hL.1
    go_wp2_with fail
    refine (madeapply_any l lv q.1 i j s _ hsl hL.1 (by omega) (fun y hy => by
      obtain ⟨n, hn, e⟩ := List.getElem_of_mem hy
      exact (hL.2.2 n y (by rw [← e]; exact List.getElem?_eq_getElem hn)).2) (by omega) (by omega) hs).mono ?_
    rintro e w6 ⟨kv, l2, hl2, hsz2, rfl, hsl2, hb⟩
    have hsl := hsl.later hb
    have hB := below_step hB hb
    obtain ⟨y0, hy0⟩ : ∃ y, l[0]? = some y := ⟨_, List.getElem?_eq_getElem hl1⟩
    obtain ⟨z0, hz0⟩ : ∃ y, l2[0]? = some y := ⟨_, List.getElem?_eq_getElem (by omega)⟩
    have hys := (hL.2.2 0 y0 hy0).2
    have hzs := hsz2 z0 (List.mem_of_getElem? hz0)
    obtain ⟨A1, cc1, rfl, u1, u2, u3⟩ := hsl
    obtain ⟨A2, cc2, rfl, u4, u5, u6⟩ := hsl2
    rcases u3 with u3 | ⟨b1, o1, rfl, v1, v2⟩
    · rw [u3] at hl1; simp at hl1
    rcases u6 with u6 | ⟨b2, o2, rfl, v3, v4⟩
    · rw [u6] at hl2; simp at hl2; omega
    have c1 := v2 0 y0 hy0 1 (.string y0.2) rfl
    have c2 := v4 0 z0 hz0 1 (.string z0.2) rfl
    simp only [Nat.zero_mul, Nat.add_zero] at c1 c2
    have HL2 := hid hl2
    have hl2' : 1 ≤ l2.length := by omega
    unfold maxLen at u2 u5
    clear x0 x1 x2 x3 hX hb v2 v4 hl2 hsz2 hy0 hz0 hq
    have f1 : ¬ 9223372036854775807 < a.size + b.size := by omega
    have f2 : (0 : Int) < (l.length : Int) := by omega
    have f3 : (0 : Int) < (l2.length : Int) := by omega
    have f4 : 0 < l.length := by omega
    have f5 : 0 < l2.length := by omega
    go_upto_region 7 with fail
    go_cut [11] (fun t wx => ∃ (bp : Nat) (ps : List Src), t = .slice (some ⟨bp, 0, none⟩) 4 4 ∧ Sl srcE 2 wx wx.heap.size (.slice (some ⟨bp, 0, none⟩) 4 4) ps ∧ ps.length = 4 ∧ (∀ y ∈ ps, y.1.size ≤ 12040 ∧ y.2.size ≤ 12040) ∧ Below w6.heap.size w6 wx)
    case first =>
      go_region_held3 (fun w' => w'.cell? ⟨b1, o1 + 1, none⟩ = some (.string y0.2) ∧ w'.cell? ⟨b2, o2 + 1, none⟩ = some (.string z0.2)) (first | exact ⟨c1, c2⟩ | go_keep) (first | fail)
      go_wp2_with fail
      go_meet
      have hall : ∀ cs, Below w6.heap.size w6 (w6.alloc (.cells cs 37)).drew := fun cs => below_drewN ((Below.refl _ _).alloc (Nat.le_refl _) _) 1
      have hps := pairs_sl w6 [(a, b), (a, a ++ b), (a ++ b, b), (y0.2, z0.2)] #[.string a, .string b, .string a, .string (a ++ b), .string (a ++ b), .string b, .string y0.2, .string z0.2] 4 rfl rfl (by omega)
      refine ⟨_, [(a, b), (a, a ++ b), (a ++ b, b), (y0.2, z0.2)], rfl, hps, rfl, ?_, hall _⟩
      intro y hy
      simp only [List.mem_cons, List.not_mem_nil, or_false] at hy
      rcases hy with rfl | rfl | rfl | rfl <;> simp only [ByteArray.size_append] <;> omega
    case rest =>
      obtain ⟨bp, ps, rfl, hsp, hpl, hpz, hb⟩ := hcut
      have hB := below_step hB hb
      clear c1 c2 hb f1 f2 f3 f4 f5
      go_wp2_with fail
      go_loopw [12] (fun i9 wr => ∃ k : Nat, k ≤ 4 ∧ i9 = .int .i64 k ∧ Below wc.heap.size wc wr) (fun i9 _ => 4 - (intOf i9).toNat)
      case atStart => exact ⟨0, by omega, rfl, Below.refl _ _⟩
      case round =>
        obtain ⟨k9, hk9, rfl, hF⟩ := hrel
        by_cases hk4 : k9 < 4
        · obtain ⟨pr, hpr⟩ : ∃ y, ps[k9]? = some y := ⟨_, List.getElem?_eq_getElem (by omega)⟩
          have hpz2 := hpz pr (List.mem_of_getElem? hpr)
          have hs9 := hsp.later hF
          obtain ⟨A9, cc9, e9, u7, u8, u9⟩ := hs9
          injection e9 with e1 e2 e3
          rcases u9 with u9 | ⟨b9, o9, e10, v9, hc9⟩
          · rw [u9] at hpl; simp at hpl
          rw [← e1] at e10
          injection e10 with e10
          injection e10 with e11 e12
          subst e11 e12
          have c1 := hc9 k9 pr hpr 0 (.string pr.1) rfl
          have c2 := hc9 k9 pr hpr 1 (.string pr.2) rfl
          rw [Nat.zero_add] at c1 c2
          rw [Nat.add_zero] at c1
          obtain ⟨pa, pb⟩ := pr
          simp only at c1 c2 hpz2
          clear hc9 e1 e2 e3 hpr u7 u8 v9 hpl
          have f1 : (0 : Int) ≤ (k9 : Int) := by omega
          have f2 : (k9 : Int) < 4 := by omega
          go_upto_region 11 with fail
          go_quiet (fail)
          clear c1 c2 f1 f2
          go_wp2_with fail
          refine (diff_any pa pb _ (by unfold maxLen; omega) (by unfold maxLen; omega)).mono ?_
          rintro e w9 ⟨u, rfl, hu, hd9⟩
          obtain ⟨hd1, hd2, hd3, hd4⟩ := diff_makes pa pb u hu
          have HU := hid hu
          clear hu
          generalize hN : pa.size - cp pa.toList pb.toList - cs pa.toList pb.toList (cp pa.toList pb.toList) = n at hd1 hd2 hd4 ⊢
          have HN := hid hN
          clear hN
          generalize hP : cp pa.toList pb.toList = p at hd1 hd2 ⊢
          have HP := hid hP
          clear hP
          go_wp2_with fail
          refine (refdiff_any pa pb _ (by unfold maxLen; omega) (by unfold maxLen; omega)).mono ?_
          rintro e w10 ⟨u2, rfl, hu2, hd10⟩
          rw [HN.out, HP.out]
          obtain rfl : u2 = u := str_ext (hu2.trans HU.out.symm)
          have hF1 := below_dr (below_dr (below_drewN hF _) hd9) hd10
          have hB1 := below_step hB hF1
          clear hu2 HU HN HP hd9 hd10
          have hso := sl_one w10 ⟨#[109]⟩ pa
          go_wp2_with fail
          refine (apply_one pa pb u2 p n _ (by omega) (by omega) hd1 hd2 hd3 hd4 _ hso).mono ?_
          rintro e w11 ⟨v11, rfl, hs11, hb11⟩
          have hbal : Below w10.heap.size w10 w11 := below_al hb11
          obtain ⟨A11, cc11, rfl, u11, u12, u13⟩ := hs11
          rcases u13 with u13 | ⟨b11, o11, rfl, v11, hc11⟩
          · simp at u13
          have c11 := hc11 0 (⟨#[109]⟩, pb) rfl 1 (.string pb) rfl
          simp only [Nat.zero_mul, Nat.add_zero] at c11
          clear hc11 hb11 hso
          go_wp2_with fail
          go_roundw
          case rel => exact ⟨k9 + 1, by omega, by go_num, below_step hF1 hbal⟩
          case measure => simp [intOf]; omega
        · obtain rfl : k9 = 4 := by omega
          go_wp2_with fail
          refine (awake_any _).mono ?_
          rintro e w9 ⟨rfl, hb⟩
          go_wp2_with fail
          go_ret
          exact ⟨rfl, below_step (below_step hB hF) hb⟩
  · by_cases h400 : (ns.length : Int) ≤ 400
    · have g0 : decide ((ns.length : Int) ≤ 400) = true := by simpa using h400
      by_cases ha3 : (3000 : Int) < (a.size : Int)
      · have g1 : decide ((3000 : Int) < (a.size : Int)) = true := by simpa using ha3
        go_enter Try.func4, Try.ntmps4
        go_upto_region 2 with (go_at_call 13; refine (light_any _ v ns hv).mono ?_; rintro e w1 ⟨rfl, rfl⟩)
        go_wp2_with fail
        refine (awake_any _).mono ?_
        rintro e w2 ⟨rfl, hb⟩
        go_wp2_with fail
        go_ret
        exact ⟨rfl, hb⟩
      · have g1 : decide ((3000 : Int) < (a.size : Int)) = false := by simpa using ha3
        have g2 : decide ((3000 : Int) < (b.size : Int)) = true := by rw [decide_eq_true_iff]; omega
        go_enter Try.func4, Try.ntmps4
        go_upto_region 2 with (go_at_call 13; refine (light_any _ v ns hv).mono ?_; rintro e w1 ⟨rfl, rfl⟩)
        go_wp2_with fail
        refine (awake_any _).mono ?_
        rintro e w2 ⟨rfl, hb⟩
        go_wp2_with fail
        go_ret
        exact ⟨rfl, hb⟩
    · have g0 : decide ((ns.length : Int) ≤ 400) = false := by simpa using h400
      go_enter Try.func4, Try.ntmps4
      go_upto_region 2 with (go_at_call 13; refine (light_any _ v ns hv).mono ?_; rintro e w1 ⟨rfl, rfl⟩)
      go_wp2_with fail
      refine (awake_any _).mono ?_
      rintro e w2 ⟨rfl, hb⟩
      go_wp2_with fail
      go_ret
      exact ⟨rfl, hb⟩
end Go.Proofs.Ytpjpndbagkcgcaa
