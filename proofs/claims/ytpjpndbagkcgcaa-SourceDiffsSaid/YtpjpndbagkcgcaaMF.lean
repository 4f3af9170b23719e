/- recompilelaw01.SourceApart: true, whatever it is given. -/
import Derived.Test.YtpjpndbagkcgcaaME
set_option linter.unusedVariables false
set_option linter.unusedSimpArgs false
namespace Go.Proofs.Ytpjpndbagkcgcaa
open Go.RowKit

theorem edin_open {l : List Src} {x : Ed} (h : EdIn l x) : ∃ (k : Nat) (q : Src) (i j : Nat) (s : ByteArray), l[k]? = some q ∧ x = ⟨q.1, (i : Int), (j : Int), s⟩ ∧ i + j ≤ q.2.size ∧ s.size ≤ 40 := by
  obtain ⟨k, q, hq, hm, h1, h2, h3, h4⟩ := h
  obtain ⟨m, a, c, s⟩ := x
  simp only at hm h1 h2 h3 h4
  refine ⟨k, q, a.toNat, c.toNat, s, hq, ?_, by omega, h4⟩
  rw [hm, Int.toNat_of_nonneg h1, Int.toNat_of_nonneg h2]
def PostA (w : World) (l : List Src) (e : Ending) (w' : World) : Prop := ∃ v', e = .returned (.tuple #[v', .int .i64 0]) ∧ Sl srcE 2 w' w'.heap.size v' l ∧ Below w.heap.size w w'
theorem apply_fit {l : List Src} {L : Nat} (h : SrcN L l) (hL : L ≤ 20000) {k : Nat} {q : Src} (hq : l[k]? = some q) (m : ByteArray) (i j : Nat) (s : ByteArray) (hm : m = q.1) (hij : i + j ≤ q.2.size) (hs : s.size ≤ 20000) (hsz : q.2.size - j + s.size ≤ 20000) (v : Value) (w : World) (hv : Sl srcE 2 w w.heap.size v l) :
    Calls Try.prog 20 #[v, .agg #[.string m, .int .i64 i, .int .i64 j, .string s]] w (PostA w (l.set k (q.1, spl q.2 i j s))) := by
  subst hm
  have hk : k < l.length := (List.getElem?_eq_some_iff.1 hq).1
  have h3 := h.1
  have hqs := (h.2 k q hq)
  have hn : q.1.size = 1 := by rw [hqs.1]; rfl
  have e := h.apply hL hq (x := ⟨q.1, (i : Int), (j : Int), s⟩) ⟨rfl, by simp, by simp, by simp; omega⟩ (by simp; omega)
  simp only [Int.toNat_natCast] at e
  have hx : EdOk ⟨q.1, (i : Int), (j : Int), s⟩ := ⟨by simp; omega, by simp; omega, by simp only []; omega, by simp only []; omega, by simp only []; omega, by simp only []; omega⟩
  refine (apply_any l ⟨q.1, (i : Int), (j : Int), s⟩ v w hv (h.szok hL) (by omega) hx).mono ?_
  rintro e' w' ⟨v', h1, h2, h3⟩
  rw [e] at h1 h2
  exact ⟨v', h1, h2, h3⟩
/-- lists that are the same -/
theorem same_eq {l l2 : List Src} (h : l = l2) (v v2 : Value) (w : World) (hv : Sl srcE 2 w w.heap.size v l) (hv2 : Sl srcE 2 w w.heap.size v2 l2) :
    Calls Try.prog 22 #[v, v2] w fun e w' => e = .returned (.bool true) ∧ Below w.heap.size w w' := by
  subst h; exact same_any l v v2 w hv hv2

theorem get_set {l : List Src} {k : Nat} {q r : Src} (h : l[k]? = some q) : (l.set k r)[k]? = some r := by
  have hk : k < l.length := (List.getElem?_eq_some_iff.1 h).1
  rw [List.getElem?_set]; simp [hk]
theorem get_set_ne {l : List Src} {k k2 : Nat} {q r : Src} (h : l[k2]? = some q) (hne : k ≠ k2) : (l.set k r)[k2]? = some q := by
  rw [List.getElem?_set, if_neg hne]; exact h
theorem set_back {l : List Src} {k : Nat} {q : Src} (h : l[k]? = some q) (i j : Nat) (s : ByteArray) (hij : i + j ≤ q.2.size) :
    (l.set k (q.1, spl q.2 i j s)).set k (q.1, spl (spl q.2 i j s) i s.size (q.2.extract i (i + j))) = l := by
  rw [List.set_set, spl_back _ _ _ _ hij]
  apply List.ext_getElem?
  intro n
  rw [List.getElem?_set]
  split
  · rename_i e
    subst e
    have hk : k < l.length := (List.getElem?_eq_some_iff.1 h).1
    rw [if_pos hk, h]
  · rfl
theorem set_cross {l : List Src} {k k2 : Nat} (hne : k ≠ k2) (a b : Src) : (l.set k2 b).set k a = (l.set k a).set k2 b := List.set_comm _ _ (fun e => hne e.symm)
theorem set_two {l : List Src} {k : Nat} {q : Src} (i c : Nat) (s : ByteArray) (j e : Nat) (u : ByteArray) (h1 : i + c ≤ j) (h2 : j + e ≤ q.2.size) :
    (l.set k (q.1, spl q.2 j e u)).set k (q.1, spl (spl q.2 j e u) i c s) = (l.set k (q.1, spl q.2 i c s)).set k (q.1, spl (spl q.2 i c s) (j + s.size - c) e u) := by
  rw [List.set_set, List.set_set, spl_two _ _ _ _ _ _ _ h1 h2]

set_option maxHeartbeats 8000000 in
set_option maxRecDepth 100000 in
theorem apart_any (ns : List Int) (v : Value) (w : World) (hv : IntSl w v ns) :
    Calls Try.prog 5 #[v] w fun e w' => e = .returned (.bool true) ∧ Below w.heap.size w w' := by
  by_cases h400 : (ns.length : Int) ≤ 400
  · have g0 : decide ((ns.length : Int) ≤ 400) = true := by simpa using h400
    go_enter Try.func5, Try.ntmps5
    go_wp2_with fail
    refine (light_any _ v ns hv).mono ?_
    rintro e w1 ⟨rfl, rfl⟩
    go_wp2_with fail
    refine (roll_any _ v ns hv).mono ?_
    rintro e w1 ⟨rfl, hD, hb1⟩
    obtain ⟨d, hd⟩ : ∃ d, d = w.heap.size := ⟨_, rfl⟩
    have hB : Below d w w1 := by rw [hd]; exact hb1
    rw [← hd] at hD ⊢
    have hd1 : d ≤ w.heap.size := by omega
    have Hd := hid hd
    clear hd hb1
    go_wp2_with fail
    refine (sources_any _ d hD).mono ?_
    rintro e w2 ⟨lv, l, hL, rfl, hD2, hown, hK2⟩
    have hdl := hD.lt
    have hB := Kp.below hB hK2 (by have := hB.size; omega) (by simp)
    have hsl : Sl srcE 2 w2 w2.heap.size lv l := hown.sl srcE_len (by omega)
    have hnd := own_ne hown hdl
    go_wp2_with fail
    refine (edit_any l lv _ d hD2 hsl hL.1 (by have := hL.2.1; omega) (srcl_big hL) hnd).mono ?_
    rintro e w3 ⟨x, hx, rfl, hD3, hK3⟩
    have hB := Kp.below hB hK3 (by have := hB.size; omega) (by simp)
    have hown := Own.kp hown hK3 (by simp; omega)
    have hsl : Sl srcE 2 w3 w3.heap.size lv l := hown.sl srcE_len (by omega)
    unfold edV
    go_wp2_with fail
    refine (edit_any l lv _ d hD3 hsl hL.1 (by have := hL.2.1; omega) (srcl_big hL) hnd).mono ?_
    rintro e w4 ⟨y, hy, rfl, hD4, hK4⟩
    have hB := Kp.below hB hK4 (by have := hB.size; omega) (by simp)
    have hown := Own.kp hown hK4 (by simp; omega)
    have hsl : Sl srcE 2 w4 w4.heap.size lv l := hown.sl srcE_len (by omega)
    clear hown hK2 hK3 hK4 hnd hD2 hD3 hD4 hD hdl
    obtain ⟨k, q, i, j, s, hq, rfl, hij, hs⟩ := edin_open hx
    obtain ⟨k2, q2, i2, j2, s2, hq2, rfl, hij2, hs2⟩ := edin_open hy
    clear hx hy
    unfold edV
    go_upto_region 6 with fail
    have hal1 : Below w4.heap.size w4 (w4.alloc (.cells #[.string q.1, .int .i64 (i : Int), .int .i64 (j : Int), .string s] 34)) := (Below.refl _ _).alloc (Nat.le_refl _) _
    have hal2 : Below (w4.alloc (.cells #[.string q.1, .int .i64 (i : Int), .int .i64 (j : Int), .string s] 34)).heap.size (w4.alloc (.cells #[.string q.1, .int .i64 (i : Int), .int .i64 (j : Int), .string s] 34)) ((w4.alloc (.cells #[.string q.1, .int .i64 (i : Int), .int .i64 (j : Int), .string s] 34)).alloc (.cells #[.string q2.1, .int .i64 (i2 : Int), .int .i64 (j2 : Int), .string s2] 34)) := (Below.refl _ _).alloc (Nat.le_refl _) _
    have hX : RowE ((w4.alloc (.cells #[.string q.1, .int .i64 (i : Int), .int .i64 (j : Int), .string s] 34)).alloc (.cells #[.string q2.1, .int .i64 (i2 : Int), .int .i64 (j2 : Int), .string s2] 34)) w4.heap.size ⟨q.1, (i : Int), (j : Int), s⟩ := RowE.of (heap_alloc_new w4 _) hal2
    have hY : RowE ((w4.alloc (.cells #[.string q.1, .int .i64 (i : Int), .int .i64 (j : Int), .string s] 34)).alloc (.cells #[.string q2.1, .int .i64 (i2 : Int), .int .i64 (j2 : Int), .string s2] 34)) (w4.heap.size + 1) ⟨q2.1, (i2 : Int), (j2 : Int), s2⟩ := by
      have := heap_alloc_new (w4.alloc (.cells #[.string q.1, .int .i64 (i : Int), .int .i64 (j : Int), .string s] 34)) (.cells #[.string q2.1, .int .i64 (i2 : Int), .int .i64 (j2 : Int), .string s2] 34)
      have e : (w4.alloc (.cells #[.string q.1, .int .i64 (i : Int), .int .i64 (j : Int), .string s] 34)).heap.size = w4.heap.size + 1 := by simp
      rw [e] at this
      exact this
    have hal := below_step hal1 hal2
    have hB := below_step (show Below w.heap.size w w4 by rw [← Hd.out]; exact hB) hal
    have hsl := hsl.later hal
    obtain ⟨w5, hw5⟩ : ∃ w5, w5 = (w4.alloc (.cells #[.string q.1, .int .i64 (i : Int), .int .i64 (j : Int), .string s] 34)).alloc (.cells #[.string q2.1, .int .i64 (i2 : Int), .int .i64 (j2 : Int), .string s2] 34) := ⟨_, rfl⟩
    rw [← hw5] at hX hY hB hsl ⊢
    obtain ⟨bx, hbx⟩ : ∃ bx, bx = w4.heap.size := ⟨_, rfl⟩
    obtain ⟨by', hby⟩ : ∃ b, b = w4.heap.size + 1 := ⟨_, rfl⟩
    rw [← hby] at hY ⊢
    rw [← hbx] at hX ⊢
    clear hw5 hbx hby hal hal1 hal2 hd1 Hd
    have hN := hL.n
    have hq1 := (hN.2 k q hq)
    have hq21 := (hN.2 k2 q2 hq2)
    have Hq := hid hq
    have Hq2 := hid hq2
    have hqs := hq1.2
    have hq2s := hq21.2
    have hfind := hN.find hq
    have HF := hid hfind
    clear hq1 hq21 hfind hq hq2
    obtain ⟨x0, x1, x2, x3⟩ := hX.at_
    go_wp2_with fail
    refine (reffind_any l lv q.1 _ hsl).mono ?_
    rw [HF.out]
    rintro e w6 ⟨rfl, rfl⟩
    clear HF
    go_wp2_with fail
    refine (apply_fit hN (by omega) Hq.out q.1 i j s rfl hij (by omega) (by omega) lv _ hsl).mono ?_
    rintro e w6 ⟨va, rfl, ha, hb⟩
    have hsl := hsl.later hb
    have hX := hX.of hb
    have hY := hY.of hb
    have hB := below_step hB hb
    clear x0 x1 x2 x3
    obtain ⟨x0, x1, x2, x3⟩ := hX.at_
    go_upto_region 8 with fail
    go_cut [11] (fun t wx => ∃ bb : Nat, t = .pointer (some ⟨bb, 0, none⟩) ∧ RowE wx bb ⟨q.1, (i : Int), (s.size : Int), q.2.extract i (i + j)⟩ ∧ Below w6.heap.size w6 wx)
    case first =>
      have hbl := hX.lt
      have hne : w6.heap.size ≠ bx := by omega
      have g2 : (0 : Int) ≤ (i : Int) := by omega
      have g3 : (i : Int) ≤ (i : Int) + (j : Int) := by omega
      have g4 : (i : Int) + (j : Int) ≤ (q.2.size : Int) := by omega
      have g6 : (0 : Int) ≤ (i : Int) + (j : Int) := by omega
      have g1 : IntKind.i64.wrap ((i : Int) + (j : Int)) = (i : Int) + (j : Int) := IntWalk.i64_in _ (by omega)
      have g5 : ((i : Int) + (j : Int)).toNat = i + j := by omega
      go_region_held3 (fun w' => w'.cell? ⟨bx, 0, none⟩ = some (.string q.1) ∧ w'.cell? ⟨bx, 1, none⟩ = some (.int .i64 (i : Int)) ∧ w'.cell? ⟨bx, 2, none⟩ = some (.int .i64 (j : Int)) ∧ w'.cell? ⟨bx, 3, none⟩ = some (.string s)) (first | exact ⟨x0, x1, x2, x3⟩ | go_keep) (first | fail)
      all_goals
        go_wp2_with fail
        go_meet
        exact ⟨_, rfl, heap_alloc_new w6 _, below_drewN ((Below.refl _ _).alloc (Nat.le_refl _) _) 1⟩
    case rest =>
      obtain ⟨bb, rfl, hZ, hb⟩ := hcut
      have hsl := hsl.later hb
      have ha := ha.later hb
      have hX := hX.of hb
      have hY := hY.of hb
      have hB := below_step hB hb
      clear x0 x1 x2 x3
      obtain ⟨z0, z1, z2, z3⟩ := hZ.at_
      have hsp : (spl q.2 i j s).size = q.2.size - j + s.size := spl_size hij
      have hNa := hN.set (L' := 12040) Hq.out (t := spl q.2 i j s) (by omega) (by omega)
      have hext : (q.2.extract i (i + j)).size = j := by rw [ByteArray.size_extract]; omega
      have HE := hid hext
      have HSP := hid hsp
      clear hext hsp
      go_wp2_with fail
      refine (apply_fit hNa (by omega) (get_set Hq.out) q.1 i s.size (q.2.extract i (i + j)) rfl (by have := HSP.out; show _ ≤ (spl q.2 i j s).size; omega) (by have := HE.out; omega) (by have := HE.out; have := HSP.out; show (spl q.2 i j s).size - _ + _ ≤ _; omega) va _ ha).mono ?_
      rintro e w7 ⟨vb, rfl, hvb, hb⟩
      have hsl := hsl.later hb
      have ha := ha.later hb
      have hX := hX.of hb
      have hY := hY.of hb
      have hB := below_step hB hb
      rw [set_back Hq.out i j s hij] at hvb
      clear z0 z1 z2 z3
      obtain ⟨x0, x1, x2, x3⟩ := hX.at_
      obtain ⟨y0, y1, y2, y3⟩ := hY.at_
      have hlt := Hq.out
      have hkl : k < l.length := (List.getElem?_eq_some_iff.1 hlt).1
      have hk2l : k2 < l.length := (List.getElem?_eq_some_iff.1 Hq2.out).1
      have hl3 := hN.1
      clear hlt
      by_cases hkk : k = k2
      · subst hkk
        obtain rfl : q = q2 := by
          have := Hq.out.symm.trans Hq2.out
          injection this
        go_upto_region 17 with (first
          | (go_at_call 9; (with_reducible refine (awake_any _).mono ?_); rintro e w8 ⟨rfl, hb⟩; have hsl := hsl.later hb; have ha := ha.later hb; have hX := hX.of hb; have hY := hY.of hb; have hB := below_step hB hb; have hvb := hvb.later hb; clear x0 x1 x2 x3 y0 y1 y2 y3; obtain ⟨x0, x1, x2, x3⟩ := hX.at_; obtain ⟨y0, y1, y2, y3⟩ := hY.at_)
          | (go_at_call 22; (with_reducible refine (same_any l _ _ _ hvb hsl).mono ?_); rintro e w8 ⟨rfl, hb⟩; have hsl := hsl.later hb; have ha := ha.later hb; have hX := hX.of hb; have hY := hY.of hb; have hB := below_step hB hb; clear x0 x1 x2 x3 y0 y1 y2 y3; obtain ⟨x0, x1, x2, x3⟩ := hX.at_; obtain ⟨y0, y1, y2, y3⟩ := hY.at_))
        clear hvb
        by_cases hlt2 : (i2 : Int) < (i : Int) + (j : Int)
        · go_wp2_with fail
          go_ret
          exact ⟨rfl, hB⟩
        · by_cases heq : i2 = i
          · subst heq
            go_wp2_with fail
            go_ret
            exact ⟨rfl, hB⟩
          · have e1 : ((i2 : Int) == (i : Int)) = false := by rw [beq_eq_false_iff_ne]; omega
            obtain ⟨zi, hzi, hzi2⟩ : ∃ zi : Nat, (i2 : Int) + ((s.size : Int) - (j : Int)) = (zi : Int) ∧ zi = i2 + s.size - j := ⟨i2 + s.size - j, by omega, rfl⟩
            have HZI := hid hzi2
            clear hzi2 heq
            go_upto_region 20 with fail
            have hal : Below w8.heap.size w8 (w8.alloc (.cells #[.string q.1, .int .i64 (i2 : Int), .int .i64 (j2 : Int), .string s2] 34)) := (Below.refl _ _).alloc (Nat.le_refl _) _
            have hZ : RowE (w8.alloc (.cells #[.string q.1, .int .i64 (i2 : Int), .int .i64 (j2 : Int), .string s2] 34)) w8.heap.size ⟨q.1, (i2 : Int), (j2 : Int), s2⟩ := heap_alloc_new w8 _
            obtain ⟨w9, hw9⟩ : ∃ w9, w9 = w8.alloc (.cells #[.string q.1, .int .i64 (i2 : Int), .int .i64 (j2 : Int), .string s2] 34) := ⟨_, rfl⟩
            rw [← hw9] at hal hZ ⊢
            clear hw9
            have hbz := hZ.lt
            have hbxl := hX.lt
            have hbyl := hY.lt
            have hb := hal
            have hal8 : Below w8.heap.size w8 (w9.setCell ⟨w8.heap.size, 1, none⟩ (.int .i64 (zi : Int))) := hal.setCell (by exact Nat.le_refl _) _
            have hZ' : RowE (w9.setCell ⟨w8.heap.size, 1, none⟩ (.int .i64 (zi : Int))) w8.heap.size ⟨q.1, (zi : Int), (j2 : Int), s2⟩ := hZ.put rfl
            have hX8 := hX
            have hY8 := hY
            have hsl8 := hsl
            have ha8 := ha
            have hB8 := hB
            have hsl := hsl.later hb
            have ha := ha.later hb
            have hX := hX.of hb
            have hY := hY.of hb
            have hB := below_step hB hb
            clear x0 x1 x2 x3 y0 y1 y2 y3
            obtain ⟨x0, x1, x2, x3⟩ := hX.at_
            obtain ⟨z0, z1, z2, z3⟩ := hZ.at_
            have f1 := hZ.fr 1
            go_upto_region 21 with fail
            clear x0 x1 x2 x3 z0 z1 z2 z3 f1 hZ hX hY hsl ha hB hb hzi
            obtain ⟨w10, hw10⟩ : ∃ w10, w10 = w9.setCell ⟨w8.heap.size, 1, none⟩ (.int .i64 (zi : Int)) := ⟨_, rfl⟩
            rw [← hw10] at hal8 hZ' ⊢
            have hsl := hsl8
            have ha := ha8
            have hX := hX8
            have hY := hY8
            have hB := hB8
            have hb := hal8
            have hsl := hsl.later hb
            have ha := ha.later hb
            have hX := hX.of hb
            have hY := hY.of hb
            have hB := below_step hB hb
            clear hw10 hX8 hY8 hsl8 ha8 hB8
            obtain ⟨z0, z1, z2, z3⟩ := hZ'.at_
            obtain ⟨y0, y1, y2, y3⟩ := hY.at_
            go_wp2_with fail
            refine (apply_fit hNa (by omega) (get_set Hq.out) q.1 zi j2 s2 rfl (by have := HSP.out; have := HZI.out; show _ ≤ (spl q.2 i j s).size; omega) (by omega) (by have := HSP.out; show (spl q.2 i j s).size - _ + _ ≤ _; omega) va _ ha).mono ?_
            rintro e w11 ⟨vc, rfl, hvc, hb⟩
            have hsl := hsl.later hb
            have ha := ha.later hb
            have hX := hX.of hb
            have hY := hY.of hb
            have hB := below_step hB hb
            clear z0 z1 z2 z3 y0 y1 y2 y3
            obtain ⟨y0, y1, y2, y3⟩ := hY.at_
            go_wp2_with fail
            refine (apply_fit hN (by omega) Hq.out q.1 i2 j2 s2 rfl hij2 (by omega) (by omega) lv _ hsl).mono ?_
            rintro e w12 ⟨vd, rfl, hvd, hb⟩
            have hsl := hsl.later hb
            have ha := ha.later hb
            have hX := hX.of hb
            have hY := hY.of hb
            have hB := below_step hB hb
            have hvc := hvc.later hb
            have hsp2 : (spl q.2 i2 j2 s2).size = q.2.size - j2 + s2.size := spl_size hij2
            have hNd := hN.set (L' := 12040) Hq.out (t := spl q.2 i2 j2 s2) (by omega) (by omega)
            clear y0 y1 y2 y3
            obtain ⟨x0, x1, x2, x3⟩ := hX.at_
            have HS2 := hid hsp2
            clear hsp2
            go_wp2_with fail
            refine (apply_fit hNd (by omega) (get_set Hq.out) q.1 i j s rfl (by have := HS2.out; show _ ≤ (spl q.2 i2 j2 s2).size; omega) (by omega) (by have := HS2.out; show (spl q.2 i2 j2 s2).size - _ + _ ≤ _; omega) vd _ hvd).mono ?_
            rintro e w13 ⟨ve, rfl, hve, hb⟩
            have hsl := hsl.later hb
            have ha := ha.later hb
            have hX := hX.of hb
            have hY := hY.of hb
            have hB := below_step hB hb
            have hvc := hvc.later hb
            go_wp2_with fail
            refine (same_eq (by rw [HZI.out]; exact set_two i j s i2 j2 s2 (by omega) hij2) ve vc _ hve hvc).mono ?_
            rintro e w14 ⟨rfl, hb⟩
            have hB := below_step hB hb
            go_wp2_with fail
            go_ret
            exact ⟨rfl, hB⟩
      · have hnm : (q.1.toList == q2.1.toList) = false := by
          rw [(hN.2 k q Hq.out).1, (hN.2 k2 q2 Hq2.out).1]
          exact letter_ne (by omega) (by omega) hkk
        go_upto_region 13 with (first
          | (go_at_call 9; (with_reducible refine (awake_any _).mono ?_); rintro e w8 ⟨rfl, hb⟩; have hsl := hsl.later hb; have ha := ha.later hb; have hX := hX.of hb; have hY := hY.of hb; have hB := below_step hB hb; have hvb := hvb.later hb; clear x0 x1 x2 x3 y0 y1 y2 y3; obtain ⟨x0, x1, x2, x3⟩ := hX.at_; obtain ⟨y0, y1, y2, y3⟩ := hY.at_)
          | (go_at_call 22; (with_reducible refine (same_any l _ _ _ hvb hsl).mono ?_); rintro e w8 ⟨rfl, hb⟩; have hsl := hsl.later hb; have ha := ha.later hb; have hX := hX.of hb; have hY := hY.of hb; have hB := below_step hB hb; clear x0 x1 x2 x3 y0 y1 y2 y3; obtain ⟨x0, x1, x2, x3⟩ := hX.at_; obtain ⟨y0, y1, y2, y3⟩ := hY.at_))
        clear hvb
        go_wp2_with fail
        refine (apply_fit hNa (by omega) (get_set_ne Hq2.out hkk) q2.1 i2 j2 s2 rfl hij2 (by omega) (by omega) va _ ha).mono ?_
        rintro e w9 ⟨vc, rfl, hvc, hb⟩
        have hsl := hsl.later hb
        have ha := ha.later hb
        have hX := hX.of hb
        have hY := hY.of hb
        have hB := below_step hB hb
        clear x0 x1 x2 x3 y0 y1 y2 y3
        obtain ⟨x0, x1, x2, x3⟩ := hX.at_
        obtain ⟨y0, y1, y2, y3⟩ := hY.at_
        go_wp2_with fail
        refine (apply_fit hN (by omega) Hq2.out q2.1 i2 j2 s2 rfl hij2 (by omega) (by omega) lv _ hsl).mono ?_
        rintro e w10 ⟨vd, rfl, hvd, hb⟩
        have hsl := hsl.later hb
        have ha := ha.later hb
        have hX := hX.of hb
        have hY := hY.of hb
        have hB := below_step hB hb
        have hvc := hvc.later hb
        have hsp2 : (spl q2.2 i2 j2 s2).size = q2.2.size - j2 + s2.size := spl_size hij2
        have hNd := hN.set (L' := 12040) Hq2.out (t := spl q2.2 i2 j2 s2) (by omega) (by omega)
        clear x0 x1 x2 x3 y0 y1 y2 y3 hsp2
        obtain ⟨x0, x1, x2, x3⟩ := hX.at_
        go_wp2_with fail
        refine (apply_fit hNd (by omega) (get_set_ne Hq.out (fun e => hkk e.symm)) q.1 i j s rfl hij (by omega) (by omega) vd _ hvd).mono ?_
        rintro e w11 ⟨ve, rfl, hve, hb⟩
        have hsl := hsl.later hb
        have ha := ha.later hb
        have hX := hX.of hb
        have hY := hY.of hb
        have hB := below_step hB hb
        have hvc := hvc.later hb
        go_wp2_with fail
        refine (same_eq (set_cross hkk _ _) ve vc _ hve hvc).mono ?_
        rintro e w12 ⟨rfl, hb⟩
        have hB := below_step hB hb
        go_wp2_with fail
        go_ret
        exact ⟨rfl, hB⟩
  · have g0 : decide ((ns.length : Int) ≤ 400) = false := by simpa using h400
    go_enter Try.func5, Try.ntmps5
    go_wp2_with fail
    refine (light_any _ v ns hv).mono ?_
    rintro e w1 ⟨rfl, rfl⟩
    go_wp2_with fail
    refine (awake_any _).mono ?_
    rintro e w2 ⟨rfl, hb⟩
    go_wp2_with fail
    go_ret
    exact ⟨rfl, hb⟩
end Go.Proofs.Ytpjpndbagkcgcaa
