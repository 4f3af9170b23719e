/- Programs that are made: edits applied. -/
import Derived.Test.YtpjpndbagkcgcaaMF
set_option linter.unusedVariables false
set_option linter.unusedSimpArgs false
namespace Go.Proofs.Ytpjpndbagkcgcaa
open Go.RowKit

def PostMA (n : Nat) (w : World) (e : Ending) (w' : World) : Prop := ∃ (v' : Value) (l' : List Src), l'.length = n ∧ (∀ y ∈ l', y.2.size ≤ 12040) ∧ e = .returned v' ∧ Sl srcE 2 w' w'.heap.size v' l' ∧ Below w.heap.size w w'
def MaSz (k : Nat) (l : List Src) : Prop := ∀ n y, l[n]? = some y → y.2.size ≤ 12040 ∧ (k ≤ n → y.2.size ≤ 12000)
theorem MaSz.next {k : Nat} {l : List Src} (h : MaSz k l) : MaSz (k + 1) l := fun n y hy => ⟨(h n y hy).1, fun hn => (h n y hy).2 (by omega)⟩
theorem MaSz.set {k : Nat} {l : List Src} (h : MaSz k l) (q : Src) (hq : q.2.size ≤ 12040) : MaSz (k + 1) (l.set k q) := by
  intro n y hy
  rw [List.getElem?_set] at hy
  split at hy
  · rename_i e
    subst e
    split at hy
    · simp only [Option.some.injEq] at hy
      subst hy
      exact ⟨hq, fun hn => by omega⟩
    · simp at hy
  · exact h.next n y hy

set_option maxHeartbeats 8000000 in
set_option maxRecDepth 100000 in
theorem madeapply_any (l : List Src) (v : Value) (m : ByteArray) (i j : Nat) (s : ByteArray) (w : World) (hv : Sl srcE 2 w w.heap.size v l) (h1 : 1 ≤ l.length) (h3 : l.length ≤ 1000) (hs : ∀ y ∈ l, y.2.size ≤ 12000) (hi : i ≤ 100000) (hj : j ≤ 100000) (hs4 : s.size ≤ 40) :
    Calls Try.prog 17 #[v, .agg #[.string m, .int .i64 i, .int .i64 j, .string s]] w (PostMA l.length w) := by
  have hal : Below w.heap.size w (w.alloc (.cells #[.string m, .int .i64 (i : Int), .int .i64 (j : Int), .string s] 34)) := (Below.refl _ _).alloc (Nat.le_refl _) _
  have hX : RowE (w.alloc (.cells #[.string m, .int .i64 (i : Int), .int .i64 (j : Int), .string s] 34)) w.heap.size ⟨m, (i : Int), (j : Int), s⟩ := heap_alloc_new w _
  have hv1 := hv.later hal
  obtain ⟨A0, cc0, rfl, hnc0, hc0, _⟩ := hv
  obtain ⟨_, hat0, _⟩ := hv1.at_ srcE_len (by omega)
  go_enter Try.func17, Try.ntmps17
  go_upto_region 2 with (at_builtin; refine wpl_append _ rfl _ _ 31 rfl _ 2 32 elSrc (w.heap.size + 1) (.slice none 0 0) [] rfl (Own.nil_ _ _ _ _) A0 l.length cc0 (l.flatMap srcE) rfl (by rw [srcs_len]) hat0 (srcs_one l) (by rw [srcs_len]; simp; unfold maxLen; omega) (by rw [srcs_len]; simp; omega) (by simp) ?_; intro v1 w1 hown hg1 hat1)
  have hzal : (w.alloc (.cells #[.string m, .int .i64 (i : Int), .int .i64 (j : Int), .string s] 34)).heap.size = w.heap.size + 1 := by simp
  have hb1 : Below (w.heap.size + 1) (w.alloc (.cells #[.string m, .int .i64 (i : Int), .int .i64 (j : Int), .string s] 34)) w1 := by
    have := (Below.refl (w.alloc (.cells #[.string m, .int .i64 (i : Int), .int .i64 (j : Int), .string s] 34)).heap.size _).grown hg1 (Nat.le_refl _) (fun k hk => by simp [Value.ownBlock] at hk)
    rwa [hzal] at this
  have hB : Below w.heap.size w w1 := hal.trans (hb1.mono (by omega))
  have hX : RowE w1 w.heap.size ⟨m, (i : Int), (j : Int), s⟩ := (hb1.block w.heap.size (by omega)).trans hX
  rw [List.nil_append] at hown
  clear hg1 hat1 hb1 hat0 hv1 hzal
  rcases hown with ⟨rfl, h0⟩ | ⟨g, off, n, cap, cs, rfl, n9, hbg, hg, hnc, hcap, hfit, hcs⟩
  · have := srcs_len l
    rw [h0] at this
    simp at this
    omega
  have hn : n = l.length := by rw [srcs_len] at n9; omega
  subst hn
  have hown : Own w1 (w.heap.size + 1) 39 2 (.slice (some ⟨g, off, none⟩) l.length cap) (l.flatMap srcE) := .inr ⟨g, off, l.length, cap, cs, rfl, n9, hbg, hg, hnc, hcap, hfit, hcs⟩
  have hcap' := hcap
  unfold maxLen at hcap
  clear hg hcs hfit n9 cs
  have Hs := hid hs
  clear hs
  go_wp2_with fail
  go_loopw [6] (fun i9 wr => ∃ (k : Nat) (l' : List Src), k ≤ l.length ∧ i9 = .int .i64 k ∧ l'.length = l.length ∧ MaSz k l' ∧ Own wr (w.heap.size + 1) 39 2 (.slice (some ⟨g, off, none⟩) l.length cap) (l'.flatMap srcE) ∧ RowE wr w.heap.size ⟨m, (i : Int), (j : Int), s⟩ ∧ Below w.heap.size w wr) (fun i9 _ => l.length - (intOf i9).toNat)
  case atStart => exact ⟨0, l, Nat.zero_le _, rfl, rfl, fun n y hy => ⟨by have := Hs.out y (List.mem_of_getElem? hy); omega, fun _ => Hs.out y (List.mem_of_getElem? hy)⟩, hown, hX, hB⟩
  case round =>
    obtain ⟨k, l', hk, rfl, hl', hM, hown, hX, hB⟩ := hrel
    have HL := hid hl'
    by_cases hkl : k < l.length
    · obtain ⟨y, hy⟩ : ∃ y, l'[k]? = some y := ⟨_, List.getElem?_eq_getElem (by omega)⟩
      have hysz := (hM k y hy).2 (Nat.le_refl _)
      rcases hown with ⟨e, h0⟩ | ⟨g', off', n', cap', cs, e, n9, hbg', hg, hnc', hcap'', hfit, hcs⟩
      · cases e
      injection e with e1 e2 e3
      injection e1 with e1
      injection e1 with e4 e5
      subst e4 e5 e2 e3
      have k1 := flat_get srcE_len l' k 0 y hy (by omega)
      have k2 := flat_get srcE_len l' k 1 y hy (by omega)
      have t1 := hcs (k * 2 + 0) (.string y.1) (by rw [k1]; rfl)
      have t2 := hcs (k * 2 + 1) (.string y.2) (by rw [k2]; rfl)
      have p1 : wr.cell? ⟨g, off + k * 2, none⟩ = some (.string y.1) := by rw [cell_of_row _ _ _ _ _ _ hg]; exact t1
      have p2 : wr.cell? ⟨g, off + k * 2 + 1, none⟩ = some (.string y.2) := by rw [cell_of_row _ _ _ _ _ _ hg]; exact t2
      have p4 : wr.frozen? ⟨g, off + k * 2 + 1, none⟩ = false := by simp [World.frozen?, hg]
      obtain ⟨x0, x1, x2, x3⟩ := hX.at_
      have Hg := hid hg
      have Hcs := hid hcs
      have Hy := hid hy
      have hown : Own wr (w.heap.size + 1) 39 2 (.slice (some ⟨g, off, none⟩) l.length cap) (l'.flatMap srcE) := .inr ⟨g, off, l.length, cap, cs, rfl, n9, hbg', hg, hnc', hcap'', hfit, hcs⟩
      clear k1 k2 t1 t2 hg hcs n9 hl' hy
      have hw5 : IntKind.i64.wrap ((i : Int) + (j : Int)) = (i : Int) + (j : Int) := IntWalk.i64_in _ (by omega)
      have hi0 : decide ((0 : Int) ≤ (i : Int)) = true := by simp
      have hj0 : decide ((0 : Int) ≤ (j : Int)) = true := by simp
      cases hnm : (y.1.toList == m.toList)
      · have hnm2 : (y.1.toList != m.toList) = true := by simp [bne, hnm]
        go_upto_region 6 with fail
        go_quiet (fail)
        go_wp2_with fail
        go_roundw
        case rel => exact ⟨k + 1, l', by omega, by go_num, HL.out, hM.next, hown.drewN _, hX.of (below_drewN (Below.refl _ _) _), below_drewN hB _⟩
        case measure => simp [intOf]; omega
      · by_cases hin : (i : Int) + (j : Int) ≤ (y.2.size : Int)
        · have g5 : decide ((i : Int) + (j : Int) ≤ (y.2.size : Int)) = true := by simpa using hin
          have g6 : (0 : Int) ≤ (i : Int) + (j : Int) := by omega
          have g7 : (i : Int) ≤ (y.2.size : Int) := by omega
          have g8 : ((i : Int) + (j : Int)).toNat = i + j := by omega
          have z1 : (y.2.extract 0 i).size = i := by rw [ByteArray.size_extract]; omega
          have z2 : (y.2.extract (i + j) y.2.size).size = y.2.size - (i + j) := by rw [ByteArray.size_extract]; omega
          go_upto_region 6 with fail
          go_quiet (fail)
          go_upto_region 7 with fail
          go_region
          go_wp2_with fail
          go_roundw
          case rel =>
            have ho := own_field srcE_len (w := wr) k 1 y (y.1, y.2.extract 0 i ++ s ++ y.2.extract (i + j) y.2.size) (.string (y.2.extract 0 i ++ s ++ y.2.extract (i + j) y.2.size)) Hy.out (by omega) rfl hbg' Hg.out (by rw [HL.out]; exact hnc') hcap'' hfit Hcs.out
            rw [HL.out] at ho
            have k9 : Kp [g] wr ((wr.drewN (nq + 1)).setCell ⟨g, off + k * 2 + 1, none⟩ (.string (y.2.extract 0 i ++ s ++ y.2.extract (i + j) y.2.size))) := ((Kp.refl _ _).drewN _).set (p := ⟨g, off + k * 2 + 1, none⟩) (by simp) _
            refine ⟨k + 1, l'.set k (y.1, y.2.extract 0 i ++ s ++ y.2.extract (i + j) y.2.size), by omega, by go_num, by simpa using HL.out, hM.set _ (by simp only [ByteArray.size_append]; omega), ho, hX.k1 k9 (by omega), ?_⟩
            exact Below.setCell (p := ⟨g, off + k * 2 + 1, none⟩) (below_drewN hB _) (by show w.heap.size ≤ g; omega) _
          case measure => simp [intOf]; omega
        · have g5 : decide ((i : Int) + (j : Int) ≤ (y.2.size : Int)) = false := by simpa using hin
          go_upto_region 6 with fail
          go_quiet (fail)
          go_wp2_with fail
          go_roundw
          case rel => exact ⟨k + 1, l', by omega, by go_num, HL.out, hM.next, hown.drewN _, hX.of (below_drewN (Below.refl _ _) _), below_drewN hB _⟩
          case measure => simp [intOf]; omega
    · go_wp2_with fail
      go_ret
      exact ⟨_, l', HL.out, fun y hy => by
        obtain ⟨n, hn, e⟩ := List.getElem_of_mem hy
        exact (hM n y (by rw [← e]; exact List.getElem?_eq_getElem hn)).1, rfl, hown.sl srcE_len (by omega), hB⟩
end Go.Proofs.Ytpjpndbagkcgcaa
