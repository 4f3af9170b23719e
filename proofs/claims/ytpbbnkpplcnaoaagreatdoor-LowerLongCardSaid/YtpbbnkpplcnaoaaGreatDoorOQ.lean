/- LowerLong: the statement's walk. -/
import Derived.Test.YtpbbnkpplcnaoaaGreatDoorOP
set_option linter.unusedVariables false
set_option linter.unusedSimpArgs false
namespace Go.Proofs.YtpbbnkpplcnaoaaGreatDoor
open Go.RowKit

def modI (n m : Int) : Int := if m < 1 then 0 else n % m

theorem tmod_neg (n m : Int) (h : 1 ≤ m) (h0 : n.tmod m < 0) : n.tmod m + m = n % m := by
  have h1 : n < 0 := by
    rcases Int.lt_or_le n 0 with h2 | h2
    · exact h2
    · have := Int.tmod_nonneg m h2; omega
  have hnd : ¬ (0 ≤ n ∨ m ∣ n) := by
    rintro (h2 | h2)
    · omega
    · rw [Int.tmod_eq_zero_of_dvd h2] at h0; omega
  rw [Int.tmod_eq_emod, if_neg hnd]; omega
theorem tmod_pos (n m : Int) (h : 1 ≤ m) (h0 : 0 ≤ n.tmod m) : n.tmod m = n % m := by
  have := Int.emod_lt_of_pos n (show 0 < m by omega)
  rw [Int.tmod_eq_emod] at h0 ⊢
  split at h0
  · rename_i h2; rw [if_pos h2]; omega
  · omega
set_option maxHeartbeats 400000 in
theorem mod_any (n m : Int) (w : World) (hn : -9223372036854775808 ≤ n) (hn2 : n ≤ 9223372036854775807) (hm : m ≤ 9223372036854775807) :
    Calls Tryz.prog 4 #[.int .i64 n, .int .i64 m] w fun e w' => e = .returned (.int .i64 (modI n m)) ∧ w = w' := by
  by_cases h : m < 1
  · go_enter Tryz.func4, Tryz.ntmps4
    go_wp2
    go_ret
    simp [modI, h]
  · go_enter Tryz.func4, Tryz.ntmps4
    go_wp2
    · have h0 : n.tmod m < 0 := by assumption
      go_ret
      refine ⟨ret_int ?_, rfl⟩
      have e := tmod_neg n m (by omega) h0
      have := Int.emod_lt_of_pos n (show 0 < m by omega)
      have := Int.emod_nonneg n (show m ≠ 0 by omega)
      rw [modI, if_neg (by omega), ← e]
      exact IntWalk.wrap64_in _ (by omega)
    · have h0 : 0 ≤ n.tmod m := by assumption
      go_ret
      exact ⟨ret_int (by rw [tmod_pos n m (by omega) h0, modI, if_neg (by omega)]), rfl⟩


/-- a chain whose rows lie behind a block -/
def ChG (w : World) (N : Nat) : Nat → Option Addr → Nat → Nat → Prop
  | 0, A, m, d => A = none ∧ m = 0 ∧ d = 0
  | n + 1, A, m, d => ∃ b A' m' d', A = some ⟨b, 0, none⟩ ∧ m = 1 ∧ d = 1 ∧ N < b ∧ b < w.heap.size ∧ TrAt w b 0 (kd n) (tx n) A' m' d' ∧ ChG w N n A' m' d'
theorem ChG.keep {w w' : World} {N : Nat} (hs : w.heap.size ≤ w'.heap.size) (hk : ∀ q : Addr, N < q.block → q.block < w.heap.size → w'.cell? q = w.cell? q) : ∀ {n : Nat} {A : Option Addr} {m d : Nat}, ChG w N n A m d → ChG w' N n A m d
  | 0, _, _, _, h => h
  | n + 1, _, _, _, ⟨b, A', m', d', h1, h2, h3, h4, h5, h6, h7⟩ => ⟨b, A', m', d', h1, h2, h3, h4, Nat.lt_of_lt_of_le h5 hs, h6.keep (fun q hq => hk q (by omega) (by omega)), h7.keep hs hk⟩
theorem ChG.ch {w : World} {N : Nat} : ∀ {n : Nat} {A : Option Addr} {m d : Nat}, ChG w N n A m d → Ch w w.heap.size n A m d
  | 0, _, _, _, h => h
  | n + 1, _, _, _, ⟨b, A', m', d', h1, h2, h3, _, h5, h6, h7⟩ => ⟨b, A', m', d', h1, h2, h3, h5, h5, h6, h7.ch⟩
/-- the tree so far -/
def TreeAt (w W : World) (N : Nat) (k : Nat) : Prop := ∃ A m d, W.heap[N]? = some (.cells (trC (kd k) (tx k) A m d) 25 (0, 0)) ∧ ChG W N k A m d ∧ Kt No w W
theorem tree_step {w wr : World} {k : Nat} {A : Option Addr} {m d : Nat} (hN : wr.heap[w.heap.size]? = some (.cells (trC (kd k) (tx k) A m d) 25 (0, 0))) (hC : ChG wr w.heap.size k A m d) (hK : Kt No w wr) :
    TreeAt w (((((wr.setCell ⟨w.heap.size, 0, none⟩ (.int .i64 27)).setCell ⟨w.heap.size, 1, none⟩ (.string ⟨#[45]⟩)).setCell ⟨w.heap.size, 2, none⟩ (.int .i64 0)).setCell ⟨w.heap.size, 3, none⟩ (.slice (some ⟨wr.heap.size, 0, none⟩) 1 1)).alloc
      (.cells #[.int .i64 (kd k), .string (tx k), .int .i64 0, .slice A m d] 25)) w.heap.size (k + 1) := by
  have hlN : w.heap.size < wr.heap.size := (Array.getElem?_eq_some_iff.1 hN).1
  have hk1 : Kt (fun j => j = w.heap.size) wr ((((wr.setCell ⟨w.heap.size, 0, none⟩ (.int .i64 27)).setCell ⟨w.heap.size, 1, none⟩ (.string ⟨#[45]⟩)).setCell ⟨w.heap.size, 2, none⟩ (.int .i64 0)).setCell ⟨w.heap.size, 3, none⟩ (.slice (some ⟨wr.heap.size, 0, none⟩) 1 1)) :=
    (((Kt.setCell _ ⟨w.heap.size, 0, none⟩ _).trans (Kt.setCell _ ⟨w.heap.size, 1, none⟩ _)).trans (Kt.setCell _ ⟨w.heap.size, 2, none⟩ _)).trans (Kt.setCell _ ⟨w.heap.size, 3, none⟩ _)
  have hs : ((((wr.setCell ⟨w.heap.size, 0, none⟩ (.int .i64 27)).setCell ⟨w.heap.size, 1, none⟩ (.string ⟨#[45]⟩)).setCell ⟨w.heap.size, 2, none⟩ (.int .i64 0)).setCell ⟨w.heap.size, 3, none⟩ (.slice (some ⟨wr.heap.size, 0, none⟩) 1 1)).heap.size = wr.heap.size := by simp [World.setCell]
  have hb : ((((wr.setCell ⟨w.heap.size, 0, none⟩ (.int .i64 27)).setCell ⟨w.heap.size, 1, none⟩ (.string ⟨#[45]⟩)).setCell ⟨w.heap.size, 2, none⟩ (.int .i64 0)).setCell ⟨w.heap.size, 3, none⟩ (.slice (some ⟨wr.heap.size, 0, none⟩) 1 1)).heap[w.heap.size]? = some (.cells (trC 27 ⟨#[45]⟩ (some ⟨wr.heap.size, 0, none⟩) 1 1) 25 (0, 0)) := by
    simp only [World.setCell, Array.getElem?_modify, hN, if_true]; rfl
  generalize (((wr.setCell ⟨w.heap.size, 0, none⟩ (.int .i64 27)).setCell ⟨w.heap.size, 1, none⟩ (.string ⟨#[45]⟩)).setCell ⟨w.heap.size, 2, none⟩ (.int .i64 0)).setCell ⟨w.heap.size, 3, none⟩ (.slice (some ⟨wr.heap.size, 0, none⟩) 1 1) = W at *
  have ha := Kt.alloc W (.cells #[.int .i64 (kd k), .string (tx k), .int .i64 0, .slice A m d] 25)
  have hn := heap_alloc_new W (.cells #[.int .i64 (kd k), .string (tx k), .int .i64 0, .slice A m d] 25)
  rw [hs] at hn
  have hsa : (W.alloc (.cells #[.int .i64 (kd k), .string (tx k), .int .i64 0, .slice A m d] 25)).heap.size = W.heap.size + 1 := by simp
  refine ⟨some ⟨wr.heap.size, 0, none⟩, 1, 1, (ha.block _ (by omega) (fun h => h)).trans hb, ?_, (hK.step hk1 (fun j hj => .inr (by omega))).trans ha⟩
  refine ⟨wr.heap.size, A, m, d, rfl, rfl, rfl, by omega, by omega, trBox (w' := W.alloc _) hn rfl, ?_⟩
  refine (hC.keep (w' := W) (by omega) fun q h1 h2 => hk1.cell h2 (by omega)).keep (by omega) fun q h1 h2 => ha.cell (by omega) (fun h => h)

set_option maxRecDepth 100000 in
set_option maxHeartbeats 16000000 in
theorem long_all (x : Int) (hx : (Lit.int .i64 x).wf = true) (w : World) : Calls Tryz.prog 3 #[.int .i64 x] w (fun e w' => e = .returned (.bool true) ∧ Kt No w w') := by
  have hb : -9223372036854775808 ≤ x ∧ x ≤ 9223372036854775807 := by
    have h : IntKind.i64.min ≤ x ∧ x ≤ 9223372036854775807 := by simpa [Lit.wf] using hx
    exact h
  have hm0 := Int.emod_lt_of_pos x (show 0 < (6 : Int) by omega)
  have hm1 := Int.emod_nonneg x (show (6 : Int) ≠ 0 by omega)
  obtain ⟨j, hj⟩ : ∃ j : Nat, x % 6 = j := ⟨(x % 6).toNat, by omega⟩
  go_enter Tryz.func3, Tryz.ntmps3
  go_wp2_with fail
  refine (mod_any x 6 w hb.1 hb.2 (by omega)).mono ?_
  rintro e w1 ⟨rfl, rfl⟩
  rw [show modI x 6 = (j : Int) by rw [modI, if_neg (by omega)]; exact hj]
  go_wp2_with fail
  go_loopw [5] (fun i wr => ∃ k : Nat, k ≤ 1997 + j ∧ i = .int .i64 k ∧ TreeAt w wr w.heap.size k) (fun i _ => 1997 + j - (intOf i).toNat)
  case atStart => exact ⟨0, by omega, rfl, none, 0, 0, heap_alloc_new w _, ⟨rfl, rfl, rfl⟩, Kt.alloc w _⟩
  case round =>
    obtain ⟨k, hk, rfl, A, m, d, hN, hC, hK⟩ := hrel
    obtain ⟨c0, c1, c2, c3⟩ := trBox (w' := wr) hN rfl
    have hlN : w.heap.size < wr.heap.size := (Array.getElem?_eq_some_iff.1 hN).1
    have f0 : wr.frozen? ⟨w.heap.size, 0, none⟩ = false := by simp [World.frozen?, hN]
    have f1 : wr.frozen? ⟨w.heap.size, 1, none⟩ = false := by simp [World.frozen?, hN]
    have f2 : wr.frozen? ⟨w.heap.size, 2, none⟩ = false := by simp [World.frozen?, hN]
    have f3 : wr.frozen? ⟨w.heap.size, 3, none⟩ = false := by simp [World.frozen?, hN]
    have HN := hid hN
    have HC := hid hC
    have HK := hid hK
    clear hN hC hK
    by_cases hlt : k < 1997 + j
    · have hd : decide ((k : Int) < 1997 + (j : Int)) = true := by rw [decide_eq_true_iff]; omega
      go_wp2_with fail
      go_roundw
      case rel => exact ⟨k + 1, by omega, by go_num, tree_step HN.out HC.out HK.out⟩
      case measure => simp [intOf]; omega
    · obtain rfl : k = 1997 + j := by omega
      have hd : decide (((1997 + j : Nat) : Int) < 1997 + (j : Int)) = false := by rw [decide_eq_false_iff_not]; omega
      go_wp2_with fail
      generalize hW0 : World.alloc (World.alloc (World.alloc (World.alloc (World.alloc (World.alloc wr _) _) _) _) _) _ = W0
      have hk0 : Kt No wr W0 := by subst hW0; exact (((((Kt.alloc _ _).trans (Kt.alloc _ _)).trans (Kt.alloc _ _)).trans (Kt.alloc _ _)).trans (Kt.alloc _ _)).trans (Kt.alloc _ _)
      have hs0 : W0.heap.size = wr.heap.size + 6 := by subst hW0; simp
      have b0 : W0.heap[wr.heap.size]? = some (.cells #[.int .i64 (kd (1997 + j)), .string (tx (1997 + j)), .int .i64 0, .slice A m d] 25 (0, 0)) := by
        subst hW0
        simp only [World.alloc, Array.getElem?_push, Array.size_push]
        rw [if_neg (by omega), if_neg (by omega), if_neg (by omega), if_neg (by omega), if_neg (by omega), if_pos trivial]
      have b1 : W0.heap[wr.heap.size + 1]? = some (.cells #[.int .i64 (kd (1997 + j)), .string (tx (1997 + j)), .int .i64 0, .slice A m d, .int .i64 36, .string ⟨#[]⟩, .int .i64 0, .slice (some ⟨wr.heap.size, 0, none⟩) 1 1, .int .i64 20, .string ⟨#[55]⟩, .int .i64 0, .slice none 0 0] 25 (0, 0)) := by
        subst hW0
        simp only [World.alloc, Array.getElem?_push, Array.size_push]
        rw [if_neg (by omega), if_neg (by omega), if_neg (by omega), if_neg (by omega), if_pos trivial]
      have b3 : W0.heap[wr.heap.size + 1 + 1 + 1]? = some (.cells #[.int .i64 13, .string sx, .int .i64 0, .slice none 0 0, .int .i64 13, .string sy, .int .i64 0, .slice none 0 0] 25 (0, 0)) := by
        subst hW0
        simp only [World.alloc, Array.getElem?_push, Array.size_push]
        rw [if_neg (by omega), if_neg (by omega), if_pos trivial]
      have b4 : W0.heap[wr.heap.size + 1 + 1 + 1 + 1]? = some (.cells #[.int .i64 10, .string ⟨#[]⟩, .int .i64 0, .slice none 0 0, .int .i64 12, .string ⟨#[]⟩, .int .i64 0, .slice (some ⟨wr.heap.size + 1 + 1 + 1, 0, none⟩) 2 2, .int .i64 15, .string ⟨#[]⟩, .int .i64 0, .slice none 0 0, .int .i64 30, .string ⟨#[]⟩, .int .i64 0, .slice (some ⟨wr.heap.size + 1, 0, none⟩) 3 3] 25 (0, 0)) := by
        subst hW0
        simp only [World.alloc, Array.getElem?_push, Array.size_push]
        rw [if_neg (by omega), if_pos trivial]
      have b5 : W0.heap[wr.heap.size + 1 + 1 + 1 + 1 + 1]? = some (.cells (trC 4 ⟨#[]⟩ (some ⟨wr.heap.size + 1 + 1 + 1 + 1, 0, none⟩) 4 4) 25 (0, 0)) := by
        subst hW0
        simp only [World.alloc, Array.getElem?_push, Array.size_push]
        rw [if_pos trivial]
      clear hW0 c0 c1 c2 c3 f0 f1 f2 f3 HN
      have hF : Fun W0 (wr.heap.size + 1 + 1 + 1 + 1) (wr.heap.size + 1 + 1 + 1) (wr.heap.size + 1) wr.heap.size (1997 + j) A m d := by
        refine ⟨by omega, by omega, ⟨?_, ?_, ?_, ?_⟩, ⟨?_, ?_, ?_, ?_⟩, ⟨?_, ?_, ?_, ?_⟩, ⟨?_, ?_, ?_, ?_⟩, ⟨by omega, by omega, by omega, by omega, ⟨?_, ?_, ?_, ?_⟩, ⟨?_, ?_, ?_, ?_⟩, ⟨?_, ?_, ?_, ?_⟩, ⟨?_, ?_, ?_, ?_⟩, (HC.out.ch.no hk0).more hk0.size⟩⟩
        all_goals first
          | (rw [cell_of_row _ _ _ _ _ _ b0]; rfl)
          | (rw [cell_of_row _ _ _ _ _ _ b1]; rfl)
          | (rw [cell_of_row _ _ _ _ _ _ b3]; rfl)
          | (rw [cell_of_row _ _ _ _ _ _ b4]; rfl)
      have HKW := hid (HK.out.trans hk0)
      clear b0 b1 b3 b4 hk0 HC HK
      refine (awake_ok W0).mono ?_
      rintro e w2 ⟨rfl, hK2⟩
      have b6 := (hK2.block (wr.heap.size + 1 + 1 + 1 + 1 + 1) (by omega) (fun h => h)).trans b5
      obtain ⟨c0, c1, c2, c3⟩ := trBox (w' := w2) b6 rfl
      have hF2 := hid (hF.no hK2)
      have HK2 := hid (HKW.out.trans hK2)
      clear hF hK2 b5 b6 HKW
      go_wp2_with fail
      refine (agree_long w2 _ _ _ _ _ A m d (by omega) hF2.out).mono ?_
      rintro e w3 ⟨rfl, hK3⟩
      have HK3 := hid (HK2.out.trans hK3)
      clear hK3 hF2 HK2 c0 c1 c2 c3
      go_wp2
      go_returns
      exact ⟨rfl, HK3.out⟩
end Go.Proofs.YtpbbnkpplcnaoaaGreatDoor
