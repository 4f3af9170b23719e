/- LowerLong: lower.Body. -/
import Derived.Test.YtpbbnkpplcnaoaaGreatDoorOC
import Derived.StringKeys
import Derived.Laws.EntriesVeiled
import Derived.StillTailTactics
import Derived.BigRegion
set_option linter.unusedVariables false
set_option linter.unusedSimpArgs false
namespace Go.Proofs.YtpbbnkpplcnaoaaGreatDoor
open Go.RowKit

/-- what Body returns: the code, or that of what is too large -/
def OutB (P : Int) (M : List Op4) (r nx2 : Int) (w : World) (e : Ending) (w' : World) : Prop :=
  ∃ v', Kt No w w' ∧ ((M.length + 1 ≤ 4000 ∧ e = .returned (.agg #[.int .i64 P, .int .i64 (max nx2 1), v']) ∧ Own w' w.heap.size 35 6 v' ((M ++ [(⟨18, 0, r, 0⟩ : Op4)]).flatMap opE)) ∨
    (4000 < M.length + 1 ∧ e = .returned (.agg #[.int .i64 P, .int .i64 (max P 1), v']) ∧ Own w' w.heap.size 35 6 v' (([⟨19, 0, 0, 0⟩, ⟨18, 0, 0, 0⟩] : List Op4).flatMap opE)))
theorem sxk : keyOf Tryz.prog 9 (.string sx) = some (.string sx.data.toList) := WideMaps.keyOf_string_mk Tryz.underlying9 (by decide)
theorem syk : keyOf Tryz.prog 9 (.string sy) = some (.string sy.data.toList) := WideMaps.keyOf_string_mk Tryz.underlying9 (by decide)
def Rdum : Value → Option (DataW Unit × List MemPlace) := fun _ => some (.nil, [])

set_option maxRecDepth 100000 in
set_option maxHeartbeats 16000000 in
theorem body_two (w : World) (bt ba : Nat) (hl : bt < w.heap.size) (hl2 : ba < w.heap.size) (h1 : TrAt w bt (1 * 4) 12 ⟨#[]⟩ (some ⟨ba, 0, none⟩) 2 2) (h2 : TrAt w ba 0 13 sx none 0 0) (h3 : TrAt w ba 4 13 sy none 0 0)
    (k : Int) (s : ByteArray) (A : Option Addr) (m d : Nat) (h4 : TrAt w bt (3 * 4) k s A m d) (M : List Op4) (r nx2 : Int)
    (HV : ∀ w1 p lo tg v, Kt No w w1 → w.heap.size ≤ p → Wr w1 w.heap.size p lo tg v [] 2 → Calls Tryz.prog 40 #[.pointer (some ⟨p, 0, none⟩), trV k s A m d] w1 (OutV w.heap.size p lo tg v M r nx2 w1)) :
    Calls Tryz.prog 7 #[trV 4 ⟨#[]⟩ (some ⟨bt, 0, none⟩) 4 4, .slice none 0 0, .slice none 0 0, .slice none 0 0] w (OutB 2 M r nx2 w) := by
  have hmf : ∀ (fn : Fn) (first cap : Array Value) (w : World), (Instr.makeFunc fn first cap).run Tryz.prog w = .ok (.func fn first cap) w := fun _ _ _ _ => rfl
  have hmm := @run_makeMap Tryz.prog
  go_enter Tryz.func7, Tryz.ntmps7
  go_wp2_with fail
  generalize hW0 : World.alloc (World.alloc (World.alloc (World.alloc (World.alloc w _) _) _) _) _ = W0
  have hk0 : Kt No w W0 := by subst hW0; exact ((((Kt.alloc _ _).trans (Kt.alloc _ _)).trans (Kt.alloc _ _)).trans (Kt.alloc _ _)).trans (Kt.alloc _ _)
  have hs0 : W0.heap.size = w.heap.size + 5 := by subst hW0; simp
  have hb0 : W0.heap[w.heap.size]? = some (.cells (trC 4 ⟨#[]⟩ (some ⟨bt, 0, none⟩) 4 4) 25 (0, 0)) := by
    subst hW0
    simp only [World.alloc, Array.getElem?_push, Array.size_push]
    rw [if_neg (by omega), if_neg (by omega), if_neg (by omega), if_neg (by omega), if_pos trivial]
  have hb4 : W0.heap[w.heap.size + 1 + 1 + 1 + 1]? = some (.cells #[.int .i64 0, .int .i64 0, .slice none 0 0] 31 (0, 0)) := by
    subst hW0
    simp only [World.alloc, Array.getElem?_push, Array.size_push]
    rw [if_pos trivial]
  clear hW0
  refine (pars_two W0 bt ba (by omega) (by omega) (h1.keep fun q hq => hk0.cell (by omega) (fun h => h)) (h2.keep fun q hq => hk0.cell (by omega) (fun h => h)) (h3.keep fun q hq => hk0.cell (by omega) (fun h => h))).mono ?_
  rintro e w1 ⟨ob, oo, oc, rfl, hol, hoB, o0, o1, hK1⟩
  have hk1 := hk0.trans hK1
  have hs1 := hK1.size
  have hb1 := (hK1.block w.heap.size (by omega) (fun h => h)).trans hb0
  have hb5 := (hK1.block (w.heap.size + 1 + 1 + 1 + 1) (by omega) (fun h => h)).trans hb4
  have H1 := hid h1
  have H4 := hid h4
  have HVi := hid HV
  clear hb0 hb4 hk0 hK1 h1 h2 h3 h4 HV
  go_wp2_with fail
  refine wp_loop_rounds 3 ?_
  rw [rounds_succ]
  have hmade := ((World.ownsMap_made w1 Tryz.prog 9 Rdum).alloc (.cells #[.slice none 0 0, .int .i64 2, .map (some w1.heap.size), .nilFunc] 47))
  go_wp2_with (at_mapUpdate; refine wpList_mapUpdate_own _ rfl _ _ _ 44 rfl 9 3 (Maps.string_keyed Tryz.underlying9) Tryz.underlying44 Rdum w1.heap.size 0 (.map []) rfl hmade (by unfold maxLen; omega) _ _ _ rfl rfl sxk .nil [] rfl ?_; intro w2 hm2 hg2)
  clear hmade
  have hp0 : ((w1.alloc (.map #[] 0)).alloc (.cells #[.slice none 0 0, .int .i64 2, .map (some w1.heap.size), .nilFunc] 47)).heap[w1.heap.size + 1]? = some (.cells #[.slice none 0 0, .int .i64 2, .map (some w1.heap.size), .nilFunc] 47 (0, 0)) := heap_alloc2_new _ _ _
  have hs2 : w1.heap.size + 2 ≤ w2.heap.size := by have := hg2.size; simp at this; omega
  have hk2 : Kt (fun k => k = w1.heap.size) (((w1.alloc (.map #[] 0)).alloc (.cells #[.slice none 0 0, .int .i64 2, .map (some w1.heap.size), .nilFunc] 47))) w2 := (Kt.grown hg2).mono fun k hk => by injection hk with hk; exact hk.symm
  have hk12 : Kt No w1 w2 := (((Kt.alloc _ _).trans (Kt.alloc _ _)) : Kt No w1 ((w1.alloc (.map #[] 0)).alloc (.cells #[.slice none 0 0, .int .i64 2, .map (some w1.heap.size), .nilFunc] 47))).step hk2 (fun k hk => .inr (by omega))
  have hp2 : w2.heap[w1.heap.size + 1]? = some (.cells #[.slice none 0 0, .int .i64 2, .map (some w1.heap.size), .nilFunc] 47 (0, 0)) := (hk2.block (w1.heap.size + 1) (by simp) (by omega)).trans hp0
  replace o1 := (hk12.cell (p := ⟨ob, oo + 1, none⟩) hol (fun h => h)).trans o1
  have p0 : w2.cell? ⟨w1.heap.size + 1, 2, none⟩ = some (.map (some w1.heap.size)) := by rw [cell_of_row _ _ _ _ _ _ hp2]; rfl
  have hlt2 : w1.heap.size + 1 < w2.heap.size := by omega
  have hk02 := hid (hk1.trans hk12)
  have Hp2 := hid hp2
  have hb1 := hid ((hk12.block w.heap.size (by omega) (fun h => h)).trans hb1)
  have hb5 := hid ((hk12.block (w.heap.size + 1 + 1 + 1 + 1) (by omega) (fun h => h)).trans hb5)
  clear hp0 hg2 hk2 hk12 hp2 o0 hk1
  rw [rounds_succ]
  go_wp2_with (at_mapUpdate; refine wpList_mapUpdate_own _ rfl _ _ _ 44 rfl 9 3 (Maps.string_keyed Tryz.underlying9) Tryz.underlying44 Rdum w1.heap.size (0 + 1) _ rfl hm2 (by unfold maxLen; omega) _ _ _ rfl rfl syk .nil [] rfl ?_; intro w3 hm3 hg3)
  have hk3 : Kt (fun k => k = w1.heap.size) w2 w3 := (Kt.grown hg3).mono fun k hk => by injection hk with hk; exact hk.symm
  have hp3 : w3.heap[w1.heap.size + 1]? = some (.cells #[.slice none 0 0, .int .i64 2, .map (some w1.heap.size), .nilFunc] 47 (0, 0)) := (hk3.block (w1.heap.size + 1) (by omega) (by omega)).trans Hp2.out
  have hs3 := hk3.size
  have hb3 := (hk3.block w.heap.size (by omega) (by omega)).trans hb1.out
  have hc3 := hid ((hk3.block (w.heap.size + 1 + 1 + 1 + 1) (by omega) (by omega)).trans hb5.out)
  obtain ⟨c0, c1, c2, c3⟩ := trBox (w' := w3) hb3 rfl
  have p3 : w3.cell? ⟨w1.heap.size + 1, 3, none⟩ = some .nilFunc := by rw [cell_of_row _ _ _ _ _ _ hp3]; rfl
  have f3 : w3.frozen? ⟨w1.heap.size + 1, 3, none⟩ = false := by simp [World.frozen?, hp3]
  have hk03 := hid (hk02.out.step hk3 (fun k hk => .inr (by omega)))
  have Hp3 := hid hp3
  have hlt3 : w1.heap.size + 1 < w3.heap.size := by omega
  have hlt4 : w.heap.size < w3.heap.size := by omega
  clear hk3 hg3 hp3 hb3 hb1 hb5 hk02 Hp2 hm2 p0 o1
  rw [rounds_succ]
  go_wp2_with fail
  have hk4 := Kt.setCell w3 ⟨w1.heap.size + 1, 3, none⟩ (.func (.func 14) #[] #[.pointer (some ⟨w.heap.size + 1, 0, none⟩), .pointer (some ⟨w.heap.size + 1 + 1, 0, none⟩), .pointer (some ⟨w.heap.size + 1 + 1 + 1, 0, none⟩)])
  have hp4 : (w3.setCell ⟨w1.heap.size + 1, 3, none⟩ (.func (.func 14) #[] #[.pointer (some ⟨w.heap.size + 1, 0, none⟩), .pointer (some ⟨w.heap.size + 1 + 1, 0, none⟩), .pointer (some ⟨w.heap.size + 1 + 1 + 1, 0, none⟩)])).heap[w1.heap.size + 1]? = some (.cells #[.slice none 0 0, .int .i64 2, .map (some w1.heap.size), .func (.func 14) #[] #[.pointer (some ⟨w.heap.size + 1, 0, none⟩), .pointer (some ⟨w.heap.size + 1 + 1, 0, none⟩), .pointer (some ⟨w.heap.size + 1 + 1 + 1, 0, none⟩)]] 47 (0, 0)) := by
    simp only [World.setCell, Array.getElem?_modify, Hp3.out, if_true]; rfl
  have hs4 := hk4.size
  have hc4 := (hk4.block (w.heap.size + 1 + 1 + 1 + 1) (by omega) (by show w.heap.size + 1 + 1 + 1 + 1 ≠ w1.heap.size + 1; omega)).trans hc3.out
  have hk04 := hk03.out.step hk4 (fun k hk => .inr (by have hk : k = w1.heap.size + 1 := hk; omega))
  generalize hW4 : w3.setCell ⟨w1.heap.size + 1, 3, none⟩ _ = w4 at *
  clear hk4 Hp3 hc3 hk03 c0 c1 c2 c3 p3 f3 hW4
  refine (body_ok w4 bt (by omega) k s A m d (H4.out.keep fun q hq => hk04.cell (by omega) (fun h => h))).mono ?_
  rintro e w5 ⟨rfl, hK5⟩
  have hp5 := (hK5.block (w1.heap.size + 1) (by omega) (fun h => h)).trans hp4
  have hc5 := (hK5.block (w.heap.size + 1 + 1 + 1 + 1) (by omega) (fun h => h)).trans hc4
  have hk05 := hk04.trans hK5
  have hs5 := hK5.size
  clear hK5 hp4 hc4 hk04
  have ha5 := Kt.alloc w5 (.cells (trC k s A m d) 25)
  have hp6 := (ha5.block (w1.heap.size + 1) (by omega) (fun h => h)).trans hp5
  have hc6 := (ha5.block (w.heap.size + 1 + 1 + 1 + 1) (by omega) (fun h => h)).trans hc5
  have hk06 := hk05.trans ha5
  have hs6 := ha5.size
  have hW6 : Wr (w5.alloc (.cells (trC k s A m d) 25)) w.heap.size (w1.heap.size + 1) _ _ (.slice none 0 0) [] 2 := ⟨hp6, by omega, Own.nil_ _ _ _ _⟩
  have hcode := code_any _ w.heap.size (w1.heap.size + 1) _ _ _ [] M 2 r nx2 k s A m d hW6 (fun w7 hk7 => HVi.out w7 _ _ _ _ (hk06.trans hk7) (by omega) (hW6.keep hk7))
  have hp6l := (Array.getElem?_eq_some_iff.1 hp6).1
  have hc6l := (Array.getElem?_eq_some_iff.1 hc6).1
  clear hp5 hc5 hk05 ha5 hW6 hp6
  have Hc6 := hid hc6
  clear hc6
  go_wp2_with fail
  refine hcode.mono ?_
  rintro e w8 (⟨hM, rfl, v8, hW8, hF8⟩ | ⟨hM, rfl, hK8⟩)
  · have hc8 := (hF8.1.block _ hc6l (fun e => by rcases e with e | e; omega; simp [Value.ownBlock] at e)).trans Hc6.out
    have hk08 := hid (hk06.step hF8.1 (fun j hj => by rcases hj with rfl | hj; exact .inr (by omega); simp [Value.ownBlock] at hj))
    obtain ⟨A8, n8, cp8, hv8, _⟩ := hW8.2.2.form (by decide)
    have q0 : w8.cell? ⟨w1.heap.size + 1, 0, none⟩ = some (.slice A8 n8 cp8) := by rw [cell_of_row _ _ _ _ _ _ hW8.1, hv8]; rfl
    have q1 : w8.cell? ⟨w1.heap.size + 1, 1, none⟩ = some (.int .i64 nx2) := by rw [cell_of_row _ _ _ _ _ _ hW8.1]; rfl
    have r0 : w8.cell? ⟨w.heap.size + 1 + 1 + 1 + 1, 0, none⟩ = some (.int .i64 0) := by rw [cell_of_row _ _ _ _ _ _ hc8]; rfl
    have r1 : w8.cell? ⟨w.heap.size + 1 + 1 + 1 + 1, 1, none⟩ = some (.int .i64 0) := by rw [cell_of_row _ _ _ _ _ _ hc8]; rfl
    have r2 : w8.cell? ⟨w.heap.size + 1 + 1 + 1 + 1, 2, none⟩ = some (.slice none 0 0) := by rw [cell_of_row _ _ _ _ _ _ hc8]; rfl
    have g0 : w8.frozen? ⟨w.heap.size + 1 + 1 + 1 + 1, 0, none⟩ = false := by simp [World.frozen?, hc8]
    have g1 : w8.frozen? ⟨w.heap.size + 1 + 1 + 1 + 1, 1, none⟩ = false := by simp [World.frozen?, hc8]
    have g2 : w8.frozen? ⟨w.heap.size + 1 + 1 + 1 + 1, 2, none⟩ = false := by simp [World.frozen?, hc8]
    have HW8 := hid hW8
    have Hc8 := hid hc8
    clear hW8 hF8 Hc6 hk06 hc8 HVi hcode
    go_wp2_with fail
    go_still_tail 12, (by kernel_rfl)
    change wpList _ _ _ _ _ w8.drew
    go_wp2
    refine bodyPost_ret (v := .agg #[.int .i64 2, .int .i64 (max nx2 1), .slice A8 n8 cp8]) (by simp [results, Tryz.results7, go_sem, r0, r1, r2]) rfl ?_
    have hne := own_no HW8.out.2.2 Hc8.out (by decide)
    have hkk : Kt (fun k => k = w.heap.size + 1 + 1 + 1 + 1) w8 (((w8.setCell ⟨w.heap.size + 1 + 1 + 1 + 1, 0, none⟩ (.int .i64 2)).setCell ⟨w.heap.size + 1 + 1 + 1 + 1, 1, none⟩ (.int .i64 (max nx2 1))).setCell ⟨w.heap.size + 1 + 1 + 1 + 1, 2, none⟩ (.slice A8 n8 cp8)).drew :=
      (((Kt.setCell _ ⟨w.heap.size + 1 + 1 + 1 + 1, 0, none⟩ _).trans (Kt.setCell _ ⟨w.heap.size + 1 + 1 + 1 + 1, 1, none⟩ _)).trans (Kt.setCell _ ⟨w.heap.size + 1 + 1 + 1 + 1, 2, none⟩ _)).trans (Kt.drew _).no
    refine ⟨v8, hk08.out.step hkk (fun k hk => .inr (by omega)), .inl ⟨hM, by rw [hv8], HW8.out.2.2.kept hkk.grownBy_ (.inr hne)⟩⟩
  · have hc8 := (hK8.block _ hc6l (fun e => by rcases e with e | e; omega; simp [Value.ownBlock] at e)).trans Hc6.out
    have hk08 := hid (hk06.step hK8 (fun j hj => by rcases hj with rfl | hj; exact .inr (by omega); simp [Value.ownBlock] at hj))
    have r0 : w8.cell? ⟨w.heap.size + 1 + 1 + 1 + 1, 0, none⟩ = some (.int .i64 0) := by rw [cell_of_row _ _ _ _ _ _ hc8]; rfl
    have r1 : w8.cell? ⟨w.heap.size + 1 + 1 + 1 + 1, 1, none⟩ = some (.int .i64 0) := by rw [cell_of_row _ _ _ _ _ _ hc8]; rfl
    have r2 : w8.cell? ⟨w.heap.size + 1 + 1 + 1 + 1, 2, none⟩ = some (.slice none 0 0) := by rw [cell_of_row _ _ _ _ _ _ hc8]; rfl
    have g0 : w8.frozen? ⟨w.heap.size + 1 + 1 + 1 + 1, 0, none⟩ = false := by simp [World.frozen?, hc8]
    have g1 : w8.frozen? ⟨w.heap.size + 1 + 1 + 1 + 1, 1, none⟩ = false := by simp [World.frozen?, hc8]
    have g2 : w8.frozen? ⟨w.heap.size + 1 + 1 + 1 + 1, 2, none⟩ = false := by simp [World.frozen?, hc8]
    have hlt8 : w.heap.size + 1 + 1 + 1 + 1 < w8.heap.size := (Array.getElem?_eq_some_iff.1 hc8).1
    clear hK8 Hc6 hk06 hc8 HVi hcode
    go_wp2
    refine bodyPost_ret (v := .agg #[.int .i64 2, .int .i64 (max 2 1), .slice (some ⟨w8.heap.size, 0, none⟩) 2 2]) (by simp [results, Tryz.results7, go_sem, r0, r1, r2, hlt8]) rfl ?_
    have hkk : Kt (fun k => k = w.heap.size + 1 + 1 + 1 + 1) w8 (((w8.setCell ⟨w.heap.size + 1 + 1 + 1 + 1, 0, none⟩ (.int .i64 2)).setCell ⟨w.heap.size + 1 + 1 + 1 + 1, 1, none⟩ (.int .i64 (max 2 1))).setCell ⟨w.heap.size + 1 + 1 + 1 + 1, 2, none⟩ (.slice (some ⟨w8.heap.size, 0, none⟩) 2 2)) :=
      ((Kt.setCell _ ⟨w.heap.size + 1 + 1 + 1 + 1, 0, none⟩ _).trans (Kt.setCell _ ⟨w.heap.size + 1 + 1 + 1 + 1, 1, none⟩ _)).trans (Kt.setCell _ ⟨w.heap.size + 1 + 1 + 1 + 1, 2, none⟩ _)
    have hsz : (((w8.setCell ⟨w.heap.size + 1 + 1 + 1 + 1, 0, none⟩ (.int .i64 2)).setCell ⟨w.heap.size + 1 + 1 + 1 + 1, 1, none⟩ (.int .i64 (max 2 1))).setCell ⟨w.heap.size + 1 + 1 + 1 + 1, 2, none⟩ (.slice (some ⟨w8.heap.size, 0, none⟩) 2 2)).heap.size = w8.heap.size := by simp [World.setCell]
    have hown := Own.lit (((w8.setCell ⟨w.heap.size + 1 + 1 + 1 + 1, 0, none⟩ (.int .i64 2)).setCell ⟨w.heap.size + 1 + 1 + 1 + 1, 1, none⟩ (.int .i64 (max 2 1))).setCell ⟨w.heap.size + 1 + 1 + 1 + 1, 2, none⟩ (.slice (some ⟨w8.heap.size, 0, none⟩) 2 2)) w.heap.size 35 6 #[.int .i64 19, .int .i64 0, .int .i64 0, .int .i64 0, .slice none 0 0, .string (ByteArray.mk #[]), .int .i64 18, .int .i64 0, .int .i64 0, .int .i64 0, .slice none 0 0, .string (ByteArray.mk #[])] 2 (by rw [hsz]; omega) rfl (by unfold maxLen; omega)
    rw [hsz] at hown
    exact ⟨_, (hk08.out.step hkk (fun k hk => .inr (by omega))).trans (Kt.alloc _ _), .inr ⟨hM, rfl, hown⟩⟩
set_option maxRecDepth 100000 in
set_option maxHeartbeats 16000000 in
theorem body_none (w : World) (bt : Nat) (hl : bt < w.heap.size) (h1 : TrAt w bt (1 * 4) 12 ⟨#[]⟩ none 0 0)
    (k : Int) (s : ByteArray) (A : Option Addr) (m d : Nat) (h4 : TrAt w bt (3 * 4) k s A m d) (M : List Op4) (r nx2 : Int)
    (HV : ∀ w1 p lo tg v, Kt No w w1 → w.heap.size ≤ p → Wr w1 w.heap.size p lo tg v [] 0 → Calls Tryz.prog 40 #[.pointer (some ⟨p, 0, none⟩), trV k s A m d] w1 (OutV w.heap.size p lo tg v M r nx2 w1)) :
    Calls Tryz.prog 7 #[trV 4 ⟨#[]⟩ (some ⟨bt, 0, none⟩) 4 4, .slice none 0 0, .slice none 0 0, .slice none 0 0] w (OutB 0 M r nx2 w) := by
  have hmf : ∀ (fn : Fn) (first cap : Array Value) (w : World), (Instr.makeFunc fn first cap).run Tryz.prog w = .ok (.func fn first cap) w := fun _ _ _ _ => rfl
  have hmm := @run_makeMap Tryz.prog
  go_enter Tryz.func7, Tryz.ntmps7
  go_wp2_with fail
  generalize hW0 : World.alloc (World.alloc (World.alloc (World.alloc (World.alloc w _) _) _) _) _ = W0
  have hk0 : Kt No w W0 := by subst hW0; exact ((((Kt.alloc _ _).trans (Kt.alloc _ _)).trans (Kt.alloc _ _)).trans (Kt.alloc _ _)).trans (Kt.alloc _ _)
  have hs0 : W0.heap.size = w.heap.size + 5 := by subst hW0; simp
  have hb0 : W0.heap[w.heap.size]? = some (.cells (trC 4 ⟨#[]⟩ (some ⟨bt, 0, none⟩) 4 4) 25 (0, 0)) := by
    subst hW0
    simp only [World.alloc, Array.getElem?_push, Array.size_push]
    rw [if_neg (by omega), if_neg (by omega), if_neg (by omega), if_neg (by omega), if_pos trivial]
  have hb4 : W0.heap[w.heap.size + 1 + 1 + 1 + 1]? = some (.cells #[.int .i64 0, .int .i64 0, .slice none 0 0] 31 (0, 0)) := by
    subst hW0
    simp only [World.alloc, Array.getElem?_push, Array.size_push]
    rw [if_pos trivial]
  clear hW0
  refine (pars_none W0 bt (by omega) (h1.keep fun q hq => hk0.cell (by omega) (fun h => h))).mono ?_
  rintro e w1 ⟨rfl, hK1⟩
  have hk1 := hk0.trans hK1
  have hs1 := hK1.size
  have hb1 := (hK1.block w.heap.size (by omega) (fun h => h)).trans hb0
  have hb5 := (hK1.block (w.heap.size + 1 + 1 + 1 + 1) (by omega) (fun h => h)).trans hb4
  have H1 := hid h1
  have H4 := hid h4
  have HVi := hid HV
  clear hb0 hb4 hk0 hK1 h1 h4 HV
  go_wp2_with fail
  refine wp_loop_rounds 1 ?_
  have hp0 : ((w1.alloc (.map #[] 0)).alloc (.cells #[.slice none 0 0, .int .i64 0, .map (some w1.heap.size), .nilFunc] 47)).heap[w1.heap.size + 1]? = some (.cells #[.slice none 0 0, .int .i64 0, .map (some w1.heap.size), .nilFunc] 47 (0, 0)) := heap_alloc2_new _ _ _
  have hk13 : Kt No w1 ((w1.alloc (.map #[] 0)).alloc (.cells #[.slice none 0 0, .int .i64 0, .map (some w1.heap.size), .nilFunc] 47)) := (Kt.alloc _ _).trans (Kt.alloc _ _)
  have hs3 : ((w1.alloc (.map #[] 0)).alloc (.cells #[.slice none 0 0, .int .i64 0, .map (some w1.heap.size), .nilFunc] 47)).heap.size = w1.heap.size + 2 := by simp
  generalize hW3 : World.alloc (World.alloc w1 _) _ = w3 at *
  have hb3 := (hk13.block w.heap.size (by omega) (fun h => h)).trans hb1
  have hc3 := hid ((hk13.block (w.heap.size + 1 + 1 + 1 + 1) (by omega) (fun h => h)).trans hb5)
  obtain ⟨c0, c1, c2, c3⟩ := trBox (w' := w3) hb3 rfl
  have p3 : w3.cell? ⟨w1.heap.size + 1, 3, none⟩ = some .nilFunc := by rw [cell_of_row _ _ _ _ _ _ hp0]; rfl
  have f3 : w3.frozen? ⟨w1.heap.size + 1, 3, none⟩ = false := by simp [World.frozen?, hp0]
  have hk03 := hid (hk1.trans hk13)
  have Hp3 := hid hp0
  have hlt3 : w1.heap.size + 1 < w3.heap.size := by omega
  have hlt4 : w.heap.size < w3.heap.size := by omega
  clear hk13 hp0 hb3 hb1 hb5 hk1 hW3
  rw [rounds_succ]
  go_wp2_with fail
  have hk4 := Kt.setCell w3 ⟨w1.heap.size + 1, 3, none⟩ (.func (.func 14) #[] #[.pointer (some ⟨w.heap.size + 1, 0, none⟩), .pointer (some ⟨w.heap.size + 1 + 1, 0, none⟩), .pointer (some ⟨w.heap.size + 1 + 1 + 1, 0, none⟩)])
  have hp4 : (w3.setCell ⟨w1.heap.size + 1, 3, none⟩ (.func (.func 14) #[] #[.pointer (some ⟨w.heap.size + 1, 0, none⟩), .pointer (some ⟨w.heap.size + 1 + 1, 0, none⟩), .pointer (some ⟨w.heap.size + 1 + 1 + 1, 0, none⟩)])).heap[w1.heap.size + 1]? = some (.cells #[.slice none 0 0, .int .i64 0, .map (some w1.heap.size), .func (.func 14) #[] #[.pointer (some ⟨w.heap.size + 1, 0, none⟩), .pointer (some ⟨w.heap.size + 1 + 1, 0, none⟩), .pointer (some ⟨w.heap.size + 1 + 1 + 1, 0, none⟩)]] 47 (0, 0)) := by
    simp only [World.setCell, Array.getElem?_modify, Hp3.out, if_true]; rfl
  have hs4 := hk4.size
  have hc4 := (hk4.block (w.heap.size + 1 + 1 + 1 + 1) (by omega) (by show w.heap.size + 1 + 1 + 1 + 1 ≠ w1.heap.size + 1; omega)).trans hc3.out
  have hk04 := hk03.out.step hk4 (fun k hk => .inr (by have hk : k = w1.heap.size + 1 := hk; omega))
  generalize hW4 : w3.setCell ⟨w1.heap.size + 1, 3, none⟩ _ = w4 at *
  clear hk4 Hp3 hc3 hk03 c0 c1 c2 c3 p3 f3 hW4
  refine (body_ok w4 bt (by omega) k s A m d (H4.out.keep fun q hq => hk04.cell (by omega) (fun h => h))).mono ?_
  rintro e w5 ⟨rfl, hK5⟩
  have hp5 := (hK5.block (w1.heap.size + 1) (by omega) (fun h => h)).trans hp4
  have hc5 := (hK5.block (w.heap.size + 1 + 1 + 1 + 1) (by omega) (fun h => h)).trans hc4
  have hk05 := hk04.trans hK5
  have hs5 := hK5.size
  clear hK5 hp4 hc4 hk04
  have ha5 := Kt.alloc w5 (.cells (trC k s A m d) 25)
  have hp6 := (ha5.block (w1.heap.size + 1) (by omega) (fun h => h)).trans hp5
  have hc6 := (ha5.block (w.heap.size + 1 + 1 + 1 + 1) (by omega) (fun h => h)).trans hc5
  have hk06 := hk05.trans ha5
  have hs6 := ha5.size
  have hW6 : Wr (w5.alloc (.cells (trC k s A m d) 25)) w.heap.size (w1.heap.size + 1) _ _ (.slice none 0 0) [] 0 := ⟨hp6, by omega, Own.nil_ _ _ _ _⟩
  have hcode := code_any _ w.heap.size (w1.heap.size + 1) _ _ _ [] M 0 r nx2 k s A m d hW6 (fun w7 hk7 => HVi.out w7 _ _ _ _ (hk06.trans hk7) (by omega) (hW6.keep hk7))
  have hp6l := (Array.getElem?_eq_some_iff.1 hp6).1
  have hc6l := (Array.getElem?_eq_some_iff.1 hc6).1
  clear hp5 hc5 hk05 ha5 hW6 hp6
  have Hc6 := hid hc6
  clear hc6
  go_wp2_with fail
  refine hcode.mono ?_
  rintro e w8 (⟨hM, rfl, v8, hW8, hF8⟩ | ⟨hM, rfl, hK8⟩)
  · have hc8 := (hF8.1.block _ hc6l (fun e => by rcases e with e | e; omega; simp [Value.ownBlock] at e)).trans Hc6.out
    have hk08 := hid (hk06.step hF8.1 (fun j hj => by rcases hj with rfl | hj; exact .inr (by omega); simp [Value.ownBlock] at hj))
    obtain ⟨A8, n8, cp8, hv8, _⟩ := hW8.2.2.form (by decide)
    have q0 : w8.cell? ⟨w1.heap.size + 1, 0, none⟩ = some (.slice A8 n8 cp8) := by rw [cell_of_row _ _ _ _ _ _ hW8.1, hv8]; rfl
    have q1 : w8.cell? ⟨w1.heap.size + 1, 1, none⟩ = some (.int .i64 nx2) := by rw [cell_of_row _ _ _ _ _ _ hW8.1]; rfl
    have r0 : w8.cell? ⟨w.heap.size + 1 + 1 + 1 + 1, 0, none⟩ = some (.int .i64 0) := by rw [cell_of_row _ _ _ _ _ _ hc8]; rfl
    have r1 : w8.cell? ⟨w.heap.size + 1 + 1 + 1 + 1, 1, none⟩ = some (.int .i64 0) := by rw [cell_of_row _ _ _ _ _ _ hc8]; rfl
    have r2 : w8.cell? ⟨w.heap.size + 1 + 1 + 1 + 1, 2, none⟩ = some (.slice none 0 0) := by rw [cell_of_row _ _ _ _ _ _ hc8]; rfl
    have g0 : w8.frozen? ⟨w.heap.size + 1 + 1 + 1 + 1, 0, none⟩ = false := by simp [World.frozen?, hc8]
    have g1 : w8.frozen? ⟨w.heap.size + 1 + 1 + 1 + 1, 1, none⟩ = false := by simp [World.frozen?, hc8]
    have g2 : w8.frozen? ⟨w.heap.size + 1 + 1 + 1 + 1, 2, none⟩ = false := by simp [World.frozen?, hc8]
    have HW8 := hid hW8
    have Hc8 := hid hc8
    clear hW8 hF8 Hc6 hk06 hc8 HVi hcode
    go_wp2_with fail
    go_still_tail 12, (by kernel_rfl)
    change wpList _ _ _ _ _ w8.drew
    go_wp2
    refine bodyPost_ret (v := .agg #[.int .i64 0, .int .i64 (max nx2 1), .slice A8 n8 cp8]) (by simp [results, Tryz.results7, go_sem, r0, r1, r2]) rfl ?_
    have hne := own_no HW8.out.2.2 Hc8.out (by decide)
    have hkk : Kt (fun k => k = w.heap.size + 1 + 1 + 1 + 1) w8 (((w8.setCell ⟨w.heap.size + 1 + 1 + 1 + 1, 0, none⟩ (.int .i64 0)).setCell ⟨w.heap.size + 1 + 1 + 1 + 1, 1, none⟩ (.int .i64 (max nx2 1))).setCell ⟨w.heap.size + 1 + 1 + 1 + 1, 2, none⟩ (.slice A8 n8 cp8)).drew :=
      (((Kt.setCell _ ⟨w.heap.size + 1 + 1 + 1 + 1, 0, none⟩ _).trans (Kt.setCell _ ⟨w.heap.size + 1 + 1 + 1 + 1, 1, none⟩ _)).trans (Kt.setCell _ ⟨w.heap.size + 1 + 1 + 1 + 1, 2, none⟩ _)).trans (Kt.drew _).no
    refine ⟨v8, hk08.out.step hkk (fun k hk => .inr (by omega)), .inl ⟨hM, by rw [hv8], HW8.out.2.2.kept hkk.grownBy_ (.inr hne)⟩⟩
  · have hc8 := (hK8.block _ hc6l (fun e => by rcases e with e | e; omega; simp [Value.ownBlock] at e)).trans Hc6.out
    have hk08 := hid (hk06.step hK8 (fun j hj => by rcases hj with rfl | hj; exact .inr (by omega); simp [Value.ownBlock] at hj))
    have r0 : w8.cell? ⟨w.heap.size + 1 + 1 + 1 + 1, 0, none⟩ = some (.int .i64 0) := by rw [cell_of_row _ _ _ _ _ _ hc8]; rfl
    have r1 : w8.cell? ⟨w.heap.size + 1 + 1 + 1 + 1, 1, none⟩ = some (.int .i64 0) := by rw [cell_of_row _ _ _ _ _ _ hc8]; rfl
    have r2 : w8.cell? ⟨w.heap.size + 1 + 1 + 1 + 1, 2, none⟩ = some (.slice none 0 0) := by rw [cell_of_row _ _ _ _ _ _ hc8]; rfl
    have g0 : w8.frozen? ⟨w.heap.size + 1 + 1 + 1 + 1, 0, none⟩ = false := by simp [World.frozen?, hc8]
    have g1 : w8.frozen? ⟨w.heap.size + 1 + 1 + 1 + 1, 1, none⟩ = false := by simp [World.frozen?, hc8]
    have g2 : w8.frozen? ⟨w.heap.size + 1 + 1 + 1 + 1, 2, none⟩ = false := by simp [World.frozen?, hc8]
    have hlt8 : w.heap.size + 1 + 1 + 1 + 1 < w8.heap.size := (Array.getElem?_eq_some_iff.1 hc8).1
    clear hK8 Hc6 hk06 hc8 HVi hcode
    go_wp2
    refine bodyPost_ret (v := .agg #[.int .i64 0, .int .i64 (max 0 1), .slice (some ⟨w8.heap.size, 0, none⟩) 2 2]) (by simp [results, Tryz.results7, go_sem, r0, r1, r2, hlt8]) rfl ?_
    have hkk : Kt (fun k => k = w.heap.size + 1 + 1 + 1 + 1) w8 (((w8.setCell ⟨w.heap.size + 1 + 1 + 1 + 1, 0, none⟩ (.int .i64 0)).setCell ⟨w.heap.size + 1 + 1 + 1 + 1, 1, none⟩ (.int .i64 (max 0 1))).setCell ⟨w.heap.size + 1 + 1 + 1 + 1, 2, none⟩ (.slice (some ⟨w8.heap.size, 0, none⟩) 2 2)) :=
      ((Kt.setCell _ ⟨w.heap.size + 1 + 1 + 1 + 1, 0, none⟩ _).trans (Kt.setCell _ ⟨w.heap.size + 1 + 1 + 1 + 1, 1, none⟩ _)).trans (Kt.setCell _ ⟨w.heap.size + 1 + 1 + 1 + 1, 2, none⟩ _)
    have hsz : (((w8.setCell ⟨w.heap.size + 1 + 1 + 1 + 1, 0, none⟩ (.int .i64 0)).setCell ⟨w.heap.size + 1 + 1 + 1 + 1, 1, none⟩ (.int .i64 (max 0 1))).setCell ⟨w.heap.size + 1 + 1 + 1 + 1, 2, none⟩ (.slice (some ⟨w8.heap.size, 0, none⟩) 2 2)).heap.size = w8.heap.size := by simp [World.setCell]
    have hown := Own.lit (((w8.setCell ⟨w.heap.size + 1 + 1 + 1 + 1, 0, none⟩ (.int .i64 0)).setCell ⟨w.heap.size + 1 + 1 + 1 + 1, 1, none⟩ (.int .i64 (max 0 1))).setCell ⟨w.heap.size + 1 + 1 + 1 + 1, 2, none⟩ (.slice (some ⟨w8.heap.size, 0, none⟩) 2 2)) w.heap.size 35 6 #[.int .i64 19, .int .i64 0, .int .i64 0, .int .i64 0, .slice none 0 0, .string (ByteArray.mk #[]), .int .i64 18, .int .i64 0, .int .i64 0, .int .i64 0, .slice none 0 0, .string (ByteArray.mk #[])] 2 (by rw [hsz]; omega) rfl (by unfold maxLen; omega)
    rw [hsz] at hown
    exact ⟨_, (hk08.out.step hkk (fun k hk => .inr (by omega))).trans (Kt.alloc _ _), .inr ⟨hM, rfl, hown⟩⟩
end Go.Proofs.YtpbbnkpplcnaoaaGreatDoor
