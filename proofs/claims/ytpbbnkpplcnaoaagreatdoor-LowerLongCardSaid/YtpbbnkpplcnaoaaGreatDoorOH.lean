/- LowerLong: the types of texts of one byte, and of none. -/
import Derived.Test.YtpbbnkpplcnaoaaGreatDoorOC
set_option linter.unusedVariables false
set_option linter.unusedSimpArgs false
namespace Go.Proofs.YtpbbnkpplcnaoaaGreatDoor
open Go.RowKit

set_option maxHeartbeats 2000000 in
theorem mark_none (p : Nat) (n c : Int) (w : World) (h : w.heap[p]? = some (.cells #[.string (ByteArray.mk #[]), .int .i64 n] 96 (0, 0))) :
    Calls Tryz.prog 87 #[.pointer (some ⟨p, 0, none⟩), .int .u8 c] w (fun e w' => e = .returned (.bool false) ∧ Kt No w w') := by
  have p0 : w.cell? ⟨p, 0, none⟩ = some (.string (ByteArray.mk #[])) := by rw [cell_of_row _ _ _ _ _ _ h]; rfl
  clear h
  go_enter Tryz.func87, Tryz.ntmps87
  go_wp2
  all_goals (try go_returns)
  all_goals exact ⟨rfl, Kt.refl _ _⟩

set_option maxHeartbeats 4000000 in
theorem kind_one (p : Nat) (b : UInt8) (hb : b = 49 ∨ b = 55 ∨ b = 45) (w : World) (h : w.heap[p]? = some (.cells #[.string ⟨#[b]⟩, .int .i64 20000] 96 (0, 0))) :
    Calls Tryz.prog 56 #[.pointer (some ⟨p, 0, none⟩)] w (fun e w' => e = .returned (.tuple #[.agg #[.string ⟨#[b]⟩, .slice none 0 0], .bool true]) ∧ Kt (fun k => k = p) w w' ∧
      w'.heap[p]? = some (.cells #[.string (ByteArray.mk #[]), .int .i64 19999] 96 (0, 0))) := by
  have hpl : p < w.heap.size := (Array.getElem?_eq_some_iff.1 h).1
  have h2 := hid h
  have hi : Lib.indexAny (⟨#[b]⟩ : ByteArray).data.toList [60, 62, 44] = -1 := by rcases hb with rfl | rfl | rfl <;> decide
  have has : ∀ (j : Nat) c, (⟨#[b]⟩ : ByteArray).data.toList[j]? = some c → c.toNat < 128 := by
    intro j c hj
    have : c ∈ [b] := List.mem_of_getElem? hj
    simp at this
    subst this
    rcases hb with rfl | rfl | rfl <;> decide
  have p0 : (w.alloc (.cells #[.string (ByteArray.mk #[]), .slice none 0 0] 49)).cell? ⟨p, 0, none⟩ = some (.string ⟨#[b]⟩) := by
    rw [cell_of_row _ _ _ _ _ _ (((Kt.alloc w _).block p hpl (fun h => h)).trans h)]; rfl
  have hs0 : (w.alloc (.cells #[.string (ByteArray.mk #[]), .slice none 0 0] 49)).heap.size = w.heap.size + 1 := by simp
  go_enter Tryz.func56, Tryz.ntmps56
  go_wp2_with fail
  refine (indexAny_short _ _ (by show 1 ≤ 8; decide) has _ hi).mono ?_
  rintro e w1 ⟨rfl, hK1⟩
  clear p0
  have e1 := (hK1.block p (by rw [hs0]; omega) (fun h => h)).trans (((Kt.alloc w _).block p hpl (fun h => h)).trans h)
  have p0 : w1.cell? ⟨p, 0, none⟩ = some (.string ⟨#[b]⟩) := by rw [cell_of_row _ _ _ _ _ _ e1]; rfl
  have p1 : w1.cell? ⟨p, 1, none⟩ = some (.int .i64 20000) := by rw [cell_of_row _ _ _ _ _ _ e1]; rfl
  have f0 : w1.frozen? ⟨p, 0, none⟩ = false := by simp [World.frozen?, e1]
  have f1 : w1.frozen? ⟨p, 1, none⟩ = false := by simp [World.frozen?, e1]
  have hs1 := hK1.size
  have hpl1 : p < w1.heap.size := by rw [hs0] at hs1; omega
  have E1 := hid e1
  have hk1 := hid ((Kt.alloc w _).trans hK1)
  have hb1 : (⟨#[b]⟩ : ByteArray).size = 1 := rfl
  have C0 := (hK1.block w.heap.size (by rw [hs0]; omega) (fun h => h)).trans (heap_alloc_new w _)
  have hpl0 := hpl
  clear h h2 hK1 e1 hpl hi has
  go_wp2_with fail
  have e2 : ((w1.setCell ⟨p, 1, none⟩ (.int .i64 19999)).setCell ⟨p, 0, none⟩ (.string ByteArray.empty)).heap[p]? = some (.cells #[.string (ByteArray.mk #[]), .int .i64 19999] 96 (0, 0)) := by
    simp only [World.setCell, Array.getElem?_modify, E1.out, if_true]; rfl
  have hks : Kt (fun k => k = p) w1 ((w1.setCell ⟨p, 1, none⟩ (.int .i64 19999)).setCell ⟨p, 0, none⟩ (.string ByteArray.empty)) := (Kt.setCell _ ⟨p, 1, none⟩ _).trans (Kt.setCell _ ⟨p, 0, none⟩ _)
  have hb : (⟨#[b]⟩ : ByteArray).extract 0 1 = ⟨#[b]⟩ := by apply ByteArray.ext; rfl
  rw [hb]
  have hka := Kt.alloc ((w1.setCell ⟨p, 1, none⟩ (.int .i64 19999)).setCell ⟨p, 0, none⟩ (.string ByteArray.empty)) (.cells #[.string ⟨#[b]⟩, .slice none 0 0] 49)
  have hpl2 : p < ((w1.setCell ⟨p, 1, none⟩ (.int .i64 19999)).setCell ⟨p, 0, none⟩ (.string ByteArray.empty)).heap.size := by simp [World.setCell]; exact hpl1
  have e3 := (hka.block p hpl2 (fun h => h)).trans e2
  have hss : ((w1.setCell ⟨p, 1, none⟩ (.int .i64 19999)).setCell ⟨p, 0, none⟩ (.string ByteArray.empty)).heap.size = w1.heap.size := by simp [World.setCell]
  have HN := heap_alloc_new ((w1.setCell ⟨p, 1, none⟩ (.int .i64 19999)).setCell ⟨p, 0, none⟩ (.string ByteArray.empty)) (.cells #[.string ⟨#[b]⟩, .slice none 0 0] 49)
  rw [hss] at HN
  refine (mark_none p 19999 60 _ e3).mono ?_
  rintro e w2 ⟨rfl, hK2⟩
  have e4 := (hK2.block p (by simp [World.setCell]; omega) (fun h => h)).trans e3
  have c5 := (hK2.block w1.heap.size (by simp [World.setCell]) (fun h => h)).trans HN
  have q0 : w2.cell? ⟨w1.heap.size, 0, none⟩ = some (.string ⟨#[b]⟩) := by rw [cell_of_row _ _ _ _ _ _ c5]; rfl
  have q1 : w2.cell? ⟨w1.heap.size, 1, none⟩ = some (.slice none 0 0) := by rw [cell_of_row _ _ _ _ _ _ c5]; rfl
  have c2 := (hK2.block w.heap.size (by simp [World.setCell]; omega) (fun h => h)).trans ((hka.block w.heap.size (by rw [hss]; omega) (fun h => h)).trans ((hks.block w.heap.size (by omega) (by have := hpl0; omega)).trans C0))
  have r0 : w2.cell? ⟨w.heap.size, 0, none⟩ = some (.string (ByteArray.mk #[])) := by rw [cell_of_row _ _ _ _ _ _ c2]; rfl
  have r1 : w2.cell? ⟨w.heap.size, 1, none⟩ = some (.slice none 0 0) := by rw [cell_of_row _ _ _ _ _ _ c2]; rfl
  have g0 : w2.frozen? ⟨w.heap.size, 0, none⟩ = false := by simp [World.frozen?, c2]
  have g1 : w2.frozen? ⟨w.heap.size, 1, none⟩ = false := by simp [World.frozen?, c2]
  have hk2 := hid ((hk1.out.no.trans hks).trans (hka.no.trans hK2.no))
  have E4 := hid e4
  clear e2 hks hka e3 hss HN hK2 e4 c5 c2 hk1 p0 p1 f0 f1 E1
  go_wp2_with fail
  refine bodyPost_ret (v := .tuple #[.agg #[.string ⟨#[b]⟩, .slice none 0 0], .bool true]) (by simp [results, Tryz.results56, go_sem, r0, r1]) rfl ?_
  have hkk : Kt (fun k => k = w.heap.size) w2 ((w2.setCell ⟨w.heap.size, 0, none⟩ (.string ⟨#[b]⟩)).setCell ⟨w.heap.size, 1, none⟩ (.slice none 0 0)) := (Kt.setCell _ ⟨w.heap.size, 0, none⟩ _).trans (Kt.setCell _ ⟨w.heap.size, 1, none⟩ _)
  have hpl3 := (Array.getElem?_eq_some_iff.1 E4.out).1
  exact ⟨rfl, hk2.out.step hkk (fun k hk => .inr (by omega)), (hkk.block p hpl3 (by omega)).trans E4.out⟩

set_option maxHeartbeats 4000000 in
theorem kind_none (p : Nat) (w : World) (h : w.heap[p]? = some (.cells #[.string (ByteArray.mk #[]), .int .i64 20000] 96 (0, 0))) :
    Calls Tryz.prog 56 #[.pointer (some ⟨p, 0, none⟩)] w (fun e w' => e = .returned (.tuple #[.agg #[.string (ByteArray.mk #[]), .slice none 0 0], .bool false]) ∧ Kt (fun k => k = p) w w') := by
  have hpl : p < w.heap.size := (Array.getElem?_eq_some_iff.1 h).1
  have hi : Lib.indexAny (⟨#[]⟩ : ByteArray).data.toList [60, 62, 44] = -1 := by decide
  have has : ∀ (j : Nat) c, (⟨#[]⟩ : ByteArray).data.toList[j]? = some c → c.toNat < 128 := by
    intro j c hj
    have : c ∈ ([] : List UInt8) := List.mem_of_getElem? hj
    cases this
  have p0 : (w.alloc (.cells #[.string (ByteArray.mk #[]), .slice none 0 0] 49)).cell? ⟨p, 0, none⟩ = some (.string ⟨#[]⟩) := by
    rw [cell_of_row _ _ _ _ _ _ (((Kt.alloc w _).block p hpl (fun h => h)).trans h)]; rfl
  have hs0 : (w.alloc (.cells #[.string (ByteArray.mk #[]), .slice none 0 0] 49)).heap.size = w.heap.size + 1 := by simp
  go_enter Tryz.func56, Tryz.ntmps56
  go_wp2_with fail
  refine (indexAny_short _ _ (by show 0 ≤ 8; decide) has _ hi).mono ?_
  rintro e w1 ⟨rfl, hK1⟩
  clear p0
  have e1 := (hK1.block p (by rw [hs0]; omega) (fun h => h)).trans (((Kt.alloc w _).block p hpl (fun h => h)).trans h)
  have C0 := (hK1.block w.heap.size (by rw [hs0]; omega) (fun h => h)).trans (heap_alloc_new w _)
  have p0 : w1.cell? ⟨p, 0, none⟩ = some (.string ⟨#[]⟩) := by rw [cell_of_row _ _ _ _ _ _ e1]; rfl
  have p1 : w1.cell? ⟨p, 1, none⟩ = some (.int .i64 20000) := by rw [cell_of_row _ _ _ _ _ _ e1]; rfl
  have f1 : w1.frozen? ⟨p, 1, none⟩ = false := by simp [World.frozen?, e1]
  have c2 := ((Kt.setCell w1 ⟨p, 1, none⟩ (.int .i64 19999)).block w.heap.size (by have := hK1.size; rw [hs0] at this; omega) (by show w.heap.size ≠ p; omega)).trans C0
  have r0 : (w1.setCell ⟨p, 1, none⟩ (.int .i64 19999)).cell? ⟨w.heap.size, 0, none⟩ = some (.string (ByteArray.mk #[])) := by rw [cell_of_row _ _ _ _ _ _ c2]; rfl
  have r1 : (w1.setCell ⟨p, 1, none⟩ (.int .i64 19999)).cell? ⟨w.heap.size, 1, none⟩ = some (.slice none 0 0) := by rw [cell_of_row _ _ _ _ _ _ c2]; rfl
  have g0 : (w1.setCell ⟨p, 1, none⟩ (.int .i64 19999)).frozen? ⟨w.heap.size, 0, none⟩ = false := by simp [World.frozen?, c2]
  have g1 : (w1.setCell ⟨p, 1, none⟩ (.int .i64 19999)).frozen? ⟨w.heap.size, 1, none⟩ = false := by simp [World.frozen?, c2]
  have hk1 := hid ((((Kt.alloc w _).trans hK1).no (T := fun k => k = p)).trans (Kt.setCell w1 ⟨p, 1, none⟩ (.int .i64 19999)))
  clear h hK1 e1 hi has C0 c2 hs0
  go_wp2
  refine bodyPost_ret (v := .tuple #[.agg #[.string (ByteArray.mk #[]), .slice none 0 0], .bool false]) (by simp [results, Tryz.results56, go_sem, r0, r1]) rfl ?_
  have hkk := (Kt.setCell (w1.setCell ⟨p, 1, none⟩ (.int .i64 19999)) ⟨w.heap.size, 0, none⟩ (.string (ByteArray.mk #[]))).trans (Kt.setCell _ ⟨w.heap.size, 1, none⟩ (.slice none 0 0))
  exact ⟨rfl, hk1.out.step hkk (fun k hk => .inr (by have hk : k = w.heap.size := hk; omega))⟩

set_option maxHeartbeats 4000000 in
theorem parse_one (b : UInt8) (hb : b = 49 ∨ b = 55 ∨ b = 45) (w : World) :
    Calls Tryz.prog 33 #[.string ⟨#[b]⟩] w (fun e w' => e = .returned (.tuple #[.agg #[.string ⟨#[b]⟩, .slice none 0 0], .bool true]) ∧ Kt No w w') := by
  have hk0 := (Kt.alloc w (.cells #[.string (ByteArray.mk #[]), .slice none 0 0] 49)).trans (Kt.alloc _ (.cells #[.string ⟨#[b]⟩, .int .i64 20000] 96))
  have e0 := heap_alloc_new (w.alloc (.cells #[.string (ByteArray.mk #[]), .slice none 0 0] 49)) (.cells #[.string ⟨#[b]⟩, .int .i64 20000] 96)
  have hs0 : (w.alloc (.cells #[.string (ByteArray.mk #[]), .slice none 0 0] 49)).heap.size = w.heap.size + 1 := by simp
  rw [hs0] at e0
  go_enter Tryz.func33, Tryz.ntmps33
  go_wp2_with fail
  refine (kind_one _ b hb _ e0).mono ?_
  rintro e w1 ⟨rfl, hK1, e1⟩
  have c0 := (hK1.block w.heap.size (by simp; omega) (by omega)).trans (((Kt.alloc _ _).block w.heap.size (by simp) (fun h => h)).trans (heap_alloc_new w _))
  have hs1 := hK1.size
  have hs2 : ((w.alloc (.cells #[.string (ByteArray.mk #[]), .slice none 0 0] 49)).alloc (.cells #[.string ⟨#[b]⟩, .int .i64 20000] 96)).heap.size = w.heap.size + 2 := by simp
  have ha := Kt.alloc w1 (.cells #[.string ⟨#[b]⟩, .slice none 0 0] 49)
  have en := heap_alloc_new w1 (.cells #[.string ⟨#[b]⟩, .slice none 0 0] 49)
  have e2 := (ha.block (w.heap.size + 1) (by omega) (fun h => h)).trans e1
  have c1 := (ha.block w.heap.size (by omega) (fun h => h)).trans c0
  have hk1 := hid ((hk0.step hK1 (fun k hk => .inr (by omega))).trans ha)
  have p0 : (w1.alloc (.cells #[.string ⟨#[b]⟩, .slice none 0 0] 49)).cell? ⟨w.heap.size + 1, 0, none⟩ = some (.string (ByteArray.mk #[])) := by rw [cell_of_row _ _ _ _ _ _ e2]; rfl
  have q0 : (w1.alloc (.cells #[.string ⟨#[b]⟩, .slice none 0 0] 49)).cell? ⟨w1.heap.size, 0, none⟩ = some (.string ⟨#[b]⟩) := by rw [cell_of_row _ _ _ _ _ _ en]; rfl
  have q1 : (w1.alloc (.cells #[.string ⟨#[b]⟩, .slice none 0 0] 49)).cell? ⟨w1.heap.size, 1, none⟩ = some (.slice none 0 0) := by rw [cell_of_row _ _ _ _ _ _ en]; rfl
  have r0 : (w1.alloc (.cells #[.string ⟨#[b]⟩, .slice none 0 0] 49)).cell? ⟨w.heap.size, 0, none⟩ = some (.string (ByteArray.mk #[])) := by rw [cell_of_row _ _ _ _ _ _ c1]; rfl
  have r1 : (w1.alloc (.cells #[.string ⟨#[b]⟩, .slice none 0 0] 49)).cell? ⟨w.heap.size, 1, none⟩ = some (.slice none 0 0) := by rw [cell_of_row _ _ _ _ _ _ c1]; rfl
  have g0 : (w1.alloc (.cells #[.string ⟨#[b]⟩, .slice none 0 0] 49)).frozen? ⟨w.heap.size, 0, none⟩ = false := by simp [World.frozen?, c1]
  have g1 : (w1.alloc (.cells #[.string ⟨#[b]⟩, .slice none 0 0] 49)).frozen? ⟨w.heap.size, 1, none⟩ = false := by simp [World.frozen?, c1]
  clear hk0 hK1 e1 c0 ha en e2 c1 hs0 e0 hs2
  go_wp2_with fail
  refine bodyPost_ret (v := .tuple #[.agg #[.string ⟨#[b]⟩, .slice none 0 0], .bool true]) (by simp [results, Tryz.results33, go_sem, r0, r1]) rfl ?_
  have hkk := (Kt.setCell (w1.alloc (.cells #[.string ⟨#[b]⟩, .slice none 0 0] 49)) ⟨w.heap.size, 0, none⟩ (.string ⟨#[b]⟩)).trans (Kt.setCell _ ⟨w.heap.size, 1, none⟩ (.slice none 0 0))
  exact ⟨rfl, hk1.out.step hkk (fun k hk => .inr (by have hk : k = w.heap.size := hk; omega))⟩

set_option maxHeartbeats 4000000 in
theorem parse_none (w : World) :
    Calls Tryz.prog 33 #[.string (ByteArray.mk #[])] w (fun e w' => e = .returned (.tuple #[.agg #[.string (ByteArray.mk #[]), .slice none 0 0], .bool false]) ∧ Kt No w w') := by
  have hk0 := (Kt.alloc w (.cells #[.string (ByteArray.mk #[]), .slice none 0 0] 49)).trans (Kt.alloc _ (.cells #[.string (ByteArray.mk #[]), .int .i64 20000] 96))
  have e0 := heap_alloc_new (w.alloc (.cells #[.string (ByteArray.mk #[]), .slice none 0 0] 49)) (.cells #[.string (ByteArray.mk #[]), .int .i64 20000] 96)
  have hs0 : (w.alloc (.cells #[.string (ByteArray.mk #[]), .slice none 0 0] 49)).heap.size = w.heap.size + 1 := by simp
  rw [hs0] at e0
  go_enter Tryz.func33, Tryz.ntmps33
  go_wp2_with fail
  refine (kind_none _ _ e0).mono ?_
  rintro e w1 ⟨rfl, hK1⟩
  have c0 := (hK1.block w.heap.size (by simp; omega) (by omega)).trans (((Kt.alloc _ _).block w.heap.size (by simp) (fun h => h)).trans (heap_alloc_new w _))
  have hs1 := hK1.size
  have hs2 : ((w.alloc (.cells #[.string (ByteArray.mk #[]), .slice none 0 0] 49)).alloc (.cells #[.string (ByteArray.mk #[]), .int .i64 20000] 96)).heap.size = w.heap.size + 2 := by simp
  have ha := Kt.alloc w1 (.cells #[.string (ByteArray.mk #[]), .slice none 0 0] 49)
  have c1 := (ha.block w.heap.size (by omega) (fun h => h)).trans c0
  have hk1 := hid ((hk0.step hK1 (fun k hk => .inr (by omega))).trans ha)
  have r0 : (w1.alloc (.cells #[.string (ByteArray.mk #[]), .slice none 0 0] 49)).cell? ⟨w.heap.size, 0, none⟩ = some (.string (ByteArray.mk #[])) := by rw [cell_of_row _ _ _ _ _ _ c1]; rfl
  have r1 : (w1.alloc (.cells #[.string (ByteArray.mk #[]), .slice none 0 0] 49)).cell? ⟨w.heap.size, 1, none⟩ = some (.slice none 0 0) := by rw [cell_of_row _ _ _ _ _ _ c1]; rfl
  have g0 : (w1.alloc (.cells #[.string (ByteArray.mk #[]), .slice none 0 0] 49)).frozen? ⟨w.heap.size, 0, none⟩ = false := by simp [World.frozen?, c1]
  have g1 : (w1.alloc (.cells #[.string (ByteArray.mk #[]), .slice none 0 0] 49)).frozen? ⟨w.heap.size, 1, none⟩ = false := by simp [World.frozen?, c1]
  clear hk0 hK1 c0 ha c1 hs0 e0 hs2
  go_wp2_with fail
  refine bodyPost_ret (v := .tuple #[.agg #[.string (ByteArray.mk #[]), .slice none 0 0], .bool false]) (by simp [results, Tryz.results33, go_sem, r0, r1]) rfl ?_
  have hkk := (Kt.setCell (w1.alloc (.cells #[.string (ByteArray.mk #[]), .slice none 0 0] 49)) ⟨w.heap.size, 0, none⟩ (.string (ByteArray.mk #[]))).trans (Kt.setCell _ ⟨w.heap.size, 1, none⟩ (.slice none 0 0))
  exact ⟨rfl, hk1.out.step hkk (fun k hk => .inr (by have hk : k = w.heap.size := hk; omega))⟩

set_option maxHeartbeats 4000000 in
theorem param_one (b : UInt8) (hb : b = 49 ∨ b = 55 ∨ b = 45) (w : World) :
    Calls Tryz.prog 57 #[.agg #[.string ⟨#[b]⟩, .slice none 0 0]] w (fun e w' => e = .returned (.tuple #[.string ⟨#[b]⟩, .bool false]) ∧ Kt No w w') := by
  have hc : Lib.hasPrefix (⟨#[b]⟩ : ByteArray).data.toList [36] = false := by rcases hb with rfl | rfl | rfl <;> decide
  go_enter Tryz.func57, Tryz.ntmps57
  go_wp2_with fail
  refine (cut_dollar _ _ hc).mono ?_
  rintro e w1 ⟨rfl, hK1⟩
  go_wp2_with fail
  go_returns
  exact ⟨rfl, (Kt.alloc _ _).trans hK1⟩

set_option maxHeartbeats 4000000 in
theorem put_one (b : UInt8) (hb : b = 49 ∨ b = 55 ∨ b = 45) (w : World) :
    Calls Tryz.prog 34 #[.agg #[.string ⟨#[b]⟩, .slice none 0 0], .slice none 0 0, .slice none 0 0] w (fun e w' => e = .returned (.agg #[.string ⟨#[b]⟩, .slice none 0 0]) ∧ Kt No w w') := by
  go_enter Tryz.func34, Tryz.ntmps34
  go_wp2_with fail
  refine (param_one b hb _).mono ?_
  rintro e w1 ⟨rfl, hK1⟩
  have hk0 := ((Kt.alloc w (.cells #[.string ⟨#[b]⟩, .slice none 0 0] 49)).trans (Kt.alloc _ (.cells #[.string (ByteArray.mk #[]), .slice none 0 0] 49))).trans hK1
  have hs1 := hK1.size
  have hs2 : ((w.alloc (.cells #[.string ⟨#[b]⟩, .slice none 0 0] 49)).alloc (.cells #[.string (ByteArray.mk #[]), .slice none 0 0] 49)).heap.size = w.heap.size + 2 := by simp
  have hs3 : (w.alloc (.cells #[.string ⟨#[b]⟩, .slice none 0 0] 49)).heap.size = w.heap.size + 1 := by simp
  have c0 := (hK1.block w.heap.size (by omega) (fun h => h)).trans (((Kt.alloc _ _).block w.heap.size (by omega) (fun h => h)).trans (heap_alloc_new w _))
  have en := heap_alloc_new (w.alloc (.cells #[.string ⟨#[b]⟩, .slice none 0 0] 49)) (.cells #[.string (ByteArray.mk #[]), .slice none 0 0] 49)
  rw [hs3] at en
  have c1 := (hK1.block (w.heap.size + 1) (by omega) (fun h => h)).trans en
  have ha := Kt.alloc w1 (.cells #[.string ⟨#[b]⟩, .slice none 0 0] 49)
  have c2 := (ha.block w.heap.size (by omega) (fun h => h)).trans c0
  have c3 := (ha.block (w.heap.size + 1) (by omega) (fun h => h)).trans c1
  have q0 : w1.cell? ⟨w.heap.size, 0, none⟩ = some (.string ⟨#[b]⟩) := by rw [cell_of_row _ _ _ _ _ _ c0]; rfl
  have p1 : (w1.alloc (.cells #[.string ⟨#[b]⟩, .slice none 0 0] 49)).cell? ⟨w.heap.size, 1, none⟩ = some (.slice none 0 0) := by rw [cell_of_row _ _ _ _ _ _ c2]; rfl
  have r0 : (w1.alloc (.cells #[.string ⟨#[b]⟩, .slice none 0 0] 49)).cell? ⟨w.heap.size + 1, 0, none⟩ = some (.string (ByteArray.mk #[])) := by rw [cell_of_row _ _ _ _ _ _ c3]; rfl
  have r1 : (w1.alloc (.cells #[.string ⟨#[b]⟩, .slice none 0 0] 49)).cell? ⟨w.heap.size + 1, 1, none⟩ = some (.slice none 0 0) := by rw [cell_of_row _ _ _ _ _ _ c3]; rfl
  have g0 : (w1.alloc (.cells #[.string ⟨#[b]⟩, .slice none 0 0] 49)).frozen? ⟨w.heap.size + 1, 0, none⟩ = false := by simp [World.frozen?, c3]
  have g1 : (w1.alloc (.cells #[.string ⟨#[b]⟩, .slice none 0 0] 49)).frozen? ⟨w.heap.size + 1, 1, none⟩ = false := by simp [World.frozen?, c3]
  have hk1 := hid (hk0.trans ha)
  clear hk0 hK1 ha c0 c1 c2 c3 en hs2 hs3
  go_wp2_with fail
  refine wp_loop_rounds 1 ?_
  rw [rounds_succ]
  go_wp2_with fail
  refine bodyPost_ret (v := .agg #[.string ⟨#[b]⟩, .slice none 0 0]) (by simp [results, Tryz.results34, go_sem, r0, r1]) rfl ?_
  have hkk := (Kt.setCell (w1.alloc (.cells #[.string ⟨#[b]⟩, .slice none 0 0] 49)) ⟨w.heap.size + 1, 0, none⟩ (.string ⟨#[b]⟩)).trans (Kt.setCell _ ⟨w.heap.size + 1, 1, none⟩ (.slice none 0 0))
  exact ⟨rfl, hk1.out.step hkk (fun k hk => .inr (by have hk : k = w.heap.size + 1 := hk; omega))⟩

/-- texts of one byte, or of none -/
def Txt (s : ByteArray) : Prop := s = ⟨#[]⟩ ∨ ∃ b : UInt8, (b = 49 ∨ b = 55 ∨ b = 45) ∧ s = ⟨#[b]⟩

set_option maxHeartbeats 4000000 in
theorem inst_any (s : ByteArray) (hs : Txt s) (w : World) :
    Calls Tryz.prog 15 #[.string s, .slice none 0 0, .slice none 0 0] w (fun e w' => (∃ ok, e = .returned (.tuple #[.agg #[.string s, .slice none 0 0], .bool ok])) ∧ Kt No w w') := by
  have hs3 : (w.alloc (.cells #[.string (ByteArray.mk #[]), .slice none 0 0] 49)).heap.size = w.heap.size + 1 := by simp
  have hka := Kt.alloc w (.cells #[.string (ByteArray.mk #[]), .slice none 0 0] 49)
  have hn := heap_alloc_new w (.cells #[.string (ByteArray.mk #[]), .slice none 0 0] 49)
  rcases hs with rfl | ⟨b, hb, rfl⟩
  · go_enter Tryz.func15, Tryz.ntmps15
    go_wp2_with fail
    refine (parse_none _).mono ?_
    rintro e w1 ⟨rfl, hK1⟩
    have ha := Kt.alloc w1 (.cells #[.string (ByteArray.mk #[]), .slice none 0 0] 49)
    have hs1 := hK1.size
    have c1 := (ha.block w.heap.size (by omega) (fun h => h)).trans ((hK1.block w.heap.size (by omega) (fun h => h)).trans hn)
    have r0 : (w1.alloc (.cells #[.string (ByteArray.mk #[]), .slice none 0 0] 49)).cell? ⟨w.heap.size, 0, none⟩ = some (.string (ByteArray.mk #[])) := by rw [cell_of_row _ _ _ _ _ _ c1]; rfl
    have r1 : (w1.alloc (.cells #[.string (ByteArray.mk #[]), .slice none 0 0] 49)).cell? ⟨w.heap.size, 1, none⟩ = some (.slice none 0 0) := by rw [cell_of_row _ _ _ _ _ _ c1]; rfl
    have g0 : (w1.alloc (.cells #[.string (ByteArray.mk #[]), .slice none 0 0] 49)).frozen? ⟨w.heap.size, 0, none⟩ = false := by simp [World.frozen?, c1]
    have g1 : (w1.alloc (.cells #[.string (ByteArray.mk #[]), .slice none 0 0] 49)).frozen? ⟨w.heap.size, 1, none⟩ = false := by simp [World.frozen?, c1]
    have hk1 := hid ((hka.trans hK1).trans ha)
    clear hK1 hka hn hs3 ha c1
    go_wp2_with fail
    refine bodyPost_ret (v := .tuple #[.agg #[.string (ByteArray.mk #[]), .slice none 0 0], .bool false]) (by simp [results, Tryz.results15, go_sem, r0, r1]) rfl ?_
    have hkk := (Kt.setCell (w1.alloc (.cells #[.string (ByteArray.mk #[]), .slice none 0 0] 49)) ⟨w.heap.size, 0, none⟩ (.string (ByteArray.mk #[]))).trans (Kt.setCell _ ⟨w.heap.size, 1, none⟩ (.slice none 0 0))
    exact ⟨⟨_, rfl⟩, hk1.out.step hkk (fun k hk => .inr (by have hk : k = w.heap.size := hk; omega))⟩
  · go_enter Tryz.func15, Tryz.ntmps15
    go_wp2_with fail
    refine (parse_one b hb _).mono ?_
    rintro e w1 ⟨rfl, hK1⟩
    have ha := Kt.alloc w1 (.cells #[.string ⟨#[b]⟩, .slice none 0 0] 49)
    have hs1 := hK1.size
    have c1 := (ha.block w.heap.size (by omega) (fun h => h)).trans ((hK1.block w.heap.size (by omega) (fun h => h)).trans hn)
    have hk1 := hid ((hka.trans hK1).trans ha)
    have C1 := hid c1
    have hl1 := (Array.getElem?_eq_some_iff.1 c1).1
    clear hK1 hka hn hs3 ha c1
    go_wp2_with fail
    refine (put_one b hb _).mono ?_
    rintro e w2 ⟨rfl, hK2⟩
    have c2 := (hK2.block w.heap.size hl1 (fun h => h)).trans C1.out
    have r0 : w2.cell? ⟨w.heap.size, 0, none⟩ = some (.string (ByteArray.mk #[])) := by rw [cell_of_row _ _ _ _ _ _ c2]; rfl
    have r1 : w2.cell? ⟨w.heap.size, 1, none⟩ = some (.slice none 0 0) := by rw [cell_of_row _ _ _ _ _ _ c2]; rfl
    have g0 : w2.frozen? ⟨w.heap.size, 0, none⟩ = false := by simp [World.frozen?, c2]
    have g1 : w2.frozen? ⟨w.heap.size, 1, none⟩ = false := by simp [World.frozen?, c2]
    have hk2 := hid (hk1.out.trans hK2)
    have hl2 := (Array.getElem?_eq_some_iff.1 c2).1
    clear hK2 c2 C1 hk1
    go_wp2_with fail
    refine bodyPost_ret (v := .tuple #[.agg #[.string ⟨#[b]⟩, .slice none 0 0], .bool true]) (by simp [results, Tryz.results15, go_sem, r0, r1, hl2]) rfl ?_
    have hkk := (Kt.setCell w2 ⟨w.heap.size, 0, none⟩ (.string ⟨#[b]⟩)).trans (Kt.setCell _ ⟨w.heap.size, 1, none⟩ (.slice none 0 0))
    exact ⟨⟨_, rfl⟩, hk2.out.step hkk (fun k hk => .inr (by have hk : k = w.heap.size := hk; omega))⟩
end Go.Proofs.YtpbbnkpplcnaoaaGreatDoor
