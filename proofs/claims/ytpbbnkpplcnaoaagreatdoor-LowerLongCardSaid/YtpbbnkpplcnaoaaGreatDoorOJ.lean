/- LowerLong: the sort of nothing; the calls of chains and blocks. -/
import Derived.Test.YtpbbnkpplcnaoaaGreatDoorOI
import Derived.Laws.IdiomRangeMap
set_option linter.unusedVariables false
set_option linter.unusedSimpArgs false
namespace Go.Proofs.YtpbbnkpplcnaoaaGreatDoor
open Go.RowKit

theorem vis_chain (w : World) (B n1 n2 n3 n4 : Nat) (hv : VEnv w n1 n2 n3 n4) : ∀ (n : Nat) (A : Option Addr) (m d : Nat), Ch w B n A m d → VisC w n1 n2 n3 n4 (kd n) (tx n) A m d
  | 0, _, _, _, ⟨rfl, rfl, rfl⟩ => visit_0_20 w n1 n2 n3 n4 hv ⟨#[49]⟩ (.inr ⟨49, .inl rfl, rfl⟩)
  | n + 1, _, _, _, ⟨b, A', m', d', rfl, rfl, rfl, _, hl, hT, hC⟩ => visit_1_27 w n1 n2 n3 n4 hv ⟨#[45]⟩ (.inr ⟨45, .inr (.inr rfl), rfl⟩) b hl _ _ _ _ _ hT (vis_chain w B n1 n2 n3 n4 hv n A' m' d' hC)
theorem vis_block (w : World) (B n n1 n2 n3 n4 : Nat) (hv : VEnv w n1 n2 n3 n4) (bk bd : Nat) (A : Option Addr) (m d : Nat) (hB : Blk w B n bk bd A m d) :
    VisC w n1 n2 n3 n4 30 ⟨#[]⟩ (some ⟨bk, 0, none⟩) 3 3 :=
  visit_3_30 w n1 n2 n3 n4 hv ⟨#[]⟩ (.inl rfl) bk hB.kl _ _ _ _ _ hB.t1 (vis_chain w B n1 n2 n3 n4 hv n A m d hB.ch) _ _ _ _ _ hB.t2
    (visit_1_36 w n1 n2 n3 n4 hv ⟨#[]⟩ (.inl rfl) bd hB.dl _ _ _ _ _ hB.td (vis_chain w B n1 n2 n3 n4 hv n A m d hB.ch)) _ _ _ _ _ hB.t3
    (visit_0_20 w n1 n2 n3 n4 hv ⟨#[55]⟩ (.inr ⟨55, .inr (.inl rfl), rfl⟩))

set_option maxRecDepth 100000 in
set_option maxHeartbeats 4000000 in
theorem ins_nil (f : Value) (w : World) : Calls Tryz.prog 71 #[.slice none 0 0, .int .i64 0, .int .i64 0, f] w (fun e w' => e = .returned (.tuple #[]) ∧ w' = w) := by
  go_enter Tryz.func71, Tryz.ntmps71
  go_wp2_with fail
  refine wp_loop_rounds 1 ?_
  rw [rounds_succ]
  go_wp2
  go_returns
  exact ⟨rfl, rfl⟩
set_option maxRecDepth 100000 in
set_option maxHeartbeats 4000000 in
theorem pdq_nil (l f : Value) (w : World) : Calls Tryz.prog 41 #[.slice none 0 0, .int .i64 0, .int .i64 0, l, f] w (fun e w' => e = .returned (.tuple #[]) ∧ w' = w) := by
  go_enter Tryz.func41, Tryz.ntmps41
  go_wp2_with fail
  refine wp_loop_rounds 1 ?_
  rw [rounds_succ]
  go_wp2_with fail
  refine (ins_nil f w).mono ?_
  rintro e w1 ⟨rfl, rfl⟩
  go_wp2
  go_returns
  exact ⟨rfl, rfl⟩
set_option maxRecDepth 100000 in
set_option maxHeartbeats 4000000 in
theorem len64_0 (w : World) : Calls Tryz.prog 80 #[.int .u64 0] w (fun e w' => e = .returned (.int .i64 0) ∧ w' = w) := by
  go_enter Tryz.func80, Tryz.ntmps80
  go_wp2
  exact bodyPost_ret (v := .int .i64 0) (by kernel_rfl) rfl ⟨rfl, rfl⟩
set_option maxRecDepth 100000 in
set_option maxHeartbeats 4000000 in
theorem len_0 (w : World) : Calls Tryz.prog 42 #[.int .u64 0] w (fun e w' => e = .returned (.int .i64 0) ∧ w' = w) := by
  go_enter Tryz.func42, Tryz.ntmps42
  go_wp2_with fail
  refine (len64_0 w).mono ?_
  rintro e w1 ⟨rfl, rfl⟩
  go_wp2
  go_returns
  exact ⟨rfl, rfl⟩
set_option maxRecDepth 100000 in
set_option maxHeartbeats 4000000 in
theorem sort_nil (f : Value) (w : World) : Calls Tryz.prog 24 #[.slice none 0 0, f] w (fun e w' => e = .returned (.tuple #[]) ∧ w' = w) := by
  go_enter Tryz.func24, Tryz.ntmps24
  go_wp2_with fail
  refine (len_0 w).mono ?_
  rintro e w1 ⟨rfl, rfl⟩
  go_wp2_with fail
  refine (pdq_nil _ f w1).mono ?_
  rintro e w2 ⟨rfl, rfl⟩
  go_wp2
  go_returns
  exact ⟨rfl, rfl⟩

/-- a round of a range over a map without entries -/
theorem next_none {P : Program} (w : World) (ty : TypeId) (bm since c0 clock : Nat) (hb : w.heap[bm]? = some (.map #[] clock)) (hsc : since ≤ c0) :
    (Instr.next (.pointer (some ⟨w.heap.size, 0, none⟩)) false ty).run P (w.alloc (.mapIter (some bm) since #[] c0)) = .ok (.tuple #[.bool false]) (w.alloc (.mapIter (some bm) since #[] c0)) := by
  rcases run_next_map (P := P) w ty bm since c0 #[] #[] clock hb (fun x hx => by simp at hx) hsc with h | ⟨e, he, _⟩
  · exact h.2
  · have := (mem_left he).1; simp at this

set_option maxRecDepth 100000 in
set_option maxHeartbeats 8000000 in
theorem calls_t (w : World) (bt : Nat) (hl : bt < w.heap.size) (bk bd n : Nat) (A : Option Addr) (m d : Nat) (h1 : TrAt w bt (3 * 4) 30 ⟨#[]⟩ (some ⟨bk, 0, none⟩) 3 3) (hB : Blk w w.heap.size n bk bd A m d) :
    Calls Tryz.prog 9 #[trV 4 ⟨#[]⟩ (some ⟨bt, 0, none⟩) 4 4, .slice none 0 0, .slice none 0 0] w (fun e w' => e = .returned (.slice none 0 0) ∧ Kt No w w') := by
  have hmf : ∀ (fn : Fn) (first cap : Array Value) (w : World), (Instr.makeFunc fn first cap).run Tryz.prog w = .ok (.func fn first cap) w := fun _ _ _ _ => rfl
  have hmm := @run_makeMap Tryz.prog
  go_enter Tryz.func9, Tryz.ntmps9
  go_wp2_with fail
  generalize hW0 : World.alloc (World.alloc (World.alloc (World.alloc (World.alloc (World.alloc w _) _) _) _) _) _ = W0
  have hk0 : Kt No w W0 := by subst hW0; exact (((((Kt.alloc _ _).trans (Kt.alloc _ _)).trans (Kt.alloc _ _)).trans (Kt.alloc _ _)).trans (Kt.alloc _ _)).trans (Kt.alloc _ _)
  have hs0 : W0.heap.size = w.heap.size + 6 := by subst hW0; simp
  have b0 : W0.heap[w.heap.size]? = some (.cells (trC 4 ⟨#[]⟩ (some ⟨bt, 0, none⟩) 4 4) 25 (0, 0)) := by
    subst hW0
    simp only [World.alloc, Array.getElem?_push, Array.size_push]
    rw [if_neg (by omega), if_neg (by omega), if_neg (by omega), if_neg (by omega), if_neg (by omega), if_pos trivial]
  have b1 : W0.heap[w.heap.size + 1]? = some (.cells #[.slice none 0 0] 36 (0, 0)) := by
    subst hW0
    simp only [World.alloc, Array.getElem?_push, Array.size_push]
    rw [if_neg (by omega), if_neg (by omega), if_neg (by omega), if_neg (by omega), if_pos trivial]
  have b2 : W0.heap[w.heap.size + 1 + 1]? = some (.cells #[.slice none 0 0] 37 (0, 0)) := by
    subst hW0
    simp only [World.alloc, Array.getElem?_push, Array.size_push]
    rw [if_neg (by omega), if_neg (by omega), if_neg (by omega), if_pos trivial]
  have b3 : W0.heap[w.heap.size + 1 + 1 + 1]? = some (.map #[] 0) := by
    subst hW0
    simp only [World.alloc, Array.getElem?_push, Array.size_push]
    rw [if_neg (by omega), if_neg (by omega), if_pos trivial]
  have b4 : W0.heap[w.heap.size + 1 + 1 + 1 + 1]? = some (.cells #[.map (some (w.heap.size + 1 + 1 + 1))] 61 (0, 0)) := by
    subst hW0
    simp only [World.alloc, Array.getElem?_push, Array.size_push]
    rw [if_neg (by omega), if_pos trivial]
  have b5 : W0.heap[w.heap.size + 1 + 1 + 1 + 1 + 1]? = some (.cells #[.func (.func 23) #[] #[.pointer (some ⟨w.heap.size + 1, 0, none⟩), .pointer (some ⟨w.heap.size + 1 + 1, 0, none⟩), .pointer (some ⟨w.heap.size + 1 + 1 + 1 + 1, 0, none⟩), .pointer (some ⟨w.heap.size + 1 + 1 + 1 + 1 + 1, 0, none⟩)]] 62 (0, 0)) := by
    subst hW0
    simp only [World.alloc, Array.getElem?_push, Array.size_push]
    rw [if_pos trivial]
  clear hW0
  refine (body_ok W0 bt (by omega) 30 ⟨#[]⟩ (some ⟨bk, 0, none⟩) 3 3 (h1.keep fun q hq => hk0.cell (by omega) (fun h => h))).mono ?_
  rintro e w1 ⟨rfl, hK1⟩
  have hs1 := hK1.size
  have ha := Kt.alloc w1 (.cells (trC 30 ⟨#[]⟩ (some ⟨bk, 0, none⟩) 3 3) 25)
  have hka := hK1.trans ha
  have a5 := (hka.block (w.heap.size + 1 + 1 + 1 + 1 + 1) (by omega) (fun h => h)).trans b5
  have p5 : (w1.alloc (.cells (trC 30 ⟨#[]⟩ (some ⟨bk, 0, none⟩) 3 3) 25)).cell? ⟨w.heap.size + 1 + 1 + 1 + 1 + 1, 0, none⟩ = some (.func (.func 23) #[] #[.pointer (some ⟨w.heap.size + 1, 0, none⟩), .pointer (some ⟨w.heap.size + 1 + 1, 0, none⟩), .pointer (some ⟨w.heap.size + 1 + 1 + 1 + 1, 0, none⟩), .pointer (some ⟨w.heap.size + 1 + 1 + 1 + 1 + 1, 0, none⟩)]) := by rw [cell_of_row _ _ _ _ _ _ a5]; rfl
  have p1 : W0.cell? ⟨w.heap.size + 1, 0, none⟩ = some (.slice none 0 0) := by rw [cell_of_row _ _ _ _ _ _ b1]; rfl
  have p2 : W0.cell? ⟨w.heap.size + 1 + 1, 0, none⟩ = some (.slice none 0 0) := by rw [cell_of_row _ _ _ _ _ _ b2]; rfl
  have p3 : W0.cell? ⟨w.heap.size + 1 + 1 + 1 + 1 + 1, 0, none⟩ = some (.func (.func 23) #[] #[.pointer (some ⟨w.heap.size + 1, 0, none⟩), .pointer (some ⟨w.heap.size + 1 + 1, 0, none⟩), .pointer (some ⟨w.heap.size + 1 + 1 + 1 + 1, 0, none⟩), .pointer (some ⟨w.heap.size + 1 + 1 + 1 + 1 + 1, 0, none⟩)]) := by rw [cell_of_row _ _ _ _ _ _ b5]; rfl
  have hV := hid (vis_block W0 w.heap.size n _ _ (w.heap.size + 1 + 1 + 1 + 1) _ ⟨p1, p2, p3⟩ bk bd A m d (hB.no hk0))
  have hKa := hid hka
  have hk0a := hid (hk0.trans hka)
  have c3 := hid ((hka.block (w.heap.size + 1 + 1 + 1) (by omega) (fun h => h)).trans b3)
  have c4 := hid ((hka.block (w.heap.size + 1 + 1 + 1 + 1) (by omega) (fun h => h)).trans b4)
  have hlt : w.heap.size + 6 ≤ (w1.alloc (.cells (trC 30 ⟨#[]⟩ (some ⟨bk, 0, none⟩) 3 3) 25)).heap.size := by have := ha.size; omega
  clear b0 b1 b2 b3 b4 b5 p1 p2 p3 a5 ha hka hK1 hk0 h1 hB
  go_wp2_with fail
  refine (hV.out _ hKa.out).mono ?_
  rintro e w2 ⟨rfl, hK2⟩
  have d3 := (hK2.block (w.heap.size + 1 + 1 + 1) (by omega) (fun h => h)).trans c3.out
  have d4 := (hK2.block (w.heap.size + 1 + 1 + 1 + 1) (by omega) (fun h => h)).trans c4.out
  have q4 : w2.cell? ⟨w.heap.size + 1 + 1 + 1 + 1, 0, none⟩ = some (.map (some (w.heap.size + 1 + 1 + 1))) := by rw [cell_of_row _ _ _ _ _ _ d4]; rfl
  have hr := run_range_map (P := Tryz.prog) w2 61 _ _ _ _ _ Tryz.underlying61 d3
  have hn := fun ty => next_none (P := Tryz.prog) w2 ty _ 0 0 0 d3 (Nat.le_refl 0)
  have HK := hid ((hk0a.out.trans hK2).trans (Kt.alloc w2 (.mapIter (some (w.heap.size + 1 + 1 + 1)) 0 #[] 0)))
  clear hK2 c3 c4 d3 d4 hV hKa hk0a p5
  go_wp2_with fail
  refine wp_loop_rounds 1 ?_
  rw [rounds_succ]
  go_wp2_with fail
  refine (sort_nil _ _).mono ?_
  rintro e w3 ⟨rfl, rfl⟩
  go_wp2
  go_returns
  exact ⟨rfl, HK.out⟩
end Go.Proofs.YtpbbnkpplcnaoaaGreatDoor
