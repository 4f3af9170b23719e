/- Law 32, plain: DequeTwo. -/
import Derived.Test.YtappkgmbdoiocaaDoorU2
import Derived.Test.YtappkgmbdoiocaaDoorD8
set_option linter.unusedVariables false
set_option linter.unusedSimpArgs false
namespace Go.Proofs.YtappkgmbdoiocaaDoor
open Go.RowKit
open Go.Lib hiding intOf

theorem mget_no {κ ν : Type} {q : κ → κ → Bool} {k : κ} : ∀ {l : List (κ × ν)}, (∀ y ∈ l, q k y.1 = false) → mget q k l = none ∧ ∀ v, mput q k v l = l ++ [(k, v)]
  | [], _ => ⟨rfl, fun _ => rfl⟩
  | x :: r, h => by
    obtain ⟨h1, h2⟩ := mget_no (l := r) fun y hy => h y (List.mem_cons_of_mem _ hy)
    have h3 := h x List.mem_cons_self
    exact ⟨by simp [mget, h3, h1], fun v => by simp [mput, h3, h2]⟩
theorem keq_cell {x y : Nat} (hx : x < 100) (hy : y < 100) (h : x ≠ y) : keq_KeyD (cellK x) (cellK y) = false := by
  unfold keq_KeyD cellK
  simp only [beq_self_eq_true, Bool.true_and, itoaS_list, itoa_nat]
  rw [beq_eq_false_iff_ne]
  intro e
  have h1 := decI_dec (n := x) (by omega)
  rw [e, decI_dec (by omega)] at h1
  omega
theorem fst_key (k : KeyD) : KeyD.mk k.Kind k.Text = k := rfl
/-- the keys of cells a, a + 1 .. -/
noncomputable def seg (a n : Nat) : List KeyD := (List.range' a n).map cellK
theorem seg_len (a n : Nat) : (seg a n).length = n := by simp [seg]
theorem seg_head (a n : Nat) : seg a (n + 1) = cellK a :: seg (a + 1) n := by simp [seg, List.range'_succ]
theorem seg_last (a n : Nat) : seg a (n + 1) = seg a n ++ [cellK (a + n)] := by simp [seg, List.range'_concat]
structure TwoI (m g a p : Nat) (s : List (KeyD × Bool) × Int × Int × Int × List KeyD) : Prop where
  sum : a + p = g
  low : s.2.1 = (a : Int)
  high : s.2.2.1 = (m : Int) - 1 - p
  at_ : s.2.2.2.1 = (g : Int)
  keys : s.2.2.2.2 = seg a (m - g)
  len : s.1.length = g
  seen : ∀ y ∈ s.1, ∃ x : Nat, x < 100 ∧ (x < a ∨ m ≤ x + p) ∧ y.1 = cellK x
theorem two_j4 {m g a p x : Nat} {seen : List (KeyD × Bool)} {lo hi : Int} {d : List KeyD} (hx : x < 100) (ha : a ≤ x) (hp : x + p < m) (hg : g ≤ 100) (hs : ∀ y ∈ seen, ∃ x : Nat, x < 100 ∧ (x < a ∨ m ≤ x + p) ∧ y.1 = cellK x) :
    law32_DequeTwo_j4 seen (g : Int) lo hi true d (cellK x).Kind (cellK x).Text (cellK x).Kind (cellK x).Text = some (.go (seen ++ [(cellK x, true)], lo, hi, (g : Int) + 1, d)) := by
  obtain ⟨h1, h2⟩ := mget_no (q := keq_KeyD) (k := cellK x) (l := seen) fun y hy => by
    obtain ⟨z, hz, hz2, e⟩ := hs y hy
    rw [e]; exact keq_cell hx hz (by omega)
  unfold law32_DequeTwo_j4 law32_DequeTwo_j3
  rw [fst_key, h1, h2, w64 (by omega) (by omega)]
  simp
theorem two_is (n : Int) (turns : List Bool) : law32_DequeTwo n turns = some true := by
  have key : Ok (law32_DequeTwo n turns) fun b => b = true := by
    unfold law32_DequeTwo
    obtain ⟨m, hm, em⟩ := mod_is n (m := 30) (by omega) (by omega)
    rw [show mill_Mod n 30 = some (m : Int) from em, Option.bind_some]
    refine Ok.loop (fun k s => s.1 = (k : Int) ∧ k ≤ m ∧ s.2 = seg 0 k) (fun r => r = seg 0 m) m ⟨rfl, by omega, rfl⟩ (fun k s hk hI => ?_) (fun r hr => ?_)
    · obtain ⟨e1, _, e2⟩ := hI
      rw [e1, e2]
      unfold law32_DequeTwo_l8
      refine Ok.cond (fun e => ?_) (fun e => Ok.ret ?_)
      · have e : k < m := by have := of_decide_eq_true e; omega
        rw [ref23_cell (by omega), Option.bind_some, push_is (by rw [seg_len]; omega) (key_cell (by omega)), if_pos (by rw [seg_len]; omega), Option.bind_some, w64 (by omega) (by omega)]
        exact Ok.ret ⟨e, rfl, by omega, by rw [seg_last, Nat.zero_add]⟩
      · have e : ¬ k < m := by have := of_decide_eq_false e; omega
        rw [show k = m by omega]
    · subst hr
      unfold law32_DequeTwo_j7
      rw [w64 (by omega) (by omega)]
      refine Ok.loop (fun k s => ∃ a p, TwoI m k a p s) (fun r => ∃ s, r = Fl.go (s, ([] : List KeyD)) ∧ s.length = m) m ⟨0, 0, rfl, rfl, by simp, rfl, rfl, rfl, fun y hy => (by cases hy)⟩ (fun g s hg hI => ?_) (fun r hr => ?_)
      · obtain ⟨a, p, hI⟩ := hI
        obtain ⟨seen, lo, hi, at_, d⟩ := s
        obtain ⟨i1, i2, i3, i4, i5, i6, i7⟩ := hI
        simp only at i2 i3 i4 i5 i6 i7
        subst i2 i3 i4 i5
        unfold law32_DequeTwo_l6
        dsimp only
        refine Ok.cond (fun e => ?_) (fun e => ?_)
        · have e : g < m := by have := of_decide_eq_true e; omega
          have j5 : ∀ b, Ok (law32_DequeTwo_j5 seen (a : Int) ((m : Int) - 1 - p) (g : Int) (seg a (m - g)) b) fun r => match r with
              | .go s' => g < m ∧ ∃ a p, TwoI m (g + 1) a p s'
              | .out r => ∃ s, r = Fl.go (s, ([] : List KeyD)) ∧ s.length = m := fun b => by
            unfold law32_DequeTwo_j5
            have h1 : m - g = (m - (g + 1)) + 1 := by omega
            rw [show ((m : Int) - 1 - p) = ((m - 1 - p : Nat) : Int) by omega, ref23_cell (by omega), Option.bind_some]
            refine Ok.cond (fun _ => ?_) (fun _ => ?_)
            · rw [h1, seg_head, steal_cons (by rw [seg_len]; omega), Option.bind_some, ref23_cell (by omega), Option.bind_some]
              dsimp only
              rw [two_j4 (m := m) (a := a) (p := p) (by omega) (by omega) (by omega) (by omega) i7, w64 (by omega) (by omega)]
              refine Ok.ret ⟨e, a + 1, p, by omega, by simp, by dsimp only; omega, by simp, by dsimp only, by simp [i6], fun y hy => ?_⟩
              rcases List.mem_append.1 hy with h | h
              · obtain ⟨x, hx, hx2, e2⟩ := i7 y h
                exact ⟨x, hx, by omega, e2⟩
              · simp only [List.mem_cons, List.not_mem_nil, or_false] at h
                subst h; exact ⟨a, by omega, by omega, rfl⟩
            · rw [h1, seg_last, pop_snoc (by rw [seg_len]; omega), Option.bind_some]
              dsimp only
              rw [show a + (m - (g + 1)) = m - 1 - p by omega]
              rw [two_j4 (m := m) (a := a) (p := p) (by omega) (by omega) (by omega) (by omega) i7, w64 (by omega) (by omega)]
              refine Ok.ret ⟨e, a, p + 1, by omega, by simp, by dsimp only; omega, by simp, by dsimp only, by simp [i6], fun y hy => ?_⟩
              rcases List.mem_append.1 hy with h | h
              · obtain ⟨x, hx, hx2, e2⟩ := i7 y h
                exact ⟨x, hx, by omega, e2⟩
              · simp only [List.mem_cons, List.not_mem_nil, or_false] at h
                subst h; exact ⟨m - 1 - p, by omega, by omega, rfl⟩
          refine Ok.cond (fun e2 => Ok.get (by omega) (by have := of_decide_eq_true e2; omega) fun v _ _ => (j5 v).mono fun y hy => by cases y <;> exact hy) (fun _ => (j5 false).mono fun y hy => by cases y <;> exact hy)
        · have e : ¬ g < m := by have := of_decide_eq_false e; omega
          have : m - g = 0 := by omega
          rw [this]
          exact Ok.ret ⟨seen, rfl, by omega⟩
      · obtain ⟨s, rfl, hs⟩ := hr
        simp only [Fl.el]
        unfold law32_DequeTwo_j2
        rw [pop_nil, steal_nil, law32_awake_is, hs]
        simp only [Option.bind_some, Bool.not_false, cond_true, beq_self_eq_true]
        exact Ok.ret rfl
  obtain ⟨b, e, rfl⟩ := key
  exact e
end Go.Proofs.YtappkgmbdoiocaaDoor
