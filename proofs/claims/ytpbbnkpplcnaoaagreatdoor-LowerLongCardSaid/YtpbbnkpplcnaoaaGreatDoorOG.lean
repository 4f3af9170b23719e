/- LowerLong: the document's Body. -/
import Derived.Test.YtpbbnkpplcnaoaaGreatDoorOF
set_option linter.unusedVariables false
set_option linter.unusedSimpArgs false
namespace Go.Proofs.YtpbbnkpplcnaoaaGreatDoor
open Go.RowKit

theorem el33 : elI Tryz.prog 33 = some (3, 1, 8) := by kernel_rfl
/-- what the document's Body returns -/
def OutS (P : Int) (M : List Op4) (r nx2 : Int) (w : World) (e : Ending) (w' : World) : Prop :=
  ∃ v', Kt No w w' ∧ ((M.length + 1 ≤ 4000 ∧ e = .returned (.agg #[.int .i64 P, .int .i64 (max nx2 1), v']) ∧ Own w' w.heap.size 35 6 v' ((M ++ [(⟨18, 0, r, 0⟩ : Op4)]).flatMap opE)) ∨
    (4000 < M.length + 1 ∧ e = .returned (.agg #[.int .i64 P, .int .i64 (max P 1), v']) ∧ Own w' w.heap.size 35 6 v' (([⟨19, 0, 0, 0⟩, ⟨18, 0, 0, 0⟩] : List Op4).flatMap opE)))

theorem step_append_own {P : Program} {ops : Array Oper} {o : Oper} {a : Act} {w : World} {K : Act → World → Prop} {Q : Exit → Act → World → Prop} {E : Prop}
    (hg : o.guard = none) (s x : Operand) (t : TypeId) (ho : o.op = .call { callee := .builtin .append, args := #[s, x], argTypes := #[t, t] })
    (e : TypeId) (size bytes : Nat) (El : Elem P t e size bytes) (B : Nat) (v : Value) (xs : List Value) (hs : a.eval s = v) (hown : Own w B e size v xs)
    (A : Option Addr) (m c : Nat) (news : List Value) (hx : a.eval x = .slice A m c) (hl : news.length = m * size) (hat : At w A news) (h1 : ∀ u ∈ news, u.oneCell' = true)
    (h63 : xs.length + news.length ≤ maxLen) (hbytes : (xs.length + news.length) * bytes ≤ 140737488355328) (hbase : B ≤ w.heap.size)
    (h : ∀ v' w', Own w' B e size v' (xs ++ news) → w.grownBy w' v.ownBlock → (v'.ownBlock = v.ownBlock ∨ v'.ownBlock = some w.heap.size) → K (a.put o.dst v') w') :
    if Region.wanted o (yielded ops a.tmps) = true then Oper.wp P o a w K Q else E := by
  rw [if_pos (by simp [Region.wanted, hg])]
  exact wp_append_Own w s x t ho e size bytes El B v xs hs hown A m c news hx hl hat h1 h63 hbytes hbase h
/-- the state of the parameters' loop -/
structure PL (w W : World) (p : Nat) (vs rs : Value) (xs ys : List Value) : Prop where
  row : W.heap[p]? = some (.cells #[.slice none 0 0, .int .i64 0, vs, rs, .slice none 0 0, .slice none 0 0, .slice none 0 0] 70 (0, 0))
  v1 : Own W w.heap.size 9 1 vs xs
  v2 : Own W w.heap.size 3 1 rs ys
theorem PL.c2 {w W : World} {p : Nat} {vs rs : Value} {xs ys : List Value} (h : PL w W p vs rs xs ys) : W.cell? ⟨p, 2, none⟩ = some vs ∧ W.frozen? ⟨p, 2, none⟩ = false := ⟨by rw [cell_of_row _ _ _ _ _ _ h.row]; rfl, by simp [World.frozen?, h.row]⟩
theorem PL.c3 {w W : World} {p : Nat} {vs rs : Value} {xs ys : List Value} (h : PL w W p vs rs xs ys) : W.cell? ⟨p, 3, none⟩ = some rs ∧ W.frozen? ⟨p, 3, none⟩ = false := ⟨by rw [cell_of_row _ _ _ _ _ _ h.row]; rfl, by simp [World.frozen?, h.row]⟩
theorem PL.later {w W W' : World} {p : Nat} {vs rs : Value} {xs ys : List Value} (h : PL w W p vs rs xs ys) (k : Kt No W W') : PL w W' p vs rs xs ys :=
  ⟨(k.block p (Array.getElem?_eq_some_iff.1 h.row).1 (fun h => h)).trans h.row, h.v1.later k.below, h.v2.later k.below⟩
theorem PL.mid2 {w W W2 : World} {p : Nat} {vs rs : Value} {xs ys : List Value} (h : PL w W p vs rs xs ys) (hg : W.grownBy W2 vs.ownBlock) : W2.cell? ⟨p, 2, none⟩ = some vs ∧ W2.frozen? ⟨p, 2, none⟩ = false := by
  have hr := (hg.block p (Array.getElem?_eq_some_iff.1 h.row).1 (fun e => own_no h.v1 h.row (by decide) e.symm)).trans h.row
  exact ⟨by rw [cell_of_row _ _ _ _ _ _ hr]; rfl, by simp [World.frozen?, hr]⟩
theorem PL.mid3 {w W W2 : World} {p : Nat} {vs rs : Value} {xs ys : List Value} (h : PL w W p vs rs xs ys) (hg : W.grownBy W2 rs.ownBlock) : W2.cell? ⟨p, 3, none⟩ = some rs ∧ W2.frozen? ⟨p, 3, none⟩ = false := by
  have hr := (hg.block p (Array.getElem?_eq_some_iff.1 h.row).1 (fun e => own_no h.v2 h.row (by decide) e.symm)).trans h.row
  exact ⟨by rw [cell_of_row _ _ _ _ _ _ hr]; rfl, by simp [World.frozen?, hr]⟩
/-- the first list has grown -/
theorem PL.set2 {w W W2 : World} {p : Nat} {vs rs vs2 : Value} {xs ys xs2 : List Value} (h : PL w W p vs rs xs ys) (hg : W.grownBy W2 vs.ownBlock) (ho : Own W2 w.heap.size 9 1 vs2 xs2) : PL w (W2.setCell ⟨p, 2, none⟩ vs2) p vs2 rs xs2 ys := by
  have hr := (hg.block p (Array.getElem?_eq_some_iff.1 h.row).1 (fun e => own_no h.v1 h.row (by decide) e.symm)).trans h.row
  have hk := Kt.setCell W2 ⟨p, 2, none⟩ vs2
  refine ⟨by simp only [World.setCell, Array.getElem?_modify, hr, if_true]; rfl, ho.kept hk.grownBy_ (.inr (own_no ho hr (by decide))), (h.v2.kept hg ?_).kept hk.grownBy_ (.inr (own_no h.v2 h.row (by decide)))⟩
  cases hb : rs.ownBlock with
  | none => exact .inl rfl
  | some g =>
    right
    rw [← hb]
    intro e
    obtain ⟨_, _, cs, fz, hx, _⟩ := h.v2.blk g hb
    exact own_no h.v1 hx (by decide) (e.symm.trans hb)
theorem PL.set3 {w W W2 : World} {p : Nat} {vs rs rs2 : Value} {xs ys ys2 : List Value} (h : PL w W p vs rs xs ys) (hg : W.grownBy W2 rs.ownBlock) (ho : Own W2 w.heap.size 3 1 rs2 ys2) : PL w (W2.setCell ⟨p, 3, none⟩ rs2) p vs rs2 xs ys2 := by
  have hr := (hg.block p (Array.getElem?_eq_some_iff.1 h.row).1 (fun e => own_no h.v2 h.row (by decide) e.symm)).trans h.row
  have hk := Kt.setCell W2 ⟨p, 3, none⟩ rs2
  refine ⟨by simp only [World.setCell, Array.getElem?_modify, hr, if_true]; rfl, (h.v1.kept hg ?_).kept hk.grownBy_ (.inr (own_no h.v1 h.row (by decide))), ho.kept hk.grownBy_ (.inr (own_no ho hr (by decide)))⟩
  cases hb : vs.ownBlock with
  | none => exact .inl rfl
  | some g =>
    right
    rw [← hb]
    intro e
    obtain ⟨_, _, cs, fz, hx, _⟩ := h.v1.blk g hb
    exact own_no h.v2 hx (by decide) (e.symm.trans hb)

structure Sh (T : Prop) : Prop where
  out : T
theorem share {T G : Prop} (h : Sh T → G) (t : T) : G := h ⟨t⟩

set_option maxRecDepth 100000 in
set_option maxHeartbeats 16000000 in
theorem bodyS_two (w : World) (bt ba : Nat) (hl : bt < w.heap.size) (hl2 : ba < w.heap.size) (h1 : TrAt w bt 4 12 ⟨#[]⟩ (some ⟨ba, 0, none⟩) 2 2) (h2 : TrAt w ba 0 13 sx none 0 0) (h3 : TrAt w ba 4 13 sy none 0 0)
    (k : Int) (s : ByteArray) (A : Option Addr) (m d : Nat) (h4 : TrAt w bt (3 * 4) k s A m d) (M : List Op4) (r nx2 : Int) (hM : M.length ≤ 7000)
    (HV : ∀ w1 p vs rs ns gs ts v, Kt No w w1 → w.heap.size ≤ p → St14 w1 w.heap.size p vs rs ns gs ts v [] 2 → Calls Tryz.prog 30 #[.pointer (some ⟨p, 0, none⟩), trV k s A m d] w1 (fun e w' => e = .returned (.int .i64 r) ∧ ∃ v', St14 w' w.heap.size p vs rs ns gs ts v' M nx2 ∧ Fr p v w1 v' w')) :
    Calls Tryz.prog 12 #[trV 4 ⟨#[]⟩ (some ⟨bt, 0, none⟩) 4 4, .slice none 0 0, .slice none 0 0, .slice none 0 0] w (OutS 2 M r nx2 w) := by
  obtain ⟨t0, t1, t2, t3⟩ := h1
  have T3 := hid t3
  obtain ⟨a0, a1, a2, a3⟩ := h2
  obtain ⟨b0, b1, b2, b3⟩ := h3
  simp only [Nat.zero_add, Nat.reduceAdd] at t0 t1 t2 t3 a0 a1 a2 a3 b0 b1 b2 b3
  have lt1 : bt < w.heap.size + 1 := by omega
  have lt2 : bt < w.heap.size + 1 + 1 := by omega
  have lu1 : ba < w.heap.size + 1 := by omega
  have lu2 : ba < w.heap.size + 1 + 1 := by omega
  have H4 := hid h4
  have HVi := hid HV
  clear h4 HV
  go_enter Tryz.func12, Tryz.ntmps12
  go_wp2_with fail
  refine wp_loop_rounds 3 ?_
  rw [rounds_succ]
  go_wp2_with fail
  generalize hW1 : World.alloc (World.alloc (World.alloc (World.alloc w _) _) _) _ = W1
  have hk1 : Kt No w W1 := by subst hW1; exact (((Kt.alloc _ _).trans (Kt.alloc _ _)).trans (Kt.alloc _ _)).trans (Kt.alloc _ _)
  have hs1 : W1.heap.size = w.heap.size + 4 := by subst hW1; simp
  have e0 : W1.heap[w.heap.size]? = some (.cells (trC 4 ⟨#[]⟩ (some ⟨bt, 0, none⟩) 4 4) 25 (0, 0)) := by
    subst hW1
    simp only [World.alloc, Array.getElem?_push, Array.size_push]
    rw [if_neg (by omega), if_neg (by omega), if_neg (by omega), if_pos trivial]
  have e1 : W1.heap[w.heap.size + 1]? = some (.cells #[.int .i64 0, .int .i64 0, .slice none 0 0] 31 (0, 0)) := by
    subst hW1
    simp only [World.alloc, Array.getElem?_push, Array.size_push]
    rw [if_neg (by omega), if_neg (by omega), if_pos trivial]
  have e2 : W1.heap[w.heap.size + 1 + 1]? = some (.cells #[.slice none 0 0, .int .i64 0, .slice none 0 0, .slice none 0 0, .slice none 0 0, .slice none 0 0, .slice none 0 0] 70 (0, 0)) := by
    subst hW1
    simp only [World.alloc, Array.getElem?_push, Array.size_push]
    rw [if_neg (by omega), if_pos trivial]
  have e3 : W1.heap[w.heap.size + 1 + 1 + 1]? = some (.cells (trC 13 sx none 0 0) 25 (0, 0)) := by
    subst hW1
    simp only [World.alloc, Array.getElem?_push, Array.size_push]
    rw [if_pos trivial]
  clear hW1
  have hP : PL w W1 (w.heap.size + 1 + 1) (.slice none 0 0) (.slice none 0 0) [] [] := ⟨e2, Own.nil_ _ _ _ _, Own.nil_ _ _ _ _⟩
  obtain ⟨p2, p2f⟩ := hP.c2
  have x1 : W1.cell? ⟨w.heap.size + 1 + 1 + 1, 1, none⟩ = some (.string sx) := by rw [cell_of_row _ _ _ _ _ _ e3]; rfl
  have E0 := hid e0
  have E1 := hid e1
  have HP := hid hP
  have hB1 : w.heap.size ≤ W1.heap.size + 1 := by omega
  have hpl : w.heap.size + 1 + 1 < W1.heap.size := by omega
  clear e0 e1 e2 e3 hP
  apply share
  · intro KEY
    go_region_law (refine step_append_own rfl _ _ 36 rfl _ 1 16 (elI_el el36) w.heap.size (.slice none 0 0) [] rfl (Own.nil_ _ _ _ _) (some ⟨_, 0, none⟩) 1 1 [.string sx] rfl rfl (at_one W1 _ _ _ hs1.symm) (by intro u hu; rw [List.mem_singleton] at hu; subst hu; rfl) (by show 0 + 1 ≤ maxLen; unfold maxLen; omega) (by show (0 + 1) * 16 ≤ _; omega) (by first | omega | (simp; omega)) ?_; intro v2 w2 ho2 hg2 hat2; have hgg := (World.grownBy_alloc W1.drew _ (Value.slice none 0 0).ownBlock).trans hg2; obtain ⟨Ax, nx, cx, rfl, _⟩ := ho2.form (by decide); have q2 := (HP.out.later (Kt.drew W1)).set2 hgg ho2; obtain ⟨y2, y2f⟩ := (HP.out.later (Kt.drew W1)).mid2 hgg)
    all_goals
      clear y2 y2f
      have hkg : Kt (fun k => k = w.heap.size + 1 + 1) W1 (w2.setCell ⟨w.heap.size + 1 + 1, 2, none⟩ (.slice Ax nx cx)) :=
        (Kt.drew W1).no.trans (((Kt.grown hgg).mono fun k hk => by cases hk).trans (Kt.setCell w2 ⟨w.heap.size + 1 + 1, 2, none⟩ _))
      generalize hW2 : w2.setCell ⟨w.heap.size + 1 + 1, 2, none⟩ (.slice Ax nx cx) = W2 at *
      have hk2 : Kt No w W2 := hk1.step hkg (fun k hk => .inr (by omega))
      have E0 := hid ((hkg.block _ (by omega) (by omega)).trans E0.out)
      have E1 := hid ((hkg.block _ (by omega) (by omega)).trans E1.out)
      have hs2 := hkg.size
      obtain ⟨p3, p3f⟩ := q2.c3
      have Q2 := hid q2
      have hpl2 : w.heap.size + 1 + 1 < W2.heap.size := by omega
      clear hkg hgg hg2 ho2 hat2 q2 hW2
      rename_i hz
      clear hz
      revert Ax nx cx W2
      exact KEY.out
  intro Ax nx cx W2 hk2 E0 E1 hs2 p3 p3f Q2 hpl2
  clear p2 p2f x1 HP hk1
  go_wp2_with (at_builtin; refine wpl_append _ rfl _ _ 33 rfl _ 1 8 (elI_el el33) w.heap.size (.slice none 0 0) [] rfl (Own.nil_ _ _ _ _) (some ⟨_, 0, none⟩) 1 1 [.int .i64 0] rfl rfl (at_one W2 _ _ _ rfl) (by intro u hu; rw [List.mem_singleton] at hu; subst hu; rfl) (by show 0 + 1 ≤ maxLen; unfold maxLen; omega) (by show (0 + 1) * 8 ≤ _; omega) (by first | omega | (simp; omega)) ?_; intro v3 w3 ho3 hg3 hat3; have hgg := (World.grownBy_alloc W2 _ (Value.slice none 0 0).ownBlock).trans hg3; obtain ⟨Ay, ny, cy, rfl, _⟩ := ho3.form (by decide); have q3 := Q2.out.set3 hgg ho3; obtain ⟨y3, y3f⟩ := Q2.out.mid3 hgg)
  clear y3 y3f p3 p3f
  have hkg : Kt (fun k => k = w.heap.size + 1 + 1) W2 (w3.setCell ⟨w.heap.size + 1 + 1, 3, none⟩ (.slice Ay ny cy)) :=
    (((Kt.grown hgg).mono fun k hk => by cases hk).trans (Kt.setCell w3 ⟨w.heap.size + 1 + 1, 3, none⟩ _))
  generalize hW3 : w3.setCell ⟨w.heap.size + 1 + 1, 3, none⟩ (.slice Ay ny cy) = W3 at *
  have hk3 : Kt No w W3 := hk2.step hkg (fun k hk => .inr (by omega))
  have E0 := hid ((hkg.block _ (by omega) (by omega)).trans E0.out)
  have E1 := hid ((hkg.block _ (by omega) (by omega)).trans E1.out)
  have hs3 := hkg.size
  have Q3 := hid q3
  have hpl3 : w.heap.size + 1 + 1 < W3.heap.size := by omega
  obtain ⟨c0, c1, c2, c3⟩ := trBox (w' := W3) E0.out rfl
  have t3' := (hk3.cell (p := ⟨bt, 7, none⟩) hl (fun h => h)).trans t3
  have b0' := (hk3.cell (p := ⟨ba, 4, none⟩) hl2 (fun h => h)).trans b0
  have b1' := (hk3.cell (p := ⟨ba, 5, none⟩) hl2 (fun h => h)).trans b1
  have b2' := (hk3.cell (p := ⟨ba, 6, none⟩) hl2 (fun h => h)).trans b2
  have b3' := (hk3.cell (p := ⟨ba, 7, none⟩) hl2 (fun h => h)).trans b3
  have lb1 : ba < W3.heap.size := by omega
  have lt1' : bt < W3.heap.size := by omega
  have ln1 : w.heap.size < W3.heap.size := by omega
  clear hkg hgg hg3 ho3 hat3 q3 Q2 hW3 hk2 t0 t1 t2 t3 a0 a1 a2 a3 b0 b1 b2 b3
  rw [rounds_succ]
  go_wp2_with fail
  have hka := Kt.alloc W3 (.cells (trC 13 sy none 0 0) 25)
  have e3 := heap_alloc_new W3 (.cells (trC 13 sy none 0 0) 25)
  have Q4 := Q3.out.later hka
  have hk4 := hk3.trans hka
  have x1 : (W3.alloc (.cells (trC 13 sy none 0 0) 25)).cell? ⟨W3.heap.size, 1, none⟩ = some (.string sy) := by rw [cell_of_row _ _ _ _ _ _ e3]; rfl
  have E0 := hid ((hka.block _ ln1 (fun h => h)).trans E0.out)
  have E1 := hid ((hka.block _ (by omega) (fun h => h)).trans E1.out)
  have hs4 := hka.size
  generalize hW4 : World.alloc W3 _ = W4 at *
  obtain ⟨p2, p2f⟩ := Q4.c2
  have Q4 := hid Q4
  have hpl4 : w.heap.size + 1 + 1 < W4.heap.size := by omega
  have hB4 : w.heap.size ≤ W4.heap.size + 1 := by omega
  clear c0 c1 c2 c3 t3' b0' b1' b2' b3' hka e3 Q3 hk3 hW4
  apply share
  · intro KEY
    go_region_law (refine step_append_own rfl _ _ 36 rfl _ 1 16 (elI_el el36) w.heap.size (.slice Ax nx cx) [.string sx] rfl (Own.alloc (w := W4) Q4.out.v1 (.cells #[.string sy] 9)) (some ⟨_, 0, none⟩) 1 1 [.string sy] rfl rfl (at_one W4 _ _ _ rfl) (by intro u hu; rw [List.mem_singleton] at hu; subst hu; rfl) (by show 1 + 1 ≤ maxLen; unfold maxLen; omega) (by show (1 + 1) * 16 ≤ _; omega) (by first | omega | (simp; omega)) ?_; intro v2 w2 ho2 hg2 hat2; have hgg := (World.grownBy_alloc W4.drew _ (Value.slice Ax nx cx).ownBlock).trans hg2; obtain ⟨Ax2, nx2', cx2, rfl, _⟩ := ho2.form (by decide); have q2 := (Q4.out.later (Kt.drew W4)).set2 hgg ho2; obtain ⟨y2, y2f⟩ := (Q4.out.later (Kt.drew W4)).mid2 hgg)
    all_goals
      clear y2 y2f
      have hkg : Kt (fun k => k = w.heap.size + 1 + 1 ∨ (Value.slice Ax nx cx).ownBlock = some k) W4 (w2.setCell ⟨w.heap.size + 1 + 1, 2, none⟩ (.slice Ax2 nx2' cx2)) :=
        (Kt.drew W4).no.trans (((Kt.grown hgg).mono fun k hk => .inr hk).trans ((Kt.setCell w2 ⟨w.heap.size + 1 + 1, 2, none⟩ _).mono fun k hk => .inl hk))
      have hvn : ∀ k, (Value.slice Ax nx cx).ownBlock = some k → w.heap.size ≤ k ∧ k ≠ w.heap.size ∧ k ≠ w.heap.size + 1 := fun k hk => ⟨(Q4.out.v1.blk k hk).1, fun e => own_no Q4.out.v1 E0.out (by decide) (e ▸ hk), fun e => own_no Q4.out.v1 E1.out (by decide) (e ▸ hk)⟩
      generalize hW5 : w2.setCell ⟨w.heap.size + 1 + 1, 2, none⟩ (.slice Ax2 nx2' cx2) = W5 at *
      have hk5 : Kt No w W5 := hk4.step hkg (fun k hk => by rcases hk with rfl | hk; exact .inr (by omega); exact .inr (hvn k hk).1)
      have E0 := hid ((hkg.block w.heap.size (by omega) (fun h => by rcases h with h | h; omega; exact (hvn _ h).2.1 rfl)).trans E0.out)
      have E1 := hid ((hkg.block (w.heap.size + 1) (by omega) (fun h => by rcases h with h | h; omega; exact (hvn _ h).2.2 rfl)).trans E1.out)
      have hs5 := hkg.size
      obtain ⟨p3, p3f⟩ := q2.c3
      have Q5 := hid q2
      have hpl5 : w.heap.size + 1 + 1 < W5.heap.size := by omega
      clear hkg hgg hg2 ho2 hat2 q2 hW5 hvn
      rename_i hz
      clear hz
      revert Ax2 nx2' cx2 W5
      exact KEY.out
  intro Ax2 nx2' cx2 W5 hk5 E0 E1 hs5 p3 p3f Q5 hpl5
  clear p2 p2f x1 hk4
  go_wp2_with (at_builtin; refine wpl_append _ rfl _ _ 33 rfl _ 1 8 (elI_el el33) w.heap.size (.slice Ay ny cy) [.int .i64 0] rfl (Own.alloc (w := W5) Q5.out.v2 (.cells #[.int .i64 1] 3)) (some ⟨_, 0, none⟩) 1 1 [.int .i64 1] rfl rfl (at_one W5 _ _ _ rfl) (by intro u hu; rw [List.mem_singleton] at hu; subst hu; rfl) (by show 1 + 1 ≤ maxLen; unfold maxLen; omega) (by show (1 + 1) * 8 ≤ _; omega) (by first | omega | (simp; omega)) ?_; intro v3 w3 ho3 hg3 hat3; have hgg := (World.grownBy_alloc W5 _ (Value.slice Ay ny cy).ownBlock).trans hg3; obtain ⟨Ay2, ny2, cy2, rfl, _⟩ := ho3.form (by decide); have q3 := Q5.out.set3 hgg ho3; obtain ⟨y3, y3f⟩ := Q5.out.mid3 hgg)
  clear y3 y3f p3 p3f
  have hvn : ∀ k, (Value.slice Ay ny cy).ownBlock = some k → w.heap.size ≤ k ∧ k ≠ w.heap.size ∧ k ≠ w.heap.size + 1 := fun k hk => ⟨(Q5.out.v2.blk k hk).1, fun e => own_no Q5.out.v2 E0.out (by decide) (e ▸ hk), fun e => own_no Q5.out.v2 E1.out (by decide) (e ▸ hk)⟩
  have hkg : Kt (fun k => k = w.heap.size + 1 + 1 ∨ (Value.slice Ay ny cy).ownBlock = some k) W5 (w3.setCell ⟨w.heap.size + 1 + 1, 3, none⟩ (.slice Ay2 ny2 cy2)) :=
    (((Kt.grown hgg).mono fun k hk => .inr hk).trans ((Kt.setCell w3 ⟨w.heap.size + 1 + 1, 3, none⟩ _).mono fun k hk => .inl hk))
  generalize hW6 : w3.setCell ⟨w.heap.size + 1 + 1, 3, none⟩ (.slice Ay2 ny2 cy2) = W6 at *
  have hk6 : Kt No w W6 := hk5.step hkg (fun k hk => by rcases hk with rfl | hk; exact .inr (by omega); exact .inr (hvn k hk).1)
  have E0 := hid ((hkg.block w.heap.size (by omega) (fun h => by rcases h with h | h; omega; exact (hvn _ h).2.1 rfl)).trans E0.out)
  have E1 := hid ((hkg.block (w.heap.size + 1) (by omega) (fun h => by rcases h with h | h; omega; exact (hvn _ h).2.2 rfl)).trans E1.out)
  have hs6 := hkg.size
  have hrow := hid q3.row
  obtain ⟨c0, c1, c2, c3⟩ := trBox (w' := W6) E0.out rfl
  have t3' := (hk6.cell (p := ⟨bt, 7, none⟩) hl (fun h => h)).trans T3.out
  have p1 : W6.cell? ⟨w.heap.size + 1 + 1, 1, none⟩ = some (.int .i64 0) := by rw [cell_of_row _ _ _ _ _ _ hrow.out]; rfl
  have p1f : W6.frozen? ⟨w.heap.size + 1 + 1, 1, none⟩ = false := by simp [World.frozen?, hrow.out]
  have hpl6 : w.heap.size + 1 + 1 < W6.heap.size := by omega
  have lt6 : bt < W6.heap.size := by omega
  have ln6 : w.heap.size < W6.heap.size := by omega
  clear hkg hgg hg3 ho3 hat3 q3 Q5 hW6 hk5 hvn
  rw [rounds_succ]
  go_wp2_with fail
  have hk7 := Kt.setCell W6 ⟨w.heap.size + 1 + 1, 1, none⟩ (.int .i64 2)
  have hr7 : (W6.setCell ⟨w.heap.size + 1 + 1, 1, none⟩ (.int .i64 2)).heap[w.heap.size + 1 + 1]? = some (.cells #[.slice none 0 0, .int .i64 2, .slice Ax2 nx2' cx2, .slice Ay2 ny2 cy2, .slice none 0 0, .slice none 0 0, .slice none 0 0] 70 (0, 0)) := by
    simp only [World.setCell, Array.getElem?_modify, hrow.out, if_true]; rfl
  have E1 := hid ((hk7.block (w.heap.size + 1) (by omega) (by show w.heap.size + 1 ≠ w.heap.size + 1 + 1; omega)).trans E1.out)
  have hs7 := hk7.size
  have hk07 := hk6.step hk7 (fun k hk => .inr (by have hk : k = w.heap.size + 1 + 1 := hk; omega))
  generalize hW7 : W6.setCell ⟨w.heap.size + 1 + 1, 1, none⟩ (.int .i64 2) = W7 at *
  clear hk7 hk6 hrow E0 c0 c1 c2 c3 t3' p1 p1f hW7
  refine (last_ok W7 bt (by omega) k s A m d (H4.out.keep fun q hq => hk07.cell (by omega) (fun h => h))).mono ?_
  rintro e w8 ⟨rfl, hK8⟩
  have hk08 := hk07.trans hK8
  have hr8 := (hK8.block (w.heap.size + 1 + 1) (by omega) (fun h => h)).trans hr7
  have E1 := hid ((hK8.block (w.heap.size + 1) (by omega) (fun h => h)).trans E1.out)
  have hs8 := hK8.size
  have ha8 := Kt.alloc w8 (.cells (trC k s A m d) 25)
  have hr9 := (ha8.block (w.heap.size + 1 + 1) (by omega) (fun h => h)).trans hr8
  have E1 := hid ((ha8.block (w.heap.size + 1) (by omega) (fun h => h)).trans E1.out)
  have hk09 := hk08.trans ha8
  have hs9 := ha8.size
  have hW9 : St14 (w8.alloc (.cells (trC k s A m d) 25)) w.heap.size (w.heap.size + 1 + 1) (.slice Ax2 nx2' cx2) (.slice Ay2 ny2 cy2) (.slice none 0 0) (.slice none 0 0) (.slice none 0 0) (.slice none 0 0) [] 2 := ⟨hr9, by omega, Own.nil_ _ _ _ _⟩
  have hV := HVi.out _ _ _ _ _ _ _ _ hk09 (by omega) hW9
  have hE1l := (Array.getElem?_eq_some_iff.1 E1.out).1
  clear hK8 hk08 hr7 hr8 hr9 ha8 hW9 hk07
  go_wp2_with fail
  refine hV.mono ?_
  rintro e w10 ⟨rfl, v10, hW10, hF10⟩
  have E1 := hid ((hF10.1.block _ hE1l (fun e => by rcases e with e | e; omega; simp [Value.ownBlock] at e)).trans E1.out)
  have hk10 := hk09.step hF10.1 (fun j hj => by rcases hj with rfl | hj; exact .inr (by omega); simp [Value.ownBlock] at hj)
  have HW10 := hid hW10
  have hE2l := (Array.getElem?_eq_some_iff.1 E1.out).1
  have hv10 := own_no hW10.2.2 E1.out (by decide)
  have hv10b := fun k hk => (hW10.own k hk).1
  clear hV hF10 hW10 hk09
  go_wp2_with fail
  refine (addS_fr _ w.heap.size (w.heap.size + 1 + 1) _ _ _ _ _ v10 M nx2 18 0 r 0 HW10.out (by omega)).mono ?_
  rintro e w11 ⟨rfl, v11, hW11, hF11⟩
  have hc11 := (hF11.1.block _ hE2l (fun e => e.elim (by omega) hv10)).trans E1.out
  have hk11 := hid (hk10.step hF11.1 (fun j hj => by rcases hj with rfl | hj; exact .inr (by omega); exact .inr (hv10b j hj)))
  obtain ⟨A11, n11, cp11, hv11, hn11, _⟩ := hW11.2.2.form (by decide)
  have hnn : n11 = M.length + 1 := by have := flat_length opE_len (M ++ [(⟨18, 0, r, 0⟩ : Op4)]); rw [List.length_append, List.length_singleton] at this; omega
  subst hnn
  have q0 : w11.cell? ⟨w.heap.size + 1 + 1, 0, none⟩ = some (.slice A11 (M.length + 1) cp11) := by rw [cell_of_row _ _ _ _ _ _ hW11.1, hv11]; rfl
  have q1 : w11.cell? ⟨w.heap.size + 1 + 1, 1, none⟩ = some (.int .i64 nx2) := by rw [cell_of_row _ _ _ _ _ _ hW11.1]; rfl
  have r0 : w11.cell? ⟨w.heap.size + 1, 0, none⟩ = some (.int .i64 0) := by rw [cell_of_row _ _ _ _ _ _ hc11]; rfl
  have r1 : w11.cell? ⟨w.heap.size + 1, 1, none⟩ = some (.int .i64 0) := by rw [cell_of_row _ _ _ _ _ _ hc11]; rfl
  have r2 : w11.cell? ⟨w.heap.size + 1, 2, none⟩ = some (.slice none 0 0) := by rw [cell_of_row _ _ _ _ _ _ hc11]; rfl
  have g0 : w11.frozen? ⟨w.heap.size + 1, 0, none⟩ = false := by simp [World.frozen?, hc11]
  have g1 : w11.frozen? ⟨w.heap.size + 1, 1, none⟩ = false := by simp [World.frozen?, hc11]
  have g2 : w11.frozen? ⟨w.heap.size + 1, 2, none⟩ = false := by simp [World.frozen?, hc11]
  have hlt11 : w.heap.size + 1 < w11.heap.size := (Array.getElem?_eq_some_iff.1 hc11).1
  have HW11 := hid hW11
  have Hc11 := hid hc11
  clear HW10 hF11 hW11 hc11 hk10 E1
  by_cases hcase : M.length + 1 ≤ 4000
  · have hd : decide ((4000 : Int) < ((M.length + 1) : Int)) = false := by rw [decide_eq_false_iff_not]; omega
    go_wp2_with fail
    go_still_tail 11, (by kernel_rfl)
    change wpList _ _ _ _ _ w11.drew
    go_wp2
    refine bodyPost_ret (v := .agg #[.int .i64 2, .int .i64 (max nx2 1), .slice A11 (M.length + 1) cp11]) (by simp [results, Tryz.results12, go_sem, r0, r1, r2]) rfl ?_
    have hne := own_no HW11.out.2.2 Hc11.out (by decide)
    have hkk : Kt (fun k => k = w.heap.size + 1) w11 (((w11.setCell ⟨w.heap.size + 1, 0, none⟩ (.int .i64 2)).setCell ⟨w.heap.size + 1, 1, none⟩ (.int .i64 (max nx2 1))).setCell ⟨w.heap.size + 1, 2, none⟩ (.slice A11 (M.length + 1) cp11)).drew :=
      (((Kt.setCell _ ⟨w.heap.size + 1, 0, none⟩ _).trans (Kt.setCell _ ⟨w.heap.size + 1, 1, none⟩ _)).trans (Kt.setCell _ ⟨w.heap.size + 1, 2, none⟩ _)).trans (Kt.drew _).no
    exact ⟨v11, hk11.out.step hkk (fun k hk => .inr (by omega)), .inl ⟨hcase, by rw [hv11], HW11.out.2.2.kept hkk.grownBy_ (.inr hne)⟩⟩
  · have hd : decide ((4000 : Int) < ((M.length + 1) : Int)) = true := by rw [decide_eq_true_iff]; omega
    go_wp2
    refine bodyPost_ret (v := .agg #[.int .i64 2, .int .i64 (max 2 1), .slice (some ⟨w11.heap.size, 0, none⟩) 2 2]) (by simp [results, Tryz.results12, go_sem, r0, r1, r2, hlt11]) rfl ?_
    have hkk : Kt (fun k => k = w.heap.size + 1) w11 (((w11.setCell ⟨w.heap.size + 1, 0, none⟩ (.int .i64 2)).setCell ⟨w.heap.size + 1, 1, none⟩ (.int .i64 (max 2 1))).setCell ⟨w.heap.size + 1, 2, none⟩ (.slice (some ⟨w11.heap.size, 0, none⟩) 2 2)) :=
      ((Kt.setCell _ ⟨w.heap.size + 1, 0, none⟩ _).trans (Kt.setCell _ ⟨w.heap.size + 1, 1, none⟩ _)).trans (Kt.setCell _ ⟨w.heap.size + 1, 2, none⟩ _)
    have hsz : (((w11.setCell ⟨w.heap.size + 1, 0, none⟩ (.int .i64 2)).setCell ⟨w.heap.size + 1, 1, none⟩ (.int .i64 (max 2 1))).setCell ⟨w.heap.size + 1, 2, none⟩ (.slice (some ⟨w11.heap.size, 0, none⟩) 2 2)).heap.size = w11.heap.size := by simp [World.setCell]
    have hown := Own.lit (((w11.setCell ⟨w.heap.size + 1, 0, none⟩ (.int .i64 2)).setCell ⟨w.heap.size + 1, 1, none⟩ (.int .i64 (max 2 1))).setCell ⟨w.heap.size + 1, 2, none⟩ (.slice (some ⟨w11.heap.size, 0, none⟩) 2 2)) w.heap.size 35 6 #[.int .i64 19, .int .i64 0, .int .i64 0, .int .i64 0, .slice none 0 0, .string (ByteArray.mk #[]), .int .i64 18, .int .i64 0, .int .i64 0, .int .i64 0, .slice none 0 0, .string (ByteArray.mk #[])] 2 (by rw [hsz]; omega) rfl (by unfold maxLen; omega)
    rw [hsz] at hown
    exact ⟨_, (hk11.out.step hkk (fun k hk => .inr (by omega))).trans (Kt.alloc _ _), .inr ⟨by omega, rfl, hown⟩⟩


end Go.Proofs.YtpbbnkpplcnaoaaGreatDoor
