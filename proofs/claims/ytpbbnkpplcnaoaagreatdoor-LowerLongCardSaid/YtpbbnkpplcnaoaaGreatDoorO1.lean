/- LowerLong: an operation is added. -/
import Derived.Test.YtpbbnkpplcnaoaaGreatDoorO0
set_option linter.unusedVariables false
set_option linter.unusedSimpArgs false
namespace Go.Proofs.YtpbbnkpplcnaoaaGreatDoor
open Go.RowKit

set_option maxRecDepth 100000 in
set_option maxHeartbeats 4000000 in
theorem addW_c (w : World) (B p : Nat) (lo tg v : Value) (L : List Op4) (nx : Int) (k a b c : Int) (h : Wr w B p lo tg v L nx) (hl : L.length < 4000) :
    Rets Tryz.prog (MD [.box p [v, .int .i64 nx, lo, tg] 47, .own v 35 R_Op4.size (L.flatMap opE)]) 39 [.pointer (some ⟨p, 0, none⟩), opV k a b c] w (fun r w' => ∃ v' cl', r = .int .i64 L.length ∧ DNew w w' [.box p [v, .int .i64 nx, lo, tg] 47, .own v 35 R_Op4.size (L.flatMap opE)] [.box p [v', .int .i64 nx, lo, tg] 47, .own v' 35 R_Op4.size cl'] ∧ RowsOk R_Op4 (dT (fun k => k < B) [.box p [v', .int .i64 nx, lo, tg] 47, .own v' 35 R_Op4.size cl']) w' cl' (L ++ [⟨k, a, b, c⟩])) := by
  have hD := h.dok
  have hT : ∀ k, (fun k => k < B) k → k < w.heap.size := fun k hk => by have := h.2.1; have := h.lt; have hk : k < B := hk; omega
  have hroom : roomB (L.length + 1) = true := by unfold roomB; simp; omega
  refine enterD (c := _) Tryz.func39 rfl (fun k => k < B) 29 Tryz.ntmps39 hT rfl hD fun _a hS => ?_
  replace hS := hS.fact (RowsF R_Op4 (L.flatMap opE) L) (flat_rows _ _ _)
  refine wp_seq_k fun K1 hK1 => ?_
  refine r_list ?_
  refine wl rfl (k_box hS rfl (cs := opE ⟨k, a, b, c⟩) rfl rfl fun b1 hb1 _a w hk1 hS => ?_)
  refine wl rfl (ky (v := .int .i64 0) hS (y_assign hS rfl) rfl rfl fun _a hS => ?_)
  refine wpList_nil ?_
  try simp only [Exit.then, Exit.inBlock, ↓reduceIte, Nat.reduceEqDiff]
  refine hK1 _ _ ?_
  refine wp_seq_k fun K2 hK2 => ?_
  refine wp_seq_k fun K3 hK3 => ?_
  refine r_list ?_
  refine wl rfl (ky (v := .pointer (some ⟨p, 0, none⟩)) hS (y_move hS rfl) rfl rfl fun _a hS => ?_)
  refine wl rfl (ky (v := .pointer (some ⟨p, 0, none⟩)) hS (y_nil hS rfl) rfl rfl fun _a hS => ?_)
  refine wl rfl (ky (v := .pointer (some ⟨p, 0 + 0, none⟩)) hS (y_fld hS rfl flW0) rfl rfl fun _a hS => ?_)
  refine wl rfl (ky (v := v) hS (y_load hS rfl ty29 1 rfl id (us := [v]) rfl rfl (fun _ => rfl)) rfl rfl fun _a hS => ?_)
  refine wl rfl (ky (v := .int .i64 (L.length : Int)) hS (y_leno (R := R_Op4) (xs := L) (cl := L.flatMap opE) hS sl29 rfl 2 rfl 0 rfl) rfl rfl fun _a hS => ?_)
  refine wl rfl (ky (v := .bool (decide ((4000 : Int) ≤ (L.length : Int)))) hS (y_int hS rfl rfl rfl) rfl rfl fun _a hS => ?_)
  refine wpList_nil ?_
  try simp only [Exit.then, Exit.inBlock, ↓reduceIte, Nat.reduceEqDiff]
  refine hK3 _ _ ?_
  refine c_f hS rfl (by simp; omega) ?_
  refine wp_skip ?_
  try simp only [Exit.then, Exit.inBlock, ↓reduceIte, Nat.reduceEqDiff]
  refine hK2 _ _ ?_
  refine wp_seq_k fun K4 hK4 => ?_
  refine draws [(7, .blk v.ownBlock), (10, .blk (some p))] hS mixed rfl (fun c a d v w h => by cases d <;> exact h) fun w hQ hS => ?_
  refine dy 0 (v := .pointer (some ⟨p, 0, none⟩)) rfl (by kernel_rfl) (by kernel_rfl) (by kernel_rfl) rfl hQ hS (y_move hS rfl) rfl rfl rfl fun _a hS => ?_
  refine dy 1 (v := .pointer (some ⟨p, 0, none⟩)) rfl (by kernel_rfl) (by kernel_rfl) (by kernel_rfl) rfl hQ hS (y_move hS rfl) rfl rfl rfl fun _a hS => ?_
  refine dy 2 (v := .pointer (some ⟨p, 0, none⟩)) rfl (by kernel_rfl) (by kernel_rfl) (by kernel_rfl) rfl hQ hS (y_nil hS rfl) rfl rfl rfl fun _a hS => ?_
  refine dy 3 (v := .pointer (some ⟨p, 0 + 0, none⟩)) rfl (by kernel_rfl) (by kernel_rfl) (by kernel_rfl) rfl hQ hS (y_fld hS rfl flW0) rfl rfl rfl fun _a hS => ?_
  refine dy (l := []) 4 (v := v) rfl (by kernel_rfl) (by kernel_rfl) (by kernel_rfl) (by kernel_rfl) hQ hS (y_load hS rfl ty29 1 rfl eo_nil (us := [v]) rfl rfl (fun _ => rfl)) rfl rfl rfl fun _a hS => ?_
  refine dy (l := []) 5 (v := opV k a b c) rfl (by kernel_rfl) (by kernel_rfl) (by kernel_rfl) (by kernel_rfl) hQ hS (y_load hS rfl ty35 0 rfl eo_nil (us := opE ⟨k, a, b, c⟩) rfl rfl (fun h => by cases h)) rfl rfl rfl fun _a hS => ?_
  refine wpE_one (i := 6) rfl (by kernel_rfl) rfl (k_bslice (ps := [(0, .tmp 18)]) hS el29 ze35 (zl := [.int .i64 0, .int .i64 0, .int .i64 0, .int .i64 0, .slice none 0 0, .string (ByteArray.mk #[])]) (by kernel_rfl) rfl (us := [opE ⟨k, a, b, c⟩]) ⟨rfl, trivial⟩ (ws := opE ⟨k, a, b, c⟩) rfl rfl rfl rfl fun bs _a w hk hS => ⟨stN (hk), ?_⟩)
  replace hS := hS.lit (R := R_Op4) (us := opE ⟨k, a, b, c⟩) (xs := [⟨k, a, b, c⟩]) 0 rfl (by decide) (RowsOk.one_ (R := R_Op4) (x := ⟨k, a, b, c⟩) rfl) rfl rfl
  replace hS := hS.freeze (R := R_Op4) 0 rfl 0 rfl
  refine wpE_one (i := 7) rfl (by kernel_rfl) rfl (k_apps (R := R_Op4) (xs := L) (ys := [⟨k, a, b, c⟩]) hS el29 (by decide) (by decide) rfl rfl 2 rfl 2 rfl 0 rfl hroom rfl fun v2 cl2 _a w hk hS => ⟨stM rfl hk etOwn, ?_⟩)
  refine dy 8 (v := .pointer (some ⟨p, 0, none⟩)) rfl (by kernel_rfl) (by kernel_rfl) (by kernel_rfl) rfl hQ hS (y_nil hS rfl) rfl rfl rfl fun _a hS => ?_
  refine dy 9 (v := .pointer (some ⟨p, 0 + 0, none⟩)) rfl (by kernel_rfl) (by kernel_rfl) (by kernel_rfl) rfl hQ hS (y_fld hS rfl flW0) rfl rfl rfl fun _a hS => ?_
  refine wpE_one (i := 10) rfl (by kernel_rfl) rfl (k_store hS rfl rfl (us := [v2]) (cells1 (own_one (hS.own _ (List.mem_of_getElem? (i := 2) rfl)).1)) ty29 1 rfl rfl rfl (oc (own_one (hS.own _ (List.mem_of_getElem? (i := 2) rfl)).1) on) fun w hk hS => ⟨stM rfl hk etBox, ?_⟩)
  refine wpE_done (by kernel_rfl) ?_ _
  try simp only [Exit.then, Exit.inBlock, ↓reduceIte, Nat.reduceEqDiff]
  refine hK4 _ _ ?_
  refine wp_seq_k fun K5 hK5 => ?_
  refine r_list ?_
  refine wl rfl (ky (v := .pointer (some ⟨p, 0, none⟩)) hS (y_move hS rfl) rfl rfl fun _a hS => ?_)
  refine wl rfl (ky (v := .pointer (some ⟨p, 0, none⟩)) hS (y_nil hS rfl) rfl rfl fun _a hS => ?_)
  refine wl rfl (ky (v := .pointer (some ⟨p, 0 + 0, none⟩)) hS (y_fld hS rfl flW0) rfl rfl fun _a hS => ?_)
  refine wl rfl (ky (v := v2) hS (y_load hS rfl ty29 1 rfl id (us := [v2]) rfl rfl (fun _ => rfl)) rfl rfl fun _a hS => ?_)
  refine wl rfl (ky (v := .int .i64 ((L ++ [(⟨k, a, b, c⟩ : Op4)]).length : Int)) hS (y_leno (R := R_Op4) (xs := L ++ [(⟨k, a, b, c⟩ : Op4)]) (cl := cl2) hS sl29 rfl 2 rfl 0 rfl) rfl rfl fun _a hS => ?_)
  refine wl rfl (ky (v := .int .i64 (IntKind.i64.wrap (((L ++ [(⟨k, a, b, c⟩ : Op4)]).length : Int) - 1))) hS (y_int hS rfl rfl rfl) rfl rfl fun _a hS => ?_)
  refine wl rfl (ky (v := .int .i64 (IntKind.i64.wrap (((L ++ [(⟨k, a, b, c⟩ : Op4)]).length : Int) - 1))) hS (y_assign hS rfl) rfl rfl fun _a hS => ?_)
  refine wpList_nil ?_
  try simp only [Exit.then, Exit.inBlock, ↓reduceIte, Nat.reduceEqDiff]
  refine hK5 _ _ ?_
  refine wp_ret ?_
  try simp only [Exit.then, Exit.inBlock, ↓reduceIte, Nat.reduceEqDiff]
  refine ret_ok hS Tryz.results39 (res_tmp hS rfl res_nil) ?_
  have hwr : IntKind.i64.wrap (((L ++ [(⟨k, a, b, c⟩ : Op4)]).length : Int) - 1) = (L.length : Int) := by
    rw [IntWalk.i64_in _ (by simp; omega)]; simp
  have hrw : RowsOk R_Op4 _ _ cl2 (L ++ [(⟨k, a, b, c⟩ : Op4)]) := hS.get 0 rfl
  have hcl := rows_flat hrw
  subst hcl
  exact ⟨v2, _, by rw [hwr]; rfl, (hS.drop 0).dnew, flat_rows _ _ _⟩

set_option maxRecDepth 100000 in
set_option maxHeartbeats 4000000 in
theorem addS_c (w : World) (B p : Nat) (vs rs ns gs ts v : Value) (L : List Op4) (nx : Int) (k a b c : Int) (h : St14 w B p vs rs ns gs ts v L nx) (hl : L.length < 100000) :
    Rets Tryz.prog (MD [.box p [v, .int .i64 nx, vs, rs, ns, gs, ts] 70, .own v 35 R_Op4.size (L.flatMap opE)]) 31 [.pointer (some ⟨p, 0, none⟩), opV k a b c] w (fun r w' => ∃ v' cl', r = .int .i64 L.length ∧ DNew w w' [.box p [v, .int .i64 nx, vs, rs, ns, gs, ts] 70, .own v 35 R_Op4.size (L.flatMap opE)] [.box p [v', .int .i64 nx, vs, rs, ns, gs, ts] 70, .own v' 35 R_Op4.size cl'] ∧ RowsOk R_Op4 (dT (fun k => k < B) [.box p [v', .int .i64 nx, vs, rs, ns, gs, ts] 70, .own v' 35 R_Op4.size cl']) w' cl' (L ++ [⟨k, a, b, c⟩])) := by
  have hD := h.dok
  have hT : ∀ k, (fun k => k < B) k → k < w.heap.size := fun k hk => by have := h.2.1; have := h.lt; have hk : k < B := hk; omega
  have hroom : roomB (L.length + 1) = true := by unfold roomB; simp; omega
  refine enterD (c := _) Tryz.func31 rfl (fun k => k < B) 21 Tryz.ntmps31 hT rfl hD fun _a hS => ?_
  replace hS := hS.fact (RowsF R_Op4 (L.flatMap opE) L) (flat_rows _ _ _)
  refine wp_seq_k fun K1 hK1 => ?_
  refine r_list ?_
  refine wl rfl (k_box hS rfl (cs := opE ⟨k, a, b, c⟩) rfl rfl fun b1 hb1 _a w hk1 hS => ?_)
  refine wl rfl (ky (v := .int .i64 0) hS (y_assign hS rfl) rfl rfl fun _a hS => ?_)
  refine wpList_nil ?_
  try simp only [Exit.then, Exit.inBlock, ↓reduceIte, Nat.reduceEqDiff]
  refine hK1 _ _ ?_
  refine wp_seq_k fun K4 hK4 => ?_
  refine draws [(7, .blk v.ownBlock), (10, .blk (some p))] hS mixed rfl (fun c a d v w h => by cases d <;> exact h) fun w hQ hS => ?_
  refine dy 0 (v := .pointer (some ⟨p, 0, none⟩)) rfl (by kernel_rfl) (by kernel_rfl) (by kernel_rfl) rfl hQ hS (y_move hS rfl) rfl rfl rfl fun _a hS => ?_
  refine dy 1 (v := .pointer (some ⟨p, 0, none⟩)) rfl (by kernel_rfl) (by kernel_rfl) (by kernel_rfl) rfl hQ hS (y_move hS rfl) rfl rfl rfl fun _a hS => ?_
  refine dy 2 (v := .pointer (some ⟨p, 0, none⟩)) rfl (by kernel_rfl) (by kernel_rfl) (by kernel_rfl) rfl hQ hS (y_nil hS rfl) rfl rfl rfl fun _a hS => ?_
  refine dy 3 (v := .pointer (some ⟨p, 0 + 0, none⟩)) rfl (by kernel_rfl) (by kernel_rfl) (by kernel_rfl) rfl hQ hS (y_fld hS rfl flS0) rfl rfl rfl fun _a hS => ?_
  refine dy (l := []) 4 (v := v) rfl (by kernel_rfl) (by kernel_rfl) (by kernel_rfl) (by kernel_rfl) hQ hS (y_load hS rfl ty29 1 rfl eo_nil (us := [v]) rfl rfl (fun _ => rfl)) rfl rfl rfl fun _a hS => ?_
  refine dy (l := []) 5 (v := opV k a b c) rfl (by kernel_rfl) (by kernel_rfl) (by kernel_rfl) (by kernel_rfl) hQ hS (y_load hS rfl ty35 0 rfl eo_nil (us := opE ⟨k, a, b, c⟩) rfl rfl (fun h => by cases h)) rfl rfl rfl fun _a hS => ?_
  refine wpE_one (i := 6) rfl (by kernel_rfl) rfl (k_bslice (ps := [(0, .tmp 10)]) hS el29 ze35 (zl := [.int .i64 0, .int .i64 0, .int .i64 0, .int .i64 0, .slice none 0 0, .string (ByteArray.mk #[])]) (by kernel_rfl) rfl (us := [opE ⟨k, a, b, c⟩]) ⟨rfl, trivial⟩ (ws := opE ⟨k, a, b, c⟩) rfl rfl rfl rfl fun bs _a w hk hS => ⟨stN (hk), ?_⟩)
  replace hS := hS.lit (R := R_Op4) (us := opE ⟨k, a, b, c⟩) (xs := [⟨k, a, b, c⟩]) 0 rfl (by decide) (RowsOk.one_ (R := R_Op4) (x := ⟨k, a, b, c⟩) rfl) rfl rfl
  replace hS := hS.freeze (R := R_Op4) 0 rfl 0 rfl
  refine wpE_one (i := 7) rfl (by kernel_rfl) rfl (k_apps (R := R_Op4) (xs := L) (ys := [⟨k, a, b, c⟩]) hS el29 (by decide) (by decide) rfl rfl 2 rfl 2 rfl 0 rfl hroom rfl fun v2 cl2 _a w hk hS => ⟨stM rfl hk etOwn, ?_⟩)
  refine dy 8 (v := .pointer (some ⟨p, 0, none⟩)) rfl (by kernel_rfl) (by kernel_rfl) (by kernel_rfl) rfl hQ hS (y_nil hS rfl) rfl rfl rfl fun _a hS => ?_
  refine dy 9 (v := .pointer (some ⟨p, 0 + 0, none⟩)) rfl (by kernel_rfl) (by kernel_rfl) (by kernel_rfl) rfl hQ hS (y_fld hS rfl flS0) rfl rfl rfl fun _a hS => ?_
  refine wpE_one (i := 10) rfl (by kernel_rfl) rfl (k_store hS rfl rfl (us := [v2]) (cells1 (own_one (hS.own _ (List.mem_of_getElem? (i := 2) rfl)).1)) ty29 1 rfl rfl rfl (oc (own_one (hS.own _ (List.mem_of_getElem? (i := 2) rfl)).1) on) fun w hk hS => ⟨stM rfl hk etBox, ?_⟩)
  refine wpE_done (by kernel_rfl) ?_ _
  try simp only [Exit.then, Exit.inBlock, ↓reduceIte, Nat.reduceEqDiff]
  refine hK4 _ _ ?_
  refine wp_seq_k fun K5 hK5 => ?_
  refine r_list ?_
  refine wl rfl (ky (v := .pointer (some ⟨p, 0, none⟩)) hS (y_move hS rfl) rfl rfl fun _a hS => ?_)
  refine wl rfl (ky (v := .pointer (some ⟨p, 0, none⟩)) hS (y_nil hS rfl) rfl rfl fun _a hS => ?_)
  refine wl rfl (ky (v := .pointer (some ⟨p, 0 + 0, none⟩)) hS (y_fld hS rfl flS0) rfl rfl fun _a hS => ?_)
  refine wl rfl (ky (v := v2) hS (y_load hS rfl ty29 1 rfl id (us := [v2]) rfl rfl (fun _ => rfl)) rfl rfl fun _a hS => ?_)
  refine wl rfl (ky (v := .int .i64 ((L ++ [(⟨k, a, b, c⟩ : Op4)]).length : Int)) hS (y_leno (R := R_Op4) (xs := L ++ [(⟨k, a, b, c⟩ : Op4)]) (cl := cl2) hS sl29 rfl 2 rfl 0 rfl) rfl rfl fun _a hS => ?_)
  refine wl rfl (ky (v := .int .i64 (IntKind.i64.wrap (((L ++ [(⟨k, a, b, c⟩ : Op4)]).length : Int) - 1))) hS (y_int hS rfl rfl rfl) rfl rfl fun _a hS => ?_)
  refine wl rfl (ky (v := .int .i64 (IntKind.i64.wrap (((L ++ [(⟨k, a, b, c⟩ : Op4)]).length : Int) - 1))) hS (y_assign hS rfl) rfl rfl fun _a hS => ?_)
  refine wpList_nil ?_
  try simp only [Exit.then, Exit.inBlock, ↓reduceIte, Nat.reduceEqDiff]
  refine hK5 _ _ ?_
  refine wp_ret ?_
  try simp only [Exit.then, Exit.inBlock, ↓reduceIte, Nat.reduceEqDiff]
  refine ret_ok hS Tryz.results31 (res_tmp hS rfl res_nil) ?_
  have hwr : IntKind.i64.wrap (((L ++ [(⟨k, a, b, c⟩ : Op4)]).length : Int) - 1) = (L.length : Int) := by
    rw [IntWalk.i64_in _ (by simp; omega)]; simp
  have hrw : RowsOk R_Op4 _ _ cl2 (L ++ [(⟨k, a, b, c⟩ : Op4)]) := hS.get 0 rfl
  have hcl := rows_flat hrw
  subst hcl
  exact ⟨v2, _, by rw [hwr]; rfl, (hS.drop 0).dnew, flat_rows _ _ _⟩

/-- adding, in the words of the states -/
theorem addW_fr (w : World) (B p : Nat) (lo tg v : Value) (L : List Op4) (nx : Int) (k a b c : Int) (h : Wr w B p lo tg v L nx) (hl : L.length < 4000) :
    Calls Tryz.prog 39 #[.pointer (some ⟨p, 0, none⟩), opV k a b c] w (fun e w' => e = .returned (.int .i64 L.length) ∧ ∃ v', Wr w' B p lo tg v' (L ++ [⟨k, a, b, c⟩]) nx ∧ Fr p v w v' w') := by
  refine Calls.mono (addW_c w B p lo tg v L nx k a b c h hl) ?_
  rintro e w' ⟨r, rfl, hk, v', cl', rfl, hN, hR⟩
  have hcl := rows_flat hR
  subst hcl
  have hbox : w'.heap[p]? = some (.cells #[v', .int .i64 nx, lo, tg] 47 (0, 0)) := hN.own (.box p [v', .int .i64 nx, lo, tg] 47) (by simp)
  have hown := (hN.own (.own v' 35 R_Op4.size ((L ++ [(⟨k, a, b, c⟩ : Op4)]).flatMap opE)) (by simp)).1
  have hfrom : ∀ q, v'.ownBlock = some q → v.ownBlock = some q ∨ w.heap.size ≤ q := fun q hq => by
    rcases hN.from_ (.own v' 35 R_Op4.size ((L ++ [(⟨k, a, b, c⟩ : Op4)]).flatMap opE)) (by simp) q hq with h1 | h1
    · obtain ⟨r, hr, hrq⟩ := h1
      rcases List.mem_cons.1 hr with rfl | hr
      · have hqp : q = p := by simpa [Res.dom] using hrq.symm
        subst hqp
        exact absurd hq (own_no hown hbox (by decide))
      · rw [List.mem_singleton] at hr; subst hr; exact .inl hrq
    · exact .inr h1
  refine ⟨rfl, v', ⟨hbox, h.2.1, ?_⟩, ?_, hfrom⟩
  · rcases hown with hown | ⟨g, off, n, cap, cs, rfl, h1, _, h2⟩
    · exact .inl hown
    · refine .inr ⟨g, off, n, cap, cs, rfl, h1, ?_, h2⟩
      rcases hfrom g rfl with h3 | h3
      · exact (h.own g h3).1
      · have := h.2.1; have := h.lt; omega
  · refine hk.mono fun q hq => ?_
    obtain ⟨r, hr, hrq⟩ := hq
    rcases List.mem_cons.1 hr with rfl | hr
    · exact .inl (by simpa [Res.dom] using hrq.symm)
    · rw [List.mem_singleton] at hr; subst hr; exact .inr hrq

/-- adding, in the words of the states -/
theorem addS_fr (w : World) (B p : Nat) (vs rs ns gs ts v : Value) (L : List Op4) (nx : Int) (k a b c : Int) (h : St14 w B p vs rs ns gs ts v L nx) (hl : L.length < 100000) :
    Calls Tryz.prog 31 #[.pointer (some ⟨p, 0, none⟩), opV k a b c] w (fun e w' => e = .returned (.int .i64 L.length) ∧ ∃ v', St14 w' B p vs rs ns gs ts v' (L ++ [⟨k, a, b, c⟩]) nx ∧ Fr p v w v' w') := by
  refine Calls.mono (addS_c w B p vs rs ns gs ts v L nx k a b c h hl) ?_
  rintro e w' ⟨r, rfl, hk, v', cl', rfl, hN, hR⟩
  have hcl := rows_flat hR
  subst hcl
  have hbox : w'.heap[p]? = some (.cells #[v', .int .i64 nx, vs, rs, ns, gs, ts] 70 (0, 0)) := hN.own (.box p [v', .int .i64 nx, vs, rs, ns, gs, ts] 70) (by simp)
  have hown := (hN.own (.own v' 35 R_Op4.size ((L ++ [(⟨k, a, b, c⟩ : Op4)]).flatMap opE)) (by simp)).1
  have hfrom : ∀ q, v'.ownBlock = some q → v.ownBlock = some q ∨ w.heap.size ≤ q := fun q hq => by
    rcases hN.from_ (.own v' 35 R_Op4.size ((L ++ [(⟨k, a, b, c⟩ : Op4)]).flatMap opE)) (by simp) q hq with h1 | h1
    · obtain ⟨r, hr, hrq⟩ := h1
      rcases List.mem_cons.1 hr with rfl | hr
      · have hqp : q = p := by simpa [Res.dom] using hrq.symm
        subst hqp
        exact absurd hq (own_no hown hbox (by decide))
      · rw [List.mem_singleton] at hr; subst hr; exact .inl hrq
    · exact .inr h1
  refine ⟨rfl, v', ⟨hbox, h.2.1, ?_⟩, ?_, hfrom⟩
  · rcases hown with hown | ⟨g, off, n, cap, cs, rfl, h1, _, h2⟩
    · exact .inl hown
    · refine .inr ⟨g, off, n, cap, cs, rfl, h1, ?_, h2⟩
      rcases hfrom g rfl with h3 | h3
      · exact (h.own g h3).1
      · have := h.2.1; have := h.lt; omega
  · refine hk.mono fun q hq => ?_
    obtain ⟨r, hr, hrq⟩ := hq
    rcases List.mem_cons.1 hr with rfl | hr
    · exact .inl (by simpa [Res.dom] using hrq.symm)
    · rw [List.mem_singleton] at hr; subst hr; exact .inr hrq
end Go.Proofs.YtpbbnkpplcnaoaaGreatDoor
