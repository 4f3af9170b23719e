/- What functions of the program compute; that they do. -/
import Derived.Test.YtdappapdddnciaaDoorMT
import Derived.Test.YtdappapdddnciaaDoorQ2
import Derived.Test.YtdappapdddnciaaDoorD0
import Derived.Test.YtdappapdddnciaaDoorD1
set_option linter.unusedVariables false
set_option linter.unusedSimpArgs false
namespace Go.Proofs.YtdappapdddnciaaDoor
open Go.RowKit
noncomputable def law29_awake_j1 (g290 : Bool) : Option Bool := some (g290)
noncomputable def law29_awake_j2 (l211 : (List RecordD)) : Option Bool := (group_Of l211 1 (KeyD.mk 32 (ByteArray.mk #[49]))).bind fun u215 => (ref23_SameList u215 ([(KeyD.mk 32 (ByteArray.mk #[48])), (KeyD.mk 32 (ByteArray.mk #[49]))])).bind fun u311 => cond u311 ((group_Checks l211 u215).bind fun u314 => (ref23_Cell 2).bind fun u317 => (ref29_SameChecks u314 ([(CheckD.mk (KeyD.mk 32 (ByteArray.mk #[49])) u317)])).bind fun u321 => cond u321 ((group_Of l211 0 (KeyD.mk 32 (ByteArray.mk #[49]))).bind fun u324 => law29_awake_j1 (((u324.length : Int) : Int) == 1)) (law29_awake_j1 false)) (law29_awake_j1 false)
noncomputable def law29_awake : Option Bool := (ref23_Cell 2).bind fun u335 => law29_awake_j2 ([(RecordD.mk (KeyD.mk 32 (ByteArray.mk #[48])) (ByteArray.mk #[]) ([(KeyD.mk 32 (ByteArray.mk #[49]))]) 0 0 2 false), (RecordD.mk (KeyD.mk 32 (ByteArray.mk #[49])) (ByteArray.mk #[]) ([(KeyD.mk 32 (ByteArray.mk #[48])), u335]) 0 0 3 false)])
set_option maxRecDepth 100000 in
set_option maxHeartbeats 4000000 in
theorem law29_awake_c (T : Nat → Prop) (W0 : World) (hT : ∀ k, T k → k < W0.heap.size) (hLv : LvP T W0) (y : Bool) (hM : law29_awake = some y) : Rets Tryd.prog No 8 [] W0 (fun v w' => v = .bool y) := by
  refine enter (c := _) Tryd.func8 rfl T 42 Tryd.ntmps8 hT rfl fun a hS => ?_
  replace hS := hS.fact LvF (LvP.dn hLv)
  unfold law29_awake at hM
  refine wp_seq_k fun K4 hK4 => ?_
  refine r_list ?_
  refine wl rfl (ky (v := .bool false) hS (y_assign hS rfl) rfl rfl fun a hS => ?_)
  refine wpList_nil ?_
  try simp only [Exit.then, Exit.inBlock, ↓reduceIte, Nat.reduceEqDiff]
  refine hK4 _ _ ?_
  refine wp_seq_k fun K5 hK5 => ?_
  refine r_list ?_
  refine wl rfl (ky (v := .agg #[.int .i64 32, .string (ByteArray.mk #[48])]) hS (y_build (ps := [(0, .const (.int .i64 32)), (1, .const (.string ⟨#[48]⟩))]) hS pl32 ze32 rfl (us := [[.int .i64 32], [.string (ByteArray.mk #[48])]]) ⟨rfl, ⟨rfl, trivial⟩⟩ (ws := [.int .i64 32, .string (ByteArray.mk #[48])]) rfl) rfl rfl fun a hS => ?_)
  refine wl rfl (ky (v := .agg #[.int .i64 32, .string (ByteArray.mk #[49])]) hS (y_build (ps := [(0, .const (.int .i64 32)), (1, .const (.string ⟨#[49]⟩))]) hS pl32 ze32 rfl (us := [[.int .i64 32], [.string (ByteArray.mk #[49])]]) ⟨rfl, ⟨rfl, trivial⟩⟩ (ws := [.int .i64 32, .string (ByteArray.mk #[49])]) rfl) rfl rfl fun a hS => ?_)
  refine wl rfl (k_alloc hS ze32 rfl fun b173 hnb175 a w hk hS => ?_)
  refine wl rfl (k_alloc hS ze32 rfl fun b176 hnb178 a w hk hS => ?_)
  refine wl rfl (k_store hS rfl rfl (us := [.int .i64 32, .string (ByteArray.mk #[48])]) rfl ty32 1 rfl rfl rfl (oc rfl (oc rfl on)) fun w hk hS => ?_)
  refine wl rfl (k_store hS rfl rfl (us := [.int .i64 32, .string (ByteArray.mk #[49])]) rfl ty32 0 rfl rfl rfl (oc rfl (oc rfl on)) fun w hk hS => ?_)
  refine wpList_nil ?_
  try simp only [Exit.then, Exit.inBlock, ↓reduceIte, Nat.reduceEqDiff]
  refine hK5 _ _ ?_
  refine seq_j (J := fun a w => ∃ (l211 : (List RecordD)) (v212 : Value) (cl213 : (List Value)), St W0 No T 42 [(1, .pointer (some ⟨b173, 0, none⟩)), (2, .pointer (some ⟨b176, 0, none⟩)), (3, v212)] [.own v212 34 R_RecordD.size cl213, .box b173 [.int .i64 32, .string (ByteArray.mk #[48])] 32, .box b176 [.int .i64 32, .string (ByteArray.mk #[49])] 32] [RowsF R_RecordD cl213 l211, LvF] a w ∧ law29_awake_j2 l211 = some y) ?_ ?_
  · skip
    refine draws [] hS mixed rfl (fun c a d v w h => by cases d <;> exact h) fun w hQ hS => ?_
    refine dy (l := []) 0 (v := .agg #[.int .i64 32, .string (ByteArray.mk #[48])]) rfl (by kernel_rfl) (by kernel_rfl) (by kernel_rfl) (by kernel_rfl) hQ hS (y_load hS rfl ty32 1 rfl eo_nil (us := [.int .i64 32, .string (ByteArray.mk #[48])]) rfl rfl (fun h => by cases h)) rfl rfl rfl fun a hS => ?_
    refine dy (l := []) 1 (v := .agg #[.int .i64 32, .string (ByteArray.mk #[49])]) rfl (by kernel_rfl) (by kernel_rfl) (by kernel_rfl) (by kernel_rfl) hQ hS (y_load hS rfl ty32 0 rfl eo_nil (us := [.int .i64 32, .string (ByteArray.mk #[49])]) rfl rfl (fun h => by cases h)) rfl rfl rfl fun a hS => ?_
    refine dy (l := []) 4 (v := .agg #[.int .i64 32, .string (ByteArray.mk #[49])]) rfl (by kernel_rfl) (by kernel_rfl) (by kernel_rfl) (by kernel_rfl) hQ hS (y_load hS rfl ty32 0 rfl eo_nil (us := [.int .i64 32, .string (ByteArray.mk #[49])]) rfl rfl (fun h => by cases h)) rfl rfl rfl fun a hS => ?_
    refine dy (l := []) 5 (v := .agg #[.int .i64 32, .string (ByteArray.mk #[48])]) rfl (by kernel_rfl) (by kernel_rfl) (by kernel_rfl) (by kernel_rfl) hQ hS (y_load hS rfl ty32 1 rfl eo_nil (us := [.int .i64 32, .string (ByteArray.mk #[48])]) rfl rfl (fun h => by cases h)) rfl rfl rfl fun a hS => ?_
    obtain ⟨u335, hu335, hM⟩ := bd hM
    refine wpE_two (i := 2) (j := 6) rfl rfl (by kernel_rfl) rfl rfl ?_ ?_
    · skip
      skip
      refine id (k_bslice (ps := [(0, .tmp 8)]) hS el23 ze32 (zl := [.int .i64 0, .string (ByteArray.mk #[])]) (by kernel_rfl) rfl (us := [[.int .i64 32, .string (ByteArray.mk #[49])]]) ⟨rfl, trivial⟩ (ws := [.int .i64 32, .string (ByteArray.mk #[49])]) rfl rfl rfl rfl fun b336 a w hk hS => ⟨stN (hk), ?_⟩)
      replace hS := hS.lit (R := R_KeyD) (us := [.int .i64 32, .string (ByteArray.mk #[49])]) (xs := [(KeyD.mk 32 (ByteArray.mk #[49]))]) 0 rfl (by decide) (RowsOk.one_ (R := R_KeyD) (x := (KeyD.mk 32 (ByteArray.mk #[49]))) rfl) rfl rfl
      skip
      refine dy 3 (v := .agg #[.int .i64 32, .string (ByteArray.mk #[48]), .string (ByteArray.mk #[]), (.slice (some ⟨b336, 0, none⟩) 1 1), .int .i64 0, .int .i64 0, .int .i64 2, .bool false]) rfl (by kernel_rfl) (by kernel_rfl) (by kernel_rfl) rfl hQ hS (y_build (ps := [(0, .tmp 7), (2, .tmp 9), (5, .const (.int .i64 2))]) hS pl34 ze34 rfl (us := [[.int .i64 32, .string (ByteArray.mk #[48])], [(.slice (some ⟨b336, 0, none⟩) 1 1)], [.int .i64 2]]) ⟨rfl, ⟨(cells1 (own_one (hS.own _ (List.mem_of_getElem? (i := 0) rfl)).1)), ⟨rfl, trivial⟩⟩⟩ (ws := [.int .i64 32, .string (ByteArray.mk #[48]), .string (ByteArray.mk #[]), (.slice (some ⟨b336, 0, none⟩) 1 1), .int .i64 0, .int .i64 0, .int .i64 2, .bool false]) rfl) rfl rfl rfl fun a hS => ?_
      refine wpE_one (i := 6) rfl (by kernel_rfl) rfl (k_call hS ci12 rfl rfl (ref23_Cell_c _ _ hS.dlt (hS.get 1 rfl) 2 _ hu335) fun _ w hR a hk hA => ⟨stN (hk), ?_⟩)
      have he := Eq.symm hR
      subst he
      have hS := hA [] (fun r hr => by cases hr) List.Pairwise.nil
      refine wpE_one (i := 7) rfl (by kernel_rfl) rfl (k_bslice (ps := [(0, .tmp 12), (1, .tmp 13)]) hS el23 ze32 (zl := [.int .i64 0, .string (ByteArray.mk #[]), .int .i64 0, .string (ByteArray.mk #[])]) (by kernel_rfl) rfl (us := [[.int .i64 32, .string (ByteArray.mk #[48])], [.int .i64 u335.Kind, .string u335.Text]]) ⟨rfl, ⟨rfl, trivial⟩⟩ (ws := [.int .i64 32, .string (ByteArray.mk #[48]), .int .i64 u335.Kind, .string u335.Text]) rfl rfl rfl rfl fun b339 a w hk hS => ⟨stN (hk), ?_⟩)
      replace hS := hS.lit (R := R_KeyD) (us := [.int .i64 32, .string (ByteArray.mk #[48]), .int .i64 u335.Kind, .string u335.Text]) (xs := [(KeyD.mk 32 (ByteArray.mk #[48])), u335]) 0 rfl (by decide) ((RowsOk.one_ (R := R_KeyD) (x := (KeyD.mk 32 (ByteArray.mk #[48]))) rfl).append (RowsOk.one_ (R := R_KeyD) (x := u335) rfl)) rfl rfl
      skip
      refine dy 8 (v := .agg #[.int .i64 32, .string (ByteArray.mk #[49]), .string (ByteArray.mk #[]), (.slice (some ⟨b339, 0, none⟩) 2 2), .int .i64 0, .int .i64 0, .int .i64 3, .bool false]) rfl (by kernel_rfl) (by kernel_rfl) (by kernel_rfl) rfl hQ hS (y_build (ps := [(0, .tmp 11), (2, .tmp 14), (5, .const (.int .i64 3))]) hS pl34 ze34 rfl (us := [[.int .i64 32, .string (ByteArray.mk #[49])], [(.slice (some ⟨b339, 0, none⟩) 2 2)], [.int .i64 3]]) ⟨rfl, ⟨(cells1 (own_one (hS.own _ (List.mem_of_getElem? (i := 0) rfl)).1)), ⟨rfl, trivial⟩⟩⟩ (ws := [.int .i64 32, .string (ByteArray.mk #[49]), .string (ByteArray.mk #[]), (.slice (some ⟨b339, 0, none⟩) 2 2), .int .i64 0, .int .i64 0, .int .i64 3, .bool false]) rfl) rfl rfl rfl fun a hS => ?_
      refine wpE_one (i := 9) rfl (by kernel_rfl) rfl (k_bslice (ps := [(0, .tmp 10), (1, .tmp 15)]) hS el28 ze34 (zl := [.int .i64 0, .string (ByteArray.mk #[]), .string (ByteArray.mk #[]), .slice none 0 0, .int .i64 0, .int .i64 0, .int .i64 0, .bool false, .int .i64 0, .string (ByteArray.mk #[]), .string (ByteArray.mk #[]), .slice none 0 0, .int .i64 0, .int .i64 0, .int .i64 0, .bool false]) (by kernel_rfl) rfl (us := [[.int .i64 32, .string (ByteArray.mk #[48]), .string (ByteArray.mk #[]), (.slice (some ⟨b336, 0, none⟩) 1 1), .int .i64 0, .int .i64 0, .int .i64 2, .bool false], [.int .i64 32, .string (ByteArray.mk #[49]), .string (ByteArray.mk #[]), (.slice (some ⟨b339, 0, none⟩) 2 2), .int .i64 0, .int .i64 0, .int .i64 3, .bool false]]) ⟨rfl, ⟨rfl, trivial⟩⟩ (ws := [.int .i64 32, .string (ByteArray.mk #[48]), .string (ByteArray.mk #[]), (.slice (some ⟨b336, 0, none⟩) 1 1), .int .i64 0, .int .i64 0, .int .i64 2, .bool false, .int .i64 32, .string (ByteArray.mk #[49]), .string (ByteArray.mk #[]), (.slice (some ⟨b339, 0, none⟩) 2 2), .int .i64 0, .int .i64 0, .int .i64 3, .bool false]) rfl rfl rfl rfl fun b341 a w hk hS => ⟨stN (hk), ?_⟩)
      refine dy 10 (v := .slice (some ⟨b341, 0, none⟩) 2 2) rfl (by kernel_rfl) (by kernel_rfl) (by kernel_rfl) rfl hQ hS (y_assign hS rfl) rfl rfl rfl fun a hS => ?_
      refine wpE_done (by kernel_rfl) ?_ _
      replace hS := hS.freeze (R := R_KeyD) 2 rfl 1 rfl
      replace hS := hS.freeze (R := R_KeyD) 1 rfl 1 rfl
      replace hS := hS.lit (R := R_RecordD) (us := [.int .i64 32, .string (ByteArray.mk #[48]), .string (ByteArray.mk #[]), (.slice (some ⟨b336, 0, none⟩) 1 1), .int .i64 0, .int .i64 0, .int .i64 2, .bool false, .int .i64 32, .string (ByteArray.mk #[49]), .string (ByteArray.mk #[]), (.slice (some ⟨b339, 0, none⟩) 2 2), .int .i64 0, .int .i64 0, .int .i64 3, .bool false]) (xs := [(RecordD.mk (KeyD.mk 32 (ByteArray.mk #[48])) (ByteArray.mk #[]) ([(KeyD.mk 32 (ByteArray.mk #[49]))]) 0 0 2 false), (RecordD.mk (KeyD.mk 32 (ByteArray.mk #[49])) (ByteArray.mk #[]) ([(KeyD.mk 32 (ByteArray.mk #[48])), u335]) 0 0 3 false)]) 0 rfl (by decide) ((RowsOk.one_ (R := R_RecordD) (x := (RecordD.mk (KeyD.mk 32 (ByteArray.mk #[48])) (ByteArray.mk #[]) ([(KeyD.mk 32 (ByteArray.mk #[49]))]) 0 0 2 false)) (⟨_, rfl, (hS.get 1 rfl)⟩)).append (RowsOk.one_ (R := R_RecordD) (x := (RecordD.mk (KeyD.mk 32 (ByteArray.mk #[49])) (ByteArray.mk #[]) ([(KeyD.mk 32 (ByteArray.mk #[48])), u335]) 0 0 3 false)) (⟨_, rfl, (hS.get 0 rfl)⟩))) rfl rfl
      try simp only [Exit.then, Exit.inBlock, ↓reduceIte, Nat.reduceEqDiff]
      exact ⟨([(RecordD.mk (KeyD.mk 32 (ByteArray.mk #[48])) (ByteArray.mk #[]) ([(KeyD.mk 32 (ByteArray.mk #[49]))]) 0 0 2 false), (RecordD.mk (KeyD.mk 32 (ByteArray.mk #[49])) (ByteArray.mk #[]) ([(KeyD.mk 32 (ByteArray.mk #[48])), u335]) 0 0 3 false)]), (.slice (some ⟨b341, 0, none⟩) 2 2), ([.int .i64 32, .string (ByteArray.mk #[48]), .string (ByteArray.mk #[]), (.slice (some ⟨b336, 0, none⟩) 1 1), .int .i64 0, .int .i64 0, .int .i64 2, .bool false, .int .i64 32, .string (ByteArray.mk #[49]), .string (ByteArray.mk #[]), (.slice (some ⟨b339, 0, none⟩) 2 2), .int .i64 0, .int .i64 0, .int .i64 3, .bool false]), (hS.meet [0, 2, 1] (by decide) ⟨rfl, rfl, rfl, trivial⟩ ⟨rfl, rfl, rfl, trivial⟩ ⟨⟨0, rfl⟩, ⟨5, rfl⟩, trivial⟩), hM⟩
    · skip
      skip
      refine id (k_call hS ci12 rfl rfl (ref23_Cell_c _ _ hS.dlt (hS.get 0 rfl) 2 _ hu335) fun _ w hR a hk hA => ⟨stN (hk), ?_⟩)
      have he := Eq.symm hR
      subst he
      have hS := hA [] (fun r hr => by cases hr) List.Pairwise.nil
      refine wpE_two (i := 2) (j := 7) rfl rfl (by kernel_rfl) rfl rfl ?_ ?_
      · skip
        skip
        refine id (k_bslice (ps := [(0, .tmp 8)]) hS el23 ze32 (zl := [.int .i64 0, .string (ByteArray.mk #[])]) (by kernel_rfl) rfl (us := [[.int .i64 32, .string (ByteArray.mk #[49])]]) ⟨rfl, trivial⟩ (ws := [.int .i64 32, .string (ByteArray.mk #[49])]) rfl rfl rfl rfl fun b337 a w hk hS => ⟨stN (hk), ?_⟩)
        replace hS := hS.lit (R := R_KeyD) (us := [.int .i64 32, .string (ByteArray.mk #[49])]) (xs := [(KeyD.mk 32 (ByteArray.mk #[49]))]) 0 rfl (by decide) (RowsOk.one_ (R := R_KeyD) (x := (KeyD.mk 32 (ByteArray.mk #[49]))) rfl) rfl rfl
        skip
        refine dy 3 (v := .agg #[.int .i64 32, .string (ByteArray.mk #[48]), .string (ByteArray.mk #[]), (.slice (some ⟨b337, 0, none⟩) 1 1), .int .i64 0, .int .i64 0, .int .i64 2, .bool false]) rfl (by kernel_rfl) (by kernel_rfl) (by kernel_rfl) rfl hQ hS (y_build (ps := [(0, .tmp 7), (2, .tmp 9), (5, .const (.int .i64 2))]) hS pl34 ze34 rfl (us := [[.int .i64 32, .string (ByteArray.mk #[48])], [(.slice (some ⟨b337, 0, none⟩) 1 1)], [.int .i64 2]]) ⟨rfl, ⟨(cells1 (own_one (hS.own _ (List.mem_of_getElem? (i := 0) rfl)).1)), ⟨rfl, trivial⟩⟩⟩ (ws := [.int .i64 32, .string (ByteArray.mk #[48]), .string (ByteArray.mk #[]), (.slice (some ⟨b337, 0, none⟩) 1 1), .int .i64 0, .int .i64 0, .int .i64 2, .bool false]) rfl) rfl rfl rfl fun a hS => ?_
        refine wpE_one (i := 7) rfl (by kernel_rfl) rfl (k_bslice (ps := [(0, .tmp 12), (1, .tmp 13)]) hS el23 ze32 (zl := [.int .i64 0, .string (ByteArray.mk #[]), .int .i64 0, .string (ByteArray.mk #[])]) (by kernel_rfl) rfl (us := [[.int .i64 32, .string (ByteArray.mk #[48])], [.int .i64 u335.Kind, .string u335.Text]]) ⟨rfl, ⟨rfl, trivial⟩⟩ (ws := [.int .i64 32, .string (ByteArray.mk #[48]), .int .i64 u335.Kind, .string u335.Text]) rfl rfl rfl rfl fun b339 a w hk hS => ⟨stN (hk), ?_⟩)
        replace hS := hS.lit (R := R_KeyD) (us := [.int .i64 32, .string (ByteArray.mk #[48]), .int .i64 u335.Kind, .string u335.Text]) (xs := [(KeyD.mk 32 (ByteArray.mk #[48])), u335]) 0 rfl (by decide) ((RowsOk.one_ (R := R_KeyD) (x := (KeyD.mk 32 (ByteArray.mk #[48]))) rfl).append (RowsOk.one_ (R := R_KeyD) (x := u335) rfl)) rfl rfl
        skip
        refine dy 8 (v := .agg #[.int .i64 32, .string (ByteArray.mk #[49]), .string (ByteArray.mk #[]), (.slice (some ⟨b339, 0, none⟩) 2 2), .int .i64 0, .int .i64 0, .int .i64 3, .bool false]) rfl (by kernel_rfl) (by kernel_rfl) (by kernel_rfl) rfl hQ hS (y_build (ps := [(0, .tmp 11), (2, .tmp 14), (5, .const (.int .i64 3))]) hS pl34 ze34 rfl (us := [[.int .i64 32, .string (ByteArray.mk #[49])], [(.slice (some ⟨b339, 0, none⟩) 2 2)], [.int .i64 3]]) ⟨rfl, ⟨(cells1 (own_one (hS.own _ (List.mem_of_getElem? (i := 0) rfl)).1)), ⟨rfl, trivial⟩⟩⟩ (ws := [.int .i64 32, .string (ByteArray.mk #[49]), .string (ByteArray.mk #[]), (.slice (some ⟨b339, 0, none⟩) 2 2), .int .i64 0, .int .i64 0, .int .i64 3, .bool false]) rfl) rfl rfl rfl fun a hS => ?_
        refine wpE_one (i := 9) rfl (by kernel_rfl) rfl (k_bslice (ps := [(0, .tmp 10), (1, .tmp 15)]) hS el28 ze34 (zl := [.int .i64 0, .string (ByteArray.mk #[]), .string (ByteArray.mk #[]), .slice none 0 0, .int .i64 0, .int .i64 0, .int .i64 0, .bool false, .int .i64 0, .string (ByteArray.mk #[]), .string (ByteArray.mk #[]), .slice none 0 0, .int .i64 0, .int .i64 0, .int .i64 0, .bool false]) (by kernel_rfl) rfl (us := [[.int .i64 32, .string (ByteArray.mk #[48]), .string (ByteArray.mk #[]), (.slice (some ⟨b337, 0, none⟩) 1 1), .int .i64 0, .int .i64 0, .int .i64 2, .bool false], [.int .i64 32, .string (ByteArray.mk #[49]), .string (ByteArray.mk #[]), (.slice (some ⟨b339, 0, none⟩) 2 2), .int .i64 0, .int .i64 0, .int .i64 3, .bool false]]) ⟨rfl, ⟨rfl, trivial⟩⟩ (ws := [.int .i64 32, .string (ByteArray.mk #[48]), .string (ByteArray.mk #[]), (.slice (some ⟨b337, 0, none⟩) 1 1), .int .i64 0, .int .i64 0, .int .i64 2, .bool false, .int .i64 32, .string (ByteArray.mk #[49]), .string (ByteArray.mk #[]), (.slice (some ⟨b339, 0, none⟩) 2 2), .int .i64 0, .int .i64 0, .int .i64 3, .bool false]) rfl rfl rfl rfl fun b341 a w hk hS => ⟨stN (hk), ?_⟩)
        refine dy 10 (v := .slice (some ⟨b341, 0, none⟩) 2 2) rfl (by kernel_rfl) (by kernel_rfl) (by kernel_rfl) rfl hQ hS (y_assign hS rfl) rfl rfl rfl fun a hS => ?_
        refine wpE_done (by kernel_rfl) ?_ _
        replace hS := hS.freeze (R := R_KeyD) 2 rfl 1 rfl
        replace hS := hS.freeze (R := R_KeyD) 1 rfl 1 rfl
        replace hS := hS.lit (R := R_RecordD) (us := [.int .i64 32, .string (ByteArray.mk #[48]), .string (ByteArray.mk #[]), (.slice (some ⟨b337, 0, none⟩) 1 1), .int .i64 0, .int .i64 0, .int .i64 2, .bool false, .int .i64 32, .string (ByteArray.mk #[49]), .string (ByteArray.mk #[]), (.slice (some ⟨b339, 0, none⟩) 2 2), .int .i64 0, .int .i64 0, .int .i64 3, .bool false]) (xs := [(RecordD.mk (KeyD.mk 32 (ByteArray.mk #[48])) (ByteArray.mk #[]) ([(KeyD.mk 32 (ByteArray.mk #[49]))]) 0 0 2 false), (RecordD.mk (KeyD.mk 32 (ByteArray.mk #[49])) (ByteArray.mk #[]) ([(KeyD.mk 32 (ByteArray.mk #[48])), u335]) 0 0 3 false)]) 0 rfl (by decide) ((RowsOk.one_ (R := R_RecordD) (x := (RecordD.mk (KeyD.mk 32 (ByteArray.mk #[48])) (ByteArray.mk #[]) ([(KeyD.mk 32 (ByteArray.mk #[49]))]) 0 0 2 false)) (⟨_, rfl, (hS.get 1 rfl)⟩)).append (RowsOk.one_ (R := R_RecordD) (x := (RecordD.mk (KeyD.mk 32 (ByteArray.mk #[49])) (ByteArray.mk #[]) ([(KeyD.mk 32 (ByteArray.mk #[48])), u335]) 0 0 3 false)) (⟨_, rfl, (hS.get 0 rfl)⟩))) rfl rfl
        try simp only [Exit.then, Exit.inBlock, ↓reduceIte, Nat.reduceEqDiff]
        exact ⟨([(RecordD.mk (KeyD.mk 32 (ByteArray.mk #[48])) (ByteArray.mk #[]) ([(KeyD.mk 32 (ByteArray.mk #[49]))]) 0 0 2 false), (RecordD.mk (KeyD.mk 32 (ByteArray.mk #[49])) (ByteArray.mk #[]) ([(KeyD.mk 32 (ByteArray.mk #[48])), u335]) 0 0 3 false)]), (.slice (some ⟨b341, 0, none⟩) 2 2), ([.int .i64 32, .string (ByteArray.mk #[48]), .string (ByteArray.mk #[]), (.slice (some ⟨b337, 0, none⟩) 1 1), .int .i64 0, .int .i64 0, .int .i64 2, .bool false, .int .i64 32, .string (ByteArray.mk #[49]), .string (ByteArray.mk #[]), (.slice (some ⟨b339, 0, none⟩) 2 2), .int .i64 0, .int .i64 0, .int .i64 3, .bool false]), (hS.meet [0, 2, 1] (by decide) ⟨rfl, rfl, rfl, trivial⟩ ⟨rfl, rfl, rfl, trivial⟩ ⟨⟨0, rfl⟩, ⟨5, rfl⟩, trivial⟩), hM⟩
      · skip
        skip
        refine id (k_bslice (ps := [(0, .tmp 12), (1, .tmp 13)]) hS el23 ze32 (zl := [.int .i64 0, .string (ByteArray.mk #[]), .int .i64 0, .string (ByteArray.mk #[])]) (by kernel_rfl) rfl (us := [[.int .i64 32, .string (ByteArray.mk #[48])], [.int .i64 u335.Kind, .string u335.Text]]) ⟨rfl, ⟨rfl, trivial⟩⟩ (ws := [.int .i64 32, .string (ByteArray.mk #[48]), .int .i64 u335.Kind, .string u335.Text]) rfl rfl rfl rfl fun b337 a w hk hS => ⟨stN (hk), ?_⟩)
        replace hS := hS.lit (R := R_KeyD) (us := [.int .i64 32, .string (ByteArray.mk #[48]), .int .i64 u335.Kind, .string u335.Text]) (xs := [(KeyD.mk 32 (ByteArray.mk #[48])), u335]) 0 rfl (by decide) ((RowsOk.one_ (R := R_KeyD) (x := (KeyD.mk 32 (ByteArray.mk #[48]))) rfl).append (RowsOk.one_ (R := R_KeyD) (x := u335) rfl)) rfl rfl
        skip
        refine dy 8 (v := .agg #[.int .i64 32, .string (ByteArray.mk #[49]), .string (ByteArray.mk #[]), (.slice (some ⟨b337, 0, none⟩) 2 2), .int .i64 0, .int .i64 0, .int .i64 3, .bool false]) rfl (by kernel_rfl) (by kernel_rfl) (by kernel_rfl) rfl hQ hS (y_build (ps := [(0, .tmp 11), (2, .tmp 14), (5, .const (.int .i64 3))]) hS pl34 ze34 rfl (us := [[.int .i64 32, .string (ByteArray.mk #[49])], [(.slice (some ⟨b337, 0, none⟩) 2 2)], [.int .i64 3]]) ⟨rfl, ⟨(cells1 (own_one (hS.own _ (List.mem_of_getElem? (i := 0) rfl)).1)), ⟨rfl, trivial⟩⟩⟩ (ws := [.int .i64 32, .string (ByteArray.mk #[49]), .string (ByteArray.mk #[]), (.slice (some ⟨b337, 0, none⟩) 2 2), .int .i64 0, .int .i64 0, .int .i64 3, .bool false]) rfl) rfl rfl rfl fun a hS => ?_
        refine wpE_one (i := 2) rfl (by kernel_rfl) rfl (k_bslice (ps := [(0, .tmp 8)]) hS el23 ze32 (zl := [.int .i64 0, .string (ByteArray.mk #[])]) (by kernel_rfl) rfl (us := [[.int .i64 32, .string (ByteArray.mk #[49])]]) ⟨rfl, trivial⟩ (ws := [.int .i64 32, .string (ByteArray.mk #[49])]) rfl rfl rfl rfl fun b339 a w hk hS => ⟨stN (hk), ?_⟩)
        replace hS := hS.lit (R := R_KeyD) (us := [.int .i64 32, .string (ByteArray.mk #[49])]) (xs := [(KeyD.mk 32 (ByteArray.mk #[49]))]) 0 rfl (by decide) (RowsOk.one_ (R := R_KeyD) (x := (KeyD.mk 32 (ByteArray.mk #[49]))) rfl) rfl rfl
        skip
        refine dy 3 (v := .agg #[.int .i64 32, .string (ByteArray.mk #[48]), .string (ByteArray.mk #[]), (.slice (some ⟨b339, 0, none⟩) 1 1), .int .i64 0, .int .i64 0, .int .i64 2, .bool false]) rfl (by kernel_rfl) (by kernel_rfl) (by kernel_rfl) rfl hQ hS (y_build (ps := [(0, .tmp 7), (2, .tmp 9), (5, .const (.int .i64 2))]) hS pl34 ze34 rfl (us := [[.int .i64 32, .string (ByteArray.mk #[48])], [(.slice (some ⟨b339, 0, none⟩) 1 1)], [.int .i64 2]]) ⟨rfl, ⟨(cells1 (own_one (hS.own _ (List.mem_of_getElem? (i := 0) rfl)).1)), ⟨rfl, trivial⟩⟩⟩ (ws := [.int .i64 32, .string (ByteArray.mk #[48]), .string (ByteArray.mk #[]), (.slice (some ⟨b339, 0, none⟩) 1 1), .int .i64 0, .int .i64 0, .int .i64 2, .bool false]) rfl) rfl rfl rfl fun a hS => ?_
        refine wpE_one (i := 9) rfl (by kernel_rfl) rfl (k_bslice (ps := [(0, .tmp 10), (1, .tmp 15)]) hS el28 ze34 (zl := [.int .i64 0, .string (ByteArray.mk #[]), .string (ByteArray.mk #[]), .slice none 0 0, .int .i64 0, .int .i64 0, .int .i64 0, .bool false, .int .i64 0, .string (ByteArray.mk #[]), .string (ByteArray.mk #[]), .slice none 0 0, .int .i64 0, .int .i64 0, .int .i64 0, .bool false]) (by kernel_rfl) rfl (us := [[.int .i64 32, .string (ByteArray.mk #[48]), .string (ByteArray.mk #[]), (.slice (some ⟨b339, 0, none⟩) 1 1), .int .i64 0, .int .i64 0, .int .i64 2, .bool false], [.int .i64 32, .string (ByteArray.mk #[49]), .string (ByteArray.mk #[]), (.slice (some ⟨b337, 0, none⟩) 2 2), .int .i64 0, .int .i64 0, .int .i64 3, .bool false]]) ⟨rfl, ⟨rfl, trivial⟩⟩ (ws := [.int .i64 32, .string (ByteArray.mk #[48]), .string (ByteArray.mk #[]), (.slice (some ⟨b339, 0, none⟩) 1 1), .int .i64 0, .int .i64 0, .int .i64 2, .bool false, .int .i64 32, .string (ByteArray.mk #[49]), .string (ByteArray.mk #[]), (.slice (some ⟨b337, 0, none⟩) 2 2), .int .i64 0, .int .i64 0, .int .i64 3, .bool false]) rfl rfl rfl rfl fun b341 a w hk hS => ⟨stN (hk), ?_⟩)
        refine dy 10 (v := .slice (some ⟨b341, 0, none⟩) 2 2) rfl (by kernel_rfl) (by kernel_rfl) (by kernel_rfl) rfl hQ hS (y_assign hS rfl) rfl rfl rfl fun a hS => ?_
        refine wpE_done (by kernel_rfl) ?_ _
        replace hS := hS.freeze (R := R_KeyD) 1 rfl 0 rfl
        replace hS := hS.freeze (R := R_KeyD) 1 rfl 2 rfl
        replace hS := hS.lit (R := R_RecordD) (us := [.int .i64 32, .string (ByteArray.mk #[48]), .string (ByteArray.mk #[]), (.slice (some ⟨b339, 0, none⟩) 1 1), .int .i64 0, .int .i64 0, .int .i64 2, .bool false, .int .i64 32, .string (ByteArray.mk #[49]), .string (ByteArray.mk #[]), (.slice (some ⟨b337, 0, none⟩) 2 2), .int .i64 0, .int .i64 0, .int .i64 3, .bool false]) (xs := [(RecordD.mk (KeyD.mk 32 (ByteArray.mk #[48])) (ByteArray.mk #[]) ([(KeyD.mk 32 (ByteArray.mk #[49]))]) 0 0 2 false), (RecordD.mk (KeyD.mk 32 (ByteArray.mk #[49])) (ByteArray.mk #[]) ([(KeyD.mk 32 (ByteArray.mk #[48])), u335]) 0 0 3 false)]) 0 rfl (by decide) ((RowsOk.one_ (R := R_RecordD) (x := (RecordD.mk (KeyD.mk 32 (ByteArray.mk #[48])) (ByteArray.mk #[]) ([(KeyD.mk 32 (ByteArray.mk #[49]))]) 0 0 2 false)) (⟨_, rfl, (hS.get 1 rfl)⟩)).append (RowsOk.one_ (R := R_RecordD) (x := (RecordD.mk (KeyD.mk 32 (ByteArray.mk #[49])) (ByteArray.mk #[]) ([(KeyD.mk 32 (ByteArray.mk #[48])), u335]) 0 0 3 false)) (⟨_, rfl, (hS.get 0 rfl)⟩))) rfl rfl
        try simp only [Exit.then, Exit.inBlock, ↓reduceIte, Nat.reduceEqDiff]
        exact ⟨([(RecordD.mk (KeyD.mk 32 (ByteArray.mk #[48])) (ByteArray.mk #[]) ([(KeyD.mk 32 (ByteArray.mk #[49]))]) 0 0 2 false), (RecordD.mk (KeyD.mk 32 (ByteArray.mk #[49])) (ByteArray.mk #[]) ([(KeyD.mk 32 (ByteArray.mk #[48])), u335]) 0 0 3 false)]), (.slice (some ⟨b341, 0, none⟩) 2 2), ([.int .i64 32, .string (ByteArray.mk #[48]), .string (ByteArray.mk #[]), (.slice (some ⟨b339, 0, none⟩) 1 1), .int .i64 0, .int .i64 0, .int .i64 2, .bool false, .int .i64 32, .string (ByteArray.mk #[49]), .string (ByteArray.mk #[]), (.slice (some ⟨b337, 0, none⟩) 2 2), .int .i64 0, .int .i64 0, .int .i64 3, .bool false]), (hS.meet [0, 2, 1] (by decide) ⟨rfl, rfl, rfl, trivial⟩ ⟨rfl, rfl, rfl, trivial⟩ ⟨⟨0, rfl⟩, ⟨5, rfl⟩, trivial⟩), hM⟩
  · rintro a w ⟨l211, v212, cl213, hS, hM⟩
    unfold law29_awake_j2 at hM
    refine wp_seq_k fun K6 hK6 => ?_
    refine r_list ?_
    refine wl rfl (ky (v := v212) hS (y_move hS rfl) rfl rfl fun a hS => ?_)
    refine wl rfl (ky (v := .agg #[.int .i64 32, .string (ByteArray.mk #[49])]) hS (y_load hS rfl ty32 2 rfl id (us := [.int .i64 32, .string (ByteArray.mk #[49])]) rfl rfl (fun h => by cases h)) rfl rfl fun a hS => ?_)
    have hL := hS
    replace hL := hL.freeze (R := R_RecordD) 0 rfl 0 rfl
    obtain ⟨u215, hu215, hM⟩ := bd hM
    refine wl rfl (k_call hS ci13 rfl rfl (group_Of_c _ _ hL.dlt (hL.get 2 rfl) l211 1 (KeyD.mk 32 (ByteArray.mk #[49])) _ (hL.get 0 rfl) _ hu215) fun _ w hR a hk hA => ?_)
    obtain ⟨vz216_2, clz216_3, he, ⟨hOvz216_2, hFvz216_2, hRvz216_2⟩⟩ := hR
    replace he := he.symm
    subst he
    have hS := hA [.own vz216_2 32 R_KeyD.size clz216_3] (adds1 ⟨hOvz216_2, by decide⟩ hFvz216_2) (pw1 _)
    replace hS := hS.fact (RowsF R_KeyD clz216_3 u215) hRvz216_2
    refine wl rfl (ky (v := vz216_2) hS (y_assign hS rfl) rfl rfl fun a hS => ?_)
    refine wpList_nil ?_
    try simp only [Exit.then, Exit.inBlock, ↓reduceIte, Nat.reduceEqDiff]
    refine hK6 _ _ ?_
    refine seq_j (J := fun a w => ∃ (g290 : Bool), St W0 No T 42 [(0, .bool g290)] [] [LvF] a w ∧ law29_awake_j1 g290 = some y) ?_ ?_
    · skip
      refine draws [] hS mixed rfl (fun c a d v w h => by cases d <;> exact h) fun w hQ hS => ?_
      refine dy 0 (v := vz216_2) rfl (by kernel_rfl) (by kernel_rfl) (by kernel_rfl) rfl hQ hS (y_move hS rfl) rfl rfl rfl fun a hS => ?_
      refine dy (l := []) 1 (v := .agg #[.int .i64 32, .string (ByteArray.mk #[48])]) rfl (by kernel_rfl) (by kernel_rfl) (by kernel_rfl) (by kernel_rfl) hQ hS (y_load hS rfl ty32 2 rfl eo_nil (us := [.int .i64 32, .string (ByteArray.mk #[48])]) rfl rfl (fun h => by cases h)) rfl rfl rfl fun a hS => ?_
      refine dy (l := []) 2 (v := .agg #[.int .i64 32, .string (ByteArray.mk #[49])]) rfl (by kernel_rfl) (by kernel_rfl) (by kernel_rfl) (by kernel_rfl) hQ hS (y_load hS rfl ty32 3 rfl eo_nil (us := [.int .i64 32, .string (ByteArray.mk #[49])]) rfl rfl (fun h => by cases h)) rfl rfl rfl fun a hS => ?_
      refine wpE_one (i := 3) rfl (by kernel_rfl) rfl (k_bslice (ps := [(0, .tmp 21), (1, .tmp 22)]) hS el23 ze32 (zl := [.int .i64 0, .string (ByteArray.mk #[]), .int .i64 0, .string (ByteArray.mk #[])]) (by kernel_rfl) rfl (us := [[.int .i64 32, .string (ByteArray.mk #[48])], [.int .i64 32, .string (ByteArray.mk #[49])]]) ⟨rfl, ⟨rfl, trivial⟩⟩ (ws := [.int .i64 32, .string (ByteArray.mk #[48]), .int .i64 32, .string (ByteArray.mk #[49])]) rfl rfl rfl rfl fun b309 a w hk hS => ⟨stN (hk), ?_⟩)
      replace hS := hS.lit (R := R_KeyD) (us := [.int .i64 32, .string (ByteArray.mk #[48]), .int .i64 32, .string (ByteArray.mk #[49])]) (xs := [(KeyD.mk 32 (ByteArray.mk #[48])), (KeyD.mk 32 (ByteArray.mk #[49]))]) 0 rfl (by decide) ((RowsOk.one_ (R := R_KeyD) (x := (KeyD.mk 32 (ByteArray.mk #[48]))) rfl).append (RowsOk.one_ (R := R_KeyD) (x := (KeyD.mk 32 (ByteArray.mk #[49]))) rfl)) rfl rfl
      have hL := hS
      replace hL := hL.freeze (R := R_KeyD) 1 rfl 1 rfl
      replace hL := hL.freeze (R := R_KeyD) 0 rfl 1 rfl
      obtain ⟨u311, hu311, hM⟩ := bd hM
      refine wpE_one (i := 4) rfl (by kernel_rfl) rfl (k_call hS ci15 rfl rfl (ref23_SameList_c _ _ hL.dlt u215 ([(KeyD.mk 32 (ByteArray.mk #[48])), (KeyD.mk 32 (ByteArray.mk #[49]))]) _ _ (hL.get 1 rfl) (hL.get 0 rfl) _ hu311) fun _ w hR a hk hA => ⟨stN (hk), ?_⟩)
      have he := Eq.symm hR
      subst he
      have hS := hA [] (fun r hr => by cases hr) List.Pairwise.nil
      refine dy 5 (v := .bool u311) rfl (by kernel_rfl) (by kernel_rfl) (by kernel_rfl) rfl hQ hS (y_move hS rfl) rfl rfl rfl fun a hS => ?_
      rcases bool2 (u311) with hb313 | hb313
      · replace hM := ct hb313 hM
        refine dyg 6 (v := v212) rfl (by kernel_rfl) (by kernel_rfl) (by kernel_rfl) rfl hQ hS (y_move hS rfl) rfl rfl rfl hb313 rfl rfl fun a hS => ?_
        refine dyg 7 (v := vz216_2) rfl (by kernel_rfl) (by kernel_rfl) (by kernel_rfl) rfl hQ hS (y_move hS rfl) rfl rfl rfl hb313 rfl rfl fun a hS => ?_
        refine dyg (l := []) 9 (v := .agg #[.int .i64 32, .string (ByteArray.mk #[49])]) rfl (by kernel_rfl) (by kernel_rfl) (by kernel_rfl) (by kernel_rfl) hQ hS (y_load hS rfl ty32 4 rfl eo_nil (us := [.int .i64 32, .string (ByteArray.mk #[49])]) rfl rfl (fun h => by cases h)) rfl rfl rfl hb313 rfl rfl fun a hS => ?_
        have hL := hS
        replace hL := hL.freeze (R := R_RecordD) 2 rfl 2 rfl
        replace hL := hL.freeze (R := R_KeyD) 1 rfl 2 rfl
        obtain ⟨u314, hu314, hM⟩ := bd hM
        refine wpE_oneg (i := 8) rfl (by kernel_rfl) hS rfl rfl rfl hb313 (k_call hS ci17 rfl rfl (group_Checks_c _ _ hL.dlt (hL.get 5 rfl) l211 u215 _ _ (hL.get 1 rfl) (hL.get 0 rfl) _ hu314) fun _ w hR a hk hA => ⟨stN (hk), ?_⟩)
        obtain ⟨vz315_3, clz315_4, he, ⟨hOvz315_3, hFvz315_3, hRvz315_3⟩⟩ := hR
        replace he := he.symm
        subst he
        have hS := hA [.own vz315_3 44 R_CheckD.size clz315_4] (adds1 ⟨hOvz315_3, by decide⟩ hFvz315_3) (pw1 _)
        replace hS := hS.fact (RowsF R_CheckD clz315_4 u314) hRvz315_3
        obtain ⟨u317, hu317, hM⟩ := bd hM
        refine wpE_oneg (i := 10) rfl (by kernel_rfl) hS rfl rfl rfl hb313 (k_call hS ci12 rfl rfl (ref23_Cell_c _ _ hS.dlt (hS.get 4 rfl) 2 _ hu317) fun _ w hR a hk hA => ⟨stN (hk), ?_⟩)
        have he := Eq.symm hR
        subst he
        have hS := hA [] (fun r hr => by cases hr) List.Pairwise.nil
        refine dyg 11 (v := .agg #[.int .i64 32, .string (ByteArray.mk #[49]), .int .i64 u317.Kind, .string u317.Text]) rfl (by kernel_rfl) (by kernel_rfl) (by kernel_rfl) rfl hQ hS (y_build (ps := [(0, .tmp 29), (1, .tmp 30)]) hS pl44 ze44 rfl (us := [[.int .i64 32, .string (ByteArray.mk #[49])], [.int .i64 u317.Kind, .string u317.Text]]) ⟨rfl, ⟨rfl, trivial⟩⟩ (ws := [.int .i64 32, .string (ByteArray.mk #[49]), .int .i64 u317.Kind, .string u317.Text]) rfl) rfl rfl rfl hb313 rfl rfl fun a hS => ?_
        refine wpE_oneg (i := 12) rfl (by kernel_rfl) hS rfl rfl rfl hb313 (k_bslice (ps := [(0, .tmp 31)]) hS el39 ze44 (zl := [.int .i64 0, .string (ByteArray.mk #[]), .int .i64 0, .string (ByteArray.mk #[])]) (by kernel_rfl) rfl (us := [[.int .i64 32, .string (ByteArray.mk #[49]), .int .i64 u317.Kind, .string u317.Text]]) ⟨rfl, trivial⟩ (ws := [.int .i64 32, .string (ByteArray.mk #[49]), .int .i64 u317.Kind, .string u317.Text]) rfl rfl rfl rfl fun b319 a w hk hS => ⟨stN (hk), ?_⟩)
        replace hS := hS.lit (R := R_CheckD) (us := [.int .i64 32, .string (ByteArray.mk #[49]), .int .i64 u317.Kind, .string u317.Text]) (xs := [(CheckD.mk (KeyD.mk 32 (ByteArray.mk #[49])) u317)]) 0 rfl (by decide) (RowsOk.one_ (R := R_CheckD) (x := (CheckD.mk (KeyD.mk 32 (ByteArray.mk #[49])) u317)) rfl) rfl rfl
        have hL := hS
        replace hL := hL.freeze (R := R_CheckD) 1 rfl 1 rfl
        replace hL := hL.freeze (R := R_CheckD) 0 rfl 1 rfl
        obtain ⟨u321, hu321, hM⟩ := bd hM
        refine wpE_oneg (i := 13) rfl (by kernel_rfl) hS rfl rfl rfl hb313 (k_call hS ci16 rfl rfl (ref29_SameChecks_c _ _ hL.dlt u314 ([(CheckD.mk (KeyD.mk 32 (ByteArray.mk #[49])) u317)]) _ _ (hL.get 1 rfl) (hL.get 0 rfl) _ hu321) fun _ w hR a hk hA => ⟨stN (hk), ?_⟩)
        have he := Eq.symm hR
        subst he
        have hS := hA [] (fun r hr => by cases hr) List.Pairwise.nil
        refine dy 14 (v := .bool u321) rfl (by kernel_rfl) (by kernel_rfl) (by kernel_rfl) rfl hQ hS (y_pickt hS rfl hb313 rfl) rfl rfl rfl fun a hS => ?_
        refine dy 15 (v := .bool u321) rfl (by kernel_rfl) (by kernel_rfl) (by kernel_rfl) rfl hQ hS (y_move hS rfl) rfl rfl rfl fun a hS => ?_
        rcases bool2 (u321) with hb323 | hb323
        · replace hM := ct hb323 hM
          refine dyg 16 (v := v212) rfl (by kernel_rfl) (by kernel_rfl) (by kernel_rfl) rfl hQ hS (y_move hS rfl) rfl rfl rfl hb323 rfl rfl fun a hS => ?_
          refine dyg (l := []) 17 (v := .agg #[.int .i64 32, .string (ByteArray.mk #[49])]) rfl (by kernel_rfl) (by kernel_rfl) (by kernel_rfl) (by kernel_rfl) hQ hS (y_load hS rfl ty32 6 rfl eo_nil (us := [.int .i64 32, .string (ByteArray.mk #[49])]) rfl rfl (fun h => by cases h)) rfl rfl rfl hb323 rfl rfl fun a hS => ?_
          have hL := hS
          replace hL := hL.freeze (R := R_RecordD) 4 rfl 4 rfl
          obtain ⟨u324, hu324, hM⟩ := bd hM
          refine wpE_oneg (i := 18) rfl (by kernel_rfl) hS rfl rfl rfl hb323 (k_call hS ci13 rfl rfl (group_Of_c _ _ hL.dlt (hL.get 6 rfl) l211 0 (KeyD.mk 32 (ByteArray.mk #[49])) _ (hL.get 0 rfl) _ hu324) fun _ w hR a hk hA => ⟨stN (hk), ?_⟩)
          obtain ⟨vz325_2, clz325_3, he, ⟨hOvz325_2, hFvz325_2, hRvz325_2⟩⟩ := hR
          replace he := he.symm
          subst he
          have hS := hA [.own vz325_2 32 R_KeyD.size clz325_3] (adds1 ⟨hOvz325_2, by decide⟩ hFvz325_2) (pw1 _)
          replace hS := hS.fact (RowsF R_KeyD clz325_3 u324) hRvz325_2
          refine dyg 19 (v := .int .i64 (u324.length : Int)) rfl (by kernel_rfl) (by kernel_rfl) (by kernel_rfl) rfl hQ hS (y_leno (R := R_KeyD) (xs := u324) hS sl23 rfl 0 rfl 0 rfl) rfl rfl rfl hb323 rfl rfl fun a hS => ?_
          refine dyg 20 (v := .bool (((u324.length : Int) : Int) == 1)) rfl (by kernel_rfl) (by kernel_rfl) (by kernel_rfl) rfl hQ hS (y_int hS rfl rfl rfl) rfl rfl rfl hb323 rfl rfl fun a hS => ?_
          refine dy 21 (v := .bool (((u324.length : Int) : Int) == 1)) rfl (by kernel_rfl) (by kernel_rfl) (by kernel_rfl) rfl hQ hS (y_pickt hS rfl hb323 rfl) rfl rfl rfl fun a hS => ?_
          refine dy 22 (v := .bool (((u324.length : Int) : Int) == 1)) rfl (by kernel_rfl) (by kernel_rfl) (by kernel_rfl) rfl hQ hS (y_assign hS rfl) rfl rfl rfl fun a hS => ?_
          refine wpE_done (by kernel_rfl) ?_ _
          try simp only [Exit.then, Exit.inBlock, ↓reduceIte, Nat.reduceEqDiff]
          exact ⟨(((u324.length : Int) : Int) == 1), (hS.meet [] (by decide) ⟨rfl, trivial⟩ trivial ⟨⟨6, rfl⟩, trivial⟩), hM⟩
        · replace hM := cf hb323 hM
          refine dyn 16 rfl (by kernel_rfl) (by kernel_rfl) (by kernel_rfl) hQ hS rfl rfl rfl hb323 rfl rfl fun a hS => ?_
          refine dyn 17 rfl (by kernel_rfl) (by kernel_rfl) (by kernel_rfl) hQ hS rfl rfl rfl hb323 rfl rfl fun a hS => ?_
          refine dyn 18 rfl (by kernel_rfl) (by kernel_rfl) (by kernel_rfl) hQ hS rfl rfl rfl hb323 rfl rfl fun a hS => ?_
          refine dyn 19 rfl (by kernel_rfl) (by kernel_rfl) (by kernel_rfl) hQ hS rfl rfl rfl hb323 rfl rfl fun a hS => ?_
          refine dyn 20 rfl (by kernel_rfl) (by kernel_rfl) (by kernel_rfl) hQ hS rfl rfl rfl hb323 rfl rfl fun a hS => ?_
          refine dy 21 (v := .bool false) rfl (by kernel_rfl) (by kernel_rfl) (by kernel_rfl) rfl hQ hS (y_pickf hS rfl hb323 rfl) rfl rfl rfl fun a hS => ?_
          refine dy 22 (v := .bool false) rfl (by kernel_rfl) (by kernel_rfl) (by kernel_rfl) rfl hQ hS (y_assign hS rfl) rfl rfl rfl fun a hS => ?_
          refine wpE_done (by kernel_rfl) ?_ _
          try simp only [Exit.then, Exit.inBlock, ↓reduceIte, Nat.reduceEqDiff]
          exact ⟨false, (hS.meet [] (by decide) ⟨rfl, trivial⟩ trivial ⟨⟨5, rfl⟩, trivial⟩), hM⟩
      · replace hM := cf hb313 hM
        refine dyn 6 rfl (by kernel_rfl) (by kernel_rfl) (by kernel_rfl) hQ hS rfl rfl rfl hb313 rfl rfl fun a hS => ?_
        refine dyn 7 rfl (by kernel_rfl) (by kernel_rfl) (by kernel_rfl) hQ hS rfl rfl rfl hb313 rfl rfl fun a hS => ?_
        refine dyn 8 rfl (by kernel_rfl) (by kernel_rfl) (by kernel_rfl) hQ hS rfl rfl rfl hb313 rfl rfl fun a hS => ?_
        refine dyn 9 rfl (by kernel_rfl) (by kernel_rfl) (by kernel_rfl) hQ hS rfl rfl rfl hb313 rfl rfl fun a hS => ?_
        refine dyn 10 rfl (by kernel_rfl) (by kernel_rfl) (by kernel_rfl) hQ hS rfl rfl rfl hb313 rfl rfl fun a hS => ?_
        refine dyn 11 rfl (by kernel_rfl) (by kernel_rfl) (by kernel_rfl) hQ hS rfl rfl rfl hb313 rfl rfl fun a hS => ?_
        refine dyn 12 rfl (by kernel_rfl) (by kernel_rfl) (by kernel_rfl) hQ hS rfl rfl rfl hb313 rfl rfl fun a hS => ?_
        refine dyn 13 rfl (by kernel_rfl) (by kernel_rfl) (by kernel_rfl) hQ hS rfl rfl rfl hb313 rfl rfl fun a hS => ?_
        refine dy 14 (v := .bool false) rfl (by kernel_rfl) (by kernel_rfl) (by kernel_rfl) rfl hQ hS (y_pickf hS rfl hb313 rfl) rfl rfl rfl fun a hS => ?_
        refine dy 15 (v := .bool false) rfl (by kernel_rfl) (by kernel_rfl) (by kernel_rfl) rfl hQ hS (y_move hS rfl) rfl rfl rfl fun a hS => ?_
        refine dyn 16 rfl (by kernel_rfl) (by kernel_rfl) (by kernel_rfl) hQ hS rfl rfl rfl rfl rfl rfl fun a hS => ?_
        refine dyn 17 rfl (by kernel_rfl) (by kernel_rfl) (by kernel_rfl) hQ hS rfl rfl rfl rfl rfl rfl fun a hS => ?_
        refine dyn 18 rfl (by kernel_rfl) (by kernel_rfl) (by kernel_rfl) hQ hS rfl rfl rfl rfl rfl rfl fun a hS => ?_
        refine dyn 19 rfl (by kernel_rfl) (by kernel_rfl) (by kernel_rfl) hQ hS rfl rfl rfl rfl rfl rfl fun a hS => ?_
        refine dyn 20 rfl (by kernel_rfl) (by kernel_rfl) (by kernel_rfl) hQ hS rfl rfl rfl rfl rfl rfl fun a hS => ?_
        refine dy 21 (v := .bool false) rfl (by kernel_rfl) (by kernel_rfl) (by kernel_rfl) rfl hQ hS (y_pickf hS rfl rfl rfl) rfl rfl rfl fun a hS => ?_
        refine dy 22 (v := .bool false) rfl (by kernel_rfl) (by kernel_rfl) (by kernel_rfl) rfl hQ hS (y_assign hS rfl) rfl rfl rfl fun a hS => ?_
        refine wpE_done (by kernel_rfl) ?_ _
        try simp only [Exit.then, Exit.inBlock, ↓reduceIte, Nat.reduceEqDiff]
        exact ⟨false, (hS.meet [] (by decide) ⟨rfl, trivial⟩ trivial ⟨⟨3, rfl⟩, trivial⟩), hM⟩
    · rintro a w ⟨g290, hS, hM⟩
      unfold law29_awake_j1 at hM
      refine wp_ret ?_
      injection hM with hM
      subst hM
      try simp only [Exit.then, Exit.inBlock, ↓reduceIte, Nat.reduceEqDiff]
      refine ret_ok hS Tryd.results8 (res_tmp hS rfl res_nil) ?_
      exact rfl

noncomputable def law29_GroupOf_j1 (g2690 : Bool) : Option Bool := some (g2690)
noncomputable def law29_GroupOf_j2 (raw_ : (List KeyD)) (u1628 : ((List RecordD) × DiceD)) : Option Bool := (group_Checks u1628.1 raw_).bind fun u2691 => (ref29_Checks u1628.1 raw_).bind fun u2694 => (ref29_SameChecks u2691 u2694).bind fun u2697 => cond u2697 ((law29_awake).bind fun u2700 => law29_GroupOf_j1 u2700) (law29_GroupOf_j1 false)
noncomputable def law29_GroupOf_j3 (g3222 : (List Int)) (g3226 : Int) : Option (Fl ((List Int) × Int) (Fl (Unit) Bool)) := some (.go (g3222, IntKind.i64.wrap (g3226 + 1)))
noncomputable def law29_GroupOf_l4 (u1628 : ((List RecordD) × DiceD)) (e3993 : Int) (l4094 : (List KeyD)) (e4097 : RecordD) (e4107 : RecordD) (u4117 : KeyD) (g4185 : Int) : Option (Fl (Int) (Fl (Unit) Bool)) := cond (decide ((g4185 : Int) < ((l4094 ++ ([e4097.Key, e4107.Key, (KeyD.mk 32 (ByteArray.mk #[52])), u4117])).length : Int))) ((getI (l4094 ++ ([e4097.Key, e4107.Key, (KeyD.mk 32 (ByteArray.mk #[52])), u4117])) g4185).bind fun e4247 => (group_Of u1628.1 e3993 e4247).bind fun u4276 => (ref29_Of u1628.1 e3993 e4247).bind fun u4279 => (ref23_SameList u4276 u4279).bind fun u4293 => cond (!(u4293)) (some (.out (.out false))) ((group_Checks u1628.1 u4276).bind fun u4296 => (ref29_Checks u1628.1 u4279).bind fun u4299 => (ref29_SameChecks u4296 u4299).bind fun u4302 => cond (!(u4302)) (some (.out (.out false))) (some (.go (IntKind.i64.wrap (g4185 + 1)))))) (some (.out (.go ())))
noncomputable def law29_GroupOf_l5 (revision_ : Int) (raw_ : (List KeyD)) (u1628 : ((List RecordD) × DiceD)) (u2702 : Int) (g3222 : (List Int)) (g3226 : Int) : Option (Fl ((List Int) × Int) (Fl (Unit) Bool)) := cond (decide ((g3226 : Int) < (([revision_, IntKind.i64.wrap (u2702 - 1)]).length : Int))) ((getI g3222 g3226).bind fun e3993 => (subI raw_ 0 (raw_.length : Int)).bind fun l4094 => (getI u1628.1 0).bind fun e4097 => (getI u1628.1 (IntKind.i64.wrap ((u1628.1.length : Int) - 1))).bind fun e4107 => (ref23_Cell 0).bind fun u4117 => gd (roomB (l4094.length + ([e4097.Key, e4107.Key, (KeyD.mk 32 (ByteArray.mk #[52])), u4117]).length)) <| (loop (fun s : Int => law29_GroupOf_l4 u1628 e3993 l4094 e4097 e4107 u4117 s) 0).bind fun r => Fl.el r (fun s => law29_GroupOf_j3 g3222 g3226) (fun y => some (.out (.out y)))) (some (.out (.go ())))
noncomputable def law29_GroupOf (t_0 : (List Int)) (revision_ : Int) (raw_ : (List KeyD)) : Option Bool := (mill_Light t_0).bind fun u1617 => cond (!(u1617)) ((law29_awake).bind fun u1620 => some (u1620)) (cond (decide ((30 : Int) < (raw_.length : Int))) ((law29_awake).bind fun u1623 => some (u1623)) ((mill_Roll t_0).bind fun u1625 => (law29_records u1625).bind fun u1628 => (mill_Mod revision_ 5).bind fun u2702 => (loop (fun s : (List Int) × Int => law29_GroupOf_l5 revision_ raw_ u1628 u2702 s.1 s.2) ([revision_, IntKind.i64.wrap (u2702 - 1)], 0)).bind fun r => Fl.el r (fun s => law29_GroupOf_j2 raw_ u1628) (fun y => some (y))))
set_option maxRecDepth 100000 in
set_option maxHeartbeats 4000000 in
theorem law29_GroupOf_c (T : Nat → Prop) (W0 : World) (hT : ∀ k, T k → k < W0.heap.size) (hLv : LvP T W0) (t_0 : (List Int)) (revision_ : Int) (raw_ : (List KeyD)) (v1 : Value) (v2 : Value) (hv1 : SlR (Rep.int .i64) T W0 v1 t_0) (hv2 : SlR R_KeyD T W0 v2 raw_) (y : Bool) (hM : law29_GroupOf t_0 revision_ raw_ = some y) : Rets Tryd.prog No 3 [v1, .int .i64 revision_, v2] W0 (fun v w' => v = .bool y) := by
  refine enter (c := _) Tryd.func3 rfl T 98 Tryd.ntmps3 hT rfl fun a hS => ?_
  replace hS := hS.fact LvF (LvP.dn hLv)
  replace hS := hS.fact (SlF (Rep.int .i64) v1 t_0) (SlR.dn hv1)
  replace hS := hS.fact (SlF R_KeyD v2 raw_) (SlR.dn hv2)
  unfold law29_GroupOf at hM
  refine wp_seq_k fun K124 hK124 => ?_
  refine r_list ?_
  refine wl rfl (ky (v := .bool false) hS (y_assign hS rfl) rfl rfl fun a hS => ?_)
  refine wpList_nil ?_
  try simp only [Exit.then, Exit.inBlock, ↓reduceIte, Nat.reduceEqDiff]
  refine hK124 _ _ ?_
  refine wp_seq_k fun K125 hK125 => ?_
  refine wp_seq_k fun K126 hK126 => ?_
  refine r_list ?_
  refine wl rfl (ky (v := v1) hS (y_move hS rfl) rfl rfl fun a hS => ?_)
  obtain ⟨u1617, hu1617, hM⟩ := bd hM
  refine wl rfl (k_call hS ci7 rfl rfl (mill_Light_c _ _ hS.dlt t_0 _ (hS.get 1 rfl) _ hu1617) fun _ w hR a hk hA => ?_)
  have he := Eq.symm hR
  subst he
  have hS := hA [] (fun r hr => by cases hr) List.Pairwise.nil
  refine wl rfl (ky (v := .bool (!(u1617))) hS (y_not hS rfl) rfl rfl fun a hS => ?_)
  refine wl rfl (ky (v := .bool (!(u1617))) hS (y_move hS rfl) rfl rfl fun a hS => ?_)
  rcases bool2 (!(u1617)) with hb1619 | hb1619
  · replace hM := ct hb1619 hM
    refine wn hS rfl rfl rfl hb1619 rfl rfl fun a hS => ?_
    refine wn hS rfl rfl rfl hb1619 rfl rfl fun a hS => ?_
    refine wn hS rfl rfl rfl hb1619 rfl rfl fun a hS => ?_
    refine wl rfl (ky (v := .bool true) hS (y_pickt hS rfl hb1619 rfl) rfl rfl fun a hS => ?_)
    refine wpList_nil ?_
    try simp only [Exit.then, Exit.inBlock, ↓reduceIte, Nat.reduceEqDiff]
    refine hK126 _ _ ?_
    refine c_t hS rfl rfl ?_
    refine wp_seq_k fun K127 hK127 => ?_
    refine r_list ?_
    obtain ⟨u1620, hu1620, hM⟩ := bd hM
    refine wl rfl (k_call hS ci8 rfl rfl (law29_awake_c _ _ hS.dlt (hS.get 2 rfl) _ hu1620) fun _ w hR a hk hA => ?_)
    have he := Eq.symm hR
    subst he
    have hS := hA [] (fun r hr => by cases hr) List.Pairwise.nil
    refine wl rfl (ky (v := .bool u1620) hS (y_assign hS rfl) rfl rfl fun a hS => ?_)
    refine wpList_nil ?_
    try simp only [Exit.then, Exit.inBlock, ↓reduceIte, Nat.reduceEqDiff]
    refine hK127 _ _ ?_
    refine wp_ret ?_
    injection hM with hM
    subst hM
    try simp only [Exit.then, Exit.inBlock, ↓reduceIte, Nat.reduceEqDiff]
    refine ret_ok hS Tryd.results3 (res_tmp hS rfl res_nil) ?_
    exact rfl
  · replace hM := cf hb1619 hM
    refine wg hS rfl rfl rfl hb1619 (ky (v := v2) hS (y_move hS rfl) rfl rfl fun a hS => ?_)
    refine wg hS rfl rfl rfl hb1619 (ky (v := .int .i64 (raw_.length : Int)) hS (y_len (R := R_KeyD) (xs := raw_) hS sl23 rfl 0 rfl) rfl rfl fun a hS => ?_)
    refine wg hS rfl rfl rfl hb1619 (ky (v := .bool (decide ((30 : Int) < (raw_.length : Int)))) hS (y_int hS rfl rfl rfl) rfl rfl fun a hS => ?_)
    refine wl rfl (ky (v := .bool (decide ((30 : Int) < (raw_.length : Int)))) hS (y_pickf hS rfl hb1619 rfl) rfl rfl fun a hS => ?_)
    refine wpList_nil ?_
    try simp only [Exit.then, Exit.inBlock, ↓reduceIte, Nat.reduceEqDiff]
    refine hK126 _ _ ?_
    rcases bool2 (decide ((30 : Int) < (raw_.length : Int))) with hb1622 | hb1622
    · replace hM := ct hb1622 hM
      refine c_t hS rfl hb1622 ?_
      refine wp_seq_k fun K128 hK128 => ?_
      refine r_list ?_
      obtain ⟨u1623, hu1623, hM⟩ := bd hM
      refine wl rfl (k_call hS ci8 rfl rfl (law29_awake_c _ _ hS.dlt (hS.get 2 rfl) _ hu1623) fun _ w hR a hk hA => ?_)
      have he := Eq.symm hR
      subst he
      have hS := hA [] (fun r hr => by cases hr) List.Pairwise.nil
      refine wl rfl (ky (v := .bool u1623) hS (y_assign hS rfl) rfl rfl fun a hS => ?_)
      refine wpList_nil ?_
      try simp only [Exit.then, Exit.inBlock, ↓reduceIte, Nat.reduceEqDiff]
      refine hK128 _ _ ?_
      refine wp_ret ?_
      injection hM with hM
      subst hM
      try simp only [Exit.then, Exit.inBlock, ↓reduceIte, Nat.reduceEqDiff]
      refine ret_ok hS Tryd.results3 (res_tmp hS rfl res_nil) ?_
      exact rfl
    · replace hM := cf hb1622 hM
      refine c_f hS rfl hb1622 ?_
      refine wp_skip ?_
      try simp only [Exit.then, Exit.inBlock, ↓reduceIte, Nat.reduceEqDiff]
      refine hK125 _ _ ?_
      refine wp_seq_k fun K129 hK129 => ?_
      refine r_list ?_
      refine wl rfl (ky (v := v1) hS (y_move hS rfl) rfl rfl fun a hS => ?_)
      obtain ⟨u1625, hu1625, hM⟩ := bd hM
      refine wl rfl (k_call hS ci9 rfl rfl (mill_Roll_c _ _ hS.dlt t_0 _ (hS.get 1 rfl) _ hu1625) fun _ w hR a hk hA => ?_)
      obtain ⟨bz1626_2, vz1626_3, he, hFbz1626_2, hObz1626_2, hRvz1626_3⟩ := hR
      replace he := he.symm
      subst he
      have hS := hA [.box bz1626_2 [vz1626_3, .int .i64 u1625.At] 52] (adds1 hObz1626_2 (fun k hk => by simp only [Res.dom, Option.some.injEq] at hk; omega)) (pw1 _)
      replace hS := hS.fact (SlF (Rep.int .i64) vz1626_3 u1625.L) (hRvz1626_3.sub (dT_dT _))
      refine wl rfl (ky (v := .pointer (some ⟨bz1626_2, 0, none⟩)) hS (y_assign hS rfl) rfl rfl fun a hS => ?_)
      refine wpList_nil ?_
      try simp only [Exit.then, Exit.inBlock, ↓reduceIte, Nat.reduceEqDiff]
      refine hK129 _ _ ?_
      refine wp_seq_k fun K130 hK130 => ?_
      refine r_list ?_
      refine wl rfl (ky (v := .pointer (some ⟨bz1626_2, 0, none⟩)) hS (y_move hS rfl) rfl rfl fun a hS => ?_)
      obtain ⟨u1628, hu1628, hM⟩ := bd hM
      refine wl rfl (k_callmr hS ci10 rfl rfl 0 rfl (law29_records_c _ _ (hS.drop 0).dlt u1625 _ _ (hS.boxRow 0 rfl) (hS.notin 0 rfl) (SlR.lent (i := 0) rfl (hS.get 0 rfl)) (LvF.keep (hS.get 3 rfl) (Kt.refl _ _) (fun k hk => .inl ((dT_in (i := 0) rfl k).1 hk))) _ hu1628) fun _ w hR hk => ?_)
      obtain ⟨vz1629_3, clz1629_4, vz1629_5, he, ⟨hOvz1629_3, hFvz1629_3, hRvz1629_3⟩, hrow, hRvz1629_5⟩ := hR
      replace he := he.symm
      subst he
      refine ⟨[vz1629_5, .int .i64 u1628.2.At], [.own vz1629_3 34 R_RecordD.size clz1629_4], hrow, adds1 ⟨hOvz1629_3, by decide⟩ hFvz1629_3, pw1 _, fun a hS => ?_⟩
      replace hS := hS.fact (RowsF R_RecordD clz1629_4 u1628.1) (hRvz1629_3.keep (Kt.refl _ _) (Nw.back2 (i := 0) rfl [.own vz1629_3 34 R_RecordD.size clz1629_4] _))
      replace hS := hS.fact (SlF (Rep.int .i64) vz1629_5 u1628.2.L) (hRvz1629_5.sub (Nw.back2 (i := 0) rfl [.own vz1629_3 34 R_RecordD.size clz1629_4] _))
      refine wl rfl (ky (v := vz1629_3) hS (y_assign hS rfl) rfl rfl fun a hS => ?_)
      refine wpList_nil ?_
      try simp only [Exit.then, Exit.inBlock, ↓reduceIte, Nat.reduceEqDiff]
      refine hK130 _ _ ?_
      refine seq_j (J := fun a w => St W0 No T 98 [(2, v2), (8, vz1629_3)] [.own vz1629_3 34 R_RecordD.size clz1629_4] [SlF R_KeyD v2 raw_, RowsF R_RecordD clz1629_4 u1628.1, LvF] a w ∧ law29_GroupOf_j2 raw_ u1628 = some y) ?_ ?_
      · skip
        refine wp_seq_k fun K208 hK208 => ?_
        refine r_list ?_
        refine wl rfl (ky (v := .int .i64 revision_) hS (y_move hS rfl) rfl rfl fun a hS => ?_)
        refine wl rfl (ky (v := .int .i64 revision_) hS (y_move hS rfl) rfl rfl fun a hS => ?_)
        obtain ⟨u2702, hu2702, hM⟩ := bd hM
        refine wl rfl (k_call hS ci11 rfl rfl (mill_Mod_c _ _ hS.dlt revision_ 5 _ hu2702) fun _ w hR a hk hA => ?_)
        have he := Eq.symm hR
        subst he
        have hS := hA [] (fun r hr => by cases hr) List.Pairwise.nil
        refine wl rfl (ky (v := .int .i64 (IntKind.i64.wrap (u2702 - 1))) hS (y_int hS rfl rfl rfl) rfl rfl fun a hS => ?_)
        refine wl rfl (k_bslice (ps := [(0, .tmp 28), (1, .tmp 31)]) hS el22 ze3 (zl := [.int .i64 0, .int .i64 0]) (by kernel_rfl) rfl (us := [[.int .i64 revision_], [.int .i64 (IntKind.i64.wrap (u2702 - 1))]]) ⟨rfl, ⟨rfl, trivial⟩⟩ (ws := [.int .i64 revision_, .int .i64 (IntKind.i64.wrap (u2702 - 1))]) rfl rfl rfl rfl fun b2704 a w hk hS => ?_)
        replace hS := hS.lit (R := (Rep.int .i64)) (us := [.int .i64 revision_, .int .i64 (IntKind.i64.wrap (u2702 - 1))]) (xs := [revision_, IntKind.i64.wrap (u2702 - 1)]) 0 rfl (by decide) ((RowsOk.one_ (R := (Rep.int .i64)) (x := revision_) rfl).append (RowsOk.one_ (R := (Rep.int .i64)) (x := IntKind.i64.wrap (u2702 - 1)) rfl)) rfl rfl
        refine wl rfl (ky (v := .int .i64 (([revision_, IntKind.i64.wrap (u2702 - 1)]).length : Int)) hS (y_leno (R := (Rep.int .i64)) (xs := [revision_, IntKind.i64.wrap (u2702 - 1)]) hS sl22 rfl 0 rfl 0 rfl) rfl rfl fun a hS => ?_)
        refine wl rfl (ky (v := .int .i64 0) hS (y_move hS rfl) rfl rfl fun a hS => ?_)
        refine wpList_nil ?_
        try simp only [Exit.then, Exit.inBlock, ↓reduceIte, Nat.reduceEqDiff]
        refine hK208 _ _ ?_
        refine wp_block ?_
        obtain ⟨r1, hl1, hMo1⟩ := bd hM
        refine wp_lp (fun s : (List Int) × Int => law29_GroupOf_l5 revision_ raw_ u1628 u2702 s.1 s.2) (fun s a w => ∃ (g3222 : (List Int)) (g3226 : Int) (v3223 : Value) (cl3224 : (List Value)), (g3222, g3226) = s ∧ St W0 No T 98 [(2, v2), (8, vz1629_3), (32, v3223), (33, .int .i64 (([revision_, IntKind.i64.wrap (u2702 - 1)]).length : Int)), (34, .int .i64 g3226)] [.own vz1629_3 34 R_RecordD.size clz1629_4, .own v3223 3 (Rep.int .i64).size cl3224] [SlF R_KeyD v2 raw_, RowsF R_RecordD clz1629_4 u1628.1, RowsF (Rep.int .i64) cl3224 g3222, LvF] a w) hl1 ⟨([revision_, IntKind.i64.wrap (u2702 - 1)]), 0, (.slice (some ⟨b2704, 0, none⟩) 2 2), ([.int .i64 revision_, .int .i64 (IntKind.i64.wrap (u2702 - 1))]), rfl, (hS.meet [1, 0] (by decide) ⟨rfl, rfl, rfl, rfl, rfl, trivial⟩ ⟨rfl, rfl, trivial⟩ ⟨⟨4, rfl⟩, ⟨2, rfl⟩, ⟨0, rfl⟩, ⟨6, rfl⟩, trivial⟩)⟩ ?_
        rintro s a w f1 ⟨g3222, g3226, v3223, cl3224, rfl, hS⟩ hM hf1
        have hM : law29_GroupOf_l5 revision_ raw_ u1628 u2702 g3222 g3226 = some f1 := hM
        unfold law29_GroupOf_l5 at hM
        refine wp_seq_k fun K285 hK285 => ?_
        refine r_list ?_
        refine wl rfl (ky (v := .bool (decide ((g3226 : Int) < (([revision_, IntKind.i64.wrap (u2702 - 1)]).length : Int)))) hS (y_int hS rfl rfl rfl) rfl rfl fun a hS => ?_)
        refine wpList_nil ?_
        try simp only [Exit.then, Exit.inBlock, ↓reduceIte, Nat.reduceEqDiff]
        refine hK285 _ _ ?_
        refine wp_seq_k fun K286 hK286 => ?_
        rcases bool2 (decide ((g3226 : Int) < (([revision_, IntKind.i64.wrap (u2702 - 1)]).length : Int))) with hb3739 | hb3739
        · replace hM := ct hb3739 hM
          refine c_t hS rfl hb3739 ?_
          refine wp_skip ?_
          try simp only [Exit.then, Exit.inBlock, ↓reduceIte, Nat.reduceEqDiff]
          refine hK286 _ _ ?_
          refine seq_j (J := fun a w => St W0 No T 98 [(2, v2), (8, vz1629_3), (32, v3223), (33, .int .i64 (([revision_, IntKind.i64.wrap (u2702 - 1)]).length : Int)), (34, .int .i64 g3226)] [.own vz1629_3 34 R_RecordD.size clz1629_4, .own v3223 3 (Rep.int .i64).size cl3224] [SlF R_KeyD v2 raw_, RowsF R_RecordD clz1629_4 u1628.1, RowsF (Rep.int .i64) cl3224 g3222, LvF] a w ∧ law29_GroupOf_j3 g3222 g3226 = some f1) ?_ ?_
          · skip
            refine wp_block ?_
            refine wp_seq_k fun K305 hK305 => ?_
            refine r_list ?_
            obtain ⟨e3993, he3993, hM⟩ := bd hM
            refine wl rfl (k_indexo (R := (Rep.int .i64)) hS sl22 ty3 rfl rfl 1 rfl 2 rfl he3993 rfl fun b3994 o3995 p4000 cs3997 hr3996 hO3998 hC3999 a hS => ?_)
            obtain rfl := hr3996
            refine wl rfl (ky (v := .int .i64 e3993) hS (y_loado (k := 0) hS ty3 1 rfl hO3998 hC3999 rfl id (us := [.int .i64 e3993]) rfl rfl (fun _ => rfl)) rfl rfl fun a hS => ?_)
            refine wl rfl (ky (v := .int .i64 e3993) hS (y_assign hS rfl) rfl rfl fun a hS => ?_)
            refine wpList_nil ?_
            try simp only [Exit.then, Exit.inBlock, ↓reduceIte, Nat.reduceEqDiff]
            refine hK305 _ _ ?_
            refine wp_seq_k fun K306 hK306 => ?_
            refine draws [] hS mixed rfl (fun c a d v w h => by cases d <;> exact h) fun w hQ hS => ?_
            refine dy 0 (v := v2) rfl (by kernel_rfl) (by kernel_rfl) (by kernel_rfl) rfl hQ hS (y_move hS rfl) rfl rfl rfl fun a hS => ?_
            refine dy 1 (v := v2) rfl (by kernel_rfl) (by kernel_rfl) (by kernel_rfl) rfl hQ hS (y_move hS rfl) rfl rfl rfl fun a hS => ?_
            refine dy 2 (v := .int .i64 (raw_.length : Int)) rfl (by kernel_rfl) (by kernel_rfl) (by kernel_rfl) rfl hQ hS (y_len (R := R_KeyD) (xs := raw_) hS sl23 rfl 0 rfl) rfl rfl rfl fun a hS => ?_
            refine dy 3 (v := v2) rfl (by kernel_rfl) (by kernel_rfl) (by kernel_rfl) rfl hQ hS (y_move hS rfl) rfl rfl rfl fun a hS => ?_
            refine dy 4 (v := .int .i64 (raw_.length : Int)) rfl (by kernel_rfl) (by kernel_rfl) (by kernel_rfl) rfl hQ hS (y_len (R := R_KeyD) (xs := raw_) hS sl23 rfl 0 rfl) rfl rfl rfl fun a hS => ?_
            obtain ⟨l4094, hl4094, hM⟩ := bd hM
            obtain ⟨v4095, hy4096, hS⟩ := d_full (R := R_KeyD) hS sl23 ty32 0 rfl hl4094
            refine dy 5 (v := v4095) rfl (by kernel_rfl) (by kernel_rfl) (by kernel_rfl) rfl hQ hS (hy4096 (k1 := .i64) rfl (.inr ⟨rfl, rfl⟩) rfl rfl) rfl rfl rfl fun a hS => ?_
            refine dy 6 (v := vz1629_3) rfl (by kernel_rfl) (by kernel_rfl) (by kernel_rfl) rfl hQ hS (y_move hS rfl) rfl rfl rfl fun a hS => ?_
            obtain ⟨e4097, he4097, hM⟩ := bd hM
            obtain ⟨b4099, o4100, p4105, cs4102, hr4101, hO4103, hC4104, hy4106⟩ := d_indexo (R := R_RecordD) hS sl28 ty34 0 rfl 3 rfl he4097
            obtain ⟨v4098, rfl, hv4098⟩ := hr4101
            replace hS := hS.fact (SlF R_KeyD v4098 e4097.Reads) hv4098
            refine dy 7 (v := .pointer (some ⟨b4099, o4100, none⟩)) rfl (by kernel_rfl) (by kernel_rfl) (by kernel_rfl) rfl hQ hS (hy4106 rfl rfl) rfl rfl rfl fun a hS => ?_
            refine dy 8 (v := .pointer (some ⟨b4099, o4100 + 0, none⟩)) rfl (by kernel_rfl) (by kernel_rfl) (by kernel_rfl) rfl hQ hS (y_fld hS rfl fl34_0) rfl rfl rfl fun a hS => ?_
            refine dy (l := []) 9 (v := .agg #[.int .i64 e4097.Key.Kind, .string e4097.Key.Text]) rfl (by kernel_rfl) (by kernel_rfl) (by kernel_rfl) (by kernel_rfl) hQ hS (y_loado (k := 0) hS ty32 0 rfl hO4103 hC4104 rfl eo_nil (us := [.int .i64 e4097.Key.Kind, .string e4097.Key.Text]) rfl rfl (fun h => by cases h)) rfl rfl rfl fun a hS => ?_
            refine dy 10 (v := vz1629_3) rfl (by kernel_rfl) (by kernel_rfl) (by kernel_rfl) rfl hQ hS (y_move hS rfl) rfl rfl rfl fun a hS => ?_
            refine dy 11 (v := vz1629_3) rfl (by kernel_rfl) (by kernel_rfl) (by kernel_rfl) rfl hQ hS (y_move hS rfl) rfl rfl rfl fun a hS => ?_
            refine dy 12 (v := .int .i64 (u1628.1.length : Int)) rfl (by kernel_rfl) (by kernel_rfl) (by kernel_rfl) rfl hQ hS (y_leno (R := R_RecordD) (xs := u1628.1) hS sl28 rfl 0 rfl 4 rfl) rfl rfl rfl fun a hS => ?_
            refine dy 13 (v := .int .i64 (IntKind.i64.wrap ((u1628.1.length : Int) - 1))) rfl (by kernel_rfl) (by kernel_rfl) (by kernel_rfl) rfl hQ hS (y_int hS rfl rfl rfl) rfl rfl rfl fun a hS => ?_
            obtain ⟨e4107, he4107, hM⟩ := bd hM
            obtain ⟨b4109, o4110, p4115, cs4112, hr4111, hO4113, hC4114, hy4116⟩ := d_indexo (R := R_RecordD) hS sl28 ty34 0 rfl 4 rfl he4107
            obtain ⟨v4108, rfl, hv4108⟩ := hr4111
            replace hS := hS.fact (SlF R_KeyD v4108 e4107.Reads) hv4108
            refine dy 14 (v := .pointer (some ⟨b4109, o4110, none⟩)) rfl (by kernel_rfl) (by kernel_rfl) (by kernel_rfl) rfl hQ hS (hy4116 rfl rfl) rfl rfl rfl fun a hS => ?_
            refine dy 15 (v := .pointer (some ⟨b4109, o4110 + 0, none⟩)) rfl (by kernel_rfl) (by kernel_rfl) (by kernel_rfl) rfl hQ hS (y_fld hS rfl fl34_0) rfl rfl rfl fun a hS => ?_
            refine dy (l := []) 16 (v := .agg #[.int .i64 e4107.Key.Kind, .string e4107.Key.Text]) rfl (by kernel_rfl) (by kernel_rfl) (by kernel_rfl) (by kernel_rfl) hQ hS (y_loado (k := 0) hS ty32 0 rfl hO4113 hC4114 rfl eo_nil (us := [.int .i64 e4107.Key.Kind, .string e4107.Key.Text]) rfl rfl (fun h => by cases h)) rfl rfl rfl fun a hS => ?_
            refine dy 17 (v := .agg #[.int .i64 32, .string (ByteArray.mk #[52])]) rfl (by kernel_rfl) (by kernel_rfl) (by kernel_rfl) rfl hQ hS (y_build (ps := [(0, .const (.int .i64 32)), (1, .const (.string ⟨#[52]⟩))]) hS pl32 ze32 rfl (us := [[.int .i64 32], [.string (ByteArray.mk #[52])]]) ⟨rfl, ⟨rfl, trivial⟩⟩ (ws := [.int .i64 32, .string (ByteArray.mk #[52])]) rfl) rfl rfl rfl fun a hS => ?_
            refine dy 22 (v := .int .i64 0) rfl (by kernel_rfl) (by kernel_rfl) (by kernel_rfl) rfl hQ hS (y_move hS rfl) rfl rfl rfl fun a hS => ?_
            obtain ⟨u4117, hu4117, hM⟩ := bd hM
            refine wpE_one (i := 18) rfl (by kernel_rfl) rfl (k_call hS ci12 rfl rfl (ref23_Cell_c _ _ hS.dlt (hS.get 7 rfl) 0 _ hu4117) fun _ w hR a hk hA => ⟨stN (hk), ?_⟩)
            have he := Eq.symm hR
            subst he
            have hS := hA [] (fun r hr => by cases hr) List.Pairwise.nil
            refine wpE_one (i := 19) rfl (by kernel_rfl) rfl (k_bslice (ps := [(0, .tmp 47), (1, .tmp 54), (2, .tmp 55), (3, .tmp 56)]) hS el23 ze32 (zl := [.int .i64 0, .string (ByteArray.mk #[]), .int .i64 0, .string (ByteArray.mk #[]), .int .i64 0, .string (ByteArray.mk #[]), .int .i64 0, .string (ByteArray.mk #[])]) (by kernel_rfl) rfl (us := [[.int .i64 e4097.Key.Kind, .string e4097.Key.Text], [.int .i64 e4107.Key.Kind, .string e4107.Key.Text], [.int .i64 32, .string (ByteArray.mk #[52])], [.int .i64 u4117.Kind, .string u4117.Text]]) ⟨rfl, ⟨rfl, ⟨rfl, ⟨rfl, trivial⟩⟩⟩⟩ (ws := [.int .i64 e4097.Key.Kind, .string e4097.Key.Text, .int .i64 e4107.Key.Kind, .string e4107.Key.Text, .int .i64 32, .string (ByteArray.mk #[52]), .int .i64 u4117.Kind, .string u4117.Text]) rfl rfl rfl rfl fun b4119 a w hk hS => ⟨stN (hk), ?_⟩)
            replace hS := hS.lit (R := R_KeyD) (us := [.int .i64 e4097.Key.Kind, .string e4097.Key.Text, .int .i64 e4107.Key.Kind, .string e4107.Key.Text, .int .i64 32, .string (ByteArray.mk #[52]), .int .i64 u4117.Kind, .string u4117.Text]) (xs := [e4097.Key, e4107.Key, (KeyD.mk 32 (ByteArray.mk #[52])), u4117]) 0 rfl (by decide) ((RowsOk.one_ (R := R_KeyD) (x := e4097.Key) rfl).append ((RowsOk.one_ (R := R_KeyD) (x := e4107.Key) rfl).append ((RowsOk.one_ (R := R_KeyD) (x := (KeyD.mk 32 (ByteArray.mk #[52]))) rfl).append (RowsOk.one_ (R := R_KeyD) (x := u4117) rfl)))) rfl rfl
            replace hS := hS.freeze (R := R_KeyD) 0 rfl 0 rfl
            obtain ⟨hg4121, hM⟩ := gd_some hM
            refine wpE_one (i := 20) rfl (by kernel_rfl) rfl (k_appclip (R := R_KeyD) (xs := l4094) (ys := [e4097.Key, e4107.Key, (KeyD.mk 32 (ByteArray.mk #[52])), u4117]) hS el23 (by decide) (by decide) rfl rfl 4 rfl 5 rfl 0 rfl rfl hg4121 rfl fun v4122 cl4123 a w hk hS => ⟨stN (hk), ?_⟩)
            refine dy 21 (v := .int .i64 ((l4094 ++ ([e4097.Key, e4107.Key, (KeyD.mk 32 (ByteArray.mk #[52])), u4117])).length : Int)) rfl (by kernel_rfl) (by kernel_rfl) (by kernel_rfl) rfl hQ hS (y_leno (R := R_KeyD) (xs := (l4094 ++ ([e4097.Key, e4107.Key, (KeyD.mk 32 (ByteArray.mk #[52])), u4117]))) hS sl23 rfl 0 rfl 0 rfl) rfl rfl rfl fun a hS => ?_
            refine wpE_done (by kernel_rfl) ?_ _
            try simp only [Exit.then, Exit.inBlock, ↓reduceIte, Nat.reduceEqDiff]
            refine hK306 _ _ ?_
            refine wp_block ?_
            obtain ⟨r2, hl2, hMo2⟩ := bd hM
            refine wp_lp (fun s : Int => law29_GroupOf_l4 u1628 e3993 l4094 e4097 e4107 u4117 s) (fun s a w => ∃ (g4185 : Int), g4185 = s ∧ St W0 No T 98 [(2, v2), (8, vz1629_3), (10, .int .i64 e3993), (32, v3223), (33, .int .i64 (([revision_, IntKind.i64.wrap (u2702 - 1)]).length : Int)), (34, .int .i64 g3226), (58, v4122), (59, .int .i64 ((l4094 ++ ([e4097.Key, e4107.Key, (KeyD.mk 32 (ByteArray.mk #[52])), u4117])).length : Int)), (60, .int .i64 g4185)] [.own vz1629_3 34 R_RecordD.size clz1629_4, .own v3223 3 (Rep.int .i64).size cl3224, .own v4122 32 R_KeyD.size cl4123] [SlF R_KeyD v2 raw_, RowsF R_RecordD clz1629_4 u1628.1, RowsF (Rep.int .i64) cl3224 g3222, RowsF R_KeyD cl4123 (l4094 ++ ([e4097.Key, e4107.Key, (KeyD.mk 32 (ByteArray.mk #[52])), u4117])), LvF] a w) hl2 ⟨0, rfl, (hS.meet [1, 2, 0] (by decide) ⟨rfl, rfl, rfl, rfl, rfl, rfl, rfl, rfl, rfl, trivial⟩ ⟨rfl, rfl, rfl, trivial⟩ ⟨⟨7, rfl⟩, ⟨8, rfl⟩, ⟨9, rfl⟩, ⟨0, rfl⟩, ⟨10, rfl⟩, trivial⟩)⟩ ?_
            rintro s a w f2 ⟨g4185, rfl, hS⟩ hM hf2
            have hM : law29_GroupOf_l4 u1628 e3993 l4094 e4097 e4107 u4117 g4185 = some f2 := hM
            unfold law29_GroupOf_l4 at hM
            refine wp_seq_k fun K323 hK323 => ?_
            refine r_list ?_
            refine wl rfl (ky (v := .bool (decide ((g4185 : Int) < ((l4094 ++ ([e4097.Key, e4107.Key, (KeyD.mk 32 (ByteArray.mk #[52])), u4117])).length : Int)))) hS (y_int hS rfl rfl rfl) rfl rfl fun a hS => ?_)
            refine wpList_nil ?_
            try simp only [Exit.then, Exit.inBlock, ↓reduceIte, Nat.reduceEqDiff]
            refine hK323 _ _ ?_
            refine wp_seq_k fun K324 hK324 => ?_
            rcases bool2 (decide ((g4185 : Int) < ((l4094 ++ ([e4097.Key, e4107.Key, (KeyD.mk 32 (ByteArray.mk #[52])), u4117])).length : Int))) with hb4246 | hb4246
            · replace hM := ct hb4246 hM
              refine c_t hS rfl hb4246 ?_
              refine wp_skip ?_
              try simp only [Exit.then, Exit.inBlock, ↓reduceIte, Nat.reduceEqDiff]
              refine hK324 _ _ ?_
              refine wp_seq_k fun K325 hK325 => ?_
              refine wp_block ?_
              refine wp_seq_k fun K326 hK326 => ?_
              refine r_list ?_
              obtain ⟨e4247, he4247, hM⟩ := bd hM
              refine wl rfl (k_indexo (R := R_KeyD) hS sl23 ty32 rfl rfl 2 rfl 3 rfl he4247 rfl fun b4248 o4249 p4254 cs4251 hr4250 hO4252 hC4253 a hS => ?_)
              obtain rfl := hr4250
              refine wl rfl (ky (v := .agg #[.int .i64 e4247.Kind, .string e4247.Text]) hS (y_loado (k := 0) hS ty32 2 rfl hO4252 hC4253 rfl id (us := [.int .i64 e4247.Kind, .string e4247.Text]) rfl rfl (fun h => by cases h)) rfl rfl fun a hS => ?_)
              refine wl rfl (k_alloc hS ze32 rfl fun b4255 hnb4257 a w hk hS => ?_)
              refine wl rfl (k_store hS rfl rfl (us := [.int .i64 e4247.Kind, .string e4247.Text]) rfl ty32 0 rfl rfl rfl (oc rfl (oc rfl on)) fun w hk hS => ?_)
              refine wpList_nil ?_
              try simp only [Exit.then, Exit.inBlock, ↓reduceIte, Nat.reduceEqDiff]
              refine hK326 _ _ ?_
              refine wp_seq_k fun K327 hK327 => ?_
              refine draws [] hS mixed rfl (fun c a d v w h => by cases d <;> exact h) fun w hQ hS => ?_
              refine dy 0 (v := vz1629_3) rfl (by kernel_rfl) (by kernel_rfl) (by kernel_rfl) rfl hQ hS (y_move hS rfl) rfl rfl rfl fun a hS => ?_
              refine dy 1 (v := .int .i64 e3993) rfl (by kernel_rfl) (by kernel_rfl) (by kernel_rfl) rfl hQ hS (y_move hS rfl) rfl rfl rfl fun a hS => ?_
              refine dy (l := []) 2 (v := .agg #[.int .i64 e4247.Kind, .string e4247.Text]) rfl (by kernel_rfl) (by kernel_rfl) (by kernel_rfl) (by kernel_rfl) hQ hS (y_load hS rfl ty32 0 rfl eo_nil (us := [.int .i64 e4247.Kind, .string e4247.Text]) rfl rfl (fun h => by cases h)) rfl rfl rfl fun a hS => ?_
              refine dy 4 (v := vz1629_3) rfl (by kernel_rfl) (by kernel_rfl) (by kernel_rfl) rfl hQ hS (y_move hS rfl) rfl rfl rfl fun a hS => ?_
              refine dy 5 (v := .int .i64 e3993) rfl (by kernel_rfl) (by kernel_rfl) (by kernel_rfl) rfl hQ hS (y_move hS rfl) rfl rfl rfl fun a hS => ?_
              refine dy (l := []) 6 (v := .agg #[.int .i64 e4247.Kind, .string e4247.Text]) rfl (by kernel_rfl) (by kernel_rfl) (by kernel_rfl) (by kernel_rfl) hQ hS (y_load hS rfl ty32 0 rfl eo_nil (us := [.int .i64 e4247.Kind, .string e4247.Text]) rfl rfl (fun h => by cases h)) rfl rfl rfl fun a hS => ?_
              have hL := hS
              replace hL := hL.freeze (R := R_RecordD) 1 rfl 1 rfl
              obtain ⟨u4276, hu4276, hM⟩ := bd hM
              refine wpE_one (i := 3) rfl (by kernel_rfl) rfl (k_call hS ci13 rfl rfl (group_Of_c _ _ hL.dlt (hL.get 5 rfl) u1628.1 e3993 e4247 _ (hL.get 0 rfl) _ hu4276) fun _ w hR a hk hA => ⟨stN (hk), ?_⟩)
              obtain ⟨vz4277_2, clz4277_3, he, ⟨hOvz4277_2, hFvz4277_2, hRvz4277_2⟩⟩ := hR
              replace he := he.symm
              subst he
              have hS := hA [.own vz4277_2 32 R_KeyD.size clz4277_3] (adds1 ⟨hOvz4277_2, by decide⟩ hFvz4277_2) (pw1 _)
              replace hS := hS.fact (RowsF R_KeyD clz4277_3 u4276) hRvz4277_2
              have hL := hS
              replace hL := hL.freeze (R := R_RecordD) 2 rfl 2 rfl
              obtain ⟨u4279, hu4279, hM⟩ := bd hM
              refine wpE_one (i := 7) rfl (by kernel_rfl) rfl (k_call hS ci14 rfl rfl (ref29_Of_c _ _ hL.dlt (hL.get 6 rfl) u1628.1 e3993 e4247 _ (hL.get 0 rfl) _ hu4279) fun _ w hR a hk hA => ⟨stN (hk), ?_⟩)
              obtain ⟨vz4280_2, clz4280_3, he, ⟨hOvz4280_2, hFvz4280_2, hRvz4280_2⟩⟩ := hR
              replace he := he.symm
              subst he
              have hS := hA [.own vz4280_2 32 R_KeyD.size clz4280_3] (adds1 ⟨hOvz4280_2, by decide⟩ hFvz4280_2) (pw1 _)
              replace hS := hS.fact (RowsF R_KeyD clz4280_3 u4279) hRvz4280_2
              refine dy 8 (v := vz4277_2) rfl (by kernel_rfl) (by kernel_rfl) (by kernel_rfl) rfl hQ hS (y_assign hS rfl) rfl rfl rfl fun a hS => ?_
              refine dy 9 (v := vz4280_2) rfl (by kernel_rfl) (by kernel_rfl) (by kernel_rfl) rfl hQ hS (y_assign hS rfl) rfl rfl rfl fun a hS => ?_
              refine wpE_done (by kernel_rfl) ?_ _
              try simp only [Exit.then, Exit.inBlock, ↓reduceIte, Nat.reduceEqDiff]
              refine hK327 _ _ ?_
              refine wp_seq_k fun K328 hK328 => ?_
              refine r_list ?_
              refine wl rfl (ky (v := vz4277_2) hS (y_move hS rfl) rfl rfl fun a hS => ?_)
              refine wl rfl (ky (v := vz4280_2) hS (y_move hS rfl) rfl rfl fun a hS => ?_)
              have hL := hS
              replace hL := hL.freeze (R := R_KeyD) 1 rfl 1 rfl
              replace hL := hL.freeze (R := R_KeyD) 0 rfl 1 rfl
              obtain ⟨u4293, hu4293, hM⟩ := bd hM
              refine wl rfl (k_call hS ci15 rfl rfl (ref23_SameList_c _ _ hL.dlt u4276 u4279 _ _ (hL.get 1 rfl) (hL.get 0 rfl) _ hu4293) fun _ w hR a hk hA => ?_)
              have he := Eq.symm hR
              subst he
              have hS := hA [] (fun r hr => by cases hr) List.Pairwise.nil
              refine wl rfl (ky (v := .bool (!(u4293))) hS (y_not hS rfl) rfl rfl fun a hS => ?_)
              refine wl rfl (ky (v := .bool (!(u4293))) hS (y_move hS rfl) rfl rfl fun a hS => ?_)
              rcases bool2 (!(u4293)) with hb4295 | hb4295
              · replace hM := ct hb4295 hM
                refine wn hS rfl rfl rfl hb4295 rfl rfl fun a hS => ?_
                refine wn hS rfl rfl rfl hb4295 rfl rfl fun a hS => ?_
                refine wn hS rfl rfl rfl hb4295 rfl rfl fun a hS => ?_
                refine wn hS rfl rfl rfl hb4295 rfl rfl fun a hS => ?_
                refine wn hS rfl rfl rfl hb4295 rfl rfl fun a hS => ?_
                refine wn hS rfl rfl rfl hb4295 rfl rfl fun a hS => ?_
                refine wn hS rfl rfl rfl hb4295 rfl rfl fun a hS => ?_
                refine wn hS rfl rfl rfl hb4295 rfl rfl fun a hS => ?_
                refine wl rfl (ky (v := .bool true) hS (y_pickt hS rfl hb4295 rfl) rfl rfl fun a hS => ?_)
                refine wpList_nil ?_
                try simp only [Exit.then, Exit.inBlock, ↓reduceIte, Nat.reduceEqDiff]
                refine hK328 _ _ ?_
                refine c_t hS rfl rfl ?_
                refine wp_seq_k fun K329 hK329 => ?_
                refine r_list ?_
                refine wl rfl (ky (v := .bool false) hS (y_assign hS rfl) rfl rfl fun a hS => ?_)
                refine wpList_nil ?_
                try simp only [Exit.then, Exit.inBlock, ↓reduceIte, Nat.reduceEqDiff]
                refine hK329 _ _ ?_
                refine wp_ret ?_
                injection hM with hM
                subst hM
                have hr := hf2 _ rfl
                subst hr
                replace hMo2 := el_out hMo2
                have hM := hMo2
                injection hM with hM
                subst hM
                have hr := hf1 _ rfl
                subst hr
                replace hMo1 := el_out hMo1
                have hM := hMo1
                injection hM with hM
                subst hM
                try simp only [Exit.then, Exit.inBlock, ↓reduceIte, Nat.reduceEqDiff]
                refine ret_ok hS Tryd.results3 (res_tmp hS rfl res_nil) ?_
                exact rfl
              · replace hM := cf hb4295 hM
                refine wg hS rfl rfl rfl hb4295 (ky (v := vz1629_3) hS (y_move hS rfl) rfl rfl fun a hS => ?_)
                refine wg hS rfl rfl rfl hb4295 (ky (v := vz4277_2) hS (y_move hS rfl) rfl rfl fun a hS => ?_)
                have hL := hS
                replace hL := hL.freeze (R := R_RecordD) 3 rfl 3 rfl
                replace hL := hL.freeze (R := R_KeyD) 1 rfl 2 rfl
                obtain ⟨u4296, hu4296, hM⟩ := bd hM
                refine wg hS rfl rfl rfl hb4295 (k_call hS ci17 rfl rfl (group_Checks_c _ _ hL.dlt (hL.get 8 rfl) u1628.1 u4276 _ _ (hL.get 1 rfl) (hL.get 0 rfl) _ hu4296) fun _ w hR a hk hA => ?_)
                obtain ⟨vz4297_3, clz4297_4, he, ⟨hOvz4297_3, hFvz4297_3, hRvz4297_3⟩⟩ := hR
                replace he := he.symm
                subst he
                have hS := hA [.own vz4297_3 44 R_CheckD.size clz4297_4] (adds1 ⟨hOvz4297_3, by decide⟩ hFvz4297_3) (pw1 _)
                replace hS := hS.fact (RowsF R_CheckD clz4297_4 u4296) hRvz4297_3
                refine wg hS rfl rfl rfl hb4295 (ky (v := vz1629_3) hS (y_move hS rfl) rfl rfl fun a hS => ?_)
                refine wg hS rfl rfl rfl hb4295 (ky (v := vz4280_2) hS (y_move hS rfl) rfl rfl fun a hS => ?_)
                have hL := hS
                replace hL := hL.freeze (R := R_RecordD) 4 rfl 4 rfl
                replace hL := hL.freeze (R := R_KeyD) 1 rfl 2 rfl
                obtain ⟨u4299, hu4299, hM⟩ := bd hM
                refine wg hS rfl rfl rfl hb4295 (k_call hS ci18 rfl rfl (ref29_Checks_c _ _ hL.dlt u1628.1 u4279 _ _ (hL.get 1 rfl) (hL.get 0 rfl) _ hu4299) fun _ w hR a hk hA => ?_)
                obtain ⟨vz4300_3, clz4300_4, he, ⟨hOvz4300_3, hFvz4300_3, hRvz4300_3⟩⟩ := hR
                replace he := he.symm
                subst he
                have hS := hA [.own vz4300_3 44 R_CheckD.size clz4300_4] (adds1 ⟨hOvz4300_3, by decide⟩ hFvz4300_3) (pw1 _)
                replace hS := hS.fact (RowsF R_CheckD clz4300_4 u4299) hRvz4300_3
                have hL := hS
                replace hL := hL.freeze (R := R_CheckD) 1 rfl 1 rfl
                replace hL := hL.freeze (R := R_CheckD) 0 rfl 1 rfl
                obtain ⟨u4302, hu4302, hM⟩ := bd hM
                refine wg hS rfl rfl rfl hb4295 (k_call hS ci16 rfl rfl (ref29_SameChecks_c _ _ hL.dlt u4296 u4299 _ _ (hL.get 1 rfl) (hL.get 0 rfl) _ hu4302) fun _ w hR a hk hA => ?_)
                have he := Eq.symm hR
                subst he
                have hS := hA [] (fun r hr => by cases hr) List.Pairwise.nil
                refine wg hS rfl rfl rfl hb4295 (ky (v := .bool (!(u4302))) hS (y_not hS rfl) rfl rfl fun a hS => ?_)
                refine wl rfl (ky (v := .bool (!(u4302))) hS (y_pickf hS rfl hb4295 rfl) rfl rfl fun a hS => ?_)
                refine wpList_nil ?_
                try simp only [Exit.then, Exit.inBlock, ↓reduceIte, Nat.reduceEqDiff]
                refine hK328 _ _ ?_
                rcases bool2 (!(u4302)) with hb4304 | hb4304
                · replace hM := ct hb4304 hM
                  refine c_t hS rfl hb4304 ?_
                  refine wp_seq_k fun K330 hK330 => ?_
                  refine r_list ?_
                  refine wl rfl (ky (v := .bool false) hS (y_assign hS rfl) rfl rfl fun a hS => ?_)
                  refine wpList_nil ?_
                  try simp only [Exit.then, Exit.inBlock, ↓reduceIte, Nat.reduceEqDiff]
                  refine hK330 _ _ ?_
                  refine wp_ret ?_
                  injection hM with hM
                  subst hM
                  have hr := hf2 _ rfl
                  subst hr
                  replace hMo2 := el_out hMo2
                  have hM := hMo2
                  injection hM with hM
                  subst hM
                  have hr := hf1 _ rfl
                  subst hr
                  replace hMo1 := el_out hMo1
                  have hM := hMo1
                  injection hM with hM
                  subst hM
                  try simp only [Exit.then, Exit.inBlock, ↓reduceIte, Nat.reduceEqDiff]
                  refine ret_ok hS Tryd.results3 (res_tmp hS rfl res_nil) ?_
                  exact rfl
                · replace hM := cf hb4304 hM
                  refine c_f hS rfl hb4304 ?_
                  refine wp_skip ?_
                  try simp only [Exit.then, Exit.inBlock, ↓reduceIte, Nat.reduceEqDiff]
                  refine hK325 _ _ ?_
                  refine r_list ?_
                  refine wl rfl (ky (v := .int .i64 (IntKind.i64.wrap (g4185 + 1))) hS (y_int hS rfl rfl rfl) rfl rfl fun a hS => ?_)
                  refine wl rfl (ky (v := .int .i64 (IntKind.i64.wrap (g4185 + 1))) hS (y_move hS rfl) rfl rfl fun a hS => ?_)
                  refine wpList_nil ?_
                  try simp only [Exit.then, Exit.inBlock, ↓reduceIte, Nat.reduceEqDiff]
                  exact ⟨IntKind.i64.wrap (g4185 + 1), (Option.some.inj hM).symm, (IntKind.i64.wrap (g4185 + 1)), rfl, (hS.meet [5, 6, 7] (by decide) ⟨rfl, rfl, rfl, rfl, rfl, rfl, rfl, rfl, rfl, trivial⟩ ⟨rfl, rfl, rfl, trivial⟩ ⟨⟨4, rfl⟩, ⟨5, rfl⟩, ⟨6, rfl⟩, ⟨7, rfl⟩, ⟨8, rfl⟩, trivial⟩)⟩
            · replace hM := cf hb4246 hM
              refine c_f hS rfl hb4246 ?_
              refine wp_exit ?_
              try simp only [Exit.then, Exit.inBlock, ↓reduceIte, Nat.reduceEqDiff]
              injection hM with hM
              subst hM
              have hr := hf2 _ rfl
              subst hr
              replace hMo2 := el_go hMo2
              have hM : law29_GroupOf_j3 g3222 g3226 = some f1 := hMo2
              exact ⟨(hS.meet [0, 1] (by decide) ⟨rfl, rfl, rfl, rfl, rfl, trivial⟩ ⟨rfl, rfl, trivial⟩ ⟨⟨0, rfl⟩, ⟨1, rfl⟩, ⟨2, rfl⟩, ⟨4, rfl⟩, trivial⟩), hM⟩
          · rintro a w ⟨hS, hM⟩
            unfold law29_GroupOf_j3 at hM
            refine r_list ?_
            refine wl rfl (ky (v := .int .i64 (IntKind.i64.wrap (g3226 + 1))) hS (y_int hS rfl rfl rfl) rfl rfl fun a hS => ?_)
            refine wl rfl (ky (v := .int .i64 (IntKind.i64.wrap (g3226 + 1))) hS (y_move hS rfl) rfl rfl fun a hS => ?_)
            refine wpList_nil ?_
            try simp only [Exit.then, Exit.inBlock, ↓reduceIte, Nat.reduceEqDiff]
            exact ⟨(g3222, IntKind.i64.wrap (g3226 + 1)), (Option.some.inj hM).symm, g3222, (IntKind.i64.wrap (g3226 + 1)), v3223, cl3224, rfl, (hS.meet [0, 1] (by decide) ⟨rfl, rfl, rfl, rfl, rfl, trivial⟩ ⟨rfl, rfl, trivial⟩ ⟨⟨0, rfl⟩, ⟨1, rfl⟩, ⟨2, rfl⟩, ⟨3, rfl⟩, trivial⟩)⟩
        · replace hM := cf hb3739 hM
          refine c_f hS rfl hb3739 ?_
          refine wp_exit ?_
          try simp only [Exit.then, Exit.inBlock, ↓reduceIte, Nat.reduceEqDiff]
          injection hM with hM
          subst hM
          have hr := hf1 _ rfl
          subst hr
          replace hMo1 := el_go hMo1
          have hM : law29_GroupOf_j2 raw_ u1628 = some y := hMo1
          exact ⟨(hS.meet [0] (by decide) ⟨rfl, rfl, trivial⟩ ⟨rfl, trivial⟩ ⟨⟨0, rfl⟩, ⟨1, rfl⟩, ⟨3, rfl⟩, trivial⟩), hM⟩
      · rintro a w ⟨hS, hM⟩
        unfold law29_GroupOf_j2 at hM
        refine seq_j (J := fun a w => ∃ (g2690 : Bool), St W0 No T 98 [(6, .bool g2690)] [] [LvF] a w ∧ law29_GroupOf_j1 g2690 = some y) ?_ ?_
        · skip
          refine r_list ?_
          refine wl rfl (ky (v := vz1629_3) hS (y_move hS rfl) rfl rfl fun a hS => ?_)
          refine wl rfl (ky (v := v2) hS (y_move hS rfl) rfl rfl fun a hS => ?_)
          have hL := hS
          replace hL := hL.freeze (R := R_RecordD) 0 rfl 1 rfl
          obtain ⟨u2691, hu2691, hM⟩ := bd hM
          refine wl rfl (k_call hS ci17 rfl rfl (group_Checks_c _ _ hL.dlt (hL.get 3 rfl) u1628.1 raw_ _ _ (hL.get 0 rfl) (hL.get 1 rfl) _ hu2691) fun _ w hR a hk hA => ?_)
          obtain ⟨vz2692_3, clz2692_4, he, ⟨hOvz2692_3, hFvz2692_3, hRvz2692_3⟩⟩ := hR
          replace he := he.symm
          subst he
          have hS := hA [.own vz2692_3 44 R_CheckD.size clz2692_4] (adds1 ⟨hOvz2692_3, by decide⟩ hFvz2692_3) (pw1 _)
          replace hS := hS.fact (RowsF R_CheckD clz2692_4 u2691) hRvz2692_3
          refine wl rfl (ky (v := vz1629_3) hS (y_move hS rfl) rfl rfl fun a hS => ?_)
          refine wl rfl (ky (v := v2) hS (y_move hS rfl) rfl rfl fun a hS => ?_)
          have hL := hS
          replace hL := hL.freeze (R := R_RecordD) 1 rfl 2 rfl
          obtain ⟨u2694, hu2694, hM⟩ := bd hM
          refine wl rfl (k_call hS ci18 rfl rfl (ref29_Checks_c _ _ hL.dlt u1628.1 raw_ _ _ (hL.get 0 rfl) (hL.get 2 rfl) _ hu2694) fun _ w hR a hk hA => ?_)
          obtain ⟨vz2695_3, clz2695_4, he, ⟨hOvz2695_3, hFvz2695_3, hRvz2695_3⟩⟩ := hR
          replace he := he.symm
          subst he
          have hS := hA [.own vz2695_3 44 R_CheckD.size clz2695_4] (adds1 ⟨hOvz2695_3, by decide⟩ hFvz2695_3) (pw1 _)
          replace hS := hS.fact (RowsF R_CheckD clz2695_4 u2694) hRvz2695_3
          have hL := hS
          replace hL := hL.freeze (R := R_CheckD) 1 rfl 1 rfl
          replace hL := hL.freeze (R := R_CheckD) 0 rfl 1 rfl
          obtain ⟨u2697, hu2697, hM⟩ := bd hM
          refine wl rfl (k_call hS ci16 rfl rfl (ref29_SameChecks_c _ _ hL.dlt u2691 u2694 _ _ (hL.get 1 rfl) (hL.get 0 rfl) _ hu2697) fun _ w hR a hk hA => ?_)
          have he := Eq.symm hR
          subst he
          have hS := hA [] (fun r hr => by cases hr) List.Pairwise.nil
          refine wl rfl (ky (v := .bool u2697) hS (y_move hS rfl) rfl rfl fun a hS => ?_)
          rcases bool2 (u2697) with hb2699 | hb2699
          · replace hM := ct hb2699 hM
            obtain ⟨u2700, hu2700, hM⟩ := bd hM
            refine wg hS rfl rfl rfl hb2699 (k_call hS ci8 rfl rfl (law29_awake_c _ _ hS.dlt (hS.get 4 rfl) _ hu2700) fun _ w hR a hk hA => ?_)
            have he := Eq.symm hR
            subst he
            have hS := hA [] (fun r hr => by cases hr) List.Pairwise.nil
            refine wl rfl (ky (v := .bool u2700) hS (y_pickt hS rfl hb2699 rfl) rfl rfl fun a hS => ?_)
            refine wl rfl (ky (v := .bool u2700) hS (y_assign hS rfl) rfl rfl fun a hS => ?_)
            refine wpList_nil ?_
            try simp only [Exit.then, Exit.inBlock, ↓reduceIte, Nat.reduceEqDiff]
            exact ⟨u2700, (hS.meet [] (by decide) ⟨rfl, trivial⟩ trivial ⟨⟨4, rfl⟩, trivial⟩), hM⟩
          · replace hM := cf hb2699 hM
            refine wn hS rfl rfl rfl hb2699 rfl rfl fun a hS => ?_
            refine wl rfl (ky (v := .bool false) hS (y_pickf hS rfl hb2699 rfl) rfl rfl fun a hS => ?_)
            refine wl rfl (ky (v := .bool false) hS (y_assign hS rfl) rfl rfl fun a hS => ?_)
            refine wpList_nil ?_
            try simp only [Exit.then, Exit.inBlock, ↓reduceIte, Nat.reduceEqDiff]
            exact ⟨false, (hS.meet [] (by decide) ⟨rfl, trivial⟩ trivial ⟨⟨4, rfl⟩, trivial⟩), hM⟩
        · rintro a w ⟨g2690, hS, hM⟩
          unfold law29_GroupOf_j1 at hM
          refine wp_ret ?_
          injection hM with hM
          subst hM
          try simp only [Exit.then, Exit.inBlock, ↓reduceIte, Nat.reduceEqDiff]
          refine ret_ok hS Tryd.results3 (res_tmp hS rfl res_nil) ?_
          exact rfl

noncomputable def law29_GroupDivides_j1 : Option Bool := (law29_awake).bind fun u2012 => some (u2012)
noncomputable def law29_GroupDivides_j2 (g2410 : Int) : Option (Fl (Int) (Fl (Unit) Bool)) := some (.go (IntKind.i64.wrap (g2410 + 1)))
noncomputable def law29_GroupDivides_l3 (u1212 : ((List RecordD) × DiceD)) (u3023 : (List KeyD)) (u3081 : (List CheckD)) (g3122 : Int) : Option (Fl (Int) (Fl (Unit) Bool)) := cond (decide ((g3122 : Int) < (u3081.length : Int))) ((getI u3081 g3122).bind fun e3162 => (ref26_Find u1212.1 e3162.Member).bind fun u3173 => cond (!(u3173.2)) (some (.out (.out false))) ((ref23_Has u3023 e3162.Member).bind fun u3189 => cond (!(u3189)) (some (.out (.out false))) ((ref23_Has u3023 e3162.Read).bind fun u3192 => cond u3192 (some (.out (.out false))) ((ref23_Has u3173.1.Reads e3162.Read).bind fun u3195 => cond (!(u3195)) (some (.out (.out false))) (some (.go (IntKind.i64.wrap (g3122 + 1)))))))) (some (.out (.go ())))
noncomputable def law29_GroupDivides_j4 (u1212 : ((List RecordD) × DiceD)) (g2410 : Int) (u3023 : (List KeyD)) : Option (Fl (Int) (Fl (Unit) Bool)) := (group_Checks u1212.1 u3023).bind fun u3081 => (loop (fun s : Int => law29_GroupDivides_l3 u1212 u3023 u3081 s) 0).bind fun r => Fl.el r (fun s => law29_GroupDivides_j2 g2410) (fun y => some (.out (.out y)))
noncomputable def law29_GroupDivides_l5 (u1212 : ((List RecordD) × DiceD)) (u3023 : (List KeyD)) (g3220 : Int) : Option (Fl (Int) (Fl (Unit) Bool)) := cond (decide ((g3220 : Int) < (u1212.1.length : Int))) ((getI u1212.1 g3220).bind fun e3244 => (group_Of u1212.1 2 e3244.Key).bind fun u3256 => (ref23_Has u3023 e3244.Key).bind fun u3259 => (ref23_SameList u3023 u3256).bind fun u3261 => cond (u3259 != u3261) (some (.out (.out false))) (some (.go (IntKind.i64.wrap (g3220 + 1))))) (some (.out (.go ())))
noncomputable def law29_GroupDivides_j6 (u1212 : ((List RecordD) × DiceD)) (g2410 : Int) (u3023 : (List KeyD)) (g3034 : Bool) : Option (Fl (Int) (Fl (Unit) Bool)) := cond g3034 (some (.out (.out false))) ((loop (fun s : Int => law29_GroupDivides_l5 u1212 u3023 s) 0).bind fun r => Fl.el r (fun s => law29_GroupDivides_j4 u1212 g2410 u3023) (fun y => some (.out (.out y))))
noncomputable def law29_GroupDivides_l7 (u1212 : ((List RecordD) × DiceD)) (g2410 : Int) : Option (Fl (Int) (Fl (Unit) Bool)) := cond (decide ((g2410 : Int) < (u1212.1.length : Int))) ((getI u1212.1 g2410).bind fun e3011 => (group_Of u1212.1 2 e3011.Key).bind fun u3023 => (ref23_Has u3023 e3011.Key).bind fun u3264 => cond (!(u3264)) (law29_GroupDivides_j6 u1212 g2410 u3023 true) (cond (decide ((1 : Int) < (u3023.length : Int))) (law29_GroupDivides_j6 u1212 g2410 u3023 ((e3011.Key.Kind : Int) != 32)) (law29_GroupDivides_j6 u1212 g2410 u3023 false))) (some (.out (.go ())))
noncomputable def law29_GroupDivides (t_0 : (List Int)) : Option Bool := (mill_Light t_0).bind fun u1204 => cond (!(u1204)) ((law29_awake).bind fun u1207 => some (u1207)) ((mill_Roll t_0).bind fun u1209 => (law29_records u1209).bind fun u1212 => (loop (fun s : Int => law29_GroupDivides_l7 u1212 s) 0).bind fun r => Fl.el r (fun s => law29_GroupDivides_j1) (fun y => some (y)))
set_option maxRecDepth 100000 in
set_option maxHeartbeats 4000000 in
theorem law29_GroupDivides_c (T : Nat → Prop) (W0 : World) (hT : ∀ k, T k → k < W0.heap.size) (hLv : LvP T W0) (t_0 : (List Int)) (v1 : Value) (hv1 : SlR (Rep.int .i64) T W0 v1 t_0) (y : Bool) (hM : law29_GroupDivides t_0 = some y) : Rets Tryd.prog No 4 [v1] W0 (fun v w' => v = .bool y) := by
  refine enter (c := _) Tryd.func4 rfl T 107 Tryd.ntmps4 hT rfl fun a hS => ?_
  replace hS := hS.fact LvF (LvP.dn hLv)
  replace hS := hS.fact (SlF (Rep.int .i64) v1 t_0) (SlR.dn hv1)
  unfold law29_GroupDivides at hM
  refine wp_seq_k fun K338 hK338 => ?_
  refine r_list ?_
  refine wl rfl (ky (v := .bool false) hS (y_assign hS rfl) rfl rfl fun a hS => ?_)
  refine wpList_nil ?_
  try simp only [Exit.then, Exit.inBlock, ↓reduceIte, Nat.reduceEqDiff]
  refine hK338 _ _ ?_
  refine wp_seq_k fun K339 hK339 => ?_
  refine wp_seq_k fun K340 hK340 => ?_
  refine r_list ?_
  refine wl rfl (ky (v := v1) hS (y_move hS rfl) rfl rfl fun a hS => ?_)
  obtain ⟨u1204, hu1204, hM⟩ := bd hM
  refine wl rfl (k_call hS ci7 rfl rfl (mill_Light_c _ _ hS.dlt t_0 _ (hS.get 0 rfl) _ hu1204) fun _ w hR a hk hA => ?_)
  have he := Eq.symm hR
  subst he
  have hS := hA [] (fun r hr => by cases hr) List.Pairwise.nil
  refine wl rfl (ky (v := .bool (!(u1204))) hS (y_not hS rfl) rfl rfl fun a hS => ?_)
  refine wpList_nil ?_
  try simp only [Exit.then, Exit.inBlock, ↓reduceIte, Nat.reduceEqDiff]
  refine hK340 _ _ ?_
  rcases bool2 (!(u1204)) with hb1206 | hb1206
  · replace hM := ct hb1206 hM
    refine c_t hS rfl hb1206 ?_
    refine wp_seq_k fun K341 hK341 => ?_
    refine r_list ?_
    obtain ⟨u1207, hu1207, hM⟩ := bd hM
    refine wl rfl (k_call hS ci8 rfl rfl (law29_awake_c _ _ hS.dlt (hS.get 1 rfl) _ hu1207) fun _ w hR a hk hA => ?_)
    have he := Eq.symm hR
    subst he
    have hS := hA [] (fun r hr => by cases hr) List.Pairwise.nil
    refine wl rfl (ky (v := .bool u1207) hS (y_assign hS rfl) rfl rfl fun a hS => ?_)
    refine wpList_nil ?_
    try simp only [Exit.then, Exit.inBlock, ↓reduceIte, Nat.reduceEqDiff]
    refine hK341 _ _ ?_
    refine wp_ret ?_
    injection hM with hM
    subst hM
    try simp only [Exit.then, Exit.inBlock, ↓reduceIte, Nat.reduceEqDiff]
    refine ret_ok hS Tryd.results4 (res_tmp hS rfl res_nil) ?_
    exact rfl
  · replace hM := cf hb1206 hM
    refine c_f hS rfl hb1206 ?_
    refine wp_skip ?_
    try simp only [Exit.then, Exit.inBlock, ↓reduceIte, Nat.reduceEqDiff]
    refine hK339 _ _ ?_
    refine wp_seq_k fun K342 hK342 => ?_
    refine r_list ?_
    refine wl rfl (ky (v := v1) hS (y_move hS rfl) rfl rfl fun a hS => ?_)
    obtain ⟨u1209, hu1209, hM⟩ := bd hM
    refine wl rfl (k_call hS ci9 rfl rfl (mill_Roll_c _ _ hS.dlt t_0 _ (hS.get 0 rfl) _ hu1209) fun _ w hR a hk hA => ?_)
    obtain ⟨bz1210_2, vz1210_3, he, hFbz1210_2, hObz1210_2, hRvz1210_3⟩ := hR
    replace he := he.symm
    subst he
    have hS := hA [.box bz1210_2 [vz1210_3, .int .i64 u1209.At] 52] (adds1 hObz1210_2 (fun k hk => by simp only [Res.dom, Option.some.injEq] at hk; omega)) (pw1 _)
    replace hS := hS.fact (SlF (Rep.int .i64) vz1210_3 u1209.L) (hRvz1210_3.sub (dT_dT _))
    obtain ⟨u1212, hu1212, hM⟩ := bd hM
    refine wl rfl (k_callmr hS ci10 rfl rfl 0 rfl (law29_records_c _ _ (hS.drop 0).dlt u1209 _ _ (hS.boxRow 0 rfl) (hS.notin 0 rfl) (SlR.lent (i := 0) rfl (hS.get 0 rfl)) (LvF.keep (hS.get 2 rfl) (Kt.refl _ _) (fun k hk => .inl ((dT_in (i := 0) rfl k).1 hk))) _ hu1212) fun _ w hR hk => ?_)
    obtain ⟨vz1213_3, clz1213_4, vz1213_5, he, ⟨hOvz1213_3, hFvz1213_3, hRvz1213_3⟩, hrow, hRvz1213_5⟩ := hR
    replace he := he.symm
    subst he
    refine ⟨[vz1213_5, .int .i64 u1212.2.At], [.own vz1213_3 34 R_RecordD.size clz1213_4], hrow, adds1 ⟨hOvz1213_3, by decide⟩ hFvz1213_3, pw1 _, fun a hS => ?_⟩
    replace hS := hS.fact (RowsF R_RecordD clz1213_4 u1212.1) (hRvz1213_3.keep (Kt.refl _ _) (Nw.back2 (i := 0) rfl [.own vz1213_3 34 R_RecordD.size clz1213_4] _))
    replace hS := hS.fact (SlF (Rep.int .i64) vz1213_5 u1212.2.L) (hRvz1213_5.sub (Nw.back2 (i := 0) rfl [.own vz1213_3 34 R_RecordD.size clz1213_4] _))
    refine wl rfl (ky (v := vz1213_3) hS (y_assign hS rfl) rfl rfl fun a hS => ?_)
    refine wpList_nil ?_
    try simp only [Exit.then, Exit.inBlock, ↓reduceIte, Nat.reduceEqDiff]
    refine hK342 _ _ ?_
    refine seq_j (J := fun a w => St W0 No T 107 [] [] [LvF] a w ∧ law29_GroupDivides_j1 = some y) ?_ ?_
    · skip
      refine wp_seq_k fun K569 hK569 => ?_
      refine r_list ?_
      refine wl rfl (ky (v := vz1213_3) hS (y_move hS rfl) rfl rfl fun a hS => ?_)
      refine wl rfl (ky (v := .int .i64 (u1212.1.length : Int)) hS (y_leno (R := R_RecordD) (xs := u1212.1) hS sl28 rfl 0 rfl 1 rfl) rfl rfl fun a hS => ?_)
      refine wl rfl (ky (v := .int .i64 0) hS (y_move hS rfl) rfl rfl fun a hS => ?_)
      refine wpList_nil ?_
      try simp only [Exit.then, Exit.inBlock, ↓reduceIte, Nat.reduceEqDiff]
      refine hK569 _ _ ?_
      refine wp_block ?_
      obtain ⟨r1, hl1, hMo1⟩ := bd hM
      refine wp_lp (fun s : Int => law29_GroupDivides_l7 u1212 s) (fun s a w => ∃ (g2410 : Int), g2410 = s ∧ St W0 No T 107 [(3, vz1213_3), (21, vz1213_3), (22, .int .i64 (u1212.1.length : Int)), (23, .int .i64 g2410)] [.own vz1213_3 34 R_RecordD.size clz1213_4] [RowsF R_RecordD clz1213_4 u1212.1, LvF] a w) hl1 ⟨0, rfl, (hS.meet [0] (by decide) ⟨rfl, rfl, rfl, rfl, trivial⟩ ⟨rfl, trivial⟩ ⟨⟨1, rfl⟩, ⟨4, rfl⟩, trivial⟩)⟩ ?_
      rintro s a w f1 ⟨g2410, rfl, hS⟩ hM hf1
      have hM : law29_GroupDivides_l7 u1212 g2410 = some f1 := hM
      unfold law29_GroupDivides_l7 at hM
      refine wp_seq_k fun K794 hK794 => ?_
      refine r_list ?_
      refine wl rfl (ky (v := .bool (decide ((g2410 : Int) < (u1212.1.length : Int)))) hS (y_int hS rfl rfl rfl) rfl rfl fun a hS => ?_)
      refine wpList_nil ?_
      try simp only [Exit.then, Exit.inBlock, ↓reduceIte, Nat.reduceEqDiff]
      refine hK794 _ _ ?_
      refine wp_seq_k fun K795 hK795 => ?_
      rcases bool2 (decide ((g2410 : Int) < (u1212.1.length : Int))) with hb2811 | hb2811
      · replace hM := ct hb2811 hM
        refine c_t hS rfl hb2811 ?_
        refine wp_skip ?_
        try simp only [Exit.then, Exit.inBlock, ↓reduceIte, Nat.reduceEqDiff]
        refine hK795 _ _ ?_
        refine seq_j (J := fun a w => St W0 No T 107 [(3, vz1213_3), (21, vz1213_3), (22, .int .i64 (u1212.1.length : Int)), (23, .int .i64 g2410)] [.own vz1213_3 34 R_RecordD.size clz1213_4] [RowsF R_RecordD clz1213_4 u1212.1, LvF] a w ∧ law29_GroupDivides_j2 g2410 = some f1) ?_ ?_
        · skip
          refine wp_block ?_
          refine wp_seq_k fun K851 hK851 => ?_
          refine r_list ?_
          obtain ⟨e3011, he3011, hM⟩ := bd hM
          refine wl rfl (k_indexo (R := R_RecordD) hS sl28 ty34 rfl rfl 0 rfl 0 rfl he3011 rfl fun b3013 o3014 p3019 cs3016 hr3015 hO3017 hC3018 a hS => ?_)
          obtain ⟨v3012, rfl, hv3012⟩ := hr3015
          replace hS := hS.fact (SlF R_KeyD v3012 e3011.Reads) hv3012
          refine wl rfl (ky (v := .agg #[.int .i64 e3011.Key.Kind, .string e3011.Key.Text, .string e3011.Value, v3012, .int .i64 e3011.Changed, .int .i64 e3011.Verified, .int .i64 e3011.Cost, .bool e3011.Dirty]) hS (y_loado (k := 0) hS ty34 0 rfl hO3017 hC3018 rfl id (us := [.int .i64 e3011.Key.Kind, .string e3011.Key.Text, .string e3011.Value, v3012, .int .i64 e3011.Changed, .int .i64 e3011.Verified, .int .i64 e3011.Cost, .bool e3011.Dirty]) rfl rfl (fun h => by cases h)) rfl rfl fun a hS => ?_)
          refine wl rfl (k_alloc hS ze34 rfl fun b3020 hnb3022 a w hk hS => ?_)
          refine wl rfl (k_store hS rfl rfl (us := [.int .i64 e3011.Key.Kind, .string e3011.Key.Text, .string e3011.Value, v3012, .int .i64 e3011.Changed, .int .i64 e3011.Verified, .int .i64 e3011.Cost, .bool e3011.Dirty]) rfl ty34 0 rfl rfl rfl (oc rfl (oc rfl (oc rfl (oc (SlR.one ((hS.get 0 rfl) : SlR R_KeyD _ _ _ _)) (oc rfl (oc rfl (oc rfl (oc rfl on)))))))) fun w hk hS => ?_)
          refine wpList_nil ?_
          try simp only [Exit.then, Exit.inBlock, ↓reduceIte, Nat.reduceEqDiff]
          refine hK851 _ _ ?_
          refine wp_seq_k fun K852 hK852 => ?_
          refine r_list ?_
          refine wl rfl (ky (v := vz1213_3) hS (y_move hS rfl) rfl rfl fun a hS => ?_)
          refine wl rfl (ky (v := .pointer (some ⟨b3020, 0 + 0, none⟩)) hS (y_fld hS rfl fl34_0) rfl rfl fun a hS => ?_)
          refine wl rfl (ky (v := .agg #[.int .i64 e3011.Key.Kind, .string e3011.Key.Text]) hS (y_load hS rfl ty32 0 rfl id (us := [.int .i64 e3011.Key.Kind, .string e3011.Key.Text]) rfl rfl (fun h => by cases h)) rfl rfl fun a hS => ?_)
          have hL := hS
          replace hL := hL.freeze (R := R_RecordD) 1 rfl 1 rfl
          obtain ⟨u3023, hu3023, hM⟩ := bd hM
          refine wl rfl (k_call hS ci13 rfl rfl (group_Of_c _ _ hL.dlt (hL.get 3 rfl) u1212.1 2 e3011.Key _ (hL.get 0 rfl) _ hu3023) fun _ w hR a hk hA => ?_)
          obtain ⟨vz3024_2, clz3024_3, he, ⟨hOvz3024_2, hFvz3024_2, hRvz3024_2⟩⟩ := hR
          replace he := he.symm
          subst he
          have hS := hA [.own vz3024_2 32 R_KeyD.size clz3024_3] (adds1 ⟨hOvz3024_2, by decide⟩ hFvz3024_2) (pw1 _)
          replace hS := hS.fact (RowsF R_KeyD clz3024_3 u3023) hRvz3024_2
          refine wl rfl (ky (v := vz3024_2) hS (y_assign hS rfl) rfl rfl fun a hS => ?_)
          refine wpList_nil ?_
          try simp only [Exit.then, Exit.inBlock, ↓reduceIte, Nat.reduceEqDiff]
          refine hK852 _ _ ?_
          refine wp_seq_k fun K853 hK853 => ?_
          refine seq_j (J := fun a w => ∃ (g3034 : Bool), St W0 No T 107 [(3, vz1213_3), (6, vz3024_2), (21, vz1213_3), (22, .int .i64 (u1212.1.length : Int)), (23, .int .i64 g2410), (46, .bool g3034)] [.own vz1213_3 34 R_RecordD.size clz1213_4, .own vz3024_2 32 R_KeyD.size clz3024_3] [RowsF R_RecordD clz1213_4 u1212.1, RowsF R_KeyD clz3024_3 u3023, LvF] a w ∧ law29_GroupDivides_j6 u1212 g2410 u3023 g3034 = some f1) ?_ ?_
          · skip
            refine r_list ?_
            refine wl rfl (ky (v := vz3024_2) hS (y_move hS rfl) rfl rfl fun a hS => ?_)
            refine wl rfl (ky (v := .pointer (some ⟨b3020, 0 + 0, none⟩)) hS (y_fld hS rfl fl34_0) rfl rfl fun a hS => ?_)
            refine wl rfl (ky (v := .agg #[.int .i64 e3011.Key.Kind, .string e3011.Key.Text]) hS (y_load hS rfl ty32 1 rfl id (us := [.int .i64 e3011.Key.Kind, .string e3011.Key.Text]) rfl rfl (fun h => by cases h)) rfl rfl fun a hS => ?_)
            have hL := hS
            replace hL := hL.freeze (R := R_KeyD) 0 rfl 0 rfl
            obtain ⟨u3264, hu3264, hM⟩ := bd hM
            refine wl rfl (k_call hS ci19 rfl rfl (ref23_Has_c _ _ hL.dlt u3023 e3011.Key _ (hL.get 0 rfl) _ hu3264) fun _ w hR a hk hA => ?_)
            have he := Eq.symm hR
            subst he
            have hS := hA [] (fun r hr => by cases hr) List.Pairwise.nil
            refine wl rfl (ky (v := .bool (!(u3264))) hS (y_not hS rfl) rfl rfl fun a hS => ?_)
            refine wl rfl (ky (v := .bool (!(u3264))) hS (y_move hS rfl) rfl rfl fun a hS => ?_)
            rcases bool2 (!(u3264)) with hb3266 | hb3266
            · replace hM := ct hb3266 hM
              refine wn hS rfl rfl rfl hb3266 rfl rfl fun a hS => ?_
              refine wn hS rfl rfl rfl hb3266 rfl rfl fun a hS => ?_
              refine wn hS rfl rfl rfl hb3266 rfl rfl fun a hS => ?_
              refine wn hS rfl rfl rfl hb3266 rfl rfl fun a hS => ?_
              refine wnu hS rfl rfl rfl rfl rfl fun a hS => ?_
              refine wnu hS rfl rfl rfl rfl rfl fun a hS => ?_
              refine wnu hS rfl rfl rfl rfl rfl fun a hS => ?_
              refine wnu hS rfl rfl rfl rfl rfl fun a hS => ?_
              refine wn hS rfl rfl rfl hb3266 rfl rfl fun a hS => ?_
              refine wl rfl (ky (v := .bool true) hS (y_pickt hS rfl hb3266 rfl) rfl rfl fun a hS => ?_)
              refine wpList_nil ?_
              try simp only [Exit.then, Exit.inBlock, ↓reduceIte, Nat.reduceEqDiff]
              exact ⟨true, (hS.meet [2, 0] (by decide) ⟨rfl, rfl, rfl, rfl, rfl, rfl, trivial⟩ ⟨rfl, rfl, trivial⟩ ⟨⟨2, rfl⟩, ⟨0, rfl⟩, ⟨3, rfl⟩, trivial⟩), hM⟩
            · replace hM := cf hb3266 hM
              refine wg hS rfl rfl rfl hb3266 (ky (v := vz3024_2) hS (y_move hS rfl) rfl rfl fun a hS => ?_)
              refine wg hS rfl rfl rfl hb3266 (ky (v := .int .i64 (u3023.length : Int)) hS (y_leno (R := R_KeyD) (xs := u3023) hS sl23 rfl 0 rfl 0 rfl) rfl rfl fun a hS => ?_)
              refine wg hS rfl rfl rfl hb3266 (ky (v := .bool (decide ((1 : Int) < (u3023.length : Int)))) hS (y_int hS rfl rfl rfl) rfl rfl fun a hS => ?_)
              refine wg hS rfl rfl rfl hb3266 (ky (v := .bool (decide ((1 : Int) < (u3023.length : Int)))) hS (y_move hS rfl) rfl rfl fun a hS => ?_)
              rcases bool2 (decide ((1 : Int) < (u3023.length : Int))) with hb3267 | hb3267
              · replace hM := ct hb3267 hM
                refine wg hS rfl rfl rfl hb3267 (ky (v := .pointer (some ⟨b3020, 0 + 0, none⟩)) hS (y_fld hS rfl fl34_0) rfl rfl fun a hS => ?_)
                refine wg hS rfl rfl rfl hb3267 (ky (v := .pointer (some ⟨b3020, 0 + 0 + 0, none⟩)) hS (y_fld hS rfl fl32_0) rfl rfl fun a hS => ?_)
                refine wg hS rfl rfl rfl hb3267 (ky (v := .int .i64 e3011.Key.Kind) hS (y_load hS rfl ty3 1 rfl id (us := [.int .i64 e3011.Key.Kind]) rfl rfl (fun _ => rfl)) rfl rfl fun a hS => ?_)
                refine wg hS rfl rfl rfl hb3267 (ky (v := .bool ((e3011.Key.Kind : Int) != 32)) hS (y_int hS rfl rfl rfl) rfl rfl fun a hS => ?_)
                refine wg hS rfl rfl rfl hb3266 (ky (v := .bool ((e3011.Key.Kind : Int) != 32)) hS (y_pickt hS rfl hb3267 rfl) rfl rfl fun a hS => ?_)
                refine wl rfl (ky (v := .bool ((e3011.Key.Kind : Int) != 32)) hS (y_pickf hS rfl hb3266 rfl) rfl rfl fun a hS => ?_)
                refine wpList_nil ?_
                try simp only [Exit.then, Exit.inBlock, ↓reduceIte, Nat.reduceEqDiff]
                exact ⟨((e3011.Key.Kind : Int) != 32), (hS.meet [2, 0] (by decide) ⟨rfl, rfl, rfl, rfl, rfl, rfl, trivial⟩ ⟨rfl, rfl, trivial⟩ ⟨⟨2, rfl⟩, ⟨0, rfl⟩, ⟨3, rfl⟩, trivial⟩), hM⟩
              · replace hM := cf hb3267 hM
                refine wn hS rfl rfl rfl hb3267 rfl rfl fun a hS => ?_
                refine wn hS rfl rfl rfl hb3267 rfl rfl fun a hS => ?_
                refine wn hS rfl rfl rfl hb3267 rfl rfl fun a hS => ?_
                refine wn hS rfl rfl rfl hb3267 rfl rfl fun a hS => ?_
                refine wg hS rfl rfl rfl hb3266 (ky (v := .bool false) hS (y_pickf hS rfl hb3267 rfl) rfl rfl fun a hS => ?_)
                refine wl rfl (ky (v := .bool false) hS (y_pickf hS rfl hb3266 rfl) rfl rfl fun a hS => ?_)
                refine wpList_nil ?_
                try simp only [Exit.then, Exit.inBlock, ↓reduceIte, Nat.reduceEqDiff]
                exact ⟨false, (hS.meet [2, 0] (by decide) ⟨rfl, rfl, rfl, rfl, rfl, rfl, trivial⟩ ⟨rfl, rfl, trivial⟩ ⟨⟨2, rfl⟩, ⟨0, rfl⟩, ⟨3, rfl⟩, trivial⟩), hM⟩
          · rintro a w ⟨g3034, hS, hM⟩
            unfold law29_GroupDivides_j6 at hM
            rcases bool2 (g3034) with hb3035 | hb3035
            · replace hM := ct hb3035 hM
              refine c_t hS rfl hb3035 ?_
              refine wp_seq_k fun K854 hK854 => ?_
              refine r_list ?_
              refine wl rfl (ky (v := .bool false) hS (y_assign hS rfl) rfl rfl fun a hS => ?_)
              refine wpList_nil ?_
              try simp only [Exit.then, Exit.inBlock, ↓reduceIte, Nat.reduceEqDiff]
              refine hK854 _ _ ?_
              refine wp_ret ?_
              injection hM with hM
              subst hM
              have hr := hf1 _ rfl
              subst hr
              replace hMo1 := el_out hMo1
              have hM := hMo1
              injection hM with hM
              subst hM
              try simp only [Exit.then, Exit.inBlock, ↓reduceIte, Nat.reduceEqDiff]
              refine ret_ok hS Tryd.results4 (res_tmp hS rfl res_nil) ?_
              exact rfl
            · replace hM := cf hb3035 hM
              refine c_f hS rfl hb3035 ?_
              refine wp_skip ?_
              try simp only [Exit.then, Exit.inBlock, ↓reduceIte, Nat.reduceEqDiff]
              refine hK853 _ _ ?_
              refine seq_j (J := fun a w => St W0 No T 107 [(3, vz1213_3), (6, vz3024_2), (21, vz1213_3), (22, .int .i64 (u1212.1.length : Int)), (23, .int .i64 g2410)] [.own vz1213_3 34 R_RecordD.size clz1213_4, .own vz3024_2 32 R_KeyD.size clz3024_3] [RowsF R_RecordD clz1213_4 u1212.1, RowsF R_KeyD clz3024_3 u3023, LvF] a w ∧ law29_GroupDivides_j4 u1212 g2410 u3023 = some f1) ?_ ?_
              · skip
                refine wp_seq_k fun K901 hK901 => ?_
                refine r_list ?_
                refine wl rfl (ky (v := vz1213_3) hS (y_move hS rfl) rfl rfl fun a hS => ?_)
                refine wl rfl (ky (v := .int .i64 (u1212.1.length : Int)) hS (y_leno (R := R_RecordD) (xs := u1212.1) hS sl28 rfl 0 rfl 0 rfl) rfl rfl fun a hS => ?_)
                refine wl rfl (ky (v := .int .i64 0) hS (y_move hS rfl) rfl rfl fun a hS => ?_)
                refine wpList_nil ?_
                try simp only [Exit.then, Exit.inBlock, ↓reduceIte, Nat.reduceEqDiff]
                refine hK901 _ _ ?_
                refine wp_block ?_
                obtain ⟨r2, hl2, hMo2⟩ := bd hM
                refine wp_lp (fun s : Int => law29_GroupDivides_l5 u1212 u3023 s) (fun s a w => ∃ (g3220 : Int), g3220 = s ∧ St W0 No T 107 [(3, vz1213_3), (6, vz3024_2), (21, vz1213_3), (22, .int .i64 (u1212.1.length : Int)), (23, .int .i64 g2410), (47, vz1213_3), (48, .int .i64 (u1212.1.length : Int)), (49, .int .i64 g3220)] [.own vz1213_3 34 R_RecordD.size clz1213_4, .own vz3024_2 32 R_KeyD.size clz3024_3] [RowsF R_RecordD clz1213_4 u1212.1, RowsF R_KeyD clz3024_3 u3023, LvF] a w) hl2 ⟨0, rfl, (hS.meet [0, 1] (by decide) ⟨rfl, rfl, rfl, rfl, rfl, rfl, rfl, rfl, trivial⟩ ⟨rfl, rfl, trivial⟩ ⟨⟨0, rfl⟩, ⟨1, rfl⟩, ⟨2, rfl⟩, trivial⟩)⟩ ?_
                rintro s a w f2 ⟨g3220, rfl, hS⟩ hM hf2
                have hM : law29_GroupDivides_l5 u1212 u3023 g3220 = some f2 := hM
                unfold law29_GroupDivides_l5 at hM
                refine wp_seq_k fun K916 hK916 => ?_
                refine r_list ?_
                refine wl rfl (ky (v := .bool (decide ((g3220 : Int) < (u1212.1.length : Int)))) hS (y_int hS rfl rfl rfl) rfl rfl fun a hS => ?_)
                refine wpList_nil ?_
                try simp only [Exit.then, Exit.inBlock, ↓reduceIte, Nat.reduceEqDiff]
                refine hK916 _ _ ?_
                refine wp_seq_k fun K917 hK917 => ?_
                rcases bool2 (decide ((g3220 : Int) < (u1212.1.length : Int))) with hb3243 | hb3243
                · replace hM := ct hb3243 hM
                  refine c_t hS rfl hb3243 ?_
                  refine wp_skip ?_
                  try simp only [Exit.then, Exit.inBlock, ↓reduceIte, Nat.reduceEqDiff]
                  refine hK917 _ _ ?_
                  refine wp_seq_k fun K918 hK918 => ?_
                  refine wp_block ?_
                  refine wp_seq_k fun K919 hK919 => ?_
                  refine r_list ?_
                  obtain ⟨e3244, he3244, hM⟩ := bd hM
                  refine wl rfl (k_indexo (R := R_RecordD) hS sl28 ty34 rfl rfl 0 rfl 0 rfl he3244 rfl fun b3246 o3247 p3252 cs3249 hr3248 hO3250 hC3251 a hS => ?_)
                  obtain ⟨v3245, rfl, hv3245⟩ := hr3248
                  replace hS := hS.fact (SlF R_KeyD v3245 e3244.Reads) hv3245
                  refine wl rfl (ky (v := .agg #[.int .i64 e3244.Key.Kind, .string e3244.Key.Text, .string e3244.Value, v3245, .int .i64 e3244.Changed, .int .i64 e3244.Verified, .int .i64 e3244.Cost, .bool e3244.Dirty]) hS (y_loado (k := 0) hS ty34 0 rfl hO3250 hC3251 rfl id (us := [.int .i64 e3244.Key.Kind, .string e3244.Key.Text, .string e3244.Value, v3245, .int .i64 e3244.Changed, .int .i64 e3244.Verified, .int .i64 e3244.Cost, .bool e3244.Dirty]) rfl rfl (fun h => by cases h)) rfl rfl fun a hS => ?_)
                  refine wl rfl (k_alloc hS ze34 rfl fun b3253 hnb3255 a w hk hS => ?_)
                  refine wl rfl (k_store hS rfl rfl (us := [.int .i64 e3244.Key.Kind, .string e3244.Key.Text, .string e3244.Value, v3245, .int .i64 e3244.Changed, .int .i64 e3244.Verified, .int .i64 e3244.Cost, .bool e3244.Dirty]) rfl ty34 0 rfl rfl rfl (oc rfl (oc rfl (oc rfl (oc (SlR.one ((hS.get 0 rfl) : SlR R_KeyD _ _ _ _)) (oc rfl (oc rfl (oc rfl (oc rfl on)))))))) fun w hk hS => ?_)
                  refine wpList_nil ?_
                  try simp only [Exit.then, Exit.inBlock, ↓reduceIte, Nat.reduceEqDiff]
                  refine hK919 _ _ ?_
                  refine wp_seq_k fun K920 hK920 => ?_
                  refine r_list ?_
                  refine wl rfl (ky (v := vz1213_3) hS (y_move hS rfl) rfl rfl fun a hS => ?_)
                  refine wl rfl (ky (v := .pointer (some ⟨b3253, 0 + 0, none⟩)) hS (y_fld hS rfl fl34_0) rfl rfl fun a hS => ?_)
                  refine wl rfl (ky (v := .agg #[.int .i64 e3244.Key.Kind, .string e3244.Key.Text]) hS (y_load hS rfl ty32 0 rfl id (us := [.int .i64 e3244.Key.Kind, .string e3244.Key.Text]) rfl rfl (fun h => by cases h)) rfl rfl fun a hS => ?_)
                  have hL := hS
                  replace hL := hL.freeze (R := R_RecordD) 1 rfl 1 rfl
                  obtain ⟨u3256, hu3256, hM⟩ := bd hM
                  refine wl rfl (k_call hS ci13 rfl rfl (group_Of_c _ _ hL.dlt (hL.get 4 rfl) u1212.1 2 e3244.Key _ (hL.get 0 rfl) _ hu3256) fun _ w hR a hk hA => ?_)
                  obtain ⟨vz3257_2, clz3257_3, he, ⟨hOvz3257_2, hFvz3257_2, hRvz3257_2⟩⟩ := hR
                  replace he := he.symm
                  subst he
                  have hS := hA [.own vz3257_2 32 R_KeyD.size clz3257_3] (adds1 ⟨hOvz3257_2, by decide⟩ hFvz3257_2) (pw1 _)
                  replace hS := hS.fact (RowsF R_KeyD clz3257_3 u3256) hRvz3257_2
                  refine wl rfl (ky (v := vz3257_2) hS (y_assign hS rfl) rfl rfl fun a hS => ?_)
                  refine wpList_nil ?_
                  try simp only [Exit.then, Exit.inBlock, ↓reduceIte, Nat.reduceEqDiff]
                  refine hK920 _ _ ?_
                  refine wp_seq_k fun K921 hK921 => ?_
                  refine r_list ?_
                  refine wl rfl (ky (v := vz3024_2) hS (y_move hS rfl) rfl rfl fun a hS => ?_)
                  refine wl rfl (ky (v := .pointer (some ⟨b3253, 0 + 0, none⟩)) hS (y_fld hS rfl fl34_0) rfl rfl fun a hS => ?_)
                  refine wl rfl (ky (v := .agg #[.int .i64 e3244.Key.Kind, .string e3244.Key.Text]) hS (y_load hS rfl ty32 1 rfl id (us := [.int .i64 e3244.Key.Kind, .string e3244.Key.Text]) rfl rfl (fun h => by cases h)) rfl rfl fun a hS => ?_)
                  have hL := hS
                  replace hL := hL.freeze (R := R_KeyD) 3 rfl 3 rfl
                  obtain ⟨u3259, hu3259, hM⟩ := bd hM
                  refine wl rfl (k_call hS ci19 rfl rfl (ref23_Has_c _ _ hL.dlt u3023 e3244.Key _ (hL.get 0 rfl) _ hu3259) fun _ w hR a hk hA => ?_)
                  have he := Eq.symm hR
                  subst he
                  have hS := hA [] (fun r hr => by cases hr) List.Pairwise.nil
                  refine wl rfl (ky (v := vz3024_2) hS (y_move hS rfl) rfl rfl fun a hS => ?_)
                  refine wl rfl (ky (v := vz3257_2) hS (y_move hS rfl) rfl rfl fun a hS => ?_)
                  have hL := hS
                  replace hL := hL.freeze (R := R_KeyD) 3 rfl 3 rfl
                  replace hL := hL.freeze (R := R_KeyD) 0 rfl 1 rfl
                  obtain ⟨u3261, hu3261, hM⟩ := bd hM
                  refine wl rfl (k_call hS ci15 rfl rfl (ref23_SameList_c _ _ hL.dlt u3023 u3256 _ _ (hL.get 1 rfl) (hL.get 0 rfl) _ hu3261) fun _ w hR a hk hA => ?_)
                  have he := Eq.symm hR
                  subst he
                  have hS := hA [] (fun r hr => by cases hr) List.Pairwise.nil
                  refine wl rfl (ky (v := .bool (u3259 != u3261)) hS (y_bool hS rfl rfl Tryd.underlying4 (.inr ⟨rfl, rfl⟩)) rfl rfl fun a hS => ?_)
                  refine wpList_nil ?_
                  try simp only [Exit.then, Exit.inBlock, ↓reduceIte, Nat.reduceEqDiff]
                  refine hK921 _ _ ?_
                  rcases bool2 (u3259 != u3261) with hb3263 | hb3263
                  · replace hM := ct hb3263 hM
                    refine c_t hS rfl hb3263 ?_
                    refine wp_seq_k fun K922 hK922 => ?_
                    refine r_list ?_
                    refine wl rfl (ky (v := .bool false) hS (y_assign hS rfl) rfl rfl fun a hS => ?_)
                    refine wpList_nil ?_
                    try simp only [Exit.then, Exit.inBlock, ↓reduceIte, Nat.reduceEqDiff]
                    refine hK922 _ _ ?_
                    refine wp_ret ?_
                    injection hM with hM
                    subst hM
                    have hr := hf2 _ rfl
                    subst hr
                    replace hMo2 := el_out hMo2
                    have hM := hMo2
                    injection hM with hM
                    subst hM
                    have hr := hf1 _ rfl
                    subst hr
                    replace hMo1 := el_out hMo1
                    have hM := hMo1
                    injection hM with hM
                    subst hM
                    try simp only [Exit.then, Exit.inBlock, ↓reduceIte, Nat.reduceEqDiff]
                    refine ret_ok hS Tryd.results4 (res_tmp hS rfl res_nil) ?_
                    exact rfl
                  · replace hM := cf hb3263 hM
                    refine c_f hS rfl hb3263 ?_
                    refine wp_skip ?_
                    try simp only [Exit.then, Exit.inBlock, ↓reduceIte, Nat.reduceEqDiff]
                    refine hK918 _ _ ?_
                    refine r_list ?_
                    refine wl rfl (ky (v := .int .i64 (IntKind.i64.wrap (g3220 + 1))) hS (y_int hS rfl rfl rfl) rfl rfl fun a hS => ?_)
                    refine wl rfl (ky (v := .int .i64 (IntKind.i64.wrap (g3220 + 1))) hS (y_move hS rfl) rfl rfl fun a hS => ?_)
                    refine wpList_nil ?_
                    try simp only [Exit.then, Exit.inBlock, ↓reduceIte, Nat.reduceEqDiff]
                    exact ⟨IntKind.i64.wrap (g3220 + 1), (Option.some.inj hM).symm, (IntKind.i64.wrap (g3220 + 1)), rfl, (hS.meet [2, 3] (by decide) ⟨rfl, rfl, rfl, rfl, rfl, rfl, rfl, rfl, trivial⟩ ⟨rfl, rfl, trivial⟩ ⟨⟨2, rfl⟩, ⟨3, rfl⟩, ⟨4, rfl⟩, trivial⟩)⟩
                · replace hM := cf hb3243 hM
                  refine c_f hS rfl hb3243 ?_
                  refine wp_exit ?_
                  try simp only [Exit.then, Exit.inBlock, ↓reduceIte, Nat.reduceEqDiff]
                  injection hM with hM
                  subst hM
                  have hr := hf2 _ rfl
                  subst hr
                  replace hMo2 := el_go hMo2
                  have hM : law29_GroupDivides_j4 u1212 g2410 u3023 = some f1 := hMo2
                  exact ⟨(hS.meet [0, 1] (by decide) ⟨rfl, rfl, rfl, rfl, rfl, trivial⟩ ⟨rfl, rfl, trivial⟩ ⟨⟨0, rfl⟩, ⟨1, rfl⟩, ⟨2, rfl⟩, trivial⟩), hM⟩
              · rintro a w ⟨hS, hM⟩
                unfold law29_GroupDivides_j4 at hM
                refine wp_seq_k fun K870 hK870 => ?_
                refine r_list ?_
                refine wl rfl (ky (v := vz1213_3) hS (y_move hS rfl) rfl rfl fun a hS => ?_)
                refine wl rfl (ky (v := vz3024_2) hS (y_move hS rfl) rfl rfl fun a hS => ?_)
                have hL := hS
                replace hL := hL.freeze (R := R_RecordD) 0 rfl 0 rfl
                replace hL := hL.freeze (R := R_KeyD) 0 rfl 2 rfl
                obtain ⟨u3081, hu3081, hM⟩ := bd hM
                refine wl rfl (k_call hS ci17 rfl rfl (group_Checks_c _ _ hL.dlt (hL.get 4 rfl) u1212.1 u3023 _ _ (hL.get 1 rfl) (hL.get 0 rfl) _ hu3081) fun _ w hR a hk hA => ?_)
                obtain ⟨vz3082_3, clz3082_4, he, ⟨hOvz3082_3, hFvz3082_3, hRvz3082_3⟩⟩ := hR
                replace he := he.symm
                subst he
                have hS := hA [.own vz3082_3 44 R_CheckD.size clz3082_4] (adds1 ⟨hOvz3082_3, by decide⟩ hFvz3082_3) (pw1 _)
                replace hS := hS.fact (RowsF R_CheckD clz3082_4 u3081) hRvz3082_3
                refine wl rfl (ky (v := .int .i64 (u3081.length : Int)) hS (y_leno (R := R_CheckD) (xs := u3081) hS sl39 rfl 0 rfl 0 rfl) rfl rfl fun a hS => ?_)
                refine wl rfl (ky (v := .int .i64 0) hS (y_move hS rfl) rfl rfl fun a hS => ?_)
                refine wpList_nil ?_
                try simp only [Exit.then, Exit.inBlock, ↓reduceIte, Nat.reduceEqDiff]
                refine hK870 _ _ ?_
                refine wp_block ?_
                obtain ⟨r2, hl2, hMo2⟩ := bd hM
                refine wp_lp (fun s : Int => law29_GroupDivides_l3 u1212 u3023 u3081 s) (fun s a w => ∃ (g3122 : Int), g3122 = s ∧ St W0 No T 107 [(3, vz1213_3), (6, vz3024_2), (21, vz1213_3), (22, .int .i64 (u1212.1.length : Int)), (23, .int .i64 g2410), (68, vz3082_3), (69, .int .i64 (u3081.length : Int)), (70, .int .i64 g3122)] [.own vz1213_3 34 R_RecordD.size clz1213_4, .own vz3024_2 32 R_KeyD.size clz3024_3, .own vz3082_3 44 R_CheckD.size clz3082_4] [RowsF R_RecordD clz1213_4 u1212.1, RowsF R_KeyD clz3024_3 u3023, RowsF R_CheckD clz3082_4 u3081, LvF] a w) hl2 ⟨0, rfl, (hS.meet [1, 2, 0] (by decide) ⟨rfl, rfl, rfl, rfl, rfl, rfl, rfl, rfl, trivial⟩ ⟨rfl, rfl, rfl, trivial⟩ ⟨⟨1, rfl⟩, ⟨2, rfl⟩, ⟨0, rfl⟩, ⟨3, rfl⟩, trivial⟩)⟩ ?_
                rintro s a w f2 ⟨g3122, rfl, hS⟩ hM hf2
                have hM : law29_GroupDivides_l3 u1212 u3023 u3081 g3122 = some f2 := hM
                unfold law29_GroupDivides_l3 at hM
                refine wp_seq_k fun K891 hK891 => ?_
                refine r_list ?_
                refine wl rfl (ky (v := .bool (decide ((g3122 : Int) < (u3081.length : Int)))) hS (y_int hS rfl rfl rfl) rfl rfl fun a hS => ?_)
                refine wpList_nil ?_
                try simp only [Exit.then, Exit.inBlock, ↓reduceIte, Nat.reduceEqDiff]
                refine hK891 _ _ ?_
                refine wp_seq_k fun K892 hK892 => ?_
                rcases bool2 (decide ((g3122 : Int) < (u3081.length : Int))) with hb3161 | hb3161
                · replace hM := ct hb3161 hM
                  refine c_t hS rfl hb3161 ?_
                  refine wp_skip ?_
                  try simp only [Exit.then, Exit.inBlock, ↓reduceIte, Nat.reduceEqDiff]
                  refine hK892 _ _ ?_
                  refine wp_seq_k fun K893 hK893 => ?_
                  refine wp_block ?_
                  refine wp_seq_k fun K894 hK894 => ?_
                  refine r_list ?_
                  obtain ⟨e3162, he3162, hM⟩ := bd hM
                  refine wl rfl (k_indexo (R := R_CheckD) hS sl39 ty44 rfl rfl 2 rfl 2 rfl he3162 rfl fun b3163 o3164 p3169 cs3166 hr3165 hO3167 hC3168 a hS => ?_)
                  obtain rfl := hr3165
                  refine wl rfl (ky (v := .agg #[.int .i64 e3162.Member.Kind, .string e3162.Member.Text, .int .i64 e3162.Read.Kind, .string e3162.Read.Text]) hS (y_loado (k := 0) hS ty44 2 rfl hO3167 hC3168 rfl id (us := [.int .i64 e3162.Member.Kind, .string e3162.Member.Text, .int .i64 e3162.Read.Kind, .string e3162.Read.Text]) rfl rfl (fun h => by cases h)) rfl rfl fun a hS => ?_)
                  refine wl rfl (k_alloc hS ze44 rfl fun b3170 hnb3172 a w hk hS => ?_)
                  refine wl rfl (k_store hS rfl rfl (us := [.int .i64 e3162.Member.Kind, .string e3162.Member.Text, .int .i64 e3162.Read.Kind, .string e3162.Read.Text]) rfl ty44 0 rfl rfl rfl (oc rfl (oc rfl (oc rfl (oc rfl on)))) fun w hk hS => ?_)
                  refine wpList_nil ?_
                  try simp only [Exit.then, Exit.inBlock, ↓reduceIte, Nat.reduceEqDiff]
                  refine hK894 _ _ ?_
                  refine wp_seq_k fun K895 hK895 => ?_
                  refine r_list ?_
                  refine wl rfl (ky (v := vz1213_3) hS (y_move hS rfl) rfl rfl fun a hS => ?_)
                  refine wl rfl (ky (v := .pointer (some ⟨b3170, 0 + 0, none⟩)) hS (y_fld hS rfl fl44_0) rfl rfl fun a hS => ?_)
                  refine wl rfl (ky (v := .agg #[.int .i64 e3162.Member.Kind, .string e3162.Member.Text]) hS (y_load hS rfl ty32 0 rfl id (us := [.int .i64 e3162.Member.Kind, .string e3162.Member.Text]) rfl rfl (fun h => by cases h)) rfl rfl fun a hS => ?_)
                  have hL := hS
                  replace hL := hL.freeze (R := R_RecordD) 1 rfl 0 rfl
                  obtain ⟨u3173, hu3173, hM⟩ := bd hM
                  refine wl rfl (k_call hS ci20 rfl rfl (ref26_Find_c _ _ hL.dlt u1212.1 e3162.Member _ (hL.get 0 rfl) _ hu3173) fun _ w hR a hk hA => ?_)
                  obtain ⟨vz3174_2, clz3174_3, he, ⟨hOvz3174_2, hFvz3174_2, hRvz3174_2⟩⟩ := hR
                  replace he := he.symm
                  subst he
                  have hS := hA [.own vz3174_2 32 R_KeyD.size clz3174_3] (adds1 ⟨hOvz3174_2, by decide⟩ hFvz3174_2) (pw1 _)
                  replace hS := hS.fact (RowsF R_KeyD clz3174_3 u3173.1.Reads) hRvz3174_2
                  refine wl rfl (ky (v := .tuple #[.agg #[.int .i64 u3173.1.Key.Kind, .string u3173.1.Key.Text, .string u3173.1.Value, vz3174_2, .int .i64 u3173.1.Changed, .int .i64 u3173.1.Verified, .int .i64 u3173.1.Cost, .bool u3173.1.Dirty], .bool u3173.2]) hS (y_move hS rfl) rfl rfl fun a hS => ?_)
                  refine wl rfl (ky (v := .agg #[.int .i64 u3173.1.Key.Kind, .string u3173.1.Key.Text, .string u3173.1.Value, vz3174_2, .int .i64 u3173.1.Changed, .int .i64 u3173.1.Verified, .int .i64 u3173.1.Cost, .bool u3173.1.Dirty]) hS (y_ex hS rfl rfl) rfl rfl fun a hS => ?_)
                  refine wl rfl (ky (v := .bool u3173.2) hS (y_ex hS rfl rfl) rfl rfl fun a hS => ?_)
                  refine wl rfl (k_alloc hS ze34 rfl fun b3176 hnb3178 a w hk hS => ?_)
                  refine wl rfl (k_store hS rfl rfl (us := [.int .i64 u3173.1.Key.Kind, .string u3173.1.Key.Text, .string u3173.1.Value, vz3174_2, .int .i64 u3173.1.Changed, .int .i64 u3173.1.Verified, .int .i64 u3173.1.Cost, .bool u3173.1.Dirty]) rfl ty34 0 rfl rfl rfl (oc rfl (oc rfl (oc rfl (oc (own_one (hS.own _ (List.mem_of_getElem? (i := 1) rfl)).1) (oc rfl (oc rfl (oc rfl (oc rfl on)))))))) fun w hk hS => ?_)
                  refine wl rfl (ky (v := .bool u3173.2) hS (y_assign hS rfl) rfl rfl fun a hS => ?_)
                  refine wpList_nil ?_
                  try simp only [Exit.then, Exit.inBlock, ↓reduceIte, Nat.reduceEqDiff]
                  refine hK895 _ _ ?_
                  refine wp_seq_k fun K896 hK896 => ?_
                  refine r_list ?_
                  refine wl rfl (ky (v := .bool u3173.2) hS (y_move hS rfl) rfl rfl fun a hS => ?_)
                  refine wl rfl (ky (v := .bool (!(u3173.2))) hS (y_not hS rfl) rfl rfl fun a hS => ?_)
                  refine wl rfl (ky (v := .bool (!(u3173.2))) hS (y_move hS rfl) rfl rfl fun a hS => ?_)
                  rcases bool2 (!(u3173.2)) with hb3188 | hb3188
                  · replace hM := ct hb3188 hM
                    refine wn hS rfl rfl rfl hb3188 rfl rfl fun a hS => ?_
                    refine wn hS rfl rfl rfl hb3188 rfl rfl fun a hS => ?_
                    refine wn hS rfl rfl rfl hb3188 rfl rfl fun a hS => ?_
                    refine wn hS rfl rfl rfl hb3188 rfl rfl fun a hS => ?_
                    refine wn hS rfl rfl rfl hb3188 rfl rfl fun a hS => ?_
                    refine wl rfl (ky (v := .bool true) hS (y_pickt hS rfl hb3188 rfl) rfl rfl fun a hS => ?_)
                    refine wl rfl (ky (v := .bool true) hS (y_move hS rfl) rfl rfl fun a hS => ?_)
                    refine wn hS rfl rfl rfl rfl rfl rfl fun a hS => ?_
                    refine wn hS rfl rfl rfl rfl rfl rfl fun a hS => ?_
                    refine wn hS rfl rfl rfl rfl rfl rfl fun a hS => ?_
                    refine wn hS rfl rfl rfl rfl rfl rfl fun a hS => ?_
                    refine wl rfl (ky (v := .bool true) hS (y_pickt hS rfl rfl rfl) rfl rfl fun a hS => ?_)
                    refine wl rfl (ky (v := .bool true) hS (y_move hS rfl) rfl rfl fun a hS => ?_)
                    refine wn hS rfl rfl rfl rfl rfl rfl fun a hS => ?_
                    refine wn hS rfl rfl rfl rfl rfl rfl fun a hS => ?_
                    refine wn hS rfl rfl rfl rfl rfl rfl fun a hS => ?_
                    refine wn hS rfl rfl rfl rfl rfl rfl fun a hS => ?_
                    refine wn hS rfl rfl rfl rfl rfl rfl fun a hS => ?_
                    refine wn hS rfl rfl rfl rfl rfl rfl fun a hS => ?_
                    refine wl rfl (ky (v := .bool true) hS (y_pickt hS rfl rfl rfl) rfl rfl fun a hS => ?_)
                    refine wpList_nil ?_
                    try simp only [Exit.then, Exit.inBlock, ↓reduceIte, Nat.reduceEqDiff]
                    refine hK896 _ _ ?_
                    refine c_t hS rfl rfl ?_
                    refine wp_seq_k fun K897 hK897 => ?_
                    refine r_list ?_
                    refine wl rfl (ky (v := .bool false) hS (y_assign hS rfl) rfl rfl fun a hS => ?_)
                    refine wpList_nil ?_
                    try simp only [Exit.then, Exit.inBlock, ↓reduceIte, Nat.reduceEqDiff]
                    refine hK897 _ _ ?_
                    refine wp_ret ?_
                    injection hM with hM
                    subst hM
                    have hr := hf2 _ rfl
                    subst hr
                    replace hMo2 := el_out hMo2
                    have hM := hMo2
                    injection hM with hM
                    subst hM
                    have hr := hf1 _ rfl
                    subst hr
                    replace hMo1 := el_out hMo1
                    have hM := hMo1
                    injection hM with hM
                    subst hM
                    try simp only [Exit.then, Exit.inBlock, ↓reduceIte, Nat.reduceEqDiff]
                    refine ret_ok hS Tryd.results4 (res_tmp hS rfl res_nil) ?_
                    exact rfl
                  · replace hM := cf hb3188 hM
                    refine wg hS rfl rfl rfl hb3188 (ky (v := vz3024_2) hS (y_move hS rfl) rfl rfl fun a hS => ?_)
                    refine wg hS rfl rfl rfl hb3188 (ky (v := .pointer (some ⟨b3170, 0 + 0, none⟩)) hS (y_fld hS rfl fl44_0) rfl rfl fun a hS => ?_)
                    refine wg hS rfl rfl rfl hb3188 (ky (v := .agg #[.int .i64 e3162.Member.Kind, .string e3162.Member.Text]) hS (y_load hS rfl ty32 2 rfl id (us := [.int .i64 e3162.Member.Kind, .string e3162.Member.Text]) rfl rfl (fun h => by cases h)) rfl rfl fun a hS => ?_)
                    have hL := hS
                    replace hL := hL.freeze (R := R_KeyD) 4 rfl 2 rfl
                    obtain ⟨u3189, hu3189, hM⟩ := bd hM
                    refine wg hS rfl rfl rfl hb3188 (k_call hS ci19 rfl rfl (ref23_Has_c _ _ hL.dlt u3023 e3162.Member _ (hL.get 0 rfl) _ hu3189) fun _ w hR a hk hA => ?_)
                    have he := Eq.symm hR
                    subst he
                    have hS := hA [] (fun r hr => by cases hr) List.Pairwise.nil
                    refine wg hS rfl rfl rfl hb3188 (ky (v := .bool (!(u3189))) hS (y_not hS rfl) rfl rfl fun a hS => ?_)
                    refine wl rfl (ky (v := .bool (!(u3189))) hS (y_pickf hS rfl hb3188 rfl) rfl rfl fun a hS => ?_)
                    refine wl rfl (ky (v := .bool (!(u3189))) hS (y_move hS rfl) rfl rfl fun a hS => ?_)
                    rcases bool2 (!(u3189)) with hb3191 | hb3191
                    · replace hM := ct hb3191 hM
                      refine wn hS rfl rfl rfl hb3191 rfl rfl fun a hS => ?_
                      refine wn hS rfl rfl rfl hb3191 rfl rfl fun a hS => ?_
                      refine wn hS rfl rfl rfl hb3191 rfl rfl fun a hS => ?_
                      refine wn hS rfl rfl rfl hb3191 rfl rfl fun a hS => ?_
                      refine wl rfl (ky (v := .bool true) hS (y_pickt hS rfl hb3191 rfl) rfl rfl fun a hS => ?_)
                      refine wl rfl (ky (v := .bool true) hS (y_move hS rfl) rfl rfl fun a hS => ?_)
                      refine wn hS rfl rfl rfl rfl rfl rfl fun a hS => ?_
                      refine wn hS rfl rfl rfl rfl rfl rfl fun a hS => ?_
                      refine wn hS rfl rfl rfl rfl rfl rfl fun a hS => ?_
                      refine wn hS rfl rfl rfl rfl rfl rfl fun a hS => ?_
                      refine wn hS rfl rfl rfl rfl rfl rfl fun a hS => ?_
                      refine wn hS rfl rfl rfl rfl rfl rfl fun a hS => ?_
                      refine wl rfl (ky (v := .bool true) hS (y_pickt hS rfl rfl rfl) rfl rfl fun a hS => ?_)
                      refine wpList_nil ?_
                      try simp only [Exit.then, Exit.inBlock, ↓reduceIte, Nat.reduceEqDiff]
                      refine hK896 _ _ ?_
                      refine c_t hS rfl rfl ?_
                      refine wp_seq_k fun K898 hK898 => ?_
                      refine r_list ?_
                      refine wl rfl (ky (v := .bool false) hS (y_assign hS rfl) rfl rfl fun a hS => ?_)
                      refine wpList_nil ?_
                      try simp only [Exit.then, Exit.inBlock, ↓reduceIte, Nat.reduceEqDiff]
                      refine hK898 _ _ ?_
                      refine wp_ret ?_
                      injection hM with hM
                      subst hM
                      have hr := hf2 _ rfl
                      subst hr
                      replace hMo2 := el_out hMo2
                      have hM := hMo2
                      injection hM with hM
                      subst hM
                      have hr := hf1 _ rfl
                      subst hr
                      replace hMo1 := el_out hMo1
                      have hM := hMo1
                      injection hM with hM
                      subst hM
                      try simp only [Exit.then, Exit.inBlock, ↓reduceIte, Nat.reduceEqDiff]
                      refine ret_ok hS Tryd.results4 (res_tmp hS rfl res_nil) ?_
                      exact rfl
                    · replace hM := cf hb3191 hM
                      refine wg hS rfl rfl rfl hb3191 (ky (v := vz3024_2) hS (y_move hS rfl) rfl rfl fun a hS => ?_)
                      refine wg hS rfl rfl rfl hb3191 (ky (v := .pointer (some ⟨b3170, 0 + 2, none⟩)) hS (y_fld hS rfl fl44_1) rfl rfl fun a hS => ?_)
                      refine wg hS rfl rfl rfl hb3191 (ky (v := .agg #[.int .i64 e3162.Read.Kind, .string e3162.Read.Text]) hS (y_load hS rfl ty32 2 rfl id (us := [.int .i64 e3162.Read.Kind, .string e3162.Read.Text]) rfl rfl (fun h => by cases h)) rfl rfl fun a hS => ?_)
                      have hL := hS
                      replace hL := hL.freeze (R := R_KeyD) 4 rfl 2 rfl
                      obtain ⟨u3192, hu3192, hM⟩ := bd hM
                      refine wg hS rfl rfl rfl hb3191 (k_call hS ci19 rfl rfl (ref23_Has_c _ _ hL.dlt u3023 e3162.Read _ (hL.get 0 rfl) _ hu3192) fun _ w hR a hk hA => ?_)
                      have he := Eq.symm hR
                      subst he
                      have hS := hA [] (fun r hr => by cases hr) List.Pairwise.nil
                      refine wl rfl (ky (v := .bool u3192) hS (y_pickf hS rfl hb3191 rfl) rfl rfl fun a hS => ?_)
                      refine wl rfl (ky (v := .bool u3192) hS (y_move hS rfl) rfl rfl fun a hS => ?_)
                      rcases bool2 (u3192) with hb3194 | hb3194
                      · replace hM := ct hb3194 hM
                        refine wn hS rfl rfl rfl hb3194 rfl rfl fun a hS => ?_
                        refine wn hS rfl rfl rfl hb3194 rfl rfl fun a hS => ?_
                        refine wn hS rfl rfl rfl hb3194 rfl rfl fun a hS => ?_
                        refine wn hS rfl rfl rfl hb3194 rfl rfl fun a hS => ?_
                        refine wn hS rfl rfl rfl hb3194 rfl rfl fun a hS => ?_
                        refine wn hS rfl rfl rfl hb3194 rfl rfl fun a hS => ?_
                        refine wl rfl (ky (v := .bool true) hS (y_pickt hS rfl hb3194 rfl) rfl rfl fun a hS => ?_)
                        refine wpList_nil ?_
                        try simp only [Exit.then, Exit.inBlock, ↓reduceIte, Nat.reduceEqDiff]
                        refine hK896 _ _ ?_
                        refine c_t hS rfl rfl ?_
                        refine wp_seq_k fun K899 hK899 => ?_
                        refine r_list ?_
                        refine wl rfl (ky (v := .bool false) hS (y_assign hS rfl) rfl rfl fun a hS => ?_)
                        refine wpList_nil ?_
                        try simp only [Exit.then, Exit.inBlock, ↓reduceIte, Nat.reduceEqDiff]
                        refine hK899 _ _ ?_
                        refine wp_ret ?_
                        injection hM with hM
                        subst hM
                        have hr := hf2 _ rfl
                        subst hr
                        replace hMo2 := el_out hMo2
                        have hM := hMo2
                        injection hM with hM
                        subst hM
                        have hr := hf1 _ rfl
                        subst hr
                        replace hMo1 := el_out hMo1
                        have hM := hMo1
                        injection hM with hM
                        subst hM
                        try simp only [Exit.then, Exit.inBlock, ↓reduceIte, Nat.reduceEqDiff]
                        refine ret_ok hS Tryd.results4 (res_tmp hS rfl res_nil) ?_
                        exact rfl
                      · replace hM := cf hb3194 hM
                        refine wg hS rfl rfl rfl hb3194 (ky (v := .pointer (some ⟨b3176, 0 + 3, none⟩)) hS (y_fld hS rfl fl34_2) rfl rfl fun a hS => ?_)
                        refine wg hS rfl rfl rfl hb3194 (ky (v := vz3174_2) hS (y_load hS rfl ty23 0 rfl id (us := [vz3174_2]) rfl rfl (fun _ => rfl)) rfl rfl fun a hS => ?_)
                        refine wg hS rfl rfl rfl hb3194 (ky (v := .pointer (some ⟨b3170, 0 + 2, none⟩)) hS (y_fld hS rfl fl44_1) rfl rfl fun a hS => ?_)
                        refine wg hS rfl rfl rfl hb3194 (ky (v := .agg #[.int .i64 e3162.Read.Kind, .string e3162.Read.Text]) hS (y_load hS rfl ty32 2 rfl id (us := [.int .i64 e3162.Read.Kind, .string e3162.Read.Text]) rfl rfl (fun h => by cases h)) rfl rfl fun a hS => ?_)
                        have hL := hS
                        replace hL := hL.freeze (R := R_KeyD) 1 rfl 0 rfl
                        obtain ⟨u3195, hu3195, hM⟩ := bd hM
                        refine wg hS rfl rfl rfl hb3194 (k_call hS ci19 rfl rfl (ref23_Has_c _ _ hL.dlt u3173.1.Reads e3162.Read _ (hL.get 0 rfl) _ hu3195) fun _ w hR a hk hA => ?_)
                        have he := Eq.symm hR
                        subst he
                        have hS := hA [] (fun r hr => by cases hr) List.Pairwise.nil
                        refine wg hS rfl rfl rfl hb3194 (ky (v := .bool (!(u3195))) hS (y_not hS rfl) rfl rfl fun a hS => ?_)
                        refine wl rfl (ky (v := .bool (!(u3195))) hS (y_pickf hS rfl hb3194 rfl) rfl rfl fun a hS => ?_)
                        refine wpList_nil ?_
                        try simp only [Exit.then, Exit.inBlock, ↓reduceIte, Nat.reduceEqDiff]
                        refine hK896 _ _ ?_
                        rcases bool2 (!(u3195)) with hb3197 | hb3197
                        · replace hM := ct hb3197 hM
                          refine c_t hS rfl hb3197 ?_
                          refine wp_seq_k fun K900 hK900 => ?_
                          refine r_list ?_
                          refine wl rfl (ky (v := .bool false) hS (y_assign hS rfl) rfl rfl fun a hS => ?_)
                          refine wpList_nil ?_
                          try simp only [Exit.then, Exit.inBlock, ↓reduceIte, Nat.reduceEqDiff]
                          refine hK900 _ _ ?_
                          refine wp_ret ?_
                          injection hM with hM
                          subst hM
                          have hr := hf2 _ rfl
                          subst hr
                          replace hMo2 := el_out hMo2
                          have hM := hMo2
                          injection hM with hM
                          subst hM
                          have hr := hf1 _ rfl
                          subst hr
                          replace hMo1 := el_out hMo1
                          have hM := hMo1
                          injection hM with hM
                          subst hM
                          try simp only [Exit.then, Exit.inBlock, ↓reduceIte, Nat.reduceEqDiff]
                          refine ret_ok hS Tryd.results4 (res_tmp hS rfl res_nil) ?_
                          exact rfl
                        · replace hM := cf hb3197 hM
                          refine c_f hS rfl hb3197 ?_
                          refine wp_skip ?_
                          try simp only [Exit.then, Exit.inBlock, ↓reduceIte, Nat.reduceEqDiff]
                          refine hK893 _ _ ?_
                          refine r_list ?_
                          refine wl rfl (ky (v := .int .i64 (IntKind.i64.wrap (g3122 + 1))) hS (y_int hS rfl rfl rfl) rfl rfl fun a hS => ?_)
                          refine wl rfl (ky (v := .int .i64 (IntKind.i64.wrap (g3122 + 1))) hS (y_move hS rfl) rfl rfl fun a hS => ?_)
                          refine wpList_nil ?_
                          try simp only [Exit.then, Exit.inBlock, ↓reduceIte, Nat.reduceEqDiff]
                          exact ⟨IntKind.i64.wrap (g3122 + 1), (Option.some.inj hM).symm, (IntKind.i64.wrap (g3122 + 1)), rfl, (hS.meet [3, 4, 5] (by decide) ⟨rfl, rfl, rfl, rfl, rfl, rfl, rfl, rfl, trivial⟩ ⟨rfl, rfl, rfl, trivial⟩ ⟨⟨1, rfl⟩, ⟨2, rfl⟩, ⟨3, rfl⟩, ⟨4, rfl⟩, trivial⟩)⟩
                · replace hM := cf hb3161 hM
                  refine c_f hS rfl hb3161 ?_
                  refine wp_exit ?_
                  try simp only [Exit.then, Exit.inBlock, ↓reduceIte, Nat.reduceEqDiff]
                  injection hM with hM
                  subst hM
                  have hr := hf2 _ rfl
                  subst hr
                  replace hMo2 := el_go hMo2
                  have hM : law29_GroupDivides_j2 g2410 = some f1 := hMo2
                  exact ⟨(hS.meet [0] (by decide) ⟨rfl, rfl, rfl, rfl, trivial⟩ ⟨rfl, trivial⟩ ⟨⟨0, rfl⟩, ⟨3, rfl⟩, trivial⟩), hM⟩
        · rintro a w ⟨hS, hM⟩
          unfold law29_GroupDivides_j2 at hM
          refine r_list ?_
          refine wl rfl (ky (v := .int .i64 (IntKind.i64.wrap (g2410 + 1))) hS (y_int hS rfl rfl rfl) rfl rfl fun a hS => ?_)
          refine wl rfl (ky (v := .int .i64 (IntKind.i64.wrap (g2410 + 1))) hS (y_move hS rfl) rfl rfl fun a hS => ?_)
          refine wpList_nil ?_
          try simp only [Exit.then, Exit.inBlock, ↓reduceIte, Nat.reduceEqDiff]
          exact ⟨IntKind.i64.wrap (g2410 + 1), (Option.some.inj hM).symm, (IntKind.i64.wrap (g2410 + 1)), rfl, (hS.meet [0] (by decide) ⟨rfl, rfl, rfl, rfl, trivial⟩ ⟨rfl, trivial⟩ ⟨⟨0, rfl⟩, ⟨1, rfl⟩, trivial⟩)⟩
      · replace hM := cf hb2811 hM
        refine c_f hS rfl hb2811 ?_
        refine wp_exit ?_
        try simp only [Exit.then, Exit.inBlock, ↓reduceIte, Nat.reduceEqDiff]
        injection hM with hM
        subst hM
        have hr := hf1 _ rfl
        subst hr
        replace hMo1 := el_go hMo1
        have hM : law29_GroupDivides_j1 = some y := hMo1
        exact ⟨(hS.meet [] (by decide) trivial trivial ⟨⟨1, rfl⟩, trivial⟩), hM⟩
    · rintro a w ⟨hS, hM⟩
      unfold law29_GroupDivides_j1 at hM
      refine wp_seq_k fun K568 hK568 => ?_
      refine r_list ?_
      obtain ⟨u2012, hu2012, hM⟩ := bd hM
      refine wl rfl (k_call hS ci8 rfl rfl (law29_awake_c _ _ hS.dlt (hS.get 0 rfl) _ hu2012) fun _ w hR a hk hA => ?_)
      have he := Eq.symm hR
      subst he
      have hS := hA [] (fun r hr => by cases hr) List.Pairwise.nil
      refine wl rfl (ky (v := .bool u2012) hS (y_assign hS rfl) rfl rfl fun a hS => ?_)
      refine wpList_nil ?_
      try simp only [Exit.then, Exit.inBlock, ↓reduceIte, Nat.reduceEqDiff]
      refine hK568 _ _ ?_
      refine wp_ret ?_
      injection hM with hM
      subst hM
      try simp only [Exit.then, Exit.inBlock, ↓reduceIte, Nat.reduceEqDiff]
      refine ret_ok hS Tryd.results4 (res_tmp hS rfl res_nil) ?_
      exact rfl
end Go.Proofs.YtdappapdddnciaaDoor
