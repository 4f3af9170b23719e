/- What functions of the program compute; that they do. -/
import Derived.Test.YtpobppjicoikoaaDoorTD5
import Derived.Test.YtpobppjicoikoaaDoorD1
import Derived.Test.YtpobppjicoikoaaDoorD2
set_option linter.unusedVariables false
set_option linter.unusedSimpArgs false
namespace Go.Proofs.YtpobppjicoikoaaDoor
open Go.RowKit
noncomputable def law23_KeyBytes_j1 : Option Bool := (law23_awake).bind fun u323 => some (u323)
noncomputable def law23_KeyBytes_l2 (u206 : ByteArray) (i334 : Int) : Option (Fl (Int) (Fl (Unit) Bool)) := cond (decide ((i334 : Int) < (u206.size : Int))) ((getI u206.toList i334).bind fun c348 => cond (decide (((c348.toNat : Int) : Int) < 33)) (some (.out (.out false))) ((getI u206.toList i334).bind fun c350 => cond (decide ((126 : Int) < (c350.toNat : Int))) (some (.out (.out false))) (some (.go (IntKind.i64.wrap (i334 + 1)))))) (some (.out (.go ())))
noncomputable def law23_KeyBytes_j3 (u201 : Int) (u206 : ByteArray) (n286 : Int) : Option Bool := cond (((u206.size : Int) : Int) != n286) (some (false)) ((getI u206.toList 1).bind fun c300 => cond (((c300.toNat : Int) : Int) != 58) (some (false)) ((getI u206.toList 0).bind fun c302 => cond ((IntKind.i64.wrap (IntKind.u8.wrap ((c302.toNat : Int) - 48)) : Int) != (IntKind.i64.wrap (2 + u201))) (some (false)) ((loop (fun s : Int => law23_KeyBytes_l2 u206 s) 0).bind fun r => Fl.el r (fun s => law23_KeyBytes_j1) (fun y => some (y)))))
noncomputable def law23_KeyBytes_j4 (i391 : Int) (n448 : Int) : Option (Fl (Int × Int) (Int)) := some (.go (n448, IntKind.i64.wrap (i391 + 1)))
noncomputable def law23_KeyBytes_j5 (n390 : Int) (i391 : Int) (g459 : Bool) : Option (Fl (Int × Int) (Int)) := cond g459 (law23_KeyBytes_j4 i391 (IntKind.i64.wrap (n390 + 2))) (law23_KeyBytes_j4 i391 n390)
noncomputable def law23_KeyBytes_l6 (text_ : ByteArray) (n390 : Int) (i391 : Int) : Option (Fl (Int × Int) (Int)) := cond (decide ((i391 : Int) < (text_.size : Int))) ((getI text_.toList i391).bind fun c461 => cond (decide (((c461.toNat : Int) : Int) < 33)) (law23_KeyBytes_j5 n390 i391 true) ((getI text_.toList i391).bind fun c463 => cond (decide ((126 : Int) < (c463.toNat : Int))) (law23_KeyBytes_j5 n390 i391 true) ((getI text_.toList i391).bind fun c465 => law23_KeyBytes_j5 n390 i391 (((c465.toNat : Int) : Int) == 37)))) (some (.out n390))
noncomputable def law23_KeyBytes (kind_ : Int) (text_ : ByteArray) : Option Bool := cond (decide ((300 : Int) < (text_.size : Int))) ((law23_awake).bind fun u199 => some (u199)) ((mill_Mod kind_ 8).bind fun u201 => (key_Print (KeyD.mk (IntKind.i64.wrap (2 + u201)) text_)).bind fun u206 => (loop (fun s : Int × Int => law23_KeyBytes_l6 text_ s.1 s.2) (IntKind.i64.wrap (2 + (text_.size : Int)), 0)).bind fun r => law23_KeyBytes_j3 u201 u206 r)
set_option maxRecDepth 100000 in
set_option maxHeartbeats 4000000 in
theorem law23_KeyBytes_c (T : Nat → Prop) (W0 : World) (hT : ∀ k, T k → k < W0.heap.size) (hLv : LvP T W0) (kind_ : Int) (text_ : ByteArray) (y : Bool) (hM : law23_KeyBytes kind_ text_ = some y) : Rets Tryd.prog No 4 [.int .i64 kind_, .string text_] W0 (fun v w' => v = .bool y) := by
  refine enter (c := _) Tryd.func4 rfl T 83 Tryd.ntmps4 hT rfl fun a hS => ?_
  replace hS := hS.fact LvF (LvP.dn hLv)
  unfold law23_KeyBytes at hM
  refine wp_seq_k fun K48 hK48 => ?_
  refine r_list ?_
  refine wl rfl (ky (v := .bool false) hS (y_assign hS rfl) rfl rfl fun a hS => ?_)
  refine wpList_nil ?_
  try simp only [Exit.then, Exit.inBlock, ↓reduceIte, Nat.reduceEqDiff]
  refine hK48 _ _ ?_
  refine wp_seq_k fun K49 hK49 => ?_
  refine wp_seq_k fun K50 hK50 => ?_
  refine r_list ?_
  refine wl rfl (ky (v := .string text_) hS (y_move hS rfl) rfl rfl fun a hS => ?_)
  refine wl rfl (ky (v := .int .i64 (text_.size : Int)) hS (y_lens hS Tryd.underlying9 rfl) rfl rfl fun a hS => ?_)
  refine wl rfl (ky (v := .bool (decide ((300 : Int) < (text_.size : Int)))) hS (y_int hS rfl rfl rfl) rfl rfl fun a hS => ?_)
  refine wpList_nil ?_
  try simp only [Exit.then, Exit.inBlock, ↓reduceIte, Nat.reduceEqDiff]
  refine hK50 _ _ ?_
  rcases bool2 (decide ((300 : Int) < (text_.size : Int))) with hb198 | hb198
  · replace hM := ct hb198 hM
    refine c_t hS rfl hb198 ?_
    refine wp_seq_k fun K51 hK51 => ?_
    refine r_list ?_
    obtain ⟨u199, hu199, hM⟩ := bd hM
    refine wl rfl (k_call hS ci14 rfl rfl (law23_awake_c _ _ hS.dlt (hS.get 0 rfl) _ hu199) fun _ w hR a hk hA => ?_)
    have he := Eq.symm hR
    subst he
    have hS := hA [] (fun r hr => by cases hr) List.Pairwise.nil
    refine wl rfl (ky (v := .bool u199) hS (y_assign hS rfl) rfl rfl fun a hS => ?_)
    refine wpList_nil ?_
    try simp only [Exit.then, Exit.inBlock, ↓reduceIte, Nat.reduceEqDiff]
    refine hK51 _ _ ?_
    refine wp_ret ?_
    injection hM with hM
    subst hM
    try simp only [Exit.then, Exit.inBlock, ↓reduceIte, Nat.reduceEqDiff]
    refine ret_ok hS Tryd.results4 (res_tmp hS rfl res_nil) ?_
    exact rfl
  · replace hM := cf hb198 hM
    refine c_f hS rfl hb198 ?_
    refine wp_skip ?_
    try simp only [Exit.then, Exit.inBlock, ↓reduceIte, Nat.reduceEqDiff]
    refine hK49 _ _ ?_
    refine wp_seq_k fun K52 hK52 => ?_
    refine r_list ?_
    refine wl rfl (ky (v := .int .i64 kind_) hS (y_move hS rfl) rfl rfl fun a hS => ?_)
    obtain ⟨u201, hu201, hM⟩ := bd hM
    refine wl rfl (k_call hS ci18 rfl rfl (mill_Mod_c _ _ hS.dlt kind_ 8 _ hu201) fun _ w hR a hk hA => ?_)
    have he := Eq.symm hR
    subst he
    have hS := hA [] (fun r hr => by cases hr) List.Pairwise.nil
    refine wl rfl (ky (v := .int .i64 (IntKind.i64.wrap (2 + u201))) hS (y_int hS rfl rfl rfl) rfl rfl fun a hS => ?_)
    refine wl rfl (ky (v := .string text_) hS (y_move hS rfl) rfl rfl fun a hS => ?_)
    refine wl rfl (ky (v := .agg #[.int .i64 (IntKind.i64.wrap (2 + u201)), .string text_]) hS (y_build (ps := [(0, .tmp 16), (1, .tmp 17)]) hS pl28 ze28 rfl (us := [[.int .i64 (IntKind.i64.wrap (2 + u201))], [.string text_]]) ⟨rfl, ⟨rfl, trivial⟩⟩ (ws := [.int .i64 (IntKind.i64.wrap (2 + u201)), .string text_]) rfl) rfl rfl fun a hS => ?_)
    refine wl rfl (k_alloc hS ze28 rfl fun b203 hnb205 a w hk hS => ?_)
    refine wl rfl (k_store hS rfl rfl (us := [.int .i64 (IntKind.i64.wrap (2 + u201)), .string text_]) rfl ty28 0 rfl rfl rfl (oc rfl (oc rfl on)) fun w hk hS => ?_)
    refine wpList_nil ?_
    try simp only [Exit.then, Exit.inBlock, ↓reduceIte, Nat.reduceEqDiff]
    refine hK52 _ _ ?_
    refine wp_seq_k fun K53 hK53 => ?_
    refine r_list ?_
    refine wl rfl (ky (v := .agg #[.int .i64 (IntKind.i64.wrap (2 + u201)), .string text_]) hS (y_load hS rfl ty28 0 rfl id (us := [.int .i64 (IntKind.i64.wrap (2 + u201)), .string text_]) rfl rfl (fun h => by cases h)) rfl rfl fun a hS => ?_)
    obtain ⟨u206, hu206, hM⟩ := bd hM
    refine wl rfl (k_call hS ci16 rfl rfl (key_Print_c _ _ hS.dlt (hS.get 0 rfl) (KeyD.mk (IntKind.i64.wrap (2 + u201)) text_) _ hu206) fun _ w hR a hk hA => ?_)
    have he := Eq.symm hR
    subst he
    have hS := hA [] (fun r hr => by cases hr) List.Pairwise.nil
    refine wl rfl (ky (v := .string u206) hS (y_assign hS rfl) rfl rfl fun a hS => ?_)
    refine wpList_nil ?_
    try simp only [Exit.then, Exit.inBlock, ↓reduceIte, Nat.reduceEqDiff]
    refine hK53 _ _ ?_
    refine wp_seq_k fun K54 hK54 => ?_
    refine r_list ?_
    refine wl rfl (ky (v := .string text_) hS (y_move hS rfl) rfl rfl fun a hS => ?_)
    refine wl rfl (ky (v := .int .i64 (text_.size : Int)) hS (y_lens hS Tryd.underlying9 rfl) rfl rfl fun a hS => ?_)
    refine wl rfl (ky (v := .int .i64 (IntKind.i64.wrap (2 + (text_.size : Int)))) hS (y_int hS rfl rfl rfl) rfl rfl fun a hS => ?_)
    refine wl rfl (ky (v := .int .i64 (IntKind.i64.wrap (2 + (text_.size : Int)))) hS (y_assign hS rfl) rfl rfl fun a hS => ?_)
    refine wpList_nil ?_
    try simp only [Exit.then, Exit.inBlock, ↓reduceIte, Nat.reduceEqDiff]
    refine hK54 _ _ ?_
    refine seq_j (J := fun a w => ∃ (n286 : Int), St W0 No T 83 [(5, .pointer (some ⟨b203, 0, none⟩)), (6, .string u206), (7, .int .i64 n286)] [.box b203 [.int .i64 (IntKind.i64.wrap (2 + u201)), .string text_] 28] [LvF] a w ∧ law23_KeyBytes_j3 u201 u206 n286 = some y) ?_ ?_
    · skip
      refine wp_seq_k fun K98 hK98 => ?_
      refine r_list ?_
      refine wl rfl (ky (v := .int .i64 0) hS (y_assign hS rfl) rfl rfl fun a hS => ?_)
      refine wpList_nil ?_
      try simp only [Exit.then, Exit.inBlock, ↓reduceIte, Nat.reduceEqDiff]
      refine hK98 _ _ ?_
      refine wp_block ?_
      obtain ⟨r1, hl1, hMo1⟩ := bd hM
      refine wp_lp (fun s : Int × Int => law23_KeyBytes_l6 text_ s.1 s.2) (fun s a w => ∃ (n390 : Int) (i391 : Int), (n390, i391) = s ∧ St W0 No T 83 [(1, .string text_), (5, .pointer (some ⟨b203, 0, none⟩)), (6, .string u206), (7, .int .i64 n390), (8, .int .i64 i391)] [.box b203 [.int .i64 (IntKind.i64.wrap (2 + u201)), .string text_] 28] [LvF] a w) hl1 ⟨(IntKind.i64.wrap (2 + (text_.size : Int))), 0, rfl, (hS.meet [0] (by decide) ⟨rfl, rfl, rfl, rfl, rfl, trivial⟩ ⟨rfl, trivial⟩ ⟨⟨0, rfl⟩, trivial⟩)⟩ ?_
      rintro s a w f1 ⟨n390, i391, rfl, hS⟩ hM hf1
      have hM : law23_KeyBytes_l6 text_ n390 i391 = some f1 := hM
      unfold law23_KeyBytes_l6 at hM
      refine wp_seq_k fun K103 hK103 => ?_
      refine wp_seq_k fun K104 hK104 => ?_
      refine r_list ?_
      refine wl rfl (ky (v := .int .i64 i391) hS (y_move hS rfl) rfl rfl fun a hS => ?_)
      refine wl rfl (ky (v := .string text_) hS (y_move hS rfl) rfl rfl fun a hS => ?_)
      refine wl rfl (ky (v := .int .i64 (text_.size : Int)) hS (y_lens hS Tryd.underlying9 rfl) rfl rfl fun a hS => ?_)
      refine wl rfl (ky (v := .bool (decide ((i391 : Int) < (text_.size : Int)))) hS (y_int hS rfl rfl rfl) rfl rfl fun a hS => ?_)
      refine wpList_nil ?_
      try simp only [Exit.then, Exit.inBlock, ↓reduceIte, Nat.reduceEqDiff]
      refine hK104 _ _ ?_
      rcases bool2 (decide ((i391 : Int) < (text_.size : Int))) with hb430 | hb430
      · replace hM := ct hb430 hM
        refine c_t hS rfl hb430 ?_
        refine wp_skip ?_
        try simp only [Exit.then, Exit.inBlock, ↓reduceIte, Nat.reduceEqDiff]
        refine hK103 _ _ ?_
        refine seq_j (J := fun a w => ∃ (n448 : Int), St W0 No T 83 [(1, .string text_), (5, .pointer (some ⟨b203, 0, none⟩)), (6, .string u206), (7, .int .i64 n448), (8, .int .i64 i391)] [.box b203 [.int .i64 (IntKind.i64.wrap (2 + u201)), .string text_] 28] [LvF] a w ∧ law23_KeyBytes_j4 i391 n448 = some f1) ?_ ?_
        · skip
          refine wp_block ?_
          refine seq_j (J := fun a w => ∃ (g459 : Bool), St W0 No T 83 [(1, .string text_), (5, .pointer (some ⟨b203, 0, none⟩)), (6, .string u206), (7, .int .i64 n390), (8, .int .i64 i391), (45, .bool g459)] [.box b203 [.int .i64 (IntKind.i64.wrap (2 + u201)), .string text_] 28] [LvF] a w ∧ law23_KeyBytes_j5 n390 i391 g459 = some f1) ?_ ?_
          · skip
            refine r_list ?_
            refine wl rfl (ky (v := .string text_) hS (y_move hS rfl) rfl rfl fun a hS => ?_)
            refine wl rfl (ky (v := .int .i64 i391) hS (y_move hS rfl) rfl rfl fun a hS => ?_)
            obtain ⟨c461, hc461, hM⟩ := bd hM
            refine wl rfl (ky (v := .int .u8 (c461.toNat : Int)) hS (y_byte hS Tryd.underlying9 rfl rfl hc461) rfl rfl fun a hS => ?_)
            refine wl rfl (ky (v := .bool (decide (((c461.toNat : Int) : Int) < 33))) hS (y_int hS rfl rfl rfl) rfl rfl fun a hS => ?_)
            refine wl rfl (ky (v := .bool (decide (((c461.toNat : Int) : Int) < 33))) hS (y_move hS rfl) rfl rfl fun a hS => ?_)
            rcases bool2 (decide (((c461.toNat : Int) : Int) < 33)) with hb462 | hb462
            · replace hM := ct hb462 hM
              refine wn hS rfl rfl rfl hb462 rfl rfl fun a hS => ?_
              refine wn hS rfl rfl rfl hb462 rfl rfl fun a hS => ?_
              refine wn hS rfl rfl rfl hb462 rfl rfl fun a hS => ?_
              refine wn hS rfl rfl rfl hb462 rfl rfl fun a hS => ?_
              refine wl rfl (ky (v := .bool true) hS (y_pickt hS rfl hb462 rfl) rfl rfl fun a hS => ?_)
              refine wl rfl (ky (v := .bool true) hS (y_move hS rfl) rfl rfl fun a hS => ?_)
              refine wn hS rfl rfl rfl rfl rfl rfl fun a hS => ?_
              refine wn hS rfl rfl rfl rfl rfl rfl fun a hS => ?_
              refine wn hS rfl rfl rfl rfl rfl rfl fun a hS => ?_
              refine wn hS rfl rfl rfl rfl rfl rfl fun a hS => ?_
              refine wl rfl (ky (v := .bool true) hS (y_pickt hS rfl rfl rfl) rfl rfl fun a hS => ?_)
              refine wpList_nil ?_
              try simp only [Exit.then, Exit.inBlock, ↓reduceIte, Nat.reduceEqDiff]
              exact ⟨true, (hS.meet [0] (by decide) ⟨rfl, rfl, rfl, rfl, rfl, rfl, trivial⟩ ⟨rfl, trivial⟩ ⟨⟨0, rfl⟩, trivial⟩), hM⟩
            · replace hM := cf hb462 hM
              refine wg hS rfl rfl rfl hb462 (ky (v := .string text_) hS (y_move hS rfl) rfl rfl fun a hS => ?_)
              refine wg hS rfl rfl rfl hb462 (ky (v := .int .i64 i391) hS (y_move hS rfl) rfl rfl fun a hS => ?_)
              obtain ⟨c463, hc463, hM⟩ := bd hM
              refine wg hS rfl rfl rfl hb462 (ky (v := .int .u8 (c463.toNat : Int)) hS (y_byte hS Tryd.underlying9 rfl rfl hc463) rfl rfl fun a hS => ?_)
              refine wg hS rfl rfl rfl hb462 (ky (v := .bool (decide ((126 : Int) < (c463.toNat : Int)))) hS (y_int hS rfl rfl rfl) rfl rfl fun a hS => ?_)
              refine wl rfl (ky (v := .bool (decide ((126 : Int) < (c463.toNat : Int)))) hS (y_pickf hS rfl hb462 rfl) rfl rfl fun a hS => ?_)
              refine wl rfl (ky (v := .bool (decide ((126 : Int) < (c463.toNat : Int)))) hS (y_move hS rfl) rfl rfl fun a hS => ?_)
              rcases bool2 (decide ((126 : Int) < (c463.toNat : Int))) with hb464 | hb464
              · replace hM := ct hb464 hM
                refine wn hS rfl rfl rfl hb464 rfl rfl fun a hS => ?_
                refine wn hS rfl rfl rfl hb464 rfl rfl fun a hS => ?_
                refine wn hS rfl rfl rfl hb464 rfl rfl fun a hS => ?_
                refine wn hS rfl rfl rfl hb464 rfl rfl fun a hS => ?_
                refine wl rfl (ky (v := .bool true) hS (y_pickt hS rfl hb464 rfl) rfl rfl fun a hS => ?_)
                refine wpList_nil ?_
                try simp only [Exit.then, Exit.inBlock, ↓reduceIte, Nat.reduceEqDiff]
                exact ⟨true, (hS.meet [0] (by decide) ⟨rfl, rfl, rfl, rfl, rfl, rfl, trivial⟩ ⟨rfl, trivial⟩ ⟨⟨0, rfl⟩, trivial⟩), hM⟩
              · replace hM := cf hb464 hM
                refine wg hS rfl rfl rfl hb464 (ky (v := .string text_) hS (y_move hS rfl) rfl rfl fun a hS => ?_)
                refine wg hS rfl rfl rfl hb464 (ky (v := .int .i64 i391) hS (y_move hS rfl) rfl rfl fun a hS => ?_)
                obtain ⟨c465, hc465, hM⟩ := bd hM
                refine wg hS rfl rfl rfl hb464 (ky (v := .int .u8 (c465.toNat : Int)) hS (y_byte hS Tryd.underlying9 rfl rfl hc465) rfl rfl fun a hS => ?_)
                refine wg hS rfl rfl rfl hb464 (ky (v := .bool (((c465.toNat : Int) : Int) == 37)) hS (y_int hS rfl rfl rfl) rfl rfl fun a hS => ?_)
                refine wl rfl (ky (v := .bool (((c465.toNat : Int) : Int) == 37)) hS (y_pickf hS rfl hb464 rfl) rfl rfl fun a hS => ?_)
                refine wpList_nil ?_
                try simp only [Exit.then, Exit.inBlock, ↓reduceIte, Nat.reduceEqDiff]
                exact ⟨(((c465.toNat : Int) : Int) == 37), (hS.meet [0] (by decide) ⟨rfl, rfl, rfl, rfl, rfl, rfl, trivial⟩ ⟨rfl, trivial⟩ ⟨⟨0, rfl⟩, trivial⟩), hM⟩
          · rintro a w ⟨g459, hS, hM⟩
            unfold law23_KeyBytes_j5 at hM
            rcases bool2 (g459) with hb460 | hb460
            · replace hM := ct hb460 hM
              refine c_t hS rfl hb460 ?_
              refine r_list ?_
              refine wl rfl (ky (v := .int .i64 n390) hS (y_move hS rfl) rfl rfl fun a hS => ?_)
              refine wl rfl (ky (v := .int .i64 (IntKind.i64.wrap (n390 + 2))) hS (y_int hS rfl rfl rfl) rfl rfl fun a hS => ?_)
              refine wl rfl (ky (v := .int .i64 (IntKind.i64.wrap (n390 + 2))) hS (y_assign hS rfl) rfl rfl fun a hS => ?_)
              refine wpList_nil ?_
              try simp only [Exit.then, Exit.inBlock, ↓reduceIte, Nat.reduceEqDiff]
              exact ⟨(IntKind.i64.wrap (n390 + 2)), (hS.meet [0] (by decide) ⟨rfl, rfl, rfl, rfl, rfl, trivial⟩ ⟨rfl, trivial⟩ ⟨⟨0, rfl⟩, trivial⟩), hM⟩
            · replace hM := cf hb460 hM
              refine c_f hS rfl hb460 ?_
              refine wp_skip ?_
              try simp only [Exit.then, Exit.inBlock, ↓reduceIte, Nat.reduceEqDiff]
              exact ⟨n390, (hS.meet [0] (by decide) ⟨rfl, rfl, rfl, rfl, rfl, trivial⟩ ⟨rfl, trivial⟩ ⟨⟨0, rfl⟩, trivial⟩), hM⟩
        · rintro a w ⟨n448, hS, hM⟩
          unfold law23_KeyBytes_j4 at hM
          refine r_list ?_
          refine wl rfl (ky (v := .int .i64 i391) hS (y_move hS rfl) rfl rfl fun a hS => ?_)
          refine wl rfl (ky (v := .int .i64 (IntKind.i64.wrap (i391 + 1))) hS (y_int hS rfl rfl rfl) rfl rfl fun a hS => ?_)
          refine wl rfl (ky (v := .int .i64 (IntKind.i64.wrap (i391 + 1))) hS (y_assign hS rfl) rfl rfl fun a hS => ?_)
          refine wpList_nil ?_
          try simp only [Exit.then, Exit.inBlock, ↓reduceIte, Nat.reduceEqDiff]
          exact ⟨(n448, IntKind.i64.wrap (i391 + 1)), (Option.some.inj hM).symm, n448, (IntKind.i64.wrap (i391 + 1)), rfl, (hS.meet [0] (by decide) ⟨rfl, rfl, rfl, rfl, rfl, trivial⟩ ⟨rfl, trivial⟩ ⟨⟨0, rfl⟩, trivial⟩)⟩
      · replace hM := cf hb430 hM
        refine c_f hS rfl hb430 ?_
        refine wp_exit ?_
        try simp only [Exit.then, Exit.inBlock, ↓reduceIte, Nat.reduceEqDiff]
        injection hM with hM
        subst hM
        have hr := hf1 _ rfl
        subst hr
        have hM : law23_KeyBytes_j3 u201 u206 n390 = some y := hMo1
        exact ⟨n390, (hS.meet [0] (by decide) ⟨rfl, rfl, rfl, trivial⟩ ⟨rfl, trivial⟩ ⟨⟨0, rfl⟩, trivial⟩), hM⟩
    · rintro a w ⟨n286, hS, hM⟩
      unfold law23_KeyBytes_j3 at hM
      refine wp_seq_k fun K60 hK60 => ?_
      refine wp_seq_k fun K61 hK61 => ?_
      refine draws [] hS mixed rfl (fun c a d v w h => by cases d <;> exact h) fun w hQ hS => ?_
      refine dy 0 (v := .string u206) rfl (by kernel_rfl) (by kernel_rfl) (by kernel_rfl) rfl hQ hS (y_move hS rfl) rfl rfl rfl fun a hS => ?_
      refine dy 1 (v := .int .i64 (u206.size : Int)) rfl (by kernel_rfl) (by kernel_rfl) (by kernel_rfl) rfl hQ hS (y_lens hS Tryd.underlying9 rfl) rfl rfl rfl fun a hS => ?_
      refine dy 2 (v := .int .i64 n286) rfl (by kernel_rfl) (by kernel_rfl) (by kernel_rfl) rfl hQ hS (y_move hS rfl) rfl rfl rfl fun a hS => ?_
      refine dy 3 (v := .bool (((u206.size : Int) : Int) != n286)) rfl (by kernel_rfl) (by kernel_rfl) (by kernel_rfl) rfl hQ hS (y_int hS rfl rfl rfl) rfl rfl rfl fun a hS => ?_
      refine dy 4 (v := .bool (((u206.size : Int) : Int) != n286)) rfl (by kernel_rfl) (by kernel_rfl) (by kernel_rfl) rfl hQ hS (y_move hS rfl) rfl rfl rfl fun a hS => ?_
      rcases bool2 (((u206.size : Int) : Int) != n286) with hb299 | hb299
      · replace hM := ct hb299 hM
        refine dyn 5 rfl (by kernel_rfl) (by kernel_rfl) (by kernel_rfl) hQ hS rfl rfl rfl hb299 rfl rfl fun a hS => ?_
        refine dyn 6 rfl (by kernel_rfl) (by kernel_rfl) (by kernel_rfl) hQ hS rfl rfl rfl hb299 rfl rfl fun a hS => ?_
        refine dyn 7 rfl (by kernel_rfl) (by kernel_rfl) (by kernel_rfl) hQ hS rfl rfl rfl hb299 rfl rfl fun a hS => ?_
        refine dy 8 (v := .bool true) rfl (by kernel_rfl) (by kernel_rfl) (by kernel_rfl) rfl hQ hS (y_pickt hS rfl hb299 rfl) rfl rfl rfl fun a hS => ?_
        refine dy 9 (v := .bool true) rfl (by kernel_rfl) (by kernel_rfl) (by kernel_rfl) rfl hQ hS (y_move hS rfl) rfl rfl rfl fun a hS => ?_
        refine dyn 10 rfl (by kernel_rfl) (by kernel_rfl) (by kernel_rfl) hQ hS rfl rfl rfl rfl rfl rfl fun a hS => ?_
        refine dyn 11 rfl (by kernel_rfl) (by kernel_rfl) (by kernel_rfl) hQ hS rfl rfl rfl rfl rfl rfl fun a hS => ?_
        refine dyn 12 rfl (by kernel_rfl) (by kernel_rfl) (by kernel_rfl) hQ hS rfl rfl rfl rfl rfl rfl fun a hS => ?_
        refine dyn 13 rfl (by kernel_rfl) (by kernel_rfl) (by kernel_rfl) hQ hS rfl rfl rfl rfl rfl rfl fun a hS => ?_
        refine dyn 14 rfl (by kernel_rfl) (by kernel_rfl) (by kernel_rfl) hQ hS rfl rfl rfl rfl rfl rfl fun a hS => ?_
        refine dyn 15 rfl (by kernel_rfl) (by kernel_rfl) (by kernel_rfl) hQ hS rfl rfl rfl rfl rfl rfl fun a hS => ?_
        refine dyn 16 rfl (by kernel_rfl) (by kernel_rfl) (by kernel_rfl) hQ hS rfl rfl rfl rfl rfl rfl fun a hS => ?_
        refine dy 17 (v := .bool true) rfl (by kernel_rfl) (by kernel_rfl) (by kernel_rfl) rfl hQ hS (y_pickt hS rfl rfl rfl) rfl rfl rfl fun a hS => ?_
        refine wpE_done (by kernel_rfl) ?_ _
        try simp only [Exit.then, Exit.inBlock, ↓reduceIte, Nat.reduceEqDiff]
        refine hK61 _ _ ?_
        refine c_t hS rfl rfl ?_
        refine wp_seq_k fun K62 hK62 => ?_
        refine r_list ?_
        refine wl rfl (ky (v := .bool false) hS (y_assign hS rfl) rfl rfl fun a hS => ?_)
        refine wpList_nil ?_
        try simp only [Exit.then, Exit.inBlock, ↓reduceIte, Nat.reduceEqDiff]
        refine hK62 _ _ ?_
        refine wp_ret ?_
        injection hM with hM
        subst hM
        try simp only [Exit.then, Exit.inBlock, ↓reduceIte, Nat.reduceEqDiff]
        refine ret_ok hS Tryd.results4 (res_tmp hS rfl res_nil) ?_
        exact rfl
      · replace hM := cf hb299 hM
        refine dyg 5 (v := .string u206) rfl (by kernel_rfl) (by kernel_rfl) (by kernel_rfl) rfl hQ hS (y_move hS rfl) rfl rfl rfl hb299 rfl rfl fun a hS => ?_
        obtain ⟨c300, hc300, hM⟩ := bd hM
        refine dyg 6 (v := .int .u8 (c300.toNat : Int)) rfl (by kernel_rfl) (by kernel_rfl) (by kernel_rfl) rfl hQ hS (y_byte hS Tryd.underlying9 rfl rfl hc300) rfl rfl rfl hb299 rfl rfl fun a hS => ?_
        refine dyg 7 (v := .bool (((c300.toNat : Int) : Int) != 58)) rfl (by kernel_rfl) (by kernel_rfl) (by kernel_rfl) rfl hQ hS (y_int hS rfl rfl rfl) rfl rfl rfl hb299 rfl rfl fun a hS => ?_
        refine dy 8 (v := .bool (((c300.toNat : Int) : Int) != 58)) rfl (by kernel_rfl) (by kernel_rfl) (by kernel_rfl) rfl hQ hS (y_pickf hS rfl hb299 rfl) rfl rfl rfl fun a hS => ?_
        refine dy 9 (v := .bool (((c300.toNat : Int) : Int) != 58)) rfl (by kernel_rfl) (by kernel_rfl) (by kernel_rfl) rfl hQ hS (y_move hS rfl) rfl rfl rfl fun a hS => ?_
        rcases bool2 (((c300.toNat : Int) : Int) != 58) with hb301 | hb301
        · replace hM := ct hb301 hM
          refine dyn 10 rfl (by kernel_rfl) (by kernel_rfl) (by kernel_rfl) hQ hS rfl rfl rfl hb301 rfl rfl fun a hS => ?_
          refine dyn 11 rfl (by kernel_rfl) (by kernel_rfl) (by kernel_rfl) hQ hS rfl rfl rfl hb301 rfl rfl fun a hS => ?_
          refine dyn 12 rfl (by kernel_rfl) (by kernel_rfl) (by kernel_rfl) hQ hS rfl rfl rfl hb301 rfl rfl fun a hS => ?_
          refine dyn 13 rfl (by kernel_rfl) (by kernel_rfl) (by kernel_rfl) hQ hS rfl rfl rfl hb301 rfl rfl fun a hS => ?_
          refine dyn 14 rfl (by kernel_rfl) (by kernel_rfl) (by kernel_rfl) hQ hS rfl rfl rfl hb301 rfl rfl fun a hS => ?_
          refine dyn 15 rfl (by kernel_rfl) (by kernel_rfl) (by kernel_rfl) hQ hS rfl rfl rfl hb301 rfl rfl fun a hS => ?_
          refine dyn 16 rfl (by kernel_rfl) (by kernel_rfl) (by kernel_rfl) hQ hS rfl rfl rfl hb301 rfl rfl fun a hS => ?_
          refine dy 17 (v := .bool true) rfl (by kernel_rfl) (by kernel_rfl) (by kernel_rfl) rfl hQ hS (y_pickt hS rfl hb301 rfl) rfl rfl rfl fun a hS => ?_
          refine wpE_done (by kernel_rfl) ?_ _
          try simp only [Exit.then, Exit.inBlock, ↓reduceIte, Nat.reduceEqDiff]
          refine hK61 _ _ ?_
          refine c_t hS rfl rfl ?_
          refine wp_seq_k fun K63 hK63 => ?_
          refine r_list ?_
          refine wl rfl (ky (v := .bool false) hS (y_assign hS rfl) rfl rfl fun a hS => ?_)
          refine wpList_nil ?_
          try simp only [Exit.then, Exit.inBlock, ↓reduceIte, Nat.reduceEqDiff]
          refine hK63 _ _ ?_
          refine wp_ret ?_
          injection hM with hM
          subst hM
          try simp only [Exit.then, Exit.inBlock, ↓reduceIte, Nat.reduceEqDiff]
          refine ret_ok hS Tryd.results4 (res_tmp hS rfl res_nil) ?_
          exact rfl
        · replace hM := cf hb301 hM
          refine dyg 10 (v := .string u206) rfl (by kernel_rfl) (by kernel_rfl) (by kernel_rfl) rfl hQ hS (y_move hS rfl) rfl rfl rfl hb301 rfl rfl fun a hS => ?_
          obtain ⟨c302, hc302, hM⟩ := bd hM
          refine dyg 11 (v := .int .u8 (c302.toNat : Int)) rfl (by kernel_rfl) (by kernel_rfl) (by kernel_rfl) rfl hQ hS (y_byte hS Tryd.underlying9 rfl rfl hc302) rfl rfl rfl hb301 rfl rfl fun a hS => ?_
          refine dyg 12 (v := .int .u8 (IntKind.u8.wrap ((c302.toNat : Int) - 48))) rfl (by kernel_rfl) (by kernel_rfl) (by kernel_rfl) rfl hQ hS (y_int hS rfl rfl rfl) rfl rfl rfl hb301 rfl rfl fun a hS => ?_
          refine dyg 13 (v := .int .i64 (IntKind.i64.wrap (IntKind.u8.wrap ((c302.toNat : Int) - 48)))) rfl (by kernel_rfl) (by kernel_rfl) (by kernel_rfl) rfl hQ hS (y_conv hS rfl Tryd.underlying5 Tryd.underlying3) rfl rfl rfl hb301 rfl rfl fun a hS => ?_
          refine dyg 14 (v := .pointer (some ⟨b203, 0 + 0, none⟩)) rfl (by kernel_rfl) (by kernel_rfl) (by kernel_rfl) rfl hQ hS (y_fld hS rfl fl28_0) rfl rfl rfl hb301 rfl rfl fun a hS => ?_
          refine dyg (l := []) 15 (v := .int .i64 (IntKind.i64.wrap (2 + u201))) rfl (by kernel_rfl) (by kernel_rfl) (by kernel_rfl) (by kernel_rfl) hQ hS (y_load hS rfl ty3 0 rfl eo_nil (us := [.int .i64 (IntKind.i64.wrap (2 + u201))]) rfl rfl (fun _ => rfl)) rfl rfl rfl hb301 rfl rfl fun a hS => ?_
          refine dyg 16 (v := .bool ((IntKind.i64.wrap (IntKind.u8.wrap ((c302.toNat : Int) - 48)) : Int) != (IntKind.i64.wrap (2 + u201)))) rfl (by kernel_rfl) (by kernel_rfl) (by kernel_rfl) rfl hQ hS (y_int hS rfl rfl rfl) rfl rfl rfl hb301 rfl rfl fun a hS => ?_
          refine dy 17 (v := .bool ((IntKind.i64.wrap (IntKind.u8.wrap ((c302.toNat : Int) - 48)) : Int) != (IntKind.i64.wrap (2 + u201)))) rfl (by kernel_rfl) (by kernel_rfl) (by kernel_rfl) rfl hQ hS (y_pickf hS rfl hb301 rfl) rfl rfl rfl fun a hS => ?_
          refine wpE_done (by kernel_rfl) ?_ _
          try simp only [Exit.then, Exit.inBlock, ↓reduceIte, Nat.reduceEqDiff]
          refine hK61 _ _ ?_
          rcases bool2 ((IntKind.i64.wrap (IntKind.u8.wrap ((c302.toNat : Int) - 48)) : Int) != (IntKind.i64.wrap (2 + u201))) with hb303 | hb303
          · replace hM := ct hb303 hM
            refine c_t hS rfl hb303 ?_
            refine wp_seq_k fun K64 hK64 => ?_
            refine r_list ?_
            refine wl rfl (ky (v := .bool false) hS (y_assign hS rfl) rfl rfl fun a hS => ?_)
            refine wpList_nil ?_
            try simp only [Exit.then, Exit.inBlock, ↓reduceIte, Nat.reduceEqDiff]
            refine hK64 _ _ ?_
            refine wp_ret ?_
            injection hM with hM
            subst hM
            try simp only [Exit.then, Exit.inBlock, ↓reduceIte, Nat.reduceEqDiff]
            refine ret_ok hS Tryd.results4 (res_tmp hS rfl res_nil) ?_
            exact rfl
          · replace hM := cf hb303 hM
            refine c_f hS rfl hb303 ?_
            refine wp_skip ?_
            try simp only [Exit.then, Exit.inBlock, ↓reduceIte, Nat.reduceEqDiff]
            refine hK60 _ _ ?_
            refine seq_j (J := fun a w => St W0 No T 83 [] [] [LvF] a w ∧ law23_KeyBytes_j1 = some y) ?_ ?_
            · skip
              refine wp_seq_k fun K79 hK79 => ?_
              refine r_list ?_
              refine wl rfl (ky (v := .int .i64 0) hS (y_assign hS rfl) rfl rfl fun a hS => ?_)
              refine wpList_nil ?_
              try simp only [Exit.then, Exit.inBlock, ↓reduceIte, Nat.reduceEqDiff]
              refine hK79 _ _ ?_
              refine wp_block ?_
              obtain ⟨r1, hl1, hMo1⟩ := bd hM
              refine wp_lp (fun s : Int => law23_KeyBytes_l2 u206 s) (fun s a w => ∃ (i334 : Int), i334 = s ∧ St W0 No T 83 [(6, .string u206), (9, .int .i64 i334)] [] [LvF] a w) hl1 ⟨0, rfl, (hS.meet [] (by decide) ⟨rfl, rfl, trivial⟩ trivial ⟨⟨0, rfl⟩, trivial⟩)⟩ ?_
              rintro s a w f1 ⟨i334, rfl, hS⟩ hM hf1
              have hM : law23_KeyBytes_l2 u206 i334 = some f1 := hM
              unfold law23_KeyBytes_l2 at hM
              refine wp_seq_k fun K92 hK92 => ?_
              refine wp_seq_k fun K93 hK93 => ?_
              refine r_list ?_
              refine wl rfl (ky (v := .int .i64 i334) hS (y_move hS rfl) rfl rfl fun a hS => ?_)
              refine wl rfl (ky (v := .string u206) hS (y_move hS rfl) rfl rfl fun a hS => ?_)
              refine wl rfl (ky (v := .int .i64 (u206.size : Int)) hS (y_lens hS Tryd.underlying9 rfl) rfl rfl fun a hS => ?_)
              refine wl rfl (ky (v := .bool (decide ((i334 : Int) < (u206.size : Int)))) hS (y_int hS rfl rfl rfl) rfl rfl fun a hS => ?_)
              refine wpList_nil ?_
              try simp only [Exit.then, Exit.inBlock, ↓reduceIte, Nat.reduceEqDiff]
              refine hK93 _ _ ?_
              rcases bool2 (decide ((i334 : Int) < (u206.size : Int))) with hb344 | hb344
              · replace hM := ct hb344 hM
                refine c_t hS rfl hb344 ?_
                refine wp_skip ?_
                try simp only [Exit.then, Exit.inBlock, ↓reduceIte, Nat.reduceEqDiff]
                refine hK92 _ _ ?_
                refine wp_seq_k fun K94 hK94 => ?_
                refine wp_block ?_
                refine wp_seq_k fun K95 hK95 => ?_
                refine r_list ?_
                refine wl rfl (ky (v := .string u206) hS (y_move hS rfl) rfl rfl fun a hS => ?_)
                refine wl rfl (ky (v := .int .i64 i334) hS (y_move hS rfl) rfl rfl fun a hS => ?_)
                obtain ⟨c348, hc348, hM⟩ := bd hM
                refine wl rfl (ky (v := .int .u8 (c348.toNat : Int)) hS (y_byte hS Tryd.underlying9 rfl rfl hc348) rfl rfl fun a hS => ?_)
                refine wl rfl (ky (v := .bool (decide (((c348.toNat : Int) : Int) < 33))) hS (y_int hS rfl rfl rfl) rfl rfl fun a hS => ?_)
                refine wl rfl (ky (v := .bool (decide (((c348.toNat : Int) : Int) < 33))) hS (y_move hS rfl) rfl rfl fun a hS => ?_)
                rcases bool2 (decide (((c348.toNat : Int) : Int) < 33)) with hb349 | hb349
                · replace hM := ct hb349 hM
                  refine wn hS rfl rfl rfl hb349 rfl rfl fun a hS => ?_
                  refine wn hS rfl rfl rfl hb349 rfl rfl fun a hS => ?_
                  refine wn hS rfl rfl rfl hb349 rfl rfl fun a hS => ?_
                  refine wn hS rfl rfl rfl hb349 rfl rfl fun a hS => ?_
                  refine wl rfl (ky (v := .bool true) hS (y_pickt hS rfl hb349 rfl) rfl rfl fun a hS => ?_)
                  refine wpList_nil ?_
                  try simp only [Exit.then, Exit.inBlock, ↓reduceIte, Nat.reduceEqDiff]
                  refine hK95 _ _ ?_
                  refine c_t hS rfl rfl ?_
                  refine wp_seq_k fun K96 hK96 => ?_
                  refine r_list ?_
                  refine wl rfl (ky (v := .bool false) hS (y_assign hS rfl) rfl rfl fun a hS => ?_)
                  refine wpList_nil ?_
                  try simp only [Exit.then, Exit.inBlock, ↓reduceIte, Nat.reduceEqDiff]
                  refine hK96 _ _ ?_
                  refine wp_ret ?_
                  injection hM with hM
                  subst hM
                  have hr := hf1 _ rfl
                  subst hr
                  replace hMo1 := el_out hMo1
                  have hM := hMo1
                  injection hM with hM
                  subst hM
                  try simp only [Exit.then, Exit.inBlock, ↓reduceIte, Nat.reduceEqDiff]
                  refine ret_ok hS Tryd.results4 (res_tmp hS rfl res_nil) ?_
                  exact rfl
                · replace hM := cf hb349 hM
                  refine wg hS rfl rfl rfl hb349 (ky (v := .string u206) hS (y_move hS rfl) rfl rfl fun a hS => ?_)
                  refine wg hS rfl rfl rfl hb349 (ky (v := .int .i64 i334) hS (y_move hS rfl) rfl rfl fun a hS => ?_)
                  obtain ⟨c350, hc350, hM⟩ := bd hM
                  refine wg hS rfl rfl rfl hb349 (ky (v := .int .u8 (c350.toNat : Int)) hS (y_byte hS Tryd.underlying9 rfl rfl hc350) rfl rfl fun a hS => ?_)
                  refine wg hS rfl rfl rfl hb349 (ky (v := .bool (decide ((126 : Int) < (c350.toNat : Int)))) hS (y_int hS rfl rfl rfl) rfl rfl fun a hS => ?_)
                  refine wl rfl (ky (v := .bool (decide ((126 : Int) < (c350.toNat : Int)))) hS (y_pickf hS rfl hb349 rfl) rfl rfl fun a hS => ?_)
                  refine wpList_nil ?_
                  try simp only [Exit.then, Exit.inBlock, ↓reduceIte, Nat.reduceEqDiff]
                  refine hK95 _ _ ?_
                  rcases bool2 (decide ((126 : Int) < (c350.toNat : Int))) with hb351 | hb351
                  · replace hM := ct hb351 hM
                    refine c_t hS rfl hb351 ?_
                    refine wp_seq_k fun K97 hK97 => ?_
                    refine r_list ?_
                    refine wl rfl (ky (v := .bool false) hS (y_assign hS rfl) rfl rfl fun a hS => ?_)
                    refine wpList_nil ?_
                    try simp only [Exit.then, Exit.inBlock, ↓reduceIte, Nat.reduceEqDiff]
                    refine hK97 _ _ ?_
                    refine wp_ret ?_
                    injection hM with hM
                    subst hM
                    have hr := hf1 _ rfl
                    subst hr
                    replace hMo1 := el_out hMo1
                    have hM := hMo1
                    injection hM with hM
                    subst hM
                    try simp only [Exit.then, Exit.inBlock, ↓reduceIte, Nat.reduceEqDiff]
                    refine ret_ok hS Tryd.results4 (res_tmp hS rfl res_nil) ?_
                    exact rfl
                  · replace hM := cf hb351 hM
                    refine c_f hS rfl hb351 ?_
                    refine wp_skip ?_
                    try simp only [Exit.then, Exit.inBlock, ↓reduceIte, Nat.reduceEqDiff]
                    refine hK94 _ _ ?_
                    refine r_list ?_
                    refine wl rfl (ky (v := .int .i64 i334) hS (y_move hS rfl) rfl rfl fun a hS => ?_)
                    refine wl rfl (ky (v := .int .i64 (IntKind.i64.wrap (i334 + 1))) hS (y_int hS rfl rfl rfl) rfl rfl fun a hS => ?_)
                    refine wl rfl (ky (v := .int .i64 (IntKind.i64.wrap (i334 + 1))) hS (y_assign hS rfl) rfl rfl fun a hS => ?_)
                    refine wpList_nil ?_
                    try simp only [Exit.then, Exit.inBlock, ↓reduceIte, Nat.reduceEqDiff]
                    exact ⟨IntKind.i64.wrap (i334 + 1), (Option.some.inj hM).symm, (IntKind.i64.wrap (i334 + 1)), rfl, (hS.meet [] (by decide) ⟨rfl, rfl, trivial⟩ trivial ⟨⟨0, rfl⟩, trivial⟩)⟩
              · replace hM := cf hb344 hM
                refine c_f hS rfl hb344 ?_
                refine wp_exit ?_
                try simp only [Exit.then, Exit.inBlock, ↓reduceIte, Nat.reduceEqDiff]
                injection hM with hM
                subst hM
                have hr := hf1 _ rfl
                subst hr
                replace hMo1 := el_go hMo1
                have hM : law23_KeyBytes_j1 = some y := hMo1
                exact ⟨(hS.meet [] (by decide) trivial trivial ⟨⟨0, rfl⟩, trivial⟩), hM⟩
            · rintro a w ⟨hS, hM⟩
              unfold law23_KeyBytes_j1 at hM
              refine wp_seq_k fun K78 hK78 => ?_
              refine r_list ?_
              obtain ⟨u323, hu323, hM⟩ := bd hM
              refine wl rfl (k_call hS ci14 rfl rfl (law23_awake_c _ _ hS.dlt (hS.get 0 rfl) _ hu323) fun _ w hR a hk hA => ?_)
              have he := Eq.symm hR
              subst he
              have hS := hA [] (fun r hr => by cases hr) List.Pairwise.nil
              refine wl rfl (ky (v := .bool u323) hS (y_assign hS rfl) rfl rfl fun a hS => ?_)
              refine wpList_nil ?_
              try simp only [Exit.then, Exit.inBlock, ↓reduceIte, Nat.reduceEqDiff]
              refine hK78 _ _ ?_
              refine wp_ret ?_
              injection hM with hM
              subst hM
              try simp only [Exit.then, Exit.inBlock, ↓reduceIte, Nat.reduceEqDiff]
              refine ret_ok hS Tryd.results4 (res_tmp hS rfl res_nil) ?_
              exact rfl
end Go.Proofs.YtpobppjicoikoaaDoor
