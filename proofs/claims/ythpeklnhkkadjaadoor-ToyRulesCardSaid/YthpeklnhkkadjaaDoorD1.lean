/- What functions of the program compute; that they do. -/
import Derived.Test.YthpeklnhkkadjaaDoorMT
set_option linter.unusedVariables false
set_option linter.unusedSimpArgs false
namespace Go.Proofs.YthpeklnhkkadjaaDoor
open Go.RowKit
noncomputable def key_toy_j1 (g7 : Bool) : Option Bool := some (g7)
noncomputable def key_toy (kind_ : Int) : Option Bool := cond (decide ((30 : Int) ≤ kind_)) (key_toy_j1 (decide ((kind_ : Int) ≤ 32))) (key_toy_j1 false)
set_option maxRecDepth 100000 in
set_option maxHeartbeats 4000000 in
theorem key_toy_c (T : Nat → Prop) (W0 : World) (hT : ∀ k, T k → k < W0.heap.size) (kind_ : Int) (y : Bool) (hM : key_toy kind_ = some y) : Rets Tryd.prog No 82 [.int .i64 kind_] W0 (fun v w' => v = .bool y) := by
  refine enter (c := _) Tryd.func82 rfl T 9 Tryd.ntmps82 hT rfl fun a hS => ?_
  unfold key_toy at hM
  refine wp_seq_k fun K2 hK2 => ?_
  refine r_list ?_
  refine wl rfl (ky (v := .bool false) hS (y_assign hS rfl) rfl rfl fun a hS => ?_)
  refine wpList_nil ?_
  try simp only [Exit.then, Exit.inBlock, ↓reduceIte, Nat.reduceEqDiff]
  refine hK2 _ _ ?_
  refine seq_j (J := fun a w => ∃ (g7 : Bool), St W0 No T 9 [(2, .bool g7)] [] [] a w ∧ key_toy_j1 g7 = some y) ?_ ?_
  · skip
    refine r_list ?_
    refine wl rfl (ky (v := .int .i64 kind_) hS (y_move hS rfl) rfl rfl fun a hS => ?_)
    refine wl rfl (ky (v := .bool (decide ((30 : Int) ≤ kind_))) hS (y_int hS rfl rfl rfl) rfl rfl fun a hS => ?_)
    refine wl rfl (ky (v := .bool (decide ((30 : Int) ≤ kind_))) hS (y_move hS rfl) rfl rfl fun a hS => ?_)
    rcases bool2 (decide ((30 : Int) ≤ kind_)) with hb8 | hb8
    · replace hM := ct hb8 hM
      refine wg hS rfl rfl rfl hb8 (ky (v := .int .i64 kind_) hS (y_move hS rfl) rfl rfl fun a hS => ?_)
      refine wg hS rfl rfl rfl hb8 (ky (v := .bool (decide ((kind_ : Int) ≤ 32))) hS (y_int hS rfl rfl rfl) rfl rfl fun a hS => ?_)
      refine wl rfl (ky (v := .bool (decide ((kind_ : Int) ≤ 32))) hS (y_pickt hS rfl hb8 rfl) rfl rfl fun a hS => ?_)
      refine wl rfl (ky (v := .bool (decide ((kind_ : Int) ≤ 32))) hS (y_assign hS rfl) rfl rfl fun a hS => ?_)
      refine wpList_nil ?_
      try simp only [Exit.then, Exit.inBlock, ↓reduceIte, Nat.reduceEqDiff]
      exact ⟨(decide ((kind_ : Int) ≤ 32)), (hS.meet [] (by decide) ⟨rfl, trivial⟩ trivial trivial), hM⟩
    · replace hM := cf hb8 hM
      refine wn hS rfl rfl rfl hb8 rfl rfl fun a hS => ?_
      refine wn hS rfl rfl rfl hb8 rfl rfl fun a hS => ?_
      refine wl rfl (ky (v := .bool false) hS (y_pickf hS rfl hb8 rfl) rfl rfl fun a hS => ?_)
      refine wl rfl (ky (v := .bool false) hS (y_assign hS rfl) rfl rfl fun a hS => ?_)
      refine wpList_nil ?_
      try simp only [Exit.then, Exit.inBlock, ↓reduceIte, Nat.reduceEqDiff]
      exact ⟨false, (hS.meet [] (by decide) ⟨rfl, trivial⟩ trivial trivial), hM⟩
  · rintro a w ⟨g7, hS, hM⟩
    unfold key_toy_j1 at hM
    refine wp_ret ?_
    injection hM with hM
    subst hM
    try simp only [Exit.then, Exit.inBlock, ↓reduceIte, Nat.reduceEqDiff]
    refine ret_ok hS Tryd.results82 (res_tmp hS rfl res_nil) ?_
    exact rfl

noncomputable def key_language_j1 (g7 : Bool) : Option Bool := some (g7)
noncomputable def key_language (kind_ : Int) : Option Bool := cond (decide ((1 : Int) ≤ kind_)) (key_language_j1 (decide ((kind_ : Int) ≤ 22))) (key_language_j1 false)
set_option maxRecDepth 100000 in
set_option maxHeartbeats 4000000 in
theorem key_language_c (T : Nat → Prop) (W0 : World) (hT : ∀ k, T k → k < W0.heap.size) (kind_ : Int) (y : Bool) (hM : key_language kind_ = some y) : Rets Tryd.prog No 84 [.int .i64 kind_] W0 (fun v w' => v = .bool y) := by
  refine enter (c := _) Tryd.func84 rfl T 9 Tryd.ntmps84 hT rfl fun a hS => ?_
  unfold key_language at hM
  refine wp_seq_k fun K2 hK2 => ?_
  refine r_list ?_
  refine wl rfl (ky (v := .bool false) hS (y_assign hS rfl) rfl rfl fun a hS => ?_)
  refine wpList_nil ?_
  try simp only [Exit.then, Exit.inBlock, ↓reduceIte, Nat.reduceEqDiff]
  refine hK2 _ _ ?_
  refine seq_j (J := fun a w => ∃ (g7 : Bool), St W0 No T 9 [(2, .bool g7)] [] [] a w ∧ key_language_j1 g7 = some y) ?_ ?_
  · skip
    refine r_list ?_
    refine wl rfl (ky (v := .int .i64 kind_) hS (y_move hS rfl) rfl rfl fun a hS => ?_)
    refine wl rfl (ky (v := .bool (decide ((1 : Int) ≤ kind_))) hS (y_int hS rfl rfl rfl) rfl rfl fun a hS => ?_)
    refine wl rfl (ky (v := .bool (decide ((1 : Int) ≤ kind_))) hS (y_move hS rfl) rfl rfl fun a hS => ?_)
    rcases bool2 (decide ((1 : Int) ≤ kind_)) with hb8 | hb8
    · replace hM := ct hb8 hM
      refine wg hS rfl rfl rfl hb8 (ky (v := .int .i64 kind_) hS (y_move hS rfl) rfl rfl fun a hS => ?_)
      refine wg hS rfl rfl rfl hb8 (ky (v := .bool (decide ((kind_ : Int) ≤ 22))) hS (y_int hS rfl rfl rfl) rfl rfl fun a hS => ?_)
      refine wl rfl (ky (v := .bool (decide ((kind_ : Int) ≤ 22))) hS (y_pickt hS rfl hb8 rfl) rfl rfl fun a hS => ?_)
      refine wl rfl (ky (v := .bool (decide ((kind_ : Int) ≤ 22))) hS (y_assign hS rfl) rfl rfl fun a hS => ?_)
      refine wpList_nil ?_
      try simp only [Exit.then, Exit.inBlock, ↓reduceIte, Nat.reduceEqDiff]
      exact ⟨(decide ((kind_ : Int) ≤ 22)), (hS.meet [] (by decide) ⟨rfl, trivial⟩ trivial trivial), hM⟩
    · replace hM := cf hb8 hM
      refine wn hS rfl rfl rfl hb8 rfl rfl fun a hS => ?_
      refine wn hS rfl rfl rfl hb8 rfl rfl fun a hS => ?_
      refine wl rfl (ky (v := .bool false) hS (y_pickf hS rfl hb8 rfl) rfl rfl fun a hS => ?_)
      refine wl rfl (ky (v := .bool false) hS (y_assign hS rfl) rfl rfl fun a hS => ?_)
      refine wpList_nil ?_
      try simp only [Exit.then, Exit.inBlock, ↓reduceIte, Nat.reduceEqDiff]
      exact ⟨false, (hS.meet [] (by decide) ⟨rfl, trivial⟩ trivial trivial), hM⟩
  · rintro a w ⟨g7, hS, hM⟩
    unfold key_language_j1 at hM
    refine wp_ret ?_
    injection hM with hM
    subst hM
    try simp only [Exit.then, Exit.inBlock, ↓reduceIte, Nat.reduceEqDiff]
    refine ret_ok hS Tryd.results84 (res_tmp hS rfl res_nil) ?_
    exact rfl

noncomputable def mill_Mod (n_0 : Int) (m_1 : Int) : Option Int := cond (decide ((m_1 : Int) < 1)) (some (0)) (gd ((m_1 : Int) != 0) <| gd ((m_1 : Int) != 0) <| some (Int.tmod (IntKind.i64.wrap ((Int.tmod n_0 m_1) + m_1)) m_1))
set_option maxRecDepth 100000 in
set_option maxHeartbeats 4000000 in
theorem mill_Mod_c (T : Nat → Prop) (W0 : World) (hT : ∀ k, T k → k < W0.heap.size) (n_0 : Int) (m_1 : Int) (y : Int) (hM : mill_Mod n_0 m_1 = some y) : Rets Tryd.prog No 13 [.int .i64 n_0, .int .i64 m_1] W0 (fun v w' => v = .int .i64 y) := by
  refine enter (c := _) Tryd.func13 rfl T 14 Tryd.ntmps13 hT rfl fun a hS => ?_
  unfold mill_Mod at hM
  refine wp_seq_k fun K6 hK6 => ?_
  refine r_list ?_
  refine wl rfl (ky (v := .int .i64 0) hS (y_assign hS rfl) rfl rfl fun a hS => ?_)
  refine wpList_nil ?_
  try simp only [Exit.then, Exit.inBlock, ↓reduceIte, Nat.reduceEqDiff]
  refine hK6 _ _ ?_
  refine wp_seq_k fun K7 hK7 => ?_
  refine wp_seq_k fun K8 hK8 => ?_
  refine r_list ?_
  refine wl rfl (ky (v := .int .i64 m_1) hS (y_move hS rfl) rfl rfl fun a hS => ?_)
  refine wl rfl (ky (v := .bool (decide ((m_1 : Int) < 1))) hS (y_int hS rfl rfl rfl) rfl rfl fun a hS => ?_)
  refine wpList_nil ?_
  try simp only [Exit.then, Exit.inBlock, ↓reduceIte, Nat.reduceEqDiff]
  refine hK8 _ _ ?_
  rcases bool2 (decide ((m_1 : Int) < 1)) with hb4 | hb4
  · replace hM := ct hb4 hM
    refine c_t hS rfl hb4 ?_
    refine wp_seq_k fun K9 hK9 => ?_
    refine r_list ?_
    refine wl rfl (ky (v := .int .i64 0) hS (y_assign hS rfl) rfl rfl fun a hS => ?_)
    refine wpList_nil ?_
    try simp only [Exit.then, Exit.inBlock, ↓reduceIte, Nat.reduceEqDiff]
    refine hK9 _ _ ?_
    refine wp_ret ?_
    injection hM with hM
    subst hM
    try simp only [Exit.then, Exit.inBlock, ↓reduceIte, Nat.reduceEqDiff]
    refine ret_ok hS Tryd.results13 (res_tmp hS rfl res_nil) ?_
    exact rfl
  · replace hM := cf hb4 hM
    refine c_f hS rfl hb4 ?_
    refine wp_skip ?_
    try simp only [Exit.then, Exit.inBlock, ↓reduceIte, Nat.reduceEqDiff]
    refine hK7 _ _ ?_
    refine wp_seq_k fun K10 hK10 => ?_
    refine r_list ?_
    refine wl rfl (ky (v := .int .i64 n_0) hS (y_move hS rfl) rfl rfl fun a hS => ?_)
    refine wl rfl (ky (v := .int .i64 m_1) hS (y_move hS rfl) rfl rfl fun a hS => ?_)
    obtain ⟨hg5, hM⟩ := gd_some hM
    refine wl rfl (ky (v := .int .i64 (Int.tmod n_0 m_1)) hS (y_rem hS rfl rfl (bne_iff_ne.1 hg5)) rfl rfl fun a hS => ?_)
    refine wl rfl (ky (v := .int .i64 m_1) hS (y_move hS rfl) rfl rfl fun a hS => ?_)
    refine wl rfl (ky (v := .int .i64 (IntKind.i64.wrap ((Int.tmod n_0 m_1) + m_1))) hS (y_int hS rfl rfl rfl) rfl rfl fun a hS => ?_)
    refine wl rfl (ky (v := .int .i64 m_1) hS (y_move hS rfl) rfl rfl fun a hS => ?_)
    obtain ⟨hg6, hM⟩ := gd_some hM
    refine wl rfl (ky (v := .int .i64 (Int.tmod (IntKind.i64.wrap ((Int.tmod n_0 m_1) + m_1)) m_1)) hS (y_rem hS rfl rfl (bne_iff_ne.1 hg6)) rfl rfl fun a hS => ?_)
    refine wl rfl (ky (v := .int .i64 (Int.tmod (IntKind.i64.wrap ((Int.tmod n_0 m_1) + m_1)) m_1)) hS (y_assign hS rfl) rfl rfl fun a hS => ?_)
    refine wpList_nil ?_
    try simp only [Exit.then, Exit.inBlock, ↓reduceIte, Nat.reduceEqDiff]
    refine hK10 _ _ ?_
    refine wp_ret ?_
    injection hM with hM
    subst hM
    try simp only [Exit.then, Exit.inBlock, ↓reduceIte, Nat.reduceEqDiff]
    refine ret_ok hS Tryd.results13 (res_tmp hS rfl res_nil) ?_
    exact rfl

noncomputable def ref23_Decimal_j1 (n78 : Int) : Option Int := some (n78)
noncomputable def ref23_Decimal_l2 (s_0 : ByteArray) (n90 : Int) (i91 : Int) : Option (Fl (Int × Int) (Fl (Int) Int)) := cond (decide ((i91 : Int) < (s_0.size : Int))) ((getI s_0.toList i91).bind fun c107 => cond (decide (((c107.toNat : Int) : Int) < 48)) (some (.out (.out (-1)))) ((getI s_0.toList i91).bind fun c109 => cond (decide ((57 : Int) < (c109.toNat : Int))) (some (.out (.out (-1)))) ((getI s_0.toList i91).bind fun c111 => some (.go (IntKind.i64.wrap ((IntKind.i64.wrap (10 * n90)) + (IntKind.i64.wrap (IntKind.u8.wrap ((c111.toNat : Int) - 48)))), IntKind.i64.wrap (i91 + 1)))))) (some (.out (.go n90)))
noncomputable def ref23_Decimal_j3 (s_0 : ByteArray) (g50 : Bool) : Option Int := cond g50 (some ((-1))) ((loop (fun s : Int × Int => ref23_Decimal_l2 s_0 s.1 s.2) (0, 0)).bind fun r => Fl.el r (fun s => ref23_Decimal_j1 s) (fun y => some (y)))
noncomputable def ref23_Decimal (s_0 : ByteArray) : Option Int := cond (s_0.toList == (ByteArray.mk #[]).toList) (ref23_Decimal_j3 s_0 true) (cond (decide ((9 : Int) < (s_0.size : Int))) (ref23_Decimal_j3 s_0 true) ((getI s_0.toList 0).bind fun c114 => cond (((c114.toNat : Int) : Int) == 48) (ref23_Decimal_j3 s_0 (!(s_0.toList == (ByteArray.mk #[48]).toList))) (ref23_Decimal_j3 s_0 false)))
set_option maxRecDepth 100000 in
set_option maxHeartbeats 4000000 in
theorem ref23_Decimal_c (T : Nat → Prop) (W0 : World) (hT : ∀ k, T k → k < W0.heap.size) (s_0 : ByteArray) (y : Int) (hM : ref23_Decimal s_0 = some y) : Rets Tryd.prog No 104 [.string s_0] W0 (fun v w' => v = .int .i64 y) := by
  refine enter (c := _) Tryd.func104 rfl T 46 Tryd.ntmps104 hT rfl fun a hS => ?_
  unfold ref23_Decimal at hM
  refine wp_seq_k fun K22 hK22 => ?_
  refine r_list ?_
  refine wl rfl (ky (v := .int .i64 0) hS (y_assign hS rfl) rfl rfl fun a hS => ?_)
  refine wpList_nil ?_
  try simp only [Exit.then, Exit.inBlock, ↓reduceIte, Nat.reduceEqDiff]
  refine hK22 _ _ ?_
  refine wp_seq_k fun K23 hK23 => ?_
  refine seq_j (J := fun a w => ∃ (g50 : Bool), St W0 No T 46 [(0, .string s_0), (20, .bool g50)] [] [] a w ∧ ref23_Decimal_j3 s_0 g50 = some y) ?_ ?_
  · skip
    refine r_list ?_
    refine wl rfl (ky (v := .string s_0) hS (y_move hS rfl) rfl rfl fun a hS => ?_)
    refine wl rfl (ky (v := .bool (s_0.toList == (ByteArray.mk #[]).toList)) hS (y_str hS rfl rfl rfl) rfl rfl fun a hS => ?_)
    refine wl rfl (ky (v := .bool (s_0.toList == (ByteArray.mk #[]).toList)) hS (y_move hS rfl) rfl rfl fun a hS => ?_)
    rcases bool2 (s_0.toList == (ByteArray.mk #[]).toList) with hb112 | hb112
    · replace hM := ct hb112 hM
      refine wn hS rfl rfl rfl hb112 rfl rfl fun a hS => ?_
      refine wn hS rfl rfl rfl hb112 rfl rfl fun a hS => ?_
      refine wn hS rfl rfl rfl hb112 rfl rfl fun a hS => ?_
      refine wl rfl (ky (v := .bool true) hS (y_pickt hS rfl hb112 rfl) rfl rfl fun a hS => ?_)
      refine wl rfl (ky (v := .bool true) hS (y_move hS rfl) rfl rfl fun a hS => ?_)
      refine wn hS rfl rfl rfl rfl rfl rfl fun a hS => ?_
      refine wn hS rfl rfl rfl rfl rfl rfl fun a hS => ?_
      refine wn hS rfl rfl rfl rfl rfl rfl fun a hS => ?_
      refine wn hS rfl rfl rfl rfl rfl rfl fun a hS => ?_
      refine wnu hS rfl rfl rfl rfl rfl fun a hS => ?_
      refine wnu hS rfl rfl rfl rfl rfl fun a hS => ?_
      refine wn hS rfl rfl rfl rfl rfl rfl fun a hS => ?_
      refine wl rfl (ky (v := .bool true) hS (y_pickt hS rfl rfl rfl) rfl rfl fun a hS => ?_)
      refine wpList_nil ?_
      try simp only [Exit.then, Exit.inBlock, ↓reduceIte, Nat.reduceEqDiff]
      exact ⟨true, (hS.meet [] (by decide) ⟨rfl, rfl, trivial⟩ trivial trivial), hM⟩
    · replace hM := cf hb112 hM
      refine wg hS rfl rfl rfl hb112 (ky (v := .string s_0) hS (y_move hS rfl) rfl rfl fun a hS => ?_)
      refine wg hS rfl rfl rfl hb112 (ky (v := .int .i64 (s_0.size : Int)) hS (y_lens hS Tryd.underlying9 rfl) rfl rfl fun a hS => ?_)
      refine wg hS rfl rfl rfl hb112 (ky (v := .bool (decide ((9 : Int) < (s_0.size : Int)))) hS (y_int hS rfl rfl rfl) rfl rfl fun a hS => ?_)
      refine wl rfl (ky (v := .bool (decide ((9 : Int) < (s_0.size : Int)))) hS (y_pickf hS rfl hb112 rfl) rfl rfl fun a hS => ?_)
      refine wl rfl (ky (v := .bool (decide ((9 : Int) < (s_0.size : Int)))) hS (y_move hS rfl) rfl rfl fun a hS => ?_)
      rcases bool2 (decide ((9 : Int) < (s_0.size : Int))) with hb113 | hb113
      · replace hM := ct hb113 hM
        refine wn hS rfl rfl rfl hb113 rfl rfl fun a hS => ?_
        refine wn hS rfl rfl rfl hb113 rfl rfl fun a hS => ?_
        refine wn hS rfl rfl rfl hb113 rfl rfl fun a hS => ?_
        refine wn hS rfl rfl rfl hb113 rfl rfl fun a hS => ?_
        refine wnu hS rfl rfl rfl rfl rfl fun a hS => ?_
        refine wnu hS rfl rfl rfl rfl rfl fun a hS => ?_
        refine wn hS rfl rfl rfl hb113 rfl rfl fun a hS => ?_
        refine wl rfl (ky (v := .bool true) hS (y_pickt hS rfl hb113 rfl) rfl rfl fun a hS => ?_)
        refine wpList_nil ?_
        try simp only [Exit.then, Exit.inBlock, ↓reduceIte, Nat.reduceEqDiff]
        exact ⟨true, (hS.meet [] (by decide) ⟨rfl, rfl, trivial⟩ trivial trivial), hM⟩
      · replace hM := cf hb113 hM
        refine wg hS rfl rfl rfl hb113 (ky (v := .string s_0) hS (y_move hS rfl) rfl rfl fun a hS => ?_)
        obtain ⟨c114, hc114, hM⟩ := bd hM
        refine wg hS rfl rfl rfl hb113 (ky (v := .int .u8 (c114.toNat : Int)) hS (y_byte hS Tryd.underlying9 rfl rfl hc114) rfl rfl fun a hS => ?_)
        refine wg hS rfl rfl rfl hb113 (ky (v := .bool (((c114.toNat : Int) : Int) == 48)) hS (y_int hS rfl rfl rfl) rfl rfl fun a hS => ?_)
        refine wg hS rfl rfl rfl hb113 (ky (v := .bool (((c114.toNat : Int) : Int) == 48)) hS (y_move hS rfl) rfl rfl fun a hS => ?_)
        rcases bool2 (((c114.toNat : Int) : Int) == 48) with hb115 | hb115
        · replace hM := ct hb115 hM
          refine wg hS rfl rfl rfl hb115 (ky (v := .string s_0) hS (y_move hS rfl) rfl rfl fun a hS => ?_)
          refine wg hS rfl rfl rfl hb115 (ky (v := .bool (!(s_0.toList == (ByteArray.mk #[48]).toList))) hS (y_str hS rfl rfl rfl) rfl rfl fun a hS => ?_)
          refine wg hS rfl rfl rfl hb113 (ky (v := .bool (!(s_0.toList == (ByteArray.mk #[48]).toList))) hS (y_pickt hS rfl hb115 rfl) rfl rfl fun a hS => ?_)
          refine wl rfl (ky (v := .bool (!(s_0.toList == (ByteArray.mk #[48]).toList))) hS (y_pickf hS rfl hb113 rfl) rfl rfl fun a hS => ?_)
          refine wpList_nil ?_
          try simp only [Exit.then, Exit.inBlock, ↓reduceIte, Nat.reduceEqDiff]
          exact ⟨(!(s_0.toList == (ByteArray.mk #[48]).toList)), (hS.meet [] (by decide) ⟨rfl, rfl, trivial⟩ trivial trivial), hM⟩
        · replace hM := cf hb115 hM
          refine wn hS rfl rfl rfl hb115 rfl rfl fun a hS => ?_
          refine wn hS rfl rfl rfl hb115 rfl rfl fun a hS => ?_
          refine wg hS rfl rfl rfl hb113 (ky (v := .bool false) hS (y_pickf hS rfl hb115 rfl) rfl rfl fun a hS => ?_)
          refine wl rfl (ky (v := .bool false) hS (y_pickf hS rfl hb113 rfl) rfl rfl fun a hS => ?_)
          refine wpList_nil ?_
          try simp only [Exit.then, Exit.inBlock, ↓reduceIte, Nat.reduceEqDiff]
          exact ⟨false, (hS.meet [] (by decide) ⟨rfl, rfl, trivial⟩ trivial trivial), hM⟩
  · rintro a w ⟨g50, hS, hM⟩
    unfold ref23_Decimal_j3 at hM
    rcases bool2 (g50) with hb51 | hb51
    · replace hM := ct hb51 hM
      refine c_t hS rfl hb51 ?_
      refine wp_seq_k fun K24 hK24 => ?_
      refine r_list ?_
      refine wl rfl (ky (v := .int .i64 (-1)) hS (y_assign hS rfl) rfl rfl fun a hS => ?_)
      refine wpList_nil ?_
      try simp only [Exit.then, Exit.inBlock, ↓reduceIte, Nat.reduceEqDiff]
      refine hK24 _ _ ?_
      refine wp_ret ?_
      injection hM with hM
      subst hM
      try simp only [Exit.then, Exit.inBlock, ↓reduceIte, Nat.reduceEqDiff]
      refine ret_ok hS Tryd.results104 (res_tmp hS rfl res_nil) ?_
      exact rfl
    · replace hM := cf hb51 hM
      refine c_f hS rfl hb51 ?_
      refine wp_skip ?_
      try simp only [Exit.then, Exit.inBlock, ↓reduceIte, Nat.reduceEqDiff]
      refine hK23 _ _ ?_
      refine wp_seq_k fun K25 hK25 => ?_
      refine r_list ?_
      refine wl rfl (ky (v := .int .i64 0) hS (y_assign hS rfl) rfl rfl fun a hS => ?_)
      refine wpList_nil ?_
      try simp only [Exit.then, Exit.inBlock, ↓reduceIte, Nat.reduceEqDiff]
      refine hK25 _ _ ?_
      refine seq_j (J := fun a w => ∃ (n78 : Int), St W0 No T 46 [(3, .int .i64 n78)] [] [] a w ∧ ref23_Decimal_j1 n78 = some y) ?_ ?_
      · skip
        refine wp_seq_k fun K42 hK42 => ?_
        refine r_list ?_
        refine wl rfl (ky (v := .int .i64 0) hS (y_assign hS rfl) rfl rfl fun a hS => ?_)
        refine wpList_nil ?_
        try simp only [Exit.then, Exit.inBlock, ↓reduceIte, Nat.reduceEqDiff]
        refine hK42 _ _ ?_
        refine wp_block ?_
        obtain ⟨r1, hl1, hMo1⟩ := bd hM
        refine wp_lp (fun s : Int × Int => ref23_Decimal_l2 s_0 s.1 s.2) (fun s a w => ∃ (n90 : Int) (i91 : Int), (n90, i91) = s ∧ St W0 No T 46 [(0, .string s_0), (3, .int .i64 n90), (4, .int .i64 i91)] [] [] a w) hl1 ⟨0, 0, rfl, (hS.meet [] (by decide) ⟨rfl, rfl, rfl, trivial⟩ trivial trivial)⟩ ?_
        rintro s a w f1 ⟨n90, i91, rfl, hS⟩ hM hf1
        have hM : ref23_Decimal_l2 s_0 n90 i91 = some f1 := hM
        unfold ref23_Decimal_l2 at hM
        refine wp_seq_k fun K57 hK57 => ?_
        refine wp_seq_k fun K58 hK58 => ?_
        refine r_list ?_
        refine wl rfl (ky (v := .int .i64 i91) hS (y_move hS rfl) rfl rfl fun a hS => ?_)
        refine wl rfl (ky (v := .string s_0) hS (y_move hS rfl) rfl rfl fun a hS => ?_)
        refine wl rfl (ky (v := .int .i64 (s_0.size : Int)) hS (y_lens hS Tryd.underlying9 rfl) rfl rfl fun a hS => ?_)
        refine wl rfl (ky (v := .bool (decide ((i91 : Int) < (s_0.size : Int)))) hS (y_int hS rfl rfl rfl) rfl rfl fun a hS => ?_)
        refine wpList_nil ?_
        try simp only [Exit.then, Exit.inBlock, ↓reduceIte, Nat.reduceEqDiff]
        refine hK58 _ _ ?_
        rcases bool2 (decide ((i91 : Int) < (s_0.size : Int))) with hb103 | hb103
        · replace hM := ct hb103 hM
          refine c_t hS rfl hb103 ?_
          refine wp_skip ?_
          try simp only [Exit.then, Exit.inBlock, ↓reduceIte, Nat.reduceEqDiff]
          refine hK57 _ _ ?_
          refine wp_seq_k fun K59 hK59 => ?_
          refine wp_block ?_
          refine wp_seq_k fun K60 hK60 => ?_
          refine wp_seq_k fun K61 hK61 => ?_
          refine r_list ?_
          refine wl rfl (ky (v := .string s_0) hS (y_move hS rfl) rfl rfl fun a hS => ?_)
          refine wl rfl (ky (v := .int .i64 i91) hS (y_move hS rfl) rfl rfl fun a hS => ?_)
          obtain ⟨c107, hc107, hM⟩ := bd hM
          refine wl rfl (ky (v := .int .u8 (c107.toNat : Int)) hS (y_byte hS Tryd.underlying9 rfl rfl hc107) rfl rfl fun a hS => ?_)
          refine wl rfl (ky (v := .bool (decide (((c107.toNat : Int) : Int) < 48))) hS (y_int hS rfl rfl rfl) rfl rfl fun a hS => ?_)
          refine wl rfl (ky (v := .bool (decide (((c107.toNat : Int) : Int) < 48))) hS (y_move hS rfl) rfl rfl fun a hS => ?_)
          rcases bool2 (decide (((c107.toNat : Int) : Int) < 48)) with hb108 | hb108
          · replace hM := ct hb108 hM
            refine wn hS rfl rfl rfl hb108 rfl rfl fun a hS => ?_
            refine wn hS rfl rfl rfl hb108 rfl rfl fun a hS => ?_
            refine wn hS rfl rfl rfl hb108 rfl rfl fun a hS => ?_
            refine wn hS rfl rfl rfl hb108 rfl rfl fun a hS => ?_
            refine wl rfl (ky (v := .bool true) hS (y_pickt hS rfl hb108 rfl) rfl rfl fun a hS => ?_)
            refine wpList_nil ?_
            try simp only [Exit.then, Exit.inBlock, ↓reduceIte, Nat.reduceEqDiff]
            refine hK61 _ _ ?_
            refine c_t hS rfl rfl ?_
            refine wp_seq_k fun K62 hK62 => ?_
            refine r_list ?_
            refine wl rfl (ky (v := .int .i64 (-1)) hS (y_assign hS rfl) rfl rfl fun a hS => ?_)
            refine wpList_nil ?_
            try simp only [Exit.then, Exit.inBlock, ↓reduceIte, Nat.reduceEqDiff]
            refine hK62 _ _ ?_
            refine wp_ret ?_
            injection hM with hM
            subst hM
            have hr := hf1 _ rfl
            subst hr
            replace hMo1 := el_out hMo1
            have hM := hMo1
            injection hM with hM
            subst hM
            try simp only [Exit.then, Exit.inBlock, ↓reduceIte, Nat.reduceEqDiff]
            refine ret_ok hS Tryd.results104 (res_tmp hS rfl res_nil) ?_
            exact rfl
          · replace hM := cf hb108 hM
            refine wg hS rfl rfl rfl hb108 (ky (v := .string s_0) hS (y_move hS rfl) rfl rfl fun a hS => ?_)
            refine wg hS rfl rfl rfl hb108 (ky (v := .int .i64 i91) hS (y_move hS rfl) rfl rfl fun a hS => ?_)
            obtain ⟨c109, hc109, hM⟩ := bd hM
            refine wg hS rfl rfl rfl hb108 (ky (v := .int .u8 (c109.toNat : Int)) hS (y_byte hS Tryd.underlying9 rfl rfl hc109) rfl rfl fun a hS => ?_)
            refine wg hS rfl rfl rfl hb108 (ky (v := .bool (decide ((57 : Int) < (c109.toNat : Int)))) hS (y_int hS rfl rfl rfl) rfl rfl fun a hS => ?_)
            refine wl rfl (ky (v := .bool (decide ((57 : Int) < (c109.toNat : Int)))) hS (y_pickf hS rfl hb108 rfl) rfl rfl fun a hS => ?_)
            refine wpList_nil ?_
            try simp only [Exit.then, Exit.inBlock, ↓reduceIte, Nat.reduceEqDiff]
            refine hK61 _ _ ?_
            rcases bool2 (decide ((57 : Int) < (c109.toNat : Int))) with hb110 | hb110
            · replace hM := ct hb110 hM
              refine c_t hS rfl hb110 ?_
              refine wp_seq_k fun K63 hK63 => ?_
              refine r_list ?_
              refine wl rfl (ky (v := .int .i64 (-1)) hS (y_assign hS rfl) rfl rfl fun a hS => ?_)
              refine wpList_nil ?_
              try simp only [Exit.then, Exit.inBlock, ↓reduceIte, Nat.reduceEqDiff]
              refine hK63 _ _ ?_
              refine wp_ret ?_
              injection hM with hM
              subst hM
              have hr := hf1 _ rfl
              subst hr
              replace hMo1 := el_out hMo1
              have hM := hMo1
              injection hM with hM
              subst hM
              try simp only [Exit.then, Exit.inBlock, ↓reduceIte, Nat.reduceEqDiff]
              refine ret_ok hS Tryd.results104 (res_tmp hS rfl res_nil) ?_
              exact rfl
            · replace hM := cf hb110 hM
              refine c_f hS rfl hb110 ?_
              refine wp_skip ?_
              try simp only [Exit.then, Exit.inBlock, ↓reduceIte, Nat.reduceEqDiff]
              refine hK60 _ _ ?_
              refine r_list ?_
              refine wl rfl (ky (v := .int .i64 n90) hS (y_move hS rfl) rfl rfl fun a hS => ?_)
              refine wl rfl (ky (v := .int .i64 (IntKind.i64.wrap (10 * n90))) hS (y_int hS rfl rfl rfl) rfl rfl fun a hS => ?_)
              refine wl rfl (ky (v := .string s_0) hS (y_move hS rfl) rfl rfl fun a hS => ?_)
              refine wl rfl (ky (v := .int .i64 i91) hS (y_move hS rfl) rfl rfl fun a hS => ?_)
              obtain ⟨c111, hc111, hM⟩ := bd hM
              refine wl rfl (ky (v := .int .u8 (c111.toNat : Int)) hS (y_byte hS Tryd.underlying9 rfl rfl hc111) rfl rfl fun a hS => ?_)
              refine wl rfl (ky (v := .int .u8 (IntKind.u8.wrap ((c111.toNat : Int) - 48))) hS (y_int hS rfl rfl rfl) rfl rfl fun a hS => ?_)
              refine wl rfl (ky (v := .int .i64 (IntKind.i64.wrap (IntKind.u8.wrap ((c111.toNat : Int) - 48)))) hS (y_conv hS rfl Tryd.underlying5 Tryd.underlying3) rfl rfl fun a hS => ?_)
              refine wl rfl (ky (v := .int .i64 (IntKind.i64.wrap ((IntKind.i64.wrap (10 * n90)) + (IntKind.i64.wrap (IntKind.u8.wrap ((c111.toNat : Int) - 48)))))) hS (y_int hS rfl rfl rfl) rfl rfl fun a hS => ?_)
              refine wl rfl (ky (v := .int .i64 (IntKind.i64.wrap ((IntKind.i64.wrap (10 * n90)) + (IntKind.i64.wrap (IntKind.u8.wrap ((c111.toNat : Int) - 48)))))) hS (y_assign hS rfl) rfl rfl fun a hS => ?_)
              refine wpList_nil ?_
              try simp only [Exit.then, Exit.inBlock, ↓reduceIte, Nat.reduceEqDiff]
              refine hK59 _ _ ?_
              refine r_list ?_
              refine wl rfl (ky (v := .int .i64 i91) hS (y_move hS rfl) rfl rfl fun a hS => ?_)
              refine wl rfl (ky (v := .int .i64 (IntKind.i64.wrap (i91 + 1))) hS (y_int hS rfl rfl rfl) rfl rfl fun a hS => ?_)
              refine wl rfl (ky (v := .int .i64 (IntKind.i64.wrap (i91 + 1))) hS (y_assign hS rfl) rfl rfl fun a hS => ?_)
              refine wpList_nil ?_
              try simp only [Exit.then, Exit.inBlock, ↓reduceIte, Nat.reduceEqDiff]
              exact ⟨(IntKind.i64.wrap ((IntKind.i64.wrap (10 * n90)) + (IntKind.i64.wrap (IntKind.u8.wrap ((c111.toNat : Int) - 48)))), IntKind.i64.wrap (i91 + 1)), (Option.some.inj hM).symm, (IntKind.i64.wrap ((IntKind.i64.wrap (10 * n90)) + (IntKind.i64.wrap (IntKind.u8.wrap ((c111.toNat : Int) - 48))))), (IntKind.i64.wrap (i91 + 1)), rfl, (hS.meet [] (by decide) ⟨rfl, rfl, rfl, trivial⟩ trivial trivial)⟩
        · replace hM := cf hb103 hM
          refine c_f hS rfl hb103 ?_
          refine wp_exit ?_
          try simp only [Exit.then, Exit.inBlock, ↓reduceIte, Nat.reduceEqDiff]
          injection hM with hM
          subst hM
          have hr := hf1 _ rfl
          subst hr
          replace hMo1 := el_go hMo1
          have hM : ref23_Decimal_j1 n90 = some y := hMo1
          exact ⟨n90, (hS.meet [] (by decide) ⟨rfl, trivial⟩ trivial trivial), hM⟩
      · rintro a w ⟨n78, hS, hM⟩
        unfold ref23_Decimal_j1 at hM
        refine wp_seq_k fun K41 hK41 => ?_
        refine r_list ?_
        refine wl rfl (ky (v := .int .i64 n78) hS (y_move hS rfl) rfl rfl fun a hS => ?_)
        refine wl rfl (ky (v := .int .i64 n78) hS (y_assign hS rfl) rfl rfl fun a hS => ?_)
        refine wpList_nil ?_
        try simp only [Exit.then, Exit.inBlock, ↓reduceIte, Nat.reduceEqDiff]
        refine hK41 _ _ ?_
        refine wp_ret ?_
        injection hM with hM
        subst hM
        try simp only [Exit.then, Exit.inBlock, ↓reduceIte, Nat.reduceEqDiff]
        refine ret_ok hS Tryd.results104 (res_tmp hS rfl res_nil) ?_
        exact rfl

noncomputable def ref23_Number_j1 (n24 : Int) (g25 : Bool) : Option Int := cond g25 (some (n24)) (some ((-1)))
noncomputable def ref23_Number (k_0 : KeyD) : Option Int := (ref23_Decimal k_0.Text).bind fun u18 => cond (decide ((30 : Int) ≤ k_0.Kind)) (cond (decide ((k_0.Kind : Int) ≤ 32)) (ref23_Number_j1 u18 (decide ((u18 : Int) ≤ 99))) (ref23_Number_j1 u18 false)) (ref23_Number_j1 u18 false)
set_option maxRecDepth 100000 in
set_option maxHeartbeats 4000000 in
theorem ref23_Number_c (T : Nat → Prop) (W0 : World) (hT : ∀ k, T k → k < W0.heap.size) (k_0 : KeyD) (y : Int) (hM : ref23_Number k_0 = some y) : Rets Tryd.prog No 85 [.agg #[.int .i64 k_0.Kind, .string k_0.Text]] W0 (fun v w' => v = .int .i64 y) := by
  refine enter (c := _) Tryd.func85 rfl T 20 Tryd.ntmps85 hT rfl fun a hS => ?_
  unfold ref23_Number at hM
  refine wp_seq_k fun K6 hK6 => ?_
  refine r_list ?_
  refine wl rfl (k_box hS rfl (cs := [.int .i64 k_0.Kind, .string k_0.Text]) rfl rfl fun b15 hnb17 a w hk hS => ?_)
  refine wl rfl (ky (v := .int .i64 0) hS (y_assign hS rfl) rfl rfl fun a hS => ?_)
  refine wpList_nil ?_
  try simp only [Exit.then, Exit.inBlock, ↓reduceIte, Nat.reduceEqDiff]
  refine hK6 _ _ ?_
  refine wp_seq_k fun K7 hK7 => ?_
  refine wp_seq_k fun K8 hK8 => ?_
  refine r_list ?_
  refine wl rfl (ky (v := .pointer (some ⟨b15, 0 + 1, none⟩)) hS (y_fld hS rfl fl26_1) rfl rfl fun a hS => ?_)
  refine wl rfl (ky (v := .string k_0.Text) hS (y_load hS rfl ty9 0 rfl id (us := [.string k_0.Text]) rfl rfl (fun _ => rfl)) rfl rfl fun a hS => ?_)
  obtain ⟨u18, hu18, hM⟩ := bd hM
  refine wl rfl (k_call hS ci104 rfl rfl (ref23_Decimal_c _ _ hS.dlt k_0.Text _ hu18) fun _ w hR a hk hA => ?_)
  have he := Eq.symm hR
  subst he
  have hS := hA [] (fun r hr => by cases hr) List.Pairwise.nil
  refine wl rfl (ky (v := .int .i64 u18) hS (y_assign hS rfl) rfl rfl fun a hS => ?_)
  refine wpList_nil ?_
  try simp only [Exit.then, Exit.inBlock, ↓reduceIte, Nat.reduceEqDiff]
  refine hK8 _ _ ?_
  refine seq_j (J := fun a w => ∃ (n24 : Int) (g25 : Bool), St W0 No T 20 [(3, .int .i64 n24), (18, .bool g25)] [] [] a w ∧ ref23_Number_j1 n24 g25 = some y) ?_ ?_
  · skip
    refine r_list ?_
    refine wl rfl (ky (v := .pointer (some ⟨b15, 0 + 0, none⟩)) hS (y_fld hS rfl fl26_0) rfl rfl fun a hS => ?_)
    refine wl rfl (ky (v := .int .i64 k_0.Kind) hS (y_load hS rfl ty3 0 rfl id (us := [.int .i64 k_0.Kind]) rfl rfl (fun _ => rfl)) rfl rfl fun a hS => ?_)
    refine wl rfl (ky (v := .bool (decide ((30 : Int) ≤ k_0.Kind))) hS (y_int hS rfl rfl rfl) rfl rfl fun a hS => ?_)
    refine wl rfl (ky (v := .bool (decide ((30 : Int) ≤ k_0.Kind))) hS (y_move hS rfl) rfl rfl fun a hS => ?_)
    rcases bool2 (decide ((30 : Int) ≤ k_0.Kind)) with hb27 | hb27
    · replace hM := ct hb27 hM
      refine wg hS rfl rfl rfl hb27 (ky (v := .pointer (some ⟨b15, 0 + 0, none⟩)) hS (y_fld hS rfl fl26_0) rfl rfl fun a hS => ?_)
      refine wg hS rfl rfl rfl hb27 (ky (v := .int .i64 k_0.Kind) hS (y_load hS rfl ty3 0 rfl id (us := [.int .i64 k_0.Kind]) rfl rfl (fun _ => rfl)) rfl rfl fun a hS => ?_)
      refine wg hS rfl rfl rfl hb27 (ky (v := .bool (decide ((k_0.Kind : Int) ≤ 32))) hS (y_int hS rfl rfl rfl) rfl rfl fun a hS => ?_)
      refine wl rfl (ky (v := .bool (decide ((k_0.Kind : Int) ≤ 32))) hS (y_pickt hS rfl hb27 rfl) rfl rfl fun a hS => ?_)
      refine wl rfl (ky (v := .bool (decide ((k_0.Kind : Int) ≤ 32))) hS (y_move hS rfl) rfl rfl fun a hS => ?_)
      rcases bool2 (decide ((k_0.Kind : Int) ≤ 32)) with hb28 | hb28
      · replace hM := ct hb28 hM
        refine wg hS rfl rfl rfl hb28 (ky (v := .int .i64 u18) hS (y_move hS rfl) rfl rfl fun a hS => ?_)
        refine wg hS rfl rfl rfl hb28 (ky (v := .bool (decide ((u18 : Int) ≤ 99))) hS (y_int hS rfl rfl rfl) rfl rfl fun a hS => ?_)
        refine wl rfl (ky (v := .bool (decide ((u18 : Int) ≤ 99))) hS (y_pickt hS rfl hb28 rfl) rfl rfl fun a hS => ?_)
        refine wpList_nil ?_
        try simp only [Exit.then, Exit.inBlock, ↓reduceIte, Nat.reduceEqDiff]
        exact ⟨u18, (decide ((u18 : Int) ≤ 99)), (hS.meet [] (by decide) ⟨rfl, rfl, trivial⟩ trivial trivial), hM⟩
      · replace hM := cf hb28 hM
        refine wn hS rfl rfl rfl hb28 rfl rfl fun a hS => ?_
        refine wn hS rfl rfl rfl hb28 rfl rfl fun a hS => ?_
        refine wl rfl (ky (v := .bool false) hS (y_pickf hS rfl hb28 rfl) rfl rfl fun a hS => ?_)
        refine wpList_nil ?_
        try simp only [Exit.then, Exit.inBlock, ↓reduceIte, Nat.reduceEqDiff]
        exact ⟨u18, false, (hS.meet [] (by decide) ⟨rfl, rfl, trivial⟩ trivial trivial), hM⟩
    · replace hM := cf hb27 hM
      refine wn hS rfl rfl rfl hb27 rfl rfl fun a hS => ?_
      refine wn hS rfl rfl rfl hb27 rfl rfl fun a hS => ?_
      refine wn hS rfl rfl rfl hb27 rfl rfl fun a hS => ?_
      refine wl rfl (ky (v := .bool false) hS (y_pickf hS rfl hb27 rfl) rfl rfl fun a hS => ?_)
      refine wl rfl (ky (v := .bool false) hS (y_move hS rfl) rfl rfl fun a hS => ?_)
      refine wn hS rfl rfl rfl rfl rfl rfl fun a hS => ?_
      refine wn hS rfl rfl rfl rfl rfl rfl fun a hS => ?_
      refine wl rfl (ky (v := .bool false) hS (y_pickf hS rfl rfl rfl) rfl rfl fun a hS => ?_)
      refine wpList_nil ?_
      try simp only [Exit.then, Exit.inBlock, ↓reduceIte, Nat.reduceEqDiff]
      exact ⟨u18, false, (hS.meet [] (by decide) ⟨rfl, rfl, trivial⟩ trivial trivial), hM⟩
  · rintro a w ⟨n24, g25, hS, hM⟩
    unfold ref23_Number_j1 at hM
    rcases bool2 (g25) with hb26 | hb26
    · replace hM := ct hb26 hM
      refine c_t hS rfl hb26 ?_
      refine wp_seq_k fun K9 hK9 => ?_
      refine r_list ?_
      refine wl rfl (ky (v := .int .i64 n24) hS (y_move hS rfl) rfl rfl fun a hS => ?_)
      refine wl rfl (ky (v := .int .i64 n24) hS (y_assign hS rfl) rfl rfl fun a hS => ?_)
      refine wpList_nil ?_
      try simp only [Exit.then, Exit.inBlock, ↓reduceIte, Nat.reduceEqDiff]
      refine hK9 _ _ ?_
      refine wp_ret ?_
      injection hM with hM
      subst hM
      try simp only [Exit.then, Exit.inBlock, ↓reduceIte, Nat.reduceEqDiff]
      refine ret_ok hS Tryd.results85 (res_tmp hS rfl res_nil) ?_
      exact rfl
    · replace hM := cf hb26 hM
      refine c_f hS rfl hb26 ?_
      refine wp_skip ?_
      try simp only [Exit.then, Exit.inBlock, ↓reduceIte, Nat.reduceEqDiff]
      refine hK7 _ _ ?_
      refine wp_seq_k fun K10 hK10 => ?_
      refine r_list ?_
      refine wl rfl (ky (v := .int .i64 (-1)) hS (y_assign hS rfl) rfl rfl fun a hS => ?_)
      refine wpList_nil ?_
      try simp only [Exit.then, Exit.inBlock, ↓reduceIte, Nat.reduceEqDiff]
      refine hK10 _ _ ?_
      refine wp_ret ?_
      injection hM with hM
      subst hM
      try simp only [Exit.then, Exit.inBlock, ↓reduceIte, Nat.reduceEqDiff]
      refine ret_ok hS Tryd.results85 (res_tmp hS rfl res_nil) ?_
      exact rfl

noncomputable def ref23_Valid_j1 (g48 : Bool) : Option Bool := some (g48)
noncomputable def ref23_Valid_j2 (k_0 : KeyD) (g33 : Bool) (k34 : Int) : Option Bool := cond g33 ((ref23_Number (KeyD.mk k34 k_0.Text)).bind fun u36 => some (decide ((0 : Int) ≤ u36))) (cond (decide ((1 : Int) ≤ k34)) (cond (decide ((k34 : Int) ≤ 22)) (cond (decide (((k_0.Text.size : Int) : Int) ≤ 1073741824)) (cond (k_0.Text.toList == (ByteArray.mk #[]).toList) (ref23_Valid_j1 true) (cond ((k34 : Int) != 1) (ref23_Valid_j1 ((k34 : Int) != 21)) (ref23_Valid_j1 false))) (ref23_Valid_j1 false)) (ref23_Valid_j1 false)) (ref23_Valid_j1 false))
noncomputable def ref23_Valid (k_0 : KeyD) : Option Bool := cond (decide ((30 : Int) ≤ k_0.Kind)) (ref23_Valid_j2 k_0 (decide ((k_0.Kind : Int) ≤ 32)) k_0.Kind) (ref23_Valid_j2 k_0 false k_0.Kind)
set_option maxRecDepth 100000 in
set_option maxHeartbeats 4000000 in
theorem ref23_Valid_c (T : Nat → Prop) (W0 : World) (hT : ∀ k, T k → k < W0.heap.size) (k_0 : KeyD) (y : Bool) (hM : ref23_Valid k_0 = some y) : Rets Tryd.prog No 55 [.agg #[.int .i64 k_0.Kind, .string k_0.Text]] W0 (fun v w' => v = .bool y) := by
  refine enter (c := _) Tryd.func55 rfl T 43 Tryd.ntmps55 hT rfl fun a hS => ?_
  unfold ref23_Valid at hM
  refine wp_seq_k fun K4 hK4 => ?_
  refine r_list ?_
  refine wl rfl (k_box hS rfl (cs := [.int .i64 k_0.Kind, .string k_0.Text]) rfl rfl fun b28 hnb30 a w hk hS => ?_)
  refine wl rfl (ky (v := .bool false) hS (y_assign hS rfl) rfl rfl fun a hS => ?_)
  refine wpList_nil ?_
  try simp only [Exit.then, Exit.inBlock, ↓reduceIte, Nat.reduceEqDiff]
  refine hK4 _ _ ?_
  refine wp_seq_k fun K5 hK5 => ?_
  refine seq_j (J := fun a w => ∃ (g33 : Bool) (k34 : Int), St W0 No T 43 [(1, .pointer (some ⟨b28, 0, none⟩)), (10, .bool g33)] [.box b28 [.int .i64 k34, .string k_0.Text] 26] [] a w ∧ ref23_Valid_j2 k_0 g33 k34 = some y) ?_ ?_
  · skip
    refine r_list ?_
    refine wl rfl (ky (v := .pointer (some ⟨b28, 0 + 0, none⟩)) hS (y_fld hS rfl fl26_0) rfl rfl fun a hS => ?_)
    refine wl rfl (ky (v := .int .i64 k_0.Kind) hS (y_load hS rfl ty3 0 rfl id (us := [.int .i64 k_0.Kind]) rfl rfl (fun _ => rfl)) rfl rfl fun a hS => ?_)
    refine wl rfl (ky (v := .bool (decide ((30 : Int) ≤ k_0.Kind))) hS (y_int hS rfl rfl rfl) rfl rfl fun a hS => ?_)
    refine wl rfl (ky (v := .bool (decide ((30 : Int) ≤ k_0.Kind))) hS (y_move hS rfl) rfl rfl fun a hS => ?_)
    rcases bool2 (decide ((30 : Int) ≤ k_0.Kind)) with hb54 | hb54
    · replace hM := ct hb54 hM
      refine wg hS rfl rfl rfl hb54 (ky (v := .pointer (some ⟨b28, 0 + 0, none⟩)) hS (y_fld hS rfl fl26_0) rfl rfl fun a hS => ?_)
      refine wg hS rfl rfl rfl hb54 (ky (v := .int .i64 k_0.Kind) hS (y_load hS rfl ty3 0 rfl id (us := [.int .i64 k_0.Kind]) rfl rfl (fun _ => rfl)) rfl rfl fun a hS => ?_)
      refine wg hS rfl rfl rfl hb54 (ky (v := .bool (decide ((k_0.Kind : Int) ≤ 32))) hS (y_int hS rfl rfl rfl) rfl rfl fun a hS => ?_)
      refine wl rfl (ky (v := .bool (decide ((k_0.Kind : Int) ≤ 32))) hS (y_pickt hS rfl hb54 rfl) rfl rfl fun a hS => ?_)
      refine wpList_nil ?_
      try simp only [Exit.then, Exit.inBlock, ↓reduceIte, Nat.reduceEqDiff]
      exact ⟨(decide ((k_0.Kind : Int) ≤ 32)), k_0.Kind, (hS.meet [0] (by decide) ⟨rfl, rfl, trivial⟩ ⟨rfl, trivial⟩ trivial), hM⟩
    · replace hM := cf hb54 hM
      refine wn hS rfl rfl rfl hb54 rfl rfl fun a hS => ?_
      refine wn hS rfl rfl rfl hb54 rfl rfl fun a hS => ?_
      refine wn hS rfl rfl rfl hb54 rfl rfl fun a hS => ?_
      refine wl rfl (ky (v := .bool false) hS (y_pickf hS rfl hb54 rfl) rfl rfl fun a hS => ?_)
      refine wpList_nil ?_
      try simp only [Exit.then, Exit.inBlock, ↓reduceIte, Nat.reduceEqDiff]
      exact ⟨false, k_0.Kind, (hS.meet [0] (by decide) ⟨rfl, rfl, trivial⟩ ⟨rfl, trivial⟩ trivial), hM⟩
  · rintro a w ⟨g33, k34, hS, hM⟩
    unfold ref23_Valid_j2 at hM
    rcases bool2 (g33) with hb35 | hb35
    · replace hM := ct hb35 hM
      refine c_t hS rfl hb35 ?_
      refine wp_seq_k fun K6 hK6 => ?_
      refine r_list ?_
      refine wl rfl (ky (v := .agg #[.int .i64 k34, .string k_0.Text]) hS (y_load hS rfl ty26 0 rfl id (us := [.int .i64 k34, .string k_0.Text]) rfl rfl (fun h => by cases h)) rfl rfl fun a hS => ?_)
      obtain ⟨u36, hu36, hM⟩ := bd hM
      refine wl rfl (k_call hS ci85 rfl rfl (ref23_Number_c _ _ hS.dlt (KeyD.mk k34 k_0.Text) _ hu36) fun _ w hR a hk hA => ?_)
      have he := Eq.symm hR
      subst he
      have hS := hA [] (fun r hr => by cases hr) List.Pairwise.nil
      refine wl rfl (ky (v := .bool (decide ((0 : Int) ≤ u36))) hS (y_int hS rfl rfl rfl) rfl rfl fun a hS => ?_)
      refine wl rfl (ky (v := .bool (decide ((0 : Int) ≤ u36))) hS (y_assign hS rfl) rfl rfl fun a hS => ?_)
      refine wpList_nil ?_
      try simp only [Exit.then, Exit.inBlock, ↓reduceIte, Nat.reduceEqDiff]
      refine hK6 _ _ ?_
      refine wp_ret ?_
      injection hM with hM
      subst hM
      try simp only [Exit.then, Exit.inBlock, ↓reduceIte, Nat.reduceEqDiff]
      refine ret_ok hS Tryd.results55 (res_tmp hS rfl res_nil) ?_
      exact rfl
    · replace hM := cf hb35 hM
      refine c_f hS rfl hb35 ?_
      refine wp_skip ?_
      try simp only [Exit.then, Exit.inBlock, ↓reduceIte, Nat.reduceEqDiff]
      refine hK5 _ _ ?_
      refine seq_j (J := fun a w => ∃ (g48 : Bool), St W0 No T 43 [(2, .bool g48)] [] [] a w ∧ ref23_Valid_j1 g48 = some y) ?_ ?_
      · skip
        refine r_list ?_
        refine wl rfl (ky (v := .pointer (some ⟨b28, 0 + 0, none⟩)) hS (y_fld hS rfl fl26_0) rfl rfl fun a hS => ?_)
        refine wl rfl (ky (v := .int .i64 k34) hS (y_load hS rfl ty3 0 rfl id (us := [.int .i64 k34]) rfl rfl (fun _ => rfl)) rfl rfl fun a hS => ?_)
        refine wl rfl (ky (v := .bool (decide ((1 : Int) ≤ k34))) hS (y_int hS rfl rfl rfl) rfl rfl fun a hS => ?_)
        refine wl rfl (ky (v := .bool (decide ((1 : Int) ≤ k34))) hS (y_move hS rfl) rfl rfl fun a hS => ?_)
        rcases bool2 (decide ((1 : Int) ≤ k34)) with hb49 | hb49
        · replace hM := ct hb49 hM
          refine wg hS rfl rfl rfl hb49 (ky (v := .pointer (some ⟨b28, 0 + 0, none⟩)) hS (y_fld hS rfl fl26_0) rfl rfl fun a hS => ?_)
          refine wg hS rfl rfl rfl hb49 (ky (v := .int .i64 k34) hS (y_load hS rfl ty3 0 rfl id (us := [.int .i64 k34]) rfl rfl (fun _ => rfl)) rfl rfl fun a hS => ?_)
          refine wg hS rfl rfl rfl hb49 (ky (v := .bool (decide ((k34 : Int) ≤ 22))) hS (y_int hS rfl rfl rfl) rfl rfl fun a hS => ?_)
          refine wl rfl (ky (v := .bool (decide ((k34 : Int) ≤ 22))) hS (y_pickt hS rfl hb49 rfl) rfl rfl fun a hS => ?_)
          refine wl rfl (ky (v := .bool (decide ((k34 : Int) ≤ 22))) hS (y_move hS rfl) rfl rfl fun a hS => ?_)
          rcases bool2 (decide ((k34 : Int) ≤ 22)) with hb50 | hb50
          · replace hM := ct hb50 hM
            refine wg hS rfl rfl rfl hb50 (ky (v := .pointer (some ⟨b28, 0 + 1, none⟩)) hS (y_fld hS rfl fl26_1) rfl rfl fun a hS => ?_)
            refine wg hS rfl rfl rfl hb50 (ky (v := .string k_0.Text) hS (y_load hS rfl ty9 0 rfl id (us := [.string k_0.Text]) rfl rfl (fun _ => rfl)) rfl rfl fun a hS => ?_)
            refine wg hS rfl rfl rfl hb50 (ky (v := .int .i64 (k_0.Text.size : Int)) hS (y_lens hS Tryd.underlying9 rfl) rfl rfl fun a hS => ?_)
            refine wg hS rfl rfl rfl hb50 (ky (v := .bool (decide (((k_0.Text.size : Int) : Int) ≤ 1073741824))) hS (y_int hS rfl rfl rfl) rfl rfl fun a hS => ?_)
            refine wl rfl (ky (v := .bool (decide (((k_0.Text.size : Int) : Int) ≤ 1073741824))) hS (y_pickt hS rfl hb50 rfl) rfl rfl fun a hS => ?_)
            refine wl rfl (ky (v := .bool (decide (((k_0.Text.size : Int) : Int) ≤ 1073741824))) hS (y_move hS rfl) rfl rfl fun a hS => ?_)
            rcases bool2 (decide (((k_0.Text.size : Int) : Int) ≤ 1073741824)) with hb51 | hb51
            · replace hM := ct hb51 hM
              refine wg hS rfl rfl rfl hb51 (ky (v := .pointer (some ⟨b28, 0 + 1, none⟩)) hS (y_fld hS rfl fl26_1) rfl rfl fun a hS => ?_)
              refine wg hS rfl rfl rfl hb51 (ky (v := .string k_0.Text) hS (y_load hS rfl ty9 0 rfl id (us := [.string k_0.Text]) rfl rfl (fun _ => rfl)) rfl rfl fun a hS => ?_)
              refine wg hS rfl rfl rfl hb51 (ky (v := .bool (k_0.Text.toList == (ByteArray.mk #[]).toList)) hS (y_str hS rfl rfl rfl) rfl rfl fun a hS => ?_)
              refine wg hS rfl rfl rfl hb51 (ky (v := .bool (k_0.Text.toList == (ByteArray.mk #[]).toList)) hS (y_move hS rfl) rfl rfl fun a hS => ?_)
              rcases bool2 (k_0.Text.toList == (ByteArray.mk #[]).toList) with hb52 | hb52
              · replace hM := ct hb52 hM
                refine wn hS rfl rfl rfl hb52 rfl rfl fun a hS => ?_
                refine wn hS rfl rfl rfl hb52 rfl rfl fun a hS => ?_
                refine wn hS rfl rfl rfl hb52 rfl rfl fun a hS => ?_
                refine wn hS rfl rfl rfl hb52 rfl rfl fun a hS => ?_
                refine wnu hS rfl rfl rfl rfl rfl fun a hS => ?_
                refine wnu hS rfl rfl rfl rfl rfl fun a hS => ?_
                refine wnu hS rfl rfl rfl rfl rfl fun a hS => ?_
                refine wn hS rfl rfl rfl hb52 rfl rfl fun a hS => ?_
                refine wg hS rfl rfl rfl hb51 (ky (v := .bool true) hS (y_pickt hS rfl hb52 rfl) rfl rfl fun a hS => ?_)
                refine wl rfl (ky (v := .bool true) hS (y_pickt hS rfl hb51 rfl) rfl rfl fun a hS => ?_)
                refine wl rfl (ky (v := .bool true) hS (y_assign hS rfl) rfl rfl fun a hS => ?_)
                refine wpList_nil ?_
                try simp only [Exit.then, Exit.inBlock, ↓reduceIte, Nat.reduceEqDiff]
                exact ⟨true, (hS.meet [] (by decide) ⟨rfl, trivial⟩ trivial trivial), hM⟩
              · replace hM := cf hb52 hM
                refine wg hS rfl rfl rfl hb52 (ky (v := .pointer (some ⟨b28, 0 + 0, none⟩)) hS (y_fld hS rfl fl26_0) rfl rfl fun a hS => ?_)
                refine wg hS rfl rfl rfl hb52 (ky (v := .int .i64 k34) hS (y_load hS rfl ty3 0 rfl id (us := [.int .i64 k34]) rfl rfl (fun _ => rfl)) rfl rfl fun a hS => ?_)
                refine wg hS rfl rfl rfl hb52 (ky (v := .bool ((k34 : Int) != 1)) hS (y_int hS rfl rfl rfl) rfl rfl fun a hS => ?_)
                refine wg hS rfl rfl rfl hb52 (ky (v := .bool ((k34 : Int) != 1)) hS (y_move hS rfl) rfl rfl fun a hS => ?_)
                rcases bool2 ((k34 : Int) != 1) with hb53 | hb53
                · replace hM := ct hb53 hM
                  refine wg hS rfl rfl rfl hb53 (ky (v := .pointer (some ⟨b28, 0 + 0, none⟩)) hS (y_fld hS rfl fl26_0) rfl rfl fun a hS => ?_)
                  refine wg hS rfl rfl rfl hb53 (ky (v := .int .i64 k34) hS (y_load hS rfl ty3 0 rfl id (us := [.int .i64 k34]) rfl rfl (fun _ => rfl)) rfl rfl fun a hS => ?_)
                  refine wg hS rfl rfl rfl hb53 (ky (v := .bool ((k34 : Int) != 21)) hS (y_int hS rfl rfl rfl) rfl rfl fun a hS => ?_)
                  refine wg hS rfl rfl rfl hb52 (ky (v := .bool ((k34 : Int) != 21)) hS (y_pickt hS rfl hb53 rfl) rfl rfl fun a hS => ?_)
                  refine wg hS rfl rfl rfl hb51 (ky (v := .bool ((k34 : Int) != 21)) hS (y_pickf hS rfl hb52 rfl) rfl rfl fun a hS => ?_)
                  refine wl rfl (ky (v := .bool ((k34 : Int) != 21)) hS (y_pickt hS rfl hb51 rfl) rfl rfl fun a hS => ?_)
                  refine wl rfl (ky (v := .bool ((k34 : Int) != 21)) hS (y_assign hS rfl) rfl rfl fun a hS => ?_)
                  refine wpList_nil ?_
                  try simp only [Exit.then, Exit.inBlock, ↓reduceIte, Nat.reduceEqDiff]
                  exact ⟨((k34 : Int) != 21), (hS.meet [] (by decide) ⟨rfl, trivial⟩ trivial trivial), hM⟩
                · replace hM := cf hb53 hM
                  refine wn hS rfl rfl rfl hb53 rfl rfl fun a hS => ?_
                  refine wn hS rfl rfl rfl hb53 rfl rfl fun a hS => ?_
                  refine wn hS rfl rfl rfl hb53 rfl rfl fun a hS => ?_
                  refine wg hS rfl rfl rfl hb52 (ky (v := .bool false) hS (y_pickf hS rfl hb53 rfl) rfl rfl fun a hS => ?_)
                  refine wg hS rfl rfl rfl hb51 (ky (v := .bool false) hS (y_pickf hS rfl hb52 rfl) rfl rfl fun a hS => ?_)
                  refine wl rfl (ky (v := .bool false) hS (y_pickt hS rfl hb51 rfl) rfl rfl fun a hS => ?_)
                  refine wl rfl (ky (v := .bool false) hS (y_assign hS rfl) rfl rfl fun a hS => ?_)
                  refine wpList_nil ?_
                  try simp only [Exit.then, Exit.inBlock, ↓reduceIte, Nat.reduceEqDiff]
                  exact ⟨false, (hS.meet [] (by decide) ⟨rfl, trivial⟩ trivial trivial), hM⟩
            · replace hM := cf hb51 hM
              refine wn hS rfl rfl rfl hb51 rfl rfl fun a hS => ?_
              refine wn hS rfl rfl rfl hb51 rfl rfl fun a hS => ?_
              refine wn hS rfl rfl rfl hb51 rfl rfl fun a hS => ?_
              refine wn hS rfl rfl rfl hb51 rfl rfl fun a hS => ?_
              refine wnu hS rfl rfl rfl rfl rfl fun a hS => ?_
              refine wnu hS rfl rfl rfl rfl rfl fun a hS => ?_
              refine wnu hS rfl rfl rfl rfl rfl fun a hS => ?_
              refine wnu hS rfl rfl rfl rfl rfl fun a hS => ?_
              refine wnu hS rfl rfl rfl rfl rfl fun a hS => ?_
              refine wnu hS rfl rfl rfl rfl rfl fun a hS => ?_
              refine wnu hS rfl rfl rfl rfl rfl fun a hS => ?_
              refine wnu hS rfl rfl rfl rfl rfl fun a hS => ?_
              refine wn hS rfl rfl rfl hb51 rfl rfl fun a hS => ?_
              refine wl rfl (ky (v := .bool false) hS (y_pickf hS rfl hb51 rfl) rfl rfl fun a hS => ?_)
              refine wl rfl (ky (v := .bool false) hS (y_assign hS rfl) rfl rfl fun a hS => ?_)
              refine wpList_nil ?_
              try simp only [Exit.then, Exit.inBlock, ↓reduceIte, Nat.reduceEqDiff]
              exact ⟨false, (hS.meet [] (by decide) ⟨rfl, trivial⟩ trivial trivial), hM⟩
          · replace hM := cf hb50 hM
            refine wn hS rfl rfl rfl hb50 rfl rfl fun a hS => ?_
            refine wn hS rfl rfl rfl hb50 rfl rfl fun a hS => ?_
            refine wn hS rfl rfl rfl hb50 rfl rfl fun a hS => ?_
            refine wn hS rfl rfl rfl hb50 rfl rfl fun a hS => ?_
            refine wl rfl (ky (v := .bool false) hS (y_pickf hS rfl hb50 rfl) rfl rfl fun a hS => ?_)
            refine wl rfl (ky (v := .bool false) hS (y_move hS rfl) rfl rfl fun a hS => ?_)
            refine wn hS rfl rfl rfl rfl rfl rfl fun a hS => ?_
            refine wn hS rfl rfl rfl rfl rfl rfl fun a hS => ?_
            refine wn hS rfl rfl rfl rfl rfl rfl fun a hS => ?_
            refine wn hS rfl rfl rfl rfl rfl rfl fun a hS => ?_
            refine wnu hS rfl rfl rfl rfl rfl fun a hS => ?_
            refine wnu hS rfl rfl rfl rfl rfl fun a hS => ?_
            refine wnu hS rfl rfl rfl rfl rfl fun a hS => ?_
            refine wnu hS rfl rfl rfl rfl rfl fun a hS => ?_
            refine wnu hS rfl rfl rfl rfl rfl fun a hS => ?_
            refine wnu hS rfl rfl rfl rfl rfl fun a hS => ?_
            refine wnu hS rfl rfl rfl rfl rfl fun a hS => ?_
            refine wnu hS rfl rfl rfl rfl rfl fun a hS => ?_
            refine wn hS rfl rfl rfl rfl rfl rfl fun a hS => ?_
            refine wl rfl (ky (v := .bool false) hS (y_pickf hS rfl rfl rfl) rfl rfl fun a hS => ?_)
            refine wl rfl (ky (v := .bool false) hS (y_assign hS rfl) rfl rfl fun a hS => ?_)
            refine wpList_nil ?_
            try simp only [Exit.then, Exit.inBlock, ↓reduceIte, Nat.reduceEqDiff]
            exact ⟨false, (hS.meet [] (by decide) ⟨rfl, trivial⟩ trivial trivial), hM⟩
        · replace hM := cf hb49 hM
          refine wn hS rfl rfl rfl hb49 rfl rfl fun a hS => ?_
          refine wn hS rfl rfl rfl hb49 rfl rfl fun a hS => ?_
          refine wn hS rfl rfl rfl hb49 rfl rfl fun a hS => ?_
          refine wl rfl (ky (v := .bool false) hS (y_pickf hS rfl hb49 rfl) rfl rfl fun a hS => ?_)
          refine wl rfl (ky (v := .bool false) hS (y_move hS rfl) rfl rfl fun a hS => ?_)
          refine wn hS rfl rfl rfl rfl rfl rfl fun a hS => ?_
          refine wn hS rfl rfl rfl rfl rfl rfl fun a hS => ?_
          refine wn hS rfl rfl rfl rfl rfl rfl fun a hS => ?_
          refine wn hS rfl rfl rfl rfl rfl rfl fun a hS => ?_
          refine wl rfl (ky (v := .bool false) hS (y_pickf hS rfl rfl rfl) rfl rfl fun a hS => ?_)
          refine wl rfl (ky (v := .bool false) hS (y_move hS rfl) rfl rfl fun a hS => ?_)
          refine wn hS rfl rfl rfl rfl rfl rfl fun a hS => ?_
          refine wn hS rfl rfl rfl rfl rfl rfl fun a hS => ?_
          refine wn hS rfl rfl rfl rfl rfl rfl fun a hS => ?_
          refine wn hS rfl rfl rfl rfl rfl rfl fun a hS => ?_
          refine wnu hS rfl rfl rfl rfl rfl fun a hS => ?_
          refine wnu hS rfl rfl rfl rfl rfl fun a hS => ?_
          refine wnu hS rfl rfl rfl rfl rfl fun a hS => ?_
          refine wnu hS rfl rfl rfl rfl rfl fun a hS => ?_
          refine wnu hS rfl rfl rfl rfl rfl fun a hS => ?_
          refine wnu hS rfl rfl rfl rfl rfl fun a hS => ?_
          refine wnu hS rfl rfl rfl rfl rfl fun a hS => ?_
          refine wnu hS rfl rfl rfl rfl rfl fun a hS => ?_
          refine wn hS rfl rfl rfl rfl rfl rfl fun a hS => ?_
          refine wl rfl (ky (v := .bool false) hS (y_pickf hS rfl rfl rfl) rfl rfl fun a hS => ?_)
          refine wl rfl (ky (v := .bool false) hS (y_assign hS rfl) rfl rfl fun a hS => ?_)
          refine wpList_nil ?_
          try simp only [Exit.then, Exit.inBlock, ↓reduceIte, Nat.reduceEqDiff]
          exact ⟨false, (hS.meet [] (by decide) ⟨rfl, trivial⟩ trivial trivial), hM⟩
      · rintro a w ⟨g48, hS, hM⟩
        unfold ref23_Valid_j1 at hM
        refine wp_ret ?_
        injection hM with hM
        subst hM
        try simp only [Exit.then, Exit.inBlock, ↓reduceIte, Nat.reduceEqDiff]
        refine ret_ok hS Tryd.results55 (res_tmp hS rfl res_nil) ?_
        exact rfl

noncomputable def key_Number (k_0 : KeyD) : Option Int := (key_toy k_0.Kind).bind fun u33 => cond (!(u33)) (some ((-1))) ((atoiM k_0.Text).bind fun u36 => cond u36.2 (some ((-1))) (cond (decide ((u36.1 : Int) < 0)) (some ((-1))) (cond (decide ((99 : Int) < u36.1)) (some ((-1))) ((itoaM u36.1).bind fun u56 => cond (!(u56.toList == k_0.Text.toList)) (some ((-1))) (some (u36.1))))))
set_option maxRecDepth 100000 in
set_option maxHeartbeats 4000000 in
theorem key_Number_c (T : Nat → Prop) (W0 : World) (hT : ∀ k, T k → k < W0.heap.size) (hLv : LvP T W0) (k_0 : KeyD) (y : Int) (hM : key_Number k_0 = some y) : Rets Tryd.prog No 83 [.agg #[.int .i64 k_0.Kind, .string k_0.Text]] W0 (fun v w' => v = .int .i64 y) := by
  refine enter (c := _) Tryd.func83 rfl T 33 Tryd.ntmps83 hT rfl fun a hS => ?_
  replace hS := hS.fact LvF (LvP.dn hLv)
  unfold key_Number at hM
  refine wp_seq_k fun K13 hK13 => ?_
  refine r_list ?_
  refine wl rfl (k_box hS rfl (cs := [.int .i64 k_0.Kind, .string k_0.Text]) rfl rfl fun b30 hnb32 a w hk hS => ?_)
  refine wl rfl (ky (v := .int .i64 0) hS (y_assign hS rfl) rfl rfl fun a hS => ?_)
  refine wpList_nil ?_
  try simp only [Exit.then, Exit.inBlock, ↓reduceIte, Nat.reduceEqDiff]
  refine hK13 _ _ ?_
  refine wp_seq_k fun K14 hK14 => ?_
  refine wp_seq_k fun K15 hK15 => ?_
  refine r_list ?_
  refine wl rfl (ky (v := .pointer (some ⟨b30, 0 + 0, none⟩)) hS (y_fld hS rfl fl26_0) rfl rfl fun a hS => ?_)
  refine wl rfl (ky (v := .int .i64 k_0.Kind) hS (y_load hS rfl ty3 0 rfl id (us := [.int .i64 k_0.Kind]) rfl rfl (fun _ => rfl)) rfl rfl fun a hS => ?_)
  obtain ⟨u33, hu33, hM⟩ := bd hM
  refine wl rfl (k_call hS ci82 rfl rfl (key_toy_c _ _ hS.dlt k_0.Kind _ hu33) fun _ w hR a hk hA => ?_)
  have he := Eq.symm hR
  subst he
  have hS := hA [] (fun r hr => by cases hr) List.Pairwise.nil
  refine wl rfl (ky (v := .bool (!(u33))) hS (y_not hS rfl) rfl rfl fun a hS => ?_)
  refine wpList_nil ?_
  try simp only [Exit.then, Exit.inBlock, ↓reduceIte, Nat.reduceEqDiff]
  refine hK15 _ _ ?_
  rcases bool2 (!(u33)) with hb35 | hb35
  · replace hM := ct hb35 hM
    refine c_t hS rfl hb35 ?_
    refine wp_seq_k fun K16 hK16 => ?_
    refine r_list ?_
    refine wl rfl (ky (v := .int .i64 (-1)) hS (y_assign hS rfl) rfl rfl fun a hS => ?_)
    refine wpList_nil ?_
    try simp only [Exit.then, Exit.inBlock, ↓reduceIte, Nat.reduceEqDiff]
    refine hK16 _ _ ?_
    refine wp_ret ?_
    injection hM with hM
    subst hM
    try simp only [Exit.then, Exit.inBlock, ↓reduceIte, Nat.reduceEqDiff]
    refine ret_ok hS Tryd.results83 (res_tmp hS rfl res_nil) ?_
    exact rfl
  · replace hM := cf hb35 hM
    refine c_f hS rfl hb35 ?_
    refine wp_skip ?_
    try simp only [Exit.then, Exit.inBlock, ↓reduceIte, Nat.reduceEqDiff]
    refine hK14 _ _ ?_
    refine wp_seq_k fun K17 hK17 => ?_
    refine r_list ?_
    refine wl rfl (ky (v := .pointer (some ⟨b30, 0 + 1, none⟩)) hS (y_fld hS rfl fl26_1) rfl rfl fun a hS => ?_)
    refine wl rfl (ky (v := .string k_0.Text) hS (y_load hS rfl ty9 0 rfl id (us := [.string k_0.Text]) rfl rfl (fun _ => rfl)) rfl rfl fun a hS => ?_)
    obtain ⟨u36, hu36, hM⟩ := bd hM
    refine wl rfl (k_call hS ci90 rfl rfl (atoiM_c _ _ hS.dlt (hS.get 0 rfl) k_0.Text _ hu36) fun _ w hR a hk hA => ?_)
    obtain ⟨vz37_1, he, hEvz37_1⟩ := hR
    replace he := he.symm
    subst he
    have hS := hA [] (fun r hr => by cases hr) List.Pairwise.nil
    refine wl rfl (ky (v := .tuple #[.int .i64 u36.1, vz37_1]) hS (y_move hS rfl) rfl rfl fun a hS => ?_)
    refine wl rfl (ky (v := .int .i64 u36.1) hS (y_ex hS rfl rfl) rfl rfl fun a hS => ?_)
    refine wl rfl (ky (v := vz37_1) hS (y_ex hS rfl rfl) rfl rfl fun a hS => ?_)
    refine wl rfl (ky (v := .int .i64 u36.1) hS (y_assign hS rfl) rfl rfl fun a hS => ?_)
    refine wl rfl (ky (v := vz37_1) hS (y_assign hS rfl) rfl rfl fun a hS => ?_)
    refine wpList_nil ?_
    try simp only [Exit.then, Exit.inBlock, ↓reduceIte, Nat.reduceEqDiff]
    refine hK17 _ _ ?_
    refine wp_seq_k fun K18 hK18 => ?_
    refine wp_seq_k fun K19 hK19 => ?_
    refine draws [] hS mixed rfl (fun c a d v w h => by cases d <;> exact h) fun w hQ hS => ?_
    refine dy 0 (v := vz37_1) rfl (by kernel_rfl) (by kernel_rfl) (by kernel_rfl) rfl hQ hS (y_move hS rfl) rfl rfl rfl fun a hS => ?_
    refine dy 1 (v := .bool u36.2) rfl (by kernel_rfl) (by kernel_rfl) (by kernel_rfl) rfl hQ hS (y_errne hS rfl hEvz37_1 if129) rfl rfl rfl fun a hS => ?_
    refine dy 2 (v := .bool u36.2) rfl (by kernel_rfl) (by kernel_rfl) (by kernel_rfl) rfl hQ hS (y_move hS rfl) rfl rfl rfl fun a hS => ?_
    rcases bool2 (u36.2) with hb53 | hb53
    · replace hM := ct hb53 hM
      refine dyn 3 rfl (by kernel_rfl) (by kernel_rfl) (by kernel_rfl) hQ hS rfl rfl rfl hb53 rfl rfl fun a hS => ?_
      refine dyn 4 rfl (by kernel_rfl) (by kernel_rfl) (by kernel_rfl) hQ hS rfl rfl rfl hb53 rfl rfl fun a hS => ?_
      refine dy 5 (v := .bool true) rfl (by kernel_rfl) (by kernel_rfl) (by kernel_rfl) rfl hQ hS (y_pickt hS rfl hb53 rfl) rfl rfl rfl fun a hS => ?_
      refine dy 6 (v := .bool true) rfl (by kernel_rfl) (by kernel_rfl) (by kernel_rfl) rfl hQ hS (y_move hS rfl) rfl rfl rfl fun a hS => ?_
      refine dyn 7 rfl (by kernel_rfl) (by kernel_rfl) (by kernel_rfl) hQ hS rfl rfl rfl rfl rfl rfl fun a hS => ?_
      refine dyn 8 rfl (by kernel_rfl) (by kernel_rfl) (by kernel_rfl) hQ hS rfl rfl rfl rfl rfl rfl fun a hS => ?_
      refine dy 9 (v := .bool true) rfl (by kernel_rfl) (by kernel_rfl) (by kernel_rfl) rfl hQ hS (y_pickt hS rfl rfl rfl) rfl rfl rfl fun a hS => ?_
      refine dy 10 (v := .bool true) rfl (by kernel_rfl) (by kernel_rfl) (by kernel_rfl) rfl hQ hS (y_move hS rfl) rfl rfl rfl fun a hS => ?_
      refine dyn 11 rfl (by kernel_rfl) (by kernel_rfl) (by kernel_rfl) hQ hS rfl rfl rfl rfl rfl rfl fun a hS => ?_
      refine dyn 12 rfl (by kernel_rfl) (by kernel_rfl) (by kernel_rfl) hQ hS rfl rfl rfl rfl rfl rfl fun a hS => ?_
      refine dyn 13 rfl (by kernel_rfl) (by kernel_rfl) (by kernel_rfl) hQ hS rfl rfl rfl rfl rfl rfl fun a hS => ?_
      refine dyn 14 rfl (by kernel_rfl) (by kernel_rfl) (by kernel_rfl) hQ hS rfl rfl rfl rfl rfl rfl fun a hS => ?_
      refine dyn 15 rfl (by kernel_rfl) (by kernel_rfl) (by kernel_rfl) hQ hS rfl rfl rfl rfl rfl rfl fun a hS => ?_
      refine dy 16 (v := .bool true) rfl (by kernel_rfl) (by kernel_rfl) (by kernel_rfl) rfl hQ hS (y_pickt hS rfl rfl rfl) rfl rfl rfl fun a hS => ?_
      refine wpE_done (by kernel_rfl) ?_ _
      try simp only [Exit.then, Exit.inBlock, ↓reduceIte, Nat.reduceEqDiff]
      refine hK19 _ _ ?_
      refine c_t hS rfl rfl ?_
      refine wp_seq_k fun K20 hK20 => ?_
      refine r_list ?_
      refine wl rfl (ky (v := .int .i64 (-1)) hS (y_assign hS rfl) rfl rfl fun a hS => ?_)
      refine wpList_nil ?_
      try simp only [Exit.then, Exit.inBlock, ↓reduceIte, Nat.reduceEqDiff]
      refine hK20 _ _ ?_
      refine wp_ret ?_
      injection hM with hM
      subst hM
      try simp only [Exit.then, Exit.inBlock, ↓reduceIte, Nat.reduceEqDiff]
      refine ret_ok hS Tryd.results83 (res_tmp hS rfl res_nil) ?_
      exact rfl
    · replace hM := cf hb53 hM
      refine dyg 3 (v := .int .i64 u36.1) rfl (by kernel_rfl) (by kernel_rfl) (by kernel_rfl) rfl hQ hS (y_move hS rfl) rfl rfl rfl hb53 rfl rfl fun a hS => ?_
      refine dyg 4 (v := .bool (decide ((u36.1 : Int) < 0))) rfl (by kernel_rfl) (by kernel_rfl) (by kernel_rfl) rfl hQ hS (y_int hS rfl rfl rfl) rfl rfl rfl hb53 rfl rfl fun a hS => ?_
      refine dy 5 (v := .bool (decide ((u36.1 : Int) < 0))) rfl (by kernel_rfl) (by kernel_rfl) (by kernel_rfl) rfl hQ hS (y_pickf hS rfl hb53 rfl) rfl rfl rfl fun a hS => ?_
      refine dy 6 (v := .bool (decide ((u36.1 : Int) < 0))) rfl (by kernel_rfl) (by kernel_rfl) (by kernel_rfl) rfl hQ hS (y_move hS rfl) rfl rfl rfl fun a hS => ?_
      rcases bool2 (decide ((u36.1 : Int) < 0)) with hb54 | hb54
      · replace hM := ct hb54 hM
        refine dyn 7 rfl (by kernel_rfl) (by kernel_rfl) (by kernel_rfl) hQ hS rfl rfl rfl hb54 rfl rfl fun a hS => ?_
        refine dyn 8 rfl (by kernel_rfl) (by kernel_rfl) (by kernel_rfl) hQ hS rfl rfl rfl hb54 rfl rfl fun a hS => ?_
        refine dy 9 (v := .bool true) rfl (by kernel_rfl) (by kernel_rfl) (by kernel_rfl) rfl hQ hS (y_pickt hS rfl hb54 rfl) rfl rfl rfl fun a hS => ?_
        refine dy 10 (v := .bool true) rfl (by kernel_rfl) (by kernel_rfl) (by kernel_rfl) rfl hQ hS (y_move hS rfl) rfl rfl rfl fun a hS => ?_
        refine dyn 11 rfl (by kernel_rfl) (by kernel_rfl) (by kernel_rfl) hQ hS rfl rfl rfl rfl rfl rfl fun a hS => ?_
        refine dyn 12 rfl (by kernel_rfl) (by kernel_rfl) (by kernel_rfl) hQ hS rfl rfl rfl rfl rfl rfl fun a hS => ?_
        refine dyn 13 rfl (by kernel_rfl) (by kernel_rfl) (by kernel_rfl) hQ hS rfl rfl rfl rfl rfl rfl fun a hS => ?_
        refine dyn 14 rfl (by kernel_rfl) (by kernel_rfl) (by kernel_rfl) hQ hS rfl rfl rfl rfl rfl rfl fun a hS => ?_
        refine dyn 15 rfl (by kernel_rfl) (by kernel_rfl) (by kernel_rfl) hQ hS rfl rfl rfl rfl rfl rfl fun a hS => ?_
        refine dy 16 (v := .bool true) rfl (by kernel_rfl) (by kernel_rfl) (by kernel_rfl) rfl hQ hS (y_pickt hS rfl rfl rfl) rfl rfl rfl fun a hS => ?_
        refine wpE_done (by kernel_rfl) ?_ _
        try simp only [Exit.then, Exit.inBlock, ↓reduceIte, Nat.reduceEqDiff]
        refine hK19 _ _ ?_
        refine c_t hS rfl rfl ?_
        refine wp_seq_k fun K21 hK21 => ?_
        refine r_list ?_
        refine wl rfl (ky (v := .int .i64 (-1)) hS (y_assign hS rfl) rfl rfl fun a hS => ?_)
        refine wpList_nil ?_
        try simp only [Exit.then, Exit.inBlock, ↓reduceIte, Nat.reduceEqDiff]
        refine hK21 _ _ ?_
        refine wp_ret ?_
        injection hM with hM
        subst hM
        try simp only [Exit.then, Exit.inBlock, ↓reduceIte, Nat.reduceEqDiff]
        refine ret_ok hS Tryd.results83 (res_tmp hS rfl res_nil) ?_
        exact rfl
      · replace hM := cf hb54 hM
        refine dyg 7 (v := .int .i64 u36.1) rfl (by kernel_rfl) (by kernel_rfl) (by kernel_rfl) rfl hQ hS (y_move hS rfl) rfl rfl rfl hb54 rfl rfl fun a hS => ?_
        refine dyg 8 (v := .bool (decide ((99 : Int) < u36.1))) rfl (by kernel_rfl) (by kernel_rfl) (by kernel_rfl) rfl hQ hS (y_int hS rfl rfl rfl) rfl rfl rfl hb54 rfl rfl fun a hS => ?_
        refine dy 9 (v := .bool (decide ((99 : Int) < u36.1))) rfl (by kernel_rfl) (by kernel_rfl) (by kernel_rfl) rfl hQ hS (y_pickf hS rfl hb54 rfl) rfl rfl rfl fun a hS => ?_
        refine dy 10 (v := .bool (decide ((99 : Int) < u36.1))) rfl (by kernel_rfl) (by kernel_rfl) (by kernel_rfl) rfl hQ hS (y_move hS rfl) rfl rfl rfl fun a hS => ?_
        rcases bool2 (decide ((99 : Int) < u36.1)) with hb55 | hb55
        · replace hM := ct hb55 hM
          refine dyn 11 rfl (by kernel_rfl) (by kernel_rfl) (by kernel_rfl) hQ hS rfl rfl rfl hb55 rfl rfl fun a hS => ?_
          refine dyn 12 rfl (by kernel_rfl) (by kernel_rfl) (by kernel_rfl) hQ hS rfl rfl rfl hb55 rfl rfl fun a hS => ?_
          refine dyn 13 rfl (by kernel_rfl) (by kernel_rfl) (by kernel_rfl) hQ hS rfl rfl rfl hb55 rfl rfl fun a hS => ?_
          refine dyn 14 rfl (by kernel_rfl) (by kernel_rfl) (by kernel_rfl) hQ hS rfl rfl rfl hb55 rfl rfl fun a hS => ?_
          refine dyn 15 rfl (by kernel_rfl) (by kernel_rfl) (by kernel_rfl) hQ hS rfl rfl rfl hb55 rfl rfl fun a hS => ?_
          refine dy 16 (v := .bool true) rfl (by kernel_rfl) (by kernel_rfl) (by kernel_rfl) rfl hQ hS (y_pickt hS rfl hb55 rfl) rfl rfl rfl fun a hS => ?_
          refine wpE_done (by kernel_rfl) ?_ _
          try simp only [Exit.then, Exit.inBlock, ↓reduceIte, Nat.reduceEqDiff]
          refine hK19 _ _ ?_
          refine c_t hS rfl rfl ?_
          refine wp_seq_k fun K22 hK22 => ?_
          refine r_list ?_
          refine wl rfl (ky (v := .int .i64 (-1)) hS (y_assign hS rfl) rfl rfl fun a hS => ?_)
          refine wpList_nil ?_
          try simp only [Exit.then, Exit.inBlock, ↓reduceIte, Nat.reduceEqDiff]
          refine hK22 _ _ ?_
          refine wp_ret ?_
          injection hM with hM
          subst hM
          try simp only [Exit.then, Exit.inBlock, ↓reduceIte, Nat.reduceEqDiff]
          refine ret_ok hS Tryd.results83 (res_tmp hS rfl res_nil) ?_
          exact rfl
        · replace hM := cf hb55 hM
          refine dyg 11 (v := .int .i64 u36.1) rfl (by kernel_rfl) (by kernel_rfl) (by kernel_rfl) rfl hQ hS (y_move hS rfl) rfl rfl rfl hb55 rfl rfl fun a hS => ?_
          refine dyg 13 (v := .pointer (some ⟨b30, 0 + 1, none⟩)) rfl (by kernel_rfl) (by kernel_rfl) (by kernel_rfl) rfl hQ hS (y_fld hS rfl fl26_1) rfl rfl rfl hb55 rfl rfl fun a hS => ?_
          refine dyg (l := []) 14 (v := .string k_0.Text) rfl (by kernel_rfl) (by kernel_rfl) (by kernel_rfl) (by kernel_rfl) hQ hS (y_load hS rfl ty9 0 rfl eo_nil (us := [.string k_0.Text]) rfl rfl (fun _ => rfl)) rfl rfl rfl hb55 rfl rfl fun a hS => ?_
          obtain ⟨u56, hu56, hM⟩ := bd hM
          refine wpE_oneg (i := 12) rfl (by kernel_rfl) hS rfl rfl rfl hb55 (k_call hS ci51 rfl rfl (itoaM_c _ _ hS.dlt (hS.get 0 rfl) u36.1 _ hu56) fun _ w hR a hk hA => ⟨stN (hk), ?_⟩)
          have he := Eq.symm hR
          subst he
          have hS := hA [] (fun r hr => by cases hr) List.Pairwise.nil
          refine dyg 15 (v := .bool (!(u56.toList == k_0.Text.toList))) rfl (by kernel_rfl) (by kernel_rfl) (by kernel_rfl) rfl hQ hS (y_str hS rfl rfl rfl) rfl rfl rfl hb55 rfl rfl fun a hS => ?_
          refine dy 16 (v := .bool (!(u56.toList == k_0.Text.toList))) rfl (by kernel_rfl) (by kernel_rfl) (by kernel_rfl) rfl hQ hS (y_pickf hS rfl hb55 rfl) rfl rfl rfl fun a hS => ?_
          refine wpE_done (by kernel_rfl) ?_ _
          try simp only [Exit.then, Exit.inBlock, ↓reduceIte, Nat.reduceEqDiff]
          refine hK19 _ _ ?_
          rcases bool2 (!(u56.toList == k_0.Text.toList)) with hb58 | hb58
          · replace hM := ct hb58 hM
            refine c_t hS rfl hb58 ?_
            refine wp_seq_k fun K23 hK23 => ?_
            refine r_list ?_
            refine wl rfl (ky (v := .int .i64 (-1)) hS (y_assign hS rfl) rfl rfl fun a hS => ?_)
            refine wpList_nil ?_
            try simp only [Exit.then, Exit.inBlock, ↓reduceIte, Nat.reduceEqDiff]
            refine hK23 _ _ ?_
            refine wp_ret ?_
            injection hM with hM
            subst hM
            try simp only [Exit.then, Exit.inBlock, ↓reduceIte, Nat.reduceEqDiff]
            refine ret_ok hS Tryd.results83 (res_tmp hS rfl res_nil) ?_
            exact rfl
          · replace hM := cf hb58 hM
            refine c_f hS rfl hb58 ?_
            refine wp_skip ?_
            try simp only [Exit.then, Exit.inBlock, ↓reduceIte, Nat.reduceEqDiff]
            refine hK18 _ _ ?_
            refine wp_seq_k fun K24 hK24 => ?_
            refine r_list ?_
            refine wl rfl (ky (v := .int .i64 u36.1) hS (y_move hS rfl) rfl rfl fun a hS => ?_)
            refine wl rfl (ky (v := .int .i64 u36.1) hS (y_assign hS rfl) rfl rfl fun a hS => ?_)
            refine wpList_nil ?_
            try simp only [Exit.then, Exit.inBlock, ↓reduceIte, Nat.reduceEqDiff]
            refine hK24 _ _ ?_
            refine wp_ret ?_
            injection hM with hM
            subst hM
            try simp only [Exit.then, Exit.inBlock, ↓reduceIte, Nat.reduceEqDiff]
            refine ret_ok hS Tryd.results83 (res_tmp hS rfl res_nil) ?_
            exact rfl

noncomputable def key_Valid_j1 (g52 : Bool) : Option Bool := some (g52)
noncomputable def key_Valid_j2 (k_0 : KeyD) (alone40 : Bool) (k41 : Int) : Option Bool := (key_language k41).bind fun u53 => cond u53 (cond (decide (((k_0.Text.size : Int) : Int) ≤ 1073741824)) (cond (!(alone40)) (key_Valid_j1 true) (key_Valid_j1 (k_0.Text.toList == (ByteArray.mk #[]).toList))) (key_Valid_j1 false)) (key_Valid_j1 false)
noncomputable def key_Valid (k_0 : KeyD) : Option Bool := (key_toy k_0.Kind).bind fun u33 => cond u33 ((key_Number k_0).bind fun u36 => some (decide ((0 : Int) ≤ u36))) (cond ((k_0.Kind : Int) == 1) (key_Valid_j2 k_0 true k_0.Kind) (key_Valid_j2 k_0 ((k_0.Kind : Int) == 21) k_0.Kind))
set_option maxRecDepth 100000 in
set_option maxHeartbeats 4000000 in
theorem key_Valid_c (T : Nat → Prop) (W0 : World) (hT : ∀ k, T k → k < W0.heap.size) (hLv : LvP T W0) (k_0 : KeyD) (y : Bool) (hM : key_Valid k_0 = some y) : Rets Tryd.prog No 53 [.agg #[.int .i64 k_0.Kind, .string k_0.Text]] W0 (fun v w' => v = .bool y) := by
  refine enter (c := _) Tryd.func53 rfl T 36 Tryd.ntmps53 hT rfl fun a hS => ?_
  replace hS := hS.fact LvF (LvP.dn hLv)
  unfold key_Valid at hM
  refine wp_seq_k fun K5 hK5 => ?_
  refine r_list ?_
  refine wl rfl (k_box hS rfl (cs := [.int .i64 k_0.Kind, .string k_0.Text]) rfl rfl fun b30 hnb32 a w hk hS => ?_)
  refine wl rfl (ky (v := .bool false) hS (y_assign hS rfl) rfl rfl fun a hS => ?_)
  refine wpList_nil ?_
  try simp only [Exit.then, Exit.inBlock, ↓reduceIte, Nat.reduceEqDiff]
  refine hK5 _ _ ?_
  refine wp_seq_k fun K6 hK6 => ?_
  refine wp_seq_k fun K7 hK7 => ?_
  refine r_list ?_
  refine wl rfl (ky (v := .pointer (some ⟨b30, 0 + 0, none⟩)) hS (y_fld hS rfl fl26_0) rfl rfl fun a hS => ?_)
  refine wl rfl (ky (v := .int .i64 k_0.Kind) hS (y_load hS rfl ty3 0 rfl id (us := [.int .i64 k_0.Kind]) rfl rfl (fun _ => rfl)) rfl rfl fun a hS => ?_)
  obtain ⟨u33, hu33, hM⟩ := bd hM
  refine wl rfl (k_call hS ci82 rfl rfl (key_toy_c _ _ hS.dlt k_0.Kind _ hu33) fun _ w hR a hk hA => ?_)
  have he := Eq.symm hR
  subst he
  have hS := hA [] (fun r hr => by cases hr) List.Pairwise.nil
  refine wpList_nil ?_
  try simp only [Exit.then, Exit.inBlock, ↓reduceIte, Nat.reduceEqDiff]
  refine hK7 _ _ ?_
  rcases bool2 (u33) with hb35 | hb35
  · replace hM := ct hb35 hM
    refine c_t hS rfl hb35 ?_
    refine wp_seq_k fun K8 hK8 => ?_
    refine r_list ?_
    refine wl rfl (ky (v := .agg #[.int .i64 k_0.Kind, .string k_0.Text]) hS (y_load hS rfl ty26 0 rfl id (us := [.int .i64 k_0.Kind, .string k_0.Text]) rfl rfl (fun h => by cases h)) rfl rfl fun a hS => ?_)
    obtain ⟨u36, hu36, hM⟩ := bd hM
    refine wl rfl (k_call hS ci83 rfl rfl (key_Number_c _ _ hS.dlt (hS.get 0 rfl) k_0 _ hu36) fun _ w hR a hk hA => ?_)
    have he := Eq.symm hR
    subst he
    have hS := hA [] (fun r hr => by cases hr) List.Pairwise.nil
    refine wl rfl (ky (v := .bool (decide ((0 : Int) ≤ u36))) hS (y_int hS rfl rfl rfl) rfl rfl fun a hS => ?_)
    refine wl rfl (ky (v := .bool (decide ((0 : Int) ≤ u36))) hS (y_assign hS rfl) rfl rfl fun a hS => ?_)
    refine wpList_nil ?_
    try simp only [Exit.then, Exit.inBlock, ↓reduceIte, Nat.reduceEqDiff]
    refine hK8 _ _ ?_
    refine wp_ret ?_
    injection hM with hM
    subst hM
    try simp only [Exit.then, Exit.inBlock, ↓reduceIte, Nat.reduceEqDiff]
    refine ret_ok hS Tryd.results53 (res_tmp hS rfl res_nil) ?_
    exact rfl
  · replace hM := cf hb35 hM
    refine c_f hS rfl hb35 ?_
    refine wp_skip ?_
    try simp only [Exit.then, Exit.inBlock, ↓reduceIte, Nat.reduceEqDiff]
    refine hK6 _ _ ?_
    refine seq_j (J := fun a w => ∃ (alone40 : Bool) (k41 : Int), St W0 No T 36 [(1, .pointer (some ⟨b30, 0, none⟩)), (3, .bool alone40)] [.box b30 [.int .i64 k41, .string k_0.Text] 26] [LvF] a w ∧ key_Valid_j2 k_0 alone40 k41 = some y) ?_ ?_
    · skip
      refine r_list ?_
      refine wl rfl (ky (v := .pointer (some ⟨b30, 0 + 0, none⟩)) hS (y_fld hS rfl fl26_0) rfl rfl fun a hS => ?_)
      refine wl rfl (ky (v := .int .i64 k_0.Kind) hS (y_load hS rfl ty3 0 rfl id (us := [.int .i64 k_0.Kind]) rfl rfl (fun _ => rfl)) rfl rfl fun a hS => ?_)
      refine wl rfl (ky (v := .bool ((k_0.Kind : Int) == 1)) hS (y_int hS rfl rfl rfl) rfl rfl fun a hS => ?_)
      refine wl rfl (ky (v := .bool ((k_0.Kind : Int) == 1)) hS (y_move hS rfl) rfl rfl fun a hS => ?_)
      rcases bool2 ((k_0.Kind : Int) == 1) with hb58 | hb58
      · replace hM := ct hb58 hM
        refine wn hS rfl rfl rfl hb58 rfl rfl fun a hS => ?_
        refine wn hS rfl rfl rfl hb58 rfl rfl fun a hS => ?_
        refine wn hS rfl rfl rfl hb58 rfl rfl fun a hS => ?_
        refine wl rfl (ky (v := .bool true) hS (y_pickt hS rfl hb58 rfl) rfl rfl fun a hS => ?_)
        refine wl rfl (ky (v := .bool true) hS (y_assign hS rfl) rfl rfl fun a hS => ?_)
        refine wpList_nil ?_
        try simp only [Exit.then, Exit.inBlock, ↓reduceIte, Nat.reduceEqDiff]
        exact ⟨true, k_0.Kind, (hS.meet [0] (by decide) ⟨rfl, rfl, trivial⟩ ⟨rfl, trivial⟩ ⟨⟨0, rfl⟩, trivial⟩), hM⟩
      · replace hM := cf hb58 hM
        refine wg hS rfl rfl rfl hb58 (ky (v := .pointer (some ⟨b30, 0 + 0, none⟩)) hS (y_fld hS rfl fl26_0) rfl rfl fun a hS => ?_)
        refine wg hS rfl rfl rfl hb58 (ky (v := .int .i64 k_0.Kind) hS (y_load hS rfl ty3 0 rfl id (us := [.int .i64 k_0.Kind]) rfl rfl (fun _ => rfl)) rfl rfl fun a hS => ?_)
        refine wg hS rfl rfl rfl hb58 (ky (v := .bool ((k_0.Kind : Int) == 21)) hS (y_int hS rfl rfl rfl) rfl rfl fun a hS => ?_)
        refine wl rfl (ky (v := .bool ((k_0.Kind : Int) == 21)) hS (y_pickf hS rfl hb58 rfl) rfl rfl fun a hS => ?_)
        refine wl rfl (ky (v := .bool ((k_0.Kind : Int) == 21)) hS (y_assign hS rfl) rfl rfl fun a hS => ?_)
        refine wpList_nil ?_
        try simp only [Exit.then, Exit.inBlock, ↓reduceIte, Nat.reduceEqDiff]
        exact ⟨((k_0.Kind : Int) == 21), k_0.Kind, (hS.meet [0] (by decide) ⟨rfl, rfl, trivial⟩ ⟨rfl, trivial⟩ ⟨⟨0, rfl⟩, trivial⟩), hM⟩
    · rintro a w ⟨alone40, k41, hS, hM⟩
      unfold key_Valid_j2 at hM
      refine seq_j (J := fun a w => ∃ (g52 : Bool), St W0 No T 36 [(2, .bool g52)] [] [LvF] a w ∧ key_Valid_j1 g52 = some y) ?_ ?_
      · skip
        refine r_list ?_
        refine wl rfl (ky (v := .pointer (some ⟨b30, 0 + 0, none⟩)) hS (y_fld hS rfl fl26_0) rfl rfl fun a hS => ?_)
        refine wl rfl (ky (v := .int .i64 k41) hS (y_load hS rfl ty3 0 rfl id (us := [.int .i64 k41]) rfl rfl (fun _ => rfl)) rfl rfl fun a hS => ?_)
        obtain ⟨u53, hu53, hM⟩ := bd hM
        refine wl rfl (k_call hS ci84 rfl rfl (key_language_c _ _ hS.dlt k41 _ hu53) fun _ w hR a hk hA => ?_)
        have he := Eq.symm hR
        subst he
        have hS := hA [] (fun r hr => by cases hr) List.Pairwise.nil
        refine wl rfl (ky (v := .bool u53) hS (y_move hS rfl) rfl rfl fun a hS => ?_)
        rcases bool2 (u53) with hb55 | hb55
        · replace hM := ct hb55 hM
          refine wg hS rfl rfl rfl hb55 (ky (v := .pointer (some ⟨b30, 0 + 1, none⟩)) hS (y_fld hS rfl fl26_1) rfl rfl fun a hS => ?_)
          refine wg hS rfl rfl rfl hb55 (ky (v := .string k_0.Text) hS (y_load hS rfl ty9 0 rfl id (us := [.string k_0.Text]) rfl rfl (fun _ => rfl)) rfl rfl fun a hS => ?_)
          refine wg hS rfl rfl rfl hb55 (ky (v := .int .i64 (k_0.Text.size : Int)) hS (y_lens hS Tryd.underlying9 rfl) rfl rfl fun a hS => ?_)
          refine wg hS rfl rfl rfl hb55 (ky (v := .bool (decide (((k_0.Text.size : Int) : Int) ≤ 1073741824))) hS (y_int hS rfl rfl rfl) rfl rfl fun a hS => ?_)
          refine wl rfl (ky (v := .bool (decide (((k_0.Text.size : Int) : Int) ≤ 1073741824))) hS (y_pickt hS rfl hb55 rfl) rfl rfl fun a hS => ?_)
          refine wl rfl (ky (v := .bool (decide (((k_0.Text.size : Int) : Int) ≤ 1073741824))) hS (y_move hS rfl) rfl rfl fun a hS => ?_)
          rcases bool2 (decide (((k_0.Text.size : Int) : Int) ≤ 1073741824)) with hb56 | hb56
          · replace hM := ct hb56 hM
            refine wg hS rfl rfl rfl hb56 (ky (v := .bool alone40) hS (y_move hS rfl) rfl rfl fun a hS => ?_)
            refine wg hS rfl rfl rfl hb56 (ky (v := .bool (!(alone40))) hS (y_not hS rfl) rfl rfl fun a hS => ?_)
            refine wg hS rfl rfl rfl hb56 (ky (v := .bool (!(alone40))) hS (y_move hS rfl) rfl rfl fun a hS => ?_)
            rcases bool2 (!(alone40)) with hb57 | hb57
            · replace hM := ct hb57 hM
              refine wn hS rfl rfl rfl hb57 rfl rfl fun a hS => ?_
              refine wn hS rfl rfl rfl hb57 rfl rfl fun a hS => ?_
              refine wn hS rfl rfl rfl hb57 rfl rfl fun a hS => ?_
              refine wg hS rfl rfl rfl hb56 (ky (v := .bool true) hS (y_pickt hS rfl hb57 rfl) rfl rfl fun a hS => ?_)
              refine wl rfl (ky (v := .bool true) hS (y_pickt hS rfl hb56 rfl) rfl rfl fun a hS => ?_)
              refine wl rfl (ky (v := .bool true) hS (y_assign hS rfl) rfl rfl fun a hS => ?_)
              refine wpList_nil ?_
              try simp only [Exit.then, Exit.inBlock, ↓reduceIte, Nat.reduceEqDiff]
              exact ⟨true, (hS.meet [] (by decide) ⟨rfl, trivial⟩ trivial ⟨⟨0, rfl⟩, trivial⟩), hM⟩
            · replace hM := cf hb57 hM
              refine wg hS rfl rfl rfl hb57 (ky (v := .pointer (some ⟨b30, 0 + 1, none⟩)) hS (y_fld hS rfl fl26_1) rfl rfl fun a hS => ?_)
              refine wg hS rfl rfl rfl hb57 (ky (v := .string k_0.Text) hS (y_load hS rfl ty9 0 rfl id (us := [.string k_0.Text]) rfl rfl (fun _ => rfl)) rfl rfl fun a hS => ?_)
              refine wg hS rfl rfl rfl hb57 (ky (v := .bool (k_0.Text.toList == (ByteArray.mk #[]).toList)) hS (y_str hS rfl rfl rfl) rfl rfl fun a hS => ?_)
              refine wg hS rfl rfl rfl hb56 (ky (v := .bool (k_0.Text.toList == (ByteArray.mk #[]).toList)) hS (y_pickf hS rfl hb57 rfl) rfl rfl fun a hS => ?_)
              refine wl rfl (ky (v := .bool (k_0.Text.toList == (ByteArray.mk #[]).toList)) hS (y_pickt hS rfl hb56 rfl) rfl rfl fun a hS => ?_)
              refine wl rfl (ky (v := .bool (k_0.Text.toList == (ByteArray.mk #[]).toList)) hS (y_assign hS rfl) rfl rfl fun a hS => ?_)
              refine wpList_nil ?_
              try simp only [Exit.then, Exit.inBlock, ↓reduceIte, Nat.reduceEqDiff]
              exact ⟨(k_0.Text.toList == (ByteArray.mk #[]).toList), (hS.meet [] (by decide) ⟨rfl, trivial⟩ trivial ⟨⟨0, rfl⟩, trivial⟩), hM⟩
          · replace hM := cf hb56 hM
            refine wn hS rfl rfl rfl hb56 rfl rfl fun a hS => ?_
            refine wn hS rfl rfl rfl hb56 rfl rfl fun a hS => ?_
            refine wn hS rfl rfl rfl hb56 rfl rfl fun a hS => ?_
            refine wnu hS rfl rfl rfl rfl rfl fun a hS => ?_
            refine wnu hS rfl rfl rfl rfl rfl fun a hS => ?_
            refine wnu hS rfl rfl rfl rfl rfl fun a hS => ?_
            refine wn hS rfl rfl rfl hb56 rfl rfl fun a hS => ?_
            refine wl rfl (ky (v := .bool false) hS (y_pickf hS rfl hb56 rfl) rfl rfl fun a hS => ?_)
            refine wl rfl (ky (v := .bool false) hS (y_assign hS rfl) rfl rfl fun a hS => ?_)
            refine wpList_nil ?_
            try simp only [Exit.then, Exit.inBlock, ↓reduceIte, Nat.reduceEqDiff]
            exact ⟨false, (hS.meet [] (by decide) ⟨rfl, trivial⟩ trivial ⟨⟨0, rfl⟩, trivial⟩), hM⟩
        · replace hM := cf hb55 hM
          refine wn hS rfl rfl rfl hb55 rfl rfl fun a hS => ?_
          refine wn hS rfl rfl rfl hb55 rfl rfl fun a hS => ?_
          refine wn hS rfl rfl rfl hb55 rfl rfl fun a hS => ?_
          refine wn hS rfl rfl rfl hb55 rfl rfl fun a hS => ?_
          refine wl rfl (ky (v := .bool false) hS (y_pickf hS rfl hb55 rfl) rfl rfl fun a hS => ?_)
          refine wl rfl (ky (v := .bool false) hS (y_move hS rfl) rfl rfl fun a hS => ?_)
          refine wn hS rfl rfl rfl rfl rfl rfl fun a hS => ?_
          refine wn hS rfl rfl rfl rfl rfl rfl fun a hS => ?_
          refine wn hS rfl rfl rfl rfl rfl rfl fun a hS => ?_
          refine wnu hS rfl rfl rfl rfl rfl fun a hS => ?_
          refine wnu hS rfl rfl rfl rfl rfl fun a hS => ?_
          refine wnu hS rfl rfl rfl rfl rfl fun a hS => ?_
          refine wn hS rfl rfl rfl rfl rfl rfl fun a hS => ?_
          refine wl rfl (ky (v := .bool false) hS (y_pickf hS rfl rfl rfl) rfl rfl fun a hS => ?_)
          refine wl rfl (ky (v := .bool false) hS (y_assign hS rfl) rfl rfl fun a hS => ?_)
          refine wpList_nil ?_
          try simp only [Exit.then, Exit.inBlock, ↓reduceIte, Nat.reduceEqDiff]
          exact ⟨false, (hS.meet [] (by decide) ⟨rfl, trivial⟩ trivial ⟨⟨0, rfl⟩, trivial⟩), hM⟩
      · rintro a w ⟨g52, hS, hM⟩
        unfold key_Valid_j1 at hM
        refine wp_ret ?_
        injection hM with hM
        subst hM
        try simp only [Exit.then, Exit.inBlock, ↓reduceIte, Nat.reduceEqDiff]
        refine ret_ok hS Tryd.results53 (res_tmp hS rfl res_nil) ?_
        exact rfl

noncomputable def key_Input_j1 (g18 : Bool) : Option Bool := some (g18)
noncomputable def key_Input (k_0 : KeyD) : Option Bool := cond ((k_0.Kind : Int) == 1) (key_Input_j1 true) (cond ((k_0.Kind : Int) == 2) (key_Input_j1 true) (key_Input_j1 ((k_0.Kind : Int) == 30)))
set_option maxRecDepth 100000 in
set_option maxHeartbeats 4000000 in
theorem key_Input_c (T : Nat → Prop) (W0 : World) (hT : ∀ k, T k → k < W0.heap.size) (k_0 : KeyD) (y : Bool) (hM : key_Input k_0 = some y) : Rets Tryd.prog No 100 [.agg #[.int .i64 k_0.Kind, .string k_0.Text]] W0 (fun v w' => v = .bool y) := by
  refine enter (c := _) Tryd.func100 rfl T 16 Tryd.ntmps100 hT rfl fun a hS => ?_
  unfold key_Input at hM
  refine wp_seq_k fun K2 hK2 => ?_
  refine r_list ?_
  refine wl rfl (k_box hS rfl (cs := [.int .i64 k_0.Kind, .string k_0.Text]) rfl rfl fun b11 hnb13 a w hk hS => ?_)
  refine wl rfl (ky (v := .bool false) hS (y_assign hS rfl) rfl rfl fun a hS => ?_)
  refine wpList_nil ?_
  try simp only [Exit.then, Exit.inBlock, ↓reduceIte, Nat.reduceEqDiff]
  refine hK2 _ _ ?_
  refine seq_j (J := fun a w => ∃ (g18 : Bool), St W0 No T 16 [(2, .bool g18)] [] [] a w ∧ key_Input_j1 g18 = some y) ?_ ?_
  · skip
    refine r_list ?_
    refine wl rfl (ky (v := .pointer (some ⟨b11, 0 + 0, none⟩)) hS (y_fld hS rfl fl26_0) rfl rfl fun a hS => ?_)
    refine wl rfl (ky (v := .int .i64 k_0.Kind) hS (y_load hS rfl ty3 0 rfl id (us := [.int .i64 k_0.Kind]) rfl rfl (fun _ => rfl)) rfl rfl fun a hS => ?_)
    refine wl rfl (ky (v := .bool ((k_0.Kind : Int) == 1)) hS (y_int hS rfl rfl rfl) rfl rfl fun a hS => ?_)
    refine wl rfl (ky (v := .bool ((k_0.Kind : Int) == 1)) hS (y_move hS rfl) rfl rfl fun a hS => ?_)
    rcases bool2 ((k_0.Kind : Int) == 1) with hb19 | hb19
    · replace hM := ct hb19 hM
      refine wn hS rfl rfl rfl hb19 rfl rfl fun a hS => ?_
      refine wn hS rfl rfl rfl hb19 rfl rfl fun a hS => ?_
      refine wn hS rfl rfl rfl hb19 rfl rfl fun a hS => ?_
      refine wl rfl (ky (v := .bool true) hS (y_pickt hS rfl hb19 rfl) rfl rfl fun a hS => ?_)
      refine wl rfl (ky (v := .bool true) hS (y_move hS rfl) rfl rfl fun a hS => ?_)
      refine wn hS rfl rfl rfl rfl rfl rfl fun a hS => ?_
      refine wn hS rfl rfl rfl rfl rfl rfl fun a hS => ?_
      refine wn hS rfl rfl rfl rfl rfl rfl fun a hS => ?_
      refine wl rfl (ky (v := .bool true) hS (y_pickt hS rfl rfl rfl) rfl rfl fun a hS => ?_)
      refine wl rfl (ky (v := .bool true) hS (y_assign hS rfl) rfl rfl fun a hS => ?_)
      refine wpList_nil ?_
      try simp only [Exit.then, Exit.inBlock, ↓reduceIte, Nat.reduceEqDiff]
      exact ⟨true, (hS.meet [] (by decide) ⟨rfl, trivial⟩ trivial trivial), hM⟩
    · replace hM := cf hb19 hM
      refine wg hS rfl rfl rfl hb19 (ky (v := .pointer (some ⟨b11, 0 + 0, none⟩)) hS (y_fld hS rfl fl26_0) rfl rfl fun a hS => ?_)
      refine wg hS rfl rfl rfl hb19 (ky (v := .int .i64 k_0.Kind) hS (y_load hS rfl ty3 0 rfl id (us := [.int .i64 k_0.Kind]) rfl rfl (fun _ => rfl)) rfl rfl fun a hS => ?_)
      refine wg hS rfl rfl rfl hb19 (ky (v := .bool ((k_0.Kind : Int) == 2)) hS (y_int hS rfl rfl rfl) rfl rfl fun a hS => ?_)
      refine wl rfl (ky (v := .bool ((k_0.Kind : Int) == 2)) hS (y_pickf hS rfl hb19 rfl) rfl rfl fun a hS => ?_)
      refine wl rfl (ky (v := .bool ((k_0.Kind : Int) == 2)) hS (y_move hS rfl) rfl rfl fun a hS => ?_)
      rcases bool2 ((k_0.Kind : Int) == 2) with hb20 | hb20
      · replace hM := ct hb20 hM
        refine wn hS rfl rfl rfl hb20 rfl rfl fun a hS => ?_
        refine wn hS rfl rfl rfl hb20 rfl rfl fun a hS => ?_
        refine wn hS rfl rfl rfl hb20 rfl rfl fun a hS => ?_
        refine wl rfl (ky (v := .bool true) hS (y_pickt hS rfl hb20 rfl) rfl rfl fun a hS => ?_)
        refine wl rfl (ky (v := .bool true) hS (y_assign hS rfl) rfl rfl fun a hS => ?_)
        refine wpList_nil ?_
        try simp only [Exit.then, Exit.inBlock, ↓reduceIte, Nat.reduceEqDiff]
        exact ⟨true, (hS.meet [] (by decide) ⟨rfl, trivial⟩ trivial trivial), hM⟩
      · replace hM := cf hb20 hM
        refine wg hS rfl rfl rfl hb20 (ky (v := .pointer (some ⟨b11, 0 + 0, none⟩)) hS (y_fld hS rfl fl26_0) rfl rfl fun a hS => ?_)
        refine wg hS rfl rfl rfl hb20 (ky (v := .int .i64 k_0.Kind) hS (y_load hS rfl ty3 0 rfl id (us := [.int .i64 k_0.Kind]) rfl rfl (fun _ => rfl)) rfl rfl fun a hS => ?_)
        refine wg hS rfl rfl rfl hb20 (ky (v := .bool ((k_0.Kind : Int) == 30)) hS (y_int hS rfl rfl rfl) rfl rfl fun a hS => ?_)
        refine wl rfl (ky (v := .bool ((k_0.Kind : Int) == 30)) hS (y_pickf hS rfl hb20 rfl) rfl rfl fun a hS => ?_)
        refine wl rfl (ky (v := .bool ((k_0.Kind : Int) == 30)) hS (y_assign hS rfl) rfl rfl fun a hS => ?_)
        refine wpList_nil ?_
        try simp only [Exit.then, Exit.inBlock, ↓reduceIte, Nat.reduceEqDiff]
        exact ⟨((k_0.Kind : Int) == 30), (hS.meet [] (by decide) ⟨rfl, trivial⟩ trivial trivial), hM⟩
  · rintro a w ⟨g18, hS, hM⟩
    unfold key_Input_j1 at hM
    refine wp_ret ?_
    injection hM with hM
    subst hM
    try simp only [Exit.then, Exit.inBlock, ↓reduceIte, Nat.reduceEqDiff]
    refine ret_ok hS Tryd.results100 (res_tmp hS rfl res_nil) ?_
    exact rfl

noncomputable def queries_Cyclic_j1 : Option Bool := some (false)
noncomputable def queries_Cyclic_j2 (g28 : Bool) : Option Bool := cond g28 (some (true)) (queries_Cyclic_j1)
noncomputable def queries_Cyclic (kind_ : Int) : Option Bool := cond ((kind_ : Int) == 7) (queries_Cyclic_j2 ((kind_ : Int) == 7)) (cond ((kind_ : Int) == 14) (queries_Cyclic_j2 ((kind_ : Int) == 14)) (cond ((kind_ : Int) == 17) (queries_Cyclic_j2 ((kind_ : Int) == 17)) (queries_Cyclic_j2 ((kind_ : Int) == 18))))
set_option maxRecDepth 100000 in
set_option maxHeartbeats 4000000 in
theorem queries_Cyclic_c (T : Nat → Prop) (W0 : World) (hT : ∀ k, T k → k < W0.heap.size) (kind_ : Int) (y : Bool) (hM : queries_Cyclic kind_ = some y) : Rets Tryd.prog No 107 [.int .i64 kind_] W0 (fun v w' => v = .bool y) := by
  refine enter (c := _) Tryd.func107 rfl T 9 Tryd.ntmps107 hT rfl fun a hS => ?_
  unfold queries_Cyclic at hM
  refine wp_seq_k fun K19 hK19 => ?_
  refine r_list ?_
  refine wl rfl (ky (v := .bool false) hS (y_assign hS rfl) rfl rfl fun a hS => ?_)
  refine wpList_nil ?_
  try simp only [Exit.then, Exit.inBlock, ↓reduceIte, Nat.reduceEqDiff]
  refine hK19 _ _ ?_
  refine seq_j (J := fun a w => St W0 No T 9 [] [] [] a w ∧ queries_Cyclic_j1 = some y) ?_ ?_
  · skip
    refine wp_seq_k fun K29 hK29 => ?_
    refine r_list ?_
    refine wl rfl (ky (v := .int .i64 kind_) hS (y_move hS rfl) rfl rfl fun a hS => ?_)
    refine wpList_nil ?_
    try simp only [Exit.then, Exit.inBlock, ↓reduceIte, Nat.reduceEqDiff]
    refine hK29 _ _ ?_
    refine wp_block ?_
    refine seq_j (J := fun a w => ∃ (g28 : Bool), St W0 No T 9 [(4, .bool g28)] [] [] a w ∧ queries_Cyclic_j2 g28 = some y) ?_ ?_
    · skip
      refine wp_seq_k fun K34 hK34 => ?_
      refine r_list ?_
      refine wl rfl (ky (v := .bool ((kind_ : Int) == 7)) hS (y_int hS rfl rfl rfl) rfl rfl fun a hS => ?_)
      refine wl rfl (ky (v := .bool ((kind_ : Int) == 7)) hS (y_assign hS rfl) rfl rfl fun a hS => ?_)
      refine wpList_nil ?_
      try simp only [Exit.then, Exit.inBlock, ↓reduceIte, Nat.reduceEqDiff]
      refine hK34 _ _ ?_
      rcases bool2 ((kind_ : Int) == 7) with hb30 | hb30
      · replace hM := ct hb30 hM
        refine c_t hS rfl hb30 ?_
        refine wp_skip ?_
        try simp only [Exit.then, Exit.inBlock, ↓reduceIte, Nat.reduceEqDiff]
        exact ⟨((kind_ : Int) == 7), (hS.meet [] (by decide) ⟨rfl, trivial⟩ trivial trivial), hM⟩
      · replace hM := cf hb30 hM
        refine c_f hS rfl hb30 ?_
        refine wp_seq_k fun K35 hK35 => ?_
        refine r_list ?_
        refine wl rfl (ky (v := .bool ((kind_ : Int) == 14)) hS (y_int hS rfl rfl rfl) rfl rfl fun a hS => ?_)
        refine wl rfl (ky (v := .bool ((kind_ : Int) == 14)) hS (y_assign hS rfl) rfl rfl fun a hS => ?_)
        refine wpList_nil ?_
        try simp only [Exit.then, Exit.inBlock, ↓reduceIte, Nat.reduceEqDiff]
        refine hK35 _ _ ?_
        rcases bool2 ((kind_ : Int) == 14) with hb31 | hb31
        · replace hM := ct hb31 hM
          refine c_t hS rfl hb31 ?_
          refine wp_skip ?_
          try simp only [Exit.then, Exit.inBlock, ↓reduceIte, Nat.reduceEqDiff]
          exact ⟨((kind_ : Int) == 14), (hS.meet [] (by decide) ⟨rfl, trivial⟩ trivial trivial), hM⟩
        · replace hM := cf hb31 hM
          refine c_f hS rfl hb31 ?_
          refine wp_seq_k fun K36 hK36 => ?_
          refine r_list ?_
          refine wl rfl (ky (v := .bool ((kind_ : Int) == 17)) hS (y_int hS rfl rfl rfl) rfl rfl fun a hS => ?_)
          refine wl rfl (ky (v := .bool ((kind_ : Int) == 17)) hS (y_assign hS rfl) rfl rfl fun a hS => ?_)
          refine wpList_nil ?_
          try simp only [Exit.then, Exit.inBlock, ↓reduceIte, Nat.reduceEqDiff]
          refine hK36 _ _ ?_
          rcases bool2 ((kind_ : Int) == 17) with hb32 | hb32
          · replace hM := ct hb32 hM
            refine c_t hS rfl hb32 ?_
            refine wp_skip ?_
            try simp only [Exit.then, Exit.inBlock, ↓reduceIte, Nat.reduceEqDiff]
            exact ⟨((kind_ : Int) == 17), (hS.meet [] (by decide) ⟨rfl, trivial⟩ trivial trivial), hM⟩
          · replace hM := cf hb32 hM
            refine c_f hS rfl hb32 ?_
            refine r_list ?_
            refine wl rfl (ky (v := .bool ((kind_ : Int) == 18)) hS (y_int hS rfl rfl rfl) rfl rfl fun a hS => ?_)
            refine wl rfl (ky (v := .bool ((kind_ : Int) == 18)) hS (y_assign hS rfl) rfl rfl fun a hS => ?_)
            refine wpList_nil ?_
            try simp only [Exit.then, Exit.inBlock, ↓reduceIte, Nat.reduceEqDiff]
            exact ⟨((kind_ : Int) == 18), (hS.meet [] (by decide) ⟨rfl, trivial⟩ trivial trivial), hM⟩
    · rintro a w ⟨g28, hS, hM⟩
      unfold queries_Cyclic_j2 at hM
      rcases bool2 (g28) with hb29 | hb29
      · replace hM := ct hb29 hM
        refine c_t hS rfl hb29 ?_
        refine wp_seq_k fun K33 hK33 => ?_
        refine r_list ?_
        refine wl rfl (ky (v := .bool true) hS (y_assign hS rfl) rfl rfl fun a hS => ?_)
        refine wpList_nil ?_
        try simp only [Exit.then, Exit.inBlock, ↓reduceIte, Nat.reduceEqDiff]
        refine hK33 _ _ ?_
        refine wp_ret ?_
        injection hM with hM
        subst hM
        try simp only [Exit.then, Exit.inBlock, ↓reduceIte, Nat.reduceEqDiff]
        refine ret_ok hS Tryd.results107 (res_tmp hS rfl res_nil) ?_
        exact rfl
      · replace hM := cf hb29 hM
        refine c_f hS rfl hb29 ?_
        refine wp_skip ?_
        try simp only [Exit.then, Exit.inBlock, ↓reduceIte, Nat.reduceEqDiff]
        exact ⟨(hS.meet [] (by decide) trivial trivial trivial), hM⟩
  · rintro a w ⟨hS, hM⟩
    unfold queries_Cyclic_j1 at hM
    refine wp_seq_k fun K28 hK28 => ?_
    refine r_list ?_
    refine wl rfl (ky (v := .bool false) hS (y_assign hS rfl) rfl rfl fun a hS => ?_)
    refine wpList_nil ?_
    try simp only [Exit.then, Exit.inBlock, ↓reduceIte, Nat.reduceEqDiff]
    refine hK28 _ _ ?_
    refine wp_ret ?_
    injection hM with hM
    subst hM
    try simp only [Exit.then, Exit.inBlock, ↓reduceIte, Nat.reduceEqDiff]
    refine ret_ok hS Tryd.results107 (res_tmp hS rfl res_nil) ?_
    exact rfl

noncomputable def ref22_Cyclic_j1 (g17 : Bool) : Option Bool := some (g17)
noncomputable def ref22_Cyclic (kind_ : Int) : Option Bool := cond ((kind_ : Int) == 7) (ref22_Cyclic_j1 true) (cond ((kind_ : Int) == 14) (ref22_Cyclic_j1 true) (cond ((kind_ : Int) == 17) (ref22_Cyclic_j1 true) (ref22_Cyclic_j1 ((kind_ : Int) == 18))))
set_option maxRecDepth 100000 in
set_option maxHeartbeats 4000000 in
theorem ref22_Cyclic_c (T : Nat → Prop) (W0 : World) (hT : ∀ k, T k → k < W0.heap.size) (kind_ : Int) (y : Bool) (hM : ref22_Cyclic kind_ = some y) : Rets Tryd.prog No 110 [.int .i64 kind_] W0 (fun v w' => v = .bool y) := by
  refine enter (c := _) Tryd.func110 rfl T 17 Tryd.ntmps110 hT rfl fun a hS => ?_
  unfold ref22_Cyclic at hM
  refine wp_seq_k fun K2 hK2 => ?_
  refine r_list ?_
  refine wl rfl (ky (v := .bool false) hS (y_assign hS rfl) rfl rfl fun a hS => ?_)
  refine wpList_nil ?_
  try simp only [Exit.then, Exit.inBlock, ↓reduceIte, Nat.reduceEqDiff]
  refine hK2 _ _ ?_
  refine seq_j (J := fun a w => ∃ (g17 : Bool), St W0 No T 17 [(2, .bool g17)] [] [] a w ∧ ref22_Cyclic_j1 g17 = some y) ?_ ?_
  · skip
    refine r_list ?_
    refine wl rfl (ky (v := .int .i64 kind_) hS (y_move hS rfl) rfl rfl fun a hS => ?_)
    refine wl rfl (ky (v := .bool ((kind_ : Int) == 7)) hS (y_int hS rfl rfl rfl) rfl rfl fun a hS => ?_)
    refine wl rfl (ky (v := .bool ((kind_ : Int) == 7)) hS (y_move hS rfl) rfl rfl fun a hS => ?_)
    rcases bool2 ((kind_ : Int) == 7) with hb18 | hb18
    · replace hM := ct hb18 hM
      refine wn hS rfl rfl rfl hb18 rfl rfl fun a hS => ?_
      refine wn hS rfl rfl rfl hb18 rfl rfl fun a hS => ?_
      refine wl rfl (ky (v := .bool true) hS (y_pickt hS rfl hb18 rfl) rfl rfl fun a hS => ?_)
      refine wl rfl (ky (v := .bool true) hS (y_move hS rfl) rfl rfl fun a hS => ?_)
      refine wn hS rfl rfl rfl rfl rfl rfl fun a hS => ?_
      refine wn hS rfl rfl rfl rfl rfl rfl fun a hS => ?_
      refine wl rfl (ky (v := .bool true) hS (y_pickt hS rfl rfl rfl) rfl rfl fun a hS => ?_)
      refine wl rfl (ky (v := .bool true) hS (y_move hS rfl) rfl rfl fun a hS => ?_)
      refine wn hS rfl rfl rfl rfl rfl rfl fun a hS => ?_
      refine wn hS rfl rfl rfl rfl rfl rfl fun a hS => ?_
      refine wl rfl (ky (v := .bool true) hS (y_pickt hS rfl rfl rfl) rfl rfl fun a hS => ?_)
      refine wl rfl (ky (v := .bool true) hS (y_assign hS rfl) rfl rfl fun a hS => ?_)
      refine wpList_nil ?_
      try simp only [Exit.then, Exit.inBlock, ↓reduceIte, Nat.reduceEqDiff]
      exact ⟨true, (hS.meet [] (by decide) ⟨rfl, trivial⟩ trivial trivial), hM⟩
    · replace hM := cf hb18 hM
      refine wg hS rfl rfl rfl hb18 (ky (v := .int .i64 kind_) hS (y_move hS rfl) rfl rfl fun a hS => ?_)
      refine wg hS rfl rfl rfl hb18 (ky (v := .bool ((kind_ : Int) == 14)) hS (y_int hS rfl rfl rfl) rfl rfl fun a hS => ?_)
      refine wl rfl (ky (v := .bool ((kind_ : Int) == 14)) hS (y_pickf hS rfl hb18 rfl) rfl rfl fun a hS => ?_)
      refine wl rfl (ky (v := .bool ((kind_ : Int) == 14)) hS (y_move hS rfl) rfl rfl fun a hS => ?_)
      rcases bool2 ((kind_ : Int) == 14) with hb19 | hb19
      · replace hM := ct hb19 hM
        refine wn hS rfl rfl rfl hb19 rfl rfl fun a hS => ?_
        refine wn hS rfl rfl rfl hb19 rfl rfl fun a hS => ?_
        refine wl rfl (ky (v := .bool true) hS (y_pickt hS rfl hb19 rfl) rfl rfl fun a hS => ?_)
        refine wl rfl (ky (v := .bool true) hS (y_move hS rfl) rfl rfl fun a hS => ?_)
        refine wn hS rfl rfl rfl rfl rfl rfl fun a hS => ?_
        refine wn hS rfl rfl rfl rfl rfl rfl fun a hS => ?_
        refine wl rfl (ky (v := .bool true) hS (y_pickt hS rfl rfl rfl) rfl rfl fun a hS => ?_)
        refine wl rfl (ky (v := .bool true) hS (y_assign hS rfl) rfl rfl fun a hS => ?_)
        refine wpList_nil ?_
        try simp only [Exit.then, Exit.inBlock, ↓reduceIte, Nat.reduceEqDiff]
        exact ⟨true, (hS.meet [] (by decide) ⟨rfl, trivial⟩ trivial trivial), hM⟩
      · replace hM := cf hb19 hM
        refine wg hS rfl rfl rfl hb19 (ky (v := .int .i64 kind_) hS (y_move hS rfl) rfl rfl fun a hS => ?_)
        refine wg hS rfl rfl rfl hb19 (ky (v := .bool ((kind_ : Int) == 17)) hS (y_int hS rfl rfl rfl) rfl rfl fun a hS => ?_)
        refine wl rfl (ky (v := .bool ((kind_ : Int) == 17)) hS (y_pickf hS rfl hb19 rfl) rfl rfl fun a hS => ?_)
        refine wl rfl (ky (v := .bool ((kind_ : Int) == 17)) hS (y_move hS rfl) rfl rfl fun a hS => ?_)
        rcases bool2 ((kind_ : Int) == 17) with hb20 | hb20
        · replace hM := ct hb20 hM
          refine wn hS rfl rfl rfl hb20 rfl rfl fun a hS => ?_
          refine wn hS rfl rfl rfl hb20 rfl rfl fun a hS => ?_
          refine wl rfl (ky (v := .bool true) hS (y_pickt hS rfl hb20 rfl) rfl rfl fun a hS => ?_)
          refine wl rfl (ky (v := .bool true) hS (y_assign hS rfl) rfl rfl fun a hS => ?_)
          refine wpList_nil ?_
          try simp only [Exit.then, Exit.inBlock, ↓reduceIte, Nat.reduceEqDiff]
          exact ⟨true, (hS.meet [] (by decide) ⟨rfl, trivial⟩ trivial trivial), hM⟩
        · replace hM := cf hb20 hM
          refine wg hS rfl rfl rfl hb20 (ky (v := .int .i64 kind_) hS (y_move hS rfl) rfl rfl fun a hS => ?_)
          refine wg hS rfl rfl rfl hb20 (ky (v := .bool ((kind_ : Int) == 18)) hS (y_int hS rfl rfl rfl) rfl rfl fun a hS => ?_)
          refine wl rfl (ky (v := .bool ((kind_ : Int) == 18)) hS (y_pickf hS rfl hb20 rfl) rfl rfl fun a hS => ?_)
          refine wl rfl (ky (v := .bool ((kind_ : Int) == 18)) hS (y_assign hS rfl) rfl rfl fun a hS => ?_)
          refine wpList_nil ?_
          try simp only [Exit.then, Exit.inBlock, ↓reduceIte, Nat.reduceEqDiff]
          exact ⟨((kind_ : Int) == 18), (hS.meet [] (by decide) ⟨rfl, trivial⟩ trivial trivial), hM⟩
  · rintro a w ⟨g17, hS, hM⟩
    unfold ref22_Cyclic_j1 at hM
    refine wp_ret ?_
    injection hM with hM
    subst hM
    try simp only [Exit.then, Exit.inBlock, ↓reduceIte, Nat.reduceEqDiff]
    refine ret_ok hS Tryd.results110 (res_tmp hS rfl res_nil) ?_
    exact rfl

noncomputable def key_Cyclic_j1 (g38 : Bool) : Option Bool := some (g38)
noncomputable def key_Cyclic (k_0 : KeyD) : Option Bool := cond ((k_0.Kind : Int) == 32) (key_Cyclic_j1 true) ((key_language k_0.Kind).bind fun u40 => cond u40 ((queries_Cyclic k_0.Kind).bind fun u43 => key_Cyclic_j1 u43) (key_Cyclic_j1 false))
set_option maxRecDepth 100000 in
set_option maxHeartbeats 4000000 in
theorem key_Cyclic_c (T : Nat → Prop) (W0 : World) (hT : ∀ k, T k → k < W0.heap.size) (k_0 : KeyD) (y : Bool) (hM : key_Cyclic k_0 = some y) : Rets Tryd.prog No 93 [.agg #[.int .i64 k_0.Kind, .string k_0.Text]] W0 (fun v w' => v = .bool y) := by
  refine enter (c := _) Tryd.func93 rfl T 16 Tryd.ntmps93 hT rfl fun a hS => ?_
  unfold key_Cyclic at hM
  refine wp_seq_k fun K2 hK2 => ?_
  refine r_list ?_
  refine wl rfl (k_box hS rfl (cs := [.int .i64 k_0.Kind, .string k_0.Text]) rfl rfl fun b23 hnb25 a w hk hS => ?_)
  refine wl rfl (ky (v := .bool false) hS (y_assign hS rfl) rfl rfl fun a hS => ?_)
  refine wpList_nil ?_
  try simp only [Exit.then, Exit.inBlock, ↓reduceIte, Nat.reduceEqDiff]
  refine hK2 _ _ ?_
  refine seq_j (J := fun a w => ∃ (g38 : Bool), St W0 No T 16 [(2, .bool g38)] [] [] a w ∧ key_Cyclic_j1 g38 = some y) ?_ ?_
  · skip
    refine r_list ?_
    refine wl rfl (ky (v := .pointer (some ⟨b23, 0 + 0, none⟩)) hS (y_fld hS rfl fl26_0) rfl rfl fun a hS => ?_)
    refine wl rfl (ky (v := .int .i64 k_0.Kind) hS (y_load hS rfl ty3 0 rfl id (us := [.int .i64 k_0.Kind]) rfl rfl (fun _ => rfl)) rfl rfl fun a hS => ?_)
    refine wl rfl (ky (v := .bool ((k_0.Kind : Int) == 32)) hS (y_int hS rfl rfl rfl) rfl rfl fun a hS => ?_)
    refine wl rfl (ky (v := .bool ((k_0.Kind : Int) == 32)) hS (y_move hS rfl) rfl rfl fun a hS => ?_)
    rcases bool2 ((k_0.Kind : Int) == 32) with hb39 | hb39
    · replace hM := ct hb39 hM
      refine wn hS rfl rfl rfl hb39 rfl rfl fun a hS => ?_
      refine wn hS rfl rfl rfl hb39 rfl rfl fun a hS => ?_
      refine wn hS rfl rfl rfl hb39 rfl rfl fun a hS => ?_
      refine wn hS rfl rfl rfl hb39 rfl rfl fun a hS => ?_
      refine wnu hS rfl rfl rfl rfl rfl fun a hS => ?_
      refine wnu hS rfl rfl rfl rfl rfl fun a hS => ?_
      refine wnu hS rfl rfl rfl rfl rfl fun a hS => ?_
      refine wn hS rfl rfl rfl hb39 rfl rfl fun a hS => ?_
      refine wl rfl (ky (v := .bool true) hS (y_pickt hS rfl hb39 rfl) rfl rfl fun a hS => ?_)
      refine wl rfl (ky (v := .bool true) hS (y_assign hS rfl) rfl rfl fun a hS => ?_)
      refine wpList_nil ?_
      try simp only [Exit.then, Exit.inBlock, ↓reduceIte, Nat.reduceEqDiff]
      exact ⟨true, (hS.meet [] (by decide) ⟨rfl, trivial⟩ trivial trivial), hM⟩
    · replace hM := cf hb39 hM
      refine wg hS rfl rfl rfl hb39 (ky (v := .pointer (some ⟨b23, 0 + 0, none⟩)) hS (y_fld hS rfl fl26_0) rfl rfl fun a hS => ?_)
      refine wg hS rfl rfl rfl hb39 (ky (v := .int .i64 k_0.Kind) hS (y_load hS rfl ty3 0 rfl id (us := [.int .i64 k_0.Kind]) rfl rfl (fun _ => rfl)) rfl rfl fun a hS => ?_)
      obtain ⟨u40, hu40, hM⟩ := bd hM
      refine wg hS rfl rfl rfl hb39 (k_call hS ci84 rfl rfl (key_language_c _ _ hS.dlt k_0.Kind _ hu40) fun _ w hR a hk hA => ?_)
      have he := Eq.symm hR
      subst he
      have hS := hA [] (fun r hr => by cases hr) List.Pairwise.nil
      refine wg hS rfl rfl rfl hb39 (ky (v := .bool u40) hS (y_move hS rfl) rfl rfl fun a hS => ?_)
      rcases bool2 (u40) with hb42 | hb42
      · replace hM := ct hb42 hM
        refine wg hS rfl rfl rfl hb42 (ky (v := .pointer (some ⟨b23, 0 + 0, none⟩)) hS (y_fld hS rfl fl26_0) rfl rfl fun a hS => ?_)
        refine wg hS rfl rfl rfl hb42 (ky (v := .int .i64 k_0.Kind) hS (y_load hS rfl ty3 0 rfl id (us := [.int .i64 k_0.Kind]) rfl rfl (fun _ => rfl)) rfl rfl fun a hS => ?_)
        obtain ⟨u43, hu43, hM⟩ := bd hM
        refine wg hS rfl rfl rfl hb42 (k_call hS ci107 rfl rfl (queries_Cyclic_c _ _ hS.dlt k_0.Kind _ hu43) fun _ w hR a hk hA => ?_)
        have he := Eq.symm hR
        subst he
        have hS := hA [] (fun r hr => by cases hr) List.Pairwise.nil
        refine wg hS rfl rfl rfl hb39 (ky (v := .bool u43) hS (y_pickt hS rfl hb42 rfl) rfl rfl fun a hS => ?_)
        refine wl rfl (ky (v := .bool u43) hS (y_pickf hS rfl hb39 rfl) rfl rfl fun a hS => ?_)
        refine wl rfl (ky (v := .bool u43) hS (y_assign hS rfl) rfl rfl fun a hS => ?_)
        refine wpList_nil ?_
        try simp only [Exit.then, Exit.inBlock, ↓reduceIte, Nat.reduceEqDiff]
        exact ⟨u43, (hS.meet [] (by decide) ⟨rfl, trivial⟩ trivial trivial), hM⟩
      · replace hM := cf hb42 hM
        refine wn hS rfl rfl rfl hb42 rfl rfl fun a hS => ?_
        refine wn hS rfl rfl rfl hb42 rfl rfl fun a hS => ?_
        refine wn hS rfl rfl rfl hb42 rfl rfl fun a hS => ?_
        refine wg hS rfl rfl rfl hb39 (ky (v := .bool false) hS (y_pickf hS rfl hb42 rfl) rfl rfl fun a hS => ?_)
        refine wl rfl (ky (v := .bool false) hS (y_pickf hS rfl hb39 rfl) rfl rfl fun a hS => ?_)
        refine wl rfl (ky (v := .bool false) hS (y_assign hS rfl) rfl rfl fun a hS => ?_)
        refine wpList_nil ?_
        try simp only [Exit.then, Exit.inBlock, ↓reduceIte, Nat.reduceEqDiff]
        exact ⟨false, (hS.meet [] (by decide) ⟨rfl, trivial⟩ trivial trivial), hM⟩
  · rintro a w ⟨g38, hS, hM⟩
    unfold key_Cyclic_j1 at hM
    refine wp_ret ?_
    injection hM with hM
    subst hM
    try simp only [Exit.then, Exit.inBlock, ↓reduceIte, Nat.reduceEqDiff]
    refine ret_ok hS Tryd.results93 (res_tmp hS rfl res_nil) ?_
    exact rfl

noncomputable def key_Cell (n_0 : Int) : Option KeyD := cond (decide ((n_0 : Int) < 0)) (some ((KeyD.mk 0 (ByteArray.mk #[])))) (cond (decide ((99 : Int) < n_0)) (some ((KeyD.mk 0 (ByteArray.mk #[])))) ((itoaM n_0).bind fun u15 => some ((KeyD.mk 30 u15))))
set_option maxRecDepth 100000 in
set_option maxHeartbeats 4000000 in
theorem key_Cell_c (T : Nat → Prop) (W0 : World) (hT : ∀ k, T k → k < W0.heap.size) (hLv : LvP T W0) (n_0 : Int) (y : KeyD) (hM : key_Cell n_0 = some y) : Rets Tryd.prog No 88 [.int .i64 n_0] W0 (fun v w' => v = .agg #[.int .i64 y.Kind, .string y.Text]) := by
  refine enter (c := _) Tryd.func88 rfl T 13 Tryd.ntmps88 hT rfl fun a hS => ?_
  replace hS := hS.fact LvF (LvP.dn hLv)
  unfold key_Cell at hM
  refine wp_seq_k fun K7 hK7 => ?_
  refine r_list ?_
  refine wl rfl (k_alloc hS ze26 rfl fun b9 hnb11 a w hk hS => ?_)
  refine wpList_nil ?_
  try simp only [Exit.then, Exit.inBlock, ↓reduceIte, Nat.reduceEqDiff]
  refine hK7 _ _ ?_
  refine wp_seq_k fun K8 hK8 => ?_
  refine wp_seq_k fun K9 hK9 => ?_
  refine r_list ?_
  refine wl rfl (ky (v := .int .i64 n_0) hS (y_move hS rfl) rfl rfl fun a hS => ?_)
  refine wl rfl (ky (v := .bool (decide ((n_0 : Int) < 0))) hS (y_int hS rfl rfl rfl) rfl rfl fun a hS => ?_)
  refine wl rfl (ky (v := .bool (decide ((n_0 : Int) < 0))) hS (y_move hS rfl) rfl rfl fun a hS => ?_)
  rcases bool2 (decide ((n_0 : Int) < 0)) with hb13 | hb13
  · replace hM := ct hb13 hM
    refine wn hS rfl rfl rfl hb13 rfl rfl fun a hS => ?_
    refine wn hS rfl rfl rfl hb13 rfl rfl fun a hS => ?_
    refine wl rfl (ky (v := .bool true) hS (y_pickt hS rfl hb13 rfl) rfl rfl fun a hS => ?_)
    refine wpList_nil ?_
    try simp only [Exit.then, Exit.inBlock, ↓reduceIte, Nat.reduceEqDiff]
    refine hK9 _ _ ?_
    refine c_t hS rfl rfl ?_
    refine wp_seq_k fun K10 hK10 => ?_
    refine r_list ?_
    refine wl rfl (ky (v := .agg #[.int .i64 0, .string (ByteArray.mk #[])]) hS (y_build (ps := []) hS pl26 ze26 rfl (us := []) trivial (ws := [.int .i64 0, .string (ByteArray.mk #[])]) rfl) rfl rfl fun a hS => ?_)
    refine wl rfl (k_store hS rfl rfl (us := [.int .i64 0, .string (ByteArray.mk #[])]) rfl ty26 0 rfl rfl rfl (oc rfl (oc rfl on)) fun w hk hS => ?_)
    refine wpList_nil ?_
    try simp only [Exit.then, Exit.inBlock, ↓reduceIte, Nat.reduceEqDiff]
    refine hK10 _ _ ?_
    refine wp_ret ?_
    injection hM with hM
    subst hM
    try simp only [Exit.then, Exit.inBlock, ↓reduceIte, Nat.reduceEqDiff]
    refine ret_ok hS Tryd.results88 (res_cell hS rfl 0 rfl ty26 rfl (fun h => by cases h) res_nil) ?_
    exact rfl
  · replace hM := cf hb13 hM
    refine wg hS rfl rfl rfl hb13 (ky (v := .int .i64 n_0) hS (y_move hS rfl) rfl rfl fun a hS => ?_)
    refine wg hS rfl rfl rfl hb13 (ky (v := .bool (decide ((99 : Int) < n_0))) hS (y_int hS rfl rfl rfl) rfl rfl fun a hS => ?_)
    refine wl rfl (ky (v := .bool (decide ((99 : Int) < n_0))) hS (y_pickf hS rfl hb13 rfl) rfl rfl fun a hS => ?_)
    refine wpList_nil ?_
    try simp only [Exit.then, Exit.inBlock, ↓reduceIte, Nat.reduceEqDiff]
    refine hK9 _ _ ?_
    rcases bool2 (decide ((99 : Int) < n_0)) with hb14 | hb14
    · replace hM := ct hb14 hM
      refine c_t hS rfl hb14 ?_
      refine wp_seq_k fun K11 hK11 => ?_
      refine r_list ?_
      refine wl rfl (ky (v := .agg #[.int .i64 0, .string (ByteArray.mk #[])]) hS (y_build (ps := []) hS pl26 ze26 rfl (us := []) trivial (ws := [.int .i64 0, .string (ByteArray.mk #[])]) rfl) rfl rfl fun a hS => ?_)
      refine wl rfl (k_store hS rfl rfl (us := [.int .i64 0, .string (ByteArray.mk #[])]) rfl ty26 0 rfl rfl rfl (oc rfl (oc rfl on)) fun w hk hS => ?_)
      refine wpList_nil ?_
      try simp only [Exit.then, Exit.inBlock, ↓reduceIte, Nat.reduceEqDiff]
      refine hK11 _ _ ?_
      refine wp_ret ?_
      injection hM with hM
      subst hM
      try simp only [Exit.then, Exit.inBlock, ↓reduceIte, Nat.reduceEqDiff]
      refine ret_ok hS Tryd.results88 (res_cell hS rfl 0 rfl ty26 rfl (fun h => by cases h) res_nil) ?_
      exact rfl
    · replace hM := cf hb14 hM
      refine c_f hS rfl hb14 ?_
      refine wp_skip ?_
      try simp only [Exit.then, Exit.inBlock, ↓reduceIte, Nat.reduceEqDiff]
      refine hK8 _ _ ?_
      refine wp_seq_k fun K12 hK12 => ?_
      refine r_list ?_
      refine wl rfl (ky (v := .int .i64 n_0) hS (y_move hS rfl) rfl rfl fun a hS => ?_)
      obtain ⟨u15, hu15, hM⟩ := bd hM
      refine wl rfl (k_call hS ci51 rfl rfl (itoaM_c _ _ hS.dlt (hS.get 0 rfl) n_0 _ hu15) fun _ w hR a hk hA => ?_)
      have he := Eq.symm hR
      subst he
      have hS := hA [] (fun r hr => by cases hr) List.Pairwise.nil
      refine wl rfl (ky (v := .agg #[.int .i64 30, .string u15]) hS (y_build (ps := [(0, .const (.int .i64 30)), (1, .tmp 11)]) hS pl26 ze26 rfl (us := [[.int .i64 30], [.string u15]]) ⟨rfl, ⟨rfl, trivial⟩⟩ (ws := [.int .i64 30, .string u15]) rfl) rfl rfl fun a hS => ?_)
      refine wl rfl (k_store hS rfl rfl (us := [.int .i64 30, .string u15]) rfl ty26 0 rfl rfl rfl (oc rfl (oc rfl on)) fun w hk hS => ?_)
      refine wpList_nil ?_
      try simp only [Exit.then, Exit.inBlock, ↓reduceIte, Nat.reduceEqDiff]
      refine hK12 _ _ ?_
      refine wp_ret ?_
      injection hM with hM
      subst hM
      try simp only [Exit.then, Exit.inBlock, ↓reduceIte, Nat.reduceEqDiff]
      refine ret_ok hS Tryd.results88 (res_cell hS rfl 0 rfl ty26 rfl (fun h => by cases h) res_nil) ?_
      exact rfl

noncomputable def ref23_Cyclic_j1 (g33 : Bool) : Option Bool := some (g33)
noncomputable def ref23_Cyclic (k_0 : KeyD) : Option Bool := cond ((k_0.Kind : Int) == 32) (ref23_Cyclic_j1 true) (cond (decide ((1 : Int) ≤ k_0.Kind)) (cond (decide ((k_0.Kind : Int) ≤ 22)) ((ref22_Cyclic k_0.Kind).bind fun u37 => ref23_Cyclic_j1 u37) (ref23_Cyclic_j1 false)) (ref23_Cyclic_j1 false))
set_option maxRecDepth 100000 in
set_option maxHeartbeats 4000000 in
theorem ref23_Cyclic_c (T : Nat → Prop) (W0 : World) (hT : ∀ k, T k → k < W0.heap.size) (k_0 : KeyD) (y : Bool) (hM : ref23_Cyclic k_0 = some y) : Rets Tryd.prog No 95 [.agg #[.int .i64 k_0.Kind, .string k_0.Text]] W0 (fun v w' => v = .bool y) := by
  refine enter (c := _) Tryd.func95 rfl T 21 Tryd.ntmps95 hT rfl fun a hS => ?_
  unfold ref23_Cyclic at hM
  refine wp_seq_k fun K2 hK2 => ?_
  refine r_list ?_
  refine wl rfl (k_box hS rfl (cs := [.int .i64 k_0.Kind, .string k_0.Text]) rfl rfl fun b20 hnb22 a w hk hS => ?_)
  refine wl rfl (ky (v := .bool false) hS (y_assign hS rfl) rfl rfl fun a hS => ?_)
  refine wpList_nil ?_
  try simp only [Exit.then, Exit.inBlock, ↓reduceIte, Nat.reduceEqDiff]
  refine hK2 _ _ ?_
  refine seq_j (J := fun a w => ∃ (g33 : Bool), St W0 No T 21 [(2, .bool g33)] [] [] a w ∧ ref23_Cyclic_j1 g33 = some y) ?_ ?_
  · skip
    refine r_list ?_
    refine wl rfl (ky (v := .pointer (some ⟨b20, 0 + 0, none⟩)) hS (y_fld hS rfl fl26_0) rfl rfl fun a hS => ?_)
    refine wl rfl (ky (v := .int .i64 k_0.Kind) hS (y_load hS rfl ty3 0 rfl id (us := [.int .i64 k_0.Kind]) rfl rfl (fun _ => rfl)) rfl rfl fun a hS => ?_)
    refine wl rfl (ky (v := .bool ((k_0.Kind : Int) == 32)) hS (y_int hS rfl rfl rfl) rfl rfl fun a hS => ?_)
    refine wl rfl (ky (v := .bool ((k_0.Kind : Int) == 32)) hS (y_move hS rfl) rfl rfl fun a hS => ?_)
    rcases bool2 ((k_0.Kind : Int) == 32) with hb34 | hb34
    · replace hM := ct hb34 hM
      refine wn hS rfl rfl rfl hb34 rfl rfl fun a hS => ?_
      refine wn hS rfl rfl rfl hb34 rfl rfl fun a hS => ?_
      refine wn hS rfl rfl rfl hb34 rfl rfl fun a hS => ?_
      refine wn hS rfl rfl rfl hb34 rfl rfl fun a hS => ?_
      refine wnu hS rfl rfl rfl rfl rfl fun a hS => ?_
      refine wnu hS rfl rfl rfl rfl rfl fun a hS => ?_
      refine wnu hS rfl rfl rfl rfl rfl fun a hS => ?_
      refine wn hS rfl rfl rfl hb34 rfl rfl fun a hS => ?_
      refine wn hS rfl rfl rfl hb34 rfl rfl fun a hS => ?_
      refine wnu hS rfl rfl rfl rfl rfl fun a hS => ?_
      refine wnu hS rfl rfl rfl rfl rfl fun a hS => ?_
      refine wnu hS rfl rfl rfl rfl rfl fun a hS => ?_
      refine wn hS rfl rfl rfl hb34 rfl rfl fun a hS => ?_
      refine wl rfl (ky (v := .bool true) hS (y_pickt hS rfl hb34 rfl) rfl rfl fun a hS => ?_)
      refine wl rfl (ky (v := .bool true) hS (y_assign hS rfl) rfl rfl fun a hS => ?_)
      refine wpList_nil ?_
      try simp only [Exit.then, Exit.inBlock, ↓reduceIte, Nat.reduceEqDiff]
      exact ⟨true, (hS.meet [] (by decide) ⟨rfl, trivial⟩ trivial trivial), hM⟩
    · replace hM := cf hb34 hM
      refine wg hS rfl rfl rfl hb34 (ky (v := .pointer (some ⟨b20, 0 + 0, none⟩)) hS (y_fld hS rfl fl26_0) rfl rfl fun a hS => ?_)
      refine wg hS rfl rfl rfl hb34 (ky (v := .int .i64 k_0.Kind) hS (y_load hS rfl ty3 0 rfl id (us := [.int .i64 k_0.Kind]) rfl rfl (fun _ => rfl)) rfl rfl fun a hS => ?_)
      refine wg hS rfl rfl rfl hb34 (ky (v := .bool (decide ((1 : Int) ≤ k_0.Kind))) hS (y_int hS rfl rfl rfl) rfl rfl fun a hS => ?_)
      refine wg hS rfl rfl rfl hb34 (ky (v := .bool (decide ((1 : Int) ≤ k_0.Kind))) hS (y_move hS rfl) rfl rfl fun a hS => ?_)
      rcases bool2 (decide ((1 : Int) ≤ k_0.Kind)) with hb35 | hb35
      · replace hM := ct hb35 hM
        refine wg hS rfl rfl rfl hb35 (ky (v := .pointer (some ⟨b20, 0 + 0, none⟩)) hS (y_fld hS rfl fl26_0) rfl rfl fun a hS => ?_)
        refine wg hS rfl rfl rfl hb35 (ky (v := .int .i64 k_0.Kind) hS (y_load hS rfl ty3 0 rfl id (us := [.int .i64 k_0.Kind]) rfl rfl (fun _ => rfl)) rfl rfl fun a hS => ?_)
        refine wg hS rfl rfl rfl hb35 (ky (v := .bool (decide ((k_0.Kind : Int) ≤ 22))) hS (y_int hS rfl rfl rfl) rfl rfl fun a hS => ?_)
        refine wg hS rfl rfl rfl hb34 (ky (v := .bool (decide ((k_0.Kind : Int) ≤ 22))) hS (y_pickt hS rfl hb35 rfl) rfl rfl fun a hS => ?_)
        refine wg hS rfl rfl rfl hb34 (ky (v := .bool (decide ((k_0.Kind : Int) ≤ 22))) hS (y_move hS rfl) rfl rfl fun a hS => ?_)
        rcases bool2 (decide ((k_0.Kind : Int) ≤ 22)) with hb36 | hb36
        · replace hM := ct hb36 hM
          refine wg hS rfl rfl rfl hb36 (ky (v := .pointer (some ⟨b20, 0 + 0, none⟩)) hS (y_fld hS rfl fl26_0) rfl rfl fun a hS => ?_)
          refine wg hS rfl rfl rfl hb36 (ky (v := .int .i64 k_0.Kind) hS (y_load hS rfl ty3 0 rfl id (us := [.int .i64 k_0.Kind]) rfl rfl (fun _ => rfl)) rfl rfl fun a hS => ?_)
          obtain ⟨u37, hu37, hM⟩ := bd hM
          refine wg hS rfl rfl rfl hb36 (k_call hS ci110 rfl rfl (ref22_Cyclic_c _ _ hS.dlt k_0.Kind _ hu37) fun _ w hR a hk hA => ?_)
          have he := Eq.symm hR
          subst he
          have hS := hA [] (fun r hr => by cases hr) List.Pairwise.nil
          refine wg hS rfl rfl rfl hb34 (ky (v := .bool u37) hS (y_pickt hS rfl hb36 rfl) rfl rfl fun a hS => ?_)
          refine wl rfl (ky (v := .bool u37) hS (y_pickf hS rfl hb34 rfl) rfl rfl fun a hS => ?_)
          refine wl rfl (ky (v := .bool u37) hS (y_assign hS rfl) rfl rfl fun a hS => ?_)
          refine wpList_nil ?_
          try simp only [Exit.then, Exit.inBlock, ↓reduceIte, Nat.reduceEqDiff]
          exact ⟨u37, (hS.meet [] (by decide) ⟨rfl, trivial⟩ trivial trivial), hM⟩
        · replace hM := cf hb36 hM
          refine wn hS rfl rfl rfl hb36 rfl rfl fun a hS => ?_
          refine wn hS rfl rfl rfl hb36 rfl rfl fun a hS => ?_
          refine wn hS rfl rfl rfl hb36 rfl rfl fun a hS => ?_
          refine wg hS rfl rfl rfl hb34 (ky (v := .bool false) hS (y_pickf hS rfl hb36 rfl) rfl rfl fun a hS => ?_)
          refine wl rfl (ky (v := .bool false) hS (y_pickf hS rfl hb34 rfl) rfl rfl fun a hS => ?_)
          refine wl rfl (ky (v := .bool false) hS (y_assign hS rfl) rfl rfl fun a hS => ?_)
          refine wpList_nil ?_
          try simp only [Exit.then, Exit.inBlock, ↓reduceIte, Nat.reduceEqDiff]
          exact ⟨false, (hS.meet [] (by decide) ⟨rfl, trivial⟩ trivial trivial), hM⟩
      · replace hM := cf hb35 hM
        refine wn hS rfl rfl rfl hb35 rfl rfl fun a hS => ?_
        refine wn hS rfl rfl rfl hb35 rfl rfl fun a hS => ?_
        refine wn hS rfl rfl rfl hb35 rfl rfl fun a hS => ?_
        refine wg hS rfl rfl rfl hb34 (ky (v := .bool false) hS (y_pickf hS rfl hb35 rfl) rfl rfl fun a hS => ?_)
        refine wg hS rfl rfl rfl hb34 (ky (v := .bool false) hS (y_move hS rfl) rfl rfl fun a hS => ?_)
        refine wn hS rfl rfl rfl rfl rfl rfl fun a hS => ?_
        refine wn hS rfl rfl rfl rfl rfl rfl fun a hS => ?_
        refine wn hS rfl rfl rfl rfl rfl rfl fun a hS => ?_
        refine wg hS rfl rfl rfl hb34 (ky (v := .bool false) hS (y_pickf hS rfl rfl rfl) rfl rfl fun a hS => ?_)
        refine wl rfl (ky (v := .bool false) hS (y_pickf hS rfl hb34 rfl) rfl rfl fun a hS => ?_)
        refine wl rfl (ky (v := .bool false) hS (y_assign hS rfl) rfl rfl fun a hS => ?_)
        refine wpList_nil ?_
        try simp only [Exit.then, Exit.inBlock, ↓reduceIte, Nat.reduceEqDiff]
        exact ⟨false, (hS.meet [] (by decide) ⟨rfl, trivial⟩ trivial trivial), hM⟩
  · rintro a w ⟨g33, hS, hM⟩
    unfold ref23_Cyclic_j1 at hM
    refine wp_ret ?_
    injection hM with hM
    subst hM
    try simp only [Exit.then, Exit.inBlock, ↓reduceIte, Nat.reduceEqDiff]
    refine ret_ok hS Tryd.results95 (res_tmp hS rfl res_nil) ?_
    exact rfl

noncomputable def ref23_Cell (n_0 : Int) : Option KeyD := cond (decide ((n_0 : Int) < 0)) (some ((KeyD.mk 0 (ByteArray.mk #[])))) (cond (decide ((99 : Int) < n_0)) (some ((KeyD.mk 0 (ByteArray.mk #[])))) ((itoaM n_0).bind fun u15 => some ((KeyD.mk 30 u15))))
set_option maxRecDepth 100000 in
set_option maxHeartbeats 4000000 in
theorem ref23_Cell_c (T : Nat → Prop) (W0 : World) (hT : ∀ k, T k → k < W0.heap.size) (hLv : LvP T W0) (n_0 : Int) (y : KeyD) (hM : ref23_Cell n_0 = some y) : Rets Tryd.prog No 14 [.int .i64 n_0] W0 (fun v w' => v = .agg #[.int .i64 y.Kind, .string y.Text]) := by
  refine enter (c := _) Tryd.func14 rfl T 13 Tryd.ntmps14 hT rfl fun a hS => ?_
  replace hS := hS.fact LvF (LvP.dn hLv)
  unfold ref23_Cell at hM
  refine wp_seq_k fun K7 hK7 => ?_
  refine r_list ?_
  refine wl rfl (k_alloc hS ze26 rfl fun b9 hnb11 a w hk hS => ?_)
  refine wpList_nil ?_
  try simp only [Exit.then, Exit.inBlock, ↓reduceIte, Nat.reduceEqDiff]
  refine hK7 _ _ ?_
  refine wp_seq_k fun K8 hK8 => ?_
  refine wp_seq_k fun K9 hK9 => ?_
  refine r_list ?_
  refine wl rfl (ky (v := .int .i64 n_0) hS (y_move hS rfl) rfl rfl fun a hS => ?_)
  refine wl rfl (ky (v := .bool (decide ((n_0 : Int) < 0))) hS (y_int hS rfl rfl rfl) rfl rfl fun a hS => ?_)
  refine wl rfl (ky (v := .bool (decide ((n_0 : Int) < 0))) hS (y_move hS rfl) rfl rfl fun a hS => ?_)
  rcases bool2 (decide ((n_0 : Int) < 0)) with hb13 | hb13
  · replace hM := ct hb13 hM
    refine wn hS rfl rfl rfl hb13 rfl rfl fun a hS => ?_
    refine wn hS rfl rfl rfl hb13 rfl rfl fun a hS => ?_
    refine wl rfl (ky (v := .bool true) hS (y_pickt hS rfl hb13 rfl) rfl rfl fun a hS => ?_)
    refine wpList_nil ?_
    try simp only [Exit.then, Exit.inBlock, ↓reduceIte, Nat.reduceEqDiff]
    refine hK9 _ _ ?_
    refine c_t hS rfl rfl ?_
    refine wp_seq_k fun K10 hK10 => ?_
    refine r_list ?_
    refine wl rfl (ky (v := .agg #[.int .i64 0, .string (ByteArray.mk #[])]) hS (y_build (ps := []) hS pl26 ze26 rfl (us := []) trivial (ws := [.int .i64 0, .string (ByteArray.mk #[])]) rfl) rfl rfl fun a hS => ?_)
    refine wl rfl (k_store hS rfl rfl (us := [.int .i64 0, .string (ByteArray.mk #[])]) rfl ty26 0 rfl rfl rfl (oc rfl (oc rfl on)) fun w hk hS => ?_)
    refine wpList_nil ?_
    try simp only [Exit.then, Exit.inBlock, ↓reduceIte, Nat.reduceEqDiff]
    refine hK10 _ _ ?_
    refine wp_ret ?_
    injection hM with hM
    subst hM
    try simp only [Exit.then, Exit.inBlock, ↓reduceIte, Nat.reduceEqDiff]
    refine ret_ok hS Tryd.results14 (res_cell hS rfl 0 rfl ty26 rfl (fun h => by cases h) res_nil) ?_
    exact rfl
  · replace hM := cf hb13 hM
    refine wg hS rfl rfl rfl hb13 (ky (v := .int .i64 n_0) hS (y_move hS rfl) rfl rfl fun a hS => ?_)
    refine wg hS rfl rfl rfl hb13 (ky (v := .bool (decide ((99 : Int) < n_0))) hS (y_int hS rfl rfl rfl) rfl rfl fun a hS => ?_)
    refine wl rfl (ky (v := .bool (decide ((99 : Int) < n_0))) hS (y_pickf hS rfl hb13 rfl) rfl rfl fun a hS => ?_)
    refine wpList_nil ?_
    try simp only [Exit.then, Exit.inBlock, ↓reduceIte, Nat.reduceEqDiff]
    refine hK9 _ _ ?_
    rcases bool2 (decide ((99 : Int) < n_0)) with hb14 | hb14
    · replace hM := ct hb14 hM
      refine c_t hS rfl hb14 ?_
      refine wp_seq_k fun K11 hK11 => ?_
      refine r_list ?_
      refine wl rfl (ky (v := .agg #[.int .i64 0, .string (ByteArray.mk #[])]) hS (y_build (ps := []) hS pl26 ze26 rfl (us := []) trivial (ws := [.int .i64 0, .string (ByteArray.mk #[])]) rfl) rfl rfl fun a hS => ?_)
      refine wl rfl (k_store hS rfl rfl (us := [.int .i64 0, .string (ByteArray.mk #[])]) rfl ty26 0 rfl rfl rfl (oc rfl (oc rfl on)) fun w hk hS => ?_)
      refine wpList_nil ?_
      try simp only [Exit.then, Exit.inBlock, ↓reduceIte, Nat.reduceEqDiff]
      refine hK11 _ _ ?_
      refine wp_ret ?_
      injection hM with hM
      subst hM
      try simp only [Exit.then, Exit.inBlock, ↓reduceIte, Nat.reduceEqDiff]
      refine ret_ok hS Tryd.results14 (res_cell hS rfl 0 rfl ty26 rfl (fun h => by cases h) res_nil) ?_
      exact rfl
    · replace hM := cf hb14 hM
      refine c_f hS rfl hb14 ?_
      refine wp_skip ?_
      try simp only [Exit.then, Exit.inBlock, ↓reduceIte, Nat.reduceEqDiff]
      refine hK8 _ _ ?_
      refine wp_seq_k fun K12 hK12 => ?_
      refine r_list ?_
      refine wl rfl (ky (v := .int .i64 n_0) hS (y_move hS rfl) rfl rfl fun a hS => ?_)
      obtain ⟨u15, hu15, hM⟩ := bd hM
      refine wl rfl (k_call hS ci51 rfl rfl (itoaM_c _ _ hS.dlt (hS.get 0 rfl) n_0 _ hu15) fun _ w hR a hk hA => ?_)
      have he := Eq.symm hR
      subst he
      have hS := hA [] (fun r hr => by cases hr) List.Pairwise.nil
      refine wl rfl (ky (v := .agg #[.int .i64 30, .string u15]) hS (y_build (ps := [(0, .const (.int .i64 30)), (1, .tmp 11)]) hS pl26 ze26 rfl (us := [[.int .i64 30], [.string u15]]) ⟨rfl, ⟨rfl, trivial⟩⟩ (ws := [.int .i64 30, .string u15]) rfl) rfl rfl fun a hS => ?_)
      refine wl rfl (k_store hS rfl rfl (us := [.int .i64 30, .string u15]) rfl ty26 0 rfl rfl rfl (oc rfl (oc rfl on)) fun w hk hS => ?_)
      refine wpList_nil ?_
      try simp only [Exit.then, Exit.inBlock, ↓reduceIte, Nat.reduceEqDiff]
      refine hK12 _ _ ?_
      refine wp_ret ?_
      injection hM with hM
      subst hM
      try simp only [Exit.then, Exit.inBlock, ↓reduceIte, Nat.reduceEqDiff]
      refine ret_ok hS Tryd.results14 (res_cell hS rfl 0 rfl ty26 rfl (fun h => by cases h) res_nil) ?_
      exact rfl

noncomputable def key_Of_j1 (n46 : Int) (kind47 : Int) (g48 : Int) : Option KeyD := (itoaM n46).bind fun u49 => some ((KeyD.mk kind47 u49))
noncomputable def key_Of (rules_ : (List RuleD)) (n_1 : Int) : Option KeyD := cond (decide ((n_1 : Int) < 0)) (some ((KeyD.mk 0 (ByteArray.mk #[])))) (cond (decide (((rules_.length : Int) : Int) ≤ n_1)) (some ((KeyD.mk 0 (ByteArray.mk #[])))) (cond (decide ((99 : Int) < n_1)) (some ((KeyD.mk 0 (ByteArray.mk #[])))) ((getI rules_ n_1).bind fun e51 => cond e51.Ring (key_Of_j1 n_1 32 0) (key_Of_j1 n_1 31 0))))
set_option maxRecDepth 100000 in
set_option maxHeartbeats 4000000 in
theorem key_Of_c (T : Nat → Prop) (W0 : World) (hT : ∀ k, T k → k < W0.heap.size) (hLv : LvP T W0) (rules_ : (List RuleD)) (n_1 : Int) (v1 : Value) (hv1 : SlR R_RuleD T W0 v1 rules_) (y : KeyD) (hM : key_Of rules_ n_1 = some y) : Rets Tryd.prog No 87 [v1, .int .i64 n_1] W0 (fun v w' => v = .agg #[.int .i64 y.Kind, .string y.Text]) := by
  refine enter (c := _) Tryd.func87 rfl T 28 Tryd.ntmps87 hT rfl fun a hS => ?_
  replace hS := hS.fact LvF (LvP.dn hLv)
  replace hS := hS.fact (SlF R_RuleD v1 rules_) (SlR.dn hv1)
  unfold key_Of at hM
  refine wp_seq_k fun K11 hK11 => ?_
  refine r_list ?_
  refine wl rfl (k_alloc hS ze26 rfl fun b30 hnb32 a w hk hS => ?_)
  refine wpList_nil ?_
  try simp only [Exit.then, Exit.inBlock, ↓reduceIte, Nat.reduceEqDiff]
  refine hK11 _ _ ?_
  refine wp_seq_k fun K12 hK12 => ?_
  refine wp_seq_k fun K13 hK13 => ?_
  refine r_list ?_
  refine wl rfl (ky (v := .int .i64 n_1) hS (y_move hS rfl) rfl rfl fun a hS => ?_)
  refine wl rfl (ky (v := .bool (decide ((n_1 : Int) < 0))) hS (y_int hS rfl rfl rfl) rfl rfl fun a hS => ?_)
  refine wl rfl (ky (v := .bool (decide ((n_1 : Int) < 0))) hS (y_move hS rfl) rfl rfl fun a hS => ?_)
  rcases bool2 (decide ((n_1 : Int) < 0)) with hb35 | hb35
  · replace hM := ct hb35 hM
    refine wn hS rfl rfl rfl hb35 rfl rfl fun a hS => ?_
    refine wn hS rfl rfl rfl hb35 rfl rfl fun a hS => ?_
    refine wn hS rfl rfl rfl hb35 rfl rfl fun a hS => ?_
    refine wn hS rfl rfl rfl hb35 rfl rfl fun a hS => ?_
    refine wl rfl (ky (v := .bool true) hS (y_pickt hS rfl hb35 rfl) rfl rfl fun a hS => ?_)
    refine wl rfl (ky (v := .bool true) hS (y_move hS rfl) rfl rfl fun a hS => ?_)
    refine wn hS rfl rfl rfl rfl rfl rfl fun a hS => ?_
    refine wn hS rfl rfl rfl rfl rfl rfl fun a hS => ?_
    refine wl rfl (ky (v := .bool true) hS (y_pickt hS rfl rfl rfl) rfl rfl fun a hS => ?_)
    refine wpList_nil ?_
    try simp only [Exit.then, Exit.inBlock, ↓reduceIte, Nat.reduceEqDiff]
    refine hK13 _ _ ?_
    refine c_t hS rfl rfl ?_
    refine wp_seq_k fun K14 hK14 => ?_
    refine r_list ?_
    refine wl rfl (ky (v := .agg #[.int .i64 0, .string (ByteArray.mk #[])]) hS (y_build (ps := []) hS pl26 ze26 rfl (us := []) trivial (ws := [.int .i64 0, .string (ByteArray.mk #[])]) rfl) rfl rfl fun a hS => ?_)
    refine wl rfl (k_store hS rfl rfl (us := [.int .i64 0, .string (ByteArray.mk #[])]) rfl ty26 0 rfl rfl rfl (oc rfl (oc rfl on)) fun w hk hS => ?_)
    refine wpList_nil ?_
    try simp only [Exit.then, Exit.inBlock, ↓reduceIte, Nat.reduceEqDiff]
    refine hK14 _ _ ?_
    refine wp_ret ?_
    injection hM with hM
    subst hM
    try simp only [Exit.then, Exit.inBlock, ↓reduceIte, Nat.reduceEqDiff]
    refine ret_ok hS Tryd.results87 (res_cell hS rfl 0 rfl ty26 rfl (fun h => by cases h) res_nil) ?_
    exact rfl
  · replace hM := cf hb35 hM
    refine wg hS rfl rfl rfl hb35 (ky (v := .int .i64 n_1) hS (y_move hS rfl) rfl rfl fun a hS => ?_)
    refine wg hS rfl rfl rfl hb35 (ky (v := v1) hS (y_move hS rfl) rfl rfl fun a hS => ?_)
    refine wg hS rfl rfl rfl hb35 (ky (v := .int .i64 (rules_.length : Int)) hS (y_len (R := R_RuleD) (xs := rules_) hS sl44 rfl 0 rfl) rfl rfl fun a hS => ?_)
    refine wg hS rfl rfl rfl hb35 (ky (v := .bool (decide (((rules_.length : Int) : Int) ≤ n_1))) hS (y_int hS rfl rfl rfl) rfl rfl fun a hS => ?_)
    refine wl rfl (ky (v := .bool (decide (((rules_.length : Int) : Int) ≤ n_1))) hS (y_pickf hS rfl hb35 rfl) rfl rfl fun a hS => ?_)
    refine wl rfl (ky (v := .bool (decide (((rules_.length : Int) : Int) ≤ n_1))) hS (y_move hS rfl) rfl rfl fun a hS => ?_)
    rcases bool2 (decide (((rules_.length : Int) : Int) ≤ n_1)) with hb36 | hb36
    · replace hM := ct hb36 hM
      refine wn hS rfl rfl rfl hb36 rfl rfl fun a hS => ?_
      refine wn hS rfl rfl rfl hb36 rfl rfl fun a hS => ?_
      refine wl rfl (ky (v := .bool true) hS (y_pickt hS rfl hb36 rfl) rfl rfl fun a hS => ?_)
      refine wpList_nil ?_
      try simp only [Exit.then, Exit.inBlock, ↓reduceIte, Nat.reduceEqDiff]
      refine hK13 _ _ ?_
      refine c_t hS rfl rfl ?_
      refine wp_seq_k fun K15 hK15 => ?_
      refine r_list ?_
      refine wl rfl (ky (v := .agg #[.int .i64 0, .string (ByteArray.mk #[])]) hS (y_build (ps := []) hS pl26 ze26 rfl (us := []) trivial (ws := [.int .i64 0, .string (ByteArray.mk #[])]) rfl) rfl rfl fun a hS => ?_)
      refine wl rfl (k_store hS rfl rfl (us := [.int .i64 0, .string (ByteArray.mk #[])]) rfl ty26 0 rfl rfl rfl (oc rfl (oc rfl on)) fun w hk hS => ?_)
      refine wpList_nil ?_
      try simp only [Exit.then, Exit.inBlock, ↓reduceIte, Nat.reduceEqDiff]
      refine hK15 _ _ ?_
      refine wp_ret ?_
      injection hM with hM
      subst hM
      try simp only [Exit.then, Exit.inBlock, ↓reduceIte, Nat.reduceEqDiff]
      refine ret_ok hS Tryd.results87 (res_cell hS rfl 0 rfl ty26 rfl (fun h => by cases h) res_nil) ?_
      exact rfl
    · replace hM := cf hb36 hM
      refine wg hS rfl rfl rfl hb36 (ky (v := .int .i64 n_1) hS (y_move hS rfl) rfl rfl fun a hS => ?_)
      refine wg hS rfl rfl rfl hb36 (ky (v := .bool (decide ((99 : Int) < n_1))) hS (y_int hS rfl rfl rfl) rfl rfl fun a hS => ?_)
      refine wl rfl (ky (v := .bool (decide ((99 : Int) < n_1))) hS (y_pickf hS rfl hb36 rfl) rfl rfl fun a hS => ?_)
      refine wpList_nil ?_
      try simp only [Exit.then, Exit.inBlock, ↓reduceIte, Nat.reduceEqDiff]
      refine hK13 _ _ ?_
      rcases bool2 (decide ((99 : Int) < n_1)) with hb37 | hb37
      · replace hM := ct hb37 hM
        refine c_t hS rfl hb37 ?_
        refine wp_seq_k fun K16 hK16 => ?_
        refine r_list ?_
        refine wl rfl (ky (v := .agg #[.int .i64 0, .string (ByteArray.mk #[])]) hS (y_build (ps := []) hS pl26 ze26 rfl (us := []) trivial (ws := [.int .i64 0, .string (ByteArray.mk #[])]) rfl) rfl rfl fun a hS => ?_)
        refine wl rfl (k_store hS rfl rfl (us := [.int .i64 0, .string (ByteArray.mk #[])]) rfl ty26 0 rfl rfl rfl (oc rfl (oc rfl on)) fun w hk hS => ?_)
        refine wpList_nil ?_
        try simp only [Exit.then, Exit.inBlock, ↓reduceIte, Nat.reduceEqDiff]
        refine hK16 _ _ ?_
        refine wp_ret ?_
        injection hM with hM
        subst hM
        try simp only [Exit.then, Exit.inBlock, ↓reduceIte, Nat.reduceEqDiff]
        refine ret_ok hS Tryd.results87 (res_cell hS rfl 0 rfl ty26 rfl (fun h => by cases h) res_nil) ?_
        exact rfl
      · replace hM := cf hb37 hM
        refine c_f hS rfl hb37 ?_
        refine wp_skip ?_
        try simp only [Exit.then, Exit.inBlock, ↓reduceIte, Nat.reduceEqDiff]
        refine hK12 _ _ ?_
        refine wp_seq_k fun K17 hK17 => ?_
        refine r_list ?_
        refine wl rfl (ky (v := .int .i64 31) hS (y_assign hS rfl) rfl rfl fun a hS => ?_)
        refine wpList_nil ?_
        try simp only [Exit.then, Exit.inBlock, ↓reduceIte, Nat.reduceEqDiff]
        refine hK17 _ _ ?_
        refine seq_j (J := fun a w => ∃ (n46 : Int) (kind47 : Int) (g48 : Int), St W0 No T 28 [(1, .int .i64 n46), (4, .pointer (some ⟨b30, 0, none⟩)), (5, .int .i64 kind47)] [.box b30 [.int .i64 g48, .string (ByteArray.mk #[])] 26] [LvF] a w ∧ key_Of_j1 n46 kind47 g48 = some y) ?_ ?_
        · skip
          refine wp_seq_k fun K20 hK20 => ?_
          refine r_list ?_
          refine wl rfl (ky (v := v1) hS (y_move hS rfl) rfl rfl fun a hS => ?_)
          refine wl rfl (ky (v := .int .i64 n_1) hS (y_move hS rfl) rfl rfl fun a hS => ?_)
          obtain ⟨e51, he51, hM⟩ := bd hM
          refine wl rfl (k_index (R := R_RuleD) hS sl44 ty48 rfl rfl 0 rfl he51 rfl fun b53 o54 cs56 hr55 a hS => ?_)
          obtain ⟨v52, rfl, hv52⟩ := hr55
          replace hS := hS.fact (SlF R_AskD v52 e51.Asks) hv52
          refine wl rfl (ky (v := .pointer (some ⟨b53, o54 + 0, none⟩)) hS (y_fld hS rfl fl48_0) rfl rfl fun a hS => ?_)
          refine wl rfl (ky (v := .bool e51.Ring) hS (y_loadc (k := 0) hS ty4 1 rfl rfl (fun _ h => h.elim) (us := [.bool e51.Ring]) rfl rfl (fun _ => rfl)) rfl rfl fun a hS => ?_)
          refine wpList_nil ?_
          try simp only [Exit.then, Exit.inBlock, ↓reduceIte, Nat.reduceEqDiff]
          refine hK20 _ _ ?_
          rcases bool2 (e51.Ring) with hb58 | hb58
          · replace hM := ct hb58 hM
            refine c_t hS rfl hb58 ?_
            refine r_list ?_
            refine wl rfl (ky (v := .int .i64 32) hS (y_assign hS rfl) rfl rfl fun a hS => ?_)
            refine wpList_nil ?_
            try simp only [Exit.then, Exit.inBlock, ↓reduceIte, Nat.reduceEqDiff]
            exact ⟨n_1, 32, 0, (hS.meet [0] (by decide) ⟨rfl, rfl, rfl, trivial⟩ ⟨rfl, trivial⟩ ⟨⟨3, rfl⟩, trivial⟩), hM⟩
          · replace hM := cf hb58 hM
            refine c_f hS rfl hb58 ?_
            refine wp_skip ?_
            try simp only [Exit.then, Exit.inBlock, ↓reduceIte, Nat.reduceEqDiff]
            exact ⟨n_1, 31, 0, (hS.meet [0] (by decide) ⟨rfl, rfl, rfl, trivial⟩ ⟨rfl, trivial⟩ ⟨⟨3, rfl⟩, trivial⟩), hM⟩
        · rintro a w ⟨n46, kind47, g48, hS, hM⟩
          unfold key_Of_j1 at hM
          refine wp_seq_k fun K19 hK19 => ?_
          refine r_list ?_
          refine wl rfl (ky (v := .int .i64 kind47) hS (y_move hS rfl) rfl rfl fun a hS => ?_)
          refine wl rfl (ky (v := .int .i64 n46) hS (y_move hS rfl) rfl rfl fun a hS => ?_)
          obtain ⟨u49, hu49, hM⟩ := bd hM
          refine wl rfl (k_call hS ci51 rfl rfl (itoaM_c _ _ hS.dlt (hS.get 0 rfl) n46 _ hu49) fun _ w hR a hk hA => ?_)
          have he := Eq.symm hR
          subst he
          have hS := hA [] (fun r hr => by cases hr) List.Pairwise.nil
          refine wl rfl (ky (v := .agg #[.int .i64 kind47, .string u49]) hS (y_build (ps := [(0, .tmp 24), (1, .tmp 26)]) hS pl26 ze26 rfl (us := [[.int .i64 kind47], [.string u49]]) ⟨rfl, ⟨rfl, trivial⟩⟩ (ws := [.int .i64 kind47, .string u49]) rfl) rfl rfl fun a hS => ?_)
          refine wl rfl (k_store hS rfl rfl (us := [.int .i64 kind47, .string u49]) rfl ty26 0 rfl rfl rfl (oc rfl (oc rfl on)) fun w hk hS => ?_)
          refine wpList_nil ?_
          try simp only [Exit.then, Exit.inBlock, ↓reduceIte, Nat.reduceEqDiff]
          refine hK19 _ _ ?_
          refine wp_ret ?_
          injection hM with hM
          subst hM
          try simp only [Exit.then, Exit.inBlock, ↓reduceIte, Nat.reduceEqDiff]
          refine ret_ok hS Tryd.results87 (res_cell hS rfl 0 rfl ty26 rfl (fun h => by cases h) res_nil) ?_
          exact rfl

noncomputable def ref23_Of_j1 (u40 : ByteArray) (g53 : Int) (k54 : Int) : Option KeyD := some ((KeyD.mk k54 u40))
noncomputable def ref23_Of (rules_ : (List RuleD)) (n_1 : Int) : Option KeyD := cond (decide ((n_1 : Int) < 0)) (some ((KeyD.mk 0 (ByteArray.mk #[])))) (cond (decide (((rules_.length : Int) : Int) ≤ n_1)) (some ((KeyD.mk 0 (ByteArray.mk #[])))) (cond (decide ((99 : Int) < n_1)) (some ((KeyD.mk 0 (ByteArray.mk #[])))) ((itoaM n_1).bind fun u40 => (getI rules_ n_1).bind fun e55 => cond e55.Ring (ref23_Of_j1 u40 0 32) (ref23_Of_j1 u40 0 31))))
set_option maxRecDepth 100000 in
set_option maxHeartbeats 4000000 in
theorem ref23_Of_c (T : Nat → Prop) (W0 : World) (hT : ∀ k, T k → k < W0.heap.size) (hLv : LvP T W0) (rules_ : (List RuleD)) (n_1 : Int) (v1 : Value) (hv1 : SlR R_RuleD T W0 v1 rules_) (y : KeyD) (hM : ref23_Of rules_ n_1 = some y) : Rets Tryd.prog No 61 [v1, .int .i64 n_1] W0 (fun v w' => v = .agg #[.int .i64 y.Kind, .string y.Text]) := by
  refine enter (c := _) Tryd.func61 rfl T 29 Tryd.ntmps61 hT rfl fun a hS => ?_
  replace hS := hS.fact LvF (LvP.dn hLv)
  replace hS := hS.fact (SlF R_RuleD v1 rules_) (SlR.dn hv1)
  unfold ref23_Of at hM
  refine wp_seq_k fun K11 hK11 => ?_
  refine r_list ?_
  refine wl rfl (k_alloc hS ze26 rfl fun b32 hnb34 a w hk hS => ?_)
  refine wpList_nil ?_
  try simp only [Exit.then, Exit.inBlock, ↓reduceIte, Nat.reduceEqDiff]
  refine hK11 _ _ ?_
  refine wp_seq_k fun K12 hK12 => ?_
  refine wp_seq_k fun K13 hK13 => ?_
  refine r_list ?_
  refine wl rfl (ky (v := .int .i64 n_1) hS (y_move hS rfl) rfl rfl fun a hS => ?_)
  refine wl rfl (ky (v := .bool (decide ((n_1 : Int) < 0))) hS (y_int hS rfl rfl rfl) rfl rfl fun a hS => ?_)
  refine wl rfl (ky (v := .bool (decide ((n_1 : Int) < 0))) hS (y_move hS rfl) rfl rfl fun a hS => ?_)
  rcases bool2 (decide ((n_1 : Int) < 0)) with hb37 | hb37
  · replace hM := ct hb37 hM
    refine wn hS rfl rfl rfl hb37 rfl rfl fun a hS => ?_
    refine wn hS rfl rfl rfl hb37 rfl rfl fun a hS => ?_
    refine wn hS rfl rfl rfl hb37 rfl rfl fun a hS => ?_
    refine wn hS rfl rfl rfl hb37 rfl rfl fun a hS => ?_
    refine wl rfl (ky (v := .bool true) hS (y_pickt hS rfl hb37 rfl) rfl rfl fun a hS => ?_)
    refine wl rfl (ky (v := .bool true) hS (y_move hS rfl) rfl rfl fun a hS => ?_)
    refine wn hS rfl rfl rfl rfl rfl rfl fun a hS => ?_
    refine wn hS rfl rfl rfl rfl rfl rfl fun a hS => ?_
    refine wl rfl (ky (v := .bool true) hS (y_pickt hS rfl rfl rfl) rfl rfl fun a hS => ?_)
    refine wpList_nil ?_
    try simp only [Exit.then, Exit.inBlock, ↓reduceIte, Nat.reduceEqDiff]
    refine hK13 _ _ ?_
    refine c_t hS rfl rfl ?_
    refine wp_seq_k fun K14 hK14 => ?_
    refine r_list ?_
    refine wl rfl (ky (v := .agg #[.int .i64 0, .string (ByteArray.mk #[])]) hS (y_build (ps := []) hS pl26 ze26 rfl (us := []) trivial (ws := [.int .i64 0, .string (ByteArray.mk #[])]) rfl) rfl rfl fun a hS => ?_)
    refine wl rfl (k_store hS rfl rfl (us := [.int .i64 0, .string (ByteArray.mk #[])]) rfl ty26 0 rfl rfl rfl (oc rfl (oc rfl on)) fun w hk hS => ?_)
    refine wpList_nil ?_
    try simp only [Exit.then, Exit.inBlock, ↓reduceIte, Nat.reduceEqDiff]
    refine hK14 _ _ ?_
    refine wp_ret ?_
    injection hM with hM
    subst hM
    try simp only [Exit.then, Exit.inBlock, ↓reduceIte, Nat.reduceEqDiff]
    refine ret_ok hS Tryd.results61 (res_cell hS rfl 0 rfl ty26 rfl (fun h => by cases h) res_nil) ?_
    exact rfl
  · replace hM := cf hb37 hM
    refine wg hS rfl rfl rfl hb37 (ky (v := .int .i64 n_1) hS (y_move hS rfl) rfl rfl fun a hS => ?_)
    refine wg hS rfl rfl rfl hb37 (ky (v := v1) hS (y_move hS rfl) rfl rfl fun a hS => ?_)
    refine wg hS rfl rfl rfl hb37 (ky (v := .int .i64 (rules_.length : Int)) hS (y_len (R := R_RuleD) (xs := rules_) hS sl44 rfl 0 rfl) rfl rfl fun a hS => ?_)
    refine wg hS rfl rfl rfl hb37 (ky (v := .bool (decide (((rules_.length : Int) : Int) ≤ n_1))) hS (y_int hS rfl rfl rfl) rfl rfl fun a hS => ?_)
    refine wl rfl (ky (v := .bool (decide (((rules_.length : Int) : Int) ≤ n_1))) hS (y_pickf hS rfl hb37 rfl) rfl rfl fun a hS => ?_)
    refine wl rfl (ky (v := .bool (decide (((rules_.length : Int) : Int) ≤ n_1))) hS (y_move hS rfl) rfl rfl fun a hS => ?_)
    rcases bool2 (decide (((rules_.length : Int) : Int) ≤ n_1)) with hb38 | hb38
    · replace hM := ct hb38 hM
      refine wn hS rfl rfl rfl hb38 rfl rfl fun a hS => ?_
      refine wn hS rfl rfl rfl hb38 rfl rfl fun a hS => ?_
      refine wl rfl (ky (v := .bool true) hS (y_pickt hS rfl hb38 rfl) rfl rfl fun a hS => ?_)
      refine wpList_nil ?_
      try simp only [Exit.then, Exit.inBlock, ↓reduceIte, Nat.reduceEqDiff]
      refine hK13 _ _ ?_
      refine c_t hS rfl rfl ?_
      refine wp_seq_k fun K15 hK15 => ?_
      refine r_list ?_
      refine wl rfl (ky (v := .agg #[.int .i64 0, .string (ByteArray.mk #[])]) hS (y_build (ps := []) hS pl26 ze26 rfl (us := []) trivial (ws := [.int .i64 0, .string (ByteArray.mk #[])]) rfl) rfl rfl fun a hS => ?_)
      refine wl rfl (k_store hS rfl rfl (us := [.int .i64 0, .string (ByteArray.mk #[])]) rfl ty26 0 rfl rfl rfl (oc rfl (oc rfl on)) fun w hk hS => ?_)
      refine wpList_nil ?_
      try simp only [Exit.then, Exit.inBlock, ↓reduceIte, Nat.reduceEqDiff]
      refine hK15 _ _ ?_
      refine wp_ret ?_
      injection hM with hM
      subst hM
      try simp only [Exit.then, Exit.inBlock, ↓reduceIte, Nat.reduceEqDiff]
      refine ret_ok hS Tryd.results61 (res_cell hS rfl 0 rfl ty26 rfl (fun h => by cases h) res_nil) ?_
      exact rfl
    · replace hM := cf hb38 hM
      refine wg hS rfl rfl rfl hb38 (ky (v := .int .i64 n_1) hS (y_move hS rfl) rfl rfl fun a hS => ?_)
      refine wg hS rfl rfl rfl hb38 (ky (v := .bool (decide ((99 : Int) < n_1))) hS (y_int hS rfl rfl rfl) rfl rfl fun a hS => ?_)
      refine wl rfl (ky (v := .bool (decide ((99 : Int) < n_1))) hS (y_pickf hS rfl hb38 rfl) rfl rfl fun a hS => ?_)
      refine wpList_nil ?_
      try simp only [Exit.then, Exit.inBlock, ↓reduceIte, Nat.reduceEqDiff]
      refine hK13 _ _ ?_
      rcases bool2 (decide ((99 : Int) < n_1)) with hb39 | hb39
      · replace hM := ct hb39 hM
        refine c_t hS rfl hb39 ?_
        refine wp_seq_k fun K16 hK16 => ?_
        refine r_list ?_
        refine wl rfl (ky (v := .agg #[.int .i64 0, .string (ByteArray.mk #[])]) hS (y_build (ps := []) hS pl26 ze26 rfl (us := []) trivial (ws := [.int .i64 0, .string (ByteArray.mk #[])]) rfl) rfl rfl fun a hS => ?_)
        refine wl rfl (k_store hS rfl rfl (us := [.int .i64 0, .string (ByteArray.mk #[])]) rfl ty26 0 rfl rfl rfl (oc rfl (oc rfl on)) fun w hk hS => ?_)
        refine wpList_nil ?_
        try simp only [Exit.then, Exit.inBlock, ↓reduceIte, Nat.reduceEqDiff]
        refine hK16 _ _ ?_
        refine wp_ret ?_
        injection hM with hM
        subst hM
        try simp only [Exit.then, Exit.inBlock, ↓reduceIte, Nat.reduceEqDiff]
        refine ret_ok hS Tryd.results61 (res_cell hS rfl 0 rfl ty26 rfl (fun h => by cases h) res_nil) ?_
        exact rfl
      · replace hM := cf hb39 hM
        refine c_f hS rfl hb39 ?_
        refine wp_skip ?_
        try simp only [Exit.then, Exit.inBlock, ↓reduceIte, Nat.reduceEqDiff]
        refine hK12 _ _ ?_
        refine wp_seq_k fun K17 hK17 => ?_
        refine r_list ?_
        refine wl rfl (ky (v := .int .i64 n_1) hS (y_move hS rfl) rfl rfl fun a hS => ?_)
        obtain ⟨u40, hu40, hM⟩ := bd hM
        refine wl rfl (k_call hS ci51 rfl rfl (itoaM_c _ _ hS.dlt (hS.get 1 rfl) n_1 _ hu40) fun _ w hR a hk hA => ?_)
        have he := Eq.symm hR
        subst he
        have hS := hA [] (fun r hr => by cases hr) List.Pairwise.nil
        refine wl rfl (ky (v := .agg #[.int .i64 31, .string u40]) hS (y_build (ps := [(0, .const (.int .i64 31)), (1, .tmp 20)]) hS pl26 ze26 rfl (us := [[.int .i64 31], [.string u40]]) ⟨rfl, ⟨rfl, trivial⟩⟩ (ws := [.int .i64 31, .string u40]) rfl) rfl rfl fun a hS => ?_)
        refine wl rfl (k_alloc hS ze26 rfl fun b42 hnb44 a w hk hS => ?_)
        refine wl rfl (k_store hS rfl rfl (us := [.int .i64 31, .string u40]) rfl ty26 0 rfl rfl rfl (oc rfl (oc rfl on)) fun w hk hS => ?_)
        refine wpList_nil ?_
        try simp only [Exit.then, Exit.inBlock, ↓reduceIte, Nat.reduceEqDiff]
        refine hK17 _ _ ?_
        refine seq_j (J := fun a w => ∃ (g53 : Int) (k54 : Int), St W0 No T 29 [(4, .pointer (some ⟨b32, 0, none⟩)), (5, .pointer (some ⟨b42, 0, none⟩))] [.box b32 [.int .i64 g53, .string (ByteArray.mk #[])] 26, .box b42 [.int .i64 k54, .string u40] 26] [LvF] a w ∧ ref23_Of_j1 u40 g53 k54 = some y) ?_ ?_
        · skip
          refine wp_seq_k fun K20 hK20 => ?_
          refine r_list ?_
          refine wl rfl (ky (v := v1) hS (y_move hS rfl) rfl rfl fun a hS => ?_)
          refine wl rfl (ky (v := .int .i64 n_1) hS (y_move hS rfl) rfl rfl fun a hS => ?_)
          obtain ⟨e55, he55, hM⟩ := bd hM
          refine wl rfl (k_index (R := R_RuleD) hS sl44 ty48 rfl rfl 0 rfl he55 rfl fun b57 o58 cs60 hr59 a hS => ?_)
          obtain ⟨v56, rfl, hv56⟩ := hr59
          replace hS := hS.fact (SlF R_AskD v56 e55.Asks) hv56
          refine wl rfl (ky (v := .pointer (some ⟨b57, o58 + 0, none⟩)) hS (y_fld hS rfl fl48_0) rfl rfl fun a hS => ?_)
          refine wl rfl (ky (v := .bool e55.Ring) hS (y_loadc (k := 0) hS ty4 1 rfl rfl (fun _ h => h.elim) (us := [.bool e55.Ring]) rfl rfl (fun _ => rfl)) rfl rfl fun a hS => ?_)
          refine wpList_nil ?_
          try simp only [Exit.then, Exit.inBlock, ↓reduceIte, Nat.reduceEqDiff]
          refine hK20 _ _ ?_
          rcases bool2 (e55.Ring) with hb62 | hb62
          · replace hM := ct hb62 hM
            refine c_t hS rfl hb62 ?_
            refine r_list ?_
            refine wl rfl (ky (v := .pointer (some ⟨b42, 0 + 0, none⟩)) hS (y_fld hS rfl fl26_0) rfl rfl fun a hS => ?_)
            refine wl rfl (k_store hS rfl rfl (us := [.int .i64 32]) rfl ty3 0 rfl rfl rfl (oc rfl on) fun w hk hS => ?_)
            refine wpList_nil ?_
            try simp only [Exit.then, Exit.inBlock, ↓reduceIte, Nat.reduceEqDiff]
            exact ⟨0, 32, (hS.meet [1, 0] (by decide) ⟨rfl, rfl, trivial⟩ ⟨rfl, rfl, trivial⟩ ⟨⟨3, rfl⟩, trivial⟩), hM⟩
          · replace hM := cf hb62 hM
            refine c_f hS rfl hb62 ?_
            refine wp_skip ?_
            try simp only [Exit.then, Exit.inBlock, ↓reduceIte, Nat.reduceEqDiff]
            exact ⟨0, 31, (hS.meet [1, 0] (by decide) ⟨rfl, rfl, trivial⟩ ⟨rfl, rfl, trivial⟩ ⟨⟨3, rfl⟩, trivial⟩), hM⟩
        · rintro a w ⟨g53, k54, hS, hM⟩
          unfold ref23_Of_j1 at hM
          refine wp_seq_k fun K19 hK19 => ?_
          refine r_list ?_
          refine wl rfl (ky (v := .agg #[.int .i64 k54, .string u40]) hS (y_load hS rfl ty26 1 rfl id (us := [.int .i64 k54, .string u40]) rfl rfl (fun h => by cases h)) rfl rfl fun a hS => ?_)
          refine wl rfl (k_store hS rfl rfl (us := [.int .i64 k54, .string u40]) rfl ty26 0 rfl rfl rfl (oc rfl (oc rfl on)) fun w hk hS => ?_)
          refine wpList_nil ?_
          try simp only [Exit.then, Exit.inBlock, ↓reduceIte, Nat.reduceEqDiff]
          refine hK19 _ _ ?_
          refine wp_ret ?_
          injection hM with hM
          subst hM
          try simp only [Exit.then, Exit.inBlock, ↓reduceIte, Nat.reduceEqDiff]
          refine ret_ok hS Tryd.results61 (res_cell hS rfl 0 rfl ty26 rfl (fun h => by cases h) res_nil) ?_
          exact rfl

noncomputable def mill_Light (t_0 : (List Int)) : Option Bool := some (decide (((t_0.length : Int) : Int) ≤ 400))
set_option maxRecDepth 100000 in
set_option maxHeartbeats 4000000 in
theorem mill_Light_c (T : Nat → Prop) (W0 : World) (hT : ∀ k, T k → k < W0.heap.size) (t_0 : (List Int)) (v1 : Value) (hv1 : SlR (Rep.int .i64) T W0 v1 t_0) (y : Bool) (hM : mill_Light t_0 = some y) : Rets Tryd.prog No 26 [v1] W0 (fun v w' => v = .bool y) := by
  refine enter (c := _) Tryd.func26 rfl T 6 Tryd.ntmps26 hT rfl fun a hS => ?_
  replace hS := hS.fact (SlF (Rep.int .i64) v1 t_0) (SlR.dn hv1)
  unfold mill_Light at hM
  refine wp_seq_k fun K3 hK3 => ?_
  refine r_list ?_
  refine wl rfl (ky (v := .bool false) hS (y_assign hS rfl) rfl rfl fun a hS => ?_)
  refine wpList_nil ?_
  try simp only [Exit.then, Exit.inBlock, ↓reduceIte, Nat.reduceEqDiff]
  refine hK3 _ _ ?_
  refine wp_seq_k fun K4 hK4 => ?_
  refine r_list ?_
  refine wl rfl (ky (v := v1) hS (y_move hS rfl) rfl rfl fun a hS => ?_)
  refine wl rfl (ky (v := .int .i64 (t_0.length : Int)) hS (y_len (R := (Rep.int .i64)) (xs := t_0) hS sl39 rfl 0 rfl) rfl rfl fun a hS => ?_)
  refine wl rfl (ky (v := .bool (decide (((t_0.length : Int) : Int) ≤ 400))) hS (y_int hS rfl rfl rfl) rfl rfl fun a hS => ?_)
  refine wl rfl (ky (v := .bool (decide (((t_0.length : Int) : Int) ≤ 400))) hS (y_assign hS rfl) rfl rfl fun a hS => ?_)
  refine wpList_nil ?_
  try simp only [Exit.then, Exit.inBlock, ↓reduceIte, Nat.reduceEqDiff]
  refine hK4 _ _ ?_
  refine wp_ret ?_
  injection hM with hM
  subst hM
  try simp only [Exit.then, Exit.inBlock, ↓reduceIte, Nat.reduceEqDiff]
  refine ret_ok hS Tryd.results26 (res_tmp hS rfl res_nil) ?_
  exact rfl

noncomputable def mill_Roll (t_0 : (List Int)) : Option DiceD := some ((DiceD.mk t_0 0))
set_option maxRecDepth 100000 in
set_option maxHeartbeats 4000000 in
theorem mill_Roll_c (T : Nat → Prop) (W0 : World) (hT : ∀ k, T k → k < W0.heap.size) (t_0 : (List Int)) (v1 : Value) (hv1 : SlR (Rep.int .i64) T W0 v1 t_0) (y : DiceD) (hM : mill_Roll t_0 = some y) : Rets Tryd.prog No 29 [v1] W0 (fun v w' => ∃ (b2 : Nat) (v3 : Value), v = .pointer (some ⟨b2, 0, none⟩) ∧ W0.heap.size ≤ b2 ∧ w'.heap[b2]? = some (.cells #[v3, .int .i64 y.At] 104 (0, 0)) ∧ SlR (Rep.int .i64) (dT T [.box b2 [v3, .int .i64 y.At] 104]) w' v3 y.L) := by
  refine enter (c := _) Tryd.func29 rfl T 6 Tryd.ntmps29 hT rfl fun a hS => ?_
  replace hS := hS.fact (SlF (Rep.int .i64) v1 t_0) (SlR.dn hv1)
  unfold mill_Roll at hM
  refine wp_seq_k fun K3 hK3 => ?_
  refine r_list ?_
  refine wl rfl (ky (v := .pointer none) hS (y_assign hS rfl) rfl rfl fun a hS => ?_)
  refine wpList_nil ?_
  try simp only [Exit.then, Exit.inBlock, ↓reduceIte, Nat.reduceEqDiff]
  refine hK3 _ _ ?_
  refine wp_seq_k fun K4 hK4 => ?_
  refine r_list ?_
  refine wl rfl (ky (v := v1) hS (y_move hS rfl) rfl rfl fun a hS => ?_)
  refine wl rfl (ky (v := .agg #[v1, .int .i64 0]) hS (y_build (ps := [(0, .tmp 3)]) hS pl104 ze104 rfl (us := [[v1]]) ⟨(cells1 (SlR.one ((hS.get 0 rfl) : SlR (Rep.int .i64) _ _ _ _))), trivial⟩ (ws := [v1, .int .i64 0]) rfl) rfl rfl fun a hS => ?_)
  refine wl rfl (k_box hS rfl (cs := [v1, .int .i64 0]) rfl rfl fun b4 hnb6 a w hk hS => ?_)
  refine wl rfl (ky (v := .pointer (some ⟨b4, 0, none⟩)) hS (y_assign hS rfl) rfl rfl fun a hS => ?_)
  refine wpList_nil ?_
  try simp only [Exit.then, Exit.inBlock, ↓reduceIte, Nat.reduceEqDiff]
  refine hK4 _ _ ?_
  refine wp_ret ?_
  injection hM with hM
  subst hM
  try simp only [Exit.then, Exit.inBlock, ↓reduceIte, Nat.reduceEqDiff]
  refine ret_ok hS Tryd.results29 (res_tmp hS rfl res_nil) ?_
  exact ⟨b4, v1, rfl, hS.boxNew 0 rfl, hS.boxRow 0 rfl, (SlR.up ⟨.inr (List.mem_of_getElem? (i := 0) rfl), trivial⟩ (hS.get 0 rfl))⟩

noncomputable def dice_Next (d_0 : DiceD) (n_1 : Int) : Option (Int × DiceD) := cond (decide (((d_0.L.length : Int) : Int) ≤ d_0.At)) (some ((0, d_0))) ((getI d_0.L (IntKind.i64.wrap ((IntKind.i64.wrap (d_0.At + 1)) - 1))).bind fun e66 => (mill_Mod e66 n_1).bind fun u73 => some ((u73, (DiceD.mk d_0.L (IntKind.i64.wrap (d_0.At + 1))))))
set_option maxRecDepth 100000 in
set_option maxHeartbeats 4000000 in
theorem dice_Next_c (T : Nat → Prop) (W0 : World) (hT : ∀ k, T k → k < W0.heap.size) (d_0 : DiceD) (n_1 : Int) (v2 : Value) (b1 : Nat) (hb1 : W0.heap[b1]? = some (.cells #[v2, .int .i64 d_0.At] 104 (0, 0))) (hTb1 : ¬ T b1) (hv2 : SlR (Rep.int .i64) (dT T [.box b1 [v2, .int .i64 d_0.At] 104]) W0 v2 d_0.L) (y : Int × DiceD) (hM : dice_Next d_0 n_1 = some y) : Rets Tryd.prog (fun k => k = b1) 63 [.pointer (some ⟨b1, 0, none⟩), .int .i64 n_1] W0 (fun v w' => ∃ (v3 : Value), v = .int .i64 y.1 ∧ w'.heap[b1]? = some (.cells #[v3, .int .i64 y.2.At] 104 (0, 0)) ∧ SlR (Rep.int .i64) (dT T [.box b1 [v3, .int .i64 y.2.At] 104]) w' v3 y.2.L) := by
  refine enterm (c := _) Tryd.func63 rfl T 35 Tryd.ntmps63 hT rfl hb1 hTb1 fun a hS => ?_
  replace hS := hS.fact (SlF (Rep.int .i64) v2 d_0.L) hv2
  unfold dice_Next at hM
  refine wp_seq_k fun K7 hK7 => ?_
  refine r_list ?_
  refine wl rfl (ky (v := .int .i64 0) hS (y_assign hS rfl) rfl rfl fun a hS => ?_)
  refine wpList_nil ?_
  try simp only [Exit.then, Exit.inBlock, ↓reduceIte, Nat.reduceEqDiff]
  refine hK7 _ _ ?_
  refine wp_seq_k fun K8 hK8 => ?_
  refine wp_seq_k fun K9 hK9 => ?_
  refine draws [] hS mixed rfl (fun c a d v w h => by cases d <;> exact h) fun w hQ hS => ?_
  refine dy 0 (v := .pointer (some ⟨b1, 0, none⟩)) rfl (by kernel_rfl) (by kernel_rfl) (by kernel_rfl) rfl hQ hS (y_move hS rfl) rfl rfl rfl fun a hS => ?_
  refine dy 1 (v := .pointer (some ⟨b1, 0, none⟩)) rfl (by kernel_rfl) (by kernel_rfl) (by kernel_rfl) rfl hQ hS (y_nil hS rfl) rfl rfl rfl fun a hS => ?_
  refine dy 2 (v := .pointer (some ⟨b1, 0 + 1, none⟩)) rfl (by kernel_rfl) (by kernel_rfl) (by kernel_rfl) rfl hQ hS (y_fld hS rfl fl104_1) rfl rfl rfl fun a hS => ?_
  refine dy (l := []) 3 (v := .int .i64 d_0.At) rfl (by kernel_rfl) (by kernel_rfl) (by kernel_rfl) (by kernel_rfl) hQ hS (y_load hS rfl ty3 0 rfl eo_nil (us := [.int .i64 d_0.At]) rfl rfl (fun _ => rfl)) rfl rfl rfl fun a hS => ?_
  refine dy 4 (v := .pointer (some ⟨b1, 0, none⟩)) rfl (by kernel_rfl) (by kernel_rfl) (by kernel_rfl) rfl hQ hS (y_move hS rfl) rfl rfl rfl fun a hS => ?_
  refine dy 5 (v := .pointer (some ⟨b1, 0, none⟩)) rfl (by kernel_rfl) (by kernel_rfl) (by kernel_rfl) rfl hQ hS (y_nil hS rfl) rfl rfl rfl fun a hS => ?_
  refine dy 6 (v := .pointer (some ⟨b1, 0 + 0, none⟩)) rfl (by kernel_rfl) (by kernel_rfl) (by kernel_rfl) rfl hQ hS (y_fld hS rfl fl104_0) rfl rfl rfl fun a hS => ?_
  refine dy (l := []) 7 (v := v2) rfl (by kernel_rfl) (by kernel_rfl) (by kernel_rfl) (by kernel_rfl) hQ hS (y_load hS rfl ty39 0 rfl eo_nil (us := [v2]) rfl rfl (fun _ => rfl)) rfl rfl rfl fun a hS => ?_
  refine dy 8 (v := .int .i64 (d_0.L.length : Int)) rfl (by kernel_rfl) (by kernel_rfl) (by kernel_rfl) rfl hQ hS (y_len (R := (Rep.int .i64)) (xs := d_0.L) hS sl39 rfl 0 rfl) rfl rfl rfl fun a hS => ?_
  refine dy 9 (v := .bool (decide (((d_0.L.length : Int) : Int) ≤ d_0.At))) rfl (by kernel_rfl) (by kernel_rfl) (by kernel_rfl) rfl hQ hS (y_int hS rfl rfl rfl) rfl rfl rfl fun a hS => ?_
  refine wpE_done (by kernel_rfl) ?_ _
  try simp only [Exit.then, Exit.inBlock, ↓reduceIte, Nat.reduceEqDiff]
  refine hK9 _ _ ?_
  rcases bool2 (decide (((d_0.L.length : Int) : Int) ≤ d_0.At)) with hb38 | hb38
  · replace hM := ct hb38 hM
    refine c_t hS rfl hb38 ?_
    refine wp_seq_k fun K10 hK10 => ?_
    refine r_list ?_
    refine wl rfl (ky (v := .int .i64 0) hS (y_assign hS rfl) rfl rfl fun a hS => ?_)
    refine wpList_nil ?_
    try simp only [Exit.then, Exit.inBlock, ↓reduceIte, Nat.reduceEqDiff]
    refine hK10 _ _ ?_
    refine wp_ret ?_
    injection hM with hM
    subst hM
    try simp only [Exit.then, Exit.inBlock, ↓reduceIte, Nat.reduceEqDiff]
    refine ret_ok hS Tryd.results63 (res_tmp hS rfl res_nil) ?_
    exact ⟨v2, rfl, hS.boxRow 0 rfl, (SlR.up ⟨.inr (List.mem_of_getElem? (i := 0) rfl), trivial⟩ (hS.get 0 rfl))⟩
  · replace hM := cf hb38 hM
    refine c_f hS rfl hb38 ?_
    refine wp_skip ?_
    try simp only [Exit.then, Exit.inBlock, ↓reduceIte, Nat.reduceEqDiff]
    refine hK8 _ _ ?_
    refine wp_seq_k fun K11 hK11 => ?_
    refine r_list ?_
    refine wl rfl (ky (v := .pointer (some ⟨b1, 0, none⟩)) hS (y_move hS rfl) rfl rfl fun a hS => ?_)
    refine wl rfl (ky (v := .pointer (some ⟨b1, 0, none⟩)) hS (y_nil hS rfl) rfl rfl fun a hS => ?_)
    refine wl rfl (ky (v := .pointer (some ⟨b1, 0 + 1, none⟩)) hS (y_fld hS rfl fl104_1) rfl rfl fun a hS => ?_)
    refine wl rfl (ky (v := .int .i64 d_0.At) hS (y_load hS rfl ty3 0 rfl id (us := [.int .i64 d_0.At]) rfl rfl (fun _ => rfl)) rfl rfl fun a hS => ?_)
    refine wl rfl (ky (v := .int .i64 (IntKind.i64.wrap (d_0.At + 1))) hS (y_int hS rfl rfl rfl) rfl rfl fun a hS => ?_)
    refine wl rfl (ky (v := .pointer (some ⟨b1, 0, none⟩)) hS (y_nil hS rfl) rfl rfl fun a hS => ?_)
    refine wl rfl (ky (v := .pointer (some ⟨b1, 0 + 1, none⟩)) hS (y_fld hS rfl fl104_1) rfl rfl fun a hS => ?_)
    refine wl rfl (k_store hS rfl rfl (us := [.int .i64 (IntKind.i64.wrap (d_0.At + 1))]) rfl ty3 0 rfl rfl rfl (oc rfl on) fun w hk hS => ?_)
    refine wpList_nil ?_
    try simp only [Exit.then, Exit.inBlock, ↓reduceIte, Nat.reduceEqDiff]
    refine hK11 _ _ ?_
    refine wp_seq_k fun K12 hK12 => ?_
    refine draws [] hS mixed rfl (fun c a d v w h => by cases d <;> exact h) fun w hQ hS => ?_
    refine dy 0 (v := .pointer (some ⟨b1, 0, none⟩)) rfl (by kernel_rfl) (by kernel_rfl) (by kernel_rfl) rfl hQ hS (y_move hS rfl) rfl rfl rfl fun a hS => ?_
    refine dy 1 (v := .pointer (some ⟨b1, 0, none⟩)) rfl (by kernel_rfl) (by kernel_rfl) (by kernel_rfl) rfl hQ hS (y_nil hS rfl) rfl rfl rfl fun a hS => ?_
    refine dy 2 (v := .pointer (some ⟨b1, 0 + 0, none⟩)) rfl (by kernel_rfl) (by kernel_rfl) (by kernel_rfl) rfl hQ hS (y_fld hS rfl fl104_0) rfl rfl rfl fun a hS => ?_
    refine dy (l := []) 3 (v := v2) rfl (by kernel_rfl) (by kernel_rfl) (by kernel_rfl) (by kernel_rfl) hQ hS (y_load hS rfl ty39 0 rfl eo_nil (us := [v2]) rfl rfl (fun _ => rfl)) rfl rfl rfl fun a hS => ?_
    refine dy 4 (v := .pointer (some ⟨b1, 0, none⟩)) rfl (by kernel_rfl) (by kernel_rfl) (by kernel_rfl) rfl hQ hS (y_move hS rfl) rfl rfl rfl fun a hS => ?_
    refine dy 5 (v := .pointer (some ⟨b1, 0, none⟩)) rfl (by kernel_rfl) (by kernel_rfl) (by kernel_rfl) rfl hQ hS (y_nil hS rfl) rfl rfl rfl fun a hS => ?_
    refine dy 6 (v := .pointer (some ⟨b1, 0 + 1, none⟩)) rfl (by kernel_rfl) (by kernel_rfl) (by kernel_rfl) rfl hQ hS (y_fld hS rfl fl104_1) rfl rfl rfl fun a hS => ?_
    refine dy (l := []) 7 (v := .int .i64 (IntKind.i64.wrap (d_0.At + 1))) rfl (by kernel_rfl) (by kernel_rfl) (by kernel_rfl) (by kernel_rfl) hQ hS (y_load hS rfl ty3 0 rfl eo_nil (us := [.int .i64 (IntKind.i64.wrap (d_0.At + 1))]) rfl rfl (fun _ => rfl)) rfl rfl rfl fun a hS => ?_
    refine dy 8 (v := .int .i64 (IntKind.i64.wrap ((IntKind.i64.wrap (d_0.At + 1)) - 1))) rfl (by kernel_rfl) (by kernel_rfl) (by kernel_rfl) rfl hQ hS (y_int hS rfl rfl rfl) rfl rfl rfl fun a hS => ?_
    obtain ⟨e66, he66, hM⟩ := bd hM
    obtain ⟨b67, o68, cs70, hr69, hy72, hS⟩ := d_index (R := (Rep.int .i64)) hS sl39 ty3 0 rfl he66
    obtain rfl := hr69
    refine dy 9 (v := .pointer (some ⟨b67, o68, none⟩)) rfl (by kernel_rfl) (by kernel_rfl) (by kernel_rfl) rfl hQ hS (hy72 rfl rfl) rfl rfl rfl fun a hS => ?_
    refine dy (l := []) 10 (v := .int .i64 e66) rfl (by kernel_rfl) (by kernel_rfl) (by kernel_rfl) (by kernel_rfl) hQ hS (y_loadc (k := 0) hS ty3 0 rfl rfl es_nil (us := [.int .i64 e66]) rfl rfl (fun _ => rfl)) rfl rfl rfl fun a hS => ?_
    refine dy 11 (v := .int .i64 n_1) rfl (by kernel_rfl) (by kernel_rfl) (by kernel_rfl) rfl hQ hS (y_move hS rfl) rfl rfl rfl fun a hS => ?_
    obtain ⟨u73, hu73, hM⟩ := bd hM
    refine wpE_one (i := 12) rfl (by kernel_rfl) rfl (k_call hS ci13 rfl rfl (mill_Mod_c _ _ hS.dlt e66 n_1 _ hu73) fun _ w hR a hk hA => ⟨stN (hk), ?_⟩)
    have he := Eq.symm hR
    subst he
    have hS := hA [] (fun r hr => by cases hr) List.Pairwise.nil
    refine dy 13 (v := .int .i64 u73) rfl (by kernel_rfl) (by kernel_rfl) (by kernel_rfl) rfl hQ hS (y_assign hS rfl) rfl rfl rfl fun a hS => ?_
    refine wpE_done (by kernel_rfl) ?_ _
    try simp only [Exit.then, Exit.inBlock, ↓reduceIte, Nat.reduceEqDiff]
    refine hK12 _ _ ?_
    refine wp_ret ?_
    injection hM with hM
    subst hM
    try simp only [Exit.then, Exit.inBlock, ↓reduceIte, Nat.reduceEqDiff]
    refine ret_ok hS Tryd.results63 (res_tmp hS rfl res_nil) ?_
    exact ⟨v2, rfl, hS.boxRow 0 rfl, (SlR.up ⟨.inr (List.mem_of_getElem? (i := 0) rfl), trivial⟩ (hS.get 1 rfl))⟩

noncomputable def dice_Word (d_0 : DiceD) (l_1 : (List ByteArray)) : Option (ByteArray × DiceD) := (dice_Next d_0 (l_1.length : Int)).bind fun u9 => (getI l_1 u9.1).bind fun e11 => some ((e11, (DiceD.mk u9.2.L u9.2.At)))
set_option maxRecDepth 100000 in
set_option maxHeartbeats 4000000 in
theorem dice_Word_c (T : Nat → Prop) (W0 : World) (hT : ∀ k, T k → k < W0.heap.size) (d_0 : DiceD) (l_1 : (List ByteArray)) (v2 : Value) (v3 : Value) (b1 : Nat) (hb1 : W0.heap[b1]? = some (.cells #[v2, .int .i64 d_0.At] 104 (0, 0))) (hTb1 : ¬ T b1) (hv2 : SlR (Rep.int .i64) (dT T [.box b1 [v2, .int .i64 d_0.At] 104]) W0 v2 d_0.L) (hv3 : SlR Rep.str (dT T [.box b1 [v2, .int .i64 d_0.At] 104]) W0 v3 l_1) (y : ByteArray × DiceD) (hM : dice_Word d_0 l_1 = some y) : Rets Tryd.prog (fun k => k = b1) 66 [.pointer (some ⟨b1, 0, none⟩), v3] W0 (fun v w' => ∃ (v4 : Value), v = .string y.1 ∧ w'.heap[b1]? = some (.cells #[v4, .int .i64 y.2.At] 104 (0, 0)) ∧ SlR (Rep.int .i64) (dT T [.box b1 [v4, .int .i64 y.2.At] 104]) w' v4 y.2.L) := by
  refine enterm (c := _) Tryd.func66 rfl T 12 Tryd.ntmps66 hT rfl hb1 hTb1 fun a hS => ?_
  replace hS := hS.fact (SlF (Rep.int .i64) v2 d_0.L) hv2
  replace hS := hS.fact (SlF Rep.str v3 l_1) hv3
  unfold dice_Word at hM
  refine wp_seq_k fun K3 hK3 => ?_
  refine r_list ?_
  refine wl rfl (ky (v := .string (ByteArray.mk #[])) hS (y_assign hS rfl) rfl rfl fun a hS => ?_)
  refine wpList_nil ?_
  try simp only [Exit.then, Exit.inBlock, ↓reduceIte, Nat.reduceEqDiff]
  refine hK3 _ _ ?_
  refine wp_seq_k fun K4 hK4 => ?_
  refine r_list ?_
  refine wl rfl (ky (v := v3) hS (y_move hS rfl) rfl rfl fun a hS => ?_)
  refine wl rfl (ky (v := .pointer (some ⟨b1, 0, none⟩)) hS (y_move hS rfl) rfl rfl fun a hS => ?_)
  refine wl rfl (ky (v := v3) hS (y_move hS rfl) rfl rfl fun a hS => ?_)
  refine wl rfl (ky (v := .int .i64 (l_1.length : Int)) hS (y_len (R := Rep.str) (xs := l_1) hS sl100 rfl 0 rfl) rfl rfl fun a hS => ?_)
  obtain ⟨u9, hu9, hM⟩ := bd hM
  refine wl rfl (k_callm hS ci63 rfl rfl 0 rfl (dice_Next_c _ _ (hS.drop 0).dlt d_0 (l_1.length : Int) _ _ (hS.boxRow 0 rfl) (hS.notin 0 rfl) (SlR.lent (i := 0) rfl (hS.get 1 rfl)) _ hu9) fun _ w hR hk => ?_)
  obtain ⟨vz10_3, he, hrow, hRvz10_3⟩ := hR
  replace he := he.symm
  subst he
  refine ⟨[vz10_3, .int .i64 u9.2.At], hrow, fun a hS => ?_⟩
  replace hS := hS.fact (SlF (Rep.int .i64) vz10_3 u9.2.L) (SlR.back (i := 0) rfl hRvz10_3)
  obtain ⟨e11, he11, hM⟩ := bd hM
  refine wl rfl (k_index (R := Rep.str) hS sl100 ty9 rfl rfl 1 rfl he11 rfl fun b12 o13 cs15 hr14 a hS => ?_)
  obtain rfl := hr14
  refine wl rfl (ky (v := .string e11) hS (y_loadc (k := 0) hS ty9 0 rfl rfl (fun _ h => h.elim) (us := [.string e11]) rfl rfl (fun _ => rfl)) rfl rfl fun a hS => ?_)
  refine wl rfl (ky (v := .string e11) hS (y_assign hS rfl) rfl rfl fun a hS => ?_)
  refine wpList_nil ?_
  try simp only [Exit.then, Exit.inBlock, ↓reduceIte, Nat.reduceEqDiff]
  refine hK4 _ _ ?_
  refine wp_ret ?_
  injection hM with hM
  subst hM
  try simp only [Exit.then, Exit.inBlock, ↓reduceIte, Nat.reduceEqDiff]
  refine ret_ok hS Tryd.results66 (res_tmp hS rfl res_nil) ?_
  exact ⟨vz10_3, rfl, hS.boxRow 0 rfl, (SlR.up ⟨.inr (List.mem_of_getElem? (i := 0) rfl), trivial⟩ (hS.get 1 rfl))⟩
end Go.Proofs.YthpeklnhkkadjaaDoor
