/-
  The statement ToyRules: for every input the law returns true. The contract is carried over to the given row; the tied card is closed.
-/
import Derived.Test.YthpeklnhkkadjaaDoorT9
import Derived.Test.YthpeklnhkkadjaaDoorD5
import Derived.Test.YthpeklnhkkadjaaDoorR
import Derived.Test.YthpeklnhkkadjaaDoorT
import Derived.Test.YthpeklnhkkadjaaDoorRows
import Derived.Test.YthpeklnhkkadjaaDoorTie
import Derived.Test.YthpeklnhkkadjaaDoorCards
import Derived.ProofKit
import Derived.OpenShut
import Derived.ShutString
import Derived.ChangeOld
import Derived.SizedLaws
import Derived.Deep.Slices
import Derived.Lib.SmallJoins
import Derived.LaidMore
import Derived.SevenTiedAt
import Derived.Stop.Joined
set_option linter.unusedVariables false
namespace Go.Proofs.YthpeklnhkkadjaaDoor.toyRules
open Go.ChangeShapes Go.WideShapes Go.ChangeAt Go.RowKit Go.Deep Go.Joins
open Go.ChangeMaps (open_string shut_string)

theorem opn_AskD : Opn Tryd.prog 55 R_AskD (fun x => (True ∧ True ∧ (Lit.int .i64 x.N).wf = true ∧ (Lit.int .i64 x.Else).wf = true ∧ True)) :=
  Opn.via (Opn.struct Tryd.underlying55 (by kernel_rfl) (OpnF.cons (Opn.bool Tryd.underlying4) rfl (by kernel_rfl) (OpnF.cons (Opn.bool Tryd.underlying4) rfl (by kernel_rfl) (OpnF.cons (Opn.int Tryd.underlying3) rfl (by kernel_rfl) (OpnF.cons (Opn.int Tryd.underlying3) rfl (by kernel_rfl) (OpnF.nil _)))))) (fun x => AskD.mk x.1 x.2.1 x.2.2.1 x.2.2.2.1) (by
    rintro T w cs x ⟨c0, d0, rfl, rfl, ⟨c1, d1, rfl, rfl, ⟨c2, d2, rfl, rfl, ⟨c3, d3, rfl, rfl, rfl⟩⟩⟩⟩
    exact rfl) (fun x h => h)
theorem opn_RuleD : Opn Tryd.prog 48 R_RuleD (fun x => (True ∧ ((∀ x6 ∈ x.Asks, (True ∧ True ∧ (Lit.int .i64 x6.N).wf = true ∧ (Lit.int .i64 x6.Else).wf = true ∧ True)) ∧ x.Asks.length * Tryd.prog.bytesOf 55 ≤ reachBytes ∧ x.Asks.length ≤ maxLen) ∧ (Lit.int .i64 x.Final).wf = true ∧ (Lit.int .i64 x.C).wf = true ∧ True)) :=
  Opn.via (Opn.struct Tryd.underlying48 (by kernel_rfl) (OpnF.cons (Opn.bool Tryd.underlying4) rfl (by kernel_rfl) (OpnF.cons (Opn.slice Tryd.underlying46 (by kernel_rfl) (by decide) opn_AskD) rfl (by kernel_rfl) (OpnF.cons (Opn.int Tryd.underlying3) rfl (by kernel_rfl) (OpnF.cons (Opn.int Tryd.underlying3) rfl (by kernel_rfl) (OpnF.nil _)))))) (fun x => RuleD.mk x.1 x.2.1 x.2.2.1 x.2.2.2.1) (by
    rintro T w cs x ⟨c0, d0, rfl, rfl, ⟨c1, d1, rfl, ⟨v1, rfl, hv1⟩, ⟨c2, d2, rfl, rfl, ⟨c3, d3, rfl, rfl, rfl⟩⟩⟩⟩
    exact ⟨v1, rfl, hv1⟩) (fun x h => h)
abbrev laidL : List (String × DataW Unit) := Rows.toyRulesRow.laid
theorem laidOut : laidOutB Tryd.prog = true := by kernel_rfl
theorem met (os : Os) (args : Array Value) : laidMetH Tryd.prog laidL ((World.doorLaid Tryd.prog 400 os).forCall (fun _ _ => 0) ⟨#[], args, []⟩).memory :=
  laidMetH_of_parts3 (fuel := 8) (laidMet_of_run' 8 (by kernel_rfl) (by kernel_rfl)) (by kernel_rfl) (by kernel_rfl)
set_option maxRecDepth 100000 in
theorem lifted (os : Os) (started : os.Started) (H : Type) (enc : TypeId × Value → H) :
    ReturnsInHanded {} Tryd.checked os 5 .any (fun w args => (Rows.toyRulesSpec.pre enc Tryd.prog Tryd.f5 [] false w args ∧ laidMetH Tryd.prog laidL w) ∧ sizedMet enc Tryd.prog Tryd.f5 (OpenSpec.ofChange Rows.toyRulesSpec) false w args)
      (Rows.toyRulesSpec.post enc Tryd.prog Tryd.f5 false true false false) := by
  refine returnsInHanded_of_change_and (C := Tryd.checked) (X := fun w _ => laidMetH Tryd.prog laidL w) (fun _ _ _ hh h => h.of_heap hh) ownK started (by kernel_rfl) Tryd.func5
    (ChangeSpec.witness_shaped (enc := enc) (C := Tryd.checked) (os := os) (X := fun w _ => laidMetH Tryd.prog laidL w) false (World.doorLaid Tryd.prog 400 os) #[.slice none 0 0, .slice none 0 0, .int .i64 0, .int .i64 0, .int .i64 0] 8 rfl (World.shaped_of_RefB (by kernel_rfl) (by kernel_rfl)) (by kernel_rfl) (by kernel_rfl) (by kernel_rfl) (met os _)) ?_
  intro W base args ds gs before hval0 hW hcnd hsz0 hL hholds
  have hval : ∀ (j : Nat) t v, Tryd.f5.params[j]? = some t → args[j]? = some v → Value.okWide Tryd.prog W .any base t v := hval0
  have hsz : (DataW.weightsEach Tryd.prog (Tryd.f5.params.toList ++ Rows.toyRulesSpec.plain.varTypes Tryd.prog) (ds ++ gs)).all (· ≤ reachBytes) = true := hsz0
  have hW' := hW
  obtain ⟨p, q, hA0, hV, rfl, hfz, hnd⟩ := hW
  have hA : DataW.TrodAll enc Tryd.prog W 0 (fun _ => true) true Tryd.f5.params.toList args.toList ds p := hA0
  rw [Tryd.params5] at hA hval hsz
  obtain ⟨v0, vs0, d0, ds0, p0, q0, hargs, rfl, rfl, h0, r0⟩ := trodAll_cons hA
  obtain ⟨v1, vs1, d1, ds1, p1, q1, rfl, rfl, rfl, h1, r1⟩ := trodAll_cons r0
  obtain ⟨v2, vs2, d2, ds2, p2, q2, rfl, rfl, rfl, h2, r2⟩ := trodAll_cons r1
  obtain ⟨v3, vs3, d3, ds3, p3, q3, rfl, rfl, rfl, h3, r3⟩ := trodAll_cons r2
  obtain ⟨v4, vs4, d4, ds4, p4, q4, rfl, rfl, rfl, h4, r4⟩ := trodAll_cons r3
  obtain ⟨rfl, rfl, rfl⟩ := trodAll_nil r4
  obtain rfl : args = #[v0, v1, v2, v3, v4] := by cases args; simp_all
  obtain ⟨rfl, rfl⟩ := trodVars_none hV
  have k0 := h0
  have lt0 : ∀ x ∈ p0, x.block < W.heap.size := by obtain ⟨m, hm⟩ := k0; exact DataW.trod_lt m _ _ _ hm
  have k1 := h1
  have lt1 : ∀ x ∈ p1, x.block < W.heap.size := by obtain ⟨m, hm⟩ := k1; exact DataW.trod_lt m _ _ _ hm
  have k2 := h2
  have lt2 : ∀ x ∈ p2, x.block < W.heap.size := by obtain ⟨m, hm⟩ := k2; exact DataW.trod_lt m _ _ _ hm
  have k3 := h3
  have lt3 : ∀ x ∈ p3, x.block < W.heap.size := by obtain ⟨m, hm⟩ := k3; exact DataW.trod_lt m _ _ _ hm
  have k4 := h4
  have lt4 : ∀ x ∈ p4, x.block < W.heap.size := by obtain ⟨m, hm⟩ := k4; exact DataW.trod_lt m _ _ _ hm
  obtain ⟨x0, s0, q0⟩ := Opn.arg (Opn.slice Tryd.underlying44 (by kernel_rfl) (by decide) opn_RuleD) Tryd.underlying44 hsz (j0 := 0) rfl rfl (hval 0 44 v0 rfl rfl) h0
  obtain ⟨x1, s1, q1⟩ := Opn.arg (Opn.slice Tryd.underlying39 (by kernel_rfl) (by decide) (Opn.int Tryd.underlying3)) Tryd.underlying39 hsz (j0 := 1) rfl rfl (hval 1 39 v1 rfl rfl) h1
  obtain ⟨x2, rfl, rfl, rfl, q2⟩ := open_int Tryd.underlying3 (hval 2 3 v2 rfl rfl) h2
  obtain ⟨x3, rfl, rfl, rfl, q3⟩ := open_int Tryd.underlying3 (hval 3 3 v3 rfl rfl) h3
  obtain ⟨x4, rfl, rfl, rfl, q4⟩ := open_int Tryd.underlying3 (hval 4 3 v4 rfl rfl) h4
  clear hA0 hval0
  have hLv : LvP No W := (lv_of hL (by kernel_rfl) (List.mem_iff_getElem?.2 ⟨2, rfl⟩) (List.mem_iff_getElem?.2 ⟨4, rfl⟩) (List.mem_iff_getElem?.2 ⟨3, rfl⟩)).here
  have hM : law24_ToyRules x0 x1 x2 x3 x4 = some true := toyRules_pure x0 x1 x2 x3 x4
  refine Calls.mono (law24_ToyRules_c No W (fun _ h => h.elim) hLv x0 x1 x2 x3 x4 _ _ s0 s1 true hM) fun e W' ⟨v, he, hk, hv⟩ => ?_
  subst he hv
  have bel : Below W.heap.size W W' := hk.below
  exact ⟨_, rfl, _, _, _, [], _, [], hW', trodAll_mk1 (shut_bool Tryd.underlying4 _), (trodAll_cons_mk (Below.trod laidOut (by kernel_rfl) (of_decide_eq_true (by kernel_rfl)) k0 bel lt0) (trodAll_cons_mk (Below.trod laidOut (by kernel_rfl) (of_decide_eq_true (by kernel_rfl)) k1 bel lt1) (trodAll_cons_mk (Below.trod laidOut (by kernel_rfl) (of_decide_eq_true (by kernel_rfl)) k2 bel lt2) (trodAll_cons_mk (Below.trod laidOut (by kernel_rfl) (of_decide_eq_true (by kernel_rfl)) k3 bel lt3) (trodAll_cons_mk (Below.trod laidOut (by kernel_rfl) (of_decide_eq_true (by kernel_rfl)) k4 bel lt4) trodAll_mk0))))), rfl, bel.frame _, fun h => by cases h⟩
theorem over : Rows.toyRulesRow.holds Tryd.pinned (OpenSpec.ofChange Rows.toyRulesSpec) :=
  OpenClaim.holds_of_wide 5 Tryd.f5 rfl rfl rfl rfl rfl rfl rfl ⟨rfl, rfl, rfl, rfl, rfl⟩ rfl rfl rfl rfl rfl (by kernel_rfl) Tryd.func5 (by kernel_rfl)
    (of_decide_eq_true (by kernel_rfl)) (by unfold Func.isWrapper; first | (rw [if_pos (by decide +kernel)]; kernel_rfl) | (rw [if_neg (by decide +kernel)]; exact ⟨rfl, rfl⟩))
    (fun os started H enc _ => lifted os started H enc)
theorem proved : Rows.ToyRulesCardSaid :=
  Claim7.holds_tied_plain_at .later [] [.data, .data, .data, .sentinel, .sentinel] true (true, "8d34848ac95b1780baab09a111e8a362f869cdea9fe53e6530b385570a7a79c1") true
    over (fun _ h => by cases h) (by kernel_rfl) (fun _ h => by cases h) toyRules_row_tie rfl ⟨rfl, rfl⟩ (by kernel_rfl) rfl
    (fun f fn hf hfn => by
      obtain rfl : f = 5 := Option.some.inj ((show Tryd.prog.funcNamed "recompile/recompilelaw24.ToyRules" = some 5 by kernel_rfl).symm.trans hf) |>.symm
      obtain rfl : fn = Tryd.f5 := (Option.some.inj (Tryd.func5.symm.trans hfn)).symm
      exact ⟨by kernel_rfl, fun j t ht => by
        rw [Tryd.params5] at ht
        have hm : t ∈ [44, 39, 3, 3, 3] := by simpa using Array.mem_of_getElem? ht
        have hall : ([44, 39, 3, 3, 3].all fun u => !Tryd.prog.wantsStandIn u) = true := by kernel_rfl
        exact (show Tryd.prog.wantsStandIn t = false by simpa using List.all_eq_true.1 hall t hm)⟩)
    (by kernel_rfl)
end Go.Proofs.YthpeklnhkkadjaaDoor.toyRules
