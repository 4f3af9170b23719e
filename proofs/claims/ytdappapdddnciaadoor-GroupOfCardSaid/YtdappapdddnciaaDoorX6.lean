/- GroupOf, plain: for any records both groups and both lists of checks are the same. -/
import Derived.Test.YtdappapdddnciaaDoorX5
set_option linter.unusedVariables false
set_option linter.unusedSimpArgs false
namespace Go.Proofs.YtdappapdddnciaaDoor
open Go.RowKit
open Go.Lib hiding intOf

theorem groupOf_in {u : List RecordD × DiceD} (hsm : SmL u.1) (n : Int) {raw : List KeyD} {e1 e2 : RecordD} {c : KeyD} (hr : raw.length ≤ 30) :
    loop (fun s : Int => law29_GroupOf_l4 u n raw e1 e2 c s) 0 = some (Fl.go ()) := by
  generalize hks : raw ++ ([e1.Key, e2.Key, (KeyD.mk 32 (ByteArray.mk #[52])), c]) = ks
  have hkl : ks.length ≤ 34 := by subst hks; simp; omega
  refine loop_gather (xs := ks) (fun k => (k : Int)) rfl (r := Fl.go ()) (fun k x hx => ?_) ?_
  · have hk := lt_of_get hx
    unfold law29_GroupOf_l4
    rw [hks, dlt_of hx, cond_true, getI_nat, hx, Option.bind_some]
    obtain ⟨m, h1, h2, h3, _⟩ := of_both hsm n x
    rw [h1, h2, Option.bind_some, Option.bind_some, samelist_is (by omega), decide_eq_true rfl, Option.bind_some, Bool.not_true, cond_false, checks_both hsm.rm (by unfold Rm; omega), checks_is hsm (by omega), Option.bind_some, Option.bind_some,
      samechecks_refl (by have := checksL_len hsm m m; omega), Option.bind_some, Bool.not_true, cond_false, winc (by omega)]
  · unfold law29_GroupOf_l4
    rw [hks, dlt_end]; rfl
theorem groupOf_is (t : List Int) (rev : Int) (raw : List KeyD) : law29_GroupOf t rev raw = some true := by
  unfold law29_GroupOf
  rw [light_is, Option.bind_some]
  by_cases ht : t.length ≤ 400
  · rw [decide_eq_true ht, Bool.not_true, cond_false]
    by_cases hr : raw.length ≤ 30
    · rw [decide_eq_false (by omega), cond_false, roll_is, Option.bind_some]
      obtain ⟨u, hu, hg, hpos⟩ := records_ok (l := t) (i := 0) ⟨Int.le_refl _, by omega, ht⟩
      rw [hu, Option.bind_some]
      have hsm := hg.sm (by omega)
      have hlen := hg.len
      obtain ⟨q, hq, e⟩ := mod_is rev (m := 5) (by omega) (by omega)
      rw [show (5 : Int) = ((5 : Nat) : Int) from rfl, e, Option.bind_some]
      have key : loop (fun s : List Int × Int => law29_GroupOf_l5 rev raw u (q : Int) s.1 s.2) ([rev, IntKind.i64.wrap ((q : Int) - 1)], 0) = some (Fl.go ()) := by
        generalize hns : ([rev, IntKind.i64.wrap ((q : Int) - 1)] : List Int) = ns
        have hnl : ns.length = 2 := by subst hns; rfl
        refine loop_gather (xs := ns) (fun k => (ns, (k : Int))) rfl (r := Fl.go ()) (fun k x hx => ?_) ?_
        · have hk := lt_of_get hx
          unfold law29_GroupOf_l5 law29_GroupOf_j3
          dsimp only
          rw [hns, dlt_of hx, cond_true, getI_nat, hx, Option.bind_some, show (0 : Int) = ((0 : Nat) : Int) from rfl, subI_to (Nat.zero_le _), Option.bind_some, List.drop_zero, getI_nat, List.getElem?_eq_getElem hpos, Option.bind_some, wrap_small (by omega) (by omega),
            show ((u.1.length : Int) - 1) = ((u.1.length - 1 : Nat) : Int) by omega, getI_nat, List.getElem?_eq_getElem (by omega), Option.bind_some, ref23_cell (by omega), Option.bind_some, gd, room (by simp; omega), cond_true]
          rw [show ((0 : Nat) : Int) = 0 from rfl, groupOf_in hsm x hr, Option.bind_some]
          simp only [Fl.el]
          rw [winc (by omega)]
        · unfold law29_GroupOf_l5
          dsimp only
          rw [hns, dlt_end]; rfl
      rw [key, Option.bind_some]
      simp only [Fl.el]
      unfold law29_GroupOf_j2 law29_GroupOf_j1
      rw [checks_both hsm.rm (by unfold Rm; omega), checks_is hsm (by omega), Option.bind_some, Option.bind_some, samechecks_refl (by have := checksL_len hsm raw raw; omega), Option.bind_some, cond_true, awake_is, Option.bind_some]
    · rw [decide_eq_true (by omega), cond_true, awake_is]; rfl
  · rw [decide_eq_false ht, Bool.not_false, cond_true, awake_is]; rfl
end Go.Proofs.YtdappapdddnciaaDoor
