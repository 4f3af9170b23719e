/- What the listed variables give the walks; the door's own heap meets the condition. -/
import Derived.Test.YtdappapdddnciaaDoorH0
import Derived.Test.YtdappapdddnciaaDoorRows
import Derived.ProofKit
import Derived.LaidMore
import Derived.LaidLaws
import Derived.MakeChecks
import Derived.Lib.LaidTab
set_option linter.unusedVariables false
namespace Go.Proofs.YtdappapdddnciaaDoor
open Go.RowKit Go.ChangeShapes Go.WideShapes Go.ChangeAt
open Go.Lib hiding intOf

theorem ownK : ownKnob Tryd.prog.godebug = none := by kernel_rfl
theorem LaidVars.mem {P : Program} {w : World} {nm : String} {d : DataW Unit} : ∀ {l : List (String × DataW Unit)} {ps : List MemPlace}, DataW.LaidVars P w l ps → (nm, d) ∈ l →
    ∃ g t cs fuel p, P.globalNamed nm = some g ∧ (P.globals[g]?).map (·.type) = some t ∧ w.var? P nm = some cs ∧ DataW.trod (fun _ => ()) P w 0 (fun _ => true) false fuel t cs.toList = some (d, p)
  | [], _, _, hm => by cases hm
  | (n1, d1) :: l, ps, h, hm => by
    obtain ⟨g, t, cs, f, p, q, hg, ht, hv, hd, hq, _⟩ := h
    rcases List.mem_cons.1 hm with he | hm
    · injection he with h1 h2
      subst h1 h2
      exact ⟨g, t, cs, f, p, hg, ht, hv, hd⟩
    · exact LaidVars.mem hq hm
theorem laid_tab {W : World} {l : List (String × DataW Unit)} (h : laidMet Tryd.prog l W) (hm : ("internal/strconv.uint64pow10", Lib.tabData .u64 pow10Tab) ∈ l) : TabIs Tryd.prog W "internal/strconv.uint64pow10" .u64 pow10Tab := by
  obtain ⟨ps, hl, _⟩ := h
  obtain ⟨g, t, cs, f, p, hg, ht, hv, hd⟩ := LaidVars.mem hl hm
  obtain rfl := Option.some.inj ((show Tryd.prog.globalNamed "internal/strconv.uint64pow10" = some 1 by kernel_rfl).symm.trans hg)
  obtain rfl := Option.some.inj ((show (Tryd.prog.globals[1]?).map (·.type) = some 92 by kernel_rfl).symm.trans ht)
  unfold TabIs
  rw [hv, ← cells_of_tab Tryd.underlying92 Tryd.underlying81 (by kernel_rfl) (by kernel_rfl) hd]
theorem lv_of {W : World} {l : List (String × DataW Unit)} (h : laidMetH Tryd.prog l W) (hp : (l.all fun x => x.2.handleName?.isNone) = true)
    (h1 : ("internal/strconv.uint64pow10", Lib.tabData .u64 pow10Tab) ∈ l) : Lv W := by
  rw [MakeChecks.laidMetH_plain _ _ _ hp] at h
  exact ⟨laid_tab h h1⟩
theorem met_of {l : List (String × DataW Unit)} (os : Os) (args : Array Value) (ps : List MemPlace) (fuel : Nat) (h : True) : True := trivial
end Go.Proofs.YtdappapdddnciaaDoor
