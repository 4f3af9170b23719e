/- What the listed variables give the walks; the door's own heap meets the condition. -/
import Derived.Test.YthpeklnhkkadjaaDoorH0
import Derived.Test.YthpeklnhkkadjaaDoorRows
import Derived.ProofKit
import Derived.LaidMore
import Derived.LaidLaws
import Derived.MakeChecks
import Derived.Lib.LaidTab
set_option linter.unusedVariables false
namespace Go.Proofs.YthpeklnhkkadjaaDoor
open Go.RowKit Go.ChangeShapes Go.WideShapes Go.ChangeAt
open Go.Lib hiding intOf

theorem ownK : ownKnob Tryd.prog.godebug = none := by kernel_rfl
theorem LaidVars.mem {P : Program} {w : World} {nm : String} {d : DataW Unit} : ∀ {l : List (String × DataW Unit)} {ps : List MemPlace}, DataW.LaidVars P w l ps → (nm, d) ∈ l →
    ∃ g t cs fuel p, P.globalNamed nm = some g ∧ (P.globals[g]?).map (·.type) = some t ∧ w.var? P nm = some cs ∧ DataW.trod (fun _ => ()) P w 0 (fun _ => true) false fuel t cs.toList = some (d, p)
  | [], _, _, hm => by cases hm
  | (n1, d1) :: l, ps, h, hm => by
    obtain ⟨g, t, cs, f, p, q, hg, ht, hv, hd, hq, _⟩ := h
    rcases List.mem_cons.1 hm with he | hm
    · injection he with h1 h2
      subst h1 h2
      exact ⟨g, t, cs, f, p, hg, ht, hv, hd⟩
    · exact LaidVars.mem hq hm
theorem laid_tab {W : World} {l : List (String × DataW Unit)} (h : laidMet Tryd.prog l W) (hm : ("internal/strconv.uint64pow10", Lib.tabData .u64 pow10Tab) ∈ l) : TabIs Tryd.prog W "internal/strconv.uint64pow10" .u64 pow10Tab := by
  obtain ⟨ps, hl, _⟩ := h
  obtain ⟨g, t, cs, f, p, hg, ht, hv, hd⟩ := LaidVars.mem hl hm
  obtain rfl := Option.some.inj ((show Tryd.prog.globalNamed "internal/strconv.uint64pow10" = some 1 by kernel_rfl).symm.trans hg)
  obtain rfl := Option.some.inj ((show (Tryd.prog.globals[1]?).map (·.type) = some 158 by kernel_rfl).symm.trans ht)
  unfold TabIs
  rw [hv, ← cells_of_tab Tryd.underlying158 Tryd.underlying142 (by kernel_rfl) (by kernel_rfl) hd]
theorem laid_err {W : World} {l : List (String × DataW Unit)} (h : laidMet Tryd.prog l W) {nm : String} {d : DataW Unit} {s : String} {g0 : Nat} (hm : (nm, DataW.iface s d) ∈ l) (hg0 : Tryd.prog.globalNamed nm = some g0) (ht0 : (Tryd.prog.globals[g0]?).map (·.type) = some 129) :
    ∃ ev, W.cell? ⟨g0, 0, none⟩ = some ev ∧ (ev = .nilIface ∨ ∃ te pe, ev = .iface te pe) := by
  obtain ⟨ps, hl, _⟩ := h
  obtain ⟨g, t, cs, f, p, hg, ht, hv, hd⟩ := LaidVars.mem hl hm
  obtain rfl := Option.some.inj (hg0.symm.trans hg)
  obtain rfl := Option.some.inj (ht0.symm.trans ht)
  obtain ⟨_, u, v, hcs, _, _⟩ := iface_of_trod Tryd.underlying129 hd
  refine ⟨.iface u v, ?_, .inr ⟨u, v, rfl⟩⟩
  have := World.var?_cell hg0 hv 0
  rw [Array.eq_one_of_toList hcs] at this
  simpa using this
theorem lv_of {W : World} {l : List (String × DataW Unit)} (h : laidMetH Tryd.prog l W) (hp : (l.all fun x => x.2.handleName?.isNone) = true)
    (h1 : ("internal/strconv.uint64pow10", Lib.tabData .u64 pow10Tab) ∈ l) (h2 : ("strconv.ErrSyntax", Rows.laid_strconv_ErrSyntax) ∈ l) (h3 : ("strconv.ErrRange", Rows.laid_strconv_ErrRange) ∈ l) : Lv W := by
  rw [MakeChecks.laidMetH_plain _ _ _ hp] at h
  exact ⟨laid_err h h2 (by kernel_rfl) (by kernel_rfl), laid_err h h3 (by kernel_rfl) (by kernel_rfl), laid_tab h h1⟩
theorem met_of {l : List (String × DataW Unit)} (os : Os) (args : Array Value) (ps : List MemPlace) (fuel : Nat) (h : True) : True := trivial
end Go.Proofs.YthpeklnhkkadjaaDoor
