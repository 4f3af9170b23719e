/-
  NARROWER THAN 'FOR EVERY INPUT', by the rows' own cells (each row's printed sentence says how): DequeOnce: laid · DequeTwo: laid · DequeActs: laid · DequeDeals: laid · ToyRules: laid · ToyTurns: laid · ToyRings: laid · ToyAsks: laid · ToyPicks: laid.
  DERIVED. THE GIVEN ROWS OF THIS SEAT. 9 by the template 'for every input the law returns true; each argument reads behind the call as it read before'; 0 by the template 'total and deterministic' (their statements: YtappkgmbdoiocaaDoorTotals.lean).
  GIVEN WITH THE SEED: the statements are not yours to turn. If you find one false, say at which input.
  Laid BY PROGRAM, IN A SANDBOX (cutbox-rows.mjs): the forced cells as the released guide's own fill.sh prints them over the translation a0ff856e0b7ea894… (all of the seat's roots in one cut). By AI agents, Wed Nov 11 2026. No macro, syntax, notation, axiom, sorry.
-/
import Derived.Test.YtappkgmbdoiocaaDoorChecked
import GoSem.Claim
import GoSem.ClaimJoined
import GoSem.ClaimMapViews
import Derived.JoinedTies
import Derived.KernelRfl
namespace Go.Proofs.YtappkgmbdoiocaaDoor
/- THE CELL 'sum', in the pinned program and in every row, IS THE sha256 OF THE DUMP (.gsa) THAT YtappkgmbdoiocaaDoorProg.lean LOADS. Nothing in Lean hashes anything: it is a label: what it is worth is what the hold of that sum in a sandbox is worth. -/
noncomputable def Tryd.pinned : Pinned := { name := "ytappkgmbdoiocaadoor", sum := "a0ff856e0b7ea89436227aeac0779cc9f0af465cf330b1891ba0a2f8f591799c", checked := Tryd.checked }
namespace Rows
def none {H : Type} : Left H := { results := [], args := [] }

/- WHAT THE LISTED PACKAGE-LEVEL VARIABLES READ AS WHEN THE CALL BEGINS. Each datum BY PROGRAM (the guide's laid-datum.mjs) off the statement by which the dump's own 'gosem.cut.vars' lays the variable. In a bare row this is a premise. The card (YtappkgmbdoiocaaDoorCards.lean) ties it to the program's text. -/
def laid_math_bits_deBruijn32tab {H : Type} : DataW H := .agg [.lit (.int .u8 0), .lit (.int .u8 1), .lit (.int .u8 28), .lit (.int .u8 2), .lit (.int .u8 29), .lit (.int .u8 14), .lit (.int .u8 24), .lit (.int .u8 3), .lit (.int .u8 30), .lit (.int .u8 22), .lit (.int .u8 20), .lit (.int .u8 15), .lit (.int .u8 25), .lit (.int .u8 17), .lit (.int .u8 4), .lit (.int .u8 8), .lit (.int .u8 31), .lit (.int .u8 27), .lit (.int .u8 13), .lit (.int .u8 23), .lit (.int .u8 21), .lit (.int .u8 19), .lit (.int .u8 16), .lit (.int .u8 7), .lit (.int .u8 26), .lit (.int .u8 12), .lit (.int .u8 18), .lit (.int .u8 6), .lit (.int .u8 11), .lit (.int .u8 5), .lit (.int .u8 10), .lit (.int .u8 9)]
def laid_math_bits_deBruijn64tab {H : Type} : DataW H := .agg [.lit (.int .u8 0), .lit (.int .u8 1), .lit (.int .u8 56), .lit (.int .u8 2), .lit (.int .u8 57), .lit (.int .u8 49), .lit (.int .u8 28), .lit (.int .u8 3), .lit (.int .u8 61), .lit (.int .u8 58), .lit (.int .u8 42), .lit (.int .u8 50), .lit (.int .u8 38), .lit (.int .u8 29), .lit (.int .u8 17), .lit (.int .u8 4), .lit (.int .u8 62), .lit (.int .u8 47), .lit (.int .u8 59), .lit (.int .u8 36), .lit (.int .u8 45), .lit (.int .u8 43), .lit (.int .u8 51), .lit (.int .u8 22), .lit (.int .u8 53), .lit (.int .u8 39), .lit (.int .u8 33), .lit (.int .u8 30), .lit (.int .u8 24), .lit (.int .u8 18), .lit (.int .u8 12), .lit (.int .u8 5), .lit (.int .u8 63), .lit (.int .u8 55), .lit (.int .u8 48), .lit (.int .u8 27), .lit (.int .u8 60), .lit (.int .u8 41), .lit (.int .u8 37), .lit (.int .u8 16), .lit (.int .u8 46), .lit (.int .u8 35), .lit (.int .u8 44), .lit (.int .u8 21), .lit (.int .u8 52), .lit (.int .u8 32), .lit (.int .u8 23), .lit (.int .u8 11), .lit (.int .u8 54), .lit (.int .u8 26), .lit (.int .u8 40), .lit (.int .u8 15), .lit (.int .u8 34), .lit (.int .u8 20), .lit (.int .u8 31), .lit (.int .u8 10), .lit (.int .u8 25), .lit (.int .u8 14), .lit (.int .u8 19), .lit (.int .u8 9), .lit (.int .u8 13), .lit (.int .u8 8), .lit (.int .u8 7), .lit (.int .u8 6)]
def laid_internal_strconv_uint64pow10 {H : Type} : DataW H := .agg [.lit (.int .u64 1), .lit (.int .u64 10), .lit (.int .u64 100), .lit (.int .u64 1000), .lit (.int .u64 10000), .lit (.int .u64 100000), .lit (.int .u64 1000000), .lit (.int .u64 10000000), .lit (.int .u64 100000000), .lit (.int .u64 1000000000), .lit (.int .u64 10000000000), .lit (.int .u64 100000000000), .lit (.int .u64 1000000000000), .lit (.int .u64 10000000000000), .lit (.int .u64 100000000000000), .lit (.int .u64 1000000000000000), .lit (.int .u64 10000000000000000), .lit (.int .u64 100000000000000000), .lit (.int .u64 1000000000000000000), .lit (.int .u64 10000000000000000000)]
def laid_strconv_ErrRange {H : Type} : DataW H := .iface "*errors.errorString" (.ptr (.agg [.lit (.string [118, 97, 108, 117, 101, 32, 111, 117, 116, 32, 111, 102, 32, 114, 97, 110, 103, 101])]))
def laid_strconv_ErrSyntax {H : Type} : DataW H := .iface "*errors.errorString" (.ptr (.agg [.lit (.string [105, 110, 118, 97, 108, 105, 100, 32, 115, 121, 110, 116, 97, 120])]))

/-- 'recompilelaw32.DequeOnce': WHATEVER THE INPUT: true; the input reads as it did. -/
def dequeOnceSpec : ChangeSpec := { name := "dequeOnce", fn := fun _ => fun
  | [d] => { results := [.lit (.bool true)], args := [d] }
  | _ => none }
def dequeOnceRow : OpenClaim := { program := "ytappkgmbdoiocaadoor", sum := "a0ff856e0b7ea89436227aeac0779cc9f0af465cf330b1891ba0a2f8f591799c", func := "recompile/recompilelaw32.DequeOnce", spec := "dequeOnce", unfollowed := true, recurses := true, named := ["internal/strconv.uint64pow10", "math/bits.deBruijn32tab", "math/bits.deBruijn64tab", "strconv.ErrSyntax", "strconv.ErrRange"], plainKeys := false, apart := false, laid := [("math/bits.deBruijn32tab", laid_math_bits_deBruijn32tab), ("math/bits.deBruijn64tab", laid_math_bits_deBruijn64tab), ("internal/strconv.uint64pow10", laid_internal_strconv_uint64pow10), ("strconv.ErrRange", laid_strconv_ErrRange), ("strconv.ErrSyntax", laid_strconv_ErrSyntax)] }
def DequeOnceSaid : Prop := dequeOnceRow.holds Tryd.pinned (OpenSpec.ofChange dequeOnceSpec)

/-- ITS FALSE NEIGHBOUR: 'it returns false'. Refute it at one input. -/
def dequeOnceWrong : ChangeSpec := { name := "dequeOnce", fn := fun _ => fun
  | [d] => { results := [.lit (.bool false)], args := [d] }
  | _ => none }
def DequeOnceWrongFalsely : Prop := dequeOnceRow.holds Tryd.pinned (OpenSpec.ofChange dequeOnceWrong)

/-- 'recompilelaw32.DequeTwo': WHATEVER THE INPUT: true; the input reads as it did. -/
def dequeTwoSpec : ChangeSpec := { name := "dequeTwo", fn := fun _ => fun
  | [d1, d2] => { results := [.lit (.bool true)], args := [d1, d2] }
  | _ => none }
def dequeTwoRow : OpenClaim := { program := "ytappkgmbdoiocaadoor", sum := "a0ff856e0b7ea89436227aeac0779cc9f0af465cf330b1891ba0a2f8f591799c", func := "recompile/recompilelaw32.DequeTwo", spec := "dequeTwo", unfollowed := true, recurses := true, named := ["internal/strconv.uint64pow10", "math/bits.deBruijn32tab", "math/bits.deBruijn64tab", "strconv.ErrSyntax", "strconv.ErrRange"], plainKeys := false, apart := false, laid := [("math/bits.deBruijn32tab", laid_math_bits_deBruijn32tab), ("math/bits.deBruijn64tab", laid_math_bits_deBruijn64tab), ("internal/strconv.uint64pow10", laid_internal_strconv_uint64pow10), ("strconv.ErrRange", laid_strconv_ErrRange), ("strconv.ErrSyntax", laid_strconv_ErrSyntax)] }
def DequeTwoSaid : Prop := dequeTwoRow.holds Tryd.pinned (OpenSpec.ofChange dequeTwoSpec)

/-- ITS FALSE NEIGHBOUR: 'it returns false'. Refute it at one input. -/
def dequeTwoWrong : ChangeSpec := { name := "dequeTwo", fn := fun _ => fun
  | [d1, d2] => { results := [.lit (.bool false)], args := [d1, d2] }
  | _ => none }
def DequeTwoWrongFalsely : Prop := dequeTwoRow.holds Tryd.pinned (OpenSpec.ofChange dequeTwoWrong)

/-- 'recompilelaw32.DequeActs': WHATEVER THE INPUT: true; the input reads as it did. -/
def dequeActsSpec : ChangeSpec := { name := "dequeActs", fn := fun _ => fun
  | [d1, d2, d3, d4, d5] => { results := [.lit (.bool true)], args := [d1, d2, d3, d4, d5] }
  | _ => none }
def dequeActsRow : OpenClaim := { program := "ytappkgmbdoiocaadoor", sum := "a0ff856e0b7ea89436227aeac0779cc9f0af465cf330b1891ba0a2f8f591799c", func := "recompile/recompilelaw32.DequeActs", spec := "dequeActs", unfollowed := true, recurses := true, named := ["internal/strconv.uint64pow10", "math/bits.deBruijn32tab", "math/bits.deBruijn64tab", "strconv.ErrSyntax", "strconv.ErrRange"], plainKeys := false, apart := false, laid := [("math/bits.deBruijn32tab", laid_math_bits_deBruijn32tab), ("math/bits.deBruijn64tab", laid_math_bits_deBruijn64tab), ("internal/strconv.uint64pow10", laid_internal_strconv_uint64pow10), ("strconv.ErrRange", laid_strconv_ErrRange), ("strconv.ErrSyntax", laid_strconv_ErrSyntax)] }
def DequeActsSaid : Prop := dequeActsRow.holds Tryd.pinned (OpenSpec.ofChange dequeActsSpec)

/-- ITS FALSE NEIGHBOUR: 'it returns false'. Refute it at one input. -/
def dequeActsWrong : ChangeSpec := { name := "dequeActs", fn := fun _ => fun
  | [d1, d2, d3, d4, d5] => { results := [.lit (.bool false)], args := [d1, d2, d3, d4, d5] }
  | _ => none }
def DequeActsWrongFalsely : Prop := dequeActsRow.holds Tryd.pinned (OpenSpec.ofChange dequeActsWrong)

/-- 'recompilelaw32.DequeDeals': WHATEVER THE INPUT: true; the input reads as it did. -/
def dequeDealsSpec : ChangeSpec := { name := "dequeDeals", fn := fun _ => fun
  | [d1, d2] => { results := [.lit (.bool true)], args := [d1, d2] }
  | _ => none }
def dequeDealsRow : OpenClaim := { program := "ytappkgmbdoiocaadoor", sum := "a0ff856e0b7ea89436227aeac0779cc9f0af465cf330b1891ba0a2f8f591799c", func := "recompile/recompilelaw32.DequeDeals", spec := "dequeDeals", unfollowed := true, recurses := true, named := ["internal/strconv.uint64pow10", "math/bits.deBruijn32tab", "math/bits.deBruijn64tab", "strconv.ErrSyntax", "strconv.ErrRange"], plainKeys := false, apart := false, laid := [("math/bits.deBruijn32tab", laid_math_bits_deBruijn32tab), ("math/bits.deBruijn64tab", laid_math_bits_deBruijn64tab), ("internal/strconv.uint64pow10", laid_internal_strconv_uint64pow10), ("strconv.ErrRange", laid_strconv_ErrRange), ("strconv.ErrSyntax", laid_strconv_ErrSyntax)] }
def DequeDealsSaid : Prop := dequeDealsRow.holds Tryd.pinned (OpenSpec.ofChange dequeDealsSpec)

/-- ITS FALSE NEIGHBOUR: 'it returns false'. Refute it at one input. -/
def dequeDealsWrong : ChangeSpec := { name := "dequeDeals", fn := fun _ => fun
  | [d1, d2] => { results := [.lit (.bool false)], args := [d1, d2] }
  | _ => none }
def DequeDealsWrongFalsely : Prop := dequeDealsRow.holds Tryd.pinned (OpenSpec.ofChange dequeDealsWrong)

/-- 'recompilelaw24.ToyRules': WHATEVER THE INPUT: true; the input reads as it did. -/
def toyRulesSpec : ChangeSpec := { name := "toyRules", fn := fun _ => fun
  | [d1, d2, d3, d4, d5] => { results := [.lit (.bool true)], args := [d1, d2, d3, d4, d5] }
  | _ => none }
def toyRulesRow : OpenClaim := { program := "ytappkgmbdoiocaadoor", sum := "a0ff856e0b7ea89436227aeac0779cc9f0af465cf330b1891ba0a2f8f591799c", func := "recompile/recompilelaw24.ToyRules", spec := "toyRules", named := ["internal/strconv.uint64pow10", "math/bits.deBruijn32tab", "math/bits.deBruijn64tab", "strconv.ErrSyntax", "strconv.ErrRange"], plainKeys := false, apart := false, laid := [("math/bits.deBruijn32tab", laid_math_bits_deBruijn32tab), ("math/bits.deBruijn64tab", laid_math_bits_deBruijn64tab), ("internal/strconv.uint64pow10", laid_internal_strconv_uint64pow10), ("strconv.ErrRange", laid_strconv_ErrRange), ("strconv.ErrSyntax", laid_strconv_ErrSyntax)] }
def ToyRulesSaid : Prop := toyRulesRow.holds Tryd.pinned (OpenSpec.ofChange toyRulesSpec)

/-- ITS FALSE NEIGHBOUR: 'it returns false'. Refute it at one input. -/
def toyRulesWrong : ChangeSpec := { name := "toyRules", fn := fun _ => fun
  | [d1, d2, d3, d4, d5] => { results := [.lit (.bool false)], args := [d1, d2, d3, d4, d5] }
  | _ => none }
def ToyRulesWrongFalsely : Prop := toyRulesRow.holds Tryd.pinned (OpenSpec.ofChange toyRulesWrong)

/-- 'recompilelaw24.ToyTurns': WHATEVER THE INPUT: true; the input reads as it did. -/
def toyTurnsSpec : ChangeSpec := { name := "toyTurns", fn := fun _ => fun
  | [d1, d2, d3, d4] => { results := [.lit (.bool true)], args := [d1, d2, d3, d4] }
  | _ => none }
def toyTurnsRow : OpenClaim := { program := "ytappkgmbdoiocaadoor", sum := "a0ff856e0b7ea89436227aeac0779cc9f0af465cf330b1891ba0a2f8f591799c", func := "recompile/recompilelaw24.ToyTurns", spec := "toyTurns", named := ["internal/strconv.uint64pow10", "math/bits.deBruijn32tab", "math/bits.deBruijn64tab", "strconv.ErrSyntax", "strconv.ErrRange"], plainKeys := false, apart := false, laid := [("math/bits.deBruijn32tab", laid_math_bits_deBruijn32tab), ("math/bits.deBruijn64tab", laid_math_bits_deBruijn64tab), ("internal/strconv.uint64pow10", laid_internal_strconv_uint64pow10), ("strconv.ErrRange", laid_strconv_ErrRange), ("strconv.ErrSyntax", laid_strconv_ErrSyntax)] }
def ToyTurnsSaid : Prop := toyTurnsRow.holds Tryd.pinned (OpenSpec.ofChange toyTurnsSpec)

/-- ITS FALSE NEIGHBOUR: 'it returns false'. Refute it at one input. -/
def toyTurnsWrong : ChangeSpec := { name := "toyTurns", fn := fun _ => fun
  | [d1, d2, d3, d4] => { results := [.lit (.bool false)], args := [d1, d2, d3, d4] }
  | _ => none }
def ToyTurnsWrongFalsely : Prop := toyTurnsRow.holds Tryd.pinned (OpenSpec.ofChange toyTurnsWrong)

/-- 'recompilelaw24.ToyRings': WHATEVER THE INPUT: true; the input reads as it did. -/
def toyRingsSpec : ChangeSpec := { name := "toyRings", fn := fun _ => fun
  | [d1, d2, d3] => { results := [.lit (.bool true)], args := [d1, d2, d3] }
  | _ => none }
def toyRingsRow : OpenClaim := { program := "ytappkgmbdoiocaadoor", sum := "a0ff856e0b7ea89436227aeac0779cc9f0af465cf330b1891ba0a2f8f591799c", func := "recompile/recompilelaw24.ToyRings", spec := "toyRings", named := ["internal/strconv.uint64pow10", "math/bits.deBruijn32tab", "math/bits.deBruijn64tab", "strconv.ErrSyntax", "strconv.ErrRange"], plainKeys := false, apart := false, laid := [("math/bits.deBruijn32tab", laid_math_bits_deBruijn32tab), ("math/bits.deBruijn64tab", laid_math_bits_deBruijn64tab), ("internal/strconv.uint64pow10", laid_internal_strconv_uint64pow10), ("strconv.ErrRange", laid_strconv_ErrRange), ("strconv.ErrSyntax", laid_strconv_ErrSyntax)] }
def ToyRingsSaid : Prop := toyRingsRow.holds Tryd.pinned (OpenSpec.ofChange toyRingsSpec)

/-- ITS FALSE NEIGHBOUR: 'it returns false'. Refute it at one input. -/
def toyRingsWrong : ChangeSpec := { name := "toyRings", fn := fun _ => fun
  | [d1, d2, d3] => { results := [.lit (.bool false)], args := [d1, d2, d3] }
  | _ => none }
def ToyRingsWrongFalsely : Prop := toyRingsRow.holds Tryd.pinned (OpenSpec.ofChange toyRingsWrong)

/-- 'recompilelaw24.ToyAsks': WHATEVER THE INPUT: true; the input reads as it did. -/
def toyAsksSpec : ChangeSpec := { name := "toyAsks", fn := fun _ => fun
  | [d] => { results := [.lit (.bool true)], args := [d] }
  | _ => none }
def toyAsksRow : OpenClaim := { program := "ytappkgmbdoiocaadoor", sum := "a0ff856e0b7ea89436227aeac0779cc9f0af465cf330b1891ba0a2f8f591799c", func := "recompile/recompilelaw24.ToyAsks", spec := "toyAsks", named := ["internal/strconv.uint64pow10", "math/bits.deBruijn32tab", "math/bits.deBruijn64tab", "strconv.ErrSyntax", "strconv.ErrRange"], plainKeys := false, apart := false, laid := [("math/bits.deBruijn32tab", laid_math_bits_deBruijn32tab), ("math/bits.deBruijn64tab", laid_math_bits_deBruijn64tab), ("internal/strconv.uint64pow10", laid_internal_strconv_uint64pow10), ("strconv.ErrRange", laid_strconv_ErrRange), ("strconv.ErrSyntax", laid_strconv_ErrSyntax)] }
def ToyAsksSaid : Prop := toyAsksRow.holds Tryd.pinned (OpenSpec.ofChange toyAsksSpec)

/-- ITS FALSE NEIGHBOUR: 'it returns false'. Refute it at one input. -/
def toyAsksWrong : ChangeSpec := { name := "toyAsks", fn := fun _ => fun
  | [d] => { results := [.lit (.bool false)], args := [d] }
  | _ => none }
def ToyAsksWrongFalsely : Prop := toyAsksRow.holds Tryd.pinned (OpenSpec.ofChange toyAsksWrong)

/-- 'recompilelaw24.ToyPicks': WHATEVER THE INPUT: true; the input reads as it did. -/
def toyPicksSpec : ChangeSpec := { name := "toyPicks", fn := fun _ => fun
  | [d1, d2, d3, d4] => { results := [.lit (.bool true)], args := [d1, d2, d3, d4] }
  | _ => none }
def toyPicksRow : OpenClaim := { program := "ytappkgmbdoiocaadoor", sum := "a0ff856e0b7ea89436227aeac0779cc9f0af465cf330b1891ba0a2f8f591799c", func := "recompile/recompilelaw24.ToyPicks", spec := "toyPicks", named := ["internal/strconv.uint64pow10", "math/bits.deBruijn32tab", "math/bits.deBruijn64tab", "strconv.ErrSyntax", "strconv.ErrRange"], plainKeys := false, apart := false, laid := [("math/bits.deBruijn32tab", laid_math_bits_deBruijn32tab), ("math/bits.deBruijn64tab", laid_math_bits_deBruijn64tab), ("internal/strconv.uint64pow10", laid_internal_strconv_uint64pow10), ("strconv.ErrRange", laid_strconv_ErrRange), ("strconv.ErrSyntax", laid_strconv_ErrSyntax)] }
def ToyPicksSaid : Prop := toyPicksRow.holds Tryd.pinned (OpenSpec.ofChange toyPicksSpec)

/-- ITS FALSE NEIGHBOUR: 'it returns false'. Refute it at one input. -/
def toyPicksWrong : ChangeSpec := { name := "toyPicks", fn := fun _ => fun
  | [d1, d2, d3, d4] => { results := [.lit (.bool false)], args := [d1, d2, d3, d4] }
  | _ => none }
def ToyPicksWrongFalsely : Prop := toyPicksRow.holds Tryd.pinned (OpenSpec.ofChange toyPicksWrong)

/- THE SECOND FORM. 'bulk': how many values and letters a reading holds, each counted each time it is reached (what is shared counts as often as it is met; a slice's spare places count too). A statement '..UptoSaid' is the law's where the arguments, and the package variables that the reading takes, are together of bulk at most 1048576: NARROWER than '..Said'. Prove '..Said' where nothing that the law and all that it calls make is longer than what came in: it says more and counts as full. Else prove '..UptoSaid'. A law counts once. -/
mutual
def uptoBulk {H : Type} : DataW H → Nat
  | .lit (.string bytes) => bytes.length + 1
  | .lit _ => 1
  | .nil => 1
  | .ptr d => uptoBulk d + 1
  | .slice elems spare => uptoBulkAll elems + uptoBulkAll spare + 1
  | .agg parts => uptoBulkAll parts + 1
  | .iface _ d => uptoBulk d + 1
  | .map entries => uptoBulkEntries entries + 1
  | .held _ => 1
def uptoBulkAll {H : Type} : List (DataW H) → Nat
  | [] => 0
  | d :: r => uptoBulk d + uptoBulkAll r
def uptoBulkEntries {H : Type} : List (Lit × DataW H) → Nat
  | [] => 0
  | x :: r => uptoBulkEntry x + uptoBulkEntries r
def uptoBulkEntry {H : Type} : Lit × DataW H → Nat
  | (.string bytes, d) => bytes.length + uptoBulk d + 1
  | (_, d) => uptoBulk d + 1
 end
def uptoSmall : (H : Type) → List (DataW H) → Bool := fun _ ds => decide (uptoBulkAll ds ≤ 1048576)
def OpenSpec.upto (s : _root_.Go.ChangeSpec) : _root_.Go.OpenSpec := { _root_.Go.OpenSpec.ofChange s with cond := some uptoSmall }

/-- 'recompilelaw32.DequeOnce', WHERE WHAT IT READS IS OF BULK AT MOST 1048576: true; the input reads as it did. -/
def dequeOnceUptoRow : OpenClaim := { program := "ytappkgmbdoiocaadoor", sum := "a0ff856e0b7ea89436227aeac0779cc9f0af465cf330b1891ba0a2f8f591799c", func := "recompile/recompilelaw32.DequeOnce", spec := "dequeOnce", unfollowed := true, recurses := true, named := ["internal/strconv.uint64pow10", "math/bits.deBruijn32tab", "math/bits.deBruijn64tab", "strconv.ErrSyntax", "strconv.ErrRange"], plainKeys := false, apart := false, laid := [("math/bits.deBruijn32tab", laid_math_bits_deBruijn32tab), ("math/bits.deBruijn64tab", laid_math_bits_deBruijn64tab), ("internal/strconv.uint64pow10", laid_internal_strconv_uint64pow10), ("strconv.ErrRange", laid_strconv_ErrRange), ("strconv.ErrSyntax", laid_strconv_ErrSyntax)], narrowed := true }
def DequeOnceUptoSaid : Prop := dequeOnceUptoRow.holds Tryd.pinned (OpenSpec.upto dequeOnceSpec)

/-- 'recompilelaw32.DequeTwo', WHERE WHAT IT READS IS OF BULK AT MOST 1048576: true; the input reads as it did. -/
def dequeTwoUptoRow : OpenClaim := { program := "ytappkgmbdoiocaadoor", sum := "a0ff856e0b7ea89436227aeac0779cc9f0af465cf330b1891ba0a2f8f591799c", func := "recompile/recompilelaw32.DequeTwo", spec := "dequeTwo", unfollowed := true, recurses := true, named := ["internal/strconv.uint64pow10", "math/bits.deBruijn32tab", "math/bits.deBruijn64tab", "strconv.ErrSyntax", "strconv.ErrRange"], plainKeys := false, apart := false, laid := [("math/bits.deBruijn32tab", laid_math_bits_deBruijn32tab), ("math/bits.deBruijn64tab", laid_math_bits_deBruijn64tab), ("internal/strconv.uint64pow10", laid_internal_strconv_uint64pow10), ("strconv.ErrRange", laid_strconv_ErrRange), ("strconv.ErrSyntax", laid_strconv_ErrSyntax)], narrowed := true }
def DequeTwoUptoSaid : Prop := dequeTwoUptoRow.holds Tryd.pinned (OpenSpec.upto dequeTwoSpec)

/-- 'recompilelaw32.DequeActs', WHERE WHAT IT READS IS OF BULK AT MOST 1048576: true; the input reads as it did. -/
def dequeActsUptoRow : OpenClaim := { program := "ytappkgmbdoiocaadoor", sum := "a0ff856e0b7ea89436227aeac0779cc9f0af465cf330b1891ba0a2f8f591799c", func := "recompile/recompilelaw32.DequeActs", spec := "dequeActs", unfollowed := true, recurses := true, named := ["internal/strconv.uint64pow10", "math/bits.deBruijn32tab", "math/bits.deBruijn64tab", "strconv.ErrSyntax", "strconv.ErrRange"], plainKeys := false, apart := false, laid := [("math/bits.deBruijn32tab", laid_math_bits_deBruijn32tab), ("math/bits.deBruijn64tab", laid_math_bits_deBruijn64tab), ("internal/strconv.uint64pow10", laid_internal_strconv_uint64pow10), ("strconv.ErrRange", laid_strconv_ErrRange), ("strconv.ErrSyntax", laid_strconv_ErrSyntax)], narrowed := true }
def DequeActsUptoSaid : Prop := dequeActsUptoRow.holds Tryd.pinned (OpenSpec.upto dequeActsSpec)

/-- 'recompilelaw32.DequeDeals', WHERE WHAT IT READS IS OF BULK AT MOST 1048576: true; the input reads as it did. -/
def dequeDealsUptoRow : OpenClaim := { program := "ytappkgmbdoiocaadoor", sum := "a0ff856e0b7ea89436227aeac0779cc9f0af465cf330b1891ba0a2f8f591799c", func := "recompile/recompilelaw32.DequeDeals", spec := "dequeDeals", unfollowed := true, recurses := true, named := ["internal/strconv.uint64pow10", "math/bits.deBruijn32tab", "math/bits.deBruijn64tab", "strconv.ErrSyntax", "strconv.ErrRange"], plainKeys := false, apart := false, laid := [("math/bits.deBruijn32tab", laid_math_bits_deBruijn32tab), ("math/bits.deBruijn64tab", laid_math_bits_deBruijn64tab), ("internal/strconv.uint64pow10", laid_internal_strconv_uint64pow10), ("strconv.ErrRange", laid_strconv_ErrRange), ("strconv.ErrSyntax", laid_strconv_ErrSyntax)], narrowed := true }
def DequeDealsUptoSaid : Prop := dequeDealsUptoRow.holds Tryd.pinned (OpenSpec.upto dequeDealsSpec)

/-- 'recompilelaw24.ToyRules', WHERE WHAT IT READS IS OF BULK AT MOST 1048576: true; the input reads as it did. -/
def toyRulesUptoRow : OpenClaim := { program := "ytappkgmbdoiocaadoor", sum := "a0ff856e0b7ea89436227aeac0779cc9f0af465cf330b1891ba0a2f8f591799c", func := "recompile/recompilelaw24.ToyRules", spec := "toyRules", named := ["internal/strconv.uint64pow10", "math/bits.deBruijn32tab", "math/bits.deBruijn64tab", "strconv.ErrSyntax", "strconv.ErrRange"], plainKeys := false, apart := false, laid := [("math/bits.deBruijn32tab", laid_math_bits_deBruijn32tab), ("math/bits.deBruijn64tab", laid_math_bits_deBruijn64tab), ("internal/strconv.uint64pow10", laid_internal_strconv_uint64pow10), ("strconv.ErrRange", laid_strconv_ErrRange), ("strconv.ErrSyntax", laid_strconv_ErrSyntax)], narrowed := true }
def ToyRulesUptoSaid : Prop := toyRulesUptoRow.holds Tryd.pinned (OpenSpec.upto toyRulesSpec)

/-- 'recompilelaw24.ToyTurns', WHERE WHAT IT READS IS OF BULK AT MOST 1048576: true; the input reads as it did. -/
def toyTurnsUptoRow : OpenClaim := { program := "ytappkgmbdoiocaadoor", sum := "a0ff856e0b7ea89436227aeac0779cc9f0af465cf330b1891ba0a2f8f591799c", func := "recompile/recompilelaw24.ToyTurns", spec := "toyTurns", named := ["internal/strconv.uint64pow10", "math/bits.deBruijn32tab", "math/bits.deBruijn64tab", "strconv.ErrSyntax", "strconv.ErrRange"], plainKeys := false, apart := false, laid := [("math/bits.deBruijn32tab", laid_math_bits_deBruijn32tab), ("math/bits.deBruijn64tab", laid_math_bits_deBruijn64tab), ("internal/strconv.uint64pow10", laid_internal_strconv_uint64pow10), ("strconv.ErrRange", laid_strconv_ErrRange), ("strconv.ErrSyntax", laid_strconv_ErrSyntax)], narrowed := true }
def ToyTurnsUptoSaid : Prop := toyTurnsUptoRow.holds Tryd.pinned (OpenSpec.upto toyTurnsSpec)

/-- 'recompilelaw24.ToyRings', WHERE WHAT IT READS IS OF BULK AT MOST 1048576: true; the input reads as it did. -/
def toyRingsUptoRow : OpenClaim := { program := "ytappkgmbdoiocaadoor", sum := "a0ff856e0b7ea89436227aeac0779cc9f0af465cf330b1891ba0a2f8f591799c", func := "recompile/recompilelaw24.ToyRings", spec := "toyRings", named := ["internal/strconv.uint64pow10", "math/bits.deBruijn32tab", "math/bits.deBruijn64tab", "strconv.ErrSyntax", "strconv.ErrRange"], plainKeys := false, apart := false, laid := [("math/bits.deBruijn32tab", laid_math_bits_deBruijn32tab), ("math/bits.deBruijn64tab", laid_math_bits_deBruijn64tab), ("internal/strconv.uint64pow10", laid_internal_strconv_uint64pow10), ("strconv.ErrRange", laid_strconv_ErrRange), ("strconv.ErrSyntax", laid_strconv_ErrSyntax)], narrowed := true }
def ToyRingsUptoSaid : Prop := toyRingsUptoRow.holds Tryd.pinned (OpenSpec.upto toyRingsSpec)

/-- 'recompilelaw24.ToyAsks', WHERE WHAT IT READS IS OF BULK AT MOST 1048576: true; the input reads as it did. -/
def toyAsksUptoRow : OpenClaim := { program := "ytappkgmbdoiocaadoor", sum := "a0ff856e0b7ea89436227aeac0779cc9f0af465cf330b1891ba0a2f8f591799c", func := "recompile/recompilelaw24.ToyAsks", spec := "toyAsks", named := ["internal/strconv.uint64pow10", "math/bits.deBruijn32tab", "math/bits.deBruijn64tab", "strconv.ErrSyntax", "strconv.ErrRange"], plainKeys := false, apart := false, laid := [("math/bits.deBruijn32tab", laid_math_bits_deBruijn32tab), ("math/bits.deBruijn64tab", laid_math_bits_deBruijn64tab), ("internal/strconv.uint64pow10", laid_internal_strconv_uint64pow10), ("strconv.ErrRange", laid_strconv_ErrRange), ("strconv.ErrSyntax", laid_strconv_ErrSyntax)], narrowed := true }
def ToyAsksUptoSaid : Prop := toyAsksUptoRow.holds Tryd.pinned (OpenSpec.upto toyAsksSpec)

/-- 'recompilelaw24.ToyPicks', WHERE WHAT IT READS IS OF BULK AT MOST 1048576: true; the input reads as it did. -/
def toyPicksUptoRow : OpenClaim := { program := "ytappkgmbdoiocaadoor", sum := "a0ff856e0b7ea89436227aeac0779cc9f0af465cf330b1891ba0a2f8f591799c", func := "recompile/recompilelaw24.ToyPicks", spec := "toyPicks", named := ["internal/strconv.uint64pow10", "math/bits.deBruijn32tab", "math/bits.deBruijn64tab", "strconv.ErrSyntax", "strconv.ErrRange"], plainKeys := false, apart := false, laid := [("math/bits.deBruijn32tab", laid_math_bits_deBruijn32tab), ("math/bits.deBruijn64tab", laid_math_bits_deBruijn64tab), ("internal/strconv.uint64pow10", laid_internal_strconv_uint64pow10), ("strconv.ErrRange", laid_strconv_ErrRange), ("strconv.ErrSyntax", laid_strconv_ErrSyntax)], narrowed := true }
def ToyPicksUptoSaid : Prop := toyPicksUptoRow.holds Tryd.pinned (OpenSpec.upto toyPicksSpec)

end Rows
end Go.Proofs.YtappkgmbdoiocaaDoor
